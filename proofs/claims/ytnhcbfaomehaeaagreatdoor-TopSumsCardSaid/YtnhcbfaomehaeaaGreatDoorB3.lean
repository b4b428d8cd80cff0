/- Calls and rounds. -/
import Derived.Test.YtnhcbfaomehaeaaGreatDoorB2
namespace Go.Proofs.YtnhcbfaomehaeaaGreatDoor.R1
open Go
set_option linter.unusedVariables false
set_option linter.unusedSimpArgs false

section
variable {P : Program} {tb : Tab} {call yld : CallH} {rnd : Option Nat} {fn : FuncId}

theorem leaveX_ok {fnr : Func} {tmps : Array Value} {R : Ending → World → Prop} : ∀ {df : List Nat} {s s' : St}, leaveX s df = some s' → Tr s s' ∧ ∀ V ρ w ds, Wf s → vis V s s' → Rel tb.globals ρ (res V s.h.get) w → DfR ρ df ds →
    (∀ w', Out tb.globals V ρ s w ρ s' w' → LeavesInM Fence.wide 0 P fnr tmps R [] .returning w') → LeavesInM Fence.wide 0 P fnr tmps R ds .returning w
  | [], s, s', h => by
    cases h
    refine ⟨Tr.refl _, fun V ρ w ds hw hv hr hd hK => ?_⟩
    cases hd
    exact hK w (Out.idle rfl rfl hr)
  | r :: df, s, s', h => by
    simp only [leaveX] at h
    split at h
    · rename_i s1 hlk
      have hlk := look_ok hlk
      split at h
      · rename_i s2 htn
        have htn := turn_ok htn
        obtain ⟨tr, hrun⟩ := leaveX_ok h
        have tr0 := hlk.tr.trans htn.tr
        refine ⟨tr0.trans tr, fun V ρ w ds hw hv hr hd hK => ?_⟩
        cases hd with
        | @cons _ k0 _ _ e1 hd =>
          have hV := ((hv.fst tr).fst htn.tr).rd hw (by rw [hlk.get]; rfl) hlk.touch
          obtain ⟨k, o', f1, f2, f3⟩ := hlk.rel hV hr
          rw [e1] at f1; cases f1
          cases f3 with
          | dfr =>
            have hr1 : Rel tb.globals ρ (res V s1.h.get) w := by rw [hlk.h]; exact hr
            have hlt := (Array.getElem?_eq_some_iff.1 f2).1
            have hO : Out tb.globals V ρ s w ρ s2 _ := Out.after hlk.h hlk.nx (Out.turn htn hV e1 hr1 (World.putObj_heap_same (o := .deferred none) hlt) (fun j hj => World.putObj_heap_other hj) World.putObj_size ⟨rfl, rfl, rfl⟩ (fun y hy => by cases hy; exact .dfrx))
            refine ⟨by simp, .inl ⟨k0, _, rfl, run_takeDeferred f2, ?_⟩⟩
            have hsn : s2.nx = s.nx := by rw [htn.nx, hlk.nx]
            have hf0 : fresh ρ s s2 := fun b h1 h2 => by omega
            have hrel2 : Rel tb.globals ρ (res V s2.h.get) (w.putObj k0 (.deferred none)) := by
              have := hO.rel
              rwa [res_same (h := s2.h.get) rfl (Vn_same (V := V) hsn)] at this
            refine hrun V ρ _ _ (tr0.wf hw) (fun b hb ht => hv b (by rw [← hsn]; exact hb) ht) hrel2 hd fun w' hO' => hK w' ?_
            refine ⟨fun b _ => rfl, ?_, fun k hk hn => ?_, fun b kk h1 h2 h3 h4 => ?_, Nat.le_trans hO.size hO'.size, ⟨hO'.same.1.trans hO.same.1, hO'.same.2.1.trans hO.same.2.1, hO'.same.2.2.trans hO.same.2.2⟩, fun b kk h1 h2 h3 h4 => ?_⟩
            · have := hO'.rel
              rwa [res_same (h := s'.h.get) rfl (fun b => by unfold Vn; rw [hsn] : ∀ b, Vn V s s' b = Vn V s2 s' b)]
            · rw [← hO.frame k hk hn]
              refine hO'.frame k (Nat.lt_of_lt_of_le hk hO.size) fun b hb hs he => hn b hb ?_ he
              cases hg : s.h.get b with
              | some _ => rfl
              | none =>
                have hbn : b < s.nx := by
                  rcases Nat.lt_or_ge b s.nx with h | h
                  · exact h
                  · rw [(tr0.wf hw) b (by rw [hsn]; exact h)] at hs; cases hs
                rw [tr0.dom b hbn hg] at hs; cases hs
            · have hnn : ρ b = some kk := h4
              rcases hO'.img b kk (by rw [hsn]; exact h1) h2 h3 h4 with h | ⟨c, q1, q2, q3, q4, q5⟩
              · exact .inl (Nat.le_trans hO.size h)
              · refine .inr ⟨c, q1, by rw [← hsn]; exact q2, ?_, q4, q5⟩
                cases hg : s.h.get c with
                | some _ => rfl
                | none => rw [tr0.dom c (by rw [← hsn]; exact q2) hg] at q3; cases q3
            · have hb : b < s.nx := by
                rcases Nat.lt_or_ge b s.nx with h' | h'
                · exact h'
                · rw [hw b h'] at h2; cases h2
              have hw2 : s2.wr.testBit b = false := by
                cases h' : s2.wr.testBit b with
                | false => rfl
                | true => rw [tr.wr b h'] at h3; cases h3
              rw [← hO.keepw b kk h1 h2 hw2 h4]
              exact hO'.keepw b kk h1 (by rw [tr0.keep b hb hw2]; exact h2) h3 h4
      · cases h
    · cases h

structure ResOk (P : Program) (tb : Tab) (rs : List ResultVar) (tm : List Value) (s : St) (vs : List Value) (s' : St) : Prop where
  tr : Tr s s'
  h : s'.h = s.h
  nx : s'.nx = s.nx
  run : ∀ V ρ w (a : Act), Wf s → vis V s s' → Rel tb.globals ρ (res V s.h.get) w → TmR ρ tm a → ∃ vs', (rs.mapM (fun (x : ResultVar) => match x with
    | .tmp t => (pure (a.tmps.getD t undef) : Sem Value)
    | .cell b t => do loadVar t (← asAddr (a.tmps.getD b undef)))).run P w = .ok vs' w ∧ LR ρ vs vs'

theorem getD_of {ρ : Ren} {tm : List Value} {a : Act} (ht : TmR ρ tm a) {t : Nat} {v : Value} (h : nth tm t = some v) : VR ρ v (a.tmps.getD t undef) := by
  rw [nth_eq] at h
  obtain ⟨v', h1, h2⟩ := LR.get ht h
  have h3 : a.tmps[t]? = some v' := by simpa using h1
  simp only [Array.getD_eq_getD_getElem?, h3, Option.getD_some]
  exact h2

theorem resX_ok (hT : TabOk P tb) : ∀ {rs : List ResultVar} {tm vs : List Value} {s s' : St}, resX tb tm s rs = some (vs, s') → ResOk P tb rs tm s vs s'
  | [], tm, vs, s, s', h => by
    cases h
    exact ⟨Tr.refl _, rfl, rfl, fun V ρ w a hw hv hr ht => ⟨[], by simp, .nil⟩⟩
  | .tmp t :: rs, tm, vs, s, s', h => by
    simp only [resX] at h
    split at h
    · rename_i v hv0
      split at h
      · rename_i vs1 s1 h1
        cases h
        have ih := resX_ok hT h1
        refine ⟨ih.tr, ih.h, ih.nx, fun V ρ w a hw hv hr ht => ?_⟩
        obtain ⟨vs', g1, g2⟩ := ih.run V ρ w a hw hv hr ht
        exact ⟨a.tmps.getD t undef :: vs', by rw [List.mapM_cons]; simp only [Sem.run_bind, Sem.run_pure, Result.andThen_ok]; rw [g1]; rfl, .cons (getD_of ht hv0) g2⟩
      · cases h
    · cases h
  | .cell t ty :: rs, tm, vs, s, s', h => by
    simp only [resX] at h
    split at h
    · rename_i ti a0 hti hp
      split at h
      · rename_i us s1 hl
        have hl := loadX_ok hl
        split at h
        · rename_i v hv0
          split at h
          · rename_i vs1 s2 h1
            cases h
            have ih := resX_ok hT h1
            refine ⟨hl.tr.trans ih.tr, ih.h.trans hl.h, ih.nx.trans hl.nx, fun V ρ w a hw hv hr ht => ?_⟩
            obtain ⟨b', e1, e2, e3⟩ := (getD_of ht hp).ptr_inv
            have hV := (hv.fst ih.tr).rd hw hl.is hl.touch
            obtain ⟨k, us', f1, f2, f3⟩ := hl.run tb.globals V ρ w hV hr
            rw [e1] at f1; cases f1
            obtain ⟨v', g1, g2⟩ := loadVar_ok (hT.ty _ _ hti) hv0 hl.len f2 f3
            have hr1 : Rel tb.globals ρ (res V s1.h.get) w := by rw [hl.h]; exact hr
            obtain ⟨vs', q1, q2⟩ := ih.run V ρ w a (hl.tr.wf hw) (fun b hb ht' => hv b (by rw [← hl.nx]; exact hb) ht') hr1 ht
            refine ⟨v' :: vs', ?_, .cons g2 q2⟩
            have hA : ∀ a, asAddr (.pointer (some a)) = pure a := fun _ => rfl
            rw [List.mapM_cons]
            simp only [Sem.run_bind, e3, hA, Sem.run_pure, Result.andThen_ok, g1]
            rw [q1]
            rfl
          · cases h
        · cases h
      · cases h
    · cases h

theorem outX_ok {ρ : Ren} {vs vs' : List Value} (h : LR ρ vs vs') : VR ρ (outX vs) (if h : (⟨vs'⟩ : Array Value).size = 1 then (⟨vs'⟩ : Array Value)[0] else .tuple ⟨vs'⟩) := by
  cases h with
  | nil => exact .tuple .nil
  | cons a b =>
    cases b with
    | nil => exact a
    | cons c d =>
      rw [dif_neg (by simp)]
      exact .tuple (.cons a (.cons c d))

theorem callB_ok (hT : TabOk P tb) (hC : CallOk P tb.globals call) (hY : YldOk P tb.globals yld) (hD : DrawOk P tb call yld) (hL : ∀ f x, tb.fn.get f = some (.lem x) → ∀ args s v s', lemX x args s = some (v, s') → Tr s s' ∧ ∀ V ρ w args', Wf s → tb.globals ≤ s.nx → vis V s s' → fresh ρ s s' → Rel tb.globals ρ (res V s.h.get) w → LR ρ args args' →
    CallsIn Fence.wide 0 P f ⟨args'⟩ w (RetPost tb.globals V ρ s w s' v)) (fu : Nat) : CallOk P tb.globals (callB tb call yld fu) := by
  intro f args s v s' h
  unfold callB at h
  split at h
  · rename_i n rs c hfn
    obtain ⟨⟨g, hf, hb, hn, hrs⟩, _⟩ := hT.fn _ _ hfn
    split at h
    · cases h
    · rename_i ex e1 s1 hne hcode
      split at h
      · rename_i s2 hlv
        split at h
        · rename_i vs s3 hres
          cases h
          obtain ⟨tr1, hrun⟩ := (codeX_ok (fn := f) (rnd := none) hT hC hY hD fu).1 _ _ _ _ _ _ hcode
          have hres := resX_ok hT hres
          have tr2 : Tr s1 s2 := (leaveX_ok (P := P) (tb := tb) (fnr := g) (tmps := #[]) (R := fun _ _ => True) hlv).1
          refine ⟨(tr1.trans tr2).trans hres.tr, fun V ρ w args' hw hG hv hf' hr hl => ?_⟩
          refine callsIn_of_wp_marks hf hb trivial ?_
          have hv12 := hv.fst hres.tr
          have hf12 := hf'.fst hres.tr
          have hpad : TmR ρ (padX args n) { tmps := ⟨args'⟩ ++ Array.replicate (g.ntmps - (⟨args'⟩ : Array Value).size) undef, defers := [] } := by
            unfold TmR padX
            have : (⟨args'⟩ : Array Value).size = args.length := by have := hl.length; simpa using this
            rw [this, hn]
            simp only [Array.toList_append, Array.toList_replicate]
            exact hl.append (LR.replicate (.tuple .nil) _)
          refine hrun V ρ w _ none _ trivial hw hG (hv12.fst tr2) (hf12.fst tr2) hr ⟨hpad, .nil⟩ fun x a1 w1 ρ1 hx he1 hO1 => ?_
          have main : LeavesInM Fence.wide 0 P g a1.tmps (RetPost tb.globals V ρ s w s' (outX vs)) a1.defers .returning w1 := by
            obtain ⟨_, hleave⟩ := leaveX_ok (P := P) (tb := tb) (fnr := g) (tmps := a1.tmps) (R := RetPost tb.globals V ρ s w s' (outX vs)) hlv
            have hv2 : vis (Vn V s s1) s1 s2 := hv12.snd
            refine hleave (Vn V s s1) ρ1 w1 a1.defers (tr1.wf hw) hv2 hO1.rel he1.2 fun w2 hO2 => ?_
            have hO := Out.trans tr1 tr2 hw hf12 hO1 hO2
            have tr12 := tr1.trans tr2
            obtain ⟨vs', g1, g2⟩ := hres.run (Vn V s s2) ρ1 w2 a1 (tr12.wf hw) hv.snd hO.rel he1.1
            refine ⟨_, ?_, ρ1, outX_ok g2, ?_⟩
            · unfold results
              rw [hrs]
              simp only [Sem.run_bind, List.mapM_toArray, map_eq_pure_bind, Sem.run_pure]
              erw [g1]
              rfl
            · have hO3 : Out tb.globals (Vn V s s2) ρ1 s2 w2 ρ1 s' w2 := Out.idle hres.h hres.nx hO.rel
              exact Out.trans tr12 hres.tr hw hf' hO hO3
          cases hx with
          | normal => exact main
          | exit id => exact (hne _ rfl).elim
          | ret => exact main
        · cases h
      · cases h
    · cases h
  · rename_i x hfn
    exact hL f x hfn args s v s' h
  · cases h

theorem setNth_ok {ρ : Ren} {tm tm' tm1 : List Value} {t : Nat} {v v' : Value} (h : setNth tm t v = some tm1) (hv : VR ρ v v') (ht : LR ρ tm tm') : LR ρ tm1 (tm'.set t v') := by
  obtain ⟨h1, rfl⟩ := setNth_eq _ _ _ _ h
  exact ht.set t hv

theorem setAll_ok {ρ : Ren} : ∀ {ps : List Tmp} {args args' tm tm1 tm' : List Value}, setAll ps args tm = some tm1 → LR ρ args args' → LR ρ tm tm' →
    ps.length = args'.length ∧ LR ρ tm1 ((ps.zip args').foldl (fun (t : Array Value) (x : Tmp × Value) => t.setIfInBounds x.1 x.2) (⟨tm'⟩ : Array Value)).toList
  | [], [], _, _, _, _, h, .nil, ht => by
    cases h
    exact ⟨rfl, ht⟩
  | t :: ts, v :: vs, _, tm, tm1, tm', h, .cons a b, ht => by
    simp only [setAll] at h
    obtain ⟨tm2, h1, h2⟩ := obind_eq h
    obtain ⟨q1, q2⟩ := setAll_ok h2 b (setNth_ok h1 a ht)
    refine ⟨by simp [q1], ?_⟩
    simpa using q2
  | [], _ :: _, _, _, _, _, h, _, _ => by cases h
  | _ :: _, [], _, _, _, _, h, _, _ => by cases h

theorem yldB_ok (hT : TabOk P tb) (hC : CallOk P tb.globals call) (hY : YldOk P tb.globals yld) (hD : DrawOk P tb call yld) (fu : Nat) : YldOk P tb.globals (yldB tb call yld fu) := by
  intro l args s v s' h
  unfold yldB at h
  split at h
  · rename_i st pend fn tm ps as bd d s1 hlk
    have hlk := look_ok hlk
    split at h
    · rename_i tm1 hset
      split at h
      · rename_i e s2 hc1
        split at h
        · rename_i pend2 fn2 tm2 ps2 as2 bd2 d2 s3 hlk2
          have hlk2 := look_ok hlk2
          split at h
          · rename_i s4 htn
            have htn := turn_ok htn
            split at h
            · rename_i x e5 s5 hc2
              split at h
              · rename_i st6 pend6 fn6 tm6 ps6 as6 bd6 d6 s6 hlk3
                have hlk3 := look_ok hlk3
                dsimp only at h
                split at h
                · rename_i s7 htn2
                  have htn2 := turn_ok htn2
                  cases h
                  obtain ⟨trA, hA⟩ := (codeX_ok (fn := fn) (rnd := some l) hT hC hY hD fu).1 _ _ _ _ _ _ hc1
                  obtain ⟨trB, hB⟩ := (codeX_ok (fn := fn) (rnd := some l) hT hC hY hD fu).1 _ _ _ _ _ _ hc2
                  have tr12 := hlk.tr.trans trA
                  have tr24 := hlk2.tr.trans htn.tr
                  have tr14 := tr12.trans tr24
                  have tr15 := tr14.trans trB
                  have tr57 := hlk3.tr.trans htn2.tr
                  refine ⟨tr15.trans tr57, fun V ρ w l' args' hw hG hv hf hr hl ha => ?_⟩
                  have hv15 := hv.fst tr57
                  have hv14 := hv15.fst trB
                  have hv12 := hv14.fst tr24
                  have hf15 := hf.fst tr57
                  have hf14 := hf15.fst trB
                  have hf12 := hf14.fst tr24
                  have hV0 := (hv12.fst trA).rd hw (by rw [hlk.get]; rfl) hlk.touch
                  obtain ⟨k, o', f1, f2, f3⟩ := hlk.rel hV0 hr
                  rw [hl] at f1
                  obtain rfl := Option.some.inj f1
                  cases f3 with
                  | @loop _ _ _ fn' _ tmw _ _ _ _ dw ht hd =>
                    obtain ⟨q1, q2⟩ := setAll_ok hset ha ht
                    refine ⟨_, _, _, _, run_yield f2 (by simpa using q1.symm), ?_⟩
                    refine roundIn_of_wpIn trivial ?_
                    have O1 : Out tb.globals V ρ s w ρ s1 w := Out.idle hlk.h hlk.nx hr
                    refine hA (Vn V s s1) ρ w _ (some l') _ hl (hlk.tr.wf hw) (Nat.le_trans hG hlk.tr.nx) hv12.snd (hf12.snd hlk.tr O1) O1.rel ⟨?_, .nil⟩ ?_
                    · unfold TmR
                      simpa using q2
                    · intro x1 a1 w2 ρ1 hx1 he1 OA
                      cases hx1
                      have O2 := Out.trans hlk.tr trA hw hf12 O1 OA
                      have sub2 := O2.sub hf12
                      have hl1 := sub2 _ _ hl
                      have hV2 := (hv14.snd.fst htn.tr).rd (tr12.wf hw) (by rw [hlk2.get]; rfl) hlk2.touch
                      obtain ⟨k2, o2, g1, g2, g3⟩ := hlk2.rel hV2 O2.rel
                      rw [hl1] at g1
                      obtain rfl := Option.some.inj g1
                      cases g3 with
                      | @loop _ _ _ fnw2 _ tmw2 _ _ _ _ dw2 ht2 hd2 =>
                        refine ⟨_, run_beginRound g2 rfl, ?_⟩
                        have hlt := (Array.getElem?_eq_some_iff.1 g2).1
                        have hr3 : Rel tb.globals ρ1 (res (Vn V s s2) s3.h.get) w2 := by rw [hlk2.h]; exact O2.rel
                        have O3 : Out tb.globals (Vn V s s2) ρ1 s2 w2 ρ1 s4 _ := Out.after hlk2.h hlk2.nx (Out.turn htn hV2 hl1 hr3 (World.putObj_heap_same hlt) (fun j hj => World.putObj_heap_other hj) World.putObj_size ⟨rfl, rfl, rfl⟩ (fun y hy => by cases hy; exact OR.loop (fn' := fnw2) ht2 hd2))
                        have O4 := Out.trans tr12 tr24 hw hf14 O2 O3
                        have sub4 := O4.sub hf14
                        refine hB (Vn V s s4) ρ1 _ _ (some l') _ (sub4 _ _ hl) (tr14.wf hw) (Nat.le_trans hG tr14.nx) hv15.snd (hf15.snd tr14 O4) O4.rel he1 ?_
                        intro x5 a5 w5 ρ5 hx5 he5 OB
                        have O5 := Out.trans tr14 trB hw hf15 O4 OB
                        have hl5 := (O5.sub hf15) _ _ hl
                        have hV5 := (hv.snd.fst htn2.tr).rd (tr15.wf hw) (by rw [hlk3.get]; rfl) hlk3.touch
                        obtain ⟨k5, o5, m1, m2, m3⟩ := hlk3.rel hV5 O5.rel
                        rw [hl5] at m1
                        obtain rfl := Option.some.inj m1
                        cases m3 with
                        | @loop _ _ _ fnw5 _ tmw5 _ _ _ _ dw5 ht5 hd5 =>
                          have hlt5 := (Array.getElem?_eq_some_iff.1 m2).1
                          have hr6 : Rel tb.globals ρ5 (res (Vn V s s5) s6.h.get) w5 := by rw [hlk3.h]; exact O5.rel
                          cases hx5 with
                          | normal =>
                            refine ⟨_, _, run_endRound none m2, ρ5, .bool _, Out.trans tr15 tr57 hw hf O5 (Out.after hlk3.h hlk3.nx (Out.turn htn2 hV5 hl5 hr6 (World.putObj_heap_same hlt5) (fun j hj => World.putObj_heap_other hj) World.putObj_size ⟨rfl, rfl, rfl⟩ (fun y hy => by cases hy; exact .loop ht5 hd5)))⟩
                          | ret =>
                            refine ⟨_, _, run_endRound _ m2, ρ5, .bool _, Out.trans tr15 tr57 hw hf O5 (Out.after hlk3.h hlk3.nx (Out.turn htn2 hV5 hl5 hr6 (World.putObj_heap_same hlt5) (fun j hj => World.putObj_heap_other hj) World.putObj_size ⟨rfl, rfl, rfl⟩ (fun y hy => by cases hy; exact .loop ht5 hd5)))⟩
                          | exit id =>
                            refine ⟨_, _, run_endRound _ m2, ρ5, .bool _, Out.trans tr15 tr57 hw hf O5 (Out.after hlk3.h hlk3.nx (Out.turn htn2 hV5 hl5 hr6 (World.putObj_heap_same hlt5) (fun j hj => World.putObj_heap_other hj) World.putObj_size ⟨rfl, rfl, rfl⟩ (fun y hy => by cases hy; exact .loop ht5 hd5)))⟩
                · cases h
              · cases h
            · cases h
          · cases h
        · cases h
      · cases h
    · cases h
  · cases h

end
end Go.Proofs.YtnhcbfaomehaeaaGreatDoor.R1

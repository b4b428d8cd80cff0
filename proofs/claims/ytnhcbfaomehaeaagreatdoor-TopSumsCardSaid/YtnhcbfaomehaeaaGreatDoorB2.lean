/- Code. -/
import Derived.Test.YtnhcbfaomehaeaaGreatDoorB1
import Derived.RangeFuncNested
namespace Go.Proofs.YtnhcbfaomehaeaaGreatDoor.R1
open Go
set_option linter.unusedVariables false
set_option linter.unusedSimpArgs false

inductive DfR (ρ : Ren) : List Nat → List Deferred → Prop
  | nil : DfR ρ [] []
  | cons {r r' : Nat} {l : List Nat} {l' : List Deferred} : ρ r = some r' → DfR ρ l l' → DfR ρ (r :: l) ({ target := .collected r', args := #[] } :: l')
theorem DfR.mono {ρ ρ' : Ren} (h : Sub ρ ρ') : ∀ {l : List Nat} {l' : List Deferred}, DfR ρ l l' → DfR ρ' l l'
  | _, _, .nil => .nil
  | _, _, .cons e d => .cons (h _ _ e) (DfR.mono h d)

noncomputable def EnvOk (ρ : Ren) (e : Env) (a : Act) : Prop := TmR ρ e.tm a ∧ DfR ρ e.df a.defers
theorem EnvOk.mono {ρ ρ' : Ren} (h : Sub ρ ρ') {e : Env} {a : Act} (he : EnvOk ρ e a) : EnvOk ρ' e a := ⟨he.1.mono h, he.2.mono h⟩

noncomputable def RdR (ρ : Ren) : Option Nat → Option Nat → Prop
  | none, none => True
  | some l, some l' => ρ l = some l'
  | _, _ => False
theorem RdR.mono {ρ ρ' : Ren} (h : Sub ρ ρ') : ∀ {r r' : Option Nat}, RdR ρ r r' → RdR ρ' r r'
  | none, none, _ => trivial
  | some _, some _, e => h _ _ e

inductive ExR : Ex → Exit → Prop
  | normal : ExR .normal .normal
  | exit (id : Nat) : ExR (.exit id) (.exit id)
  | ret : ExR .ret .ret

section
variable {P : Program} {tb : Tab} {call yld : CallH} {rnd : Option Nat} {fn : FuncId}

noncomputable def CodeHOk (P : Program) (tb : Tab) (rnd : Option Nat) (ih : CodeH) : Prop := ∀ c e s ex e' s', ih c e s = some (ex, e', s') → Tr s s' ∧
  ∀ V ρ w a rd Q, RdR ρ rnd rd → Wf s → tb.globals ≤ s.nx → vis V s s' → fresh ρ s s' → Rel tb.globals ρ (res V s.h.get) w → EnvOk ρ e a →
    (∀ x a' w' ρ', ExR ex x → EnvOk ρ' e' a' → Out tb.globals V ρ s w ρ' s' w' → Q x a' w') → c.wpIn (FF rd) 0 P Q a w

noncomputable def DrawOk (P : Program) (tb : Tab) (call yld : CallH) : Prop := ∀ (ops : Array Oper) tm s tm' s', regX tb call yld ops.toList true tm s = some (tm', s') → Tr s s' ∧
  ∀ V ρ w a rd Q id, Wf s → tb.globals ≤ s.nx → vis V s s' → fresh ρ s s' → Rel tb.globals ρ (res V s.h.get) w → TmR ρ tm a →
    (∀ a' ρ' w', a'.defers = a.defers → TmR ρ' tm' a' → Out tb.globals V ρ s w ρ' s' w' → Q .normal a' w') → (Code.region id ops true).wpIn (FF rd) 0 P Q a w

theorem wpIn_scope {F : Fence} {n : Nat} {c : Code} {Q : Exit → Act → World → Prop} {a : Act} {w : World} (h : c.wpIn F n P (fun e a w => match e with | .goto _ => False | e => Q e a w) a w) : (Code.scope c).wpIn F n P Q a w := by
  intro b k cs hro hb hr
  have h0 : (lone (b.atR a (.code (.scope c) :: k)) cs w).fenced P F := fenced_calm hb hr rfl
  have s1 : step P (lone (b.atR a (.code (.scope c) :: k)) cs w) = .next (lone (b.atR a (.code c :: .inScope c :: k)) cs w) := step_lone_go (by simp [stepG, stepG.exec, Frame.atR])
  have s2 : ∀ a w, step P (lone (b.atR a (.inScope c :: k)) cs w) = .next (lone (b.atR a k) cs w) := fun a w => step_lone_go (by simp [stepG, stepG.exec, Frame.atR])
  obtain ⟨e, a₁, w₁, hq, harr⟩ := h b (.inScope c :: k) cs hro hb hr
  have hx : ∀ id, exitTo id (.inScope c :: k) = exitTo id k := fun id => by simp [exitTo]
  cases e with
  | normal => exact ⟨.normal, a₁, w₁, hq, .head h0 s1 (StepsIn.trans harr (.one (fenced_calm hb hr rfl) (s2 _ _)))⟩
  | exit id =>
    refine ⟨.exit id, a₁, w₁, hq, fun k' hk => .head h0 s1 (harr.1 k' (by rw [hx]; exact hk)), fun hr' hk => ?_⟩
    obtain ⟨k₁, h1, h2⟩ := harr.2 hr' (by rw [hx]; exact hk)
    exact ⟨k₁, h1, .head h0 s1 h2⟩
  | goto l => exact hq.elim
  | ret => exact ⟨_, a₁, w₁, hq, .of_steps (.one h0 s1) harr⟩
  | panic ch => exact ⟨_, a₁, w₁, hq, .of_steps (.one h0 s1) harr⟩
  | outgrown => exact ⟨_, a₁, w₁, hq, .of_steps (.one h0 s1) harr⟩

theorem regC_ok (hT : TabOk P tb) (hC : CallOk P tb.globals call) (hY : YldOk P tb.globals yld) (hD : DrawOk P tb call yld) {id : Nat} {ops : Array Oper} {draw : Bool} {e e' : Env} {s s' : St} {ex : Ex} (h : regC tb call yld ops draw e s = some (ex, e', s')) :
    Tr s s' ∧ ∀ V ρ w a rd Q, RdR ρ rnd rd → Wf s → tb.globals ≤ s.nx → vis V s s' → fresh ρ s s' → Rel tb.globals ρ (res V s.h.get) w → EnvOk ρ e a →
      (∀ x a' w' ρ', ExR ex x → EnvOk ρ' e' a' → Out tb.globals V ρ s w ρ' s' w' → Q x a' w') → (Code.region id ops draw).wpIn (FF rd) 0 P Q a w := by
  unfold regC at h
  split at h
  · rename_i tm s1 hreg
    cases h
    cases draw with
    | false =>
      obtain ⟨tr, hrun⟩ := seqX_ok hT hC hY ops.toList 0 e.tm tm s s' (fun j => by simp) hreg
      refine ⟨tr, fun V ρ w a rd Q hrd hw hG hv hf hr he hQ => wpIn_region ?_⟩
      have := hrun V ρ w a rd Q hw hG hv hf hr he.1 fun a' ρ' w' hd ht hO => hQ .normal a' w' ρ' .normal ⟨ht, by rw [hd]; exact he.2.mono (hO.sub hf)⟩ hO
      rwa [Array.length_toList, ← List.range_eq_range'] at this
    | true =>
      obtain ⟨tr, hrun⟩ := hD ops e.tm s tm s' hreg
      refine ⟨tr, fun V ρ w a rd Q hrd hw hG hv hf hr he hQ => ?_⟩
      exact hrun V ρ w a rd Q id hw hG hv hf hr he.1 fun a' ρ' w' hd ht hO => hQ .normal a' w' ρ' .normal ⟨ht, by rw [hd]; exact he.2.mono (hO.sub hf)⟩ hO
  · cases h

theorem callX_enter (hT : TabOk P tb) {gv : Value} {args args1 : List Value} {s s1 : St} {gf : FuncId} (h : callX tb gv args s = some (.enter gf args1, s1)) :
    ∃ first captured, gv = .func (.func gf) first captured ∧ args1 = first.toList ++ args ++ captured.toList ∧ s1 = s ∧ ∀ (as : Array Value) (w : World), (callFunc gf as).run P w = .ok (.enter gf as) w := by
  unfold callX at h
  split at h
  · rename_i f0 first captured
    split at h
    · rename_i n rs c hfn
      cases h
      exact ⟨_, _, rfl, rfl, rfl, (hT.fn _ _ hfn).2⟩
    · rename_i x hfn
      cases h
      exact ⟨_, _, rfl, rfl, rfl, hT.fn _ _ hfn⟩
    · rename_i x e hfn
      split at h
      · cases h
      · cases h
    · cases h
  · cases h
  · cases h

theorem endC_ok {ih : CodeH} (hI : CodeHOk P tb rnd ih) {l : Nat} {e e' : Env} {s s' : St} {ex : Ex} (h : endC ih l e s = some (ex, e', s')) :
    Tr s s' ∧ ∀ V ρ w a rd Q l', RdR ρ rnd rd → Wf s → tb.globals ≤ s.nx → vis V s s' → fresh ρ s s' → Rel tb.globals ρ (res V s.h.get) w → EnvOk ρ e a → ρ l = some l' →
      (∀ x a' w' ρ', ExR ex x → EnvOk ρ' e' a' → Out tb.globals V ρ s w ρ' s' w' → Q x a' w') →
      ∃ jump w₄, (Instr.endLoop l').run P w = .ok jump w₄ ∧ (match jump with | none => Q .normal a w₄ | some c => c.wpIn (FF rd) 0 P Q a w₄) := by
  unfold endC at h
  split at h
  · rename_i st pend fn' tmps ps' as' bd' r' s1 hlk
    have hlk := look_ok hlk
    split at h
    · cases h
    · rename_i hst
      have hst : st ≠ .busy := of_decide_eq_false hst
      split at h
      · cases h
      · rename_i s2 htn
        have htn := turn_ok htn
        have common : ∀ (s' : St), Tr s2 s' → ∀ V ρ w l', Wf s → vis V s s' → Rel tb.globals ρ (res V s.h.get) w → ρ l = some l' →
            ∃ w₄, (Instr.endLoop l').run P w = .ok pend w₄ ∧ Out tb.globals V ρ s w ρ s2 w₄ := by
          intro s' tr V ρ w l' hw hv hr hl
          have hV := ((hv.fst tr).fst htn.tr).rd hw (by rw [hlk.get]; rfl) hlk.touch
          obtain ⟨k, o', f1, f2, f3⟩ := hlk.rel hV hr
          rw [hl] at f1; cases f1
          cases f3 with
          | loop h1 h2 =>
            have hr1 : Rel tb.globals ρ (res V s1.h.get) w := by rw [hlk.h]; exact hr
            have hlt := (Array.getElem?_eq_some_iff.1 f2).1
            have hrun := run_endLoop (P := P) f2 hst
            exact ⟨_, hrun, Out.after hlk.h hlk.nx (Out.turn htn hV hl hr1 (World.putObj_heap_same hlt) (fun j hj => World.putObj_heap_other hj) World.putObj_size ⟨rfl, rfl, rfl⟩ (fun y hy => by cases hy; exact .loop h1 h2))⟩
        split at h
        · cases h
          refine ⟨hlk.tr.trans htn.tr, fun V ρ w a rd Q l' hrd hw hG hv hf hr he hl hQ => ?_⟩
          obtain ⟨w₄, h1, h2⟩ := common s' (Tr.refl _) V ρ w l' hw hv hr hl
          exact ⟨none, w₄, h1, hQ _ a w₄ ρ .normal he h2⟩
        · rename_i c _ _
          obtain ⟨tr, hrun⟩ := hI _ _ _ _ _ _ h
          refine ⟨(hlk.tr.trans htn.tr).trans tr, fun V ρ w a rd Q l' hrd hw hG hv hf hr he hl hQ => ?_⟩
          obtain ⟨w₄, h1, h2⟩ := common s' tr V ρ w l' hw hv hr hl
          refine ⟨some c, w₄, h1, ?_⟩
          have tr0 := hlk.tr.trans htn.tr
          refine hrun (Vn V s s2) ρ w₄ a rd Q hrd (tr0.wf hw) (Nat.le_trans hG tr0.nx) hv.snd (hf.snd tr0 h2) h2.rel he fun x a' w' ρ' hx he' hO => ?_
          exact hQ x a' w' ρ' hx he' (Out.trans tr0 tr hw hf h2 hO)
  · cases h

theorem rangeC_ok (hT : TabOk P tb) (hC : CallOk P tb.globals call) {ih : CodeH} (hI : CodeHOk P tb rnd ih) {g : Operand} {ps : Array Tmp} {assign body : Code} {e e' : Env} {s s' : St} {ex : Ex} (h : rangeC tb call ih rnd fn g ps assign body e s = some (ex, e', s')) :
    Tr s s' ∧ ∀ V ρ w a rd Q, RdR ρ rnd rd → Wf s → tb.globals ≤ s.nx → vis V s s' → fresh ρ s s' → Rel tb.globals ρ (res V s.h.get) w → EnvOk ρ e a →
      (∀ x a' w' ρ', ExR ex x → EnvOk ρ' e' a' → Out tb.globals V ρ s w ρ' s' w' → Q x a' w') → (Code.rangeFunc g ps assign body).wpIn (FF rd) 0 P Q a w := by
  unfold rangeC at h
  split at h
  · cases h
  · rename_i r mark s1 hmk
    split at h
    · cases h
    · rename_i l s2 hnew
      have hnew := new_ok hnew
      split at h
      · rename_i gv hgv
        split at h
        · rename_i gf args s3 hcx
          obtain ⟨first, captured, rfl, rfl, rfl, henter⟩ := callX_enter hT hcx
          split at h
          · rename_i u s4 hcall
            obtain ⟨trc, hrunc⟩ := hC _ _ _ _ _ hcall
            obtain ⟨tre, hrune⟩ := endC_ok hI h
            -- entering
            have enter : ∃ trm : Tr s s1, ∀ V ρ w a rd fnr, RdR ρ rnd rd → Wf s → tb.globals ≤ s.nx → vis V s s3 → fresh ρ s s3 → Rel tb.globals ρ (res V s.h.get) w → EnvOk ρ e a →
                ∃ l' mark' w₁ ρ₁, (Instr.enterLoop fnr a.tmps ps assign body (FF rd).round).run P w = .ok (l', mark') w₁ ∧ ρ₁ l = some l' ∧ DfR ρ₁ (mark ++ e.df) (mark' ++ a.defers) ∧ Out tb.globals V ρ s w ρ₁ s3 w₁ := by
              unfold markC at hmk
              split at hmk
              · split at hmk
                · rename_i r0 s0 hn0
                  cases hmk
                  have hn0 := new_ok hn0
                  refine ⟨hn0.tr, fun V ρ w a rd fnr hrd hw hG hv hf hr he => ?_⟩
                  cases rd with
                  | some l0 => exact hrd.elim
                  | none =>
                    obtain ⟨g1, g2, g3⟩ := new_out hn0 (hf.fst hnew.tr) hG hr (o' := .deferred (some [])) .dfr
                    have hf2 := hf.snd hn0.tr g2
                    obtain ⟨q1, q2, q3⟩ := new_out hnew hf2 (Nat.le_trans hG hn0.tr.nx) g2.rel (o' := .loop { state := .ready, pending := none, fn := fnr, tmps := ⟨a.tmps.toList⟩, params := ⟨ps.toList⟩, assign := assign, body := body, defers := w.heap.size }) (.loop (LR.mono g3 he.1) g1)
                    refine ⟨_, _, _, _, run_enterLoop_outer fnr a.tmps ps assign body, ?_, .cons (q3 _ _ g1) (he.2.mono (fun b k h => q3 _ _ (g3 _ _ h))), Out.trans hn0.tr hnew.tr hw hf g2 q2⟩
                    rw [q1]; simp
                · cases hmk
              · rename_i l0
                split at hmk
                · rename_i st0 pend0 fn0 tm0 ps0 as0 bd0 d0 s0 hlk
                  cases hmk
                  have hlk := look_ok hlk
                  refine ⟨hlk.tr, fun V ρ w a rd fnr hrd hw hG hv hf hr he => ?_⟩
                  cases rd with
                  | none => exact hrd.elim
                  | some l0' =>
                    have hrd : ρ l0 = some l0' := hrd
                    have hV := (hv.fst hnew.tr).rd hw (by rw [hlk.get]; rfl) hlk.touch
                    obtain ⟨k, o', f1, f2, f3⟩ := hlk.rel hV hr
                    rw [hrd] at f1; cases f1
                    cases f3 with
                    | loop h1 h2 =>
                      have hr1 : Rel tb.globals ρ (res V s1.h.get) w := by rw [hlk.h]; exact hr
                      have hf1 : fresh ρ s1 s3 := fun q h1 h2 => hf q (by rw [← hlk.nx]; exact h1) h2
                      obtain ⟨q1, q2, q3⟩ := new_out hnew hf1 (by rw [hlk.nx]; exact hG) hr1 (o' := .loop { state := .ready, pending := none, fn := fnr, tmps := ⟨a.tmps.toList⟩, params := ⟨ps.toList⟩, assign := assign, body := body, defers := _ }) (.loop he.1 h2)
                      exact ⟨_, _, _, _, run_enterLoop_inner f2 fnr a.tmps ps assign body, q1, he.2.mono q3, Out.after hlk.h hlk.nx q2⟩
                · cases hmk
            obtain ⟨trm, henterrun⟩ := enter
            have tr13 : Tr s s3 := trm.trans hnew.tr
            refine ⟨(tr13.trans trc).trans tre, fun V ρ w a rd Q hrd hw hG hv hf hr he hQ => ?_⟩
            refine wpIn_rangeFunc fun fnr _ => ?_
            obtain ⟨l', mark', w₁, ρ₁, k1, k2, k3, k4⟩ := henterrun V ρ w a rd fnr hrd hw hG ((hv.fst tre).fst trc) ((hf.fst tre).fst trc) hr he
            have hsub1 := k4.sub ((hf.fst tre).fst trc)
            have hgvr := evR_of (a := a) hr he.1 g _ hgv
            cases hg' : a.eval g <;> rw [hg'] at hgvr <;> cases hgvr
            rename_i fl fl' cl cl' hfl hcl
            let args' : List Value := fl' ++ [.func (.yield l') ⟨[]⟩ ⟨[]⟩] ++ cl'
            have hargs : LR ρ₁ (fl ++ [.func (.yield l) ⟨[]⟩ ⟨[]⟩] ++ cl) args' := ((hfl.mono hsub1).append (.cons (.yield k2) .nil)).append (hcl.mono hsub1)
            refine ⟨l', mark', w₁, { target := .fn (.func gf) ⟨cl'⟩, args := ⟨fl' ++ [.func (.yield l') ⟨[]⟩ ⟨[]⟩]⟩ }, w₁, gf, ⟨args'⟩, w₁, k1, ?_, fun _ _ => trivial, ?_, fun h => by simp [Fence.wide] at h, ?_⟩
            · simp only [resolve, hg', Deferred.ofValue, Sem.run_pure]
              congr 2
              apply Array.toList_inj.1
              simp [Act.eval]
            · simp only [invoke, henter]
              congr 2
              apply Array.toList_inj.1
              simp [args']
            · have hc := hrunc (Vn V s s3) ρ₁ w₁ args' (tr13.wf hw) (Nat.le_trans hG tr13.nx) (hv.fst tre).snd ((hf.fst tre).snd tr13 k4) k4.rel hargs
              refine CallsIn.mono hc fun en w₂ hen => ?_
              cases en with
              | panicked c => exact hen.elim
              | outgrown => exact hen.elim
              | returned v =>
                obtain ⟨ρ₂, _, hO2⟩ := hen
                have hO := Out.trans tr13 trc hw (hf.fst tre) k4 hO2
                have hsub2 := hO2.sub ((hf.fst tre).snd tr13 k4)
                have tr14 := tr13.trans trc
                exact hrune (Vn V s s4) ρ₂ w₂ { a with defers := mark' ++ a.defers } rd Q l' ((hrd.mono hsub1).mono hsub2) (tr14.wf hw) (Nat.le_trans hG tr14.nx) hv.snd (hf.snd tr14 hO) hO.rel
                  ⟨(he.1.mono hsub1).mono hsub2, k3.mono hsub2⟩ (hsub2 _ _ k2) fun x a' w' ρ' hx he' hO' => hQ x a' w' ρ' hx he' (Out.trans tr14 tre hw hf hO hO')
          · cases h
        · cases h
      · cases h

noncomputable def LoopHOk (P : Program) (tb : Tab) (rnd : Option Nat) (ih : CodeH) : Prop := ∀ b e s ex e' s', ih (.loop b) e s = some (ex, e', s') →
  ∃ m, ∀ V ρ w a rd Q, RdR ρ rnd rd → Wf s → tb.globals ≤ s.nx → vis V s s' → fresh ρ s s' → Rel tb.globals ρ (res V s.h.get) w → EnvOk ρ e a →
    (∀ x a' w' ρ', ExR ex x → EnvOk ρ' e' a' → Out tb.globals V ρ s w ρ' s' w' → Q x a' w') → Code.roundsIn (FF rd) 0 P b Q m a w

theorem loop_ok {ih : CodeH} (hI : CodeHOk P tb rnd ih) (hL : LoopHOk P tb rnd ih) {b : Code} {e e' : Env} {s s' : St} {ex : Ex} (h : thenC (ih b e s) (ih (.loop b)) = some (ex, e', s')) :
    Tr s s' ∧ ∃ m, ∀ V ρ w a rd Q, RdR ρ rnd rd → Wf s → tb.globals ≤ s.nx → vis V s s' → fresh ρ s s' → Rel tb.globals ρ (res V s.h.get) w → EnvOk ρ e a →
      (∀ x a' w' ρ', ExR ex x → EnvOk ρ' e' a' → Out tb.globals V ρ s w ρ' s' w' → Q x a' w') → Code.roundsIn (FF rd) 0 P b Q m a w := by
  unfold thenC at h
  split at h
  · rename_i e1 s1 h1
    obtain ⟨tr1, hr1⟩ := hI _ _ _ _ _ _ h1
    obtain ⟨tr2, _⟩ := hI _ _ _ _ _ _ h
    obtain ⟨m, hr2⟩ := hL _ _ _ _ _ _ h
    refine ⟨tr1.trans tr2, m + 1, fun V ρ w a rd Q hrd hw hG hv hf hr he hQ => ?_⟩
    refine hr1 V ρ w a rd _ hrd hw hG (hv.fst tr2) (hf.fst tr2) hr he fun x a1 w1 ρ1 hx he1 hO1 => ?_
    cases hx
    refine hr2 (Vn V s s1) ρ1 w1 a1 rd Q (hrd.mono (hO1.sub (hf.fst tr2))) (tr1.wf hw) (Nat.le_trans hG tr1.nx) hv.snd (hf.snd tr1 hO1) hO1.rel he1 fun x a2 w2 ρ2 hx2 he2 hO2 => ?_
    exact hQ x a2 w2 ρ2 hx2 he2 (Out.trans tr1 tr2 hw hf hO1 hO2)
  · rename_i hne
    obtain ⟨tr1, hr1⟩ := hI _ _ _ _ _ _ h
    refine ⟨tr1, 1, fun V ρ w a rd Q hrd hw hG hv hf hr he hQ => ?_⟩
    refine hr1 V ρ w a rd _ hrd hw hG hv hf hr he fun x a1 w1 ρ1 hx he1 hO1 => ?_
    cases hx with
    | normal => exact (hne _ _ h).elim
    | exit id => exact hQ _ _ _ _ (.exit id) he1 hO1
    | ret => exact hQ _ _ _ _ .ret he1 hO1

theorem codeS_loop {ih : CodeH} (hI : CodeHOk P tb rnd ih) (hL : LoopHOk P tb rnd ih) : LoopHOk P tb rnd (codeS tb call yld rnd fn ih) := by
  intro b e s ex e' s' h
  exact (loop_ok hI hL h).2

theorem codeS_ok (hT : TabOk P tb) (hC : CallOk P tb.globals call) (hY : YldOk P tb.globals yld) (hD : DrawOk P tb call yld) {ih : CodeH} (hI : CodeHOk P tb rnd ih) (hL : LoopHOk P tb rnd ih) : CodeHOk P tb rnd (codeS tb call yld rnd fn ih) := by
  intro c e s ex e' s' h
  unfold codeS at h
  split at h
  · cases h
    exact ⟨Tr.refl _, fun V ρ w a rd Q hrd hw hG hv hf hr he hQ => wpIn_skip (hQ _ _ _ ρ .normal he (Out.idle rfl rfl hr))⟩
  · cases h
    exact ⟨Tr.refl _, fun V ρ w a rd Q hrd hw hG hv hf hr he hQ => wpIn_label (hQ _ _ _ ρ .normal he (Out.idle rfl rfl hr))⟩
  · exact regC_ok hT hC hY hD h
  · rename_i x y
    unfold thenC at h
    split at h
    · rename_i e1 s1 h1
      obtain ⟨tr1, hr1⟩ := hI _ _ _ _ _ _ h1
      obtain ⟨tr2, hr2⟩ := hI _ _ _ _ _ _ h
      refine ⟨tr1.trans tr2, fun V ρ w a rd Q hrd hw hG hv hf hr he hQ => wpIn_seq ?_⟩
      refine hr1 V ρ w a rd _ hrd hw hG (hv.fst tr2) (hf.fst tr2) hr he fun x a1 w1 ρ1 hx he1 hO1 => ?_
      cases hx
      refine hr2 (Vn V s s1) ρ1 w1 a1 rd Q (hrd.mono (hO1.sub (hf.fst tr2))) (tr1.wf hw) (Nat.le_trans hG tr1.nx) hv.snd (hf.snd tr1 hO1) hO1.rel he1 fun x a2 w2 ρ2 hx2 he2 hO2 => ?_
      exact hQ x a2 w2 ρ2 hx2 he2 (Out.trans tr1 tr2 hw hf hO1 hO2)
    · rename_i hne
      obtain ⟨tr1, hr1⟩ := hI _ _ _ _ _ _ h
      refine ⟨tr1, fun V ρ w a rd Q hrd hw hG hv hf hr he hQ => wpIn_seq ?_⟩
      refine hr1 V ρ w a rd _ hrd hw hG hv hf hr he fun x a1 w1 ρ1 hx he1 hO1 => ?_
      cases hx with
      | normal => exact (hne _ _ h).elim
      | exit id => exact hQ _ _ _ _ (.exit id) he1 hO1
      | ret => exact hQ _ _ _ _ .ret he1 hO1
  · rename_i c x y
    unfold condC at h
    split at h
    · rename_i t hc
      cases t with
      | true =>
        obtain ⟨tr1, hr1⟩ := hI _ _ _ _ _ _ h
        refine ⟨tr1, fun V ρ w a rd Q hrd hw hG hv hf hr he hQ => wpIn_cond_true ((evR_of hr he.1 c _ hc).ground rfl) (hr1 V ρ w a rd Q hrd hw hG hv hf hr he hQ)⟩
      | false =>
        obtain ⟨tr1, hr1⟩ := hI _ _ _ _ _ _ h
        refine ⟨tr1, fun V ρ w a rd Q hrd hw hG hv hf hr he hQ => wpIn_cond_false ((evR_of hr he.1 c _ hc).ground rfl) (hr1 V ρ w a rd Q hrd hw hG hv hf hr he hQ)⟩
    · cases h
  · rename_i id b
    unfold blockC at h
    split at h
    · rename_i i e1 s1 h1
      obtain ⟨tr1, hr1⟩ := hI _ _ _ _ _ _ h1
      cases hb : Nat.beq i id with
      | true =>
        rw [hb] at h
        cases h
        have hb := beq_iff.1 hb
        refine ⟨tr1, fun V ρ w a rd Q hrd hw hG hv hf hr he hQ => wpIn_block ?_⟩
        refine hr1 V ρ w a rd _ hrd hw hG hv hf hr he fun x a1 w1 ρ1 hx he1 hO1 => ?_
        cases hx
        show (if i = id then Q .normal a1 w1 else Q (.exit i) a1 w1)
        rw [if_pos hb]
        exact hQ _ _ _ _ .normal he1 hO1
      | false =>
        rw [hb] at h
        cases h
        have hb := beq_false hb
        refine ⟨tr1, fun V ρ w a rd Q hrd hw hG hv hf hr he hQ => wpIn_block ?_⟩
        refine hr1 V ρ w a rd _ hrd hw hG hv hf hr he fun x a1 w1 ρ1 hx he1 hO1 => ?_
        cases hx
        show (if i = id then Q .normal a1 w1 else Q (.exit i) a1 w1)
        rw [if_neg hb]
        exact hQ _ _ _ _ (.exit i) he1 hO1
    · rename_i hne
      obtain ⟨tr1, hr1⟩ := hI _ _ _ _ _ _ h
      refine ⟨tr1, fun V ρ w a rd Q hrd hw hG hv hf hr he hQ => wpIn_block ?_⟩
      refine hr1 V ρ w a rd _ hrd hw hG hv hf hr he fun x a1 w1 ρ1 hx he1 hO1 => ?_
      cases hx with
      | normal => exact hQ _ _ _ _ .normal he1 hO1
      | exit id => exact (hne _ _ _ h).elim
      | ret => exact hQ _ _ _ _ .ret he1 hO1
  · obtain ⟨tr, m, hrun⟩ := loop_ok hI hL h
    exact ⟨tr, fun V ρ w a rd Q hrd hw hG hv hf hr he hQ => wpIn_loop_rounds m (hrun V ρ w a rd Q hrd hw hG hv hf hr he hQ)⟩
  · rename_i b
    obtain ⟨tr1, hr1⟩ := hI _ _ _ _ _ _ h
    refine ⟨tr1, fun V ρ w a rd Q hrd hw hG hv hf hr he hQ => wpIn_scope ?_⟩
    refine hr1 V ρ w a rd _ hrd hw hG hv hf hr he fun x a1 w1 ρ1 hx he1 hO1 => ?_
    cases hx with
    | normal => exact hQ _ _ _ _ .normal he1 hO1
    | exit id => exact hQ _ _ _ _ (.exit id) he1 hO1
    | ret => exact hQ _ _ _ _ .ret he1 hO1
  · rename_i id
    cases h
    exact ⟨Tr.refl _, fun V ρ w a rd Q hrd hw hG hv hf hr he hQ => wpIn_exit (hQ _ _ _ ρ (.exit id) he (Out.idle rfl rfl hr))⟩
  · cases h
    exact ⟨Tr.refl _, fun V ρ w a rd Q hrd hw hG hv hf hr he hQ => wpIn_ret (hQ _ _ _ ρ .ret he (Out.idle rfl rfl hr))⟩
  · exact rangeC_ok hT hC hI h
  · cases h

theorem codeX_ok (hT : TabOk P tb) (hC : CallOk P tb.globals call) (hY : YldOk P tb.globals yld) (hD : DrawOk P tb call yld) (n : Nat) : CodeHOk P tb rnd (codeX tb call yld rnd fn n) ∧ LoopHOk P tb rnd (codeX tb call yld rnd fn n) := by
  induction n with
  | zero => exact ⟨fun c e s ex e' s' h => (by cases h), fun b e s ex e' s' h => (by cases h)⟩
  | succ n ih => exact ⟨codeS_ok hT hC hY hD ih.1 ih.2, codeS_loop ih.1 ih.2⟩

end
end Go.Proofs.YtnhcbfaomehaeaaGreatDoor.R1

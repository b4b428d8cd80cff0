/- Maps from integers. -/
import Derived.Test.YtnhcbfaomehaeaaGreatDoorA12
import Derived.RangeFuncRecord
namespace Go.Proofs.YtnhcbfaomehaeaaGreatDoor.R1
open Go
set_option linter.unusedVariables false
set_option linter.unusedSimpArgs false

section
variable {P : Program} {tb : Tab} {G : Nat} {ev : Ev} {s s' : St} {r : R} {d : Option Nat} {ty : TypeId} {pos : String} {aft : Array Edge} {g : Option (Nat × Bool)}

theorem keyOk_eq (hT : TabOk P tb) {t : TypeId} {k : Value} (h : keyOk tb t k = true) : ∃ j a d, k = .int j a ∧ P.underlying t = some (.int d) := by
  unfold keyOk at h
  split at h
  · rename_i ti ht
    have hk := (hT.ty _ _ ht).kind
    split at h
    · rename_i d j a hki
      rw [hki] at hk
      exact ⟨_, _, _, rfl, hk⟩
    · cases h
  · cases h

theorem checkKey_int {t : TypeId} {d : IntKind} (ht : P.underlying t = some (.int d)) (e : Bool) (j : IntKind) (a : Int) (w : World) : (Instr.checkKey e 10000 t (.int j a)).run P w = .ok () w := by
  have : ∀ n, (Instr.checkKey e (n + 1) t (.int j a)).run P w = .ok () w := fun n => by simp [Instr.checkKey, run_underlying ht]
  exact this 9999

theorem ER.get {ρ : Ren} : ∀ {l l' : List MapEntry}, ER ρ l l' → ∀ {i : Nat} {e : MapEntry}, l[i]? = some e → ∃ e', l'[i]? = some e' ∧ VR ρ e.key e'.key ∧ VR ρ e.val e'.val ∧ e'.born = e.born
  | _, _, .nil, i, e, h => by simp at h
  | _, _, .cons a b c d, 0, e, h => by simp at h; subst h; exact ⟨_, rfl, a, b, c⟩
  | _, _, .cons a b c d, i + 1, e, h => ER.get d (by simpa using h)

theorem findX_ok {ρ : Ren} {d j : IntKind} {a : Int} : ∀ {es es' : List MapEntry} {n : Nat} {o : Option (Nat × Value)}, ER ρ es es' → findX (.int j a) es n = some o →
    ∃ o', Instr.findNow (.int d) (.int j a) es' n = some o' ∧ (match o with
      | none => o' = none
      | some (i, v) => ∃ v' e, o' = some (i, v') ∧ VR ρ v v' ∧ n ≤ i ∧ es[i - n]? = some e ∧ e.key = .int j a ∧ e.val = v)
  | _, _, n, o, .nil, h => by
    simp only [findX, Option.some.injEq] at h
    subst h
    exact ⟨none, rfl, rfl⟩
  | e :: es, e' :: es', n, o, .cons hk hv hb hr, h => by
    simp only [findX] at h
    have key : ∀ b, keyEq (.int j a) e.key = some b → ∃ c, e.key = .int j c ∧ e'.key = .int j c ∧ b = decide (a = c) := by
      intro b hb
      unfold keyEq at hb
      split at hb
      · rename_i j1 a1 k1 b1 h1 h2
        cases h1
        split at hb
        · rename_i hd
          cases hb
          have := of_decide_eq_true hd
          subst this
          rw [h2] at hk ⊢
          exact ⟨b1, rfl, hk.ground rfl, rfl⟩
        · cases hb
      · cases hb
    split at h
    · rename_i hke
      cases h
      obtain ⟨c, h1, h2, h3⟩ := key _ hke
      have hac : a = c := of_decide_eq_true h3.symm
      subst hac
      refine ⟨some (n, e'.val), ?_, e'.val, e, rfl, hv, Nat.le_refl _, by simp, h1, rfl⟩
      simp [Instr.findNow, h2, Instr.sameNow]
    · rename_i hke
      obtain ⟨c, h1, h2, h3⟩ := key _ hke
      have hac : a ≠ c := of_decide_eq_false h3.symm
      obtain ⟨o', g1, g2⟩ := findX_ok (d := d) hr h
      have hbeq : (a == c) = false := by simpa using hac
      refine ⟨o', by simp [Instr.findNow, h2, Instr.sameNow, hbeq, g1], ?_⟩
      cases o with
      | none => exact g2
      | some p =>
        obtain ⟨i, v⟩ := p
        obtain ⟨v', f, q1, q2, q3, q4, q5, q6⟩ := g2
        refine ⟨v', f, q1, q2, by omega, ?_, q5, q6⟩
        rw [show i - n = (i - (n + 1)) + 1 from by omega]
        simpa using q4
    · cases h

theorem findKey_run {t : TypeId} {d j : IntKind} {a : Int} (ht : P.underlying t = some (.int d)) {es' : List MapEntry} {o' : Option (Nat × Value)} (h : Instr.findNow (.int d) (.int j a) es' 0 = some o') (w : World) : (Instr.findKey t (.int j a) es').run P w = .ok o' w := by
  unfold Instr.findKey
  simp [run_underlying ht, h]

/-- What is looked at: a map. -/
theorem map_rel {s1 : St} {m : Nat} {es : List MapEntry} {clock : Nat} (hlk : LookOk s m (.map es clock) s1) {V : Nat → Bool} {ρ : Ren} {w : World} (hV : V m = true) (hr : Rel G ρ (res V s.h.get) w) :
    ∃ k es', ρ m = some k ∧ w.heap[k]? = some (.map ⟨es'⟩ clock) ∧ ER ρ es es' ∧ (getObj k).run P w = .ok (.map ⟨es'⟩ clock) w := by
  obtain ⟨k, o', f1, f2, f3⟩ := hlk.rel hV hr
  obtain ⟨es', rfl, hes⟩ := f3.map_inv
  exact ⟨k, es', f1, f2, hes, by simp [getObj, Sem.run, f2]⟩

theorem setObj_run {k : Nat} {es' : List MapEntry} {clock : Nat} {w : World} (h : w.heap[k]? = some (.map ⟨es'⟩ clock)) (o : Obj) : (setObj k o).run P w = .ok () (w.putObj k o) := by
  simp [setObj, Sem.run, h, World.putObj]

/-- A map turns. -/
theorem map_turn {s1 : St} {m k : Nat} {es : List MapEntry} {clock : Nat} {x : AO} {o' : Obj} (hlk : LookOk s m (.map es clock) s1) (htn : TurnOk s1 m (some x) s') {V : Nat → Bool} {ρ : Ren} {w : World} (hV : V m = true) (hr : Rel G ρ (res V s.h.get) w)
    (e1 : ρ m = some k) {q : Obj} (hk : w.heap[k]? = some q) (ho : OR ρ m x o') : Out G V ρ s w ρ s' (w.putObj k o') := by
  have hr1 : Rel G ρ (res V s1.h.get) w := by rw [hlk.h]; exact hr
  have hlt : k < w.heap.size := (Array.getElem?_eq_some_iff.1 hk).1
  exact Out.after hlk.h hlk.nx (Out.turn htn hV e1 hr1 (World.putObj_heap_same hlt) (fun j hj => World.putObj_heap_other hj) World.putObj_size ⟨rfl, rfl, rfl⟩ (fun y hy => by cases hy; exact ho))

theorem ER.append {ρ : Ren} {e e' : MapEntry} (hk : VR ρ e.key e'.key) (hv : VR ρ e.val e'.val) (hb : e'.born = e.born) : ∀ {l l' : List MapEntry}, ER ρ l l' → ER ρ (l ++ [e]) (l' ++ [e'])
  | _, _, .nil => .cons hk hv hb .nil
  | _, _, .cons a b c d => .cons a b c (ER.append hk hv hb d)
theorem ER.mod {ρ : Ren} {v v' : Value} (hv : VR ρ v v') (j : IntKind) (a : Int) : ∀ {l l' : List MapEntry} {i : Nat} {e : MapEntry}, ER ρ l l' → l[i]? = some e → e.key = .int j a → ER ρ (modX (fun e => { e with val := v }) l i) (l'.modify i fun e => { e with key := .int j a, val := v' })
  | _, _, i, e, .nil, h, _ => by simp at h
  | _, _, 0, e, .cons ha hb hc hd, h, he => by
    simp at h; subst h
    simp only [modX, List.modify_zero_cons]
    exact .cons (by rw [he]; exact .int _ _) hv hc hd
  | _, _, i + 1, e, .cons ha hb hc hd, h, he => by
    simp only [modX, List.modify_succ_cons]
    exact .cons ha hb hc (ER.mod hv j a hd (by simpa using h) he)
theorem ER.del {ρ : Ren} : ∀ {l l' : List MapEntry} {i : Nat}, ER ρ l l' → ER ρ (delX l i) (l'.eraseIdx i)
  | _, _, i, .nil => by simp [delX]; exact .nil
  | _, _, 0, .cons ha hb hc hd => hd
  | _, _, i + 1, .cons ha hb hc hd => .cons ha hb hc (ER.del hd)

theorem op_lookup_ok (hT : TabOk P tb) {t : TypeId} {x y : Operand} {ok : Bool} (h : op_lookup tb ev t x y ok s = some (r, s')) : OpOk P G ev ⟨d, .lookup t x y ok, ty, pos, aft, g⟩ s r s' := by
  unfold op_lookup at h
  split at h
  · rename_i m k hx hy
    obtain ⟨v, hv, rfl⟩ := valsX_eq h
    unfold lookupX at hv
    split at hv
    · rename_i ti ht
      have hk := (hT.ty _ _ ht).kind
      split at hv
      · rename_i kt et hki
        rw [hki] at hk
        have hk' : P.underlying t = some (.map kt et) := hk
        split at hv
        · rename_i ei hei hko
          obtain ⟨j, a, dk, rfl, hkt⟩ := keyOk_eq hT hko
          have hzero := fun z => wrap_zero (hT.ty _ _ hei) (z := z)
          split at hv
          · -- nil
            split at hv
            · rename_i z hz
              obtain ⟨⟨i, hi1, hi2⟩, hzv⟩ := hzero z hz
              cases hv
              refine OpOk.pure fun ρ w ev' he => ?_
              have e1 := (he x _ hx).ground rfl
              have e2 := (he y _ hy).ground rfl
              have hfk := findKey_run (P := P) (j := j) (a := a) hkt (es' := []) (o' := none) rfl w
              cases ok
              · refine ⟨z, ?_, hzv ρ⟩
                simp [execOp, e1, e2, Instr.lookup, run_underlying hk', checkKey_int hkt, hfk, zeroValue, typeInfo, hi1, hi2]
              · refine ⟨.tuple ⟨[z, .bool false]⟩, ?_, .tuple (.cons (hzv ρ) (.cons (.bool _) .nil))⟩
                simp [execOp, e1, e2, Instr.lookup, run_underlying hk', checkKey_int hkt, hfk, zeroValue, typeInfo, hi1, hi2]
            · cases hv
          · rename_i m
            split at hv
            · rename_i es clock s1 hlk
              have hlk := look_ok hlk
              split at hv
              · rename_i o ho
                split at hv
                · rename_i u hu
                  cases hv
                  refine ⟨hlk.tr, fun V ρ w ev' hw hG hvis hf hr he => ?_⟩
                  obtain ⟨m', e1, e1'⟩ := (he x _ hx).map_inv
                  have e2 := (he y _ hy).ground rfl
                  have hV := hvis.rd hw (by rw [hlk.get]; rfl) hlk.touch
                  obtain ⟨k', es', f1, f2, f3, f4⟩ := map_rel (P := P) hlk hV hr
                  rw [e1] at f1; cases f1
                  obtain ⟨o', g1, g2⟩ := findX_ok (d := dk) f3 ho
                  have hfk := findKey_run (P := P) hkt g1 w
                  have hk2 := checkKey_int (P := P) hkt
                  cases o with
                  | none =>
                    simp only at g2
                    subst g2
                    obtain ⟨⟨i, hi1, hi2⟩, hzv⟩ := hzero u hu
                    cases ok
                    · refine ⟨u, w, ρ, ?_, hzv ρ, Out.idle hlk.h hlk.nx hr⟩
                      simp [execOp, e1', e2, Instr.lookup, run_underlying hk', f4, hk2, hfk, zeroValue, typeInfo, hi1, hi2]
                    · refine ⟨.tuple ⟨[u, .bool false]⟩, w, ρ, ?_, .tuple (.cons (hzv ρ) (.cons (.bool _) .nil)), Out.idle hlk.h hlk.nx hr⟩
                      simp [execOp, e1', e2, Instr.lookup, run_underlying hk', f4, hk2, hfk, zeroValue, typeInfo, hi1, hi2]
                  | some p =>
                    obtain ⟨i, v⟩ := p
                    obtain ⟨v', f, q1, q2, _⟩ := g2
                    subst q1
                    simp only [lookVal, Option.some.injEq] at hu
                    subst hu
                    cases ok
                    · refine ⟨v', w, ρ, ?_, q2, Out.idle hlk.h hlk.nx hr⟩
                      simp [execOp, e1', e2, Instr.lookup, run_underlying hk', f4, hk2, hfk]
                    · refine ⟨.tuple ⟨[v', .bool true]⟩, w, ρ, ?_, .tuple (.cons q2 (.cons (.bool _) .nil)), Out.idle hlk.h hlk.nx hr⟩
                      simp [execOp, e1', e2, Instr.lookup, run_underlying hk', f4, hk2, hfk]
                · cases hv
              · cases hv
            · cases hv
          · cases hv
        · cases hv
      · cases hv
    · cases hv
  · cases h

theorem updateX_ok (hT : TabOk P tb) {t : TypeId} {m k v : Value} (h : updateX tb t s m k v = some s') : Tr s s' ∧ ∀ V ρ w m' k' v', Wf s → vis V s s' → Rel G ρ (res V s.h.get) w → VR ρ m m' → VR ρ k k' → VR ρ v v' →
    ∃ w', (Instr.mapUpdate t m' k' v').run P w = .ok () w' ∧ Out G V ρ s w ρ s' w' := by
  unfold updateX at h
  split at h
  · rename_i ti ht
    have hk := (hT.ty _ _ ht).kind
    split at h
    · rename_i kt et m hki
      rw [hki] at hk
      have hk' : P.underlying t = some (.map kt et) := hk
      split at h
      · rename_i es clock s1 hko hlk
        obtain ⟨j, a, dk, rfl, hkt⟩ := keyOk_eq hT hko
        have hlk := look_ok hlk
        have hk2 := checkKey_int (P := P) hkt
        split at h
        · rename_i i u ho
          have htn := turn_ok h
          refine ⟨hlk.tr.trans htn.tr, fun V ρ w m' k' v' hw hvis hr hm hkk hvv => ?_⟩
          obtain ⟨mm, e1, rfl⟩ := hm.map_inv
          cases hkk
          have hV := (hvis.fst htn.tr).rd hw (by rw [hlk.get]; rfl) hlk.touch
          obtain ⟨kk, es', f1, f2, f3, f4⟩ := map_rel (P := P) hlk hV hr
          rw [e1] at f1; cases f1
          obtain ⟨o', g1, u', e, rfl, q2, q3, q4, q5, q6⟩ := findX_ok (d := dk) f3 ho
          have hfk := findKey_run (P := P) hkt g1 w
          obtain ⟨e', r1, r2, r3, r4⟩ := f3.get q4
          have hek : e'.key = .int j a := by rw [q5] at r2; exact r2.ground rfl
          have hget : (⟨es'⟩ : Array MapEntry)[i]? = some e' := by simpa using r1
          have hO := map_turn hlk htn hV hr e1 f2 (o' := .map ⟨es'.modify i fun e => { e with key := .int j a, val := v' }⟩ clock) (.map (ER.mod hvv j a f3 (by simpa using q4) q5))
          refine ⟨_, ?_, hO⟩
          have hset := setObj_run (P := P) f2 (.map ⟨es'.modify i fun e => { e with key := .int j a, val := v' }⟩ clock)
          have hstay : (Instr.keyThatStays (.int j a) (.int j a)).run P w = .ok (.int j a) w := by
            have : ∀ n, Instr.sameBits n (.int j a) (.int j a) = true := fun n => by cases n <;> simp [Instr.sameBits]
            simp [Instr.keyThatStays, this]
          have hmod : (⟨es'⟩ : Array MapEntry).modify i (fun e => { e with key := .int j a, val := v' }) = ⟨es'.modify i fun e => { e with key := .int j a, val := v' }⟩ := by
            apply Array.toList_inj.1; simp
          have hst2 : (Instr.keyThatStays ((Option.map (fun x => x.key) es'[i]?).getD (.int j a)) (.int j a)).run P w = .ok (.int j a) w := by
            have r1' : es'[i]? = some e' := by simpa using r1
            rw [r1']
            simp only [Option.map_some, Option.getD_some, hek, hstay]
          simp [Instr.mapUpdate, run_underlying hk', f4, hk2, hfk, hst2]
          exact hset
        · rename_i ho
          have htn := turn_ok h
          refine ⟨hlk.tr.trans htn.tr, fun V ρ w m' k' v' hw hvis hr hm hkk hvv => ?_⟩
          obtain ⟨mm, e1, rfl⟩ := hm.map_inv
          cases hkk
          have hV := (hvis.fst htn.tr).rd hw (by rw [hlk.get]; rfl) hlk.touch
          obtain ⟨kk, es', f1, f2, f3, f4⟩ := map_rel (P := P) hlk hV hr
          rw [e1] at f1; cases f1
          obtain ⟨o', g1, g2⟩ := findX_ok (d := dk) f3 ho
          simp only at g2
          subst g2
          have hfk := findKey_run (P := P) hkt g1 w
          have hO := map_turn hlk htn hV hr e1 f2 (o' := .map ⟨es' ++ [{ key := .int j a, val := v', born := clock }]⟩ (clock + 1)) (.map (ER.append (e := { key := .int j a, val := v, born := clock }) (e' := { key := .int j a, val := v', born := clock }) (.int _ _) hvv rfl f3))
          refine ⟨_, ?_, hO⟩
          have hset := setObj_run (P := P) f2 (.map ⟨es' ++ [{ key := .int j a, val := v', born := clock }]⟩ (clock + 1))
          simp [Instr.mapUpdate, run_underlying hk', f4, hk2, hfk]
          exact hset
        · cases h
      · cases h
    · cases h
  · cases h

theorem op_mapUpdate_ok (hT : TabOk P tb) {t : TypeId} {x y z : Operand} (h : op_mapUpdate tb ev t x y z s = some (r, s')) : OpOk P G ev ⟨d, .mapUpdate t x y z, ty, pos, aft, g⟩ s r s' ∧ OpOk P G ev ⟨d, .insert t x y z, ty, pos, aft, g⟩ s r s' := by
  unfold op_mapUpdate at h
  split at h
  · rename_i m k v hx hy hz
    split at h
    · rename_i s1 hu
      cases h
      obtain ⟨tr, hrun⟩ := updateX_ok (G := G) hT hu
      refine ⟨⟨tr, fun V ρ w ev' hw hG hvis hf hr he => ?_⟩, ⟨tr, fun V ρ w ev' hw hG hvis hf hr he => ?_⟩⟩
      · obtain ⟨w', h1, h2⟩ := hrun V ρ w _ _ _ hw hvis hr (he x _ hx) (he y _ hy) (he z _ hz)
        exact ⟨w', ρ, by simp [execOp, h1], h2⟩
      · obtain ⟨w', h1, h2⟩ := hrun V ρ w _ _ _ hw hvis hr (he x _ hx) (he y _ hy) (he z _ hz)
        exact ⟨w', ρ, by simp [execOp, h1], h2⟩
    · cases h
  · cases h

theorem delete_ok (hT : TabOk P tb) {ats : List TypeId} {ty : TypeId} {args : List Value} {v : Value} (h : builtinX tb .delete ats ty args s = some (v, s')) : BOk P G .delete ats ty args s v s' := by
  unfold builtinX at h
  split at h <;> try contradiction
  rename_i t ts m k _
  split at h
  · rename_i ti ht
    have hk := (hT.ty _ _ ht).kind
    split at h
    · rename_i kt et hki
      rw [hki] at hk
      have hk' : P.underlying t = some (.map kt et) := hk
      split at h
      · rename_i es clock s1 hko hlk
        obtain ⟨j, a, dk, rfl, hkt⟩ := keyOk_eq hT hko
        have hlk := look_ok hlk
        have hk2 := checkKey_int (P := P) hkt
        split at h
        · rename_i i u ho
          split at h
          · rename_i s2 htn
            cases h
            have htn := turn_ok htn
            refine ⟨hlk.tr.trans htn.tr, fun V ρ w args' hw hG hvis hf hr hl consts => ?_⟩
            obtain ⟨m', k', rfl, hm, hkk⟩ := hl.two_inv
            obtain ⟨mm, e1, rfl⟩ := hm.map_inv
            cases hkk
            have hV := (hvis.fst htn.tr).rd hw (by rw [hlk.get]; rfl) hlk.touch
            obtain ⟨kk, es', f1, f2, f3, f4⟩ := map_rel (P := P) hlk hV hr
            rw [e1] at f1; cases f1
            obtain ⟨o', g1, u', e, rfl, q2, q3, q4, q5, q6⟩ := findX_ok (d := dk) f3 ho
            have hfk := findKey_run (P := P) hkt g1 w
            have hO := map_turn hlk htn hV hr e1 f2 (o' := .map ⟨es'.eraseIdx i⟩ clock) (.map (ER.del f3))
            refine ⟨.tuple ⟨[]⟩, _, ρ, ?_, .tuple .nil, hO⟩
            have hset := setObj_run (P := P) f2 (.map ⟨es'.eraseIdx i⟩ clock)
            have her : (⟨es'⟩ : Array MapEntry).eraseIdxIfInBounds i = ⟨es'.eraseIdx i⟩ := by
              apply Array.toList_inj.1; simp
            simp [Go.builtin, Builtin.delete_, run_underlying hk', f4, hk2, hfk, her, hset]
          · cases h
        · rename_i ho
          split at h
          · rename_i s2 htn
            cases h
            have htn := turn_ok htn
            refine ⟨hlk.tr.trans htn.tr, fun V ρ w args' hw hG hvis hf hr hl consts => ?_⟩
            obtain ⟨m', k', rfl, hm, hkk⟩ := hl.two_inv
            obtain ⟨mm, e1, rfl⟩ := hm.map_inv
            cases hkk
            have hV := (hvis.fst htn.tr).rd hw (by rw [hlk.get]; rfl) hlk.touch
            obtain ⟨kk, es', f1, f2, f3, f4⟩ := map_rel (P := P) hlk hV hr
            rw [e1] at f1; cases f1
            obtain ⟨o', g1, g2⟩ := findX_ok (d := dk) f3 ho
            simp only at g2
            subst g2
            have hfk := findKey_run (P := P) hkt g1 w
            have hO := map_turn hlk htn hV hr e1 f2 (o' := .map ⟨es'⟩ clock) (.map f3)
            refine ⟨.tuple ⟨[]⟩, _, ρ, ?_, .tuple .nil, hO⟩
            have hset := setObj_run (P := P) f2 (.map ⟨es'⟩ clock)
            simp [Go.builtin, Builtin.delete_, run_underlying hk', f4, hk2, hfk, hset]
          · cases h
        · cases h
      · cases h
    · cases h
  · cases h

theorem clear_ok (hT : TabOk P tb) {ats : List TypeId} {ty : TypeId} {args : List Value} {v : Value} (h : builtinX tb .clear ats ty args s = some (v, s')) : BOk P G .clear ats ty args s v s' := by
  unfold builtinX at h
  split at h <;> try contradiction
  rename_i t ts x _
  split at h
  · rename_i ti ht
    have hk := (hT.ty _ _ ht).kind
    split at h
    · rename_i kt et m hki
      rw [hki] at hk
      have hk' : P.underlying t = some (.map kt et) := hk
      split at h
      · rename_i es clock s1 hlk
        have hlk := look_ok hlk
        split at h
        · rename_i s2 htn
          cases h
          have htn := turn_ok htn
          refine ⟨hlk.tr.trans htn.tr, fun V ρ w args' hw hG hvis hf hr hl consts => ?_⟩
          obtain ⟨m', rfl, hm⟩ := hl.one_inv
          obtain ⟨mm, e1, rfl⟩ := hm.map_inv
          have hV := (hvis.fst htn.tr).rd hw (by rw [hlk.get]; rfl) hlk.touch
          obtain ⟨kk, es', f1, f2, f3, f4⟩ := map_rel (P := P) hlk hV hr
          rw [e1] at f1; cases f1
          have hO := map_turn hlk htn hV hr e1 f2 (o' := .map ⟨[]⟩ clock) (.map .nil)
          refine ⟨.tuple ⟨[]⟩, _, ρ, ?_, .tuple .nil, hO⟩
          have hset := setObj_run (P := P) f2 (.map ⟨[]⟩ clock)
          have hset' : (setObj mm (.map #[] clock)).run P w = .ok () (w.putObj mm (.map ⟨[]⟩ clock)) := hset
          simp only [Go.builtin, Builtin.clear_, Sem.run_bind]
          simp [run_underlying hk', f4]
          rw [hset']
          simp
        · cases h
      · cases h
    · rename_i e a n c hki
      rw [hki] at hk
      have hk' : P.underlying t = some (.slice e) := hk
      split at h
      · rename_i hn
        cases h
        have hn := beq_iff.1 hn
        subst hn
        refine BOk.pure fun ρ w args' hl consts => ⟨.tuple ⟨[]⟩, ?_, .tuple .nil⟩
        obtain ⟨x', rfl, hx⟩ := hl.one_inv
        rcases hx.slice_inv with ⟨b', c', _, _, _, rfl⟩ | ⟨_, _, _, a', c', rfl⟩ <;>
          simp [Go.builtin, Builtin.clear_, run_underlying hk']
      · rename_i hn
        have hn := beq_false hn
        split at h
        · rename_i ei hei
          split at h
          · rename_i s1 hst
            cases h
            have hst := storeX_ok hst
            obtain ⟨i, z, hi, hs, hby, hz, hzc, _⟩ := (hT.ty _ _ hei).info
            refine ⟨hst.tr, fun V ρ w args' hw hG hvis hf hr hl consts => ?_⟩
            obtain ⟨x', rfl, hx⟩ := hl.one_inv
            rcases hx.slice_inv with ⟨b', c', e1, e2, _, rfl⟩ | ⟨_, h0, _⟩
            · have hV := hvis.wr hw hst.is hst.touch
              obtain ⟨k, w', f1, f2, f3⟩ := hst.run P G V ρ w _ hV hr ((LR.of_ground (ρ := ρ) (hT.ty _ _ hei).gr).rep n)
              have hkk : b' = k := by rw [e1] at f1; exact Option.some.inj f1
              subst hkk
              refine ⟨.tuple ⟨[]⟩, w', ρ, ?_, .tuple .nil, f3⟩
              have hzc' : (Builtin.zeroCells z.cells n).toList = rep ei.zero n := by
                have := range_rep z.cells n
                unfold Builtin.zeroCells
                rw [this, hzc]
              obtain ⟨n', rfl⟩ : ∃ n', n = n' + 1 := ⟨n - 1, by omega⟩
              simp [Go.builtin, Builtin.clear_, run_underlying hk', zeroValue, typeInfo, hi, hz, hzc', f2]
            · omega
          · cases h
        · cases h
    · rename_i e n c hki
      rw [hki] at hk
      have hk' : P.underlying t = some (.slice e) := hk
      cases h
      refine BOk.pure fun ρ w args' hl consts => ⟨.tuple ⟨[]⟩, ?_, .tuple .nil⟩
      obtain ⟨x', rfl, hx⟩ := hl.one_inv
      cases hx
      simp [Go.builtin, Builtin.clear_, run_underlying hk']
    · cases h
  · cases h

end
end Go.Proofs.YtnhcbfaomehaeaaGreatDoor.R1

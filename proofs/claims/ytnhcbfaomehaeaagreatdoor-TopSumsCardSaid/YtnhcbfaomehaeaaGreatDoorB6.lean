/- A region whose order is drawn: every order does what the text's order does. -/
import Derived.Test.YtnhcbfaomehaeaaGreatDoorB5
namespace Go.Proofs.YtnhcbfaomehaeaaGreatDoor.R1
open Go
set_option linter.unusedVariables false
set_option linter.unusedSimpArgs false

noncomputable def SlotR (ρ : Ren) (a : Act) (t : Nat) (y : Option Value) : Prop := ∀ v, y = some v → ∃ v', a.tmps[t]? = some v' ∧ VR ρ v v'

section
variable {P : Program} {tb : Tab} {call yld : CallH}

theorem evD_of {ρ : Ren} {h : HF} {w : World} {tm : List Value} {a : Act} {m : Nat} (hr : Rel tb.globals ρ h w) (ht : ∀ t, m.testBit t = true → SlotR ρ a t tm[t]?) : EvR ρ (evD tb tm m) a.eval := by
  intro x v hx
  cases x with
  | tmp t =>
    simp only [evD, nth_eq] at hx
    split at hx
    · cases hx
    · rename_i hb
      have hb : m.testBit t = true := by
        cases h : m.testBit t with
        | true => rfl
        | false => rw [land_bit.2 h] at hb; cases hb
      obtain ⟨v', h1, h2⟩ := ht t hb v hx
      have : a.eval (.tmp t) = v' := by simp only [Act.eval, Array.getD_eq_getD_getElem?, h1, Option.getD_some]
      rw [this]; exact h2
  | const u =>
    simp only [evD, evE] at hx
    split at hx
    · rename_i hg; cases hx; exact VR.of_ground hg
    · cases hx
  | global g =>
    simp only [evD, evE] at hx
    split at hx
    · rename_i hg; cases hx; exact .ptr (hr.glb g (blt_iff.1 hg))
    · cases hx
  | func f =>
    simp only [evD, evE, Option.some.injEq] at hx
    subst hx
    exact .func .nil .nil

theorem stepD_ok (hT : TabOk P tb) (hC : CallOk P tb.globals call) (hY : YldOk P tb.globals yld) {ops : Array Oper} {i : Nat} {o : Oper} (ho : ops[i]? = some o) {s s' : St} {tm tm' : List Value} {m g : Nat}
    (h : stepD tb call yld ops.toList o m tm s = some (tm', s')) (hg : guardTmp ops.toList o.guard = some g) :
    Tr s s' ∧ ∃ v, putE tm o.dst v = some tm' ∧ ∀ V ρ w a rd (K : Act → World → Prop) Q, Wf s → tb.globals ≤ s.nx → vis V s s' → fresh ρ s s' → Rel tb.globals ρ (res V s.h.get) w → tm.length = a.tmps.size →
      (∀ t, (m.testBit t = true ∨ g.testBit t = true) → SlotR ρ a t tm[t]?) →
      (∀ v' ρ' w', VR ρ' v v' → Out tb.globals V ρ s w ρ' s' w' → K (a.put o.dst v') w') → wpOpIn (FF rd) 0 P ops Q i K a w := by
  unfold stepD at h
  have hwant : ∀ ρ (a : Act), tm.length = a.tmps.size → (∀ t, (m.testBit t = true ∨ g.testBit t = true) → SlotR ρ a t tm[t]?) → Region.wanted o (yielded ops a.tmps) = wantX ops.toList tm o.guard := fun ρ a hl ht =>
    wantX_ok (ρ := ρ) (fun j want d v hgd hb hn => by
      rw [nth_eq] at hn
      refine ht d (.inr ?_) v hn
      rw [hgd] at hg
      simp only [guardTmp, nth_eq, Array.getElem?_toList] at hg
      cases ho : ops[j]? with
      | none => rw [ho] at hb; cases hb
      | some oj =>
        rw [ho] at hb hg
        simp only [Option.bind_some] at hb
        simp only [Option.some.injEq] at hg
        rw [← hg]
        exact dmask_ok.2 hb) (fun j want d _ _ hn => by
      rw [nth_eq, List.getElem?_eq_none_iff] at hn
      rw [Array.getElem?_eq_none_iff]; omega)
  cases hw0 : wantX ops.toList tm o.guard with
  | true =>
    rw [hw0] at h
    obtain ⟨tr, v, hput, hrun⟩ := doX_ok hT hC hY h
    refine ⟨tr, v, hput, fun V ρ w a rd K Q hw hG hv hf hr hl ht hK => ?_⟩
    unfold wpOpIn
    simp only [ho]
    rw [if_pos (by rw [hwant ρ a hl ht, hw0])]
    exact hrun V ρ w a rd K Q hw hG hv hf hr (evD_of hr fun t h => ht t (.inl h)) hK
  | false =>
    rw [hw0] at h
    obtain ⟨tm1, h1, h2⟩ := obind_eq h
    cases h2
    refine ⟨Tr.refl _, undefV, h1, fun V ρ w a rd K Q hw hG hv hf hr hl ht hK => ?_⟩
    unfold wpOpIn
    simp only [ho]
    rw [if_neg (by rw [hwant ρ a hl ht, hw0]; simp)]
    exact ⟨fun _ _ => trivial, hK _ ρ w (.tuple .nil) (Out.idle rfl rfl hr)⟩

/-! ## The chain of states -/

noncomputable def rst (s : St) : St := { s with rd := 0, wr := 0 }

structure AtX (tb : Tab) (call yld : CallH) (ops : List Oper) (σ : Nat → St) (τ : Nat → List Value) (δ : Nat → Did) (pre : List Did) (j : Nat) (o : Oper) : Prop where
  ex : ∃ g, guardTmp ops o.guard = some g ∧ stepD tb call yld ops o (tmask o.op.operands.toList) (τ j) (rst (σ j)) = some (τ (j + 1), σ (j + 1)) ∧ ancX j pre o.after.toList = some (δ j).anc ∧
    (δ j).rd = (σ (j + 1)).rd ∧ (δ j).wr = Nat.lor (σ (j + 1)).wr (Nat.sub (Nat.shiftLeft 1 (σ (j + 1)).nx) (Nat.shiftLeft 1 (σ j).nx)) ∧
    (δ j).nm = Nat.lor (dmask o.dst) (Nat.lor g (tmask o.op.operands.toList)) ∧ (δ j).ds = dmask o.dst
  free : freeX (δ j) pre 0 = true

theorem drawX_chain {ops : List Oper} : ∀ (l : List Oper) (i : Nat) (ds ds' : List Did) (tm tm' : List Value) (s s' : St), drawX tb call yld ops l i ds tm s = some (tm', s', ds') →
    ∃ (σ : Nat → St) (τ : Nat → List Value) (δ : Nat → Did), σ i = s ∧ τ i = tm ∧ σ (i + l.length) = s' ∧ τ (i + l.length) = tm' ∧ ds' = ds ++ (List.range' i l.length).map δ ∧
      ∀ k o, l[k]? = some o → AtX tb call yld ops σ τ δ (ds ++ (List.range' i k).map δ) (i + k) o
  | [], i, ds, ds', tm, tm', s, s', h => by
    cases h
    exact ⟨fun _ => s, fun _ => tm, fun _ => ⟨0, 0, 0, 0, 0⟩, rfl, rfl, rfl, rfl, by simp, by simp⟩
  | o :: l, i, ds, ds', tm, tm', s, s', h => by
    simp only [drawX, forceN_eq] at h
    split at h
    · rename_i tm1 s1 h1
      split at h
      · rename_i anc g h2 h3
        split at h
        · rename_i h4
          obtain ⟨σ, τ, δ, e1, e2, e3, e4, e5, e6⟩ := drawX_chain l (i + 1) _ ds' tm1 tm' s1 s' h
          generalize hd : Did.mk anc s1.rd (Nat.lor s1.wr (Nat.sub (Nat.shiftLeft 1 s1.nx) (Nat.shiftLeft 1 s.nx))) (Nat.lor (dmask o.dst) (Nat.lor g (tmask o.op.operands.toList))) (dmask o.dst) = d at h4 e5 e6 h
          have hmap : ∀ k, ds ++ (List.range' i (k + 1)).map (fun j => if j = i then d else δ j) = ds ++ [d] ++ (List.range' (i + 1) k).map δ := by
            intro k
            rw [List.range'_succ, List.map_cons, if_pos rfl, List.append_assoc, List.singleton_append]
            congr 2
            refine List.map_congr_left fun j hj => ?_
            rw [if_neg (by have := List.mem_range'_1.1 hj; omega)]
          refine ⟨fun j => if j = i then s else σ j, fun j => if j = i then tm else τ j, fun j => if j = i then d else δ j, if_pos rfl, if_pos rfl, ?_, ?_, ?_, fun k ok hk => ?_⟩
          · rw [← e3]
            simp only [List.length_cons]
            rw [if_neg (by omega), show i + (l.length + 1) = i + 1 + l.length from by omega]
          · rw [← e4]
            simp only [List.length_cons]
            rw [if_neg (by omega), show i + (l.length + 1) = i + 1 + l.length from by omega]
          · rw [e5, List.length_cons, hmap]
          · cases k with
            | zero =>
              simp only [List.getElem?_cons_zero, Option.some.injEq] at hk
              subst hk
              simp only [List.range'_zero, List.map_nil, List.append_nil, Nat.add_zero]
              constructor
              · simp only [if_true, if_neg (show ¬ (i + 1 = i) by omega), e1, e2]
                refine ⟨g, h3, h1, ?_, ?_, ?_, ?_, ?_⟩ <;> rw [← hd]
                exact h2
              · simp only [if_true]; exact h4
            | succ k =>
              have hk' : l[k]? = some ok := by simpa using hk
              have := e6 k ok hk'
              rw [hmap]
              obtain ⟨q1, q2⟩ := this
              rw [show i + 1 + k = i + (k + 1) from by omega] at q1 q2
              constructor
              · simp only [if_neg (show ¬ (i + (k + 1) = i) by omega), if_neg (show ¬ (i + (k + 1) + 1 = i) by omega)]
                exact q1
              · simp only [if_neg (show ¬ (i + (k + 1) = i) by omega)]
                exact q2
        · cases h
      · cases h
    · cases h

theorem sumRd_ok {b : Nat} : ∀ {l : List Did} {d : Did}, d ∈ l → d.rd.testBit b = true → (sumRd l).testBit b = true
  | e :: l, d, h, hb => by
    simp only [sumRd]
    rw [lor_test]
    rcases List.mem_cons.1 h with rfl | h
    · rw [hb]; rfl
    · rw [sumRd_ok h hb]; simp
theorem sumWr_ok {b : Nat} : ∀ {l : List Did} {d : Did}, d ∈ l → d.wr.testBit b = true → (sumWr l).testBit b = true
  | e :: l, d, h, hb => by
    simp only [sumWr]
    rw [lor_test]
    rcases List.mem_cons.1 h with rfl | h
    · rw [hb]; rfl
    · rw [sumWr_ok h hb]; simp

theorem putE_eq {tm tm' : List Value} {d : Option Nat} {v : Value} (h : putE tm d v = some tm') : tm'.length = tm.length ∧ (∀ t, d ≠ some t → tm'[t]? = tm[t]?) ∧ ∀ t, d = some t → t < tm.length ∧ tm'[t]? = some v := by
  cases d with
  | none =>
    have : some tm = some tm' := h
    cases this
    exact ⟨rfl, fun _ _ => rfl, fun t ht => by cases ht⟩
  | some d =>
    have : setNth tm d v = some tm' := h
    obtain ⟨h1, rfl⟩ := setNth_eq _ _ _ _ this
    refine ⟨by simp, fun t ht => ?_, fun t ht => ?_⟩
    · rw [List.getElem?_set_ne (fun e => ht (by rw [e]))]
    · cases ht
      exact ⟨h1, by rw [List.getElem?_set_self h1]⟩

end
end Go.Proofs.YtnhcbfaomehaeaaGreatDoor.R1

/- A region whose order is drawn: what the text's order did, every order does. First the plain laws. -/
import Derived.Test.YtnhcbfaomehaeaaGreatDoorB3
namespace Go.Proofs.YtnhcbfaomehaeaaGreatDoor.R1
open Go
set_option linter.unusedVariables false
set_option linter.unusedSimpArgs false

/-! ## Places, their writers, and how far a place has come -/

section pre
variable {X Y : Type} {n : Nat} {W U : Nat → X → Prop} {anc : Nat → Nat → Prop} {σ : Nat → X → Y} {S S' : Nat → Prop}

/-- What is done of a place's writers is the writers ahead of m. -/
noncomputable def Pre (n : Nat) (W : Nat → X → Prop) (S : Nat → Prop) (x : X) (m : Nat) : Prop := m ≤ n ∧ (∀ j, j < m → W j x → S j) ∧ (∀ j, m ≤ j → j < n → W j x → ¬ S j)

noncomputable def Free (n : Nat) (W U : Nat → X → Prop) (anc : Nat → Nat → Prop) : Prop := ∀ i j, i < n → j < i → ¬ anc i j → ∀ x, (W i x → ¬ U j x) ∧ (W j x → ¬ U i x)

theorem pre_at (hF : Free n W U anc) {i : Nat} (hi : i < n) (hn : ¬ S i) (ha : ∀ j, anc i j → S j) (hc : ∀ j, S j → ∀ k, anc j k → S k) {x : X} (hx : U i x) : Pre n W S x i := by
  refine ⟨Nat.le_of_lt hi, fun j hj hw => ?_, fun j hj hjn hw hs => ?_⟩
  · exact Classical.byContradiction fun h => (hF i j hi hj (fun hh => h (ha j hh)) x).2 hw hx
  · rcases Nat.lt_or_ge i j with h | h
    · exact (hF j i hjn h (fun hh => hn (hc j hs i hh)) x).1 hw hx
    · have : j = i := by omega
      subst this; exact hn hs

theorem pre_after (hF : Free n W U anc) {i : Nat} (hWU : ∀ x, W i x → U i x) (hi : i < n) (hn : ¬ S i) (hc : ∀ j, S j → ∀ k, anc j k → S k) (hS : ∀ j, S' j ↔ j = i ∨ S j) {x : X} (hx : W i x) {m : Nat} (h : Pre n W S' x m) :
    i < m ∧ ∀ j, i < j → j < m → ¬ W j x := by
  obtain ⟨h1, h2, h3⟩ := h
  refine ⟨?_, fun j hj hjm hw => ?_⟩
  · rcases Nat.lt_or_ge i m with h | h
    · exact h
    · exact absurd ((hS i).2 (.inl rfl)) (h3 i h hi hx)
  · have hs := (hS j).1 (h2 j hjm hw)
    have hs : S j := hs.resolve_left (by omega)
    exact (hF j i (by omega) hj (fun hh => hn (hc j hs i hh)) x).1 hw (hWU x hx)

theorem pre_keep {i : Nat} (hS : ∀ j, S' j ↔ j = i ∨ S j) {x : X} (hx : ¬ W i x) {m : Nat} (h : Pre n W S' x m) : Pre n W S x m := by
  obtain ⟨h1, h2, h3⟩ := h
  refine ⟨h1, fun j hj hw => ?_, fun j hj hjn hw hs => h3 j hj hjn hw ((hS j).2 (.inr hs))⟩
  rcases (hS j).1 (h2 j hj hw) with e | h
  · subst e; exact absurd hw hx
  · exact h

theorem run_keep (hk : ∀ j, j < n → ∀ x, ¬ W j x → σ (j + 1) x = σ j x) {x : X} : ∀ (d i : Nat), i + d ≤ n → (∀ j, i ≤ j → j < i + d → ¬ W j x) → σ (i + d) x = σ i x
  | 0, _, _, _ => rfl
  | d + 1, i, h, hw => by
    rw [← Nat.add_assoc, hk (i + d) (by omega) x (hw _ (by omega) (by omega))]
    exact run_keep hk d i (by omega) fun j h1 h2 => hw j h1 (by omega)

/-- The step of what is told of every place. -/
theorem told_step (hF : Free n W U anc) {i : Nat} (hWU : ∀ x, W i x → U i x) (hk : ∀ j, j < n → ∀ x, ¬ W j x → σ (j + 1) x = σ j x) (hi : i < n) (hn : ¬ S i) (hc : ∀ j, S j → ∀ k, anc j k → S k) (hS : ∀ j, S' j ↔ j = i ∨ S j)
    {T T' : X → Y → Prop} (hT : ∀ x m, Pre n W S x m → T x (σ m x)) (h1 : ∀ x, W i x → T' x (σ (i + 1) x)) (h2 : ∀ x y, ¬ W i x → T x y → T' x y) : ∀ x m, Pre n W S' x m → T' x (σ m x) := by
  intro x m hp
  rcases Classical.em (W i x) with hw | hw
  · obtain ⟨h3, h4⟩ := pre_after hF hWU hi hn hc hS hw hp
    have := run_keep hk (x := x) (m - (i + 1)) (i + 1) (by have := hp.1; omega) fun j a b => h4 j (by omega) (by omega)
    rw [show i + 1 + (m - (i + 1)) = m from by omega] at this
    rw [this]; exact h1 x hw
  · exact h2 x _ hw (hT x m (pre_keep hS hw hp))
end pre

/-! ## The masks -/

theorem land_bit {m b : Nat} : Nat.beq (Nat.land m (bit b)) 0 = true ↔ m.testBit b = false := by
  rw [Nat.beq_eq]
  have h1 : ∀ j, (Nat.land m (bit b)).testBit j = (m.testBit j && decide (j = b)) := fun j => by
    rw [← bit_test]; exact Nat.testBit_and m (bit b) j
  constructor
  · intro h
    have := h1 b
    rw [h, Nat.zero_testBit] at this
    simpa using this.symm
  · intro h
    refine Nat.eq_of_testBit_eq fun j => ?_
    rw [h1, Nat.zero_testBit]
    by_cases e : j = b
    · subst e; simp [h]
    · simp [e]

theorem apart_ok {a b : Nat} (h : apart a b = true) (j : Nat) (h1 : a.testBit j = true) (h2 : b.testBit j = true) : False := by
  have e : Nat.land a b = 0 := Nat.eq_of_beq_eq_true h
  have : (Nat.land a b).testBit j = (a.testBit j && b.testBit j) := Nat.testBit_and a b j
  rw [e, Nat.zero_testBit, h1, h2] at this
  cases this

theorem freeX_ok {d : Did} : ∀ (l : List Did) (j : Nat), freeX d l j = true → ∀ k e, l[k]? = some e → d.anc.testBit (j + k) = true ∨
    (apart d.wr (Nat.lor e.rd e.wr) = true ∧ apart e.wr d.rd = true ∧ apart d.ds e.nm = true ∧ apart e.ds d.nm = true)
  | [], _, _, k, e, h => by simp at h
  | e :: l, j, hf, k, e', h => by
    simp only [freeX] at hf
    split at hf
    · rename_i hb
      cases k with
      | zero =>
        left
        cases ht : d.anc.testBit j with
        | true => rfl
        | false => rw [land_bit.2 ht] at hb; cases hb
      | succ k =>
        have := freeX_ok l (j + 1) hf k e' (by simpa using h)
        rwa [show j + 1 + k = j + (k + 1) from by omega] at this
    · split at hf
      · rename_i a1 a2 a3 a4
        cases k with
        | zero =>
          simp only [List.getElem?_cons_zero, Option.some.injEq] at h
          subst h
          exact .inr ⟨a1, a2, a3, a4⟩
        | succ k =>
          have := freeX_ok l (j + 1) hf k e' (by simpa using h)
          rwa [show j + 1 + k = j + (k + 1) from by omega] at this
      · cases hf

theorem ancX_ok {i : Nat} {ds : List Did} : ∀ (l : List Edge) (m : Nat), ancX i ds l = some m → (∀ e ∈ l, Region.binds .any e = true → e.on < i) ∧
    ∀ j, m.testBit j = true → ∃ e ∈ l, Region.binds .any e = true ∧ (j = e.on ∨ ∃ d, ds[e.on]? = some d ∧ d.anc.testBit j = true)
  | [], m, h => by
    cases h
    exact ⟨by simp, fun j hj => by rw [Nat.zero_testBit] at hj; cases hj⟩
  | e :: l, m, h => by
    simp only [ancX] at h
    split at h
    · rename_i m1 h1
      obtain ⟨q1, q2⟩ := ancX_ok l m1 h1
      split at h
      · rename_i hb
        cases h
        refine ⟨fun e' he' hb' => ?_, fun j hj => ?_⟩
        · rcases List.mem_cons.1 he' with rfl | he'
          · rw [hb] at hb'; cases hb'
          · exact q1 e' he' hb'
        · obtain ⟨e', h1, h2⟩ := q2 j hj
          exact ⟨e', List.mem_cons_of_mem _ h1, h2⟩
      · rename_i hb
        split at h
        · rename_i d hlt hd
          cases h
          rw [nth_eq] at hd
          refine ⟨fun e' he' hb' => ?_, fun j hj => ?_⟩
          · rcases List.mem_cons.1 he' with rfl | he'
            · exact blt_iff.1 hlt
            · exact q1 e' he' hb'
          · rw [lor_test, lor_test, bit_test] at hj
            simp only [Bool.or_eq_true, decide_eq_true_eq] at hj
            rcases hj with (hj | hj) | hj
            · exact ⟨e, List.mem_cons_self, hb, .inl hj⟩
            · exact ⟨e, List.mem_cons_self, hb, .inr ⟨d, hd, hj⟩⟩
            · obtain ⟨e', h1, h2⟩ := q2 j hj
              exact ⟨e', List.mem_cons_of_mem _ h1, h2⟩
        · cases h
    · cases h

theorem tmask_ok {t : Nat} : ∀ {l : List Operand}, Operand.tmp t ∈ l → (tmask l).testBit t = true
  | x :: l, h => by
    rcases List.mem_cons.1 h with rfl | h
    · simp only [tmask]; rw [lor_test, bit_test]; simp
    · have ih := tmask_ok h
      cases x <;> simp only [tmask] <;> first | exact ih | (rw [lor_test, ih]; simp)

theorem dmask_ok {d : Option Nat} {t : Nat} : (dmask d).testBit t = true ↔ d = some t := by
  cases d with
  | none => simp [dmask]
  | some d => simp only [dmask]; rw [bit_test]; simp [eq_comm]

end Go.Proofs.YtnhcbfaomehaeaaGreatDoor.R1

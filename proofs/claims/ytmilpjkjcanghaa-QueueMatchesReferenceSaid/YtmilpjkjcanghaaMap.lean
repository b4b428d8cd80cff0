/- A map from int to int, of the call's own. -/
import Derived.Test.YtmilpjkjcanghaaSort7
import Derived.MapKept
namespace Go.Proofs.Ytmilpjkjcanghaa
open Go.RowKit
set_option linter.unusedVariables false
set_option linter.unusedSimpArgs false

/-- An entry: key, value, birth. -/
structure Ent where
  k : Int
  v : Int
  b : Nat
def Ent.e (t : Ent) : MapEntry := ⟨.int .i64 t.k, .int .i64 t.v, t.b⟩
def entsOf (M : List Ent) : Array MapEntry := (M.map Ent.e).toArray

def findM (k : Int) : List Ent → Nat → Option (Nat × Value)
  | [], _ => none
  | t :: r, i => if k = t.k then some (i, .int .i64 t.v) else findM k r (i + 1)
theorem findM_some {k : Int} : ∀ {M : List Ent} {j i : Nat} {v : Value}, findM k M j = some (i, v) → ∃ t, j ≤ i ∧ M[i - j]? = some t ∧ t.k = k ∧ v = .int .i64 t.v
  | [], j, i, v, h => by simp [findM] at h
  | t :: r, j, i, v, h => by
    simp only [findM] at h
    split at h
    · rename_i hk
      cases h
      exact ⟨t, Nat.le_refl _, by simp, hk.symm, rfl⟩
    · obtain ⟨u, h1, h2, h3, h4⟩ := findM_some h
      refine ⟨u, by omega, ?_, h3, h4⟩
      rw [show i - j = (i - (j + 1)) + 1 from by omega]
      simpa using h2
theorem findM_none {k : Int} : ∀ {M : List Ent} {j : Nat}, findM k M j = none → ∀ t ∈ M, t.k ≠ k
  | [], j, h, t, ht => by cases ht
  | u :: r, j, h, t, ht => by
    simp only [findM] at h
    split at h
    · cases h
    · rename_i hk
      rcases List.mem_cons.1 ht with rfl | ht
      · exact fun e => hk e.symm
      · exact findM_none h t ht

theorem findNow_ents (k : Int) (d : IntKind) : ∀ (M : List Ent) (i : Nat), Instr.findNow (.int d) (.int .i64 k) (M.map Ent.e) i = some (findM k M i)
  | [], i => rfl
  | t :: r, i => by
    simp only [List.map_cons, Instr.findNow, Ent.e, Instr.sameNow, if_true]
    by_cases h : k = t.k
    · simp [h, findM]
    · have : (k == t.k) = false := by simpa using h
      simp only [this, findM, if_neg h]
      exact findNow_ents k d r (i + 1)

/-- The map m. -/
structure MapOk (M : List Ent) (clock : Nat) (m : Int → Option Int) : Prop where
  keys : M.Pairwise fun s t => s.k ≠ t.k
  births : M.Pairwise fun s t => s.b ≠ t.b
  clock : ∀ t ∈ M, t.b < clock
  get : ∀ k v, m k = some v ↔ ∃ t ∈ M, t.k = k ∧ t.v = v

theorem MapOk.nil : MapOk [] 0 (fun _ => none) := ⟨.nil, .nil, fun t ht => (by cases ht), fun k v => by simp⟩
theorem MapOk.find {M : List Ent} {clock : Nat} {m : Int → Option Int} (h : MapOk M clock m) (k : Int) : (findM k M 0).map (·.2) = (m k).map (Value.int .i64) := by
  cases hf : findM k M 0 with
  | none =>
    cases hm : m k with
    | none => rfl
    | some v =>
      obtain ⟨t, ht, h1, _⟩ := (h.get k v).1 hm
      exact absurd h1 (findM_none hf t ht)
  | some p =>
    obtain ⟨i, v⟩ := p
    obtain ⟨t, _, h2, h3, h4⟩ := findM_some hf
    have := (h.get k t.v).2 ⟨t, List.mem_of_getElem? h2, h3, rfl⟩
    rw [this, h4]; rfl

theorem mem_set {M : List Ent} {i : Nat} {t x : Ent} (hi : i < M.length) : x ∈ M.set i t ↔ x = t ∨ ∃ j, j ≠ i ∧ M[j]? = some x := by
  rw [List.mem_iff_getElem?]
  constructor
  · rintro ⟨j, hj⟩
    rw [List.getElem?_set] at hj
    by_cases hne : i = j
    · rw [if_pos hne, if_pos hi] at hj
      left; simpa using hj.symm
    · rw [if_neg hne] at hj
      exact .inr ⟨j, fun e => hne e.symm, hj⟩
  · rintro (rfl | ⟨j, hne, hj⟩)
    · exact ⟨i, by rw [List.getElem?_set, if_pos rfl, if_pos hi]⟩
    · exact ⟨j, by rw [List.getElem?_set, if_neg (fun e => hne e.symm)]; exact hj⟩

theorem key_one {M : List Ent} (h : M.Pairwise fun s t => s.k ≠ t.k) {i j : Nat} {s t : Ent} (hi : M[i]? = some s) (hj : M[j]? = some t) (hk : s.k = t.k) : i = j := by
  obtain ⟨hi1, rfl⟩ := List.getElem?_eq_some_iff.1 hi
  obtain ⟨hj1, rfl⟩ := List.getElem?_eq_some_iff.1 hj
  rcases Nat.lt_trichotomy i j with h1 | h1 | h1
  · exact absurd hk (List.pairwise_iff_getElem.1 h i j hi1 hj1 h1)
  · exact h1
  · exact absurd hk.symm (List.pairwise_iff_getElem.1 h j i hj1 hi1 h1)
theorem birth_one {M : List Ent} (h : M.Pairwise fun s t => s.b ≠ t.b) {i j : Nat} {s t : Ent} (hi : M[i]? = some s) (hj : M[j]? = some t) (hk : s.b = t.b) : i = j := by
  obtain ⟨hi1, rfl⟩ := List.getElem?_eq_some_iff.1 hi
  obtain ⟨hj1, rfl⟩ := List.getElem?_eq_some_iff.1 hj
  rcases Nat.lt_trichotomy i j with h1 | h1 | h1
  · exact absurd hk (List.pairwise_iff_getElem.1 h i j hi1 hj1 h1)
  · exact h1
  · exact absurd hk.symm (List.pairwise_iff_getElem.1 h j i hj1 hi1 h1)

theorem pairwise_set {R : Ent → Ent → Prop} {M : List Ent} (h : M.Pairwise R) {i : Nat} {t u : Ent} (hi : M[i]? = some t) (hl : ∀ x, R x t → R x u) (hr : ∀ x, R t x → R u x) : (M.set i u).Pairwise R := by
  obtain ⟨hi1, rfl⟩ := List.getElem?_eq_some_iff.1 hi
  rw [List.pairwise_iff_getElem] at *
  intro a b ha hb hab
  rw [List.length_set] at ha hb
  have h0 := h a b ha hb hab
  rw [List.getElem_set, List.getElem_set]
  split
  · rename_i e
    subst e
    rw [if_neg (by omega)]
    exact hr _ h0
  · split
    · rename_i e
      subst e
      exact hl _ h0
    · exact h0

def updM (m : Int → Option Int) (k : Int) (v : Option Int) : Int → Option Int := fun x => if x = k then v else m x

/-- The value of an entry that is there. -/
theorem MapOk.put {M : List Ent} {clock : Nat} {m : Int → Option Int} (h : MapOk M clock m) {i : Nat} {t : Ent} (hi : M[i]? = some t) (v : Int) : MapOk (M.set i { t with v := v }) clock (updM m t.k (some v)) := by
  have hil : i < M.length := (List.getElem?_eq_some_iff.1 hi).1
  refine ⟨pairwise_set h.keys hi (fun _ h => h) (fun _ h => h), pairwise_set h.births hi (fun _ h => h) (fun _ h => h), fun x hx => ?_, fun k w => ?_⟩
  · rcases (mem_set hil).1 hx with rfl | ⟨j, _, hj⟩
    · exact h.clock t (List.mem_of_getElem? hi)
    · exact h.clock x (List.mem_of_getElem? hj)
  · unfold updM
    by_cases hk : k = t.k
    · subst hk
      rw [if_pos rfl]
      constructor
      · intro e
        cases e
        exact ⟨_, (mem_set hil).2 (.inl rfl), rfl, rfl⟩
      · rintro ⟨x, hx, hxk, hxv⟩
        rcases (mem_set hil).1 hx with rfl | ⟨j, hne, hj⟩
        · rw [← hxv]
        · exact absurd (key_one h.keys hj hi hxk) hne
    · rw [if_neg hk, h.get]
      constructor
      · rintro ⟨x, hx, hxk, hxv⟩
        obtain ⟨j, hj⟩ := List.mem_iff_getElem?.1 hx
        refine ⟨x, (mem_set hil).2 (.inr ⟨j, ?_, hj⟩), hxk, hxv⟩
        rintro rfl
        rw [hi] at hj
        cases hj
        exact hk hxk.symm
      · rintro ⟨x, hx, hxk, hxv⟩
        rcases (mem_set hil).1 hx with rfl | ⟨j, hne, hj⟩
        · exact absurd hxk.symm hk
        · exact ⟨x, List.mem_of_getElem? hj, hxk, hxv⟩

/-- A new entry. -/
theorem MapOk.add {M : List Ent} {clock : Nat} {m : Int → Option Int} (h : MapOk M clock m) {k : Int} (hk : m k = none) (v : Int) : MapOk (M ++ [⟨k, v, clock⟩]) (clock + 1) (updM m k (some v)) := by
  have hno : ∀ t ∈ M, t.k ≠ k := fun t ht e => by
    have := (h.get k t.v).2 ⟨t, ht, e, rfl⟩
    rw [hk] at this; cases this
  refine ⟨List.pairwise_append.2 ⟨h.keys, List.pairwise_singleton _ _, fun x hx y hy => by rw [List.mem_singleton.1 hy]; exact hno x hx⟩,
    List.pairwise_append.2 ⟨h.births, List.pairwise_singleton _ _, fun x hx y hy => by rw [List.mem_singleton.1 hy]; have := h.clock x hx; simp only; omega⟩, fun x hx => ?_, fun x w => ?_⟩
  · rcases List.mem_append.1 hx with hx | hx
    · have := h.clock x hx; omega
    · rw [List.mem_singleton.1 hx]; simp
  · unfold updM
    by_cases hx : x = k
    · subst hx
      rw [if_pos rfl]
      constructor
      · intro e; cases e; exact ⟨⟨x, v, clock⟩, by simp, rfl, rfl⟩
      · rintro ⟨t, ht, htk, htv⟩
        rcases List.mem_append.1 ht with ht | ht
        · exact absurd htk (hno t ht)
        · rw [List.mem_singleton.1 ht] at htv; rw [← htv]
    · rw [if_neg hx, h.get]
      constructor
      · rintro ⟨t, ht, h1, h2⟩; exact ⟨t, List.mem_append_left _ ht, h1, h2⟩
      · rintro ⟨t, ht, h1, h2⟩
        rcases List.mem_append.1 ht with ht | ht
        · exact ⟨t, ht, h1, h2⟩
        · rw [List.mem_singleton.1 ht] at h1; exact absurd h1.symm hx

/-- An entry less. -/
theorem MapOk.del {M : List Ent} {clock : Nat} {m : Int → Option Int} (h : MapOk M clock m) {i : Nat} {t : Ent} (hi : M[i]? = some t) : MapOk (M.eraseIdx i) clock (updM m t.k none) := by
  have hil : i < M.length := (List.getElem?_eq_some_iff.1 hi).1
  have hmem : ∀ x, x ∈ M.eraseIdx i ↔ ∃ j, j ≠ i ∧ M[j]? = some x := fun x => by
    rw [List.mem_iff_getElem?]
    constructor
    · rintro ⟨j, hj⟩
      rw [List.getElem?_eraseIdx] at hj
      split at hj
      · exact ⟨j, by omega, hj⟩
      · exact ⟨j + 1, by omega, hj⟩
    · rintro ⟨j, hne, hj⟩
      rcases Nat.lt_or_ge j i with hlt | hge
      · exact ⟨j, by rw [List.getElem?_eraseIdx, if_pos hlt]; exact hj⟩
      · exact ⟨j - 1, by rw [List.getElem?_eraseIdx, if_neg (by omega), show j - 1 + 1 = j from by omega]; exact hj⟩
  have hsub : (M.eraseIdx i).Sublist M := List.eraseIdx_sublist _ _
  refine ⟨h.keys.sublist hsub, h.births.sublist hsub, fun x hx => h.clock x (hsub.subset hx), fun k w => ?_⟩
  unfold updM
  by_cases hk : k = t.k
  · subst hk
    rw [if_pos rfl]
    constructor
    · intro e; cases e
    · rintro ⟨x, hx, hxk, _⟩
      obtain ⟨j, hne, hj⟩ := (hmem x).1 hx
      exact absurd (key_one h.keys hj hi hxk) hne
  · rw [if_neg hk, h.get]
    constructor
    · rintro ⟨x, hx, hxk, hxv⟩
      obtain ⟨j, hj⟩ := List.mem_iff_getElem?.1 hx
      refine ⟨x, (hmem x).2 ⟨j, ?_, hj⟩, hxk, hxv⟩
      rintro rfl
      rw [hi] at hj; cases hj
      exact hk hxk.symm
    · rintro ⟨x, hx, hxk, hxv⟩
      exact ⟨x, hsub.subset hx, hxk, hxv⟩

end Go.Proofs.Ytmilpjkjcanghaa

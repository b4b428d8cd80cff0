/- The heap, as a plain list. -/
import Derived.Test.YtmilpjkjcanghaaSort6
import Derived.Test.YtmilpjkjcanghaaMap
namespace Go.Proofs.Ytmilpjkjcanghaa
open Go.RowKit
set_option linter.unusedVariables false
set_option linter.unusedSimpArgs false

def at_ (L : List PV) (i : Nat) : PV := L.getD i PV.zero
def par (k : Nat) : Nat := (k - 1) / 2
def leA (L : List PV) (i k : Nat) : Prop := leP (at_ L i) (at_ L k)
/-- The first n are a heap. -/
def Heap (n : Nat) (L : List PV) : Prop := ∀ k, 0 < k → k < n → leA L (par k) k

theorem swapAt_len (L : List PV) (i j : Nat) : (swapAt L i j).length = L.length := by simp [swapAt]
theorem swapAt_at {L : List PV} {i j : Nat} (hi : i < L.length) (hj : j < L.length) (k : Nat) : at_ (swapAt L i j) k = if k = j then at_ L i else if k = i then at_ L j else at_ L k := by
  unfold swapAt at_
  simp only [List.getD_eq_getElem?_getD, List.getElem?_set, List.length_set]
  by_cases h1 : k = j
  · subst h1; simp [hj]
  · rw [if_neg (fun e => h1 e.symm), if_neg h1]
    by_cases h2 : k = i
    · subst h2; simp [hi]
    · rw [if_neg (fun e => h2 e.symm), if_neg h2]
theorem swapAt_mem {L : List PV} {i j : Nat} (hi : i < L.length) (hj : j < L.length) (x : PV) : x ∈ swapAt L i j ↔ x ∈ L := by
  have hm : ∀ (M : List PV) (x : PV), x ∈ M ↔ ∃ k, k < M.length ∧ at_ M k = x := fun M x => by
    rw [List.mem_iff_getElem]
    constructor
    · rintro ⟨k, hk, e⟩; exact ⟨k, hk, by unfold at_; rw [getD_at hk]; exact e⟩
    · rintro ⟨k, hk, e⟩; refine ⟨k, hk, ?_⟩; unfold at_ at e; rw [getD_at hk] at e; exact e
  rw [hm, hm]
  constructor
  · rintro ⟨k, hk, e⟩
    rw [swapAt_len] at hk
    rw [swapAt_at hi hj] at e
    split at e
    · exact ⟨i, hi, e⟩
    · split at e
      · exact ⟨j, hj, e⟩
      · exact ⟨k, hk, e⟩
  · rintro ⟨k, hk, e⟩
    by_cases h1 : k = i
    · subst h1
      exact ⟨j, by rw [swapAt_len]; exact hj, by rw [swapAt_at hi hj, if_pos rfl]; exact e⟩
    · by_cases h2 : k = j
      · subst h2
        refine ⟨i, by rw [swapAt_len]; exact hi, ?_⟩
        rw [swapAt_at hi hj]
        by_cases h3 : i = k
        · rw [if_pos h3, h3]; exact e
        · rw [if_neg h3, if_pos rfl]; exact e
      · exact ⟨k, by rw [swapAt_len]; exact hk, by rw [swapAt_at hi hj, if_neg h2, if_neg h1]; exact e⟩

/-- Going up from j. -/
def UpInv (n : Nat) (L : List PV) (j : Nat) : Prop := (∀ k, 0 < k → k < n → k ≠ j → leA L (par k) k) ∧ (∀ k, 0 < k → k < n → par k = j → 0 < j → leA L (par j) k)
theorem UpInv.done {n : Nat} {L : List PV} {j : Nat} (h : UpInv n L j) (h1 : j = 0 ∨ leA L (par j) j) : Heap n L := fun k hk hn => by
  by_cases e : k = j
  · subst e
    rcases h1 with h1 | h1
    · omega
    · exact h1
  · exact h.1 k hk hn e
theorem UpInv.step {n : Nat} {L : List PV} {j : Nat} (h : UpInv n L j) (hj : j < n) (hn : n ≤ L.length) (h0 : 0 < j) (hlt : cmpP (at_ L j) (at_ L (par j)) < 0) : UpInv n (swapAt L (par j) j) (par j) := by
  have hpj : par j < j := by unfold par; omega
  have hi : par j < L.length := by omega
  have hjl : j < L.length := by omega
  obtain ⟨hA, hB⟩ := h
  have hle : leA L j (par j) := leP_of_lt hlt
  unfold leA at *
  refine ⟨fun k hk hkn hne => ?_, fun k hk hkn hpk hi0 => ?_⟩
  · show leP _ _
    rw [swapAt_at hi hjl, swapAt_at hi hjl]
    by_cases h1 : k = j
    · subst h1
      rw [if_neg (by omega), if_pos rfl, if_pos rfl]
      exact hle
    · rw [if_neg h1, if_neg hne]
      by_cases h2 : par k = j
      · rw [if_pos h2]; exact hB k hk hkn h2 h0
      · rw [if_neg h2]
        by_cases h3 : par k = par j
        · rw [if_pos h3]
          exact hle.trans (by have := hA k hk hkn h1; rwa [h3] at this)
        · rw [if_neg h3]; exact hA k hk hkn h1
  · have hpp : par (par j) < par j := by unfold par at *; omega
    show leP _ _
    rw [swapAt_at hi hjl, swapAt_at hi hjl, if_neg (by omega), if_neg (by omega)]
    have hgp := hA (par j) hi0 (by omega) (by omega)
    by_cases h1 : k = j
    · rw [if_pos h1]; exact hgp
    · rw [if_neg h1, if_neg (by unfold par at *; omega)]
      have := hA k hk hkn h1
      rw [hpk] at this
      exact hgp.trans this

/-- Going down from i; it began at i0. -/
structure DownInv (n : Nat) (L : List PV) (i0 i : Nat) : Prop where
  a : ∀ k, 0 < k → k < n → par k ≠ i → (i = i0 → k ≠ i0) → leA L (par k) k
  b : ∀ k, 0 < k → k < n → par k = i → 0 < i → leA L (par i) k
  le : i0 ≤ i

theorem DownInv.moved {n : Nat} {L : List PV} {i0 i : Nat} (h : DownInv n L i0 i) (hi : i ≠ i0) (hc : ∀ k, 0 < k → k < n → par k = i → leA L i k) : Heap n L := fun k hk hn => by
  by_cases e : par k = i
  · rw [e]; exact hc k hk hn e
  · exact h.a k hk hn e (fun e2 => absurd e2 hi)
theorem DownInv.stayed {n : Nat} {L : List PV} {i0 : Nat} (h : DownInv n L i0 i0) (hc : ∀ k, 0 < k → k < n → par k = i0 → leA L i0 k) : UpInv n L i0 :=
  ⟨fun k hk hn hne => by
    by_cases e : par k = i0
    · rw [e]; exact hc k hk hn e
    · exact h.a k hk hn e (fun _ => hne), h.b⟩
theorem DownInv.step {n : Nat} {L : List PV} {i0 i j : Nat} (h : DownInv n L i0 i) (hn : n ≤ L.length) (hj0 : 0 < j) (hj : j < n) (hp : par j = i) (hlt : cmpP (at_ L j) (at_ L i) < 0) (hmin : ∀ k, 0 < k → k < n → par k = i → leA L j k) : DownInv n (swapAt L i j) i0 j := by
  have hij : i < j := by rw [← hp]; unfold par; omega
  have hil : i < L.length := by omega
  have hjl : j < L.length := by omega
  have hle := h.le
  have hlt' : leA L j i := leP_of_lt hlt
  refine ⟨fun k hk hkn hpk hmv => ?_, fun k hk hkn hpk h0 => ?_, by omega⟩
  · unfold leA at *
    rw [swapAt_at hil hjl, swapAt_at hil hjl]
    rw [if_neg hpk]
    by_cases h1 : par k = i
    · rw [if_pos h1]
      by_cases h2 : k = j
      · rw [if_pos h2]; exact hlt'
      · rw [if_neg h2, if_neg (by intro e; subst e; unfold par at h1; omega)]
        exact hmin k hk hkn h1
    · rw [if_neg h1]
      by_cases h2 : k = j
      · exact absurd (h2 ▸ hp) h1
      · rw [if_neg h2]
        by_cases h3 : k = i
        · rw [if_pos h3, h3]
          rw [h3] at hk
          exact h.b j hj0 hj hp hk
        · rw [if_neg h3]
          exact h.a k hk hkn h1 (fun e e2 => h3 (by omega))
  · unfold leA at *
    have hkj : j < k := by rw [← hpk]; unfold par; omega
    rw [swapAt_at hil hjl, swapAt_at hil hjl, if_neg (by rw [hp]; omega), if_pos hp, if_neg (by omega), if_neg (by omega)]
    have := h.a k hk hkn (by rw [hpk]; omega) (fun e => by omega)
    rw [hpk] at this
    exact this

/-- The map knows each pod's place. -/
structure POk (L : List PV) (m : Int → Option Int) : Prop where
  at_ : ∀ i, i < L.length → m (at_ L i).id = some (i : Int)
  of_ : ∀ x v, m x = some v → ∃ i, i < L.length ∧ v = (i : Int) ∧ (Go.Proofs.Ytmilpjkjcanghaa.at_ L i).id = x
theorem POk.inj {L : List PV} {m : Int → Option Int} (h : POk L m) {i j : Nat} (hi : i < L.length) (hj : j < L.length) (e : (Go.Proofs.Ytmilpjkjcanghaa.at_ L i).id = (Go.Proofs.Ytmilpjkjcanghaa.at_ L j).id) : i = j := by
  have h1 := h.at_ i hi
  have h2 := h.at_ j hj
  rw [e, h2] at h1
  injection h1 with h1
  omega
theorem POk.nil : POk [] (fun _ => none) := ⟨fun i h => by simp at h, fun x v h => by cases h⟩
theorem POk.swap {L : List PV} {m : Int → Option Int} (h : POk L m) {i k : Nat} (hi : i < L.length) (hk : k < L.length) : POk (swapAt L i k) (updM (updM m (L.getD k PV.zero).id (some (i : Int))) (L.getD i PV.zero).id (some (k : Int))) := by
  have e1 : (L.getD k PV.zero) = Go.Proofs.Ytmilpjkjcanghaa.at_ L k := rfl
  have e2 : (L.getD i PV.zero) = Go.Proofs.Ytmilpjkjcanghaa.at_ L i := rfl
  rw [e1, e2]
  refine ⟨fun j hj => ?_, fun x v hx => ?_⟩
  · rw [swapAt_len] at hj
    rw [swapAt_at hi hk]
    unfold updM
    by_cases h1 : j = k
    · rw [if_pos h1, if_pos rfl, h1]
    · rw [if_neg h1]
      by_cases h2 : j = i
      · rw [if_pos h2, if_neg (fun e => h1 (by have := h.inj hk hi e; omega)), if_pos rfl, h2]
      · rw [if_neg h2, if_neg (fun e => h2 (h.inj hj hi e)), if_neg (fun e => h1 (h.inj hj hk e))]
        exact h.at_ j hj
  · unfold updM at hx
    split at hx
    · rename_i e
      cases hx
      exact ⟨k, by rw [swapAt_len]; exact hk, rfl, by rw [swapAt_at hi hk, if_pos rfl, e]⟩
    · rename_i hne
      split at hx
      · rename_i e
        cases hx
        refine ⟨i, by rw [swapAt_len]; exact hi, rfl, ?_⟩
        rw [swapAt_at hi hk]
        by_cases h3 : i = k
        · exact absurd (by rw [e, ← h3]) hne
        · rw [if_neg h3, if_pos rfl, e]
      · rename_i hne2
        obtain ⟨j, hj, rfl, hjx⟩ := h.of_ x v hx
        refine ⟨j, by rw [swapAt_len]; exact hj, rfl, ?_⟩
        rw [swapAt_at hi hk, if_neg (by rintro rfl; exact hne2 hjx.symm), if_neg (by rintro rfl; exact hne hjx.symm)]
        exact hjx
theorem POk.add {L : List PV} {m : Int → Option Int} (h : POk L m) {p : PV} (hp : m p.id = none) : POk (L ++ [p]) (updM m p.id (some (L.length : Int))) := by
  have ha : ∀ i, i < L.length → Go.Proofs.Ytmilpjkjcanghaa.at_ (L ++ [p]) i = Go.Proofs.Ytmilpjkjcanghaa.at_ L i := fun i hi => by
    unfold Go.Proofs.Ytmilpjkjcanghaa.at_
    rw [List.getD_eq_getElem?_getD, List.getD_eq_getElem?_getD, List.getElem?_append_left hi]
  have hb : Go.Proofs.Ytmilpjkjcanghaa.at_ (L ++ [p]) L.length = p := by
    unfold Go.Proofs.Ytmilpjkjcanghaa.at_
    rw [List.getD_eq_getElem?_getD, List.getElem?_append_right (Nat.le_refl _), Nat.sub_self]; rfl
  refine ⟨fun i hi => ?_, fun x v hx => ?_⟩
  · rw [List.length_append, List.length_singleton] at hi
    unfold updM
    by_cases e : i = L.length
    · rw [e, hb, if_pos rfl]
    · rw [ha i (by omega), if_neg (fun e2 => by have := h.at_ i (by omega); rw [e2, hp] at this; cases this)]
      exact h.at_ i (by omega)
  · unfold updM at hx
    split at hx
    · rename_i e
      cases hx
      exact ⟨L.length, by simp, rfl, by rw [hb, e]⟩
    · obtain ⟨j, hj, rfl, hjx⟩ := h.of_ x v hx
      exact ⟨j, by rw [List.length_append]; omega, rfl, by rw [ha j hj]; exact hjx⟩
theorem POk.pop {L : List PV} {m : Int → Option Int} {p : PV} (h : POk (L ++ [p]) m) : POk L (updM m p.id none) := by
  have ha : ∀ i, i < L.length → Go.Proofs.Ytmilpjkjcanghaa.at_ (L ++ [p]) i = Go.Proofs.Ytmilpjkjcanghaa.at_ L i := fun i hi => by
    unfold Go.Proofs.Ytmilpjkjcanghaa.at_
    rw [List.getD_eq_getElem?_getD, List.getD_eq_getElem?_getD, List.getElem?_append_left hi]
  have hb : Go.Proofs.Ytmilpjkjcanghaa.at_ (L ++ [p]) L.length = p := by
    unfold Go.Proofs.Ytmilpjkjcanghaa.at_
    rw [List.getD_eq_getElem?_getD, List.getElem?_append_right (Nat.le_refl _), Nat.sub_self]; rfl
  have hlen : (L ++ [p]).length = L.length + 1 := by simp
  refine ⟨fun i hi => ?_, fun x v hx => ?_⟩
  · unfold updM
    rw [if_neg (fun e => by have := h.inj (i := i) (j := L.length) (by omega) (by omega) (by rw [ha i hi, hb]; exact e); omega)]
    have := h.at_ i (by omega)
    rwa [ha i hi] at this
  · unfold updM at hx
    split at hx
    · cases hx
    · rename_i hne
      obtain ⟨j, hj, rfl, hjx⟩ := h.of_ x v hx
      have hjl : j < L.length := by
        rcases Nat.lt_or_ge j L.length with h1 | h1
        · exact h1
        · have : j = L.length := by omega
          rw [this, hb] at hjx
          exact absurd hjx.symm hne
      exact ⟨j, hjl, rfl, by rw [ha j hjl] at hjx; exact hjx⟩

end Go.Proofs.Ytmilpjkjcanghaa

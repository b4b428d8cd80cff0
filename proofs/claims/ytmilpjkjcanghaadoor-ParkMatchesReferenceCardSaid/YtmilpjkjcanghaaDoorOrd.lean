/- The order of the pods, as plain lists: sorted, stable, and what of it is one alone. -/
import Derived.Test.YtmilpjkjcanghaaDoorRank9
namespace Go.Proofs.YtmilpjkjcanghaaDoor
open Go.RowKit
set_option linter.unusedVariables false
set_option linter.unusedSimpArgs false

theorem cmpP_lt (p q : PV) : cmpP p q < 0 ↔ q.prio < p.prio ∨ q.prio = p.prio ∧ (p.arr < q.arr ∨ p.arr = q.arr ∧ p.id < q.id) := by
  unfold cmpP orI orI orI orI cmpI
  by_cases h1 : q.prio < p.prio <;> by_cases h2 : p.prio < q.prio <;> by_cases h3 : p.arr < q.arr <;> by_cases h4 : q.arr < p.arr <;> by_cases h5 : p.id < q.id <;> by_cases h6 : q.id < p.id <;> simp [h1, h2, h3, h4, h5, h6] <;> omega
theorem cmpP_neg (p q : PV) : cmpP q p = -cmpP p q := by
  unfold cmpP orI orI orI orI cmpI
  by_cases h1 : q.prio < p.prio <;> by_cases h2 : p.prio < q.prio <;> by_cases h3 : p.arr < q.arr <;> by_cases h4 : q.arr < p.arr <;> by_cases h5 : p.id < q.id <;> by_cases h6 : q.id < p.id <;> simp [h1, h2, h3, h4, h5, h6] <;> omega
theorem cmpP_self (p : PV) : cmpP p p = 0 := by have := cmpP_neg p p; omega

def leP (p q : PV) : Prop := ¬ cmpP q p < 0
theorem leP_iff (p q : PV) : leP p q ↔ q.prio < p.prio ∨ q.prio = p.prio ∧ (p.arr < q.arr ∨ p.arr = q.arr ∧ p.id ≤ q.id) := by
  unfold leP; rw [cmpP_lt]; omega
theorem leP.trans {p q r : PV} (h : leP p q) (k : leP q r) : leP p r := by rw [leP_iff] at *; omega
theorem leP_refl (p : PV) : leP p p := by rw [leP_iff]; omega
theorem leP_total (p q : PV) : leP p q ∨ leP q p := by rw [leP_iff, leP_iff]; omega
theorem leP_of_lt {p q : PV} (h : cmpP p q < 0) : leP p q := by rw [leP_iff]; rw [cmpP_lt] at h; omega
theorem eqP_iff (p q : PV) : cmpP p q = 0 ↔ p.prio = q.prio ∧ p.arr = q.arr ∧ p.id = q.id := by
  have h1 := cmpP_lt p q
  have h2 := cmpP_lt q p
  have h3 := cmpP_neg p q
  omega
/-- Alike in the order. -/
def eqv (z p : PV) : Bool := decide (cmpP p z = 0)
def Srt (L : List PV) : Prop := L.Pairwise leP
def Stab (L M : List PV) : Prop := L.length = M.length ∧ ∀ z, L.filter (eqv z) = M.filter (eqv z)
theorem Stab.refl (L : List PV) : Stab L L := ⟨rfl, fun _ => rfl⟩
theorem Stab.symm {L M : List PV} (h : Stab L M) : Stab M L := ⟨h.1.symm, fun z => (h.2 z).symm⟩
theorem Stab.trans {L M K : List PV} (h : Stab L M) (k : Stab M K) : Stab L K := ⟨h.1.trans k.1, fun z => (h.2 z).trans (k.2 z)⟩
theorem Stab.app {L M L' M' : List PV} (h : Stab L L') (k : Stab M M') : Stab (L ++ M) (L' ++ M') := ⟨by simp [h.1, k.1], fun z => by rw [List.filter_append, List.filter_append, h.2 z, k.2 z]⟩
theorem Stab.mem {L M : List PV} (h : Stab L M) (x : PV) : x ∈ L ↔ x ∈ M := by
  have h1 : ∀ K : List PV, x ∈ K ↔ x ∈ K.filter (eqv x) := fun K => by simp [eqv, cmpP_self]
  rw [h1 L, h1 M, h.2 x]
theorem Stab.swap {U V : List PV} (h : ∀ x ∈ U, ∀ y ∈ V, cmpP x y ≠ 0) : Stab (U ++ V) (V ++ U) := ⟨by simp; omega, fun z => by
  rw [List.filter_append, List.filter_append]
  by_cases hu : U.filter (eqv z) = []
  · rw [hu]; simp
  · by_cases hv : V.filter (eqv z) = []
    · rw [hv]; simp
    · exfalso
      obtain ⟨x, hx⟩ := List.exists_mem_of_ne_nil _ hu
      obtain ⟨y, hy⟩ := List.exists_mem_of_ne_nil _ hv
      rw [List.mem_filter] at hx hy
      refine h x hx.1 y hy.1 ?_
      have h1 := of_decide_eq_true hx.2
      have h2 := of_decide_eq_true hy.2
      rw [eqP_iff] at *
      omega⟩

/-- Sorted and stable: one list alone. -/
theorem srt_one : ∀ (L M : List PV), Srt L → Srt M → Stab L M → L = M
  | [], M, _, _, h => (List.length_eq_zero_iff.1 h.1.symm).symm
  | x :: L, [], _, _, h => by simpa using h.1
  | x :: L, y :: M, hL, hM, h => by
    have hLx := (List.pairwise_cons.1 hL)
    have hMy := (List.pairwise_cons.1 hM)
    have hx : x ∈ y :: M := (h.mem x).1 List.mem_cons_self
    have hy : y ∈ x :: L := (h.mem y).2 List.mem_cons_self
    have h1 : leP y x := (List.mem_cons.1 hx).elim (fun e => e ▸ leP_refl _) (hMy.1 x)
    have h2 : leP x y := (List.mem_cons.1 hy).elim (fun e => e ▸ leP_refl _) (hLx.1 y)
    have h3 : cmpP x y = 0 := by rw [leP_iff] at h1 h2; rw [eqP_iff]; omega
    have h4 : cmpP y y = 0 := cmpP_self y
    have h5 := h.2 y
    rw [List.filter_cons_of_pos (by simp [eqv, h3]), List.filter_cons_of_pos (by simp [eqv, h4])] at h5
    have hxy : x = y := by injection h5
    subst hxy
    rw [srt_one L M hLx.2 hMy.2 ⟨by simpa using h.1, fun z => by
      have := h.2 z
      by_cases hz : eqv z x
      · rw [List.filter_cons_of_pos hz, List.filter_cons_of_pos hz] at this; injection this
      · rw [List.filter_cons_of_neg hz, List.filter_cons_of_neg hz] at this; exact this⟩]

theorem posOf_spec (x : PV) (out : List PV) : ∀ k, k ≤ out.length → (∀ i (h : i < out.length), posOf x out k ≤ i → i < k → cmpP x out[i] < 0) ∧ (∀ i (h : i < out.length), i + 1 = posOf x out k → leP out[i] x)
  | 0, _ => ⟨fun i _ _ h => by omega, fun i _ h => by simp [posOf] at h⟩
  | k + 1, hk => by
    have ih := posOf_spec x out k (by omega)
    have hkl : k < out.length := by omega
    unfold posOf
    rw [getD_at hkl]
    split
    · rename_i hc
      refine ⟨fun i hi h1 h2 => ?_, ih.2⟩
      by_cases e : i = k
      · subst e; exact hc
      · exact ih.1 i hi h1 (by omega)
    · rename_i hc
      refine ⟨fun i _ h1 h2 => by omega, fun i hi h => ?_⟩
      have : i = k := by omega
      subst this
      exact hc

theorem srt_app {L M : List PV} : Srt (L ++ M) ↔ Srt L ∧ Srt M ∧ ∀ x ∈ L, ∀ y ∈ M, leP x y := List.pairwise_append

/-- An element put where it belongs. -/
theorem insR_srt (x : PV) (out : List PV) (h : Srt out) : Srt (insR x out) ∧ Stab (out ++ [x]) (insR x out) := by
  obtain ⟨h1, h2⟩ := posOf_spec x out out.length (Nat.le_refl _)
  have hp := posOf_le x out out.length
  unfold insR
  generalize posOf x out out.length = k at *
  have hsplit : Srt (out.take k ++ out.drop k) := by rwa [List.take_append_drop]
  obtain ⟨s1, s2, s3⟩ := srt_app.1 hsplit
  have hd : ∀ y ∈ out.drop k, cmpP x y < 0 := by
    intro y hy
    obtain ⟨i, hi, rfl⟩ := List.getElem_of_mem hy
    rw [List.length_drop] at hi
    rw [List.getElem_drop]
    exact h1 (k + i) (by omega) (by omega) (by omega)
  have ht : ∀ y ∈ out.take k, leP y x := by
    intro y hy
    cases k with
    | zero => simp at hy
    | succ k =>
      have hk : k < out.length := by omega
      have hkx := h2 k hk rfl
      have e : out.take (k + 1) = out.take k ++ [out[k]] := (List.take_append_getElem hk).symm
      rw [e] at hy s1
      rcases List.mem_append.1 hy with hy | hy
      · exact ((srt_app.1 s1).2.2 y hy _ (by simp)).trans hkx
      · rw [List.mem_singleton.1 hy]; exact hkx
  constructor
  · rw [srt_app]
    refine ⟨s1, List.pairwise_cons.2 ⟨fun y hy => leP_of_lt (hd y hy), s2⟩, fun y hy z hz => ?_⟩
    rcases List.mem_cons.1 hz with rfl | hz
    · exact ht y hy
    · exact s3 y hy z hz
  · have h3 : Stab (out.drop k ++ [x]) ([x] ++ out.drop k) := Stab.swap fun y hy z hz => by
      rw [List.mem_singleton.1 hz]
      have := hd y hy
      have := cmpP_neg x y
      omega
    have h4 : Stab (out.take k ++ (out.drop k ++ [x])) (out.take k ++ ([x] ++ out.drop k)) := (Stab.refl _).app h3
    rw [← List.append_assoc, List.take_append_drop] at h4
    exact h4

theorem sortTo_srt (L : List PV) : ∀ k, k ≤ L.length → Srt (sortTo L k) ∧ Stab (L.take k) (sortTo L k)
  | 0, _ => ⟨List.Pairwise.nil, by simpa [sortTo] using Stab.refl []⟩
  | k + 1, hk => by
    have hkl : k < L.length := by omega
    obtain ⟨h1, h2⟩ := sortTo_srt L k (by omega)
    rw [sortTo, getD_at hkl]
    obtain ⟨h3, h4⟩ := insR_srt L[k] _ h1
    refine ⟨h3, ?_⟩
    rw [← List.take_append_getElem hkl]
    exact (h2.app (Stab.refl _)).trans h4
theorem sortR_srt (L : List PV) : Srt (sortR L) ∧ Stab L (sortR L) := by
  have := sortTo_srt L L.length (Nat.le_refl _)
  rwa [List.take_length] at this
theorem sortR_of {L M : List PV} (h : Srt M) (k : Stab L M) : sortR L = M := srt_one _ _ (sortR_srt L).1 h ((sortR_srt L).2.symm.trans k)
theorem sortR_self {L : List PV} (h : Srt L) : sortR L = L := sortR_of h (Stab.refl L)

/-- Two parts that are sorted, brought together. -/
def Mrg (U V M : List PV) : Prop := Srt M ∧ Stab (U ++ V) M
theorem Mrg.sortR {L K U V M : List PV} (h : Mrg U V M) (h1 : Stab L U) (h2 : Stab K V) : sortR (L ++ K) = M := sortR_of h.1 ((h1.app h2).trans h.2)
theorem Mrg.nilL {V : List PV} (h : Srt V) : Mrg [] V V := ⟨h, Stab.refl _⟩
theorem Mrg.nilR {U : List PV} (h : Srt U) : Mrg U [] U := ⟨h, by simpa using Stab.refl U⟩
/-- One element into a sorted list, from the left. -/
theorem Mrg.one_left {x : PV} {V1 V2 : List PV} (h : Srt (V1 ++ V2)) (h1 : ∀ y ∈ V1, cmpP y x < 0) (h2 : ∀ y ∈ V2, leP x y) : Mrg [x] (V1 ++ V2) (V1 ++ x :: V2) := by
  obtain ⟨s1, s2, s3⟩ := srt_app.1 h
  refine ⟨srt_app.2 ⟨s1, List.pairwise_cons.2 ⟨h2, s2⟩, fun y hy z hz => ?_⟩, ?_⟩
  · rcases List.mem_cons.1 hz with rfl | hz
    · exact leP_of_lt (h1 y hy)
    · exact s3 y hy z hz
  · have h3 : Stab ([x] ++ V1) (V1 ++ [x]) := Stab.swap fun y hy z hz => by
      rw [List.mem_singleton.1 hy]
      have := h1 z hz
      have := cmpP_neg x z
      omega
    have := h3.app (Stab.refl V2)
    simpa using this
/-- One element into a sorted list, from the right. -/
theorem Mrg.one_right {y : PV} {U1 U2 : List PV} (h : Srt (U1 ++ U2)) (h1 : ∀ x ∈ U1, leP x y) (h2 : ∀ x ∈ U2, cmpP y x < 0) : Mrg (U1 ++ U2) [y] (U1 ++ y :: U2) := by
  obtain ⟨s1, s2, s3⟩ := srt_app.1 h
  refine ⟨srt_app.2 ⟨s1, List.pairwise_cons.2 ⟨fun z hz => leP_of_lt (h2 z hz), s2⟩, fun x hx z hz => ?_⟩, ?_⟩
  · rcases List.mem_cons.1 hz with rfl | hz
    · exact h1 x hx
    · exact s3 x hx z hz
  · have h3 : Stab (U2 ++ [y]) ([y] ++ U2) := Stab.swap fun x hx z hz => by
      rw [List.mem_singleton.1 hz]
      have := h2 x hx
      have := cmpP_neg x y
      omega
    have := (Stab.refl U1).app h3
    simpa using this
/-- Cut in two, turned, and each half brought together. -/
theorem Mrg.halves {U1 U2 V1 V2 M1 M2 : List PV} (hU : Srt (U1 ++ U2)) (hV : Srt (V1 ++ V2)) (h1 : ∀ x ∈ V1, ∀ y ∈ U2, cmpP x y < 0) (h2 : ∀ x ∈ U1, ∀ y ∈ V2, leP x y) (k1 : Mrg U1 V1 M1) (k2 : Mrg U2 V2 M2) : Mrg (U1 ++ U2) (V1 ++ V2) (M1 ++ M2) := by
  obtain ⟨u1, u2, u3⟩ := srt_app.1 hU
  obtain ⟨v1, v2, v3⟩ := srt_app.1 hV
  refine ⟨srt_app.2 ⟨k1.1, k2.1, fun x hx y hy => ?_⟩, ?_⟩
  · rcases List.mem_append.1 ((k1.2.mem x).2 hx) with hx | hx <;> rcases List.mem_append.1 ((k2.2.mem y).2 hy) with hy | hy
    · exact u3 x hx y hy
    · exact h2 x hx y hy
    · exact leP_of_lt (h1 x hx y hy)
    · exact v3 x hx y hy
  · have h3 : Stab (U2 ++ V1) (V1 ++ U2) := Stab.swap fun x hx y hy => by
      have := h1 y hy x hx
      have := cmpP_neg y x
      omega
    have h4 : Stab (U1 ++ ((U2 ++ V1) ++ V2)) (U1 ++ ((V1 ++ U2) ++ V2)) := (Stab.refl _).app (h3.app (Stab.refl _))
    have h5 := k1.2.app k2.2
    refine Stab.trans ?_ h5
    simpa using h4

end Go.Proofs.YtmilpjkjcanghaaDoor

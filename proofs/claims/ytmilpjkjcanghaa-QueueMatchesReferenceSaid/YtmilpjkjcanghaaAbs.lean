/- What a queue holds, as plain data. -/
import Derived.Test.YtmilpjkjcanghaaQ6
namespace Go.Proofs.Ytmilpjkjcanghaa
open Go.RowKit
set_option linter.unusedVariables false
set_option linter.unusedSimpArgs false

/-- A pod as data: its numbers and its request. -/
abbrev AP := PV × List Int
def nrm (p : PV) : PV := { p with rA := none, rn := 0, rc := 0 }
def ab (w : World) (p : PV) : AP := (nrm p, readI w p.rA p.rn)
def az : AP := (PV.zero, [])

def posA (x : PV) (out : List AP) : Nat → Nat
  | 0 => 0
  | k + 1 => if cmpP x (out.getD k az).1 < 0 then posA x out k else k + 1
def insA (x : AP) (out : List AP) : List AP := out.take (posA x.1 out out.length) ++ x :: out.drop (posA x.1 out out.length)
def pushA (out : List AP) (x : AP) : List AP := if out.any (fun a => a.1.id == x.1.id) then out else insA x out

theorem cmpP_nrm (p q : PV) : cmpP (nrm p) (nrm q) = cmpP p q := rfl
theorem posA_map (w : World) (x : PV) (L : List PV) : ∀ k, k ≤ L.length → posA (nrm x) (L.map (ab w)) k = posOf x L k
  | 0, _ => rfl
  | k + 1, hk => by
    have h : k < L.length := by omega
    have e1 : ((L.map (ab w)).getD k az).1 = nrm L[k] := by
      rw [List.getD_eq_getElem?_getD, List.getElem?_map, List.getElem?_eq_getElem h]; rfl
    unfold posA posOf
    rw [e1, cmpP_nrm, getD_at h, posA_map w x L k (by omega)]
theorem insA_map (w : World) (x : PV) (L : List PV) : (insR x L).map (ab w) = insA (ab w x) (L.map (ab w)) := by
  have e := posA_map w x L L.length (Nat.le_refl _)
  unfold insR insA
  rw [List.length_map, show (ab w x).1 = nrm x from rfl, e, List.map_append, List.map_cons, List.map_take, List.map_drop]

theorem sortTo_app (L M : List PV) : ∀ k, k ≤ L.length → sortTo (L ++ M) k = sortTo L k
  | 0, _ => rfl
  | k + 1, hk => by
    have h : k < L.length := by omega
    rw [sortTo, sortTo, sortTo_app L M k (by omega), getD_at h, getD_at (by rw [List.length_append]; omega)]
    congr 1
    exact List.getElem_append_left h
theorem sortR_snoc (L : List PV) (p : PV) : sortR (L ++ [p]) = insR p (sortR L) := by
  unfold sortR
  rw [List.length_append, List.length_singleton, sortTo, sortTo_app L [p] L.length (Nat.le_refl _)]
  congr 1
  rw [List.getD_eq_getElem?_getD, List.getElem?_append_right (Nat.le_refl _), Nat.sub_self]; rfl

/-- Different pods have different ids. -/
def IdD (L : List PV) : Prop := L.Pairwise fun p q => p.id ≠ q.id
theorem filter_one {L : List PV} (h : IdD L) {z a : PV} (ha : a ∈ L) (hz : eqv z a = true) : L.filter (eqv z) = [a] := by
  induction L with
  | nil => cases ha
  | cons x r ih =>
    obtain ⟨h1, h2⟩ := List.pairwise_cons.1 h
    have hz0 := of_decide_eq_true hz
    rcases List.mem_cons.1 ha with rfl | ha
    · rw [List.filter_cons_of_pos hz]
      congr 1
      rw [List.filter_eq_nil_iff]
      intro y hy he
      have hy0 := of_decide_eq_true he
      rw [eqP_iff] at hz0 hy0
      exact h1 y hy (hz0.2.2.trans hy0.2.2.symm)
    · have hx : ¬ eqv z x = true := fun he => by
        have hx0 := of_decide_eq_true he
        rw [eqP_iff] at hz0 hx0
        exact h1 a ha (hx0.2.2.trans hz0.2.2.symm)
      rw [List.filter_cons_of_neg hx]
      exact ih h2 ha
theorem stab_of {L M : List PV} (hL : IdD L) (hM : IdD M) (hl : L.length = M.length) (hm : ∀ x, x ∈ L ↔ x ∈ M) : Stab L M := ⟨hl, fun z => by
  by_cases h : ∃ a, a ∈ L ∧ eqv z a = true
  · obtain ⟨a, ha, hz⟩ := h
    rw [filter_one hL ha hz, filter_one hM ((hm a).1 ha) hz]
  · have h1 : L.filter (eqv z) = [] := List.filter_eq_nil_iff.2 fun a ha hz => h ⟨a, ha, hz⟩
    have h2 : M.filter (eqv z) = [] := List.filter_eq_nil_iff.2 fun a ha hz => h ⟨a, (hm a).2 ha, hz⟩
    rw [h1, h2]⟩
theorem sortR_same {L M : List PV} (hL : IdD L) (hM : IdD M) (hl : L.length = M.length) (hm : ∀ x, x ∈ L ↔ x ∈ M) : sortR L = sortR M :=
  sortR_of (sortR_srt M).1 ((stab_of hL hM hl hm).trans (sortR_srt M).2)
theorem POk.idd {L : List PV} {m : Int → Option Int} (h : POk L m) : IdD L := by
  unfold IdD
  rw [List.pairwise_iff_getElem]
  intro i j hi hj hij e
  have e' : (Go.Proofs.Ytmilpjkjcanghaa.at_ L i).id = (Go.Proofs.Ytmilpjkjcanghaa.at_ L j).id := by unfold Go.Proofs.Ytmilpjkjcanghaa.at_; rw [getD_at hi, getD_at hj]; exact e
  have := h.inj hi hj e'
  omega

/-- What the queue holds, in order. -/
def QV (w : World) (Ds : List PV) : List AP := (sortR Ds).map (ab w)
theorem QV_push {w : World} {Ds Es : List PV} {p : PV} {m m' : Int → Option Int} (h1 : POk Ds m) (h2 : POk Es m') (hp : m p.id = none) (hl : Es.length = Ds.length + 1) (hm : ∀ x, x ∈ Es ↔ x ∈ Ds ++ [p]) : QV w Es = insA (ab w p) (QV w Ds) := by
  have h3 := h1.add hp
  unfold QV
  rw [sortR_same h2.idd h3.idd (by simp [hl]) hm, sortR_snoc, insA_map]
theorem POk.mem_iff {L : List PV} {m : Int → Option Int} (h : POk L m) (x : Int) : (m x).isSome = true ↔ ∃ p ∈ L, p.id = x := by
  constructor
  · intro hs
    obtain ⟨v, hv⟩ := Option.isSome_iff_exists.1 hs
    obtain ⟨i, hi, _, hx⟩ := h.of_ x v hv
    unfold Go.Proofs.Ytmilpjkjcanghaa.at_ at hx
    rw [getD_at hi] at hx
    exact ⟨_, List.getElem_mem hi, hx⟩
  · rintro ⟨p, hp, rfl⟩
    obtain ⟨i, hi, rfl⟩ := List.getElem_of_mem hp
    have := h.at_ i hi
    unfold Go.Proofs.Ytmilpjkjcanghaa.at_ at this
    rw [getD_at hi] at this
    rw [this]; rfl
theorem QV_any {w : World} {L : List PV} {m : Int → Option Int} (h : POk L m) (x : Int) : (QV w L).any (fun a => a.1.id == x) = (m x).isSome := by
  rw [Bool.eq_iff_iff, List.any_eq_true, h.mem_iff]
  unfold QV
  constructor
  · rintro ⟨a, ha, he⟩
    obtain ⟨p, hp, rfl⟩ := List.mem_map.1 ha
    exact ⟨p, ((sortR_srt L).2.mem p).2 hp, by simpa [ab, nrm] using he⟩
  · rintro ⟨p, hp, rfl⟩
    exact ⟨ab w p, List.mem_map.2 ⟨p, ((sortR_srt L).2.mem p).1 hp, rfl⟩, by simp [ab, nrm]⟩
theorem QV_len (w : World) (L : List PV) : (QV w L).length = L.length := by unfold QV; rw [List.length_map, sortR_len]

/-- One pod less. -/
theorem insR_filter {L : List PV} {p : PV} (h : ∀ x ∈ L, x.id ≠ p.id) : (insR p L).filter (fun x => !(x.id == p.id)) = L := by
  unfold insR
  have hf : ∀ M : List PV, (∀ x ∈ M, x.id ≠ p.id) → M.filter (fun x => !(x.id == p.id)) = M := fun M hM => List.filter_eq_self.2 fun x hx => by simpa using hM x hx
  rw [List.filter_append, List.filter_cons_of_neg (by simp), hf _ (fun x hx => h x (List.mem_of_mem_take hx)), hf _ (fun x hx => h x (List.mem_of_mem_drop hx)), List.take_append_drop]
theorem QV_remove {w : World} {Ds Es : List PV} {p : PV} {m m' : Int → Option Int} {u : Option Int} (h1 : POk Ds m) (h2 : POk Es m') (h3 : POk (Es ++ [p]) (updM m' p.id u)) (hm : ∀ x, x ∈ Es ++ [p] ↔ x ∈ Ds) (hl : Es.length + 1 = Ds.length) : QV w Es = (QV w Ds).filter fun a => !(a.1.id == p.id) := by
  have hne : ∀ x ∈ sortR Es, x.id ≠ p.id := fun x hx e => by
    have hx' := ((sortR_srt Es).2.mem x).2 hx
    have := (List.pairwise_append.1 h3.idd).2.2 x hx' p (by simp)
    exact this e
  unfold QV
  rw [← sortR_same h3.idd h1.idd (by simp [hl]) hm, sortR_snoc]
  conv => lhs; rw [← insR_filter hne]
  rw [List.filter_map]
  rfl
theorem heap_least {L : List PV} (h : Heap L.length L) : ∀ k, k < L.length → leA L 0 k := by
  intro k
  induction k using Nat.strongRecOn with
  | _ k ih =>
    intro hk
    rcases Nat.eq_zero_or_pos k with e | e
    · subst e; exact leP_refl _
    · have hp : par k < k := by unfold par; omega
      exact leP.trans (ih (par k) hp (by omega)) (h k e hk)
theorem QV_pop {w : World} {Ds Es : List PV} {m m' : Int → Option Int} {u : Option Int} (h1 : POk Ds m) (hH : Heap Ds.length Ds) (h2 : POk Es m') (h3 : POk (Es ++ [at_ Ds 0]) (updM m' (at_ Ds 0).id u)) (hm : ∀ x, x ∈ Es ++ [at_ Ds 0] ↔ x ∈ Ds) (hl : Es.length + 1 = Ds.length) : QV w Ds = ab w (at_ Ds 0) :: QV w Es := by
  have hs : sortR Ds = at_ Ds 0 :: sortR Es := by
    refine sortR_of (List.pairwise_cons.2 ⟨fun y hy => ?_, (sortR_srt Es).1⟩) ?_
    · have hy' := (hm y).1 (List.mem_append_left _ (((sortR_srt Es).2.mem y).2 hy))
      obtain ⟨i, hi, rfl⟩ := List.getElem_of_mem hy'
      have := heap_least hH i hi
      unfold leA at this
      have e : at_ Ds i = Ds[i] := getD_at hi
      rwa [e] at this
    · have h4 : Stab Ds (Es ++ [at_ Ds 0]) := stab_of h1.idd h3.idd (by simp [hl]) fun x => (hm x).symm
      have h5 : Stab (Es ++ [at_ Ds 0]) ([at_ Ds 0] ++ Es) := Stab.swap fun x hx y hy => by
        rw [List.mem_singleton.1 hy]
        intro e
        rw [eqP_iff] at e
        exact (List.pairwise_append.1 h3.idd).2.2 x hx (at_ Ds 0) (by simp) e.2.2
      have h6 : Stab ([at_ Ds 0] ++ Es) ([at_ Ds 0] ++ sortR Es) := (Stab.refl _).app (sortR_srt Es).2
      exact (h4.trans h5).trans h6
  unfold QV
  rw [hs]; rfl

end Go.Proofs.Ytmilpjkjcanghaa

/- Operations of law 08, opened. -/
import Derived.Test.YtmilpjkjcanghaaDoorP13
namespace Go.Proofs.YtmilpjkjcanghaaDoor
open Go.ChangeShapes Go.WideShapes Go.ChangeAt Go.RowKit Go.Deep
set_option linter.unusedVariables false
set_option linter.unusedSimpArgs false

theorem cells_op : Tryd.prog.cellsOf 47 = 11 := by kernel_rfl

section
variable {H : Type} {enc : TypeId × Value → H} {w : World} {base : Nat} {spare : Nat → Bool} {held : Bool}
/-- Nine cells that read as a pod. -/
theorem pod_cells {D : DataW H × List MemPlace} {cs : List Value} {n : Nat} (hl : cs.length = 9) (ht : DataW.trod enc Tryd.prog w base spare held n 30 cs = some D) :
    ∃ p : PV, p.cs = cs ∧ IS w w.heap.size p.rA p.rn (readI w p.rA p.rn) := by
  obtain ⟨xs, n', _, hx, _, hlen, hg⟩ := DataW.trod_struct Tryd.underlying30 ht
  obtain ⟨p, hp, hi⟩ := pod_of_fields (enc := enc) (w := w) (base := base) (spare := spare) (held := held) (n := n') (g := fun j => cs.getD j undef) fun j f hj => by
    obtain ⟨ho, hk⟩ := hone_of one_pod j f hj
    have hj9 : j < 9 := (Array.getElem?_eq_some_iff.1 hj).1
    have h1 := hg j f hj
    have h2 : xs[j]? = some (xs[j]'(by rw [hlen]; exact hj9)) := List.getElem?_eq_getElem _
    rw [ho, hk, h2] at h1
    have h3 : (cs.drop j).take 1 = [cs.getD j undef] := by
      have h4 : j < cs.length := by rw [hl]; exact hj9
      rw [List.drop_eq_getElem_cons h4, List.getD_eq_getElem?_getD, List.getElem?_eq_getElem h4]
      rfl
    rw [h3] at h1
    exact ⟨_, h1⟩
  refine ⟨p, (cells_nine hl (fun j hj => ?_) hp).symm, hi⟩
  have h4 : j < cs.length := by omega
  rw [List.getD_eq_getElem?_getD, List.getElem?_eq_getElem h4]; rfl

/-- An element of a slice of operations. -/
theorem op_at {D : DataW H} {Pl : List MemPlace} {cs : List Value} {a : Addr} {n : Nat} (hc : w.cells? base a 11 = some cs) (ht : DataW.trod enc Tryd.prog w base spare held n 47 cs = some (D, Pl)) :
    ∃ o : OV, (∀ k u, o.cs[k]? = some u → w.cell? (a.add k) = some u) ∧ IS w w.heap.size o.pod.rA o.pod.rn (readI w o.pod.rA o.pod.rn) := by
  obtain ⟨_, hcl, hat⟩ := World.cells?_some hc
  obtain ⟨xs, n', _, hx, _, hlen, hg⟩ := DataW.trod_struct Tryd.underlying47 ht
  have h0 : DataW.trod enc Tryd.prog w base spare held n' 3 ((cs.drop 0).take (Tryd.prog.cellsOf 3)) = xs[0]? := hg 0 _ rfl
  have h1 : DataW.trod enc Tryd.prog w base spare held n' 30 ((cs.drop 1).take (Tryd.prog.cellsOf 30)) = xs[1]? := hg 1 _ rfl
  have h2 : DataW.trod enc Tryd.prog w base spare held n' 3 ((cs.drop 10).take (Tryd.prog.cellsOf 3)) = xs[2]? := hg 2 _ rfl
  rw [cells_int, List.drop_zero] at h0
  rw [cells_pod] at h1
  rw [cells_int] at h2
  have hx0 : xs[0]? = some (xs[0]'(by rw [hlen]; decide)) := List.getElem?_eq_getElem _
  have hx1 : xs[1]? = some (xs[1]'(by rw [hlen]; decide)) := List.getElem?_eq_getElem _
  have hx2 : xs[2]? = some (xs[2]'(by rw [hlen]; decide)) := List.getElem?_eq_getElem _
  rw [hx0] at h0
  rw [hx1] at h1
  rw [hx2] at h2
  obtain ⟨x0, e0, _⟩ := DataW.trod_int Tryd.underlying3 h0
  obtain ⟨x2, e2, _⟩ := DataW.trod_int Tryd.underlying3 h2
  obtain ⟨p, hp, hi⟩ := pod_cells (by rw [List.length_take, List.length_drop]; omega) h1
  have hcs : cs = (OV.mk x0 p x2).cs := by
    unfold OV.cs
    rw [hp, ← e2]
    have h3 : cs = cs.take 1 ++ cs.drop 1 := (List.take_append_drop 1 cs).symm
    have h4 : cs.drop 1 = (cs.drop 1).take 9 ++ (cs.drop 1).drop 9 := (List.take_append_drop 9 _).symm
    have h5 : (cs.drop 1).drop 9 = (cs.drop 10).take 1 := by
      rw [List.drop_drop, List.take_of_length_le (by rw [List.length_drop]; omega)]
    rw [h5] at h4
    rw [e0] at h3
    conv => lhs; rw [h3, h4]
    rfl
  refine ⟨⟨x0, p, x2⟩, fun k u hu => ?_, hi⟩
  have hk : k < 11 := by have := (List.getElem?_eq_some_iff.1 hu).1; rw [OV.cs_length] at this; exact this
  have h5 := hat k hk
  rw [h5, hcs]
  exact hu

/-- A slice of operations. -/
theorem open_ops8 {r : Reach} {b0 : Nat} {v : Value} {d : DataW H} {ps : List MemPlace} (hv : Value.okWide Tryd.prog w r b0 40 v) (h : DataW.Trod enc Tryd.prog w base spare held 40 v d ps) :
    ∃ L : List OV, OL w w.heap.size v L ∧ L.length ≤ 9223372036854775807 ∧ ∀ o ∈ L, IS w w.heap.size o.pod.rA o.pod.rn (readI w o.pod.rA o.pod.rn) := by
  obtain ⟨a0, len0, cap0, rfl⟩ := okWide_slice Tryd.underlying40 hv
  obtain ⟨fuel, hf⟩ := h
  rcases open_slice Tryd.underlying40 hf with ⟨hcs, _⟩ | ⟨a, len, cap, m, n, D, Pl, hcs, _, hl, hm, hmm, _, hi⟩
  · have e : Value.slice a0 len0 cap0 = .slice none 0 0 := by simpa [Value.cells] using hcs
    rw [e]
    exact ⟨[], ⟨none, 0, rfl, Nat.le_refl _, fun h => absurd rfl h⟩, by simp, fun p hp => by cases hp⟩
  · have e : Value.slice a0 len0 cap0 = .slice (some a) len cap := by simpa [Value.cells] using hcs
    rw [e]
    have hlm : len ≤ m := by rw [hmm]; split <;> omega
    have hx : ∀ i, ∃ p : OV, i < len → (∀ k u, p.cs[k]? = some u → w.cell? ((a.add (i * 11)).add k) = some u) ∧ IS w w.heap.size p.pod.rA p.pod.rn (readI w p.pod.rA p.pod.rn) := fun i => by
      by_cases hil : i < len
      · obtain ⟨cs', hc, ht⟩ := hi i (by omega)
        rw [cells_op] at hc
        obtain ⟨p, hp⟩ := op_at hc ht
        exact ⟨p, fun _ => hp⟩
      · exact ⟨OV.zero, fun h => absurd h hil⟩
    obtain ⟨p, hp⟩ := Classical.axiomOfChoice hx
    have hlen : ((List.range len).map p).length = len := by simp
    refine ⟨(List.range len).map p, ⟨some a, cap, by rw [hlen], by rw [hlen]; exact hl, fun hne => ?_⟩, ?_, fun q hq => ?_⟩
    · have h0 : 0 < len := by
        rcases Nat.eq_zero_or_pos len with h | h
        · rw [h] at hne; simp at hne
        · exact h
      have h1 := (hp 0 h0).1 0 _ (show (p 0).cs[0]? = some (.int .i64 (p 0).kind) from rfl)
      have hs := World.cell?_spot h1
      have hb := World.block_lt_of_cell? w _ h1
      obtain ⟨b, o, spot⟩ := a
      have hspot : spot = none := by simpa [Addr.add] using hs
      subst hspot
      refine ⟨b, o, rfl, by simpa [add_plain] using hb, fun i q k u hq hk => ?_⟩
      have hil : i < len := by have := (List.getElem?_eq_some_iff.1 hq).1; rw [hlen] at this; exact this
      have hqe : q = p i := by simpa [List.getElem?_map, List.getElem?_range hil] using hq.symm
      subst hqe
      have h2 := (hp i hil).1 k u hk
      rwa [add_plain, add_plain] at h2
    · rw [hlen]
      have h63 : maxLen = 9223372036854775807 := by unfold maxLen; rfl
      omega
    · obtain ⟨i, hil, rfl⟩ := List.mem_map.1 hq
      exact (hp i (List.mem_range.1 hil)).2
end


theorem D.clqq {w0 : World} {ops : Array Oper} {env : Env} {N : Nat} {Post : SEnv → Prop} {rest : List Nat} {Γ : SEnv} {ty : TypeId} {pos : String} {aft : Array Edge} {gd : Option (Nat × Bool)} {d s t f : Nat} {p q : Value → World → Prop} {r : Value} {ats : Array TypeId}
    (hs : lookS Γ env s = some (.pr p)) (ht : lookS Γ env t = some (.pr q)) (hf : Go.Proofs.Enters Tryd.prog f) (hc : ∀ u v w, X w0 w → p u w → q v w → CallsR Tryd.prog f [u, v] w fun z w' => z = r ∧ X w w') (hg : wantS ops Γ env gd = some true) (hd : Nat.blt d N = true)
    (K : TC Tryd.prog X w0 ops env N Post rest ((d, .det r) :: Γ)) : TC1 Tryd.prog X w0 ops env N Post rest Γ { dst := some d, op := .call { callee := .value (.func f), args := #[.tmp s, .tmp t], argTypes := ats }, type := ty, pos, after := aft, guard := gd } :=
  ⟨.det r, hd, Sl.lasts_det X r, .inl ⟨hg, fun ev w hr he hp => by
    have h1 := hp s _ (by simp [Op.operands, Call.operands]) hs
    have h1' := hp t _ (by simp [Op.operands, Call.operands]) ht
    have h2 : EvOk (fun x => some (ev x)) ev := fun x v h => by injection h
    have h3 := op_call (P := Tryd.prog) (ty := ty) (L := fun x => some (ev x)) (xs := #[.tmp s, .tmp t]) (vs := [ev (.tmp s), ev (.tmp t)]) (ats := ats) hf (by rw [he (.func f) _ rfl]) (by simp [evL])
    unfold OpT
    rw [h3 ev h2]
    exact (hc _ _ w hr h1 h1').mono fun z w' h => ⟨h.2, h.1⟩⟩, K⟩
theorem SF.cell {O : Nat → Prop} {w w' : World} (h : SF O w w') {p : Addr} (hb : p.block < w.heap.size) (hn : ¬ O p.block) : w'.cell? p = w.cell? p := World.cell?_of_block (h.block p.block hb hn)

/-- The first with the id. -/
theorem findZ_some (wb : World) {Z : List (PV × Int)} {id : Int} {i : Nat} (hi : i < (Z.map fun z : PV × Int => z.1).length) (h : (Z.map fun z : PV × Int => z.1)[i].id = id) (hb : ∀ j (hj : j < i), ((Z.map fun z : PV × Int => z.1)[j]'(by omega)).id ≠ id) : ∃ z, Z[i]? = some z ∧ (((Z.map (abZ wb)).find? fun a => a.1.1.id == id).getD zE).2 = z.2 := by
  have hi2 : i < Z.length := by simpa using hi
  refine ⟨Z[i], List.getElem?_eq_getElem hi2, ?_⟩
  have h1 : (Z.map (abZ wb)).find? (fun a => a.1.1.id == id) = some (abZ wb Z[i]) := by
    rw [List.find?_eq_some_iff_getElem]
    refine ⟨?_, i, by simpa using hi2, by simp, fun j hj => ?_⟩
    · simp only [List.getElem_map] at h
      simpa [abZ, ab, nrm] using h
    · have h2 := hb j hj
      simp only [List.getElem_map] at h2
      simpa [abZ, ab, nrm] using h2
  rw [h1]
  rfl
theorem findZ_none (wb : World) {Z : List (PV × Int)} {id : Int} (h : ∀ p ∈ Z.map (·.1), p.id ≠ id) : (((Z.map (abZ wb)).find? fun a => a.1.1.id == id).getD zE).2 = 0 := by
  have h1 : (Z.map (abZ wb)).find? (fun a => a.1.1.id == id) = none := by
    rw [List.find?_eq_none]
    intro a ha
    obtain ⟨z, hz, rfl⟩ := List.mem_map.1 ha
    have := h z.1 (List.mem_map.2 ⟨z, hz, rfl⟩)
    simpa [abZ, ab, nrm] using this
  rw [h1]
  rfl
theorem cntZ (wb : World) (Z : List (PV × Int)) (r : Int) : cntA (Z.map (abZ wb)) r = cntI (Z.map (·.2)) r := by
  unfold cntA cntI
  rw [List.filter_map, List.filter_map, List.length_map, List.length_map]
  rfl

end Go.Proofs.YtmilpjkjcanghaaDoor

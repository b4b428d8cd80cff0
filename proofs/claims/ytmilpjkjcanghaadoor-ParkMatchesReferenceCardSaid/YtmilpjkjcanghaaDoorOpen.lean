/- Arguments opened: a pod by value, a slice of pods. -/
import Derived.Test.YtmilpjkjcanghaaDoorAwake
import Derived.Test.YtmilpjkjcanghaaDoorRows
import Derived.ProofKit
import Derived.Deep.Slices
import Derived.Deep.Fields
import Derived.Carry
import Derived.Below
import Derived.ChangeSame
namespace Go.Proofs.YtmilpjkjcanghaaDoor
open Go.ChangeShapes Go.WideShapes Go.ChangeAt Go.RowKit Go.Deep
set_option linter.unusedVariables false
set_option linter.unusedSimpArgs false

theorem pods_own : ownKnob Tryd.prog.godebug = none := by kernel_rfl
theorem pods_laidOut : laidOutB Tryd.prog = true := by kernel_rfl
theorem cells_pod : Tryd.prog.cellsOf 30 = 9 := by kernel_rfl
theorem cells_i64 : Tryd.prog.cellsOf 2 = 1 := by kernel_rfl

/-- What a slice of int64 reads as. -/
def readI (w : World) (A : Option Addr) (n : Nat) : List Int := (List.range n).map fun i => match A with
  | some a => match w.cell? (a.add i) with
    | some (.int _ x) => x
    | _ => 0
  | none => 0
theorem IS.read {w : World} {B : Nat} {A : Option Addr} {n : Nat} {l : List Int} (h : IS w B A n l) : readI w A n = l := by
  obtain ⟨rfl, hc⟩ := h
  apply List.ext_getElem?
  intro i
  unfold readI
  rw [List.getElem?_map]
  by_cases hi : i < l.length
  · rw [List.getElem?_range hi, List.getElem?_eq_getElem hi]
    obtain ⟨b, o, rfl, _, hcell⟩ := hc (by rintro rfl; simp at hi)
    have h1 := hcell i _ (List.getElem?_eq_getElem hi)
    simp only [Option.map_some, add_plain, h1]
  · rw [List.getElem?_eq_none (by simpa using hi), List.getElem?_eq_none (by simpa using hi)]; rfl
/-- The pods' requests can be read. -/
def RQ0 (w : World) (B : Nat) (L : List PV) : Prop := ∀ p ∈ L, IS w B p.rA p.rn (readI w p.rA p.rn)
def rqf (w : World) (p : PV) : List Int := readI w p.rA p.rn
theorem RQ0.rq {w : World} {B : Nat} {L : List PV} (h : RQ0 w B L) (hf : fewB L = true) : RQ w B (rqf w) L := fun p hp => by
  have h1 := h p hp
  refine ⟨h1, ?_⟩
  simp only [fewB, Bool.and_eq_true] at hf
  have := List.all_eq_true.1 hf.1 p hp
  simp only [fewP, Bool.and_eq_true, decide_eq_true_eq] at this
  have h2 := h1.1
  have h3 := this.2
  unfold rqf
  omega

section
variable {H : Type} {enc : TypeId × Value → H} {w : World} {base : Nat} {spare : Nat → Bool} {held : Bool}

theorem open_req {fuel : Nat} {c : Value} {x : DataW H × List MemPlace} (h : DataW.trod enc Tryd.prog w base spare held fuel 28 [c] = some x) : ∃ A n cap l, c = .slice A n cap ∧ IS w w.heap.size A n l := by
  rcases open_ints Tryd.underlying28 Tryd.underlying2 cells_i64 h with ⟨hcs, _⟩ | ⟨a, len, cap, zs, hcs, _, hl, hm, hz, _, hcell, _⟩
  · exact ⟨none, 0, 0, [], by simpa using hcs, rfl, fun h => absurd rfl h⟩
  · have hlz : len ≤ zs.length := by rw [hz]; split <;> omega
    refine ⟨some a, len, cap, zs.take len, by simpa using hcs, by rw [List.length_take]; omega, fun hne => ?_⟩
    have h0 : 0 < len := by
      rcases Nat.eq_zero_or_pos len with h | h
      · rw [h] at hne; simp at hne
      · exact h
    have hc0 := hcell 0 (by omega)
    have hs := World.cell?_spot hc0
    have hb := World.block_lt_of_cell? w _ hc0
    obtain ⟨b, o, spot⟩ := a
    have hspot : spot = none := by simpa [Addr.add] using hs
    subst hspot
    refine ⟨b, o, rfl, by simpa [add_plain] using hb, fun i x hi => ?_⟩
    have hil : i < len := by have := (List.getElem?_eq_some_iff.1 hi).1; rw [List.length_take] at this; omega
    have h1 := hcell i (by omega)
    rw [add_plain] at h1
    rw [h1]
    rw [List.getElem?_take_of_lt hil] at hi
    simp [List.getD_eq_getElem?_getD, hi]

/-- Nine cells that read as a pod's are a pod's. -/
theorem pod_of_fields {g : Nat → Value} {n : Nat} (h : ∀ (j : Nat) (f : Field), (#[{ name := "ID", type := 3, offset := 0, embedded := false, tag := "", pkgPath := "", byteOffset := 0 },
        { name := "Priority", type := 3, offset := 1, embedded := false, tag := "", pkgPath := "", byteOffset := 8 },
        { name := "Preempts", type := 4, offset := 2, embedded := false, tag := "", pkgPath := "", byteOffset := 16 },
        { name := "Grace", type := 3, offset := 3, embedded := false, tag := "", pkgPath := "", byteOffset := 24 },
        { name := "Request", type := 28, offset := 4, embedded := false, tag := "", pkgPath := "", byteOffset := 32 },
        { name := "Arrival", type := 3, offset := 5, embedded := false, tag := "", pkgPath := "", byteOffset := 56 },
        { name := "Phase", type := 3, offset := 6, embedded := false, tag := "", pkgPath := "", byteOffset := 64 },
        { name := "Node", type := 3, offset := 7, embedded := false, tag := "", pkgPath := "", byteOffset := 72 },
        { name := "Deadline", type := 3, offset := 8, embedded := false, tag := "", pkgPath := "", byteOffset := 80 }] : Array Field)[j]? = some f → ∃ y, DataW.trod enc Tryd.prog w base spare held n f.type [g j] = some y) :
    ∃ p : PV, (∀ j, j < 9 → p.cs[j]? = some (g j)) ∧ IS w w.heap.size p.rA p.rn (readI w p.rA p.rn) := by
  obtain ⟨y0, h0⟩ := h 0 _ rfl
  obtain ⟨y1, h1⟩ := h 1 _ rfl
  obtain ⟨y2, h2⟩ := h 2 _ rfl
  obtain ⟨y3, h3⟩ := h 3 _ rfl
  obtain ⟨y4, h4⟩ := h 4 _ rfl
  obtain ⟨y5, h5⟩ := h 5 _ rfl
  obtain ⟨y6, h6⟩ := h 6 _ rfl
  obtain ⟨y7, h7⟩ := h 7 _ rfl
  obtain ⟨y8, h8⟩ := h 8 _ rfl
  obtain ⟨x0, e0, _⟩ := DataW.trod_int Tryd.underlying3 h0
  obtain ⟨x1, e1, _⟩ := DataW.trod_int Tryd.underlying3 h1
  obtain ⟨x2, e2, _⟩ := DataW.trod_bool Tryd.underlying4 h2
  obtain ⟨x3, e3, _⟩ := DataW.trod_int Tryd.underlying3 h3
  obtain ⟨A, m, c, l, e4, h4'⟩ := open_req h4
  obtain ⟨x5, e5, _⟩ := DataW.trod_int Tryd.underlying3 h5
  obtain ⟨x6, e6, _⟩ := DataW.trod_int Tryd.underlying3 h6
  obtain ⟨x7, e7, _⟩ := DataW.trod_int Tryd.underlying3 h7
  obtain ⟨x8, e8, _⟩ := DataW.trod_int Tryd.underlying3 h8
  injection e0 with e0 _
  injection e1 with e1 _
  injection e2 with e2 _
  injection e3 with e3 _
  injection e5 with e5 _
  injection e6 with e6 _
  injection e7 with e7 _
  injection e8 with e8 _
  refine ⟨⟨x0, x1, x2, x3, A, m, c, x5, x6, x7, x8⟩, fun j hj => ?_, by have := h4'.read; simp only; rw [this]; exact h4'⟩
  match j, hj with
  | 0, _ => rw [e0]; rfl
  | 1, _ => rw [e1]; rfl
  | 2, _ => rw [e2]; rfl
  | 3, _ => rw [e3]; rfl
  | 4, _ => rw [e4]; rfl
  | 5, _ => rw [e5]; rfl
  | 6, _ => rw [e6]; rfl
  | 7, _ => rw [e7]; rfl
  | 8, _ => rw [e8]; rfl

theorem one_pod : oneCellFields Tryd.prog #[{ name := "ID", type := 3, offset := 0, embedded := false, tag := "", pkgPath := "", byteOffset := 0 },
        { name := "Priority", type := 3, offset := 1, embedded := false, tag := "", pkgPath := "", byteOffset := 8 },
        { name := "Preempts", type := 4, offset := 2, embedded := false, tag := "", pkgPath := "", byteOffset := 16 },
        { name := "Grace", type := 3, offset := 3, embedded := false, tag := "", pkgPath := "", byteOffset := 24 },
        { name := "Request", type := 28, offset := 4, embedded := false, tag := "", pkgPath := "", byteOffset := 32 },
        { name := "Arrival", type := 3, offset := 5, embedded := false, tag := "", pkgPath := "", byteOffset := 56 },
        { name := "Phase", type := 3, offset := 6, embedded := false, tag := "", pkgPath := "", byteOffset := 64 },
        { name := "Node", type := 3, offset := 7, embedded := false, tag := "", pkgPath := "", byteOffset := 72 },
        { name := "Deadline", type := 3, offset := 8, embedded := false, tag := "", pkgPath := "", byteOffset := 80 }] = true := by kernel_rfl

theorem cells_nine {cs : List Value} {g : Nat → Value} (hl : cs.length = 9) (hg : ∀ j, j < 9 → cs[j]? = some (g j)) {p : PV} (hp : ∀ j, j < 9 → p.cs[j]? = some (g j)) : cs = p.cs := by
  apply List.ext_getElem?
  intro j
  by_cases hj : j < 9
  · rw [hg j hj, hp j hj]
  · rw [List.getElem?_eq_none (by omega), List.getElem?_eq_none (by rw [PV.cs_length]; omega)]

/-- A pod by value. -/
theorem open_pod {r : Reach} {b0 : Nat} {v : Value} {d : DataW H} {ps : List MemPlace} (hv : Value.okWide Tryd.prog w r b0 30 v) (h : DataW.Trod enc Tryd.prog w base spare held 30 v d ps) :
    ∃ p : PV, v = p.v ∧ IS w w.heap.size p.rA p.rn (readI w p.rA p.rn) := by
  obtain ⟨cs, rfl, hsz⟩ := okWide_struct Tryd.underlying30 hv
  rw [cells_pod] at hsz
  obtain ⟨fuel, hf⟩ := h
  obtain ⟨xs, n, _, hx, _, hlen, hg⟩ := DataW.trod_struct Tryd.underlying30 hf
  obtain ⟨p, hp, hi⟩ := pod_of_fields (enc := enc) (w := w) (base := base) (spare := spare) (held := held) (n := n) (g := fun j => cs.getD j undef) fun j f hj => by
    obtain ⟨ho, hk⟩ := hone_of one_pod j f hj
    have hj9 : j < 9 := (Array.getElem?_eq_some_iff.1 hj).1
    have h1 := hg j f hj
    have h2 : xs[j]? = some (xs[j]'(by rw [hlen]; exact hj9)) := List.getElem?_eq_getElem _
    rw [ho, hk, h2] at h1
    have h3 : ((Value.agg cs).cells.toList.drop j).take 1 = [cs.getD j undef] := by
      have h4 : j < cs.toList.length := by simp; omega
      show (cs.toList.drop j).take 1 = _
      rw [List.drop_eq_getElem_cons h4]
      simp [Array.getD_eq_getD_getElem?, show j < cs.size from by omega]
    rw [h3] at h1
    exact ⟨_, h1⟩
  refine ⟨p, ?_, hi⟩
  have h5 := cells_nine (cs := cs.toList) (g := fun j => cs.getD j undef) (by simpa using hsz) (fun j hj => by
    have h4 : j < cs.size := by omega
    simp [Array.getD_eq_getD_getElem?, h4]) hp
  unfold PV.v
  rw [← h5]

/-- An element of a slice of pods. -/
theorem pod_at {D : DataW H} {Pl : List MemPlace} {cs : List Value} {a : Addr} {n : Nat} (hc : w.cells? base a 9 = some cs) (ht : DataW.trod enc Tryd.prog w base spare held n 30 cs = some (D, Pl)) :
    ∃ p : PV, (∀ k u, p.cs[k]? = some u → w.cell? (a.add k) = some u) ∧ IS w w.heap.size p.rA p.rn (readI w p.rA p.rn) := by
  obtain ⟨_, hcl, hat⟩ := World.cells?_some hc
  obtain ⟨xs, n', _, hx, _, hlen, hg⟩ := DataW.trod_struct Tryd.underlying30 ht
  obtain ⟨p, hp, hi⟩ := pod_of_fields (enc := enc) (w := w) (base := base) (spare := spare) (held := held) (n := n') (g := fun j => cs.getD j undef) fun j f hj => by
    obtain ⟨ho, hk⟩ := hone_of one_pod j f hj
    have hj9 : j < 9 := (Array.getElem?_eq_some_iff.1 hj).1
    have h1 := hg j f hj
    have h2 : xs[j]? = some (xs[j]'(by rw [hlen]; exact hj9)) := List.getElem?_eq_getElem _
    rw [ho, hk, h2] at h1
    have h3 : (cs.drop j).take 1 = [cs.getD j undef] := by
      have h4 : j < cs.length := by rw [hcl]; exact hj9
      rw [List.drop_eq_getElem_cons h4, List.getD_eq_getElem?_getD, List.getElem?_eq_getElem h4]
      rfl
    rw [h3] at h1
    exact ⟨_, h1⟩
  refine ⟨p, fun k u hu => ?_, hi⟩
  have hk9 : k < 9 := (List.getElem?_eq_some_iff.1 hu).1
  have h5 := hat k hk9
  rw [h5]
  have h6 := hp k hk9
  rw [hu] at h6
  have h7 : k < cs.length := by omega
  rw [List.getD_eq_getElem?_getD, List.getElem?_eq_getElem h7] at h6
  rw [List.getElem?_eq_getElem h7]
  simpa using h6.symm

/-- A slice of pods. -/
theorem open_pods {r : Reach} {b0 : Nat} {v : Value} {d : DataW H} {ps : List MemPlace} (hv : Value.okWide Tryd.prog w r b0 22 v) (h : DataW.Trod enc Tryd.prog w base spare held 22 v d ps) :
    ∃ L : List PV, PS w w.heap.size v L ∧ L.length ≤ 9223372036854775807 ∧ RQ0 w w.heap.size L := by
  obtain ⟨a0, len0, cap0, rfl⟩ := okWide_slice Tryd.underlying22 hv
  obtain ⟨fuel, hf⟩ := h
  rcases open_slice Tryd.underlying22 hf with ⟨hcs, _⟩ | ⟨a, len, cap, m, n, D, Pl, hcs, _, hl, hm, hmm, _, hi⟩
  · have e : Value.slice a0 len0 cap0 = .slice none 0 0 := by simpa [Value.cells] using hcs
    rw [e]
    exact ⟨[], PS.nil _ _, by simp, fun p hp => by cases hp⟩
  · have e : Value.slice a0 len0 cap0 = .slice (some a) len cap := by simpa [Value.cells] using hcs
    rw [e]
    have hlm : len ≤ m := by rw [hmm]; split <;> omega
    have hx : ∀ i, ∃ p : PV, i < len → (∀ k u, p.cs[k]? = some u → w.cell? ((a.add (i * 9)).add k) = some u) ∧ IS w w.heap.size p.rA p.rn (readI w p.rA p.rn) := fun i => by
      by_cases hil : i < len
      · obtain ⟨cs', hc, ht⟩ := hi i (by omega)
        rw [cells_pod] at hc
        obtain ⟨p, hp⟩ := pod_at hc ht
        exact ⟨p, fun _ => hp⟩
      · exact ⟨PV.zero, fun h => absurd h hil⟩
    obtain ⟨p, hp⟩ := Classical.axiomOfChoice hx
    have hlen : ((List.range len).map p).length = len := by simp
    refine ⟨(List.range len).map p, ⟨some a, cap, by rw [hlen], by rw [hlen]; exact hl, fun hne => ?_⟩, ?_, fun q hq => ?_⟩
    · have h0 : 0 < len := by
        rcases Nat.eq_zero_or_pos len with h | h
        · rw [h] at hne; simp at hne
        · exact h
      have h1 := (hp 0 h0).1 0 _ (show (p 0).cs[0]? = some (.int .i64 (p 0).id) from rfl)
      have hs := World.cell?_spot h1
      have hb := World.block_lt_of_cell? w _ h1
      obtain ⟨b, o, spot⟩ := a
      have hspot : spot = none := by simpa [Addr.add] using hs
      subst hspot
      refine ⟨b, o, rfl, by simpa [add_plain] using hb, fun i q k u hq hk => ?_⟩
      have hil : i < len := by have := (List.getElem?_eq_some_iff.1 hq).1; rw [hlen] at this; exact this
      have hqe : q = p i := by simpa [List.getElem?_map, List.getElem?_range hil] using hq.symm
      subst hqe
      have h2 := (hp i hil).1 k u hk
      rwa [add_plain, add_plain] at h2
    · rw [hlen]
      have h63 : maxLen = 9223372036854775807 := by unfold maxLen; rfl
      omega
    · obtain ⟨i, hil, rfl⟩ := List.mem_map.1 hq
      exact (hp i (List.mem_range.1 hil)).2

end
end Go.Proofs.YtmilpjkjcanghaaDoor

/- Requests; copied. -/
import Derived.Test.YtmilpjkjcanghaaQ5
import Derived.Test.YtmilpjkjcanghaaOpen
namespace Go.Proofs.Ytmilpjkjcanghaa
open Go.RowKit
set_option linter.unusedVariables false
set_option linter.unusedSimpArgs false

/-- A slice of int64 that reads as l, in a block of K. -/
def ISK (w : World) (K : Nat → Prop) (A : Option Addr) (n : Nat) (l : List Int) : Prop :=
  n = l.length ∧ (l ≠ [] → ∃ b o, A = some ⟨b, o, none⟩ ∧ K b ∧ ∀ (i : Nat) (x : Int), l[i]? = some x → w.cell? ⟨b, o + i, none⟩ = some (.int .i64 x))
theorem ISK.mono {w : World} {K K' : Nat → Prop} {A : Option Addr} {n : Nat} {l : List Int} (h : ISK w K A n l) (hk : ∀ b, b < w.heap.size → K b → K' b) : ISK w K' A n l :=
  ⟨h.1, fun hne => by
    obtain ⟨b, o, h1, h2, h3⟩ := h.2 hne
    have hl : 0 < l.length := List.length_pos_iff.2 hne
    have hb := World.block_lt_of_cell? w _ (h3 0 l[0] (List.getElem?_eq_getElem hl))
    exact ⟨b, o, h1, hk b hb h2, h3⟩⟩
theorem ISK.is {w : World} {K : Nat → Prop} {A : Option Addr} {n : Nat} {l : List Int} (h : ISK w K A n l) : IS w w.heap.size A n l :=
  ⟨h.1, fun hne => by
    obtain ⟨b, o, h1, h2, h3⟩ := h.2 hne
    have hl : 0 < l.length := List.length_pos_iff.2 hne
    have hb := World.block_lt_of_cell? w _ (h3 0 l[0] (List.getElem?_eq_getElem hl))
    exact ⟨b, o, h1, hb, h3⟩⟩
theorem IS.isk {w : World} {B : Nat} {A : Option Addr} {n : Nat} {l : List Int} (h : IS w B A n l) : ISK w (· < B) A n l := h
theorem ISK.keep {w w' : World} {K : Nat → Prop} {A : Option Addr} {n : Nat} {l : List Int} (h : ISK w K A n l) (hs : ∀ k, k < w.heap.size → K k → w'.heap[k]? = w.heap[k]?) : ISK w' K A n l :=
  ⟨h.1, fun hne => by
    obtain ⟨b, o, h1, h2, h3⟩ := h.2 hne
    refine ⟨b, o, h1, h2, fun i x hi => ?_⟩
    have hc := h3 i x hi
    have hb := World.block_lt_of_cell? w _ hc
    have he := hs b hb h2
    unfold World.cell? at hc ⊢
    simp only at hc ⊢
    rw [he]
    exact hc⟩
theorem ISK.x {w w' : World} {K : Nat → Prop} {A : Option Addr} {n : Nat} {l : List Int} (h : ISK w K A n l) (hx : X w w') : ISK w' K A n l := h.keep fun k hk _ => hx.block k hk
theorem ISK.read {w : World} {K : Nat → Prop} {A : Option Addr} {n : Nat} {l : List Int} (h : ISK w K A n l) : readI w A n = l := h.is.read

/-- A slice of int64 in a block of its own. -/
def RqB (w : World) (B : Nat) (A : Option Addr) (n : Nat) (l : List Int) : Prop :=
  n = l.length ∧ (l ≠ [] → ∃ b sp, A = some ⟨b, 0, none⟩ ∧ B ≤ b ∧ Blk w b 2 (l.map (Value.int .i64) ++ sp))
theorem RqB.isk {w : World} {B : Nat} {A : Option Addr} {n : Nat} {l : List Int} (h : RqB w B A n l) : ISK w (B ≤ ·) A n l :=
  ⟨h.1, fun hne => by
    obtain ⟨b, sp, h1, h2, h3⟩ := h.2 hne
    refine ⟨b, 0, h1, h2, fun i x hi => ?_⟩
    rw [Nat.zero_add]
    refine h3.cell ?_
    have hil := (List.getElem?_eq_some_iff.1 hi).1
    rw [List.getElem?_append_left (by simpa using hil), List.getElem?_map, hi]
    rfl⟩
theorem RqB.x {w w' : World} {B : Nat} {A : Option Addr} {n : Nat} {l : List Int} (h : RqB w B A n l) (hx : X w w') : RqB w' B A n l :=
  ⟨h.1, fun hne => by obtain ⟨b, sp, h1, h2, h3⟩ := h.2 hne; exact ⟨b, sp, h1, h2, h3.x hx⟩⟩

theorem zI64 : (Try.prog.info? 2).map (fun i => (i.zero, i.size, i.bytes)) = some (some (.int .i64 0), 1, 8) := by kernel_rfl
theorem zI64' : (Try.prog.info? 2).map (fun j => (j.size, j.zero)) = some (1, some (.int .i64 0)) := by kernel_rfl

theorem run_append_I {w : World} {B g c n : Nat} {A : Option Addr} {l : List Int} (hg : Blk w g 2 []) (hgB : B ≤ g) (hm : IS w w.heap.size A n l) (hn : n ≤ 1000) (ty : TypeId) :
    ∃ A' c' w', (Builtin.append_ #[23, 23] ty #[.slice (some ⟨g, 0, none⟩) 0 0, .slice A n c]).run Try.prog w = .ok (.slice A' n c') w' ∧ RqB w' B A' n l ∧ X w w' ∧ n ≤ c' := by
  obtain ⟨rfl, hc⟩ := hm
  cases hi : Try.prog.info? 2 with
  | none => have := zI64; rw [hi] at this; cases this
  | some i =>
    have hz := zI64
    rw [hi] at hz
    simp only [Option.map_some, Option.some.injEq, Prod.mk.injEq] at hz
    obtain ⟨hz0, hz1, hz2⟩ := hz
    by_cases hM : l = []
    · subst hM
      refine ⟨some ⟨g, 0, none⟩, 0, w, ?_, ⟨rfl, fun h => absurd rfl h⟩, X.refl _, Nat.le_refl _⟩
      cases A <;> simp [Builtin.append_, run_underlying Try.underlying23, sizeOf, typeInfo, hi, Builtin.lenOf, Builtin.firstCells, loadCells, loadCellsFrom, storeCells]
    · obtain ⟨b, o, rfl, hb, hcell⟩ := hc hM
      have hpos : 0 < l.length := List.length_pos_iff.2 hM
      have hr := run_append_grow (P := Try.prog) w 23 ty 2 i (.int .i64 0) Try.underlying23 hi hz0 ⟨g, 0, none⟩ 0 0 [] (by simp) (by simp) ⟨b, o, none⟩ l.length c (l.map (Value.int .i64)) (by simp [hz1]) (fun j u hj => by
        rw [add_plain]
        rw [List.getElem?_map] at hj
        cases hx : l[j]? with
        | none => rw [hx] at hj; cases hj
        | some x => rw [hx] at hj; cases hj; exact hcell j x hx) (by omega) (by omega) (by
        unfold Builtin.nextslicecap
        rw [if_pos (by omega), hz2]; omega)
      simp only [Nat.zero_add] at hr
      have ha := heap_alloc_new w.drew (.cells (#[] ++ (List.map (Value.int .i64) l).toArray ++ Builtin.zeroCells (Value.int IntKind.i64 0).cells (grownCap w l.length 0 2 - l.length)) 2)
      have he : (#[] ++ (List.map (Value.int .i64) l).toArray ++ Builtin.zeroCells (Value.int IntKind.i64 0).cells (grownCap w l.length 0 2 - l.length)) = (List.map (Value.int .i64) l ++ (Builtin.zeroCells (Value.int IntKind.i64 0).cells (grownCap w l.length 0 2 - l.length)).toList).toArray := by
        apply Array.toList_inj.1
        simp
      refine ⟨_, _, _, hr, ⟨rfl, fun _ => ⟨w.heap.size, (Builtin.zeroCells (Value.int IntKind.i64 0).cells (grownCap w l.length 0 2 - l.length)).toList, rfl, by have := hg.lt; omega, ?_⟩⟩, X.trans (X.drew w) (X.alloc _ _), grownCap_ge w l.length 0 2⟩
      unfold Blk
      rw [← he]
      exact ha

theorem CloneI_calls (A : Option Addr) (n c : Nat) (l : List Int) (w : World) (h : IS w w.heap.size A n l) (hn : n ≤ 1000) :
    CallsR Try.prog 58 [.slice A n c] w fun v w' => ∃ A' c', v = .slice A' n c' ∧ RqB w' w.heap.size A' n l ∧ X w w' ∧ n ≤ c' := by
  refine enter1 Try.func58 rfl Try.ntmps58 rfl ?_
  repeat (first
 | (with_reducible first
 | apply CW.seq | apply CW.region | apply CW.block | apply CW.ret | apply CW.skip | apply CW.label | apply CW.exit
 | apply W.nil | apply Fin.seq | apply Fin.then_ret | apply Fin.then_exit | apply Fin.blk_ret | apply Fin.blk_normal | apply Fin.blk_here)
 | (with_reducible first | refine S.move ?_ | refine S.assign ?_ | refine S.pickT ?_ | refine S.pickF ?_ | refine S.lss ?_ | refine S.gtr ?_ | refine S.leq ?_ | refine S.geq ?_ | refine S.eqT ?_ | refine S.neF ?_ | refine S.eql ?_ | refine S.neq ?_ | refine S.add ?_ | refine S.sub ?_ | refine S.mul ?_ | refine S.conv ?_ | refine S.shr1 ?_ | refine S.neg ?_ | refine S.not ?_ | refine S.extract ?_ | refine S.len ?_ | refine S.fld ?_ | refine S.index ?_ | refine S.skp ?_ | refine S.sliceTo ?_ | refine S.sliceFrom ?_ | refine S.eqNil ?_ | refine S.eqbT ?_ | refine S.nebF ?_ | refine S.eqb ?_ | refine S.neb ?_)
 | (with_reducible first | refine S.nc ?_ | refine S.fld ?_ (h1 := fHeapL) | refine S.fld ?_ (h1 := fHeapM) | refine S.fld ?_ (h1 := fQueueH) | refine S.eqP ?_ | refine S.neP ?_ | refine S.quo ?_ | refine S.mkP ?_)
 | ((with_reducible apply CW.cond_true); exact rfl)
 | ((with_reducible apply CW.cond_false); exact rfl)
 | ((with_reducible apply Fin.blk_far); exact rfl))
  refine CW.cond (by rfl) (fun hA => ?_) (fun hA => ?_)
  · repeat (first
 | (with_reducible first
 | apply CW.seq | apply CW.region | apply CW.block | apply CW.ret | apply CW.skip | apply CW.label | apply CW.exit
 | apply W.nil | apply Fin.seq | apply Fin.then_ret | apply Fin.then_exit | apply Fin.blk_ret | apply Fin.blk_normal | apply Fin.blk_here)
 | (with_reducible first | refine S.move ?_ | refine S.assign ?_ | refine S.pickT ?_ | refine S.pickF ?_ | refine S.lss ?_ | refine S.gtr ?_ | refine S.leq ?_ | refine S.geq ?_ | refine S.eqT ?_ | refine S.neF ?_ | refine S.eql ?_ | refine S.neq ?_ | refine S.add ?_ | refine S.sub ?_ | refine S.mul ?_ | refine S.conv ?_ | refine S.shr1 ?_ | refine S.neg ?_ | refine S.not ?_ | refine S.extract ?_ | refine S.len ?_ | refine S.fld ?_ | refine S.index ?_ | refine S.skp ?_ | refine S.sliceTo ?_ | refine S.sliceFrom ?_ | refine S.eqNil ?_ | refine S.eqbT ?_ | refine S.nebF ?_ | refine S.eqb ?_ | refine S.neb ?_)
 | (with_reducible first | refine S.nc ?_ | refine S.fld ?_ (h1 := fHeapL) | refine S.fld ?_ (h1 := fHeapM) | refine S.fld ?_ (h1 := fQueueH) | refine S.eqP ?_ | refine S.neP ?_ | refine S.quo ?_ | refine S.mkP ?_)
 | ((with_reducible apply CW.cond_true); exact rfl)
 | ((with_reducible apply CW.cond_false); exact rfl)
 | ((with_reducible apply Fin.blk_far); exact rfl))
    (with_reducible apply R.r1); exact rfl; exact rfl
    have hA : A = none := by simpa using hA
    subst hA
    have hl : l = [] := by
      cases l with
      | nil => rfl
      | cons x r => obtain ⟨b, o, e, _⟩ := h.2 (by simp); cases e
    subst hl
    have hn0 : n = 0 := h.1
    subst hn0
    exact ⟨none, 0, rfl, ⟨rfl, fun h => absurd rfl h⟩, X.refl _, Nat.le_refl _⟩
  · repeat (first
 | (with_reducible first
 | apply CW.seq | apply CW.region | apply CW.block | apply CW.ret | apply CW.skip | apply CW.label | apply CW.exit
 | apply W.nil | apply Fin.seq | apply Fin.then_ret | apply Fin.then_exit | apply Fin.blk_ret | apply Fin.blk_normal | apply Fin.blk_here)
 | (with_reducible first | refine S.move ?_ | refine S.assign ?_ | refine S.pickT ?_ | refine S.pickF ?_ | refine S.lss ?_ | refine S.gtr ?_ | refine S.leq ?_ | refine S.geq ?_ | refine S.eqT ?_ | refine S.neF ?_ | refine S.eql ?_ | refine S.neq ?_ | refine S.add ?_ | refine S.sub ?_ | refine S.mul ?_ | refine S.conv ?_ | refine S.shr1 ?_ | refine S.neg ?_ | refine S.not ?_ | refine S.extract ?_ | refine S.len ?_ | refine S.fld ?_ | refine S.index ?_ | refine S.skp ?_ | refine S.sliceTo ?_ | refine S.sliceFrom ?_ | refine S.eqNil ?_ | refine S.eqbT ?_ | refine S.nebF ?_ | refine S.eqb ?_ | refine S.neb ?_)
 | (with_reducible first | refine S.nc ?_ | refine S.fld ?_ (h1 := fHeapL) | refine S.fld ?_ (h1 := fHeapM) | refine S.fld ?_ (h1 := fQueueH) | refine S.eqP ?_ | refine S.neP ?_ | refine S.quo ?_ | refine S.mkP ?_)
 | ((with_reducible apply CW.cond_true); exact rfl)
 | ((with_reducible apply CW.cond_false); exact rfl)
 | ((with_reducible apply Fin.blk_far); exact rfl))
    refine W.newBlk (d := some 5) (mk := fun b => .slice (some ⟨b, 0, none⟩) 0 0) (cs := []) (op_buildSlice Try.underlying23 zI64' rfl rfl (by rfl) rfl (by simp) rfl rfl) (by rfl) (by rfl) ?_
    intro b w1 hx1 hb hB
    repeat (first
 | (with_reducible first
 | apply CW.seq | apply CW.region | apply CW.block | apply CW.ret | apply CW.skip | apply CW.label | apply CW.exit
 | apply W.nil | apply Fin.seq | apply Fin.then_ret | apply Fin.then_exit | apply Fin.blk_ret | apply Fin.blk_normal | apply Fin.blk_here)
 | (with_reducible first | refine S.move ?_ | refine S.assign ?_ | refine S.pickT ?_ | refine S.pickF ?_ | refine S.lss ?_ | refine S.gtr ?_ | refine S.leq ?_ | refine S.geq ?_ | refine S.eqT ?_ | refine S.neF ?_ | refine S.eql ?_ | refine S.neq ?_ | refine S.add ?_ | refine S.sub ?_ | refine S.mul ?_ | refine S.conv ?_ | refine S.shr1 ?_ | refine S.neg ?_ | refine S.not ?_ | refine S.extract ?_ | refine S.len ?_ | refine S.fld ?_ | refine S.index ?_ | refine S.skp ?_ | refine S.sliceTo ?_ | refine S.sliceFrom ?_ | refine S.eqNil ?_ | refine S.eqbT ?_ | refine S.nebF ?_ | refine S.eqb ?_ | refine S.neb ?_)
 | (with_reducible first | refine S.nc ?_ | refine S.fld ?_ (h1 := fHeapL) | refine S.fld ?_ (h1 := fHeapM) | refine S.fld ?_ (h1 := fQueueH) | refine S.eqP ?_ | refine S.neP ?_ | refine S.quo ?_ | refine S.mkP ?_)
 | ((with_reducible apply CW.cond_true); exact rfl)
 | ((with_reducible apply CW.cond_false); exact rfl)
 | ((with_reducible apply Fin.blk_far); exact rfl))
    have h1 : IS w1 w1.heap.size A n l := (h.below hx1).more hx1.le
    obtain ⟨A', c', w2, hrun, hR, hx2, hc'⟩ := run_append_I hB hb h1 hn (c := c) 23
    refine W.makes (d := some 7) (v := .slice A' n c') (w' := w2) (fun ev he d pos aft g => by
      have he1 := he (.tmp 5) _ (by rfl : opv _ _ = some (.slice (some ⟨b, 0, none⟩) 0 0))
      have he2 := he (.tmp 6) _ (by rfl : opv _ _ = some (.slice A n c))
      simp [execOp, resolve, invoke, builtin, he1, he2, hrun]) (by rfl) (by rfl) ?_
    repeat (first
 | (with_reducible first
 | apply CW.seq | apply CW.region | apply CW.block | apply CW.ret | apply CW.skip | apply CW.label | apply CW.exit
 | apply W.nil | apply Fin.seq | apply Fin.then_ret | apply Fin.then_exit | apply Fin.blk_ret | apply Fin.blk_normal | apply Fin.blk_here)
 | (with_reducible first | refine S.move ?_ | refine S.assign ?_ | refine S.pickT ?_ | refine S.pickF ?_ | refine S.lss ?_ | refine S.gtr ?_ | refine S.leq ?_ | refine S.geq ?_ | refine S.eqT ?_ | refine S.neF ?_ | refine S.eql ?_ | refine S.neq ?_ | refine S.add ?_ | refine S.sub ?_ | refine S.mul ?_ | refine S.conv ?_ | refine S.shr1 ?_ | refine S.neg ?_ | refine S.not ?_ | refine S.extract ?_ | refine S.len ?_ | refine S.fld ?_ | refine S.index ?_ | refine S.skp ?_ | refine S.sliceTo ?_ | refine S.sliceFrom ?_ | refine S.eqNil ?_ | refine S.eqbT ?_ | refine S.nebF ?_ | refine S.eqb ?_ | refine S.neb ?_)
 | (with_reducible first | refine S.nc ?_ | refine S.fld ?_ (h1 := fHeapL) | refine S.fld ?_ (h1 := fHeapM) | refine S.fld ?_ (h1 := fQueueH) | refine S.eqP ?_ | refine S.neP ?_ | refine S.quo ?_ | refine S.mkP ?_)
 | ((with_reducible apply CW.cond_true); exact rfl)
 | ((with_reducible apply CW.cond_false); exact rfl)
 | ((with_reducible apply Fin.blk_far); exact rfl))
    (with_reducible apply R.r1); exact rfl; exact rfl
    exact ⟨A', c', rfl, hR, hx1.trans hx2, hc'⟩

theorem szI64s : (Try.prog.info? 23).map (·.size) = some (0 + 1) := by kernel_rfl

theorem copied_calls (p : PV) (l : List Int) (w : World) (h : IS w w.heap.size p.rA p.rn l) (hn : p.rn ≤ 1000) :
    CallsR Try.prog 50 [p.v] w fun v w' => ∃ A' c', v = (p.with A' p.rn c').v ∧ RqB w' w.heap.size A' p.rn l ∧ X w w' := by
  refine enter1 Try.func50 rfl Try.ntmps50 rfl ?_
  repeat (first
 | (with_reducible first
 | apply CW.seq | apply CW.region | apply CW.block | apply CW.ret | apply CW.skip | apply CW.label | apply CW.exit
 | apply W.nil | apply Fin.seq | apply Fin.then_ret | apply Fin.then_exit | apply Fin.blk_ret | apply Fin.blk_normal | apply Fin.blk_here)
 | (with_reducible first | refine S.move ?_ | refine S.assign ?_ | refine S.pickT ?_ | refine S.pickF ?_ | refine S.lss ?_ | refine S.gtr ?_ | refine S.leq ?_ | refine S.geq ?_ | refine S.eqT ?_ | refine S.neF ?_ | refine S.eql ?_ | refine S.neq ?_ | refine S.add ?_ | refine S.sub ?_ | refine S.mul ?_ | refine S.conv ?_ | refine S.shr1 ?_ | refine S.neg ?_ | refine S.not ?_ | refine S.extract ?_ | refine S.len ?_ | refine S.fld ?_ | refine S.index ?_ | refine S.skp ?_ | refine S.sliceTo ?_ | refine S.sliceFrom ?_ | refine S.eqNil ?_ | refine S.eqbT ?_ | refine S.nebF ?_ | refine S.eqb ?_ | refine S.neb ?_)
 | (with_reducible first | refine S.nc ?_ | refine S.fld ?_ (h1 := fHeapL) | refine S.fld ?_ (h1 := fHeapM) | refine S.fld ?_ (h1 := fQueueH) | refine S.eqP ?_ | refine S.neP ?_ | refine S.quo ?_ | refine S.mkP ?_)
 | ((with_reducible apply CW.cond_true); exact rfl)
 | ((with_reducible apply CW.cond_false); exact rfl)
 | ((with_reducible apply Fin.blk_far); exact rfl))
  refine W.newBlk (d := some 1) (mk := fun b => .pointer (some ⟨b, 0, none⟩)) (cs := p.cs) (op_box (by rfl) (by rfl)) (by rfl) (by rfl) ?_
  intro b1 w1 hx1 hb1 hB1
  refine W.newBlk (d := some 2) (mk := fun b => .pointer (some ⟨b, 0, none⟩)) (cs := PV.zero.cs) (op_alloc' zPod rfl) (by rfl) (by rfl) ?_
  intro b2 w2 hx2 hb2 hB2
  have hne : b1 ≠ b2 := by have := hB1.lt; omega
  have hB1 := hB1.x hx2
  have hx := hx1.trans hx2
  have hl1 := hB1.lt
  have hl2 := hB2.lt
  repeat (first
 | (with_reducible first
 | apply CW.seq | apply CW.region | apply CW.block | apply CW.ret | apply CW.skip | apply CW.label | apply CW.exit
 | apply W.nil | apply Fin.seq | apply Fin.then_ret | apply Fin.then_exit | apply Fin.blk_ret | apply Fin.blk_normal | apply Fin.blk_here)
 | (with_reducible first | refine S.move ?_ | refine S.assign ?_ | refine S.pickT ?_ | refine S.pickF ?_ | refine S.lss ?_ | refine S.gtr ?_ | refine S.leq ?_ | refine S.geq ?_ | refine S.eqT ?_ | refine S.neF ?_ | refine S.eql ?_ | refine S.neq ?_ | refine S.add ?_ | refine S.sub ?_ | refine S.mul ?_ | refine S.conv ?_ | refine S.shr1 ?_ | refine S.neg ?_ | refine S.not ?_ | refine S.extract ?_ | refine S.len ?_ | refine S.fld ?_ | refine S.index ?_ | refine S.skp ?_ | refine S.sliceTo ?_ | refine S.sliceFrom ?_ | refine S.eqNil ?_ | refine S.eqbT ?_ | refine S.nebF ?_ | refine S.eqb ?_ | refine S.neb ?_)
 | (with_reducible first | refine S.nc ?_ | refine S.fld ?_ (h1 := fHeapL) | refine S.fld ?_ (h1 := fHeapM) | refine S.fld ?_ (h1 := fQueueH) | refine S.eqP ?_ | refine S.neP ?_ | refine S.quo ?_ | refine S.mkP ?_)
 | ((with_reducible apply CW.cond_true); exact rfl)
 | ((with_reducible apply CW.cond_false); exact rfl)
 | ((with_reducible apply Fin.blk_far); exact rfl))
  ((with_reducible apply S.ld); exact rfl; (with_reducible first | exact oneInt | exact oneI64s | exact oneBool | exact oneI64 | exact onePods | exact oneMap); (exact hB1.cell rfl); exact rfl; exact rfl)
  refine S.cl (op_call ent58 (by rfl) (by rfl)) (by rfl) (by rfl) (CloneI_calls p.rA p.rn p.rc l w2 ((h.below hx).more hx.le) hn) ?_
  rintro _ w3 ⟨A', c', rfl, hR, hx3, hc'⟩
  have hB1 := hB1.x hx3
  have hB2 := hB2.x hx3
  have hX3 := hx.trans hx3
  repeat (first
 | (with_reducible first
 | apply CW.seq | apply CW.region | apply CW.block | apply CW.ret | apply CW.skip | apply CW.label | apply CW.exit
 | apply W.nil | apply Fin.seq | apply Fin.then_ret | apply Fin.then_exit | apply Fin.blk_ret | apply Fin.blk_normal | apply Fin.blk_here)
 | (with_reducible first | refine S.move ?_ | refine S.assign ?_ | refine S.pickT ?_ | refine S.pickF ?_ | refine S.lss ?_ | refine S.gtr ?_ | refine S.leq ?_ | refine S.geq ?_ | refine S.eqT ?_ | refine S.neF ?_ | refine S.eql ?_ | refine S.neq ?_ | refine S.add ?_ | refine S.sub ?_ | refine S.mul ?_ | refine S.conv ?_ | refine S.shr1 ?_ | refine S.neg ?_ | refine S.not ?_ | refine S.extract ?_ | refine S.len ?_ | refine S.fld ?_ | refine S.index ?_ | refine S.skp ?_ | refine S.sliceTo ?_ | refine S.sliceFrom ?_ | refine S.eqNil ?_ | refine S.eqbT ?_ | refine S.nebF ?_ | refine S.eqb ?_ | refine S.neb ?_)
 | (with_reducible first | refine S.nc ?_ | refine S.fld ?_ (h1 := fHeapL) | refine S.fld ?_ (h1 := fHeapM) | refine S.fld ?_ (h1 := fQueueH) | refine S.eqP ?_ | refine S.neP ?_ | refine S.quo ?_ | refine S.mkP ?_)
 | ((with_reducible apply CW.cond_true); exact rfl)
 | ((with_reducible apply CW.cond_false); exact rfl)
 | ((with_reducible apply Fin.blk_far); exact rfl))
  refine S.stC (by rfl) (by rfl) hB1 (by simp [PV.cs]) rfl rfl szI64s (by rfl) fun w4 hg4 hB4 => ?_
  have hB2 := hg4.blk hB2 hne.symm
  have hB4 : Blk w4 b1 25 (p.with A' p.rn c').cs := hB4
  have hb1l : w.heap.size ≤ b1 := hb1
  have hX4 : X w w4 := below_g hX3 hg4 hX3.le hb1l
  repeat (first
 | (with_reducible first
 | apply CW.seq | apply CW.region | apply CW.block | apply CW.ret | apply CW.skip | apply CW.label | apply CW.exit
 | apply W.nil | apply Fin.seq | apply Fin.then_ret | apply Fin.then_exit | apply Fin.blk_ret | apply Fin.blk_normal | apply Fin.blk_here)
 | (with_reducible first | refine S.move ?_ | refine S.assign ?_ | refine S.pickT ?_ | refine S.pickF ?_ | refine S.lss ?_ | refine S.gtr ?_ | refine S.leq ?_ | refine S.geq ?_ | refine S.eqT ?_ | refine S.neF ?_ | refine S.eql ?_ | refine S.neq ?_ | refine S.add ?_ | refine S.sub ?_ | refine S.mul ?_ | refine S.conv ?_ | refine S.shr1 ?_ | refine S.neg ?_ | refine S.not ?_ | refine S.extract ?_ | refine S.len ?_ | refine S.fld ?_ | refine S.index ?_ | refine S.skp ?_ | refine S.sliceTo ?_ | refine S.sliceFrom ?_ | refine S.eqNil ?_ | refine S.eqbT ?_ | refine S.nebF ?_ | refine S.eqb ?_ | refine S.neb ?_)
 | (with_reducible first | refine S.nc ?_ | refine S.fld ?_ (h1 := fHeapL) | refine S.fld ?_ (h1 := fHeapM) | refine S.fld ?_ (h1 := fQueueH) | refine S.eqP ?_ | refine S.neP ?_ | refine S.quo ?_ | refine S.mkP ?_)
 | ((with_reducible apply CW.cond_true); exact rfl)
 | ((with_reducible apply CW.cond_false); exact rfl)
 | ((with_reducible apply Fin.blk_far); exact rfl))
  refine S.lds (cs := (p.with A' p.rn c').cs) (by rfl) stPod (fun k u hk => by rw [Nat.zero_add]; exact hB4.cell hk) (by rfl) (by rfl) ?_
  refine S.stB (vs := (p.with A' p.rn c').cs) (by rfl) (by rfl) rfl hB2 rfl szPod9 (PV.one _) (by rfl) ?_
  intro w5 hg5 hB5
  have hb2l : w.heap.size ≤ b2 := by have := hx1.le; omega
  have hX5 : X w w5 := below_g hX4 hg5 hX4.le hb2l
  repeat (first
 | (with_reducible first
 | apply CW.seq | apply CW.region | apply CW.block | apply CW.ret | apply CW.skip | apply CW.label | apply CW.exit
 | apply W.nil | apply Fin.seq | apply Fin.then_ret | apply Fin.then_exit | apply Fin.blk_ret | apply Fin.blk_normal | apply Fin.blk_here)
 | (with_reducible first | refine S.move ?_ | refine S.assign ?_ | refine S.pickT ?_ | refine S.pickF ?_ | refine S.lss ?_ | refine S.gtr ?_ | refine S.leq ?_ | refine S.geq ?_ | refine S.eqT ?_ | refine S.neF ?_ | refine S.eql ?_ | refine S.neq ?_ | refine S.add ?_ | refine S.sub ?_ | refine S.mul ?_ | refine S.conv ?_ | refine S.shr1 ?_ | refine S.neg ?_ | refine S.not ?_ | refine S.extract ?_ | refine S.len ?_ | refine S.fld ?_ | refine S.index ?_ | refine S.skp ?_ | refine S.sliceTo ?_ | refine S.sliceFrom ?_ | refine S.eqNil ?_ | refine S.eqbT ?_ | refine S.nebF ?_ | refine S.eqb ?_ | refine S.neb ?_)
 | (with_reducible first | refine S.nc ?_ | refine S.fld ?_ (h1 := fHeapL) | refine S.fld ?_ (h1 := fHeapM) | refine S.fld ?_ (h1 := fQueueH) | refine S.eqP ?_ | refine S.neP ?_ | refine S.quo ?_ | refine S.mkP ?_)
 | ((with_reducible apply CW.cond_true); exact rfl)
 | ((with_reducible apply CW.cond_false); exact rfl)
 | ((with_reducible apply Fin.blk_far); exact rfl))
  refine R.c1 rfl (by rfl) hB5 stPod ⟨A', c', rfl, ⟨hR.1, fun hne2 => ?_⟩, hX5⟩
  obtain ⟨b, sp, e1, e2, e3⟩ := hR.2 hne2
  exact ⟨b, sp, e1, by have := hx.le; omega, (show G b2 w4 w5 from hg5).blk (hg4.blk e3 (by omega)) (by omega)⟩

end Go.Proofs.Ytmilpjkjcanghaa

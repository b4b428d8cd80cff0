/- Operations of law 08: few. -/
import Derived.Test.YtmilpjkjcanghaaDoorP11
namespace Go.Proofs.YtmilpjkjcanghaaDoor
open Go.RowKit
set_option linter.unusedVariables false
set_option linter.unusedSimpArgs false

/-- An operation. -/
structure OV where
  kind : Int
  pod : PV
  reason : Int
def OV.cs (o : OV) : List Value := .int .i64 o.kind :: (o.pod.cs ++ [.int .i64 o.reason])
def OV.v (o : OV) : Value := .agg o.cs.toArray
def OV.zero : OV := ⟨0, PV.zero, 0⟩
theorem OV.cs_length (o : OV) : o.cs.length = 11 := rfl
theorem OV.pod_at (o : OV) (j : Nat) (u : Value) (h : o.pod.cs[j]? = some u) : o.cs[1 + j]? = some u := by
  have hj : j < o.pod.cs.length := (List.getElem?_eq_some_iff.1 h).1
  unfold OV.cs
  rw [Nat.add_comm, List.getElem?_cons_succ, List.getElem?_append_left hj]
  exact h
/-- A slice of operations that reads as L, in a block below B. -/
def OL (w : World) (B : Nat) (v : Value) (L : List OV) : Prop :=
  ∃ A c, v = .slice A L.length c ∧ L.length ≤ c ∧ (L ≠ [] → ∃ b o, A = some ⟨b, o, none⟩ ∧ b < B ∧ ∀ i p k u, L[i]? = some p → p.cs[k]? = some u → w.cell? ⟨b, o + i * 11 + k, none⟩ = some u)
theorem OL.below {w w' : World} {B : Nat} {v : Value} {L : List OV} (h : OL w B v L) (hb : Below B w w') : OL w' B v L := by
  obtain ⟨A, c, rfl, hl, hc⟩ := h
  refine ⟨A, c, rfl, hl, fun hne => ?_⟩
  obtain ⟨b, o, rfl, hbB, hcell⟩ := hc hne
  exact ⟨b, o, rfl, hbB, fun i p k u hi hk => (hb.cell (p := ⟨b, o + i * 11 + k, none⟩) hbB).trans (hcell i p k u hi hk)⟩
theorem OL.more {w : World} {B B' : Nat} {v : Value} {L : List OV} (h : OL w B v L) (hb : B ≤ B') : OL w B' v L := by
  obtain ⟨A, c, rfl, hl, hc⟩ := h
  refine ⟨A, c, rfl, hl, fun hne => ?_⟩
  obtain ⟨b, o, rfl, hbB, hcell⟩ := hc hne
  exact ⟨b, o, rfl, by omega, hcell⟩
theorem OL.open_ {w : World} {B : Nat} {v : Value} {L : List OV} (h : OL w B v L) : ∃ A c, v = .slice A L.length c ∧ L.length ≤ c ∧ ∀ k, k < L.length → ∃ b o, A = some ⟨b, o, none⟩ ∧ b < B ∧ ∀ i p k u, L[i]? = some p → p.cs[k]? = some u → w.cell? ⟨b, o + i * 11 + k, none⟩ = some u := by
  obtain ⟨A, c, rfl, hl, hc⟩ := h
  exact ⟨A, c, rfl, hl, fun k hk => hc (by rintro rfl; simp at hk)⟩

/-- few -/
def few8 (L : List OV) : Bool := L.all (fun o => fewB [o.pod]) && decide (L.length ≤ 60)

theorem few8_calls (l : Value) (L : List OV) (w : World) (hl : OL w w.heap.size l L) (hn : L.length ≤ 9223372036854775807) :
    CallsR Tryd.prog 19 [l] w fun u w' => u = .bool (few8 L) ∧ X w w' := by
  obtain ⟨A, c, rfl, hc, hat⟩ := hl.open_
  refine enter1 Tryd.func19 rfl Tryd.ntmps19 rfl ?_
  repeat (first
 | (with_reducible first
 | apply CW.seq | apply CW.region | apply CW.block | apply CW.ret | apply CW.skip | apply CW.label | apply CW.exit
 | apply W.nil | apply Fin.seq | apply Fin.then_ret | apply Fin.then_exit | apply Fin.blk_ret | apply Fin.blk_normal | apply Fin.blk_here)
 | (with_reducible first | refine S.move ?_ | refine S.assign ?_ | refine S.pickT ?_ | refine S.pickF ?_ | refine S.lss ?_ | refine S.gtr ?_ | refine S.leq ?_ | refine S.geq ?_ | refine S.eqT ?_ | refine S.neF ?_ | refine S.eql ?_ | refine S.neq ?_ | refine S.add ?_ | refine S.sub ?_ | refine S.mul ?_ | refine S.conv ?_ | refine S.shr1 ?_ | refine S.neg ?_ | refine S.not ?_ | refine S.extract ?_ | refine S.len ?_ | refine S.fld ?_ | refine S.index ?_ | refine S.skp ?_ | refine S.sliceTo ?_ | refine S.sliceFrom ?_ | refine S.eqNil ?_ | refine S.eqbT ?_ | refine S.nebF ?_ | refine S.eqb ?_ | refine S.neb ?_)
 | (with_reducible first | refine S.nc ?_ | refine S.fld ?_ (h1 := fRLP) | refine S.fld ?_ (h1 := fRLR) | refine S.fld ?_ (h1 := fOpKind) | refine S.fld ?_ (h1 := fOpPod) | refine S.fld ?_ (h1 := fOpReason) | refine S.eqP ?_ | refine S.neP ?_)
 | ((with_reducible apply CW.cond_true); exact rfl)
 | ((with_reducible apply CW.cond_false); exact rfl)
 | ((with_reducible apply Fin.blk_far); exact rfl))
  refine CW.loop (ι := Nat) (fun k => [(3, .int .i64 (k : Int)), (0, .slice A L.length c)]) (fun k w' => X w w' ∧ k ≤ L.length ∧ (L.take k).all (fun o => fewB [o.pod]) = true) (fun k => L.length - k) ?_ 0 (by repeat (first | exact trivial | refine ⟨congrArg (fun z : Int => some (Value.int .i64 z)) (by omega), ?_⟩ | refine ⟨rfl, ?_⟩)) ⟨X.refl _, Nat.zero_le _, by simp⟩
  rintro k w1 ⟨hx1, hk, ho⟩
  repeat (first
 | (with_reducible first
 | apply CW.seq | apply CW.region | apply CW.block | apply CW.ret | apply CW.skip | apply CW.label | apply CW.exit
 | apply W.nil | apply Fin.seq | apply Fin.then_ret | apply Fin.then_exit | apply Fin.blk_ret | apply Fin.blk_normal | apply Fin.blk_here)
 | (with_reducible first | refine S.move ?_ | refine S.assign ?_ | refine S.pickT ?_ | refine S.pickF ?_ | refine S.lss ?_ | refine S.gtr ?_ | refine S.leq ?_ | refine S.geq ?_ | refine S.eqT ?_ | refine S.neF ?_ | refine S.eql ?_ | refine S.neq ?_ | refine S.add ?_ | refine S.sub ?_ | refine S.mul ?_ | refine S.conv ?_ | refine S.shr1 ?_ | refine S.neg ?_ | refine S.not ?_ | refine S.extract ?_ | refine S.len ?_ | refine S.fld ?_ | refine S.index ?_ | refine S.skp ?_ | refine S.sliceTo ?_ | refine S.sliceFrom ?_ | refine S.eqNil ?_ | refine S.eqbT ?_ | refine S.nebF ?_ | refine S.eqb ?_ | refine S.neb ?_)
 | (with_reducible first | refine S.nc ?_ | refine S.fld ?_ (h1 := fRLP) | refine S.fld ?_ (h1 := fRLR) | refine S.fld ?_ (h1 := fOpKind) | refine S.fld ?_ (h1 := fOpPod) | refine S.fld ?_ (h1 := fOpReason) | refine S.eqP ?_ | refine S.neP ?_)
 | ((with_reducible apply CW.cond_true); exact rfl)
 | ((with_reducible apply CW.cond_false); exact rfl)
 | ((with_reducible apply Fin.blk_far); exact rfl))
  refine S.len (h1 := Tryd.underlying40) ?_
  repeat (first
 | (with_reducible first
 | apply CW.seq | apply CW.region | apply CW.block | apply CW.ret | apply CW.skip | apply CW.label | apply CW.exit
 | apply W.nil | apply Fin.seq | apply Fin.then_ret | apply Fin.then_exit | apply Fin.blk_ret | apply Fin.blk_normal | apply Fin.blk_here)
 | (with_reducible first | refine S.move ?_ | refine S.assign ?_ | refine S.pickT ?_ | refine S.pickF ?_ | refine S.lss ?_ | refine S.gtr ?_ | refine S.leq ?_ | refine S.geq ?_ | refine S.eqT ?_ | refine S.neF ?_ | refine S.eql ?_ | refine S.neq ?_ | refine S.add ?_ | refine S.sub ?_ | refine S.mul ?_ | refine S.conv ?_ | refine S.shr1 ?_ | refine S.neg ?_ | refine S.not ?_ | refine S.extract ?_ | refine S.len ?_ | refine S.fld ?_ | refine S.index ?_ | refine S.skp ?_ | refine S.sliceTo ?_ | refine S.sliceFrom ?_ | refine S.eqNil ?_ | refine S.eqbT ?_ | refine S.nebF ?_ | refine S.eqb ?_ | refine S.neb ?_)
 | (with_reducible first | refine S.nc ?_ | refine S.fld ?_ (h1 := fRLP) | refine S.fld ?_ (h1 := fRLR) | refine S.fld ?_ (h1 := fOpKind) | refine S.fld ?_ (h1 := fOpPod) | refine S.fld ?_ (h1 := fOpReason) | refine S.eqP ?_ | refine S.neP ?_)
 | ((with_reducible apply CW.cond_true); exact rfl)
 | ((with_reducible apply CW.cond_false); exact rfl)
 | ((with_reducible apply Fin.blk_far); exact rfl))
  refine CW.cond (by rfl) (fun h => ?_) (fun h => ?_)
  · have hk' : k < L.length := by have := of_decide_eq_true h; omega
    clear h
    obtain ⟨b, o, rfl, hbB, hcell⟩ := hat k hk'
    have hp : L[k]? = some L[k] := List.getElem?_eq_getElem hk'
    have hstep : (L.take (k + 1)).all (fun o => fewB [o.pod]) = fewB [L[k].pod] := by
      rw [List.take_succ_eq_append_getElem hk', List.all_append, ho]
      simp
    have hno : fewB [L[k].pod] = false → few8 L = false := fun hf => by
      unfold few8
      have : L.all (fun o => fewB [o.pod]) = false := by
        rw [List.all_eq_false]
        exact ⟨L[k], List.getElem_mem hk', by rw [hf]; simp⟩
      rw [this]; rfl
    generalize L[k] = p at *
    repeat (first
 | (with_reducible first
 | apply CW.seq | apply CW.region | apply CW.block | apply CW.ret | apply CW.skip | apply CW.label | apply CW.exit
 | apply W.nil | apply Fin.seq | apply Fin.then_ret | apply Fin.then_exit | apply Fin.blk_ret | apply Fin.blk_normal | apply Fin.blk_here)
 | (with_reducible first | refine S.move ?_ | refine S.assign ?_ | refine S.pickT ?_ | refine S.pickF ?_ | refine S.lss ?_ | refine S.gtr ?_ | refine S.leq ?_ | refine S.geq ?_ | refine S.eqT ?_ | refine S.neF ?_ | refine S.eql ?_ | refine S.neq ?_ | refine S.add ?_ | refine S.sub ?_ | refine S.mul ?_ | refine S.conv ?_ | refine S.shr1 ?_ | refine S.neg ?_ | refine S.not ?_ | refine S.extract ?_ | refine S.len ?_ | refine S.fld ?_ | refine S.index ?_ | refine S.skp ?_ | refine S.sliceTo ?_ | refine S.sliceFrom ?_ | refine S.eqNil ?_ | refine S.eqbT ?_ | refine S.nebF ?_ | refine S.eqb ?_ | refine S.neb ?_)
 | (with_reducible first | refine S.nc ?_ | refine S.fld ?_ (h1 := fRLP) | refine S.fld ?_ (h1 := fRLR) | refine S.fld ?_ (h1 := fOpKind) | refine S.fld ?_ (h1 := fOpPod) | refine S.fld ?_ (h1 := fOpReason) | refine S.eqP ?_ | refine S.neP ?_)
 | ((with_reducible apply CW.cond_true); exact rfl)
 | ((with_reducible apply CW.cond_false); exact rfl)
 | ((with_reducible apply Fin.blk_far); exact rfl))
    refine S.index (h2 := slOps) ?_
    refine S.fld (h1 := fOpPod) ?_
    refine S.lds (cs := p.pod.cs) (by rfl) stPod (fun j u hj => by
      have := (hx1.cell (p := ⟨b, o + k * 11 + (1 + j), none⟩) hbB).trans (hcell k p (1 + j) u hp (p.pod_at j u hj))
      rw [show o + k * 11 + 1 + j = o + k * 11 + (1 + j) from by omega]
      exact this) (by rfl) (by rfl) ?_
    refine W.newBlk (d := some 15) (mk := fun b => .slice (some ⟨b, 0, none⟩) 1 1) (cs := flat [p.pod]) (op_buildSlice Tryd.underlying22 zPod rfl rfl (by rfl) rfl (by simp [Value.cells, PV.cs, PV.v]) rfl rfl) (by rfl) (by rfl) ?_
    intro b2 w2 hx2 hb2 hB2
    refine S.cl (op_call ent10 (by rfl) (by rfl)) (by rfl) (by rfl) (Few_calls _ [p.pod] w2.heap.size w2 (hB2.ps (L := [p.pod]) (Nat.le_refl _)) (by simp)) ?_
    rintro _ w3 ⟨rfl, rfl⟩
    repeat (first
 | (with_reducible first
 | apply CW.seq | apply CW.region | apply CW.block | apply CW.ret | apply CW.skip | apply CW.label | apply CW.exit
 | apply W.nil | apply Fin.seq | apply Fin.then_ret | apply Fin.then_exit | apply Fin.blk_ret | apply Fin.blk_normal | apply Fin.blk_here)
 | (with_reducible first | refine S.move ?_ | refine S.assign ?_ | refine S.pickT ?_ | refine S.pickF ?_ | refine S.lss ?_ | refine S.gtr ?_ | refine S.leq ?_ | refine S.geq ?_ | refine S.eqT ?_ | refine S.neF ?_ | refine S.eql ?_ | refine S.neq ?_ | refine S.add ?_ | refine S.sub ?_ | refine S.mul ?_ | refine S.conv ?_ | refine S.shr1 ?_ | refine S.neg ?_ | refine S.not ?_ | refine S.extract ?_ | refine S.len ?_ | refine S.fld ?_ | refine S.index ?_ | refine S.skp ?_ | refine S.sliceTo ?_ | refine S.sliceFrom ?_ | refine S.eqNil ?_ | refine S.eqbT ?_ | refine S.nebF ?_ | refine S.eqb ?_ | refine S.neb ?_)
 | (with_reducible first | refine S.nc ?_ | refine S.fld ?_ (h1 := fRLP) | refine S.fld ?_ (h1 := fRLR) | refine S.fld ?_ (h1 := fOpKind) | refine S.fld ?_ (h1 := fOpPod) | refine S.fld ?_ (h1 := fOpReason) | refine S.eqP ?_ | refine S.neP ?_)
 | ((with_reducible apply CW.cond_true); exact rfl)
 | ((with_reducible apply CW.cond_false); exact rfl)
 | ((with_reducible apply Fin.blk_far); exact rfl))
    refine CW.cond (by rfl) (fun h => ?_) (fun h => ?_)
    · have h : fewB [p.pod] = false := by simpa using h
      repeat (first
 | (with_reducible first
 | apply CW.seq | apply CW.region | apply CW.block | apply CW.ret | apply CW.skip | apply CW.label | apply CW.exit
 | apply W.nil | apply Fin.seq | apply Fin.then_ret | apply Fin.then_exit | apply Fin.blk_ret | apply Fin.blk_normal | apply Fin.blk_here)
 | (with_reducible first | refine S.move ?_ | refine S.assign ?_ | refine S.pickT ?_ | refine S.pickF ?_ | refine S.lss ?_ | refine S.gtr ?_ | refine S.leq ?_ | refine S.geq ?_ | refine S.eqT ?_ | refine S.neF ?_ | refine S.eql ?_ | refine S.neq ?_ | refine S.add ?_ | refine S.sub ?_ | refine S.mul ?_ | refine S.conv ?_ | refine S.shr1 ?_ | refine S.neg ?_ | refine S.not ?_ | refine S.extract ?_ | refine S.len ?_ | refine S.fld ?_ | refine S.index ?_ | refine S.skp ?_ | refine S.sliceTo ?_ | refine S.sliceFrom ?_ | refine S.eqNil ?_ | refine S.eqbT ?_ | refine S.nebF ?_ | refine S.eqb ?_ | refine S.neb ?_)
 | (with_reducible first | refine S.nc ?_ | refine S.fld ?_ (h1 := fRLP) | refine S.fld ?_ (h1 := fRLR) | refine S.fld ?_ (h1 := fOpKind) | refine S.fld ?_ (h1 := fOpPod) | refine S.fld ?_ (h1 := fOpReason) | refine S.eqP ?_ | refine S.neP ?_)
 | ((with_reducible apply CW.cond_true); exact rfl)
 | ((with_reducible apply CW.cond_false); exact rfl)
 | ((with_reducible apply Fin.blk_far); exact rfl))
      (with_reducible apply R.r1); exact rfl; exact rfl
      rw [hno h]
      exact ⟨rfl, hx1.trans hx2⟩
    · have h : fewB [p.pod] = true := by simpa using h
      repeat (first
 | (with_reducible first
 | apply CW.seq | apply CW.region | apply CW.block | apply CW.ret | apply CW.skip | apply CW.label | apply CW.exit
 | apply W.nil | apply Fin.seq | apply Fin.then_ret | apply Fin.then_exit | apply Fin.blk_ret | apply Fin.blk_normal | apply Fin.blk_here)
 | (with_reducible first | refine S.move ?_ | refine S.assign ?_ | refine S.pickT ?_ | refine S.pickF ?_ | refine S.lss ?_ | refine S.gtr ?_ | refine S.leq ?_ | refine S.geq ?_ | refine S.eqT ?_ | refine S.neF ?_ | refine S.eql ?_ | refine S.neq ?_ | refine S.add ?_ | refine S.sub ?_ | refine S.mul ?_ | refine S.conv ?_ | refine S.shr1 ?_ | refine S.neg ?_ | refine S.not ?_ | refine S.extract ?_ | refine S.len ?_ | refine S.fld ?_ | refine S.index ?_ | refine S.skp ?_ | refine S.sliceTo ?_ | refine S.sliceFrom ?_ | refine S.eqNil ?_ | refine S.eqbT ?_ | refine S.nebF ?_ | refine S.eqb ?_ | refine S.neb ?_)
 | (with_reducible first | refine S.nc ?_ | refine S.fld ?_ (h1 := fRLP) | refine S.fld ?_ (h1 := fRLR) | refine S.fld ?_ (h1 := fOpKind) | refine S.fld ?_ (h1 := fOpPod) | refine S.fld ?_ (h1 := fOpReason) | refine S.eqP ?_ | refine S.neP ?_)
 | ((with_reducible apply CW.cond_true); exact rfl)
 | ((with_reducible apply CW.cond_false); exact rfl)
 | ((with_reducible apply Fin.blk_far); exact rfl))
      refine Fin.round (k + 1) (by omega) (by repeat (first | exact trivial | refine ⟨congrArg (fun z : Int => some (Value.int .i64 z)) (by omega), ?_⟩ | refine ⟨rfl, ?_⟩)) ⟨hx1.trans hx2, by omega, hstep.trans h⟩
  · have h := of_decide_eq_false h
    repeat (first
 | (with_reducible first
 | apply CW.seq | apply CW.region | apply CW.block | apply CW.ret | apply CW.skip | apply CW.label | apply CW.exit
 | apply W.nil | apply Fin.seq | apply Fin.then_ret | apply Fin.then_exit | apply Fin.blk_ret | apply Fin.blk_normal | apply Fin.blk_here)
 | (with_reducible first | refine S.move ?_ | refine S.assign ?_ | refine S.pickT ?_ | refine S.pickF ?_ | refine S.lss ?_ | refine S.gtr ?_ | refine S.leq ?_ | refine S.geq ?_ | refine S.eqT ?_ | refine S.neF ?_ | refine S.eql ?_ | refine S.neq ?_ | refine S.add ?_ | refine S.sub ?_ | refine S.mul ?_ | refine S.conv ?_ | refine S.shr1 ?_ | refine S.neg ?_ | refine S.not ?_ | refine S.extract ?_ | refine S.len ?_ | refine S.fld ?_ | refine S.index ?_ | refine S.skp ?_ | refine S.sliceTo ?_ | refine S.sliceFrom ?_ | refine S.eqNil ?_ | refine S.eqbT ?_ | refine S.nebF ?_ | refine S.eqb ?_ | refine S.neb ?_)
 | (with_reducible first | refine S.nc ?_ | refine S.fld ?_ (h1 := fRLP) | refine S.fld ?_ (h1 := fRLR) | refine S.fld ?_ (h1 := fOpKind) | refine S.fld ?_ (h1 := fOpPod) | refine S.fld ?_ (h1 := fOpReason) | refine S.eqP ?_ | refine S.neP ?_)
 | ((with_reducible apply CW.cond_true); exact rfl)
 | ((with_reducible apply CW.cond_false); exact rfl)
 | ((with_reducible apply Fin.blk_far); exact rfl))
    refine S.len (h1 := Tryd.underlying40) ?_
    repeat (first
 | (with_reducible first
 | apply CW.seq | apply CW.region | apply CW.block | apply CW.ret | apply CW.skip | apply CW.label | apply CW.exit
 | apply W.nil | apply Fin.seq | apply Fin.then_ret | apply Fin.then_exit | apply Fin.blk_ret | apply Fin.blk_normal | apply Fin.blk_here)
 | (with_reducible first | refine S.move ?_ | refine S.assign ?_ | refine S.pickT ?_ | refine S.pickF ?_ | refine S.lss ?_ | refine S.gtr ?_ | refine S.leq ?_ | refine S.geq ?_ | refine S.eqT ?_ | refine S.neF ?_ | refine S.eql ?_ | refine S.neq ?_ | refine S.add ?_ | refine S.sub ?_ | refine S.mul ?_ | refine S.conv ?_ | refine S.shr1 ?_ | refine S.neg ?_ | refine S.not ?_ | refine S.extract ?_ | refine S.len ?_ | refine S.fld ?_ | refine S.index ?_ | refine S.skp ?_ | refine S.sliceTo ?_ | refine S.sliceFrom ?_ | refine S.eqNil ?_ | refine S.eqbT ?_ | refine S.nebF ?_ | refine S.eqb ?_ | refine S.neb ?_)
 | (with_reducible first | refine S.nc ?_ | refine S.fld ?_ (h1 := fRLP) | refine S.fld ?_ (h1 := fRLR) | refine S.fld ?_ (h1 := fOpKind) | refine S.fld ?_ (h1 := fOpPod) | refine S.fld ?_ (h1 := fOpReason) | refine S.eqP ?_ | refine S.neP ?_)
 | ((with_reducible apply CW.cond_true); exact rfl)
 | ((with_reducible apply CW.cond_false); exact rfl)
 | ((with_reducible apply Fin.blk_far); exact rfl))
    (with_reducible apply R.r1); exact rfl; exact rfl
    rw [List.take_of_length_le (by omega)] at ho
    refine ⟨?_, hx1⟩
    unfold few8
    rw [ho, Bool.true_and, Value.bool.injEq, decide_eq_decide]
    omega

/-! ## What the reference does -/
def abZ (w : World) (z : PV × Int) : AP × Int := (ab w z.1, z.2)
def okZ (Z : List (PV × Int)) (id r : Int) : Bool := decide (1 ≤ r) && decide (r ≤ 4) && !hasR (Z.map (·.1)) id
def stepZ (Z : List (PV × Int)) (o : OV) : List (PV × Int) :=
  if o.kind = 0 then (if okZ Z o.pod.id o.reason then Z ++ [(o.pod, o.reason)] else Z) else if o.kind = 1 then keepZ Z o.pod.id else []
theorem absZ (wb : World) (Z : List (PV × Int)) : PodsOf wb (Z.map (abZ wb)) (Z.map (·.1)) := by
  unfold PodsOf
  rw [List.map_map, List.map_map]
  rfl
theorem okZ_map (wb : World) (Z : List (PV × Int)) (id r : Int) : okAdd (Z.map (abZ wb)) id r = okZ Z id r := by
  unfold okAdd okZ
  rw [(absZ wb Z).has]
theorem addZ (wb : World) (Z : List (PV × Int)) (p : PV) (r : Int) : addL (Z.map (abZ wb)) (ab wb p) r = (if okZ Z p.id r then Z ++ [(p, r)] else Z).map (abZ wb) := by
  unfold addL
  rw [show (ab wb p).1.id = p.id from rfl, okZ_map]
  split
  · rw [List.map_append]; rfl
  · rfl
theorem keepZ_map (wb : World) (Z : List (PV × Int)) (id : Int) : ((Z.map (abZ wb)).filter fun a => !(a.1.1.id == id)) = (keepZ Z id).map (abZ wb) := by
  unfold keepZ
  rw [List.filter_map]
  rfl
theorem findZ_map (wb : World) (Z : List (PV × Int)) (id : Int) : (((Z.map (abZ wb)).find? fun a => a.1.1.id == id).getD zE).1 = ab wb (foundP (Z.map (·.1)) id) := by
  rw [foundP_ab, List.map_map, List.find?_map, List.find?_map]
  have e1 : ((fun a : AP × Int => a.1.1.id == id) ∘ abZ wb) = fun z : PV × Int => z.1.id == id := rfl
  have e2 : ((fun a : AP => a.1.id == id) ∘ (ab wb ∘ fun x : PV × Int => x.1)) = fun z : PV × Int => z.1.id == id := rfl
  rw [e1, e2]
  cases Z.find? fun z => z.1.id == id <;> rfl
theorem stepZ_len (Z : List (PV × Int)) (o : OV) : (stepZ Z o).length ≤ Z.length + 1 := by
  unfold stepZ
  split
  · split <;> simp
  · split
    · have := keepZ_len Z o.pod.id; omega
    · simp
theorem stepZ_mem (Z : List (PV × Int)) (o : OV) : ∀ z ∈ stepZ Z o, z ∈ Z ∨ z = (o.pod, o.reason) := by
  intro z hz
  unfold stepZ at hz
  split at hz
  · split at hz
    · rcases List.mem_append.1 hz with h | h
      · exact .inl h
      · exact .inr (List.mem_singleton.1 h)
    · exact .inl hz
  · split at hz
    · exact .inl (List.mem_filter.1 hz).1
    · cases hz

end Go.Proofs.YtmilpjkjcanghaaDoor

/- awake of law 07. -/
import Derived.Test.YtmilpjkjcanghaaQ12
namespace Go.Proofs.Ytmilpjkjcanghaa
open Go.RowKit
set_option linter.unusedVariables false
set_option linter.unusedSimpArgs false

theorem RK.none_ {w : World} {K : Nat → Prop} {p : PV} (h1 : p.rn = 0) : RK w K p := ⟨[], by simp, h1, fun h => absurd rfl h⟩

theorem qPush_none (l : Value) (L : List PV) (w : World) (hl : PS w w.heap.size l L) (hn : L.length ≤ 1000) :
    CallsR Try.prog 30 [.pointer none, l] w fun u w' => u = .int .i64 0 ∧ X w w' := by
  obtain ⟨A, c, rfl, hc, hat⟩ := hl.open_
  refine enter2 Try.func30 rfl Try.ntmps30 rfl ?_
  repeat (first
 | (with_reducible first
 | apply CW.seq | apply CW.region | apply CW.block | apply CW.ret | apply CW.skip | apply CW.label | apply CW.exit
 | apply W.nil | apply Fin.seq | apply Fin.then_ret | apply Fin.then_exit | apply Fin.blk_ret | apply Fin.blk_normal | apply Fin.blk_here)
 | (with_reducible first | refine S.move ?_ | refine S.assign ?_ | refine S.pickT ?_ | refine S.pickF ?_ | refine S.lss ?_ | refine S.gtr ?_ | refine S.leq ?_ | refine S.geq ?_ | refine S.eqT ?_ | refine S.neF ?_ | refine S.eql ?_ | refine S.neq ?_ | refine S.add ?_ | refine S.sub ?_ | refine S.mul ?_ | refine S.conv ?_ | refine S.shr1 ?_ | refine S.neg ?_ | refine S.not ?_ | refine S.extract ?_ | refine S.len ?_ | refine S.fld ?_ | refine S.index ?_ | refine S.skp ?_ | refine S.sliceTo ?_ | refine S.sliceFrom ?_ | refine S.eqNil ?_ | refine S.eqbT ?_ | refine S.nebF ?_ | refine S.eqb ?_ | refine S.neb ?_)
 | (with_reducible first | refine S.nc ?_ | refine S.fld ?_ (h1 := fHeapL) | refine S.fld ?_ (h1 := fHeapM) | refine S.fld ?_ (h1 := fQueueH) | refine S.eqP ?_ | refine S.neP ?_ | refine S.quo ?_ | refine S.mkP ?_)
 | ((with_reducible apply CW.cond_true); exact rfl)
 | ((with_reducible apply CW.cond_false); exact rfl)
 | ((with_reducible apply Fin.blk_far); exact rfl))
  refine CW.loop (ι := Nat) (fun k => [(10, .int .i64 (k : Int)), (9, .int .i64 (L.length : Int)), (8, .slice A L.length c), (0, .pointer none), (5, .int .i64 0)]) (fun k w' => X w w' ∧ k ≤ L.length) (fun k => L.length - k) ?_ 0 (by repeat (first | exact trivial | refine ⟨congrArg (fun z : Int => some (Value.int .i64 z)) (by omega), ?_⟩ | refine ⟨rfl, ?_⟩)) ⟨X.refl _, Nat.zero_le _⟩
  rintro k w1 ⟨hx1, hk⟩
  repeat (first
 | (with_reducible first
 | apply CW.seq | apply CW.region | apply CW.block | apply CW.ret | apply CW.skip | apply CW.label | apply CW.exit
 | apply W.nil | apply Fin.seq | apply Fin.then_ret | apply Fin.then_exit | apply Fin.blk_ret | apply Fin.blk_normal | apply Fin.blk_here)
 | (with_reducible first | refine S.move ?_ | refine S.assign ?_ | refine S.pickT ?_ | refine S.pickF ?_ | refine S.lss ?_ | refine S.gtr ?_ | refine S.leq ?_ | refine S.geq ?_ | refine S.eqT ?_ | refine S.neF ?_ | refine S.eql ?_ | refine S.neq ?_ | refine S.add ?_ | refine S.sub ?_ | refine S.mul ?_ | refine S.conv ?_ | refine S.shr1 ?_ | refine S.neg ?_ | refine S.not ?_ | refine S.extract ?_ | refine S.len ?_ | refine S.fld ?_ | refine S.index ?_ | refine S.skp ?_ | refine S.sliceTo ?_ | refine S.sliceFrom ?_ | refine S.eqNil ?_ | refine S.eqbT ?_ | refine S.nebF ?_ | refine S.eqb ?_ | refine S.neb ?_)
 | (with_reducible first | refine S.nc ?_ | refine S.fld ?_ (h1 := fHeapL) | refine S.fld ?_ (h1 := fHeapM) | refine S.fld ?_ (h1 := fQueueH) | refine S.eqP ?_ | refine S.neP ?_ | refine S.quo ?_ | refine S.mkP ?_)
 | ((with_reducible apply CW.cond_true); exact rfl)
 | ((with_reducible apply CW.cond_false); exact rfl)
 | ((with_reducible apply Fin.blk_far); exact rfl))
  refine CW.cond (by rfl) (fun hc => ?_) (fun hc => ?_)
  · have hk' : k < L.length := by have := of_decide_eq_true hc; omega
    clear hc
    obtain ⟨b, o, rfl, hbB, hcell⟩ := hat k hk'
    have hp : L[k]? = some L[k] := List.getElem?_eq_getElem hk'
    generalize L[k] = p at *
    repeat (first
 | (with_reducible first
 | apply CW.seq | apply CW.region | apply CW.block | apply CW.ret | apply CW.skip | apply CW.label | apply CW.exit
 | apply W.nil | apply Fin.seq | apply Fin.then_ret | apply Fin.then_exit | apply Fin.blk_ret | apply Fin.blk_normal | apply Fin.blk_here)
 | (with_reducible first | refine S.move ?_ | refine S.assign ?_ | refine S.pickT ?_ | refine S.pickF ?_ | refine S.lss ?_ | refine S.gtr ?_ | refine S.leq ?_ | refine S.geq ?_ | refine S.eqT ?_ | refine S.neF ?_ | refine S.eql ?_ | refine S.neq ?_ | refine S.add ?_ | refine S.sub ?_ | refine S.mul ?_ | refine S.conv ?_ | refine S.shr1 ?_ | refine S.neg ?_ | refine S.not ?_ | refine S.extract ?_ | refine S.len ?_ | refine S.fld ?_ | refine S.index ?_ | refine S.skp ?_ | refine S.sliceTo ?_ | refine S.sliceFrom ?_ | refine S.eqNil ?_ | refine S.eqbT ?_ | refine S.nebF ?_ | refine S.eqb ?_ | refine S.neb ?_)
 | (with_reducible first | refine S.nc ?_ | refine S.fld ?_ (h1 := fHeapL) | refine S.fld ?_ (h1 := fHeapM) | refine S.fld ?_ (h1 := fQueueH) | refine S.eqP ?_ | refine S.neP ?_ | refine S.quo ?_ | refine S.mkP ?_)
 | ((with_reducible apply CW.cond_true); exact rfl)
 | ((with_reducible apply CW.cond_false); exact rfl)
 | ((with_reducible apply Fin.blk_far); exact rfl))
    refine S.lds (cs := p.cs) (by rfl) stPod (fun j u hj => (hx1.cell (p := ⟨b, _, none⟩) hbB).trans (hcell k p j u hp hj)) (by rfl) (by rfl) ?_
    refine W.newBlk (d := some 7) (mk := fun b => .pointer (some ⟨b, 0, none⟩)) (cs := PV.zero.cs) (op_alloc' zPod rfl) (by rfl) (by rfl) ?_
    intro b7 w2 hx2 hb2 hB2
    refine S.stB (vs := p.cs) (by rfl) (by rfl) rfl hB2 rfl szPod9 p.one (by rfl) ?_
    intro w3 hg3 hB3
    have hx3 : X w1 w3 := below_g hx2 hg3 hx2.le hb2
    repeat (first
 | (with_reducible first
 | apply CW.seq | apply CW.region | apply CW.block | apply CW.ret | apply CW.skip | apply CW.label | apply CW.exit
 | apply W.nil | apply Fin.seq | apply Fin.then_ret | apply Fin.then_exit | apply Fin.blk_ret | apply Fin.blk_normal | apply Fin.blk_here)
 | (with_reducible first | refine S.move ?_ | refine S.assign ?_ | refine S.pickT ?_ | refine S.pickF ?_ | refine S.lss ?_ | refine S.gtr ?_ | refine S.leq ?_ | refine S.geq ?_ | refine S.eqT ?_ | refine S.neF ?_ | refine S.eql ?_ | refine S.neq ?_ | refine S.add ?_ | refine S.sub ?_ | refine S.mul ?_ | refine S.conv ?_ | refine S.shr1 ?_ | refine S.neg ?_ | refine S.not ?_ | refine S.extract ?_ | refine S.len ?_ | refine S.fld ?_ | refine S.index ?_ | refine S.skp ?_ | refine S.sliceTo ?_ | refine S.sliceFrom ?_ | refine S.eqNil ?_ | refine S.eqbT ?_ | refine S.nebF ?_ | refine S.eqb ?_ | refine S.neb ?_)
 | (with_reducible first | refine S.nc ?_ | refine S.fld ?_ (h1 := fHeapL) | refine S.fld ?_ (h1 := fHeapM) | refine S.fld ?_ (h1 := fQueueH) | refine S.eqP ?_ | refine S.neP ?_ | refine S.quo ?_ | refine S.mkP ?_)
 | ((with_reducible apply CW.cond_true); exact rfl)
 | ((with_reducible apply CW.cond_false); exact rfl)
 | ((with_reducible apply Fin.blk_far); exact rfl))
    repeat (refine S.skp ?_)
    repeat (first
 | (with_reducible first
 | apply CW.seq | apply CW.region | apply CW.block | apply CW.ret | apply CW.skip | apply CW.label | apply CW.exit
 | apply W.nil | apply Fin.seq | apply Fin.then_ret | apply Fin.then_exit | apply Fin.blk_ret | apply Fin.blk_normal | apply Fin.blk_here)
 | (with_reducible first | refine S.move ?_ | refine S.assign ?_ | refine S.pickT ?_ | refine S.pickF ?_ | refine S.lss ?_ | refine S.gtr ?_ | refine S.leq ?_ | refine S.geq ?_ | refine S.eqT ?_ | refine S.neF ?_ | refine S.eql ?_ | refine S.neq ?_ | refine S.add ?_ | refine S.sub ?_ | refine S.mul ?_ | refine S.conv ?_ | refine S.shr1 ?_ | refine S.neg ?_ | refine S.not ?_ | refine S.extract ?_ | refine S.len ?_ | refine S.fld ?_ | refine S.index ?_ | refine S.skp ?_ | refine S.sliceTo ?_ | refine S.sliceFrom ?_ | refine S.eqNil ?_ | refine S.eqbT ?_ | refine S.nebF ?_ | refine S.eqb ?_ | refine S.neb ?_)
 | (with_reducible first | refine S.nc ?_ | refine S.fld ?_ (h1 := fHeapL) | refine S.fld ?_ (h1 := fHeapM) | refine S.fld ?_ (h1 := fQueueH) | refine S.eqP ?_ | refine S.neP ?_ | refine S.quo ?_ | refine S.mkP ?_)
 | ((with_reducible apply CW.cond_true); exact rfl)
 | ((with_reducible apply CW.cond_false); exact rfl)
 | ((with_reducible apply Fin.blk_far); exact rfl))
    refine Fin.round (k + 1) (by omega) (by repeat (first | exact trivial | refine ⟨congrArg (fun z : Int => some (Value.int .i64 z)) (by omega), ?_⟩ | refine ⟨rfl, ?_⟩)) ⟨hx1.trans hx3, by omega⟩
  · repeat (first
 | (with_reducible first
 | apply CW.seq | apply CW.region | apply CW.block | apply CW.ret | apply CW.skip | apply CW.label | apply CW.exit
 | apply W.nil | apply Fin.seq | apply Fin.then_ret | apply Fin.then_exit | apply Fin.blk_ret | apply Fin.blk_normal | apply Fin.blk_here)
 | (with_reducible first | refine S.move ?_ | refine S.assign ?_ | refine S.pickT ?_ | refine S.pickF ?_ | refine S.lss ?_ | refine S.gtr ?_ | refine S.leq ?_ | refine S.geq ?_ | refine S.eqT ?_ | refine S.neF ?_ | refine S.eql ?_ | refine S.neq ?_ | refine S.add ?_ | refine S.sub ?_ | refine S.mul ?_ | refine S.conv ?_ | refine S.shr1 ?_ | refine S.neg ?_ | refine S.not ?_ | refine S.extract ?_ | refine S.len ?_ | refine S.fld ?_ | refine S.index ?_ | refine S.skp ?_ | refine S.sliceTo ?_ | refine S.sliceFrom ?_ | refine S.eqNil ?_ | refine S.eqbT ?_ | refine S.nebF ?_ | refine S.eqb ?_ | refine S.neb ?_)
 | (with_reducible first | refine S.nc ?_ | refine S.fld ?_ (h1 := fHeapL) | refine S.fld ?_ (h1 := fHeapM) | refine S.fld ?_ (h1 := fQueueH) | refine S.eqP ?_ | refine S.neP ?_ | refine S.quo ?_ | refine S.mkP ?_)
 | ((with_reducible apply CW.cond_true); exact rfl)
 | ((with_reducible apply CW.cond_false); exact rfl)
 | ((with_reducible apply Fin.blk_far); exact rfl))
    (with_reducible apply R.r1); exact rfl; exact rfl
    exact ⟨rfl, hx1⟩

def y1 : PV := { PV.zero with id := 1, prio := 1 }
def y2 : PV := { PV.zero with id := 2, prio := 5 }
def y3 : PV := { PV.zero with id := 1, prio := 9 }
def yA : List AP := [(y2, []), (y1, [])]
theorem y_push (w : World) : pushAll [] ([y1, y2, y3].map (ab w)) = yA := by kernel_rfl

/-- A queue that grows on what lies above. -/
theorem FO.xx {O O' : Nat → Prop} {w w1 w2 : World} (h : FO O O' w1 w2) (hx : X w w1) (hO : ∀ b, O b → w.heap.size ≤ b) : X w w2 := h.below hx hx.le hO

set_option maxHeartbeats 2000000 in
theorem awake7_calls (w : World) : CallsR Try.prog 28 [] w fun v w' => v = .bool true ∧ X w w' := by
  refine enter0 Try.func28 rfl Try.ntmps28 ?_
  repeat (first
 | (with_reducible first
 | apply CW.seq | apply CW.region | apply CW.block | apply CW.ret | apply CW.skip | apply CW.label | apply CW.exit
 | apply W.nil | apply Fin.seq | apply Fin.then_ret | apply Fin.then_exit | apply Fin.blk_ret | apply Fin.blk_normal | apply Fin.blk_here)
 | (with_reducible first | refine S.move ?_ | refine S.assign ?_ | refine S.pickT ?_ | refine S.pickF ?_ | refine S.lss ?_ | refine S.gtr ?_ | refine S.leq ?_ | refine S.geq ?_ | refine S.eqT ?_ | refine S.neF ?_ | refine S.eql ?_ | refine S.neq ?_ | refine S.add ?_ | refine S.sub ?_ | refine S.mul ?_ | refine S.conv ?_ | refine S.shr1 ?_ | refine S.neg ?_ | refine S.not ?_ | refine S.extract ?_ | refine S.len ?_ | refine S.fld ?_ | refine S.index ?_ | refine S.skp ?_ | refine S.sliceTo ?_ | refine S.sliceFrom ?_ | refine S.eqNil ?_ | refine S.eqbT ?_ | refine S.nebF ?_ | refine S.eqb ?_ | refine S.neb ?_)
 | (with_reducible first | refine S.nc ?_ | refine S.fld ?_ (h1 := fHeapL) | refine S.fld ?_ (h1 := fHeapM) | refine S.fld ?_ (h1 := fQueueH) | refine S.eqP ?_ | refine S.neP ?_ | refine S.quo ?_ | refine S.mkP ?_)
 | ((with_reducible apply CW.cond_true); exact rfl)
 | ((with_reducible apply CW.cond_false); exact rfl)
 | ((with_reducible apply Fin.blk_far); exact rfl))
  refine S.cl (op_call ent27 (by rfl) (by rfl)) (by rfl) (by rfl) (New_calls w) ?_
  rintro _ w1 ⟨b0, O1, rfl, hA1, hx1⟩
  repeat (first
 | (with_reducible first
 | apply CW.seq | apply CW.region | apply CW.block | apply CW.ret | apply CW.skip | apply CW.label | apply CW.exit
 | apply W.nil | apply Fin.seq | apply Fin.then_ret | apply Fin.then_exit | apply Fin.blk_ret | apply Fin.blk_normal | apply Fin.blk_here)
 | (with_reducible first | refine S.move ?_ | refine S.assign ?_ | refine S.pickT ?_ | refine S.pickF ?_ | refine S.lss ?_ | refine S.gtr ?_ | refine S.leq ?_ | refine S.geq ?_ | refine S.eqT ?_ | refine S.neF ?_ | refine S.eql ?_ | refine S.neq ?_ | refine S.add ?_ | refine S.sub ?_ | refine S.mul ?_ | refine S.conv ?_ | refine S.shr1 ?_ | refine S.neg ?_ | refine S.not ?_ | refine S.extract ?_ | refine S.len ?_ | refine S.fld ?_ | refine S.index ?_ | refine S.skp ?_ | refine S.sliceTo ?_ | refine S.sliceFrom ?_ | refine S.eqNil ?_ | refine S.eqbT ?_ | refine S.nebF ?_ | refine S.eqb ?_ | refine S.neb ?_)
 | (with_reducible first | refine S.nc ?_ | refine S.fld ?_ (h1 := fHeapL) | refine S.fld ?_ (h1 := fHeapM) | refine S.fld ?_ (h1 := fQueueH) | refine S.eqP ?_ | refine S.neP ?_ | refine S.quo ?_ | refine S.mkP ?_)
 | ((with_reducible apply CW.cond_true); exact rfl)
 | ((with_reducible apply CW.cond_false); exact rfl)
 | ((with_reducible apply Fin.blk_far); exact rfl))
  refine W.pure (d := some 14) (v := y1.v) (op_build (by rfl) (by kernel_rfl)) (by rfl) (by rfl) ?_
  refine W.pure (d := some 15) (v := y2.v) (op_build (by rfl) (by kernel_rfl)) (by rfl) (by rfl) ?_
  refine W.pure (d := some 16) (v := y3.v) (op_build (by rfl) (by kernel_rfl)) (by rfl) (by rfl) ?_
  refine W.newBlk (d := some 17) (mk := fun b => .slice (some ⟨b, 0, none⟩) 3 3) (cs := flat [y1, y2, y3]) (op_buildSlice Try.underlying22 zPod rfl rfl (by rfl) rfl (by simp [Value.cells, PV.cs, PV.v]) rfl rfl) (by rfl) (by rfl) ?_
  intro b2 w2 hx2 hb2 hB2
  have hA2 := hA1.x hx2
  have hP2 : PSK w2 (fun b => ¬ O1 b) (.slice (some ⟨b2, 0, none⟩) 3 3) [y1, y2, y3] := ⟨_, 3, rfl, Nat.le_refl _, fun _ => ⟨b2, 0, rfl, fun ho => by have := (hA1.lo b2 ho).2; omega, fun i p k u hi hk => by rw [Nat.zero_add]; exact hB2.cell (flat_get hi hk)⟩⟩
  refine S.cl (op_call ent30 (by rfl) (by rfl)) (by rfl) (by rfl) (qPush_calls w.heap.size b0 O1 [] _ [y1, y2, y3] w2 hA2 hP2 (fun i p hi => by
    rcases i with _ | _ | _ | i
    · cases hi; exact RK.none_ rfl
    · cases hi; exact RK.none_ rfl
    · cases hi; exact RK.none_ rfl
    · simp at hi) (by simp)) ?_
  rintro _ w3 ⟨rfl, O3, hA3, hF3⟩
  rw [y_push] at hA3 ⊢
  have hX3 : X w w3 := hF3.xx (hx1.trans hx2) fun b hb => (hA1.lo b hb).1
  clear hA2 hP2 hB2 hF3 hA1
  repeat (first
 | (with_reducible first
 | apply CW.seq | apply CW.region | apply CW.block | apply CW.ret | apply CW.skip | apply CW.label | apply CW.exit
 | apply W.nil | apply Fin.seq | apply Fin.then_ret | apply Fin.then_exit | apply Fin.blk_ret | apply Fin.blk_normal | apply Fin.blk_here)
 | (with_reducible first | refine S.move ?_ | refine S.assign ?_ | refine S.pickT ?_ | refine S.pickF ?_ | refine S.lss ?_ | refine S.gtr ?_ | refine S.leq ?_ | refine S.geq ?_ | refine S.eqT ?_ | refine S.neF ?_ | refine S.eql ?_ | refine S.neq ?_ | refine S.add ?_ | refine S.sub ?_ | refine S.mul ?_ | refine S.conv ?_ | refine S.shr1 ?_ | refine S.neg ?_ | refine S.not ?_ | refine S.extract ?_ | refine S.len ?_ | refine S.fld ?_ | refine S.index ?_ | refine S.skp ?_ | refine S.sliceTo ?_ | refine S.sliceFrom ?_ | refine S.eqNil ?_ | refine S.eqbT ?_ | refine S.nebF ?_ | refine S.eqb ?_ | refine S.neb ?_)
 | (with_reducible first | refine S.nc ?_ | refine S.fld ?_ (h1 := fHeapL) | refine S.fld ?_ (h1 := fHeapM) | refine S.fld ?_ (h1 := fQueueH) | refine S.eqP ?_ | refine S.neP ?_ | refine S.quo ?_ | refine S.mkP ?_)
 | ((with_reducible apply CW.cond_true); exact rfl)
 | ((with_reducible apply CW.cond_false); exact rfl)
 | ((with_reducible apply Fin.blk_far); exact rfl))
  refine S.cl (op_call ent35 (by rfl) (by rfl)) (by rfl) (by rfl) (qPeek_calls w.heap.size b0 O3 yA w3 hA3 (by simp [yA])) ?_
  rintro _ w4 ⟨⟨p, lp, rfl, _, _, hp⟩, hx4⟩
  have hA4 := hA3.x hx4
  have hpid : p.id = 2 := (nrm_eq (show nrm p = nrm y2 from congrArg Prod.fst hp)).1
  repeat (first
 | (with_reducible first
 | apply CW.seq | apply CW.region | apply CW.block | apply CW.ret | apply CW.skip | apply CW.label | apply CW.exit
 | apply W.nil | apply Fin.seq | apply Fin.then_ret | apply Fin.then_exit | apply Fin.blk_ret | apply Fin.blk_normal | apply Fin.blk_here)
 | (with_reducible first | refine S.move ?_ | refine S.assign ?_ | refine S.pickT ?_ | refine S.pickF ?_ | refine S.lss ?_ | refine S.gtr ?_ | refine S.leq ?_ | refine S.geq ?_ | refine S.eqT ?_ | refine S.neF ?_ | refine S.eql ?_ | refine S.neq ?_ | refine S.add ?_ | refine S.sub ?_ | refine S.mul ?_ | refine S.conv ?_ | refine S.shr1 ?_ | refine S.neg ?_ | refine S.not ?_ | refine S.extract ?_ | refine S.len ?_ | refine S.fld ?_ | refine S.index ?_ | refine S.skp ?_ | refine S.sliceTo ?_ | refine S.sliceFrom ?_ | refine S.eqNil ?_ | refine S.eqbT ?_ | refine S.nebF ?_ | refine S.eqb ?_ | refine S.neb ?_)
 | (with_reducible first | refine S.nc ?_ | refine S.fld ?_ (h1 := fHeapL) | refine S.fld ?_ (h1 := fHeapM) | refine S.fld ?_ (h1 := fQueueH) | refine S.eqP ?_ | refine S.neP ?_ | refine S.quo ?_ | refine S.mkP ?_)
 | ((with_reducible apply CW.cond_true); exact rfl)
 | ((with_reducible apply CW.cond_false); exact rfl)
 | ((with_reducible apply Fin.blk_far); exact rfl))
  refine W.newBlk (d := some 4) (mk := fun b => .pointer (some ⟨b, 0, none⟩)) (cs := PV.zero.cs) (op_alloc' zPod rfl) (by rfl) (by rfl) ?_
  intro b5 w5 hx5 hb5 hB5
  refine S.stB (vs := p.cs) (by rfl) (by rfl) rfl hB5 rfl szPod9 p.one (by rfl) ?_
  intro w6 hg6 hB6
  have hx6 : X w4 w6 := below_g hx5 hg6 hx5.le hb5
  have hA6 := hA4.x hx6
  have hX6 := (hX3.trans hx4).trans hx6
  have hn5 : ¬ O3 b5 := fun ho => by have := (hA4.lo b5 ho).2; omega
  clear hA4 hB5 hg6 hx5 hx4
  repeat (first
 | (with_reducible first
 | apply CW.seq | apply CW.region | apply CW.block | apply CW.ret | apply CW.skip | apply CW.label | apply CW.exit
 | apply W.nil | apply Fin.seq | apply Fin.then_ret | apply Fin.then_exit | apply Fin.blk_ret | apply Fin.blk_normal | apply Fin.blk_here)
 | (with_reducible first | refine S.move ?_ | refine S.assign ?_ | refine S.pickT ?_ | refine S.pickF ?_ | refine S.lss ?_ | refine S.gtr ?_ | refine S.leq ?_ | refine S.geq ?_ | refine S.eqT ?_ | refine S.neF ?_ | refine S.eql ?_ | refine S.neq ?_ | refine S.add ?_ | refine S.sub ?_ | refine S.mul ?_ | refine S.conv ?_ | refine S.shr1 ?_ | refine S.neg ?_ | refine S.not ?_ | refine S.extract ?_ | refine S.len ?_ | refine S.fld ?_ | refine S.index ?_ | refine S.skp ?_ | refine S.sliceTo ?_ | refine S.sliceFrom ?_ | refine S.eqNil ?_ | refine S.eqbT ?_ | refine S.nebF ?_ | refine S.eqb ?_ | refine S.neb ?_)
 | (with_reducible first | refine S.nc ?_ | refine S.fld ?_ (h1 := fHeapL) | refine S.fld ?_ (h1 := fHeapM) | refine S.fld ?_ (h1 := fQueueH) | refine S.eqP ?_ | refine S.neP ?_ | refine S.quo ?_ | refine S.mkP ?_)
 | ((with_reducible apply CW.cond_true); exact rfl)
 | ((with_reducible apply CW.cond_false); exact rfl)
 | ((with_reducible apply Fin.blk_far); exact rfl))
  refine S.cl (op_call ent31 (by rfl) (by rfl)) (by rfl) (by rfl) (qPop_calls w.heap.size b0 O3 yA w6 hA6 (by simp [yA])) ?_
  rintro _ w7 ⟨⟨q, rfl, _, hq⟩, hA7, hF7⟩
  have hqid : q.id = 2 := (nrm_eq (show nrm q = nrm y2 from congrArg Prod.fst hq)).1
  have hX7 := hF7.xx hX6 fun b hb => (hA6.lo b hb).1
  have hB7 := hF7.blk hB6 hn5
  repeat (first
 | (with_reducible first
 | apply CW.seq | apply CW.region | apply CW.block | apply CW.ret | apply CW.skip | apply CW.label | apply CW.exit
 | apply W.nil | apply Fin.seq | apply Fin.then_ret | apply Fin.then_exit | apply Fin.blk_ret | apply Fin.blk_normal | apply Fin.blk_here)
 | (with_reducible first | refine S.move ?_ | refine S.assign ?_ | refine S.pickT ?_ | refine S.pickF ?_ | refine S.lss ?_ | refine S.gtr ?_ | refine S.leq ?_ | refine S.geq ?_ | refine S.eqT ?_ | refine S.neF ?_ | refine S.eql ?_ | refine S.neq ?_ | refine S.add ?_ | refine S.sub ?_ | refine S.mul ?_ | refine S.conv ?_ | refine S.shr1 ?_ | refine S.neg ?_ | refine S.not ?_ | refine S.extract ?_ | refine S.len ?_ | refine S.fld ?_ | refine S.index ?_ | refine S.skp ?_ | refine S.sliceTo ?_ | refine S.sliceFrom ?_ | refine S.eqNil ?_ | refine S.eqbT ?_ | refine S.nebF ?_ | refine S.eqb ?_ | refine S.neb ?_)
 | (with_reducible first | refine S.nc ?_ | refine S.fld ?_ (h1 := fHeapL) | refine S.fld ?_ (h1 := fHeapM) | refine S.fld ?_ (h1 := fQueueH) | refine S.eqP ?_ | refine S.neP ?_ | refine S.quo ?_ | refine S.mkP ?_)
 | ((with_reducible apply CW.cond_true); exact rfl)
 | ((with_reducible apply CW.cond_false); exact rfl)
 | ((with_reducible apply Fin.blk_far); exact rfl))
  refine W.newBlk (d := some 6) (mk := fun b => .pointer (some ⟨b, 0, none⟩)) (cs := PV.zero.cs) (op_alloc' zPod rfl) (by rfl) (by rfl) ?_
  intro b8 w8 hx8 hb8 hB8
  refine S.stB (vs := q.cs) (by rfl) (by rfl) rfl hB8 rfl szPod9 q.one (by rfl) ?_
  intro w9 hg9 hB9
  have hx9 : X w7 w9 := below_g hx8 hg9 hx8.le hb8
  have hA9 := hA7.x hx9
  have hB5 := hB7.x hx9
  have hX9 := hX7.trans hx9
  clear hA7 hB8 hg9 hx8 hB7 hB6 hA6 hF7 hA3
  repeat (first
 | (with_reducible first
 | apply CW.seq | apply CW.region | apply CW.block | apply CW.ret | apply CW.skip | apply CW.label | apply CW.exit
 | apply W.nil | apply Fin.seq | apply Fin.then_ret | apply Fin.then_exit | apply Fin.blk_ret | apply Fin.blk_normal | apply Fin.blk_here)
 | (with_reducible first | refine S.move ?_ | refine S.assign ?_ | refine S.pickT ?_ | refine S.pickF ?_ | refine S.lss ?_ | refine S.gtr ?_ | refine S.leq ?_ | refine S.geq ?_ | refine S.eqT ?_ | refine S.neF ?_ | refine S.eql ?_ | refine S.neq ?_ | refine S.add ?_ | refine S.sub ?_ | refine S.mul ?_ | refine S.conv ?_ | refine S.shr1 ?_ | refine S.neg ?_ | refine S.not ?_ | refine S.extract ?_ | refine S.len ?_ | refine S.fld ?_ | refine S.index ?_ | refine S.skp ?_ | refine S.sliceTo ?_ | refine S.sliceFrom ?_ | refine S.eqNil ?_ | refine S.eqbT ?_ | refine S.nebF ?_ | refine S.eqb ?_ | refine S.neb ?_)
 | (with_reducible first | refine S.nc ?_ | refine S.fld ?_ (h1 := fHeapL) | refine S.fld ?_ (h1 := fHeapM) | refine S.fld ?_ (h1 := fQueueH) | refine S.eqP ?_ | refine S.neP ?_ | refine S.quo ?_ | refine S.mkP ?_)
 | ((with_reducible apply CW.cond_true); exact rfl)
 | ((with_reducible apply CW.cond_false); exact rfl)
 | ((with_reducible apply Fin.blk_far); exact rfl))
  refine S.cl (op_call ent31 (by rfl) (by rfl)) (by rfl) (by rfl) (qPop_none w9) ?_
  rintro _ w10 ⟨rfl, hx10⟩
  repeat (first
 | (with_reducible first
 | apply CW.seq | apply CW.region | apply CW.block | apply CW.ret | apply CW.skip | apply CW.label | apply CW.exit
 | apply W.nil | apply Fin.seq | apply Fin.then_ret | apply Fin.then_exit | apply Fin.blk_ret | apply Fin.blk_normal | apply Fin.blk_here)
 | (with_reducible first | refine S.move ?_ | refine S.assign ?_ | refine S.pickT ?_ | refine S.pickF ?_ | refine S.lss ?_ | refine S.gtr ?_ | refine S.leq ?_ | refine S.geq ?_ | refine S.eqT ?_ | refine S.neF ?_ | refine S.eql ?_ | refine S.neq ?_ | refine S.add ?_ | refine S.sub ?_ | refine S.mul ?_ | refine S.conv ?_ | refine S.shr1 ?_ | refine S.neg ?_ | refine S.not ?_ | refine S.extract ?_ | refine S.len ?_ | refine S.fld ?_ | refine S.index ?_ | refine S.skp ?_ | refine S.sliceTo ?_ | refine S.sliceFrom ?_ | refine S.eqNil ?_ | refine S.eqbT ?_ | refine S.nebF ?_ | refine S.eqb ?_ | refine S.neb ?_)
 | (with_reducible first | refine S.nc ?_ | refine S.fld ?_ (h1 := fHeapL) | refine S.fld ?_ (h1 := fHeapM) | refine S.fld ?_ (h1 := fQueueH) | refine S.eqP ?_ | refine S.neP ?_ | refine S.quo ?_ | refine S.mkP ?_)
 | ((with_reducible apply CW.cond_true); exact rfl)
 | ((with_reducible apply CW.cond_false); exact rfl)
 | ((with_reducible apply Fin.blk_far); exact rfl))
  refine W.newBlk (d := some 8) (mk := fun b => .pointer (some ⟨b, 0, none⟩)) (cs := PV.zero.cs) (op_alloc' zPod rfl) (by rfl) (by rfl) ?_
  intro b11 w11 hx11 hb11 hB11
  refine S.stB (vs := PV.zero.cs) (by rfl) (by rfl) rfl hB11 rfl szPod9 PV.zero.one (by rfl) ?_
  intro w12 hg12 hB12
  have hx12 : X w9 w12 := hx10.trans (below_g hx11 hg12 hx11.le hb11)
  have hA12 := hA9.x hx12
  have hB5 := hB5.x hx12
  have hB9 := hB9.x hx12
  have hX12 := hX9.trans hx12
  have hc1 : w12.cell? ⟨b5, 0 + 0, none⟩ = some (.int .i64 2) := by rw [← hpid]; exact hB5.cell rfl
  have hc2 : w12.cell? ⟨b8, 0 + 0, none⟩ = some (.int .i64 2) := by rw [← hqid]; exact hB9.cell rfl
  have e1 : (yA.length : Int) - ([] : List AP).length = 2 := rfl
  rw [e1]
  repeat (first
 | (with_reducible first
 | apply CW.seq | apply CW.region | apply CW.block | apply CW.ret | apply CW.skip | apply CW.label | apply CW.exit
 | apply W.nil | apply Fin.seq | apply Fin.then_ret | apply Fin.then_exit | apply Fin.blk_ret | apply Fin.blk_normal | apply Fin.blk_here)
 | (with_reducible first | refine S.move ?_ | refine S.assign ?_ | refine S.pickT ?_ | refine S.pickF ?_ | refine S.lss ?_ | refine S.gtr ?_ | refine S.leq ?_ | refine S.geq ?_ | refine S.eqT ?_ | refine S.neF ?_ | refine S.eql ?_ | refine S.neq ?_ | refine S.add ?_ | refine S.sub ?_ | refine S.mul ?_ | refine S.conv ?_ | refine S.shr1 ?_ | refine S.neg ?_ | refine S.not ?_ | refine S.extract ?_ | refine S.len ?_ | refine S.fld ?_ | refine S.index ?_ | refine S.skp ?_ | refine S.sliceTo ?_ | refine S.sliceFrom ?_ | refine S.eqNil ?_ | refine S.eqbT ?_ | refine S.nebF ?_ | refine S.eqb ?_ | refine S.neb ?_)
 | (with_reducible first | refine S.nc ?_ | refine S.fld ?_ (h1 := fHeapL) | refine S.fld ?_ (h1 := fHeapM) | refine S.fld ?_ (h1 := fQueueH) | refine S.eqP ?_ | refine S.neP ?_ | refine S.quo ?_ | refine S.mkP ?_)
 | ((with_reducible apply CW.cond_true); exact rfl)
 | ((with_reducible apply CW.cond_false); exact rfl)
 | ((with_reducible apply Fin.blk_far); exact rfl))
  ((with_reducible apply S.ld); exact rfl; (with_reducible first | exact oneInt | exact oneI64s | exact oneBool | exact oneI64 | exact onePods | exact oneMap); (exact hc1); exact rfl; exact rfl)
  repeat (first
 | (with_reducible first
 | apply CW.seq | apply CW.region | apply CW.block | apply CW.ret | apply CW.skip | apply CW.label | apply CW.exit
 | apply W.nil | apply Fin.seq | apply Fin.then_ret | apply Fin.then_exit | apply Fin.blk_ret | apply Fin.blk_normal | apply Fin.blk_here)
 | (with_reducible first | refine S.move ?_ | refine S.assign ?_ | refine S.pickT ?_ | refine S.pickF ?_ | refine S.lss ?_ | refine S.gtr ?_ | refine S.leq ?_ | refine S.geq ?_ | refine S.eqT ?_ | refine S.neF ?_ | refine S.eql ?_ | refine S.neq ?_ | refine S.add ?_ | refine S.sub ?_ | refine S.mul ?_ | refine S.conv ?_ | refine S.shr1 ?_ | refine S.neg ?_ | refine S.not ?_ | refine S.extract ?_ | refine S.len ?_ | refine S.fld ?_ | refine S.index ?_ | refine S.skp ?_ | refine S.sliceTo ?_ | refine S.sliceFrom ?_ | refine S.eqNil ?_ | refine S.eqbT ?_ | refine S.nebF ?_ | refine S.eqb ?_ | refine S.neb ?_)
 | (with_reducible first | refine S.nc ?_ | refine S.fld ?_ (h1 := fHeapL) | refine S.fld ?_ (h1 := fHeapM) | refine S.fld ?_ (h1 := fQueueH) | refine S.eqP ?_ | refine S.neP ?_ | refine S.quo ?_ | refine S.mkP ?_)
 | ((with_reducible apply CW.cond_true); exact rfl)
 | ((with_reducible apply CW.cond_false); exact rfl)
 | ((with_reducible apply Fin.blk_far); exact rfl))
  ((with_reducible apply S.ld); exact rfl; (with_reducible first | exact oneInt | exact oneI64s | exact oneBool | exact oneI64 | exact onePods | exact oneMap); (exact hc2); exact rfl; exact rfl)
  repeat (first
 | (with_reducible first
 | apply CW.seq | apply CW.region | apply CW.block | apply CW.ret | apply CW.skip | apply CW.label | apply CW.exit
 | apply W.nil | apply Fin.seq | apply Fin.then_ret | apply Fin.then_exit | apply Fin.blk_ret | apply Fin.blk_normal | apply Fin.blk_here)
 | (with_reducible first | refine S.move ?_ | refine S.assign ?_ | refine S.pickT ?_ | refine S.pickF ?_ | refine S.lss ?_ | refine S.gtr ?_ | refine S.leq ?_ | refine S.geq ?_ | refine S.eqT ?_ | refine S.neF ?_ | refine S.eql ?_ | refine S.neq ?_ | refine S.add ?_ | refine S.sub ?_ | refine S.mul ?_ | refine S.conv ?_ | refine S.shr1 ?_ | refine S.neg ?_ | refine S.not ?_ | refine S.extract ?_ | refine S.len ?_ | refine S.fld ?_ | refine S.index ?_ | refine S.skp ?_ | refine S.sliceTo ?_ | refine S.sliceFrom ?_ | refine S.eqNil ?_ | refine S.eqbT ?_ | refine S.nebF ?_ | refine S.eqb ?_ | refine S.neb ?_)
 | (with_reducible first | refine S.nc ?_ | refine S.fld ?_ (h1 := fHeapL) | refine S.fld ?_ (h1 := fHeapM) | refine S.fld ?_ (h1 := fQueueH) | refine S.eqP ?_ | refine S.neP ?_ | refine S.quo ?_ | refine S.mkP ?_)
 | ((with_reducible apply CW.cond_true); exact rfl)
 | ((with_reducible apply CW.cond_false); exact rfl)
 | ((with_reducible apply Fin.blk_far); exact rfl))
  refine S.cl (op_call ent32 (by rfl) (by rfl)) (by rfl) (by rfl) (qLen_calls w.heap.size b0 O3 yA.tail w12 hA12) ?_
  rintro _ w13 ⟨rfl, rfl⟩
  repeat (first
 | (with_reducible first
 | apply CW.seq | apply CW.region | apply CW.block | apply CW.ret | apply CW.skip | apply CW.label | apply CW.exit
 | apply W.nil | apply Fin.seq | apply Fin.then_ret | apply Fin.then_exit | apply Fin.blk_ret | apply Fin.blk_normal | apply Fin.blk_here)
 | (with_reducible first | refine S.move ?_ | refine S.assign ?_ | refine S.pickT ?_ | refine S.pickF ?_ | refine S.lss ?_ | refine S.gtr ?_ | refine S.leq ?_ | refine S.geq ?_ | refine S.eqT ?_ | refine S.neF ?_ | refine S.eql ?_ | refine S.neq ?_ | refine S.add ?_ | refine S.sub ?_ | refine S.mul ?_ | refine S.conv ?_ | refine S.shr1 ?_ | refine S.neg ?_ | refine S.not ?_ | refine S.extract ?_ | refine S.len ?_ | refine S.fld ?_ | refine S.index ?_ | refine S.skp ?_ | refine S.sliceTo ?_ | refine S.sliceFrom ?_ | refine S.eqNil ?_ | refine S.eqbT ?_ | refine S.nebF ?_ | refine S.eqb ?_ | refine S.neb ?_)
 | (with_reducible first | refine S.nc ?_ | refine S.fld ?_ (h1 := fHeapL) | refine S.fld ?_ (h1 := fHeapM) | refine S.fld ?_ (h1 := fQueueH) | refine S.eqP ?_ | refine S.neP ?_ | refine S.quo ?_ | refine S.mkP ?_)
 | ((with_reducible apply CW.cond_true); exact rfl)
 | ((with_reducible apply CW.cond_false); exact rfl)
 | ((with_reducible apply Fin.blk_far); exact rfl))
  refine S.cl (op_call ent38 (by rfl) (by rfl)) (by rfl) (by rfl) (qHas_calls w.heap.size b0 O3 yA.tail 1 w13 hA12) ?_
  rintro _ w14 ⟨rfl, rfl⟩
  rw [show hasA yA.tail 1 = true from rfl]
  repeat (first
 | (with_reducible first
 | apply CW.seq | apply CW.region | apply CW.block | apply CW.ret | apply CW.skip | apply CW.label | apply CW.exit
 | apply W.nil | apply Fin.seq | apply Fin.then_ret | apply Fin.then_exit | apply Fin.blk_ret | apply Fin.blk_normal | apply Fin.blk_here)
 | (with_reducible first | refine S.move ?_ | refine S.assign ?_ | refine S.pickT ?_ | refine S.pickF ?_ | refine S.lss ?_ | refine S.gtr ?_ | refine S.leq ?_ | refine S.geq ?_ | refine S.eqT ?_ | refine S.neF ?_ | refine S.eql ?_ | refine S.neq ?_ | refine S.add ?_ | refine S.sub ?_ | refine S.mul ?_ | refine S.conv ?_ | refine S.shr1 ?_ | refine S.neg ?_ | refine S.not ?_ | refine S.extract ?_ | refine S.len ?_ | refine S.fld ?_ | refine S.index ?_ | refine S.skp ?_ | refine S.sliceTo ?_ | refine S.sliceFrom ?_ | refine S.eqNil ?_ | refine S.eqbT ?_ | refine S.nebF ?_ | refine S.eqb ?_ | refine S.neb ?_)
 | (with_reducible first | refine S.nc ?_ | refine S.fld ?_ (h1 := fHeapL) | refine S.fld ?_ (h1 := fHeapM) | refine S.fld ?_ (h1 := fQueueH) | refine S.eqP ?_ | refine S.neP ?_ | refine S.quo ?_ | refine S.mkP ?_)
 | ((with_reducible apply CW.cond_true); exact rfl)
 | ((with_reducible apply CW.cond_false); exact rfl)
 | ((with_reducible apply Fin.blk_far); exact rfl))
  refine S.cl (op_call ent38 (by rfl) (by rfl)) (by rfl) (by rfl) (qHas_calls w.heap.size b0 O3 yA.tail 2 w14 hA12) ?_
  rintro _ w15 ⟨rfl, rfl⟩
  rw [show hasA yA.tail 2 = false from rfl]
  repeat (first
 | (with_reducible first
 | apply CW.seq | apply CW.region | apply CW.block | apply CW.ret | apply CW.skip | apply CW.label | apply CW.exit
 | apply W.nil | apply Fin.seq | apply Fin.then_ret | apply Fin.then_exit | apply Fin.blk_ret | apply Fin.blk_normal | apply Fin.blk_here)
 | (with_reducible first | refine S.move ?_ | refine S.assign ?_ | refine S.pickT ?_ | refine S.pickF ?_ | refine S.lss ?_ | refine S.gtr ?_ | refine S.leq ?_ | refine S.geq ?_ | refine S.eqT ?_ | refine S.neF ?_ | refine S.eql ?_ | refine S.neq ?_ | refine S.add ?_ | refine S.sub ?_ | refine S.mul ?_ | refine S.conv ?_ | refine S.shr1 ?_ | refine S.neg ?_ | refine S.not ?_ | refine S.extract ?_ | refine S.len ?_ | refine S.fld ?_ | refine S.index ?_ | refine S.skp ?_ | refine S.sliceTo ?_ | refine S.sliceFrom ?_ | refine S.eqNil ?_ | refine S.eqbT ?_ | refine S.nebF ?_ | refine S.eqb ?_ | refine S.neb ?_)
 | (with_reducible first | refine S.nc ?_ | refine S.fld ?_ (h1 := fHeapL) | refine S.fld ?_ (h1 := fHeapM) | refine S.fld ?_ (h1 := fQueueH) | refine S.eqP ?_ | refine S.neP ?_ | refine S.quo ?_ | refine S.mkP ?_)
 | ((with_reducible apply CW.cond_true); exact rfl)
 | ((with_reducible apply CW.cond_false); exact rfl)
 | ((with_reducible apply Fin.blk_far); exact rfl))
  refine S.cl (op_call ent34 (by rfl) (by rfl)) (by rfl) (by rfl) (qAll_calls w.heap.size b0 O3 yA.tail w15 hA12 (by simp [yA])) ?_
  rintro _ w16 ⟨⟨Ls, hN, hLs, _⟩, hx16⟩
  have hLl : Ls.length = 1 := by have := congrArg List.length hLs; simpa [yA] using this
  obtain ⟨Aa, ca, ga, rfl, _⟩ := hN.open_
  rw [hLl]
  repeat (first
 | (with_reducible first
 | apply CW.seq | apply CW.region | apply CW.block | apply CW.ret | apply CW.skip | apply CW.label | apply CW.exit
 | apply W.nil | apply Fin.seq | apply Fin.then_ret | apply Fin.then_exit | apply Fin.blk_ret | apply Fin.blk_normal | apply Fin.blk_here)
 | (with_reducible first | refine S.move ?_ | refine S.assign ?_ | refine S.pickT ?_ | refine S.pickF ?_ | refine S.lss ?_ | refine S.gtr ?_ | refine S.leq ?_ | refine S.geq ?_ | refine S.eqT ?_ | refine S.neF ?_ | refine S.eql ?_ | refine S.neq ?_ | refine S.add ?_ | refine S.sub ?_ | refine S.mul ?_ | refine S.conv ?_ | refine S.shr1 ?_ | refine S.neg ?_ | refine S.not ?_ | refine S.extract ?_ | refine S.len ?_ | refine S.fld ?_ | refine S.index ?_ | refine S.skp ?_ | refine S.sliceTo ?_ | refine S.sliceFrom ?_ | refine S.eqNil ?_ | refine S.eqbT ?_ | refine S.nebF ?_ | refine S.eqb ?_ | refine S.neb ?_)
 | (with_reducible first | refine S.nc ?_ | refine S.fld ?_ (h1 := fHeapL) | refine S.fld ?_ (h1 := fHeapM) | refine S.fld ?_ (h1 := fQueueH) | refine S.eqP ?_ | refine S.neP ?_ | refine S.quo ?_ | refine S.mkP ?_)
 | ((with_reducible apply CW.cond_true); exact rfl)
 | ((with_reducible apply CW.cond_false); exact rfl)
 | ((with_reducible apply Fin.blk_far); exact rfl))
  refine S.cl (op_call ent32 (by rfl) (by rfl)) (by rfl) (by rfl) (qLen_nil w16) ?_
  rintro _ w17 ⟨rfl, rfl⟩
  repeat (first
 | (with_reducible first
 | apply CW.seq | apply CW.region | apply CW.block | apply CW.ret | apply CW.skip | apply CW.label | apply CW.exit
 | apply W.nil | apply Fin.seq | apply Fin.then_ret | apply Fin.then_exit | apply Fin.blk_ret | apply Fin.blk_normal | apply Fin.blk_here)
 | (with_reducible first | refine S.move ?_ | refine S.assign ?_ | refine S.pickT ?_ | refine S.pickF ?_ | refine S.lss ?_ | refine S.gtr ?_ | refine S.leq ?_ | refine S.geq ?_ | refine S.eqT ?_ | refine S.neF ?_ | refine S.eql ?_ | refine S.neq ?_ | refine S.add ?_ | refine S.sub ?_ | refine S.mul ?_ | refine S.conv ?_ | refine S.shr1 ?_ | refine S.neg ?_ | refine S.not ?_ | refine S.extract ?_ | refine S.len ?_ | refine S.fld ?_ | refine S.index ?_ | refine S.skp ?_ | refine S.sliceTo ?_ | refine S.sliceFrom ?_ | refine S.eqNil ?_ | refine S.eqbT ?_ | refine S.nebF ?_ | refine S.eqb ?_ | refine S.neb ?_)
 | (with_reducible first | refine S.nc ?_ | refine S.fld ?_ (h1 := fHeapL) | refine S.fld ?_ (h1 := fHeapM) | refine S.fld ?_ (h1 := fQueueH) | refine S.eqP ?_ | refine S.neP ?_ | refine S.quo ?_ | refine S.mkP ?_)
 | ((with_reducible apply CW.cond_true); exact rfl)
 | ((with_reducible apply CW.cond_false); exact rfl)
 | ((with_reducible apply Fin.blk_far); exact rfl))
  refine W.pure (d := some 83) (v := PV.zero.v) (op_build (by rfl) built_pod0) (by rfl) (by rfl) ?_
  refine W.newBlk (d := some 84) (mk := fun b => .slice (some ⟨b, 0, none⟩) 1 1) (cs := flat [PV.zero]) (op_buildSlice Try.underlying22 zPod rfl rfl (by rfl) rfl (by simp [Value.cells, PV.cs, PV.v]) rfl rfl) (by rfl) (by rfl) ?_
  intro b18 w18 hx18 hb18 hB18
  refine S.cl (op_call ent30 (by rfl) (by rfl)) (by rfl) (by rfl) (qPush_none _ [PV.zero] w18 (hB18.ps (L := [PV.zero]) (Nat.le_refl _)) (by simp)) ?_
  rintro _ w19 ⟨rfl, hx19⟩
  repeat (first
 | (with_reducible first
 | apply CW.seq | apply CW.region | apply CW.block | apply CW.ret | apply CW.skip | apply CW.label | apply CW.exit
 | apply W.nil | apply Fin.seq | apply Fin.then_ret | apply Fin.then_exit | apply Fin.blk_ret | apply Fin.blk_normal | apply Fin.blk_here)
 | (with_reducible first | refine S.move ?_ | refine S.assign ?_ | refine S.pickT ?_ | refine S.pickF ?_ | refine S.lss ?_ | refine S.gtr ?_ | refine S.leq ?_ | refine S.geq ?_ | refine S.eqT ?_ | refine S.neF ?_ | refine S.eql ?_ | refine S.neq ?_ | refine S.add ?_ | refine S.sub ?_ | refine S.mul ?_ | refine S.conv ?_ | refine S.shr1 ?_ | refine S.neg ?_ | refine S.not ?_ | refine S.extract ?_ | refine S.len ?_ | refine S.fld ?_ | refine S.index ?_ | refine S.skp ?_ | refine S.sliceTo ?_ | refine S.sliceFrom ?_ | refine S.eqNil ?_ | refine S.eqbT ?_ | refine S.nebF ?_ | refine S.eqb ?_ | refine S.neb ?_)
 | (with_reducible first | refine S.nc ?_ | refine S.fld ?_ (h1 := fHeapL) | refine S.fld ?_ (h1 := fHeapM) | refine S.fld ?_ (h1 := fQueueH) | refine S.eqP ?_ | refine S.neP ?_ | refine S.quo ?_ | refine S.mkP ?_)
 | ((with_reducible apply CW.cond_true); exact rfl)
 | ((with_reducible apply CW.cond_false); exact rfl)
 | ((with_reducible apply Fin.blk_far); exact rfl))
  (with_reducible apply R.r1); exact rfl; exact rfl
  exact ⟨rfl, (((hX12.trans hx16).trans hx18).trans hx19)⟩

end Go.Proofs.Ytmilpjkjcanghaa

/- ParkMatchesReference. -/
import Derived.Test.YtmilpjkjcanghaaDoorP14
namespace Go.Proofs.YtmilpjkjcanghaaDoor
open Go.RowKit
set_option linter.unusedVariables false
set_option linter.unusedSimpArgs false

set_option maxHeartbeats 8000000 in
theorem ParkMatches_calls (l : Value) (L : List OV) (w : World) (hl : OL w w.heap.size l L) (hn : L.length ≤ 9223372036854775807) (hq : ∀ o ∈ L, IS w w.heap.size o.pod.rA o.pod.rn (readI w o.pod.rA o.pod.rn)) (hN : NmAt w) :
    CallsR Tryd.prog 7 [l] w fun v w' => v = .bool true ∧ X w w' := by
  have hpl : ∀ w', X w w' → OL w' w'.heap.size l L := fun w' hx => (hl.below hx).more hx.le
  obtain ⟨A, c, rfl, hc, hat⟩ := hl.open_
  refine enter1 Tryd.func7 rfl Tryd.ntmps7 rfl ?_
  repeat (first
 | (with_reducible first
 | apply CW.seq | apply CW.region | apply CW.block | apply CW.ret | apply CW.skip | apply CW.label | apply CW.exit
 | apply W.nil | apply Fin.seq | apply Fin.then_ret | apply Fin.then_exit | apply Fin.blk_ret | apply Fin.blk_normal | apply Fin.blk_here)
 | (with_reducible first | refine S.move ?_ | refine S.assign ?_ | refine S.pickT ?_ | refine S.pickF ?_ | refine S.lss ?_ | refine S.gtr ?_ | refine S.leq ?_ | refine S.geq ?_ | refine S.eqT ?_ | refine S.neF ?_ | refine S.eql ?_ | refine S.neq ?_ | refine S.add ?_ | refine S.sub ?_ | refine S.mul ?_ | refine S.conv ?_ | refine S.shr1 ?_ | refine S.neg ?_ | refine S.not ?_ | refine S.extract ?_ | refine S.len ?_ | refine S.fld ?_ | refine S.index ?_ | refine S.skp ?_ | refine S.sliceTo ?_ | refine S.sliceFrom ?_ | refine S.eqNil ?_ | refine S.eqbT ?_ | refine S.nebF ?_ | refine S.eqb ?_ | refine S.neb ?_)
 | (with_reducible first | refine S.nc ?_ | refine S.fld ?_ (h1 := fRLP) | refine S.fld ?_ (h1 := fRLR) | refine S.fld ?_ (h1 := fOpKind) | refine S.fld ?_ (h1 := fOpPod) | refine S.fld ?_ (h1 := fOpReason) | refine S.eqP ?_ | refine S.neP ?_)
 | ((with_reducible apply CW.cond_true); exact rfl)
 | ((with_reducible apply CW.cond_false); exact rfl)
 | ((with_reducible apply Fin.blk_far); exact rfl))
  refine S.cl (op_call ent8 (by rfl) (by rfl)) (by rfl) (by rfl) (LotNew_calls w) ?_
  rintro _ w1 ⟨b0, O1, rfl, hA1, hx1⟩
  repeat (first
 | (with_reducible first
 | apply CW.seq | apply CW.region | apply CW.block | apply CW.ret | apply CW.skip | apply CW.label | apply CW.exit
 | apply W.nil | apply Fin.seq | apply Fin.then_ret | apply Fin.then_exit | apply Fin.blk_ret | apply Fin.blk_normal | apply Fin.blk_here)
 | (with_reducible first | refine S.move ?_ | refine S.assign ?_ | refine S.pickT ?_ | refine S.pickF ?_ | refine S.lss ?_ | refine S.gtr ?_ | refine S.leq ?_ | refine S.geq ?_ | refine S.eqT ?_ | refine S.neF ?_ | refine S.eql ?_ | refine S.neq ?_ | refine S.add ?_ | refine S.sub ?_ | refine S.mul ?_ | refine S.conv ?_ | refine S.shr1 ?_ | refine S.neg ?_ | refine S.not ?_ | refine S.extract ?_ | refine S.len ?_ | refine S.fld ?_ | refine S.index ?_ | refine S.skp ?_ | refine S.sliceTo ?_ | refine S.sliceFrom ?_ | refine S.eqNil ?_ | refine S.eqbT ?_ | refine S.nebF ?_ | refine S.eqb ?_ | refine S.neb ?_)
 | (with_reducible first | refine S.nc ?_ | refine S.fld ?_ (h1 := fRLP) | refine S.fld ?_ (h1 := fRLR) | refine S.fld ?_ (h1 := fOpKind) | refine S.fld ?_ (h1 := fOpPod) | refine S.fld ?_ (h1 := fOpReason) | refine S.eqP ?_ | refine S.neP ?_)
 | ((with_reducible apply CW.cond_true); exact rfl)
 | ((with_reducible apply CW.cond_false); exact rfl)
 | ((with_reducible apply Fin.blk_far); exact rfl))
  refine S.cl (op_call ent9 (by rfl) (by rfl)) (by rfl) (by rfl) (awake8_calls w1 (hN.x hx1)) ?_
  rintro _ w2 ⟨rfl, hx2⟩
  have hA2 := hA1.x hx2
  have hX2 := hx1.trans hx2
  repeat (first
 | (with_reducible first
 | apply CW.seq | apply CW.region | apply CW.block | apply CW.ret | apply CW.skip | apply CW.label | apply CW.exit
 | apply W.nil | apply Fin.seq | apply Fin.then_ret | apply Fin.then_exit | apply Fin.blk_ret | apply Fin.blk_normal | apply Fin.blk_here)
 | (with_reducible first | refine S.move ?_ | refine S.assign ?_ | refine S.pickT ?_ | refine S.pickF ?_ | refine S.lss ?_ | refine S.gtr ?_ | refine S.leq ?_ | refine S.geq ?_ | refine S.eqT ?_ | refine S.neF ?_ | refine S.eql ?_ | refine S.neq ?_ | refine S.add ?_ | refine S.sub ?_ | refine S.mul ?_ | refine S.conv ?_ | refine S.shr1 ?_ | refine S.neg ?_ | refine S.not ?_ | refine S.extract ?_ | refine S.len ?_ | refine S.fld ?_ | refine S.index ?_ | refine S.skp ?_ | refine S.sliceTo ?_ | refine S.sliceFrom ?_ | refine S.eqNil ?_ | refine S.eqbT ?_ | refine S.nebF ?_ | refine S.eqb ?_ | refine S.neb ?_)
 | (with_reducible first | refine S.nc ?_ | refine S.fld ?_ (h1 := fRLP) | refine S.fld ?_ (h1 := fRLR) | refine S.fld ?_ (h1 := fOpKind) | refine S.fld ?_ (h1 := fOpPod) | refine S.fld ?_ (h1 := fOpReason) | refine S.eqP ?_ | refine S.neP ?_)
 | ((with_reducible apply CW.cond_true); exact rfl)
 | ((with_reducible apply CW.cond_false); exact rfl)
 | ((with_reducible apply Fin.blk_far); exact rfl))
  refine S.cl (op_call ent19 (by rfl) (by rfl)) (by rfl) (by rfl) (few8_calls _ L w2 (hpl w2 hX2) hn) ?_
  rintro _ w3 ⟨rfl, hx3⟩
  have hA3 := hA2.x hx3
  have hX3 := hX2.trans hx3
  repeat (first
 | (with_reducible first
 | apply CW.seq | apply CW.region | apply CW.block | apply CW.ret | apply CW.skip | apply CW.label | apply CW.exit
 | apply W.nil | apply Fin.seq | apply Fin.then_ret | apply Fin.then_exit | apply Fin.blk_ret | apply Fin.blk_normal | apply Fin.blk_here)
 | (with_reducible first | refine S.move ?_ | refine S.assign ?_ | refine S.pickT ?_ | refine S.pickF ?_ | refine S.lss ?_ | refine S.gtr ?_ | refine S.leq ?_ | refine S.geq ?_ | refine S.eqT ?_ | refine S.neF ?_ | refine S.eql ?_ | refine S.neq ?_ | refine S.add ?_ | refine S.sub ?_ | refine S.mul ?_ | refine S.conv ?_ | refine S.shr1 ?_ | refine S.neg ?_ | refine S.not ?_ | refine S.extract ?_ | refine S.len ?_ | refine S.fld ?_ | refine S.index ?_ | refine S.skp ?_ | refine S.sliceTo ?_ | refine S.sliceFrom ?_ | refine S.eqNil ?_ | refine S.eqbT ?_ | refine S.nebF ?_ | refine S.eqb ?_ | refine S.neb ?_)
 | (with_reducible first | refine S.nc ?_ | refine S.fld ?_ (h1 := fRLP) | refine S.fld ?_ (h1 := fRLR) | refine S.fld ?_ (h1 := fOpKind) | refine S.fld ?_ (h1 := fOpPod) | refine S.fld ?_ (h1 := fOpReason) | refine S.eqP ?_ | refine S.neP ?_)
 | ((with_reducible apply CW.cond_true); exact rfl)
 | ((with_reducible apply CW.cond_false); exact rfl)
 | ((with_reducible apply Fin.blk_far); exact rfl))
  refine CW.cond (by rfl) (fun h => ?_) (fun h => ?_)
  · repeat (first
 | (with_reducible first
 | apply CW.seq | apply CW.region | apply CW.block | apply CW.ret | apply CW.skip | apply CW.label | apply CW.exit
 | apply W.nil | apply Fin.seq | apply Fin.then_ret | apply Fin.then_exit | apply Fin.blk_ret | apply Fin.blk_normal | apply Fin.blk_here)
 | (with_reducible first | refine S.move ?_ | refine S.assign ?_ | refine S.pickT ?_ | refine S.pickF ?_ | refine S.lss ?_ | refine S.gtr ?_ | refine S.leq ?_ | refine S.geq ?_ | refine S.eqT ?_ | refine S.neF ?_ | refine S.eql ?_ | refine S.neq ?_ | refine S.add ?_ | refine S.sub ?_ | refine S.mul ?_ | refine S.conv ?_ | refine S.shr1 ?_ | refine S.neg ?_ | refine S.not ?_ | refine S.extract ?_ | refine S.len ?_ | refine S.fld ?_ | refine S.index ?_ | refine S.skp ?_ | refine S.sliceTo ?_ | refine S.sliceFrom ?_ | refine S.eqNil ?_ | refine S.eqbT ?_ | refine S.nebF ?_ | refine S.eqb ?_ | refine S.neb ?_)
 | (with_reducible first | refine S.nc ?_ | refine S.fld ?_ (h1 := fRLP) | refine S.fld ?_ (h1 := fRLR) | refine S.fld ?_ (h1 := fOpKind) | refine S.fld ?_ (h1 := fOpPod) | refine S.fld ?_ (h1 := fOpReason) | refine S.eqP ?_ | refine S.neP ?_)
 | ((with_reducible apply CW.cond_true); exact rfl)
 | ((with_reducible apply CW.cond_false); exact rfl)
 | ((with_reducible apply Fin.blk_far); exact rfl))
    refine S.cl (op_call ent9 (by rfl) (by rfl)) (by rfl) (by rfl) (awake8_calls w3 (hN.x hX3)) ?_
    rintro _ w4 ⟨rfl, hx4⟩
    repeat (first
 | (with_reducible first
 | apply CW.seq | apply CW.region | apply CW.block | apply CW.ret | apply CW.skip | apply CW.label | apply CW.exit
 | apply W.nil | apply Fin.seq | apply Fin.then_ret | apply Fin.then_exit | apply Fin.blk_ret | apply Fin.blk_normal | apply Fin.blk_here)
 | (with_reducible first | refine S.move ?_ | refine S.assign ?_ | refine S.pickT ?_ | refine S.pickF ?_ | refine S.lss ?_ | refine S.gtr ?_ | refine S.leq ?_ | refine S.geq ?_ | refine S.eqT ?_ | refine S.neF ?_ | refine S.eql ?_ | refine S.neq ?_ | refine S.add ?_ | refine S.sub ?_ | refine S.mul ?_ | refine S.conv ?_ | refine S.shr1 ?_ | refine S.neg ?_ | refine S.not ?_ | refine S.extract ?_ | refine S.len ?_ | refine S.fld ?_ | refine S.index ?_ | refine S.skp ?_ | refine S.sliceTo ?_ | refine S.sliceFrom ?_ | refine S.eqNil ?_ | refine S.eqbT ?_ | refine S.nebF ?_ | refine S.eqb ?_ | refine S.neb ?_)
 | (with_reducible first | refine S.nc ?_ | refine S.fld ?_ (h1 := fRLP) | refine S.fld ?_ (h1 := fRLR) | refine S.fld ?_ (h1 := fOpKind) | refine S.fld ?_ (h1 := fOpPod) | refine S.fld ?_ (h1 := fOpReason) | refine S.eqP ?_ | refine S.neP ?_)
 | ((with_reducible apply CW.cond_true); exact rfl)
 | ((with_reducible apply CW.cond_false); exact rfl)
 | ((with_reducible apply Fin.blk_far); exact rfl))
    (with_reducible apply R.r1); exact rfl; exact rfl
    exact ⟨rfl, hX3.trans hx4⟩
  have hf : few8 L = true := by simpa using h
  have hlen : L.length ≤ 60 := by
    simp only [few8, Bool.and_eq_true, decide_eq_true_eq] at hf
    exact hf.2
  have hfo : ∀ o ∈ L, fewB [o.pod] = true := fun o ho => by
    simp only [few8, Bool.and_eq_true] at hf
    exact List.all_eq_true.1 hf.1 o ho
  have hrk : ∀ o ∈ L, RK w (· < w.heap.size) o.pod := fun o ho => by
    have h1 := hq o ho
    have h2 := few_at (hfo o ho) (k := 0) (by simp)
    have h3 := h1.1
    exact ⟨_, by simp only [List.getElem_cons_zero] at h2; omega, h1⟩
  have hok : ∀ o ∈ L, okPrio o.pod := fun o ho => okPrio_of (hfo o ho) _ (by simp)
  clear h hq hfo hf hpl hN hl
  repeat (first
 | (with_reducible first
 | apply CW.seq | apply CW.region | apply CW.block | apply CW.ret | apply CW.skip | apply CW.label | apply CW.exit
 | apply W.nil | apply Fin.seq | apply Fin.then_ret | apply Fin.then_exit | apply Fin.blk_ret | apply Fin.blk_normal | apply Fin.blk_here)
 | (with_reducible first | refine S.move ?_ | refine S.assign ?_ | refine S.pickT ?_ | refine S.pickF ?_ | refine S.lss ?_ | refine S.gtr ?_ | refine S.leq ?_ | refine S.geq ?_ | refine S.eqT ?_ | refine S.neF ?_ | refine S.eql ?_ | refine S.neq ?_ | refine S.add ?_ | refine S.sub ?_ | refine S.mul ?_ | refine S.conv ?_ | refine S.shr1 ?_ | refine S.neg ?_ | refine S.not ?_ | refine S.extract ?_ | refine S.len ?_ | refine S.fld ?_ | refine S.index ?_ | refine S.skp ?_ | refine S.sliceTo ?_ | refine S.sliceFrom ?_ | refine S.eqNil ?_ | refine S.eqbT ?_ | refine S.nebF ?_ | refine S.eqb ?_ | refine S.neb ?_)
 | (with_reducible first | refine S.nc ?_ | refine S.fld ?_ (h1 := fRLP) | refine S.fld ?_ (h1 := fRLR) | refine S.fld ?_ (h1 := fOpKind) | refine S.fld ?_ (h1 := fOpPod) | refine S.fld ?_ (h1 := fOpReason) | refine S.eqP ?_ | refine S.neP ?_)
 | ((with_reducible apply CW.cond_true); exact rfl)
 | ((with_reducible apply CW.cond_false); exact rfl)
 | ((with_reducible apply Fin.blk_far); exact rfl))
  refine W.pure (d := some 28) (v := lotV (.slice none 0 0) (.slice none 0 0)) (op_build (by rfl) (by kernel_rfl)) (by rfl) (by rfl) ?_
  refine W.newBlk (d := some 4) (mk := fun b => .pointer (some ⟨b, 0, none⟩)) (cs := [.slice none 0 0, .slice none 0 0]) (op_alloc' zRL rfl) (by rfl) (by rfl) ?_
  intro b4 w4 hx4 hb4 hB4
  refine S.stB (vs := [.slice none 0 0, .slice none 0 0]) (by rfl) (by rfl) rfl hB4 rfl szRL (by simp [Value.oneCell']) (by rfl) ?_
  intro w5 hg5 hB5
  have hx5 : X w3 w5 := below_g hx4 hg5 hx4.le hb4
  have hw3 := hX3.le
  have h4 : w.heap.size ≤ b4 := by omega
  have hn4 : ¬ O1 b4 := fun h => by have := (hA3.lo b4 h).2; omega
  repeat (first
 | (with_reducible first
 | apply CW.seq | apply CW.region | apply CW.block | apply CW.ret | apply CW.skip | apply CW.label | apply CW.exit
 | apply W.nil | apply Fin.seq | apply Fin.then_ret | apply Fin.then_exit | apply Fin.blk_ret | apply Fin.blk_normal | apply Fin.blk_here)
 | (with_reducible first | refine S.move ?_ | refine S.assign ?_ | refine S.pickT ?_ | refine S.pickF ?_ | refine S.lss ?_ | refine S.gtr ?_ | refine S.leq ?_ | refine S.geq ?_ | refine S.eqT ?_ | refine S.neF ?_ | refine S.eql ?_ | refine S.neq ?_ | refine S.add ?_ | refine S.sub ?_ | refine S.mul ?_ | refine S.conv ?_ | refine S.shr1 ?_ | refine S.neg ?_ | refine S.not ?_ | refine S.extract ?_ | refine S.len ?_ | refine S.fld ?_ | refine S.index ?_ | refine S.skp ?_ | refine S.sliceTo ?_ | refine S.sliceFrom ?_ | refine S.eqNil ?_ | refine S.eqbT ?_ | refine S.nebF ?_ | refine S.eqb ?_ | refine S.neb ?_)
 | (with_reducible first | refine S.nc ?_ | refine S.fld ?_ (h1 := fRLP) | refine S.fld ?_ (h1 := fRLR) | refine S.fld ?_ (h1 := fOpKind) | refine S.fld ?_ (h1 := fOpPod) | refine S.fld ?_ (h1 := fOpReason) | refine S.eqP ?_ | refine S.neP ?_)
 | ((with_reducible apply CW.cond_true); exact rfl)
 | ((with_reducible apply CW.cond_false); exact rfl)
 | ((with_reducible apply Fin.blk_far); exact rfl))
  refine CW.loop (ι := Nat × List (PV × Int) × Value × Value × (Nat → Prop)) (fun k => [(6, .int .i64 (k.1 : Int)), (3, .pointer (some ⟨b0, 0, none⟩)), (4, .pointer (some ⟨b4, 0, none⟩)), (0, .slice A L.length c)])
    (fun k w' => X w w' ∧ k.1 ≤ L.length ∧ LA w' w.heap.size b0 k.2.2.2.2 (k.2.1.map (abZ w)) ∧ Blk w' b4 43 [k.2.2.1, k.2.2.2.1] ∧ ¬ k.2.2.2.2 b4 ∧ RLt w' (fun b => ¬ (k.2.2.2.2 b ∨ b = b4)) k.2.2.1 k.2.2.2.1 k.2.1 ∧ k.2.1.length ≤ k.1 ∧ ∀ z ∈ k.2.1, RK w (· < w.heap.size) z.1 ∧ okPrio z.1) (fun k => L.length - k.1) ?_
    (0, [], .slice none 0 0, .slice none 0 0, O1) (by repeat (first | exact trivial | refine ⟨congrArg (fun z : Int => some (Value.int .i64 z)) (by omega), ?_⟩ | refine ⟨rfl, ?_⟩)) ⟨hX3.trans hx5, Nat.zero_le _, hA3.x hx5, hB5, hn4, RLt.nil _ _, Nat.le_refl _, fun z hz => by cases hz⟩
  clear hA1 hA2 hA3 hx1 hx2 hx3 hX2 hX3 hx4 hB4 hg5 hB5 hx5 hn4 hw3 hb4
  rintro ⟨k, Z, a, b, O⟩ w6 ⟨hX6, hk, hA6, hB6, hn4, hR6, hZl, hz⟩
  simp only at hk hA6 hB6 hn4 hR6 hZl hz ⊢
  repeat (first
 | (with_reducible first
 | apply CW.seq | apply CW.region | apply CW.block | apply CW.ret | apply CW.skip | apply CW.label | apply CW.exit
 | apply W.nil | apply Fin.seq | apply Fin.then_ret | apply Fin.then_exit | apply Fin.blk_ret | apply Fin.blk_normal | apply Fin.blk_here)
 | (with_reducible first | refine S.move ?_ | refine S.assign ?_ | refine S.pickT ?_ | refine S.pickF ?_ | refine S.lss ?_ | refine S.gtr ?_ | refine S.leq ?_ | refine S.geq ?_ | refine S.eqT ?_ | refine S.neF ?_ | refine S.eql ?_ | refine S.neq ?_ | refine S.add ?_ | refine S.sub ?_ | refine S.mul ?_ | refine S.conv ?_ | refine S.shr1 ?_ | refine S.neg ?_ | refine S.not ?_ | refine S.extract ?_ | refine S.len ?_ | refine S.fld ?_ | refine S.index ?_ | refine S.skp ?_ | refine S.sliceTo ?_ | refine S.sliceFrom ?_ | refine S.eqNil ?_ | refine S.eqbT ?_ | refine S.nebF ?_ | refine S.eqb ?_ | refine S.neb ?_)
 | (with_reducible first | refine S.nc ?_ | refine S.fld ?_ (h1 := fRLP) | refine S.fld ?_ (h1 := fRLR) | refine S.fld ?_ (h1 := fOpKind) | refine S.fld ?_ (h1 := fOpPod) | refine S.fld ?_ (h1 := fOpReason) | refine S.eqP ?_ | refine S.neP ?_)
 | ((with_reducible apply CW.cond_true); exact rfl)
 | ((with_reducible apply CW.cond_false); exact rfl)
 | ((with_reducible apply Fin.blk_far); exact rfl))
  refine S.len (h1 := Tryd.underlying40) ?_
  repeat (first
 | (with_reducible first
 | apply CW.seq | apply CW.region | apply CW.block | apply CW.ret | apply CW.skip | apply CW.label | apply CW.exit
 | apply W.nil | apply Fin.seq | apply Fin.then_ret | apply Fin.then_exit | apply Fin.blk_ret | apply Fin.blk_normal | apply Fin.blk_here)
 | (with_reducible first | refine S.move ?_ | refine S.assign ?_ | refine S.pickT ?_ | refine S.pickF ?_ | refine S.lss ?_ | refine S.gtr ?_ | refine S.leq ?_ | refine S.geq ?_ | refine S.eqT ?_ | refine S.neF ?_ | refine S.eql ?_ | refine S.neq ?_ | refine S.add ?_ | refine S.sub ?_ | refine S.mul ?_ | refine S.conv ?_ | refine S.shr1 ?_ | refine S.neg ?_ | refine S.not ?_ | refine S.extract ?_ | refine S.len ?_ | refine S.fld ?_ | refine S.index ?_ | refine S.skp ?_ | refine S.sliceTo ?_ | refine S.sliceFrom ?_ | refine S.eqNil ?_ | refine S.eqbT ?_ | refine S.nebF ?_ | refine S.eqb ?_ | refine S.neb ?_)
 | (with_reducible first | refine S.nc ?_ | refine S.fld ?_ (h1 := fRLP) | refine S.fld ?_ (h1 := fRLR) | refine S.fld ?_ (h1 := fOpKind) | refine S.fld ?_ (h1 := fOpPod) | refine S.fld ?_ (h1 := fOpReason) | refine S.eqP ?_ | refine S.neP ?_)
 | ((with_reducible apply CW.cond_true); exact rfl)
 | ((with_reducible apply CW.cond_false); exact rfl)
 | ((with_reducible apply Fin.blk_far); exact rfl))
  refine CW.cond (by rfl) (fun h => ?_) (fun h => ?_)
  · have hk' : k < L.length := by have := of_decide_eq_true h; omega
    clear h
    obtain ⟨bw, ow, rfl, hbB, hcell⟩ := hat k hk'
    have hp : L[k]? = some L[k] := List.getElem?_eq_getElem hk'
    have hm : L[k] ∈ L := List.getElem_mem hk'
    have hrko := hrk _ hm
    have hoko := hok _ hm
    generalize L[k] = o at *
    have hcx : ∀ w', X w w' → ∀ j u, o.cs[j]? = some u → w'.cell? ⟨bw, ow + k * 11 + j, none⟩ = some u := fun w' hx j u hj => (hx.cell (p := ⟨bw, _, none⟩) hbB).trans (hcell k o j u hp hj)
    have hOlt : ∀ x, O x → w.heap.size ≤ x ∧ x < w6.heap.size := hA6.lo
    have hw6 := hX6.le
    have hbw6 : bw < w6.heap.size := by omega
    have hnbw : ¬ O bw := fun h => by have := (hOlt bw h).1; omega
    have h46 : b4 < w6.heap.size := hB6.lt
    have hsl := stepZ_len Z o
    have hsm : ∀ z ∈ stepZ Z o, RK w (· < w.heap.size) z.1 ∧ okPrio z.1 := fun z hz1 => by
      rcases stepZ_mem Z o z hz1 with h | rfl
      · exact hz z h
      · exact ⟨hrko, hoko⟩
    repeat (first
 | (with_reducible first
 | apply CW.seq | apply CW.region | apply CW.block | apply CW.ret | apply CW.skip | apply CW.label | apply CW.exit
 | apply W.nil | apply Fin.seq | apply Fin.then_ret | apply Fin.then_exit | apply Fin.blk_ret | apply Fin.blk_normal | apply Fin.blk_here)
 | (with_reducible first | refine S.move ?_ | refine S.assign ?_ | refine S.pickT ?_ | refine S.pickF ?_ | refine S.lss ?_ | refine S.gtr ?_ | refine S.leq ?_ | refine S.geq ?_ | refine S.eqT ?_ | refine S.neF ?_ | refine S.eql ?_ | refine S.neq ?_ | refine S.add ?_ | refine S.sub ?_ | refine S.mul ?_ | refine S.conv ?_ | refine S.shr1 ?_ | refine S.neg ?_ | refine S.not ?_ | refine S.extract ?_ | refine S.len ?_ | refine S.fld ?_ | refine S.index ?_ | refine S.skp ?_ | refine S.sliceTo ?_ | refine S.sliceFrom ?_ | refine S.eqNil ?_ | refine S.eqbT ?_ | refine S.nebF ?_ | refine S.eqb ?_ | refine S.neb ?_)
 | (with_reducible first | refine S.nc ?_ | refine S.fld ?_ (h1 := fRLP) | refine S.fld ?_ (h1 := fRLR) | refine S.fld ?_ (h1 := fOpKind) | refine S.fld ?_ (h1 := fOpPod) | refine S.fld ?_ (h1 := fOpReason) | refine S.eqP ?_ | refine S.neP ?_)
 | ((with_reducible apply CW.cond_true); exact rfl)
 | ((with_reducible apply CW.cond_false); exact rfl)
 | ((with_reducible apply Fin.blk_far); exact rfl))
    refine wp_factsC (R := SF O) (c := 6) (fun w' => w' = { w6 with drawn := w6.drawn + 1 }) (fun _ => True) (pu := [0, 2, 3]) (front := [1, 4, 5, 6, 7, 8, 9]) (lp := [7, 8, 9]) (al := [6, 7, 8, 9]) (tail := [10, 11]) (by kernel_rfl) (by rfl) (by rfl) rfl mixed (by kernel_rfl) (by (repeat (first | with_reducible exact NoPanic.post_ | with_reducible apply NoPanic.then_ | with_reducible apply NoPanic.blk))) (SF.refl O) (fun _ _ _ => SF.trans) (SF.of_x (X.drew _)) ?_
    repeat ((with_reducible refine TP.step ?_); first
      | (with_reducible first | refine E.move ?_ | refine E.assign ?_ | refine E.pickT ?_ | refine E.pickF ?_ | refine E.lss ?_ | refine E.gtr ?_ | refine E.leq ?_ | refine E.geq ?_ | refine E.eqT ?_ | refine E.neF ?_ | refine E.eql ?_ | refine E.neq ?_ | refine E.add ?_ | refine E.sub ?_ | refine E.mul ?_ | refine E.conv ?_ | refine E.shr1 ?_ | refine E.neg ?_ | refine E.not ?_ | refine E.extract ?_ | refine E.len ?_ | refine E.fld ?_ | refine E.index ?_ | refine E.skp ?_ | refine E.sliceTo ?_ | refine E.sliceFrom ?_ | refine E.eqNil ?_ | refine E.eqbT ?_ | refine E.nebF ?_ | refine E.eqb ?_ | refine E.neb ?_)
      | (with_reducible first | refine E.nc ?_ | refine E.fld ?_ (h1 := fRLP) | refine E.fld ?_ (h1 := fRLR) | refine E.fld ?_ (h1 := fOpKind) | refine E.fld ?_ (h1 := fOpPod) | refine E.fld ?_ (h1 := fOpReason)))
    refine TP.done ?_
    refine TG.step ?_
    refine TG.lds (cs := [a, b]) (by rfl) stRL (fun w' hr j u hj => by rw [Nat.zero_add]; exact (hr.blk hB6 hn4).cell hj) (by decide) (by rfl) (by rfl) (by rfl) ?_
    refine TG.step ?_
    refine TG.stepP ?_ (by decide)
    refine E.index (h2 := slOps) ?_
    refine TP.done ?_
    refine TG.step ?_
    refine TG.lds (cs := o.cs) (by rfl) stOp (fun w' hr j u hj => (hr.cell (p := ⟨bw, _, none⟩) hbw6 hnbw).trans (hcx w6 hX6 j u hj)) (by decide) (by rfl) (by rfl) (by rfl) ?_
    refine TG.step ?_
    refine TG.cl (.pr fun v w' => ∃ a' b' O', v = .tuple #[lotV a' b', .bool true] ∧ LA w' w.heap.size b0 O' ((stepZ Z o).map (abZ w)) ∧ FO O O' w6 w' ∧ RLt w' (fun x => ¬ (O' x ∨ x = b4)) a' b' (stepZ Z o)) (by rfl) (op_call ent20 (by rfl) (by rfl)) (by rfl) (by rfl) (by rfl) (by rfl) (fun w' hr h1 => ?_) ?_
    · subst h1
      refine (play8_calls w b0 O (· = b4) Z a b o _ (hX6.trans (X.drew _)) (hA6.x (X.drew _)) (fun x hx => by rw [hx]; exact h46) (hR6.x (X.drew _)) hz hrko (by omega)).mono fun u w'' h => ?_
      obtain ⟨a', b', O', e, h2, h3, h5⟩ := h
      exact ⟨⟨a', b', O', e, h2, (FO.of_x (X.drew _)).trans h3, h5⟩, h3.sf, trivial⟩
    refine TG.step ?_
    refine TG.movep (by rfl) (by rfl) (by rfl) (by rfl) (by rfl) ?_
    refine TG.step ?_
    refine TG.extp (fun u w' => ∃ a' b' O', u = lotV a' b' ∧ LA w' w.heap.size b0 O' ((stepZ Z o).map (abZ w)) ∧ FO O O' w6 w' ∧ RLt w' (fun x => ¬ (O' x ∨ x = b4)) a' b' (stepZ Z o)) (by rfl) (by rfl) (fun v w' h => by
      obtain ⟨a', b', O', e, h2⟩ := h
      exact ⟨_, _, e, rfl, a', b', O', rfl, h2⟩) (by rfl) (by rfl) (by rfl) ?_
    refine TG.step ?_
    refine TG.extd (u := .bool true) (by rfl) (fun v w' h => by
      obtain ⟨a', b', O', e, h2⟩ := h
      exact ⟨_, e, rfl⟩) (by rfl) (by rfl) (by rfl) ?_
    refine TG.back ?_
    refine TC.pr 43 (by rfl) fun v43 => TC.tail2 (by rfl) (by rfl) fun w7 h7 => ?_
    obtain ⟨⟨hS7, _⟩, a', b', O', rfl, hA7, hF7, hR7⟩ := h7
    have hn4' : ¬ O' b4 := fun h => hn4 (hF7.own b4 h46 h)
    have hX7 : X w w7 := hF7.xx hX6 fun x hx => (hOlt x hx).1
    have hB7 := hS7.blk hB6 hn4
    obtain ⟨ka1, kb1, ka2, kb2⟩ := hR7.cells
    refine S.stB (vs := [a', b']) (by rfl) (by rfl) rfl hB7 rfl szRL (by simp [ka1, kb1]) (by rfl) ?_
    intro w8 hg8 hB8
    have hX8 : X w w8 := below_g hX7 hg8 hX7.le h4
    have hA8 := hA7.g hg8 hn4'
    have hR8 := hR7.keep fun x hx hK => hg8.block x hx (by intro e; cases e; exact hK (.inr rfl))
    clear hA6 hB6 hR6 hA7 hR7 hB7 hg8 hz hF7 hS7 hOlt hn4 hnbw hcell hat
    have hZ8 : (stepZ Z o).length ≤ 100 := by omega
    generalize hZe : stepZ Z o = Z' at *
    have hps8 := hR8.ps
    have hpm : ∀ p ∈ Z'.map (·.1), okPrio p := fun p hp => by
      obtain ⟨z, hz1, rfl⟩ := List.mem_map.1 hp
      exact (hsm z hz1).2
    have hrm : ∀ p ∈ Z'.map (·.1), RK w (· < w.heap.size) p := fun p hp => by
      obtain ⟨z, hz1, rfl⟩ := List.mem_map.1 hp
      exact (hsm z hz1).1
    have hl1 : (Z'.map (·.1)).length = Z'.length := by simp
    have hsort := (absZ w Z').sort
    have hss : ∀ p ∈ sortR (Z'.map (·.1)), RK w (· < w.heap.size) p := fun p hp => hrm p (((sortR_srt _).2.mem p).2 hp)
    have hmap8 : ∀ w', X w w' → (sortR (Z'.map (·.1))).map (ab w') = (sortR (Z'.map (·.1))).map (ab w) := fun w' hx => List.map_congr_left fun p hp => (hss p hp).abx hx
    repeat (first
 | (with_reducible first
 | apply CW.seq | apply CW.region | apply CW.block | apply CW.ret | apply CW.skip | apply CW.label | apply CW.exit
 | apply W.nil | apply Fin.seq | apply Fin.then_ret | apply Fin.then_exit | apply Fin.blk_ret | apply Fin.blk_normal | apply Fin.blk_here)
 | (with_reducible first | refine S.move ?_ | refine S.assign ?_ | refine S.pickT ?_ | refine S.pickF ?_ | refine S.lss ?_ | refine S.gtr ?_ | refine S.leq ?_ | refine S.geq ?_ | refine S.eqT ?_ | refine S.neF ?_ | refine S.eql ?_ | refine S.neq ?_ | refine S.add ?_ | refine S.sub ?_ | refine S.mul ?_ | refine S.conv ?_ | refine S.shr1 ?_ | refine S.neg ?_ | refine S.not ?_ | refine S.extract ?_ | refine S.len ?_ | refine S.fld ?_ | refine S.index ?_ | refine S.skp ?_ | refine S.sliceTo ?_ | refine S.sliceFrom ?_ | refine S.eqNil ?_ | refine S.eqbT ?_ | refine S.nebF ?_ | refine S.eqb ?_ | refine S.neb ?_)
 | (with_reducible first | refine S.nc ?_ | refine S.fld ?_ (h1 := fRLP) | refine S.fld ?_ (h1 := fRLR) | refine S.fld ?_ (h1 := fOpKind) | refine S.fld ?_ (h1 := fOpPod) | refine S.fld ?_ (h1 := fOpReason) | refine S.eqP ?_ | refine S.neP ?_)
 | ((with_reducible apply CW.cond_true); exact rfl)
 | ((with_reducible apply CW.cond_false); exact rfl)
 | ((with_reducible apply Fin.blk_far); exact rfl))
    refine wp_facts (R := X) (front := [0, 1, 2, 3, 4, 5, 6, 7, 8, 9]) (tail := []) mixed (by kernel_rfl) X.refl (fun _ _ _ => X.trans) (X.drew _) ?_
    repeat ((with_reducible refine TC.step ?_); first
      | (with_reducible first | refine D.move ?_ | refine D.assign ?_ | refine D.pickT ?_ | refine D.pickF ?_ | refine D.lss ?_ | refine D.gtr ?_ | refine D.leq ?_ | refine D.geq ?_ | refine D.eqT ?_ | refine D.neF ?_ | refine D.eql ?_ | refine D.neq ?_ | refine D.add ?_ | refine D.sub ?_ | refine D.mul ?_ | refine D.conv ?_ | refine D.shr1 ?_ | refine D.neg ?_ | refine D.not ?_ | refine D.extract ?_ | refine D.len ?_ | refine D.fld ?_ | refine D.index ?_ | refine D.skp ?_ | refine D.sliceTo ?_ | refine D.sliceFrom ?_ | refine D.eqNil ?_ | refine D.eqbT ?_ | refine D.nebF ?_ | refine D.eqb ?_ | refine D.neb ?_)
      | refine D.lds (cs := [a', b']) (by rfl) stRL (fun w' hx j u hj => by rw [Nat.zero_add]; exact (hB8.x hx).cell hj) X.refl (by rfl) (by rfl) ?_
      | refine D.clp (pAll ((sortR (Z'.map (·.1))).map (ab w))) pAll.lasts (op_call ent15 (by rfl) (by rfl)) (by rfl) (by rfl) (fun w' hx' => (lAll_calls w.heap.size b0 O' _ w' (hA8.x hx') (by rw [List.length_map]; omega)).mono fun v w'' h => ⟨by
          obtain ⟨⟨Ls, h1, h2, _, h3⟩, _⟩ := h
          exact ⟨Ls, h1.psk.mono fun _ _ _ => trivial, fun p hp => (h3 p hp).rk.mono fun _ _ _ => trivial, h2.trans hsort⟩, h.2⟩) ?_
      | refine D.clp (pAll ((sortR (Z'.map (·.1))).map (ab w))) pAll.lasts (op_call ent21 (by rfl) (by rfl)) (by rfl) (by rfl) (fun w' hx' => (refAll_calls a' b' Z' w' ((hR8.x hx').mono fun _ _ _ => trivial) (by omega) hpm).mono fun v w'' h => ⟨⟨_, h.1.psk.mono fun _ _ _ => trivial, fun p hp => ((hss p hp).x ((hX8.trans hx').trans h.2)).mono fun _ _ _ => trivial, hmap8 _ ((hX8.trans hx').trans h.2)⟩, h.2⟩) ?_
      | refine D.clqq (p := pAll ((sortR (Z'.map (·.1))).map (ab w))) (q := pAll ((sortR (Z'.map (·.1))).map (ab w))) (r := .bool true) (by rfl) (by rfl) ent12 (fun u v w' hx' ⟨Ls, h1, h2, h3⟩ ⟨Ms, g1, g2, g3⟩ => Same_ab u v Ls Ms w' h1.ps g1.ps (h3.trans g3.symm) h2 g2 (by have := congrArg List.length h3; simp only [List.length_map, sortR_len] at this; omega)) (by rfl) (by rfl) ?_)
    refine TC.done fun w9 hx9 => ?_
    have hX9 := hX8.trans hx9
    have hA9 := hA8.x hx9
    have hR9 := hR8.x hx9
    have hB9 := hB8.x hx9
    clear hA8 hR8 hB8 hps8 hx9
    have hid9 : w9.cell? ⟨bw, ow + k * 11 + 1 + 0, none⟩ = some (.int .i64 o.pod.id) := by have := hcx w9 hX9 1 _ rfl; exact this
    repeat (first
 | (with_reducible first
 | apply CW.seq | apply CW.region | apply CW.block | apply CW.ret | apply CW.skip | apply CW.label | apply CW.exit
 | apply W.nil | apply Fin.seq | apply Fin.then_ret | apply Fin.then_exit | apply Fin.blk_ret | apply Fin.blk_normal | apply Fin.blk_here)
 | (with_reducible first | refine S.move ?_ | refine S.assign ?_ | refine S.pickT ?_ | refine S.pickF ?_ | refine S.lss ?_ | refine S.gtr ?_ | refine S.leq ?_ | refine S.geq ?_ | refine S.eqT ?_ | refine S.neF ?_ | refine S.eql ?_ | refine S.neq ?_ | refine S.add ?_ | refine S.sub ?_ | refine S.mul ?_ | refine S.conv ?_ | refine S.shr1 ?_ | refine S.neg ?_ | refine S.not ?_ | refine S.extract ?_ | refine S.len ?_ | refine S.fld ?_ | refine S.index ?_ | refine S.skp ?_ | refine S.sliceTo ?_ | refine S.sliceFrom ?_ | refine S.eqNil ?_ | refine S.eqbT ?_ | refine S.nebF ?_ | refine S.eqb ?_ | refine S.neb ?_)
 | (with_reducible first | refine S.nc ?_ | refine S.fld ?_ (h1 := fRLP) | refine S.fld ?_ (h1 := fRLR) | refine S.fld ?_ (h1 := fOpKind) | refine S.fld ?_ (h1 := fOpPod) | refine S.fld ?_ (h1 := fOpReason) | refine S.eqP ?_ | refine S.neP ?_)
 | ((with_reducible apply CW.cond_true); exact rfl)
 | ((with_reducible apply CW.cond_false); exact rfl)
 | ((with_reducible apply Fin.blk_far); exact rfl))
    refine S.index (h2 := slOps) ?_
    repeat (first
 | (with_reducible first
 | apply CW.seq | apply CW.region | apply CW.block | apply CW.ret | apply CW.skip | apply CW.label | apply CW.exit
 | apply W.nil | apply Fin.seq | apply Fin.then_ret | apply Fin.then_exit | apply Fin.blk_ret | apply Fin.blk_normal | apply Fin.blk_here)
 | (with_reducible first | refine S.move ?_ | refine S.assign ?_ | refine S.pickT ?_ | refine S.pickF ?_ | refine S.lss ?_ | refine S.gtr ?_ | refine S.leq ?_ | refine S.geq ?_ | refine S.eqT ?_ | refine S.neF ?_ | refine S.eql ?_ | refine S.neq ?_ | refine S.add ?_ | refine S.sub ?_ | refine S.mul ?_ | refine S.conv ?_ | refine S.shr1 ?_ | refine S.neg ?_ | refine S.not ?_ | refine S.extract ?_ | refine S.len ?_ | refine S.fld ?_ | refine S.index ?_ | refine S.skp ?_ | refine S.sliceTo ?_ | refine S.sliceFrom ?_ | refine S.eqNil ?_ | refine S.eqbT ?_ | refine S.nebF ?_ | refine S.eqb ?_ | refine S.neb ?_)
 | (with_reducible first | refine S.nc ?_ | refine S.fld ?_ (h1 := fRLP) | refine S.fld ?_ (h1 := fRLR) | refine S.fld ?_ (h1 := fOpKind) | refine S.fld ?_ (h1 := fOpPod) | refine S.fld ?_ (h1 := fOpReason) | refine S.eqP ?_ | refine S.neP ?_)
 | ((with_reducible apply CW.cond_true); exact rfl)
 | ((with_reducible apply CW.cond_false); exact rfl)
 | ((with_reducible apply Fin.blk_far); exact rfl))
    ((with_reducible apply S.ld); exact rfl; (with_reducible first | exact oneInt | exact oneI64s | exact oneBool | exact oneI64 | exact onePods | exact oneMap); (exact hid9); exact rfl; exact rfl)
    refine S.cl (op_call ent22 (by rfl) (by rfl)) (by rfl) (by rfl) (lReason_calls w.heap.size b0 O' _ o.pod.id w9 hA9) ?_
    rintro _ w10 ⟨rfl, hx10⟩
    have hX10 := hX9.trans hx10
    have hA10 := hA9.x hx10
    have hR10 := hR9.x hx10
    have hB10 := hB9.x hx10
    clear hA9 hR9 hB9 hid9 hx10
    repeat (first
 | (with_reducible first
 | apply CW.seq | apply CW.region | apply CW.block | apply CW.ret | apply CW.skip | apply CW.label | apply CW.exit
 | apply W.nil | apply Fin.seq | apply Fin.then_ret | apply Fin.then_exit | apply Fin.blk_ret | apply Fin.blk_normal | apply Fin.blk_here)
 | (with_reducible first | refine S.move ?_ | refine S.assign ?_ | refine S.pickT ?_ | refine S.pickF ?_ | refine S.lss ?_ | refine S.gtr ?_ | refine S.leq ?_ | refine S.geq ?_ | refine S.eqT ?_ | refine S.neF ?_ | refine S.eql ?_ | refine S.neq ?_ | refine S.add ?_ | refine S.sub ?_ | refine S.mul ?_ | refine S.conv ?_ | refine S.shr1 ?_ | refine S.neg ?_ | refine S.not ?_ | refine S.extract ?_ | refine S.len ?_ | refine S.fld ?_ | refine S.index ?_ | refine S.skp ?_ | refine S.sliceTo ?_ | refine S.sliceFrom ?_ | refine S.eqNil ?_ | refine S.eqbT ?_ | refine S.nebF ?_ | refine S.eqb ?_ | refine S.neb ?_)
 | (with_reducible first | refine S.nc ?_ | refine S.fld ?_ (h1 := fRLP) | refine S.fld ?_ (h1 := fRLR) | refine S.fld ?_ (h1 := fOpKind) | refine S.fld ?_ (h1 := fOpPod) | refine S.fld ?_ (h1 := fOpReason) | refine S.eqP ?_ | refine S.neP ?_)
 | ((with_reducible apply CW.cond_true); exact rfl)
 | ((with_reducible apply CW.cond_false); exact rfl)
 | ((with_reducible apply Fin.blk_far); exact rfl))
    refine wp_facts (R := X) (front := [0, 1, 2, 3, 4, 5, 6, 7, 8, 9]) (tail := []) mixed (by kernel_rfl) X.refl (fun _ _ _ => X.trans) (X.drew _) ?_
    repeat ((with_reducible refine TC.step ?_); first
      | refine D.index (h2 := slOps) ?_
      | (with_reducible first | refine D.move ?_ | refine D.assign ?_ | refine D.pickT ?_ | refine D.pickF ?_ | refine D.lss ?_ | refine D.gtr ?_ | refine D.leq ?_ | refine D.geq ?_ | refine D.eqT ?_ | refine D.neF ?_ | refine D.eql ?_ | refine D.neq ?_ | refine D.add ?_ | refine D.sub ?_ | refine D.mul ?_ | refine D.conv ?_ | refine D.shr1 ?_ | refine D.neg ?_ | refine D.not ?_ | refine D.extract ?_ | refine D.len ?_ | refine D.fld ?_ | refine D.index ?_ | refine D.skp ?_ | refine D.sliceTo ?_ | refine D.sliceFrom ?_ | refine D.eqNil ?_ | refine D.eqbT ?_ | refine D.nebF ?_ | refine D.eqb ?_ | refine D.neb ?_)
      | (with_reducible first | refine D.nc ?_ | refine D.fld ?_ (h1 := fRLP) | refine D.fld ?_ (h1 := fRLR) | refine D.fld ?_ (h1 := fOpKind) | refine D.fld ?_ (h1 := fOpPod) | refine D.fld ?_ (h1 := fOpReason))
      | refine D.ld (by rfl) onePods (fun w' hx => (hB10.x hx).cell rfl) X.refl (by rfl) (by rfl) ?_
      | ((with_reducible apply D.ld); exact rfl; (with_reducible first | exact oneInt | exact oneI64s | exact oneBool | exact oneI64 | exact onePods | exact oneMap); (intro w' hx'; have := hcx w' (hX10.trans hx') 1 _ rfl; exact this); exact X.refl; exact rfl; exact rfl)
      | refine D.cl (op_call ent23 (by rfl) (by rfl)) (by rfl) (by rfl) (v := .int .i64 (findR (Z'.map (·.1)) o.pod.id)) (fun w' hx' => (Find_calls _ (Z'.map (·.1)) o.pod.id w' (hR10.x hx').ps.ps (by omega)).mono fun v w'' h => ⟨h.1, h.2 ▸ X.refl _⟩) ?_)
    refine TC.done fun w11 hx11 => ?_
    have hX11 := hX10.trans hx11
    have hA11 := hA10.x hx11
    have hR11 := hR10.x hx11
    have hB11 := hB10.x hx11
    clear hA10 hR10 hB10 hx11
    have hhas : hasL (Z'.map (abZ w)) o.pod.id = hasR (Z'.map (·.1)) o.pod.id := (absZ w Z').has _
    have hfh := findR_has (Z'.map (·.1)) o.pod.id
    rcases findR_spec (Z'.map (·.1)) o.pod.id with ⟨i, hi, e1, e2, e3⟩ | ⟨e1, e2⟩
    · obtain ⟨z, hzi, hre⟩ := findZ_some w hi e2 e3
      have hhr : hasR (Z'.map (·.1)) o.pod.id = true := by
        rw [e1, decide_eq_false (by omega)] at hfh
        simpa using hfh
      rw [hhas, hhr, e1, hre]
      obtain ⟨Ai, ci, rfl, hci, _, hati⟩ := hR11.is
      have hiz : (Z'.map (·.2))[i]? = some z.2 := by rw [List.getElem?_map, hzi]; rfl
      have hil : i < (Z'.map (·.2)).length := (List.getElem?_eq_some_iff.1 hiz).1
      obtain ⟨bi, oi, rfl, _, hcelli⟩ := hati (by intro e; rw [e] at hil; simp at hil)
      have hci2 := hcelli i _ hiz
      have hci2 : w11.cell? ⟨bi, oi + i * 1, none⟩ = some (.int .i64 z.2) := by rw [Nat.mul_one]; exact hci2
      generalize z.2 = rr at *
      have hgeq : decide (0 ≤ (i : Int)) = true := decide_eq_true (by omega)
      repeat (first
 | (with_reducible first
 | apply CW.seq | apply CW.region | apply CW.block | apply CW.ret | apply CW.skip | apply CW.label | apply CW.exit
 | apply W.nil | apply Fin.seq | apply Fin.then_ret | apply Fin.then_exit | apply Fin.blk_ret | apply Fin.blk_normal | apply Fin.blk_here)
 | (with_reducible first | refine S.move ?_ | refine S.assign ?_ | refine S.pickT ?_ | refine S.pickF ?_ | refine S.lss ?_ | refine S.gtr ?_ | refine S.leq ?_ | refine S.geq ?_ | refine S.eqT ?_ | refine S.neF ?_ | refine S.eql ?_ | refine S.neq ?_ | refine S.add ?_ | refine S.sub ?_ | refine S.mul ?_ | refine S.conv ?_ | refine S.shr1 ?_ | refine S.neg ?_ | refine S.not ?_ | refine S.extract ?_ | refine S.len ?_ | refine S.fld ?_ | refine S.index ?_ | refine S.skp ?_ | refine S.sliceTo ?_ | refine S.sliceFrom ?_ | refine S.eqNil ?_ | refine S.eqbT ?_ | refine S.nebF ?_ | refine S.eqb ?_ | refine S.neb ?_)
 | (with_reducible first | refine S.nc ?_ | refine S.fld ?_ (h1 := fRLP) | refine S.fld ?_ (h1 := fRLR) | refine S.fld ?_ (h1 := fOpKind) | refine S.fld ?_ (h1 := fOpPod) | refine S.fld ?_ (h1 := fOpReason) | refine S.eqP ?_ | refine S.neP ?_)
 | ((with_reducible apply CW.cond_true); exact rfl)
 | ((with_reducible apply CW.cond_false); exact rfl)
 | ((with_reducible apply Fin.blk_far); exact rfl))
      refine S.ld (by rfl) oneInts (hB11.cell rfl) (by rfl) (by rfl) ?_
      repeat (first
 | (with_reducible first
 | apply CW.seq | apply CW.region | apply CW.block | apply CW.ret | apply CW.skip | apply CW.label | apply CW.exit
 | apply W.nil | apply Fin.seq | apply Fin.then_ret | apply Fin.then_exit | apply Fin.blk_ret | apply Fin.blk_normal | apply Fin.blk_here)
 | (with_reducible first | refine S.move ?_ | refine S.assign ?_ | refine S.pickT ?_ | refine S.pickF ?_ | refine S.lss ?_ | refine S.gtr ?_ | refine S.leq ?_ | refine S.geq ?_ | refine S.eqT ?_ | refine S.neF ?_ | refine S.eql ?_ | refine S.neq ?_ | refine S.add ?_ | refine S.sub ?_ | refine S.mul ?_ | refine S.conv ?_ | refine S.shr1 ?_ | refine S.neg ?_ | refine S.not ?_ | refine S.extract ?_ | refine S.len ?_ | refine S.fld ?_ | refine S.index ?_ | refine S.skp ?_ | refine S.sliceTo ?_ | refine S.sliceFrom ?_ | refine S.eqNil ?_ | refine S.eqbT ?_ | refine S.nebF ?_ | refine S.eqb ?_ | refine S.neb ?_)
 | (with_reducible first | refine S.nc ?_ | refine S.fld ?_ (h1 := fRLP) | refine S.fld ?_ (h1 := fRLR) | refine S.fld ?_ (h1 := fOpKind) | refine S.fld ?_ (h1 := fOpPod) | refine S.fld ?_ (h1 := fOpReason) | refine S.eqP ?_ | refine S.neP ?_)
 | ((with_reducible apply CW.cond_true); exact rfl)
 | ((with_reducible apply CW.cond_false); exact rfl)
 | ((with_reducible apply Fin.blk_far); exact rfl))
      ((with_reducible apply S.ld); exact rfl; (with_reducible first | exact oneInt | exact oneI64s | exact oneBool | exact oneI64 | exact onePods | exact oneMap); (exact hci2); exact rfl; exact rfl)
      repeat (first
 | (with_reducible first
 | apply CW.seq | apply CW.region | apply CW.block | apply CW.ret | apply CW.skip | apply CW.label | apply CW.exit
 | apply W.nil | apply Fin.seq | apply Fin.then_ret | apply Fin.then_exit | apply Fin.blk_ret | apply Fin.blk_normal | apply Fin.blk_here)
 | (with_reducible first | refine S.move ?_ | refine S.assign ?_ | refine S.pickT ?_ | refine S.pickF ?_ | refine S.lss ?_ | refine S.gtr ?_ | refine S.leq ?_ | refine S.geq ?_ | refine S.eqT ?_ | refine S.neF ?_ | refine S.eql ?_ | refine S.neq ?_ | refine S.add ?_ | refine S.sub ?_ | refine S.mul ?_ | refine S.conv ?_ | refine S.shr1 ?_ | refine S.neg ?_ | refine S.not ?_ | refine S.extract ?_ | refine S.len ?_ | refine S.fld ?_ | refine S.index ?_ | refine S.skp ?_ | refine S.sliceTo ?_ | refine S.sliceFrom ?_ | refine S.eqNil ?_ | refine S.eqbT ?_ | refine S.nebF ?_ | refine S.eqb ?_ | refine S.neb ?_)
 | (with_reducible first | refine S.nc ?_ | refine S.fld ?_ (h1 := fRLP) | refine S.fld ?_ (h1 := fRLR) | refine S.fld ?_ (h1 := fOpKind) | refine S.fld ?_ (h1 := fOpPod) | refine S.fld ?_ (h1 := fOpReason) | refine S.eqP ?_ | refine S.neP ?_)
 | ((with_reducible apply CW.cond_true); exact rfl)
 | ((with_reducible apply CW.cond_false); exact rfl)
 | ((with_reducible apply Fin.blk_far); exact rfl))
      refine CW.loop (ι := Nat) (fun j => [(10, .int .i64 ((j : Int) - 1)), (6, .int .i64 (k : Int)), (3, .pointer (some ⟨b0, 0, none⟩)), (4, .pointer (some ⟨b4, 0, none⟩)), (0, .slice (some ⟨bw, ow, none⟩) L.length c)]) (fun j w' => X w11 w' ∧ j ≤ 7) (fun j => 7 - j) ?_ 0 (by repeat (first | exact trivial | refine ⟨congrArg (fun z : Int => some (Value.int .i64 z)) (by omega), ?_⟩ | refine ⟨rfl, ?_⟩)) ⟨X.refl _, by omega⟩
      rintro j w12 ⟨hx12, hj⟩
      have hX12 := hX11.trans hx12
      repeat (first
 | (with_reducible first
 | apply CW.seq | apply CW.region | apply CW.block | apply CW.ret | apply CW.skip | apply CW.label | apply CW.exit
 | apply W.nil | apply Fin.seq | apply Fin.then_ret | apply Fin.then_exit | apply Fin.blk_ret | apply Fin.blk_normal | apply Fin.blk_here)
 | (with_reducible first | refine S.move ?_ | refine S.assign ?_ | refine S.pickT ?_ | refine S.pickF ?_ | refine S.lss ?_ | refine S.gtr ?_ | refine S.leq ?_ | refine S.geq ?_ | refine S.eqT ?_ | refine S.neF ?_ | refine S.eql ?_ | refine S.neq ?_ | refine S.add ?_ | refine S.sub ?_ | refine S.mul ?_ | refine S.conv ?_ | refine S.shr1 ?_ | refine S.neg ?_ | refine S.not ?_ | refine S.extract ?_ | refine S.len ?_ | refine S.fld ?_ | refine S.index ?_ | refine S.skp ?_ | refine S.sliceTo ?_ | refine S.sliceFrom ?_ | refine S.eqNil ?_ | refine S.eqbT ?_ | refine S.nebF ?_ | refine S.eqb ?_ | refine S.neb ?_)
 | (with_reducible first | refine S.nc ?_ | refine S.fld ?_ (h1 := fRLP) | refine S.fld ?_ (h1 := fRLR) | refine S.fld ?_ (h1 := fOpKind) | refine S.fld ?_ (h1 := fOpPod) | refine S.fld ?_ (h1 := fOpReason) | refine S.eqP ?_ | refine S.neP ?_)
 | ((with_reducible apply CW.cond_true); exact rfl)
 | ((with_reducible apply CW.cond_false); exact rfl)
 | ((with_reducible apply Fin.blk_far); exact rfl))
      refine CW.cond (by rfl) (fun h => ?_) (fun h => ?_)
      · have hj6 : j ≤ 6 := by have := of_decide_eq_true h; omega
        clear h
        repeat (first
 | (with_reducible first
 | apply CW.seq | apply CW.region | apply CW.block | apply CW.ret | apply CW.skip | apply CW.label | apply CW.exit
 | apply W.nil | apply Fin.seq | apply Fin.then_ret | apply Fin.then_exit | apply Fin.blk_ret | apply Fin.blk_normal | apply Fin.blk_here)
 | (with_reducible first | refine S.move ?_ | refine S.assign ?_ | refine S.pickT ?_ | refine S.pickF ?_ | refine S.lss ?_ | refine S.gtr ?_ | refine S.leq ?_ | refine S.geq ?_ | refine S.eqT ?_ | refine S.neF ?_ | refine S.eql ?_ | refine S.neq ?_ | refine S.add ?_ | refine S.sub ?_ | refine S.mul ?_ | refine S.conv ?_ | refine S.shr1 ?_ | refine S.neg ?_ | refine S.not ?_ | refine S.extract ?_ | refine S.len ?_ | refine S.fld ?_ | refine S.index ?_ | refine S.skp ?_ | refine S.sliceTo ?_ | refine S.sliceFrom ?_ | refine S.eqNil ?_ | refine S.eqbT ?_ | refine S.nebF ?_ | refine S.eqb ?_ | refine S.neb ?_)
 | (with_reducible first | refine S.nc ?_ | refine S.fld ?_ (h1 := fRLP) | refine S.fld ?_ (h1 := fRLR) | refine S.fld ?_ (h1 := fOpKind) | refine S.fld ?_ (h1 := fOpPod) | refine S.fld ?_ (h1 := fOpReason) | refine S.eqP ?_ | refine S.neP ?_)
 | ((with_reducible apply CW.cond_true); exact rfl)
 | ((with_reducible apply CW.cond_false); exact rfl)
 | ((with_reducible apply Fin.blk_far); exact rfl))
        refine wp_facts (R := X) (front := [0, 1, 2, 3, 4, 5, 6]) (tail := []) mixed (by kernel_rfl) X.refl (fun _ _ _ => X.trans) (X.drew _) ?_
        repeat ((with_reducible refine TC.step ?_); first
          | (with_reducible first | refine D.move ?_ | refine D.assign ?_ | refine D.pickT ?_ | refine D.pickF ?_ | refine D.lss ?_ | refine D.gtr ?_ | refine D.leq ?_ | refine D.geq ?_ | refine D.eqT ?_ | refine D.neF ?_ | refine D.eql ?_ | refine D.neq ?_ | refine D.add ?_ | refine D.sub ?_ | refine D.mul ?_ | refine D.conv ?_ | refine D.shr1 ?_ | refine D.neg ?_ | refine D.not ?_ | refine D.extract ?_ | refine D.len ?_ | refine D.fld ?_ | refine D.index ?_ | refine D.skp ?_ | refine D.sliceTo ?_ | refine D.sliceFrom ?_ | refine D.eqNil ?_ | refine D.eqbT ?_ | refine D.nebF ?_ | refine D.eqb ?_ | refine D.neb ?_)
          | refine D.lds (cs := [_, _]) (by rfl) stRL (fun w' hx j u hj => by rw [Nat.zero_add]; exact ((hB11.x hx12).x hx).cell hj) X.refl (by rfl) (by rfl) ?_
          | refine D.cl (op_call ent16 (by rfl) (by rfl)) (by rfl) (by rfl) (v := .int .i64 (cntI (Z'.map (·.2)) ((j : Int) - 1) : Int)) (fun w' hx' => (lCount_calls w.heap.size b0 O' _ ((j : Int) - 1) w' ((hA11.x hx12).x hx') (by rw [List.length_map]; omega)).mono fun v w'' h => ⟨by rw [h.1, cntZ], h.2⟩) ?_
          | refine D.cl (op_call ent24 (by rfl) (by rfl)) (by rfl) (by rfl) (v := .int .i64 (cntI (Z'.map (·.2)) ((j : Int) - 1) : Int)) (fun w' hx' => refCount_calls _ _ Z' ((j : Int) - 1) w' (((hR11.x hx12).x hx').mono fun _ _ _ => trivial) (by omega)) ?_)
        refine TC.done fun w13 hx13 => ?_
        repeat (first
 | (with_reducible first
 | apply CW.seq | apply CW.region | apply CW.block | apply CW.ret | apply CW.skip | apply CW.label | apply CW.exit
 | apply W.nil | apply Fin.seq | apply Fin.then_ret | apply Fin.then_exit | apply Fin.blk_ret | apply Fin.blk_normal | apply Fin.blk_here)
 | (with_reducible first | refine S.move ?_ | refine S.assign ?_ | refine S.pickT ?_ | refine S.pickF ?_ | refine S.lss ?_ | refine S.gtr ?_ | refine S.leq ?_ | refine S.geq ?_ | refine S.eqT ?_ | refine S.neF ?_ | refine S.eql ?_ | refine S.neq ?_ | refine S.add ?_ | refine S.sub ?_ | refine S.mul ?_ | refine S.conv ?_ | refine S.shr1 ?_ | refine S.neg ?_ | refine S.not ?_ | refine S.extract ?_ | refine S.len ?_ | refine S.fld ?_ | refine S.index ?_ | refine S.skp ?_ | refine S.sliceTo ?_ | refine S.sliceFrom ?_ | refine S.eqNil ?_ | refine S.eqbT ?_ | refine S.nebF ?_ | refine S.eqb ?_ | refine S.neb ?_)
 | (with_reducible first | refine S.nc ?_ | refine S.fld ?_ (h1 := fRLP) | refine S.fld ?_ (h1 := fRLR) | refine S.fld ?_ (h1 := fOpKind) | refine S.fld ?_ (h1 := fOpPod) | refine S.fld ?_ (h1 := fOpReason) | refine S.eqP ?_ | refine S.neP ?_)
 | ((with_reducible apply CW.cond_true); exact rfl)
 | ((with_reducible apply CW.cond_false); exact rfl)
 | ((with_reducible apply Fin.blk_far); exact rfl))
        refine Fin.round (j + 1) (by omega) (by repeat (first | exact trivial | refine ⟨congrArg (fun z : Int => some (Value.int .i64 z)) (by omega), ?_⟩ | refine ⟨rfl, ?_⟩)) ⟨hx12.trans hx13, by omega⟩
      · repeat (first
 | (with_reducible first
 | apply CW.seq | apply CW.region | apply CW.block | apply CW.ret | apply CW.skip | apply CW.label | apply CW.exit
 | apply W.nil | apply Fin.seq | apply Fin.then_ret | apply Fin.then_exit | apply Fin.blk_ret | apply Fin.blk_normal | apply Fin.blk_here)
 | (with_reducible first | refine S.move ?_ | refine S.assign ?_ | refine S.pickT ?_ | refine S.pickF ?_ | refine S.lss ?_ | refine S.gtr ?_ | refine S.leq ?_ | refine S.geq ?_ | refine S.eqT ?_ | refine S.neF ?_ | refine S.eql ?_ | refine S.neq ?_ | refine S.add ?_ | refine S.sub ?_ | refine S.mul ?_ | refine S.conv ?_ | refine S.shr1 ?_ | refine S.neg ?_ | refine S.not ?_ | refine S.extract ?_ | refine S.len ?_ | refine S.fld ?_ | refine S.index ?_ | refine S.skp ?_ | refine S.sliceTo ?_ | refine S.sliceFrom ?_ | refine S.eqNil ?_ | refine S.eqbT ?_ | refine S.nebF ?_ | refine S.eqb ?_ | refine S.neb ?_)
 | (with_reducible first | refine S.nc ?_ | refine S.fld ?_ (h1 := fRLP) | refine S.fld ?_ (h1 := fRLR) | refine S.fld ?_ (h1 := fOpKind) | refine S.fld ?_ (h1 := fOpPod) | refine S.fld ?_ (h1 := fOpReason) | refine S.eqP ?_ | refine S.neP ?_)
 | ((with_reducible apply CW.cond_true); exact rfl)
 | ((with_reducible apply CW.cond_false); exact rfl)
 | ((with_reducible apply Fin.blk_far); exact rfl))
        refine Fin.round (k + 1, Z', _, _, O') (by simp only; omega) (by repeat (first | exact trivial | refine ⟨congrArg (fun z : Int => some (Value.int .i64 z)) (by omega), ?_⟩ | refine ⟨rfl, ?_⟩)) ⟨hX12, hk', hA11.x hx12, hB11.x hx12, hn4', hR11.x hx12, by simp only; omega, hsm⟩
    · have hhr : hasR (Z'.map (·.1)) o.pod.id = false := by
        rw [e1, decide_eq_true (by decide)] at hfh
        simpa using hfh.symm
      rw [hhas, hhr, e1, findZ_none w e2]
      repeat (first
 | (with_reducible first
 | apply CW.seq | apply CW.region | apply CW.block | apply CW.ret | apply CW.skip | apply CW.label | apply CW.exit
 | apply W.nil | apply Fin.seq | apply Fin.then_ret | apply Fin.then_exit | apply Fin.blk_ret | apply Fin.blk_normal | apply Fin.blk_here)
 | (with_reducible first | refine S.move ?_ | refine S.assign ?_ | refine S.pickT ?_ | refine S.pickF ?_ | refine S.lss ?_ | refine S.gtr ?_ | refine S.leq ?_ | refine S.geq ?_ | refine S.eqT ?_ | refine S.neF ?_ | refine S.eql ?_ | refine S.neq ?_ | refine S.add ?_ | refine S.sub ?_ | refine S.mul ?_ | refine S.conv ?_ | refine S.shr1 ?_ | refine S.neg ?_ | refine S.not ?_ | refine S.extract ?_ | refine S.len ?_ | refine S.fld ?_ | refine S.index ?_ | refine S.skp ?_ | refine S.sliceTo ?_ | refine S.sliceFrom ?_ | refine S.eqNil ?_ | refine S.eqbT ?_ | refine S.nebF ?_ | refine S.eqb ?_ | refine S.neb ?_)
 | (with_reducible first | refine S.nc ?_ | refine S.fld ?_ (h1 := fRLP) | refine S.fld ?_ (h1 := fRLR) | refine S.fld ?_ (h1 := fOpKind) | refine S.fld ?_ (h1 := fOpPod) | refine S.fld ?_ (h1 := fOpReason) | refine S.eqP ?_ | refine S.neP ?_)
 | ((with_reducible apply CW.cond_true); exact rfl)
 | ((with_reducible apply CW.cond_false); exact rfl)
 | ((with_reducible apply Fin.blk_far); exact rfl))
      refine CW.loop (ι := Nat) (fun j => [(10, .int .i64 ((j : Int) - 1)), (6, .int .i64 (k : Int)), (3, .pointer (some ⟨b0, 0, none⟩)), (4, .pointer (some ⟨b4, 0, none⟩)), (0, .slice (some ⟨bw, ow, none⟩) L.length c)]) (fun j w' => X w11 w' ∧ j ≤ 7) (fun j => 7 - j) ?_ 0 (by repeat (first | exact trivial | refine ⟨congrArg (fun z : Int => some (Value.int .i64 z)) (by omega), ?_⟩ | refine ⟨rfl, ?_⟩)) ⟨X.refl _, by omega⟩
      rintro j w12 ⟨hx12, hj⟩
      have hX12 := hX11.trans hx12
      repeat (first
 | (with_reducible first
 | apply CW.seq | apply CW.region | apply CW.block | apply CW.ret | apply CW.skip | apply CW.label | apply CW.exit
 | apply W.nil | apply Fin.seq | apply Fin.then_ret | apply Fin.then_exit | apply Fin.blk_ret | apply Fin.blk_normal | apply Fin.blk_here)
 | (with_reducible first | refine S.move ?_ | refine S.assign ?_ | refine S.pickT ?_ | refine S.pickF ?_ | refine S.lss ?_ | refine S.gtr ?_ | refine S.leq ?_ | refine S.geq ?_ | refine S.eqT ?_ | refine S.neF ?_ | refine S.eql ?_ | refine S.neq ?_ | refine S.add ?_ | refine S.sub ?_ | refine S.mul ?_ | refine S.conv ?_ | refine S.shr1 ?_ | refine S.neg ?_ | refine S.not ?_ | refine S.extract ?_ | refine S.len ?_ | refine S.fld ?_ | refine S.index ?_ | refine S.skp ?_ | refine S.sliceTo ?_ | refine S.sliceFrom ?_ | refine S.eqNil ?_ | refine S.eqbT ?_ | refine S.nebF ?_ | refine S.eqb ?_ | refine S.neb ?_)
 | (with_reducible first | refine S.nc ?_ | refine S.fld ?_ (h1 := fRLP) | refine S.fld ?_ (h1 := fRLR) | refine S.fld ?_ (h1 := fOpKind) | refine S.fld ?_ (h1 := fOpPod) | refine S.fld ?_ (h1 := fOpReason) | refine S.eqP ?_ | refine S.neP ?_)
 | ((with_reducible apply CW.cond_true); exact rfl)
 | ((with_reducible apply CW.cond_false); exact rfl)
 | ((with_reducible apply Fin.blk_far); exact rfl))
      refine CW.cond (by rfl) (fun h => ?_) (fun h => ?_)
      · have hj6 : j ≤ 6 := by have := of_decide_eq_true h; omega
        clear h
        repeat (first
 | (with_reducible first
 | apply CW.seq | apply CW.region | apply CW.block | apply CW.ret | apply CW.skip | apply CW.label | apply CW.exit
 | apply W.nil | apply Fin.seq | apply Fin.then_ret | apply Fin.then_exit | apply Fin.blk_ret | apply Fin.blk_normal | apply Fin.blk_here)
 | (with_reducible first | refine S.move ?_ | refine S.assign ?_ | refine S.pickT ?_ | refine S.pickF ?_ | refine S.lss ?_ | refine S.gtr ?_ | refine S.leq ?_ | refine S.geq ?_ | refine S.eqT ?_ | refine S.neF ?_ | refine S.eql ?_ | refine S.neq ?_ | refine S.add ?_ | refine S.sub ?_ | refine S.mul ?_ | refine S.conv ?_ | refine S.shr1 ?_ | refine S.neg ?_ | refine S.not ?_ | refine S.extract ?_ | refine S.len ?_ | refine S.fld ?_ | refine S.index ?_ | refine S.skp ?_ | refine S.sliceTo ?_ | refine S.sliceFrom ?_ | refine S.eqNil ?_ | refine S.eqbT ?_ | refine S.nebF ?_ | refine S.eqb ?_ | refine S.neb ?_)
 | (with_reducible first | refine S.nc ?_ | refine S.fld ?_ (h1 := fRLP) | refine S.fld ?_ (h1 := fRLR) | refine S.fld ?_ (h1 := fOpKind) | refine S.fld ?_ (h1 := fOpPod) | refine S.fld ?_ (h1 := fOpReason) | refine S.eqP ?_ | refine S.neP ?_)
 | ((with_reducible apply CW.cond_true); exact rfl)
 | ((with_reducible apply CW.cond_false); exact rfl)
 | ((with_reducible apply Fin.blk_far); exact rfl))
        refine wp_facts (R := X) (front := [0, 1, 2, 3, 4, 5, 6]) (tail := []) mixed (by kernel_rfl) X.refl (fun _ _ _ => X.trans) (X.drew _) ?_
        repeat ((with_reducible refine TC.step ?_); first
          | (with_reducible first | refine D.move ?_ | refine D.assign ?_ | refine D.pickT ?_ | refine D.pickF ?_ | refine D.lss ?_ | refine D.gtr ?_ | refine D.leq ?_ | refine D.geq ?_ | refine D.eqT ?_ | refine D.neF ?_ | refine D.eql ?_ | refine D.neq ?_ | refine D.add ?_ | refine D.sub ?_ | refine D.mul ?_ | refine D.conv ?_ | refine D.shr1 ?_ | refine D.neg ?_ | refine D.not ?_ | refine D.extract ?_ | refine D.len ?_ | refine D.fld ?_ | refine D.index ?_ | refine D.skp ?_ | refine D.sliceTo ?_ | refine D.sliceFrom ?_ | refine D.eqNil ?_ | refine D.eqbT ?_ | refine D.nebF ?_ | refine D.eqb ?_ | refine D.neb ?_)
          | refine D.lds (cs := [_, _]) (by rfl) stRL (fun w' hx j u hj => by rw [Nat.zero_add]; exact ((hB11.x hx12).x hx).cell hj) X.refl (by rfl) (by rfl) ?_
          | refine D.cl (op_call ent16 (by rfl) (by rfl)) (by rfl) (by rfl) (v := .int .i64 (cntI (Z'.map (·.2)) ((j : Int) - 1) : Int)) (fun w' hx' => (lCount_calls w.heap.size b0 O' _ ((j : Int) - 1) w' ((hA11.x hx12).x hx') (by rw [List.length_map]; omega)).mono fun v w'' h => ⟨by rw [h.1, cntZ], h.2⟩) ?_
          | refine D.cl (op_call ent24 (by rfl) (by rfl)) (by rfl) (by rfl) (v := .int .i64 (cntI (Z'.map (·.2)) ((j : Int) - 1) : Int)) (fun w' hx' => refCount_calls _ _ Z' ((j : Int) - 1) w' (((hR11.x hx12).x hx').mono fun _ _ _ => trivial) (by omega)) ?_)
        refine TC.done fun w13 hx13 => ?_
        repeat (first
 | (with_reducible first
 | apply CW.seq | apply CW.region | apply CW.block | apply CW.ret | apply CW.skip | apply CW.label | apply CW.exit
 | apply W.nil | apply Fin.seq | apply Fin.then_ret | apply Fin.then_exit | apply Fin.blk_ret | apply Fin.blk_normal | apply Fin.blk_here)
 | (with_reducible first | refine S.move ?_ | refine S.assign ?_ | refine S.pickT ?_ | refine S.pickF ?_ | refine S.lss ?_ | refine S.gtr ?_ | refine S.leq ?_ | refine S.geq ?_ | refine S.eqT ?_ | refine S.neF ?_ | refine S.eql ?_ | refine S.neq ?_ | refine S.add ?_ | refine S.sub ?_ | refine S.mul ?_ | refine S.conv ?_ | refine S.shr1 ?_ | refine S.neg ?_ | refine S.not ?_ | refine S.extract ?_ | refine S.len ?_ | refine S.fld ?_ | refine S.index ?_ | refine S.skp ?_ | refine S.sliceTo ?_ | refine S.sliceFrom ?_ | refine S.eqNil ?_ | refine S.eqbT ?_ | refine S.nebF ?_ | refine S.eqb ?_ | refine S.neb ?_)
 | (with_reducible first | refine S.nc ?_ | refine S.fld ?_ (h1 := fRLP) | refine S.fld ?_ (h1 := fRLR) | refine S.fld ?_ (h1 := fOpKind) | refine S.fld ?_ (h1 := fOpPod) | refine S.fld ?_ (h1 := fOpReason) | refine S.eqP ?_ | refine S.neP ?_)
 | ((with_reducible apply CW.cond_true); exact rfl)
 | ((with_reducible apply CW.cond_false); exact rfl)
 | ((with_reducible apply Fin.blk_far); exact rfl))
        refine Fin.round (j + 1) (by omega) (by repeat (first | exact trivial | refine ⟨congrArg (fun z : Int => some (Value.int .i64 z)) (by omega), ?_⟩ | refine ⟨rfl, ?_⟩)) ⟨hx12.trans hx13, by omega⟩
      · repeat (first
 | (with_reducible first
 | apply CW.seq | apply CW.region | apply CW.block | apply CW.ret | apply CW.skip | apply CW.label | apply CW.exit
 | apply W.nil | apply Fin.seq | apply Fin.then_ret | apply Fin.then_exit | apply Fin.blk_ret | apply Fin.blk_normal | apply Fin.blk_here)
 | (with_reducible first | refine S.move ?_ | refine S.assign ?_ | refine S.pickT ?_ | refine S.pickF ?_ | refine S.lss ?_ | refine S.gtr ?_ | refine S.leq ?_ | refine S.geq ?_ | refine S.eqT ?_ | refine S.neF ?_ | refine S.eql ?_ | refine S.neq ?_ | refine S.add ?_ | refine S.sub ?_ | refine S.mul ?_ | refine S.conv ?_ | refine S.shr1 ?_ | refine S.neg ?_ | refine S.not ?_ | refine S.extract ?_ | refine S.len ?_ | refine S.fld ?_ | refine S.index ?_ | refine S.skp ?_ | refine S.sliceTo ?_ | refine S.sliceFrom ?_ | refine S.eqNil ?_ | refine S.eqbT ?_ | refine S.nebF ?_ | refine S.eqb ?_ | refine S.neb ?_)
 | (with_reducible first | refine S.nc ?_ | refine S.fld ?_ (h1 := fRLP) | refine S.fld ?_ (h1 := fRLR) | refine S.fld ?_ (h1 := fOpKind) | refine S.fld ?_ (h1 := fOpPod) | refine S.fld ?_ (h1 := fOpReason) | refine S.eqP ?_ | refine S.neP ?_)
 | ((with_reducible apply CW.cond_true); exact rfl)
 | ((with_reducible apply CW.cond_false); exact rfl)
 | ((with_reducible apply Fin.blk_far); exact rfl))
        refine Fin.round (k + 1, Z', _, _, O') (by simp only; omega) (by repeat (first | exact trivial | refine ⟨congrArg (fun z : Int => some (Value.int .i64 z)) (by omega), ?_⟩ | refine ⟨rfl, ?_⟩)) ⟨hX12, hk', hA11.x hx12, hB11.x hx12, hn4', hR11.x hx12, by simp only; omega, hsm⟩
  · repeat (first
 | (with_reducible first
 | apply CW.seq | apply CW.region | apply CW.block | apply CW.ret | apply CW.skip | apply CW.label | apply CW.exit
 | apply W.nil | apply Fin.seq | apply Fin.then_ret | apply Fin.then_exit | apply Fin.blk_ret | apply Fin.blk_normal | apply Fin.blk_here)
 | (with_reducible first | refine S.move ?_ | refine S.assign ?_ | refine S.pickT ?_ | refine S.pickF ?_ | refine S.lss ?_ | refine S.gtr ?_ | refine S.leq ?_ | refine S.geq ?_ | refine S.eqT ?_ | refine S.neF ?_ | refine S.eql ?_ | refine S.neq ?_ | refine S.add ?_ | refine S.sub ?_ | refine S.mul ?_ | refine S.conv ?_ | refine S.shr1 ?_ | refine S.neg ?_ | refine S.not ?_ | refine S.extract ?_ | refine S.len ?_ | refine S.fld ?_ | refine S.index ?_ | refine S.skp ?_ | refine S.sliceTo ?_ | refine S.sliceFrom ?_ | refine S.eqNil ?_ | refine S.eqbT ?_ | refine S.nebF ?_ | refine S.eqb ?_ | refine S.neb ?_)
 | (with_reducible first | refine S.nc ?_ | refine S.fld ?_ (h1 := fRLP) | refine S.fld ?_ (h1 := fRLR) | refine S.fld ?_ (h1 := fOpKind) | refine S.fld ?_ (h1 := fOpPod) | refine S.fld ?_ (h1 := fOpReason) | refine S.eqP ?_ | refine S.neP ?_)
 | ((with_reducible apply CW.cond_true); exact rfl)
 | ((with_reducible apply CW.cond_false); exact rfl)
 | ((with_reducible apply Fin.blk_far); exact rfl))
    (with_reducible apply R.r1); exact rfl; exact rfl
    exact ⟨rfl, hX6⟩

end Go.Proofs.YtmilpjkjcanghaaDoor

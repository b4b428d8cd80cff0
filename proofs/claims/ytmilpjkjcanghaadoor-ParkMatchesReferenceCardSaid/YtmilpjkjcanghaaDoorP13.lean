/- Operations of law 08: play. -/
import Derived.Test.YtmilpjkjcanghaaDoorP12
namespace Go.Proofs.YtmilpjkjcanghaaDoor
open Go.RowKit
set_option linter.unusedVariables false
set_option linter.unusedSimpArgs false

theorem SF.of_x {O : Nat → Prop} {w w' : World} (h : X w w') : SF O w w' := ⟨h.os, h.tape, h.output, h.size, fun k hk _ => h.block k hk⟩
theorem SF.trans {O : Nat → Prop} {a b c : World} (h : SF O a b) (k : SF O b c) : SF O a c := ⟨k.os.trans h.os, k.tape.trans h.tape, k.output.trans h.output, Nat.le_trans h.size k.size, fun x hx hn => (k.block x (Nat.lt_of_lt_of_le hx h.size) hn).trans (h.block x hx hn)⟩
theorem FO.sf {O O' : Nat → Prop} {w w' : World} (h : FO O O' w w') : SF O w w' := ⟨h.os, h.tape, h.output, h.size, fun k hk hn => h.block k hk hn⟩
theorem SF.blk {O : Nat → Prop} {w w' : World} {b : Nat} {t : TypeId} {cs : List Value} (h : SF O w w') (hB : Blk w b t cs) (hn : ¬ O b) : Blk w' b t cs := (h.block b hB.lt hn).trans hB
theorem RLt.fo {O O' : Nat → Prop} {K : Nat → Prop} {w w' : World} {a b : Value} {Z : List (PV × Int)} (h : RLt w K a b Z) (hf : FO O O' w w') (hK : ∀ k, K k → ¬ O k) : RLt w' (fun k => ¬ O' k ∧ K k) a b Z :=
  (h.mono fun k hk hKk => (⟨fun ho => hK k hKk (hf.own k hk ho), hKk⟩ : ¬ O' k ∧ K k)).keep fun k hk hKk => hf.block k hk (hK k hKk.2)

set_option maxHeartbeats 4000000 in
theorem play8_calls (wb : World) (b0 : Nat) (O T : Nat → Prop) (Z : List (PV × Int)) (a b : Value) (o : OV) (w : World) (hX : X wb w) (hA : LA w wb.heap.size b0 O (Z.map (abZ wb))) (hT : ∀ k, T k → k < w.heap.size) (hR : RLt w (fun k => ¬ (O k ∨ T k)) a b Z)
    (hz : ∀ z ∈ Z, RK wb (· < wb.heap.size) z.1 ∧ okPrio z.1) (ho : RK wb (· < wb.heap.size) o.pod) (hn : Z.length ≤ 300) :
    CallsR Tryd.prog 20 [.pointer (some ⟨b0, 0, none⟩), lotV a b, o.v] w fun v w' => ∃ a' b' O', v = .tuple #[lotV a' b', .bool true] ∧ LA w' wb.heap.size b0 O' ((stepZ Z o).map (abZ wb)) ∧ FO O O' w w' ∧ RLt w' (fun k => ¬ (O' k ∨ T k)) a' b' (stepZ Z o) := by
  have hOlt : ∀ k, O k → wb.heap.size ≤ k ∧ k < w.heap.size := hA.lo
  obtain ⟨ha1, hb1, ha2, hb2⟩ := hR.cells
  have hones : ∀ u ∈ [a, b], u.oneCell' = true := by simp [ha1, hb1]
  refine enter3 Tryd.func20 rfl Tryd.ntmps20 rfl ?_
  refine CW.seq ?_
  refine CW.region ?_
  refine W.newBlk (d := some 4) (mk := fun b => .pointer (some ⟨b, 0, none⟩)) (cs := [a, b]) (op_box (by rfl) (by rfl)) (by rfl) (by rfl) ?_
  intro b4 w1 hx1 hb4 hB4
  have hl4 := hB4.lt
  refine W.newBlk (d := some 5) (mk := fun b => .pointer (some ⟨b, 0, none⟩)) (cs := o.cs) (op_box (by rfl) (by rfl)) (by rfl) (by rfl) ?_
  intro b5 w2 hx2 hb5 hB5
  have hl5 := hB5.lt
  refine W.newBlk (d := some 6) (mk := fun b => .pointer (some ⟨b, 0, none⟩)) (cs := [.slice none 0 0, .slice none 0 0]) (op_alloc' zRL rfl) (by rfl) (by rfl) ?_
  intro b6 w3 hx3 hb6 hB6
  have hl6 := hB6.lt
  have hB4 := (hB4.x hx2).x hx3
  have hB5 := hB5.x hx3
  have hx03 := (hx1.trans hx2).trans hx3
  have hX3 := hX.trans hx03
  have hw3 := hx03.le
  have h4 : w.heap.size ≤ b4 := hb4
  have h5 : w.heap.size ≤ b5 := by have := hx1.le; omega
  have h6 : w.heap.size ≤ b6 := by have := hx1.le; have := hx2.le; omega
  have hn4 : ¬ O b4 := fun h => by have := (hOlt b4 h).2; omega
  have hn5 : ¬ O b5 := fun h => by have := (hOlt b5 h).2; omega
  have hn6 : ¬ O b6 := fun h => by have := (hOlt b6 h).2; omega
  clear hx1 hx2 hx3 hb4 hb5 hb6 hl4 hl5
  have hA3 := hA.x hx03
  have hR3 : RLt w3 (fun k => ¬ (O k ∨ T k) ∧ k ≠ b6) a b Z := (hR.mono fun k hk hK => (⟨hK, by omega⟩ : ¬ (O k ∨ T k) ∧ k ≠ b6)).x hx03
  have hpod : ∀ (w' : World), Blk w' b5 47 o.cs → ∀ j u, o.pod.cs[j]? = some u → w'.cell? ⟨b5, 0 + 1 + j, none⟩ = some u := fun w' hB j u hj => by rw [Nat.zero_add]; exact hB.cell (o.pod_at j u hj)
  have hlot : ∀ (w' : World) (x y : Value), Blk w' b4 43 [x, y] → ∀ k u, [x, y][k]? = some u → w'.cell? ⟨b4, 0 + k, none⟩ = some u := fun w' x y hB k u hk => by rw [Nat.zero_add]; exact hB.cell hk
  repeat (first
 | (with_reducible first
 | apply CW.seq | apply CW.region | apply CW.block | apply CW.ret | apply CW.skip | apply CW.label | apply CW.exit
 | apply W.nil | apply Fin.seq | apply Fin.then_ret | apply Fin.then_exit | apply Fin.blk_ret | apply Fin.blk_normal | apply Fin.blk_here)
 | (with_reducible first | refine S.move ?_ | refine S.assign ?_ | refine S.pickT ?_ | refine S.pickF ?_ | refine S.lss ?_ | refine S.gtr ?_ | refine S.leq ?_ | refine S.geq ?_ | refine S.eqT ?_ | refine S.neF ?_ | refine S.eql ?_ | refine S.neq ?_ | refine S.add ?_ | refine S.sub ?_ | refine S.mul ?_ | refine S.conv ?_ | refine S.shr1 ?_ | refine S.neg ?_ | refine S.not ?_ | refine S.extract ?_ | refine S.len ?_ | refine S.fld ?_ | refine S.index ?_ | refine S.skp ?_ | refine S.sliceTo ?_ | refine S.sliceFrom ?_ | refine S.eqNil ?_ | refine S.eqbT ?_ | refine S.nebF ?_ | refine S.eqb ?_ | refine S.neb ?_)
 | (with_reducible first | refine S.nc ?_ | refine S.fld ?_ (h1 := fRLP) | refine S.fld ?_ (h1 := fRLR) | refine S.fld ?_ (h1 := fOpKind) | refine S.fld ?_ (h1 := fOpPod) | refine S.fld ?_ (h1 := fOpReason) | refine S.eqP ?_ | refine S.neP ?_)
 | ((with_reducible apply CW.cond_true); exact rfl)
 | ((with_reducible apply CW.cond_false); exact rfl)
 | ((with_reducible apply Fin.blk_far); exact rfl))
  ((with_reducible apply S.ld); exact rfl; (with_reducible first | exact oneInt | exact oneI64s | exact oneBool | exact oneI64 | exact onePods | exact oneMap); (exact hB5.cell rfl); exact rfl; exact rfl)
  repeat (first
 | (with_reducible first
 | apply CW.seq | apply CW.region | apply CW.block | apply CW.ret | apply CW.skip | apply CW.label | apply CW.exit
 | apply W.nil | apply Fin.seq | apply Fin.then_ret | apply Fin.then_exit | apply Fin.blk_ret | apply Fin.blk_normal | apply Fin.blk_here)
 | (with_reducible first | refine S.move ?_ | refine S.assign ?_ | refine S.pickT ?_ | refine S.pickF ?_ | refine S.lss ?_ | refine S.gtr ?_ | refine S.leq ?_ | refine S.geq ?_ | refine S.eqT ?_ | refine S.neF ?_ | refine S.eql ?_ | refine S.neq ?_ | refine S.add ?_ | refine S.sub ?_ | refine S.mul ?_ | refine S.conv ?_ | refine S.shr1 ?_ | refine S.neg ?_ | refine S.not ?_ | refine S.extract ?_ | refine S.len ?_ | refine S.fld ?_ | refine S.index ?_ | refine S.skp ?_ | refine S.sliceTo ?_ | refine S.sliceFrom ?_ | refine S.eqNil ?_ | refine S.eqbT ?_ | refine S.nebF ?_ | refine S.eqb ?_ | refine S.neb ?_)
 | (with_reducible first | refine S.nc ?_ | refine S.fld ?_ (h1 := fRLP) | refine S.fld ?_ (h1 := fRLR) | refine S.fld ?_ (h1 := fOpKind) | refine S.fld ?_ (h1 := fOpPod) | refine S.fld ?_ (h1 := fOpReason) | refine S.eqP ?_ | refine S.neP ?_)
 | ((with_reducible apply CW.cond_true); exact rfl)
 | ((with_reducible apply CW.cond_false); exact rfl)
 | ((with_reducible apply Fin.blk_far); exact rfl))
  refine CW.cond (by rfl) (fun hk => ?_) (fun hk => ?_)
  · -- add
    have hk : o.kind = 0 := of_decide_eq_true hk
    have hstep : stepZ Z o = if okZ Z o.pod.id o.reason then Z ++ [(o.pod, o.reason)] else Z := by unfold stepZ; rw [if_pos hk]
    repeat (first
 | (with_reducible first
 | apply CW.seq | apply CW.region | apply CW.block | apply CW.ret | apply CW.skip | apply CW.label | apply CW.exit
 | apply W.nil | apply Fin.seq | apply Fin.then_ret | apply Fin.then_exit | apply Fin.blk_ret | apply Fin.blk_normal | apply Fin.blk_here)
 | (with_reducible first | refine S.move ?_ | refine S.assign ?_ | refine S.pickT ?_ | refine S.pickF ?_ | refine S.lss ?_ | refine S.gtr ?_ | refine S.leq ?_ | refine S.geq ?_ | refine S.eqT ?_ | refine S.neF ?_ | refine S.eql ?_ | refine S.neq ?_ | refine S.add ?_ | refine S.sub ?_ | refine S.mul ?_ | refine S.conv ?_ | refine S.shr1 ?_ | refine S.neg ?_ | refine S.not ?_ | refine S.extract ?_ | refine S.len ?_ | refine S.fld ?_ | refine S.index ?_ | refine S.skp ?_ | refine S.sliceTo ?_ | refine S.sliceFrom ?_ | refine S.eqNil ?_ | refine S.eqbT ?_ | refine S.nebF ?_ | refine S.eqb ?_ | refine S.neb ?_)
 | (with_reducible first | refine S.nc ?_ | refine S.fld ?_ (h1 := fRLP) | refine S.fld ?_ (h1 := fRLR) | refine S.fld ?_ (h1 := fOpKind) | refine S.fld ?_ (h1 := fOpPod) | refine S.fld ?_ (h1 := fOpReason) | refine S.eqP ?_ | refine S.neP ?_)
 | ((with_reducible apply CW.cond_true); exact rfl)
 | ((with_reducible apply CW.cond_false); exact rfl)
 | ((with_reducible apply Fin.blk_far); exact rfl))
    refine S.lds (cs := [a, b]) (by rfl) stRL (hlot w3 a b hB4) (by rfl) (by rfl) ?_
    repeat (first
 | (with_reducible first
 | apply CW.seq | apply CW.region | apply CW.block | apply CW.ret | apply CW.skip | apply CW.label | apply CW.exit
 | apply W.nil | apply Fin.seq | apply Fin.then_ret | apply Fin.then_exit | apply Fin.blk_ret | apply Fin.blk_normal | apply Fin.blk_here)
 | (with_reducible first | refine S.move ?_ | refine S.assign ?_ | refine S.pickT ?_ | refine S.pickF ?_ | refine S.lss ?_ | refine S.gtr ?_ | refine S.leq ?_ | refine S.geq ?_ | refine S.eqT ?_ | refine S.neF ?_ | refine S.eql ?_ | refine S.neq ?_ | refine S.add ?_ | refine S.sub ?_ | refine S.mul ?_ | refine S.conv ?_ | refine S.shr1 ?_ | refine S.neg ?_ | refine S.not ?_ | refine S.extract ?_ | refine S.len ?_ | refine S.fld ?_ | refine S.index ?_ | refine S.skp ?_ | refine S.sliceTo ?_ | refine S.sliceFrom ?_ | refine S.eqNil ?_ | refine S.eqbT ?_ | refine S.nebF ?_ | refine S.eqb ?_ | refine S.neb ?_)
 | (with_reducible first | refine S.nc ?_ | refine S.fld ?_ (h1 := fRLP) | refine S.fld ?_ (h1 := fRLR) | refine S.fld ?_ (h1 := fOpKind) | refine S.fld ?_ (h1 := fOpPod) | refine S.fld ?_ (h1 := fOpReason) | refine S.eqP ?_ | refine S.neP ?_)
 | ((with_reducible apply CW.cond_true); exact rfl)
 | ((with_reducible apply CW.cond_false); exact rfl)
 | ((with_reducible apply Fin.blk_far); exact rfl))
    refine S.lds (cs := o.pod.cs) (by rfl) stPod (hpod w3 hB5) (by rfl) (by rfl) ?_
    repeat (first
 | (with_reducible first
 | apply CW.seq | apply CW.region | apply CW.block | apply CW.ret | apply CW.skip | apply CW.label | apply CW.exit
 | apply W.nil | apply Fin.seq | apply Fin.then_ret | apply Fin.then_exit | apply Fin.blk_ret | apply Fin.blk_normal | apply Fin.blk_here)
 | (with_reducible first | refine S.move ?_ | refine S.assign ?_ | refine S.pickT ?_ | refine S.pickF ?_ | refine S.lss ?_ | refine S.gtr ?_ | refine S.leq ?_ | refine S.geq ?_ | refine S.eqT ?_ | refine S.neF ?_ | refine S.eql ?_ | refine S.neq ?_ | refine S.add ?_ | refine S.sub ?_ | refine S.mul ?_ | refine S.conv ?_ | refine S.shr1 ?_ | refine S.neg ?_ | refine S.not ?_ | refine S.extract ?_ | refine S.len ?_ | refine S.fld ?_ | refine S.index ?_ | refine S.skp ?_ | refine S.sliceTo ?_ | refine S.sliceFrom ?_ | refine S.eqNil ?_ | refine S.eqbT ?_ | refine S.nebF ?_ | refine S.eqb ?_ | refine S.neb ?_)
 | (with_reducible first | refine S.nc ?_ | refine S.fld ?_ (h1 := fRLP) | refine S.fld ?_ (h1 := fRLR) | refine S.fld ?_ (h1 := fOpKind) | refine S.fld ?_ (h1 := fOpPod) | refine S.fld ?_ (h1 := fOpReason) | refine S.eqP ?_ | refine S.neP ?_)
 | ((with_reducible apply CW.cond_true); exact rfl)
 | ((with_reducible apply CW.cond_false); exact rfl)
 | ((with_reducible apply Fin.blk_far); exact rfl))
    ((with_reducible apply S.ld); exact rfl; (with_reducible first | exact oneInt | exact oneI64s | exact oneBool | exact oneI64 | exact onePods | exact oneMap); (exact hB5.cell rfl); exact rfl; exact rfl)
    refine S.cl (op_call ent29 (by rfl) (by rfl)) (by rfl) (by rfl) (refAdd_calls a b Z o.pod o.reason w3 (hR3.mono fun _ _ _ => trivial) (by omega)) ?_
    rintro v4 w4 ⟨hx4, hv4⟩
    have hv : ∃ a' b', v4 = .tuple #[lotV a' b', .bool (okZ Z o.pod.id o.reason)] ∧ RLt w4 (fun k => ¬ (O k ∨ T k) ∧ k ≠ b6) a' b' (stepZ Z o) := by
      rw [hstep]
      have e0 : (decide (1 ≤ o.reason) && decide (o.reason ≤ 4) && !hasR (Z.map (·.1)) o.pod.id) = okZ Z o.pod.id o.reason := rfl
      rw [e0] at hv4
      cases hok : okZ Z o.pod.id o.reason with
      | true =>
        rw [hok] at hv4
        obtain ⟨a', b', e, h⟩ := hv4
        exact ⟨a', b', e, h.mono fun k _ hk => ⟨fun ho => by
          rcases ho with ho | ho
          · have := (hOlt k ho).2; omega
          · have := hT k ho; omega, by omega⟩⟩
      | false =>
        rw [hok] at hv4
        exact ⟨a, b, hv4, hR3.x hx4⟩
    obtain ⟨a', b', rfl, hR4⟩ := hv
    clear hv4
    obtain ⟨ka1, kb1, ka2, kb2⟩ := hR4.cells
    have hones' : ∀ u ∈ [a', b'], u.oneCell' = true := by simp [ka1, kb1]
    repeat (first
 | (with_reducible first
 | apply CW.seq | apply CW.region | apply CW.block | apply CW.ret | apply CW.skip | apply CW.label | apply CW.exit
 | apply W.nil | apply Fin.seq | apply Fin.then_ret | apply Fin.then_exit | apply Fin.blk_ret | apply Fin.blk_normal | apply Fin.blk_here)
 | (with_reducible first | refine S.move ?_ | refine S.assign ?_ | refine S.pickT ?_ | refine S.pickF ?_ | refine S.lss ?_ | refine S.gtr ?_ | refine S.leq ?_ | refine S.geq ?_ | refine S.eqT ?_ | refine S.neF ?_ | refine S.eql ?_ | refine S.neq ?_ | refine S.add ?_ | refine S.sub ?_ | refine S.mul ?_ | refine S.conv ?_ | refine S.shr1 ?_ | refine S.neg ?_ | refine S.not ?_ | refine S.extract ?_ | refine S.len ?_ | refine S.fld ?_ | refine S.index ?_ | refine S.skp ?_ | refine S.sliceTo ?_ | refine S.sliceFrom ?_ | refine S.eqNil ?_ | refine S.eqbT ?_ | refine S.nebF ?_ | refine S.eqb ?_ | refine S.neb ?_)
 | (with_reducible first | refine S.nc ?_ | refine S.fld ?_ (h1 := fRLP) | refine S.fld ?_ (h1 := fRLR) | refine S.fld ?_ (h1 := fOpKind) | refine S.fld ?_ (h1 := fOpPod) | refine S.fld ?_ (h1 := fOpReason) | refine S.eqP ?_ | refine S.neP ?_)
 | ((with_reducible apply CW.cond_true); exact rfl)
 | ((with_reducible apply CW.cond_false); exact rfl)
 | ((with_reducible apply Fin.blk_far); exact rfl))
    refine W.newBlk (d := some 8) (mk := fun b => .pointer (some ⟨b, 0, none⟩)) (cs := [.slice none 0 0, .slice none 0 0]) (op_alloc' zRL rfl) (by rfl) (by rfl) ?_
    intro b8 w5 hx5 hb8 hB8
    refine S.stB (vs := [a', b']) (by rfl) (by rfl) rfl hB8 rfl szRL hones' (by rfl) ?_
    intro w6 hg6 hB8
    have hx6 : X w4 w6 := below_g hx5 hg6 hx5.le hb8
    have hx36 := hx4.trans hx6
    have hX6 := hX3.trans hx36
    have hn8 : ¬ O b8 := fun h => by have := (hOlt b8 h).2; have := hx4.le; omega
    have hA6 := hA3.x hx36
    have hR6 := hR4.x hx6
    have hB5 := hB5.x hx36
    have hB6 := hB6.x hx36
    have hl6' : b6 < w6.heap.size := hB6.lt
    clear hx5 hg6 hB4 hR4 hA3 hR3
    repeat (first
 | (with_reducible first
 | apply CW.seq | apply CW.region | apply CW.block | apply CW.ret | apply CW.skip | apply CW.label | apply CW.exit
 | apply W.nil | apply Fin.seq | apply Fin.then_ret | apply Fin.then_exit | apply Fin.blk_ret | apply Fin.blk_normal | apply Fin.blk_here)
 | (with_reducible first | refine S.move ?_ | refine S.assign ?_ | refine S.pickT ?_ | refine S.pickF ?_ | refine S.lss ?_ | refine S.gtr ?_ | refine S.leq ?_ | refine S.geq ?_ | refine S.eqT ?_ | refine S.neF ?_ | refine S.eql ?_ | refine S.neq ?_ | refine S.add ?_ | refine S.sub ?_ | refine S.mul ?_ | refine S.conv ?_ | refine S.shr1 ?_ | refine S.neg ?_ | refine S.not ?_ | refine S.extract ?_ | refine S.len ?_ | refine S.fld ?_ | refine S.index ?_ | refine S.skp ?_ | refine S.sliceTo ?_ | refine S.sliceFrom ?_ | refine S.eqNil ?_ | refine S.eqbT ?_ | refine S.nebF ?_ | refine S.eqb ?_ | refine S.neb ?_)
 | (with_reducible first | refine S.nc ?_ | refine S.fld ?_ (h1 := fRLP) | refine S.fld ?_ (h1 := fRLR) | refine S.fld ?_ (h1 := fOpKind) | refine S.fld ?_ (h1 := fOpPod) | refine S.fld ?_ (h1 := fOpReason) | refine S.eqP ?_ | refine S.neP ?_)
 | ((with_reducible apply CW.cond_true); exact rfl)
 | ((with_reducible apply CW.cond_false); exact rfl)
 | ((with_reducible apply Fin.blk_far); exact rfl))
    refine wp_factsC (R := SF O) (c := 6) (fun w' => w' = { w6 with drawn := w6.drawn + 1 }) (fun w' => ∃ O', LA w' wb.heap.size b0 O' ((stepZ Z o).map (abZ wb)) ∧ FO O O' w6 w') (pu := [1, 2, 4, 7]) (front := [0, 3, 5, 6, 8]) (lp := [8]) (al := [6]) (tail := [9, 10]) (by kernel_rfl) (by rfl) (by rfl) rfl mixed (by kernel_rfl) (by (repeat (first | with_reducible exact NoPanic.post_ | with_reducible apply NoPanic.then_ | with_reducible apply NoPanic.blk))) (SF.refl O) (fun _ _ _ => SF.trans) (SF.of_x (X.drew _)) ?_
    repeat ((with_reducible refine TP.step ?_); first
      | (with_reducible first | refine E.move ?_ | refine E.assign ?_ | refine E.pickT ?_ | refine E.pickF ?_ | refine E.lss ?_ | refine E.gtr ?_ | refine E.leq ?_ | refine E.geq ?_ | refine E.eqT ?_ | refine E.neF ?_ | refine E.eql ?_ | refine E.neq ?_ | refine E.add ?_ | refine E.sub ?_ | refine E.mul ?_ | refine E.conv ?_ | refine E.shr1 ?_ | refine E.neg ?_ | refine E.not ?_ | refine E.extract ?_ | refine E.len ?_ | refine E.fld ?_ | refine E.index ?_ | refine E.skp ?_ | refine E.sliceTo ?_ | refine E.sliceFrom ?_ | refine E.eqNil ?_ | refine E.eqbT ?_ | refine E.nebF ?_ | refine E.eqb ?_ | refine E.neb ?_)
      | (with_reducible first | refine E.nc ?_ | refine E.fld ?_ (h1 := fRLP) | refine E.fld ?_ (h1 := fRLR) | refine E.fld ?_ (h1 := fOpKind) | refine E.fld ?_ (h1 := fOpPod) | refine E.fld ?_ (h1 := fOpReason)))
    refine TP.done ?_
    refine TG.step ?_
    refine TG.lds (cs := [a', b']) (by rfl) stRL (fun w' hr k u hk => by rw [Nat.zero_add]; exact (hr.blk hB8 hn8).cell hk) (by decide) (by rfl) (by rfl) (by rfl) ?_
    refine TG.step ?_
    refine TG.lds (cs := o.pod.cs) (by rfl) stPod (fun w' hr => hpod w' (hr.blk hB5 hn5)) (by decide) (by rfl) (by rfl) (by rfl) ?_
    refine TG.step ?_
    refine TG.ld (by rfl) oneInt (fun w' hr => (hr.blk hB5 hn5).cell rfl) (by decide) (by rfl) (by rfl) (by rfl) ?_
    refine TG.step ?_
    refine TG.cl (.det (.bool (okZ Z o.pod.id o.reason))) (by rfl) (op_call ent11 (by rfl) (by rfl)) (by rfl) (by rfl) (by rfl) (by rfl) (fun w' hr h1 => ?_) ?_
    · subst h1
      refine (lAdd_calls wb.heap.size b0 O _ o.pod o.reason _ (hA6.x (X.drew _)) ((ho.x (hX6.trans (X.drew _))).mono fun _ _ _ => trivial)).mono fun u w'' h => ?_
      obtain ⟨e, O', h2, h3⟩ := h
      rw [okZ_map] at e
      rw [ho.abx (hX6.trans (X.drew _)), addZ, ← hstep] at h2
      exact ⟨e, h3.sf, O', h2, (FO.of_x (X.drew _)).trans h3⟩
    refine TG.step ?_
    refine TG.stepP ?_ (by decide)
    (first
      | (with_reducible first | refine E.move ?_ | refine E.assign ?_ | refine E.pickT ?_ | refine E.pickF ?_ | refine E.lss ?_ | refine E.gtr ?_ | refine E.leq ?_ | refine E.geq ?_ | refine E.eqT ?_ | refine E.neF ?_ | refine E.eql ?_ | refine E.neq ?_ | refine E.add ?_ | refine E.sub ?_ | refine E.mul ?_ | refine E.conv ?_ | refine E.shr1 ?_ | refine E.neg ?_ | refine E.not ?_ | refine E.extract ?_ | refine E.len ?_ | refine E.fld ?_ | refine E.index ?_ | refine E.skp ?_ | refine E.sliceTo ?_ | refine E.sliceFrom ?_ | refine E.eqNil ?_ | refine E.eqbT ?_ | refine E.nebF ?_ | refine E.eqb ?_ | refine E.neb ?_)
      | (with_reducible first | refine E.nc ?_ | refine E.fld ?_ (h1 := fRLP) | refine E.fld ?_ (h1 := fRLR) | refine E.fld ?_ (h1 := fOpKind) | refine E.fld ?_ (h1 := fOpPod) | refine E.fld ?_ (h1 := fOpReason)))
    refine TP.done ?_
    refine TG.back ?_
    refine TC.tail2 (by rfl) (by rfl) fun w7 h7 => ?_
    obtain ⟨hS7, O', hA7, hF7⟩ := h7
    have hno' : ∀ k, k < w6.heap.size → ¬ O k → ¬ O' k := fun k hk hn ho => hn (hF7.own k hk ho)
    have hB67 := hS7.blk hB6 hn6
    refine S.stB (vs := [a', b']) (by rfl) (by rfl) rfl hB67 rfl szRL hones' (by rfl) ?_
    intro w8 hg8 hB68
    have hR7 := hR6.fo hF7 (fun k h ho => h.1 (.inl ho))
    repeat (first
 | (with_reducible first
 | apply CW.seq | apply CW.region | apply CW.block | apply CW.ret | apply CW.skip | apply CW.label | apply CW.exit
 | apply W.nil | apply Fin.seq | apply Fin.then_ret | apply Fin.then_exit | apply Fin.blk_ret | apply Fin.blk_normal | apply Fin.blk_here)
 | (with_reducible first | refine S.move ?_ | refine S.assign ?_ | refine S.pickT ?_ | refine S.pickF ?_ | refine S.lss ?_ | refine S.gtr ?_ | refine S.leq ?_ | refine S.geq ?_ | refine S.eqT ?_ | refine S.neF ?_ | refine S.eql ?_ | refine S.neq ?_ | refine S.add ?_ | refine S.sub ?_ | refine S.mul ?_ | refine S.conv ?_ | refine S.shr1 ?_ | refine S.neg ?_ | refine S.not ?_ | refine S.extract ?_ | refine S.len ?_ | refine S.fld ?_ | refine S.index ?_ | refine S.skp ?_ | refine S.sliceTo ?_ | refine S.sliceFrom ?_ | refine S.eqNil ?_ | refine S.eqbT ?_ | refine S.nebF ?_ | refine S.eqb ?_ | refine S.neb ?_)
 | (with_reducible first | refine S.nc ?_ | refine S.fld ?_ (h1 := fRLP) | refine S.fld ?_ (h1 := fRLR) | refine S.fld ?_ (h1 := fOpKind) | refine S.fld ?_ (h1 := fOpPod) | refine S.fld ?_ (h1 := fOpReason) | refine S.eqP ?_ | refine S.neP ?_)
 | ((with_reducible apply CW.cond_true); exact rfl)
 | ((with_reducible apply CW.cond_false); exact rfl)
 | ((with_reducible apply Fin.blk_far); exact rfl))
    refine R.c2 rfl (by rfl) (by rfl) hB68 stRL ⟨a', b', O', rfl, hA7.g hg8 (hno' b6 hl6' hn6), ((FO.of_x (hx03.trans hx36)).trans hF7).g hg8 h6, ?_⟩
    exact (hR7.keep fun k hk hK => hg8.block k hk (by intro e; cases e; exact hK.2.2 rfl)).mono fun k _ h ho => ho.elim h.1 fun t => h.2.1 (.inr t)
  have hk0 : o.kind ≠ 0 := of_decide_eq_false hk
  clear hk
  repeat (first
 | (with_reducible first
 | apply CW.seq | apply CW.region | apply CW.block | apply CW.ret | apply CW.skip | apply CW.label | apply CW.exit
 | apply W.nil | apply Fin.seq | apply Fin.then_ret | apply Fin.then_exit | apply Fin.blk_ret | apply Fin.blk_normal | apply Fin.blk_here)
 | (with_reducible first | refine S.move ?_ | refine S.assign ?_ | refine S.pickT ?_ | refine S.pickF ?_ | refine S.lss ?_ | refine S.gtr ?_ | refine S.leq ?_ | refine S.geq ?_ | refine S.eqT ?_ | refine S.neF ?_ | refine S.eql ?_ | refine S.neq ?_ | refine S.add ?_ | refine S.sub ?_ | refine S.mul ?_ | refine S.conv ?_ | refine S.shr1 ?_ | refine S.neg ?_ | refine S.not ?_ | refine S.extract ?_ | refine S.len ?_ | refine S.fld ?_ | refine S.index ?_ | refine S.skp ?_ | refine S.sliceTo ?_ | refine S.sliceFrom ?_ | refine S.eqNil ?_ | refine S.eqbT ?_ | refine S.nebF ?_ | refine S.eqb ?_ | refine S.neb ?_)
 | (with_reducible first | refine S.nc ?_ | refine S.fld ?_ (h1 := fRLP) | refine S.fld ?_ (h1 := fRLR) | refine S.fld ?_ (h1 := fOpKind) | refine S.fld ?_ (h1 := fOpPod) | refine S.fld ?_ (h1 := fOpReason) | refine S.eqP ?_ | refine S.neP ?_)
 | ((with_reducible apply CW.cond_true); exact rfl)
 | ((with_reducible apply CW.cond_false); exact rfl)
 | ((with_reducible apply Fin.blk_far); exact rfl))
  refine CW.cond (by rfl) (fun hk => ?_) (fun hk => ?_)
  · -- remove
    have hk1 : o.kind = 1 := of_decide_eq_true hk
    clear hk
    have hstep : stepZ Z o = keepZ Z o.pod.id := by unfold stepZ; rw [if_neg hk0, if_pos hk1]
    have hid : w3.cell? ⟨b5, 0 + 1 + 0, none⟩ = some (.int .i64 o.pod.id) := hpod w3 hB5 0 _ rfl
    have hps := hR3.ps.ps
    have hl1 : (Z.map (·.1)).length = Z.length := by simp
    have hzp : ∀ p ∈ Z.map (·.1), RK wb (· < wb.heap.size) p := fun p hp => by
      obtain ⟨z, hz1, rfl⟩ := List.mem_map.1 hp
      exact (hz z hz1).1
    repeat (first
 | (with_reducible first
 | apply CW.seq | apply CW.region | apply CW.block | apply CW.ret | apply CW.skip | apply CW.label | apply CW.exit
 | apply W.nil | apply Fin.seq | apply Fin.then_ret | apply Fin.then_exit | apply Fin.blk_ret | apply Fin.blk_normal | apply Fin.blk_here)
 | (with_reducible first | refine S.move ?_ | refine S.assign ?_ | refine S.pickT ?_ | refine S.pickF ?_ | refine S.lss ?_ | refine S.gtr ?_ | refine S.leq ?_ | refine S.geq ?_ | refine S.eqT ?_ | refine S.neF ?_ | refine S.eql ?_ | refine S.neq ?_ | refine S.add ?_ | refine S.sub ?_ | refine S.mul ?_ | refine S.conv ?_ | refine S.shr1 ?_ | refine S.neg ?_ | refine S.not ?_ | refine S.extract ?_ | refine S.len ?_ | refine S.fld ?_ | refine S.index ?_ | refine S.skp ?_ | refine S.sliceTo ?_ | refine S.sliceFrom ?_ | refine S.eqNil ?_ | refine S.eqbT ?_ | refine S.nebF ?_ | refine S.eqb ?_ | refine S.neb ?_)
 | (with_reducible first | refine S.nc ?_ | refine S.fld ?_ (h1 := fRLP) | refine S.fld ?_ (h1 := fRLR) | refine S.fld ?_ (h1 := fOpKind) | refine S.fld ?_ (h1 := fOpPod) | refine S.fld ?_ (h1 := fOpReason) | refine S.eqP ?_ | refine S.neP ?_)
 | ((with_reducible apply CW.cond_true); exact rfl)
 | ((with_reducible apply CW.cond_false); exact rfl)
 | ((with_reducible apply Fin.blk_far); exact rfl))
    refine S.ld (by rfl) onePods (hB4.cell rfl) (by rfl) (by rfl) ?_
    repeat (first
 | (with_reducible first
 | apply CW.seq | apply CW.region | apply CW.block | apply CW.ret | apply CW.skip | apply CW.label | apply CW.exit
 | apply W.nil | apply Fin.seq | apply Fin.then_ret | apply Fin.then_exit | apply Fin.blk_ret | apply Fin.blk_normal | apply Fin.blk_here)
 | (with_reducible first | refine S.move ?_ | refine S.assign ?_ | refine S.pickT ?_ | refine S.pickF ?_ | refine S.lss ?_ | refine S.gtr ?_ | refine S.leq ?_ | refine S.geq ?_ | refine S.eqT ?_ | refine S.neF ?_ | refine S.eql ?_ | refine S.neq ?_ | refine S.add ?_ | refine S.sub ?_ | refine S.mul ?_ | refine S.conv ?_ | refine S.shr1 ?_ | refine S.neg ?_ | refine S.not ?_ | refine S.extract ?_ | refine S.len ?_ | refine S.fld ?_ | refine S.index ?_ | refine S.skp ?_ | refine S.sliceTo ?_ | refine S.sliceFrom ?_ | refine S.eqNil ?_ | refine S.eqbT ?_ | refine S.nebF ?_ | refine S.eqb ?_ | refine S.neb ?_)
 | (with_reducible first | refine S.nc ?_ | refine S.fld ?_ (h1 := fRLP) | refine S.fld ?_ (h1 := fRLR) | refine S.fld ?_ (h1 := fOpKind) | refine S.fld ?_ (h1 := fOpPod) | refine S.fld ?_ (h1 := fOpReason) | refine S.eqP ?_ | refine S.neP ?_)
 | ((with_reducible apply CW.cond_true); exact rfl)
 | ((with_reducible apply CW.cond_false); exact rfl)
 | ((with_reducible apply Fin.blk_far); exact rfl))
    ((with_reducible apply S.ld); exact rfl; (with_reducible first | exact oneInt | exact oneI64s | exact oneBool | exact oneI64 | exact onePods | exact oneMap); (exact hid); exact rfl; exact rfl)
    refine S.cl (op_call ent23 (by rfl) (by rfl)) (by rfl) (by rfl) (Find_calls a _ o.pod.id w3 hps (by omega)) ?_
    rintro _ w4 ⟨rfl, rfl⟩
    repeat (first
 | (with_reducible first
 | apply CW.seq | apply CW.region | apply CW.block | apply CW.ret | apply CW.skip | apply CW.label | apply CW.exit
 | apply W.nil | apply Fin.seq | apply Fin.then_ret | apply Fin.then_exit | apply Fin.blk_ret | apply Fin.blk_normal | apply Fin.blk_here)
 | (with_reducible first | refine S.move ?_ | refine S.assign ?_ | refine S.pickT ?_ | refine S.pickF ?_ | refine S.lss ?_ | refine S.gtr ?_ | refine S.leq ?_ | refine S.geq ?_ | refine S.eqT ?_ | refine S.neF ?_ | refine S.eql ?_ | refine S.neq ?_ | refine S.add ?_ | refine S.sub ?_ | refine S.mul ?_ | refine S.conv ?_ | refine S.shr1 ?_ | refine S.neg ?_ | refine S.not ?_ | refine S.extract ?_ | refine S.len ?_ | refine S.fld ?_ | refine S.index ?_ | refine S.skp ?_ | refine S.sliceTo ?_ | refine S.sliceFrom ?_ | refine S.eqNil ?_ | refine S.eqbT ?_ | refine S.nebF ?_ | refine S.eqb ?_ | refine S.neb ?_)
 | (with_reducible first | refine S.nc ?_ | refine S.fld ?_ (h1 := fRLP) | refine S.fld ?_ (h1 := fRLR) | refine S.fld ?_ (h1 := fOpKind) | refine S.fld ?_ (h1 := fOpPod) | refine S.fld ?_ (h1 := fOpReason) | refine S.eqP ?_ | refine S.neP ?_)
 | ((with_reducible apply CW.cond_true); exact rfl)
 | ((with_reducible apply CW.cond_false); exact rfl)
 | ((with_reducible apply Fin.blk_far); exact rfl))
    refine W.pure (d := some 44) (v := PV.zero.v) (op_build (by rfl) built_pod0) (by rfl) (by rfl) ?_
    refine W.newBlk (d := some 11) (mk := fun b => .pointer (some ⟨b, 0, none⟩)) (cs := PV.zero.cs) (op_alloc' zPod rfl) (by rfl) (by rfl) ?_
    intro b11 w5 hx5 hb11 hB11
    refine S.stB (vs := PV.zero.cs) (by rfl) (by rfl) rfl hB11 rfl szPod9 PV.zero.one (by rfl) ?_
    intro w6 hg6 hB11
    have hx6 : X w4 w6 := below_g hx5 hg6 hx5.le hb11
    have hn11 : ¬ O b11 := fun h => by have := (hOlt b11 h).2; omega
    have h611 : b6 ≠ b11 := by omega
    have h411 : b4 ≠ b11 := by have := hB4.lt; omega
    have h511 : b5 ≠ b11 := by have := hB5.lt; omega
    have h11 : w.heap.size ≤ b11 := by omega
    have hA6 := hA3.x hx6
    have hR6 : RLt w6 (fun k => (¬ (O k ∨ T k) ∧ k ≠ b6) ∧ k ≠ b11) a b Z := (hR3.mono fun k hk hK => (⟨hK, by omega⟩ : (¬ (O k ∨ T k) ∧ k ≠ b6) ∧ k ≠ b11)).x hx6
    have hB46 := hB4.x hx6
    have hB56 := hB5.x hx6
    have hB66 := hB6.x hx6
    have hx06 := hx03.trans hx6
    clear hx5 hg6 hA3 hR3 hB4 hB5 hB6 hps hid
    have hfind := findZ_map wb Z o.pod.id
    have hhas : hasL (Z.map (abZ wb)) o.pod.id = hasR (Z.map (·.1)) o.pod.id := (absZ wb Z).has _
    have hfh := findR_has (Z.map (·.1)) o.pod.id
    repeat (first
 | (with_reducible first
 | apply CW.seq | apply CW.region | apply CW.block | apply CW.ret | apply CW.skip | apply CW.label | apply CW.exit
 | apply W.nil | apply Fin.seq | apply Fin.then_ret | apply Fin.then_exit | apply Fin.blk_ret | apply Fin.blk_normal | apply Fin.blk_here)
 | (with_reducible first | refine S.move ?_ | refine S.assign ?_ | refine S.pickT ?_ | refine S.pickF ?_ | refine S.lss ?_ | refine S.gtr ?_ | refine S.leq ?_ | refine S.geq ?_ | refine S.eqT ?_ | refine S.neF ?_ | refine S.eql ?_ | refine S.neq ?_ | refine S.add ?_ | refine S.sub ?_ | refine S.mul ?_ | refine S.conv ?_ | refine S.shr1 ?_ | refine S.neg ?_ | refine S.not ?_ | refine S.extract ?_ | refine S.len ?_ | refine S.fld ?_ | refine S.index ?_ | refine S.skp ?_ | refine S.sliceTo ?_ | refine S.sliceFrom ?_ | refine S.eqNil ?_ | refine S.eqbT ?_ | refine S.nebF ?_ | refine S.eqb ?_ | refine S.neb ?_)
 | (with_reducible first | refine S.nc ?_ | refine S.fld ?_ (h1 := fRLP) | refine S.fld ?_ (h1 := fRLR) | refine S.fld ?_ (h1 := fOpKind) | refine S.fld ?_ (h1 := fOpPod) | refine S.fld ?_ (h1 := fOpReason) | refine S.eqP ?_ | refine S.neP ?_)
 | ((with_reducible apply CW.cond_true); exact rfl)
 | ((with_reducible apply CW.cond_false); exact rfl)
 | ((with_reducible apply Fin.blk_far); exact rfl))
    rcases findR_spec (Z.map (·.1)) o.pod.id with ⟨i, hi, e1, e2, e3⟩ | ⟨e1, e2⟩
    · have hfp := foundP_some hi e2 e3
      have hpm : (Z.map (·.1))[i] ∈ Z.map (·.1) := List.getElem_mem hi
      have hpi : (Z.map (·.1))[i]? = some (Z.map (·.1))[i] := List.getElem?_eq_getElem hi
      have hhr : hasR (Z.map (·.1)) o.pod.id = true := by
        rw [e1, decide_eq_false (by omega)] at hfh
        simpa using hfh
      rw [hhr] at hhas
      have hwrk := hzp _ hpm
      rw [e1]
      obtain ⟨A, c, hav, hc, hat⟩ := hR6.ps.ps.open_
      obtain ⟨bw, ow, rfl, hbw, hcell⟩ := hat i hi
      generalize (Z.map (·.1))[i] = q at *
      refine CW.cond (by rfl) (fun hcd => ?_) (fun hcd => absurd (of_decide_eq_false hcd) (by omega))
      have hgeq : decide (0 ≤ (i : Int)) = true := hcd
      subst hav
      repeat (first
 | (with_reducible first
 | apply CW.seq | apply CW.region | apply CW.block | apply CW.ret | apply CW.skip | apply CW.label | apply CW.exit
 | apply W.nil | apply Fin.seq | apply Fin.then_ret | apply Fin.then_exit | apply Fin.blk_ret | apply Fin.blk_normal | apply Fin.blk_here)
 | (with_reducible first | refine S.move ?_ | refine S.assign ?_ | refine S.pickT ?_ | refine S.pickF ?_ | refine S.lss ?_ | refine S.gtr ?_ | refine S.leq ?_ | refine S.geq ?_ | refine S.eqT ?_ | refine S.neF ?_ | refine S.eql ?_ | refine S.neq ?_ | refine S.add ?_ | refine S.sub ?_ | refine S.mul ?_ | refine S.conv ?_ | refine S.shr1 ?_ | refine S.neg ?_ | refine S.not ?_ | refine S.extract ?_ | refine S.len ?_ | refine S.fld ?_ | refine S.index ?_ | refine S.skp ?_ | refine S.sliceTo ?_ | refine S.sliceFrom ?_ | refine S.eqNil ?_ | refine S.eqbT ?_ | refine S.nebF ?_ | refine S.eqb ?_ | refine S.neb ?_)
 | (with_reducible first | refine S.nc ?_ | refine S.fld ?_ (h1 := fRLP) | refine S.fld ?_ (h1 := fRLR) | refine S.fld ?_ (h1 := fOpKind) | refine S.fld ?_ (h1 := fOpPod) | refine S.fld ?_ (h1 := fOpReason) | refine S.eqP ?_ | refine S.neP ?_)
 | ((with_reducible apply CW.cond_true); exact rfl)
 | ((with_reducible apply CW.cond_false); exact rfl)
 | ((with_reducible apply Fin.blk_far); exact rfl))
      refine S.ld (by rfl) onePods (hB46.cell rfl) (by rfl) (by rfl) ?_
      repeat (first
 | (with_reducible first
 | apply CW.seq | apply CW.region | apply CW.block | apply CW.ret | apply CW.skip | apply CW.label | apply CW.exit
 | apply W.nil | apply Fin.seq | apply Fin.then_ret | apply Fin.then_exit | apply Fin.blk_ret | apply Fin.blk_normal | apply Fin.blk_here)
 | (with_reducible first | refine S.move ?_ | refine S.assign ?_ | refine S.pickT ?_ | refine S.pickF ?_ | refine S.lss ?_ | refine S.gtr ?_ | refine S.leq ?_ | refine S.geq ?_ | refine S.eqT ?_ | refine S.neF ?_ | refine S.eql ?_ | refine S.neq ?_ | refine S.add ?_ | refine S.sub ?_ | refine S.mul ?_ | refine S.conv ?_ | refine S.shr1 ?_ | refine S.neg ?_ | refine S.not ?_ | refine S.extract ?_ | refine S.len ?_ | refine S.fld ?_ | refine S.index ?_ | refine S.skp ?_ | refine S.sliceTo ?_ | refine S.sliceFrom ?_ | refine S.eqNil ?_ | refine S.eqbT ?_ | refine S.nebF ?_ | refine S.eqb ?_ | refine S.neb ?_)
 | (with_reducible first | refine S.nc ?_ | refine S.fld ?_ (h1 := fRLP) | refine S.fld ?_ (h1 := fRLR) | refine S.fld ?_ (h1 := fOpKind) | refine S.fld ?_ (h1 := fOpPod) | refine S.fld ?_ (h1 := fOpReason) | refine S.eqP ?_ | refine S.neP ?_)
 | ((with_reducible apply CW.cond_true); exact rfl)
 | ((with_reducible apply CW.cond_false); exact rfl)
 | ((with_reducible apply Fin.blk_far); exact rfl))
      refine S.lds (cs := q.cs) (by rfl) stPod (fun j u hj => hcell i q j u hpi hj) (by rfl) (by rfl) ?_
      refine S.stB (vs := q.cs) (by rfl) (by rfl) rfl hB11 rfl szPod9 q.one (by rfl) ?_
      intro w7 hg7 hB11
      have hx67 : X w w7 := below_g hx06 hg7 hx06.le h11
      have hX7 := hX.trans hx67
      have hA7 := hA6.g hg7 hn11
      have hR7 := hR6.keep fun k hk hK => hg7.block k hk (by intro e; cases e; exact hK.2 rfl)
      have hB47 := (show G b11 w6 w7 from hg7).blk hB46 h411
      have hB57 := (show G b11 w6 w7 from hg7).blk hB56 h511
      have hB67 := (show G b11 w6 w7 from hg7).blk hB66 h611
      clear hA6 hR6 hB46 hB56 hB66 hg7 hcell hat
      have hid7 : w7.cell? ⟨b5, 0 + 1 + 0, none⟩ = some (.int .i64 o.pod.id) := hpod w7 hB57 0 _ rfl
      have hw7 := hx67.le
      repeat (first
 | (with_reducible first
 | apply CW.seq | apply CW.region | apply CW.block | apply CW.ret | apply CW.skip | apply CW.label | apply CW.exit
 | apply W.nil | apply Fin.seq | apply Fin.then_ret | apply Fin.then_exit | apply Fin.blk_ret | apply Fin.blk_normal | apply Fin.blk_here)
 | (with_reducible first | refine S.move ?_ | refine S.assign ?_ | refine S.pickT ?_ | refine S.pickF ?_ | refine S.lss ?_ | refine S.gtr ?_ | refine S.leq ?_ | refine S.geq ?_ | refine S.eqT ?_ | refine S.neF ?_ | refine S.eql ?_ | refine S.neq ?_ | refine S.add ?_ | refine S.sub ?_ | refine S.mul ?_ | refine S.conv ?_ | refine S.shr1 ?_ | refine S.neg ?_ | refine S.not ?_ | refine S.extract ?_ | refine S.len ?_ | refine S.fld ?_ | refine S.index ?_ | refine S.skp ?_ | refine S.sliceTo ?_ | refine S.sliceFrom ?_ | refine S.eqNil ?_ | refine S.eqbT ?_ | refine S.nebF ?_ | refine S.eqb ?_ | refine S.neb ?_)
 | (with_reducible first | refine S.nc ?_ | refine S.fld ?_ (h1 := fRLP) | refine S.fld ?_ (h1 := fRLR) | refine S.fld ?_ (h1 := fOpKind) | refine S.fld ?_ (h1 := fOpPod) | refine S.fld ?_ (h1 := fOpReason) | refine S.eqP ?_ | refine S.neP ?_)
 | ((with_reducible apply CW.cond_true); exact rfl)
 | ((with_reducible apply CW.cond_false); exact rfl)
 | ((with_reducible apply Fin.blk_far); exact rfl))
      ((with_reducible apply S.ld); exact rfl; (with_reducible first | exact oneInt | exact oneI64s | exact oneBool | exact oneI64 | exact onePods | exact oneMap); (exact hid7); exact rfl; exact rfl)
      refine S.cl (op_call ent30 (by rfl) (by rfl)) (by rfl) (by rfl) (lRemove_calls wb.heap.size b0 O _ o.pod.id w7 hA7) ?_
      rintro _ w8 ⟨⟨p, rfl, hrp, hap⟩, hA8, hF8⟩
      rw [hhas]
      rw [keepZ_map, ← hstep] at hA8
      rw [hfind, hfp] at hap
      have hX8 : X wb w8 := hF8.xx hX7 fun k h => (hOlt k h).1
      have hR8 := hR7.fo hF8 (fun k h ho => h.1.1 (.inl ho))
      have hB48 := hF8.blk hB47 hn4
      have hB58 := hF8.blk hB57 hn5
      have hB68 := hF8.blk hB67 hn6
      have hB118 := hF8.blk hB11 hn11
      have hw8 := hF8.size
      clear hA7 hR7 hB47 hB57 hB67 hB11 hid7
      repeat (first
 | (with_reducible first
 | apply CW.seq | apply CW.region | apply CW.block | apply CW.ret | apply CW.skip | apply CW.label | apply CW.exit
 | apply W.nil | apply Fin.seq | apply Fin.then_ret | apply Fin.then_exit | apply Fin.blk_ret | apply Fin.blk_normal | apply Fin.blk_here)
 | (with_reducible first | refine S.move ?_ | refine S.assign ?_ | refine S.pickT ?_ | refine S.pickF ?_ | refine S.lss ?_ | refine S.gtr ?_ | refine S.leq ?_ | refine S.geq ?_ | refine S.eqT ?_ | refine S.neF ?_ | refine S.eql ?_ | refine S.neq ?_ | refine S.add ?_ | refine S.sub ?_ | refine S.mul ?_ | refine S.conv ?_ | refine S.shr1 ?_ | refine S.neg ?_ | refine S.not ?_ | refine S.extract ?_ | refine S.len ?_ | refine S.fld ?_ | refine S.index ?_ | refine S.skp ?_ | refine S.sliceTo ?_ | refine S.sliceFrom ?_ | refine S.eqNil ?_ | refine S.eqbT ?_ | refine S.nebF ?_ | refine S.eqb ?_ | refine S.neb ?_)
 | (with_reducible first | refine S.nc ?_ | refine S.fld ?_ (h1 := fRLP) | refine S.fld ?_ (h1 := fRLR) | refine S.fld ?_ (h1 := fOpKind) | refine S.fld ?_ (h1 := fOpPod) | refine S.fld ?_ (h1 := fOpReason) | refine S.eqP ?_ | refine S.neP ?_)
 | ((with_reducible apply CW.cond_true); exact rfl)
 | ((with_reducible apply CW.cond_false); exact rfl)
 | ((with_reducible apply Fin.blk_far); exact rfl))
      refine W.newBlk (d := some 12) (mk := fun b => .pointer (some ⟨b, 0, none⟩)) (cs := PV.zero.cs) (op_alloc' zPod rfl) (by rfl) (by rfl) ?_
      intro b12 w9 hx9 hb12 hB12
      refine S.stB (vs := p.cs) (by rfl) (by rfl) rfl hB12 rfl szPod9 p.one (by rfl) ?_
      intro w10 hg10 hB12
      have hx10 : X w8 w10 := below_g hx9 hg10 hx9.le hb12
      have hX10 := hX8.trans hx10
      have hA10 := hA8.x hx10
      have hR10 := hR8.x hx10
      have hB410 := hB48.x hx10
      have hB510 := hB58.x hx10
      have hB610 := hB68.x hx10
      have hB1110 := hB118.x hx10
      have hrp10 := hrp.x hx10
      have hap10 := (hrp.abx hx10).trans hap
      clear hA8 hR8 hB48 hB58 hB68 hB118 hg10 hx9
      have hid10 : w10.cell? ⟨b5, 0 + 1 + 0, none⟩ = some (.int .i64 o.pod.id) := hpod w10 hB510 0 _ rfl
      repeat (first
 | (with_reducible first
 | apply CW.seq | apply CW.region | apply CW.block | apply CW.ret | apply CW.skip | apply CW.label | apply CW.exit
 | apply W.nil | apply Fin.seq | apply Fin.then_ret | apply Fin.then_exit | apply Fin.blk_ret | apply Fin.blk_normal | apply Fin.blk_here)
 | (with_reducible first | refine S.move ?_ | refine S.assign ?_ | refine S.pickT ?_ | refine S.pickF ?_ | refine S.lss ?_ | refine S.gtr ?_ | refine S.leq ?_ | refine S.geq ?_ | refine S.eqT ?_ | refine S.neF ?_ | refine S.eql ?_ | refine S.neq ?_ | refine S.add ?_ | refine S.sub ?_ | refine S.mul ?_ | refine S.conv ?_ | refine S.shr1 ?_ | refine S.neg ?_ | refine S.not ?_ | refine S.extract ?_ | refine S.len ?_ | refine S.fld ?_ | refine S.index ?_ | refine S.skp ?_ | refine S.sliceTo ?_ | refine S.sliceFrom ?_ | refine S.eqNil ?_ | refine S.eqbT ?_ | refine S.nebF ?_ | refine S.eqb ?_ | refine S.neb ?_)
 | (with_reducible first | refine S.nc ?_ | refine S.fld ?_ (h1 := fRLP) | refine S.fld ?_ (h1 := fRLR) | refine S.fld ?_ (h1 := fOpKind) | refine S.fld ?_ (h1 := fOpPod) | refine S.fld ?_ (h1 := fOpReason) | refine S.eqP ?_ | refine S.neP ?_)
 | ((with_reducible apply CW.cond_true); exact rfl)
 | ((with_reducible apply CW.cond_false); exact rfl)
 | ((with_reducible apply Fin.blk_far); exact rfl))
      refine S.lds (cs := [.slice (some ⟨bw, ow, none⟩) (Z.map (·.1)).length c, b]) (by rfl) stRL (hlot w10 _ _ hB410) (by rfl) (by rfl) ?_
      repeat (first
 | (with_reducible first
 | apply CW.seq | apply CW.region | apply CW.block | apply CW.ret | apply CW.skip | apply CW.label | apply CW.exit
 | apply W.nil | apply Fin.seq | apply Fin.then_ret | apply Fin.then_exit | apply Fin.blk_ret | apply Fin.blk_normal | apply Fin.blk_here)
 | (with_reducible first | refine S.move ?_ | refine S.assign ?_ | refine S.pickT ?_ | refine S.pickF ?_ | refine S.lss ?_ | refine S.gtr ?_ | refine S.leq ?_ | refine S.geq ?_ | refine S.eqT ?_ | refine S.neF ?_ | refine S.eql ?_ | refine S.neq ?_ | refine S.add ?_ | refine S.sub ?_ | refine S.mul ?_ | refine S.conv ?_ | refine S.shr1 ?_ | refine S.neg ?_ | refine S.not ?_ | refine S.extract ?_ | refine S.len ?_ | refine S.fld ?_ | refine S.index ?_ | refine S.skp ?_ | refine S.sliceTo ?_ | refine S.sliceFrom ?_ | refine S.eqNil ?_ | refine S.eqbT ?_ | refine S.nebF ?_ | refine S.eqb ?_ | refine S.neb ?_)
 | (with_reducible first | refine S.nc ?_ | refine S.fld ?_ (h1 := fRLP) | refine S.fld ?_ (h1 := fRLR) | refine S.fld ?_ (h1 := fOpKind) | refine S.fld ?_ (h1 := fOpPod) | refine S.fld ?_ (h1 := fOpReason) | refine S.eqP ?_ | refine S.neP ?_)
 | ((with_reducible apply CW.cond_true); exact rfl)
 | ((with_reducible apply CW.cond_false); exact rfl)
 | ((with_reducible apply Fin.blk_far); exact rfl))
      ((with_reducible apply S.ld); exact rfl; (with_reducible first | exact oneInt | exact oneI64s | exact oneBool | exact oneI64 | exact onePods | exact oneMap); (exact hid10); exact rfl; exact rfl)
      refine S.cl (op_call ent31 (by rfl) (by rfl)) (by rfl) (by rfl) (refRemove_calls _ b Z o.pod.id w10 (hR10.mono fun _ _ _ => trivial) (by omega)) ?_
      rintro _ w11 ⟨⟨a', b', rfl, hR11⟩, hx11⟩
      obtain ⟨ka1, kb1, ka2, kb2⟩ := hR11.cells
      have hones' : ∀ u ∈ [a', b'], u.oneCell' = true := by simp [ka1, kb1]
      have hX11 := hX10.trans hx11
      have hB1211 := hB12.x hx11
      have hB1111 := hB1110.x hx11
      have hB611 := hB610.x hx11
      repeat (first
 | (with_reducible first
 | apply CW.seq | apply CW.region | apply CW.block | apply CW.ret | apply CW.skip | apply CW.label | apply CW.exit
 | apply W.nil | apply Fin.seq | apply Fin.then_ret | apply Fin.then_exit | apply Fin.blk_ret | apply Fin.blk_normal | apply Fin.blk_here)
 | (with_reducible first | refine S.move ?_ | refine S.assign ?_ | refine S.pickT ?_ | refine S.pickF ?_ | refine S.lss ?_ | refine S.gtr ?_ | refine S.leq ?_ | refine S.geq ?_ | refine S.eqT ?_ | refine S.neF ?_ | refine S.eql ?_ | refine S.neq ?_ | refine S.add ?_ | refine S.sub ?_ | refine S.mul ?_ | refine S.conv ?_ | refine S.shr1 ?_ | refine S.neg ?_ | refine S.not ?_ | refine S.extract ?_ | refine S.len ?_ | refine S.fld ?_ | refine S.index ?_ | refine S.skp ?_ | refine S.sliceTo ?_ | refine S.sliceFrom ?_ | refine S.eqNil ?_ | refine S.eqbT ?_ | refine S.nebF ?_ | refine S.eqb ?_ | refine S.neb ?_)
 | (with_reducible first | refine S.nc ?_ | refine S.fld ?_ (h1 := fRLP) | refine S.fld ?_ (h1 := fRLR) | refine S.fld ?_ (h1 := fOpKind) | refine S.fld ?_ (h1 := fOpPod) | refine S.fld ?_ (h1 := fOpReason) | refine S.eqP ?_ | refine S.neP ?_)
 | ((with_reducible apply CW.cond_true); exact rfl)
 | ((with_reducible apply CW.cond_false); exact rfl)
 | ((with_reducible apply Fin.blk_far); exact rfl))
      refine S.lds (cs := p.cs) (by rfl) stPod (fun j u hj => by rw [Nat.zero_add]; exact hB1211.cell hj) (by rfl) (by rfl) ?_
      refine S.lds (cs := (q : PV).cs) (by rfl) stPod (fun j u hj => by rw [Nat.zero_add]; exact hB1111.cell hj) (by rfl) (by rfl) ?_
      refine S.cl (op_call ent26 (by rfl) (by rfl)) (by rfl) (by rfl) (SamePod_ab p q w11 (by rw [hwrk.abx hX11, hrp10.abx hx11, hap10]) ((hrp10.x hx11).mono fun _ _ _ => trivial) ((hwrk.x hX11).mono fun _ _ _ => trivial)) ?_
      rintro _ w12 ⟨rfl, hx12⟩
      have hB612 := hB611.x hx12
      refine W.pure (d := some 73) (op_pick_true (by rfl) (by rfl)) (by rfl) (by rfl) ?_
      refine S.stB (vs := [a', b']) (by rfl) (by rfl) rfl hB612 rfl szRL hones' (by rfl) ?_
      intro w13 hg13 hB613
      have hx812 : X w8 w12 := (hx10.trans hx11).trans hx12
      have hw10 := hx10.le
      have hl610 : b6 < w10.heap.size := hB610.lt
      repeat (first
 | (with_reducible first
 | apply CW.seq | apply CW.region | apply CW.block | apply CW.ret | apply CW.skip | apply CW.label | apply CW.exit
 | apply W.nil | apply Fin.seq | apply Fin.then_ret | apply Fin.then_exit | apply Fin.blk_ret | apply Fin.blk_normal | apply Fin.blk_here)
 | (with_reducible first | refine S.move ?_ | refine S.assign ?_ | refine S.pickT ?_ | refine S.pickF ?_ | refine S.lss ?_ | refine S.gtr ?_ | refine S.leq ?_ | refine S.geq ?_ | refine S.eqT ?_ | refine S.neF ?_ | refine S.eql ?_ | refine S.neq ?_ | refine S.add ?_ | refine S.sub ?_ | refine S.mul ?_ | refine S.conv ?_ | refine S.shr1 ?_ | refine S.neg ?_ | refine S.not ?_ | refine S.extract ?_ | refine S.len ?_ | refine S.fld ?_ | refine S.index ?_ | refine S.skp ?_ | refine S.sliceTo ?_ | refine S.sliceFrom ?_ | refine S.eqNil ?_ | refine S.eqbT ?_ | refine S.nebF ?_ | refine S.eqb ?_ | refine S.neb ?_)
 | (with_reducible first | refine S.nc ?_ | refine S.fld ?_ (h1 := fRLP) | refine S.fld ?_ (h1 := fRLR) | refine S.fld ?_ (h1 := fOpKind) | refine S.fld ?_ (h1 := fOpPod) | refine S.fld ?_ (h1 := fOpReason) | refine S.eqP ?_ | refine S.neP ?_)
 | ((with_reducible apply CW.cond_true); exact rfl)
 | ((with_reducible apply CW.cond_false); exact rfl)
 | ((with_reducible apply Fin.blk_far); exact rfl))
      refine R.c2 rfl (by rfl) (by rfl) hB613 stRL ⟨a', b', O, rfl, (((hA10.x hx11).x hx12)).g hg13 hn6, ((FO.of_x hx67).trans (hF8.x hx812)).g hg13 h6, ?_⟩
      rw [hstep]
      exact ((hR11.x hx12).keep fun k hk hK => hg13.block k hk (by intro e; cases e; omega)).mono fun k _ h ho => by
        rcases ho with ho | ho
        · have := (hOlt k ho).2; omega
        · have := hT k ho; omega
    · have hfp : foundP (Z.map (·.1)) o.pod.id = PV.zero := foundP_none e2
      have hhr : hasR (Z.map (·.1)) o.pod.id = false := by
        rw [e1, decide_eq_true (by decide)] at hfh
        simpa using hfh.symm
      rw [hhr] at hhas
      have hwrk : RK wb (· < wb.heap.size) PV.zero := RK.zero _ _
      rw [e1]
      have hx67 := hx06
      have hX7 := hX.trans hx67
      have hA7 := hA6
      have hR7 := hR6
      have hB47 := hB46
      have hB57 := hB56
      have hB67 := hB66
      clear hA6 hR6 hB46 hB56 hB66
      have hid7 : w6.cell? ⟨b5, 0 + 1 + 0, none⟩ = some (.int .i64 o.pod.id) := hpod w6 hB57 0 _ rfl
      have hw6' := hx67.le
      repeat (first
 | (with_reducible first
 | apply CW.seq | apply CW.region | apply CW.block | apply CW.ret | apply CW.skip | apply CW.label | apply CW.exit
 | apply W.nil | apply Fin.seq | apply Fin.then_ret | apply Fin.then_exit | apply Fin.blk_ret | apply Fin.blk_normal | apply Fin.blk_here)
 | (with_reducible first | refine S.move ?_ | refine S.assign ?_ | refine S.pickT ?_ | refine S.pickF ?_ | refine S.lss ?_ | refine S.gtr ?_ | refine S.leq ?_ | refine S.geq ?_ | refine S.eqT ?_ | refine S.neF ?_ | refine S.eql ?_ | refine S.neq ?_ | refine S.add ?_ | refine S.sub ?_ | refine S.mul ?_ | refine S.conv ?_ | refine S.shr1 ?_ | refine S.neg ?_ | refine S.not ?_ | refine S.extract ?_ | refine S.len ?_ | refine S.fld ?_ | refine S.index ?_ | refine S.skp ?_ | refine S.sliceTo ?_ | refine S.sliceFrom ?_ | refine S.eqNil ?_ | refine S.eqbT ?_ | refine S.nebF ?_ | refine S.eqb ?_ | refine S.neb ?_)
 | (with_reducible first | refine S.nc ?_ | refine S.fld ?_ (h1 := fRLP) | refine S.fld ?_ (h1 := fRLR) | refine S.fld ?_ (h1 := fOpKind) | refine S.fld ?_ (h1 := fOpPod) | refine S.fld ?_ (h1 := fOpReason) | refine S.eqP ?_ | refine S.neP ?_)
 | ((with_reducible apply CW.cond_true); exact rfl)
 | ((with_reducible apply CW.cond_false); exact rfl)
 | ((with_reducible apply Fin.blk_far); exact rfl))
      ((with_reducible apply S.ld); exact rfl; (with_reducible first | exact oneInt | exact oneI64s | exact oneBool | exact oneI64 | exact onePods | exact oneMap); (exact hid7); exact rfl; exact rfl)
      refine S.cl (op_call ent30 (by rfl) (by rfl)) (by rfl) (by rfl) (lRemove_calls wb.heap.size b0 O _ o.pod.id w6 hA7) ?_
      rintro _ w8 ⟨⟨p, rfl, hrp, hap⟩, hA8, hF8⟩
      rw [hhas]
      rw [keepZ_map, ← hstep] at hA8
      rw [hfind, hfp] at hap
      have hX8 : X wb w8 := hF8.xx hX7 fun k h => (hOlt k h).1
      have hR8 := hR7.fo hF8 (fun k h ho => h.1.1 (.inl ho))
      have hB48 := hF8.blk hB47 hn4
      have hB58 := hF8.blk hB57 hn5
      have hB68 := hF8.blk hB67 hn6
      have hB118 := hF8.blk hB11 hn11
      have hw8 := hF8.size
      clear hA7 hR7 hB47 hB57 hB67 hB11 hid7
      repeat (first
 | (with_reducible first
 | apply CW.seq | apply CW.region | apply CW.block | apply CW.ret | apply CW.skip | apply CW.label | apply CW.exit
 | apply W.nil | apply Fin.seq | apply Fin.then_ret | apply Fin.then_exit | apply Fin.blk_ret | apply Fin.blk_normal | apply Fin.blk_here)
 | (with_reducible first | refine S.move ?_ | refine S.assign ?_ | refine S.pickT ?_ | refine S.pickF ?_ | refine S.lss ?_ | refine S.gtr ?_ | refine S.leq ?_ | refine S.geq ?_ | refine S.eqT ?_ | refine S.neF ?_ | refine S.eql ?_ | refine S.neq ?_ | refine S.add ?_ | refine S.sub ?_ | refine S.mul ?_ | refine S.conv ?_ | refine S.shr1 ?_ | refine S.neg ?_ | refine S.not ?_ | refine S.extract ?_ | refine S.len ?_ | refine S.fld ?_ | refine S.index ?_ | refine S.skp ?_ | refine S.sliceTo ?_ | refine S.sliceFrom ?_ | refine S.eqNil ?_ | refine S.eqbT ?_ | refine S.nebF ?_ | refine S.eqb ?_ | refine S.neb ?_)
 | (with_reducible first | refine S.nc ?_ | refine S.fld ?_ (h1 := fRLP) | refine S.fld ?_ (h1 := fRLR) | refine S.fld ?_ (h1 := fOpKind) | refine S.fld ?_ (h1 := fOpPod) | refine S.fld ?_ (h1 := fOpReason) | refine S.eqP ?_ | refine S.neP ?_)
 | ((with_reducible apply CW.cond_true); exact rfl)
 | ((with_reducible apply CW.cond_false); exact rfl)
 | ((with_reducible apply Fin.blk_far); exact rfl))
      refine W.newBlk (d := some 12) (mk := fun b => .pointer (some ⟨b, 0, none⟩)) (cs := PV.zero.cs) (op_alloc' zPod rfl) (by rfl) (by rfl) ?_
      intro b12 w9 hx9 hb12 hB12
      refine S.stB (vs := p.cs) (by rfl) (by rfl) rfl hB12 rfl szPod9 p.one (by rfl) ?_
      intro w10 hg10 hB12
      have hx10 : X w8 w10 := below_g hx9 hg10 hx9.le hb12
      have hX10 := hX8.trans hx10
      have hA10 := hA8.x hx10
      have hR10 := hR8.x hx10
      have hB410 := hB48.x hx10
      have hB510 := hB58.x hx10
      have hB610 := hB68.x hx10
      have hB1110 := hB118.x hx10
      have hrp10 := hrp.x hx10
      have hap10 := (hrp.abx hx10).trans hap
      clear hA8 hR8 hB48 hB58 hB68 hB118 hg10 hx9
      have hid10 : w10.cell? ⟨b5, 0 + 1 + 0, none⟩ = some (.int .i64 o.pod.id) := hpod w10 hB510 0 _ rfl
      repeat (first
 | (with_reducible first
 | apply CW.seq | apply CW.region | apply CW.block | apply CW.ret | apply CW.skip | apply CW.label | apply CW.exit
 | apply W.nil | apply Fin.seq | apply Fin.then_ret | apply Fin.then_exit | apply Fin.blk_ret | apply Fin.blk_normal | apply Fin.blk_here)
 | (with_reducible first | refine S.move ?_ | refine S.assign ?_ | refine S.pickT ?_ | refine S.pickF ?_ | refine S.lss ?_ | refine S.gtr ?_ | refine S.leq ?_ | refine S.geq ?_ | refine S.eqT ?_ | refine S.neF ?_ | refine S.eql ?_ | refine S.neq ?_ | refine S.add ?_ | refine S.sub ?_ | refine S.mul ?_ | refine S.conv ?_ | refine S.shr1 ?_ | refine S.neg ?_ | refine S.not ?_ | refine S.extract ?_ | refine S.len ?_ | refine S.fld ?_ | refine S.index ?_ | refine S.skp ?_ | refine S.sliceTo ?_ | refine S.sliceFrom ?_ | refine S.eqNil ?_ | refine S.eqbT ?_ | refine S.nebF ?_ | refine S.eqb ?_ | refine S.neb ?_)
 | (with_reducible first | refine S.nc ?_ | refine S.fld ?_ (h1 := fRLP) | refine S.fld ?_ (h1 := fRLR) | refine S.fld ?_ (h1 := fOpKind) | refine S.fld ?_ (h1 := fOpPod) | refine S.fld ?_ (h1 := fOpReason) | refine S.eqP ?_ | refine S.neP ?_)
 | ((with_reducible apply CW.cond_true); exact rfl)
 | ((with_reducible apply CW.cond_false); exact rfl)
 | ((with_reducible apply Fin.blk_far); exact rfl))
      refine S.lds (cs := [a, b]) (by rfl) stRL (hlot w10 _ _ hB410) (by rfl) (by rfl) ?_
      repeat (first
 | (with_reducible first
 | apply CW.seq | apply CW.region | apply CW.block | apply CW.ret | apply CW.skip | apply CW.label | apply CW.exit
 | apply W.nil | apply Fin.seq | apply Fin.then_ret | apply Fin.then_exit | apply Fin.blk_ret | apply Fin.blk_normal | apply Fin.blk_here)
 | (with_reducible first | refine S.move ?_ | refine S.assign ?_ | refine S.pickT ?_ | refine S.pickF ?_ | refine S.lss ?_ | refine S.gtr ?_ | refine S.leq ?_ | refine S.geq ?_ | refine S.eqT ?_ | refine S.neF ?_ | refine S.eql ?_ | refine S.neq ?_ | refine S.add ?_ | refine S.sub ?_ | refine S.mul ?_ | refine S.conv ?_ | refine S.shr1 ?_ | refine S.neg ?_ | refine S.not ?_ | refine S.extract ?_ | refine S.len ?_ | refine S.fld ?_ | refine S.index ?_ | refine S.skp ?_ | refine S.sliceTo ?_ | refine S.sliceFrom ?_ | refine S.eqNil ?_ | refine S.eqbT ?_ | refine S.nebF ?_ | refine S.eqb ?_ | refine S.neb ?_)
 | (with_reducible first | refine S.nc ?_ | refine S.fld ?_ (h1 := fRLP) | refine S.fld ?_ (h1 := fRLR) | refine S.fld ?_ (h1 := fOpKind) | refine S.fld ?_ (h1 := fOpPod) | refine S.fld ?_ (h1 := fOpReason) | refine S.eqP ?_ | refine S.neP ?_)
 | ((with_reducible apply CW.cond_true); exact rfl)
 | ((with_reducible apply CW.cond_false); exact rfl)
 | ((with_reducible apply Fin.blk_far); exact rfl))
      ((with_reducible apply S.ld); exact rfl; (with_reducible first | exact oneInt | exact oneI64s | exact oneBool | exact oneI64 | exact onePods | exact oneMap); (exact hid10); exact rfl; exact rfl)
      refine S.cl (op_call ent31 (by rfl) (by rfl)) (by rfl) (by rfl) (refRemove_calls _ b Z o.pod.id w10 (hR10.mono fun _ _ _ => trivial) (by omega)) ?_
      rintro _ w11 ⟨⟨a', b', rfl, hR11⟩, hx11⟩
      obtain ⟨ka1, kb1, ka2, kb2⟩ := hR11.cells
      have hones' : ∀ u ∈ [a', b'], u.oneCell' = true := by simp [ka1, kb1]
      have hX11 := hX10.trans hx11
      have hB1211 := hB12.x hx11
      have hB1111 := hB1110.x hx11
      have hB611 := hB610.x hx11
      repeat (first
 | (with_reducible first
 | apply CW.seq | apply CW.region | apply CW.block | apply CW.ret | apply CW.skip | apply CW.label | apply CW.exit
 | apply W.nil | apply Fin.seq | apply Fin.then_ret | apply Fin.then_exit | apply Fin.blk_ret | apply Fin.blk_normal | apply Fin.blk_here)
 | (with_reducible first | refine S.move ?_ | refine S.assign ?_ | refine S.pickT ?_ | refine S.pickF ?_ | refine S.lss ?_ | refine S.gtr ?_ | refine S.leq ?_ | refine S.geq ?_ | refine S.eqT ?_ | refine S.neF ?_ | refine S.eql ?_ | refine S.neq ?_ | refine S.add ?_ | refine S.sub ?_ | refine S.mul ?_ | refine S.conv ?_ | refine S.shr1 ?_ | refine S.neg ?_ | refine S.not ?_ | refine S.extract ?_ | refine S.len ?_ | refine S.fld ?_ | refine S.index ?_ | refine S.skp ?_ | refine S.sliceTo ?_ | refine S.sliceFrom ?_ | refine S.eqNil ?_ | refine S.eqbT ?_ | refine S.nebF ?_ | refine S.eqb ?_ | refine S.neb ?_)
 | (with_reducible first | refine S.nc ?_ | refine S.fld ?_ (h1 := fRLP) | refine S.fld ?_ (h1 := fRLR) | refine S.fld ?_ (h1 := fOpKind) | refine S.fld ?_ (h1 := fOpPod) | refine S.fld ?_ (h1 := fOpReason) | refine S.eqP ?_ | refine S.neP ?_)
 | ((with_reducible apply CW.cond_true); exact rfl)
 | ((with_reducible apply CW.cond_false); exact rfl)
 | ((with_reducible apply Fin.blk_far); exact rfl))
      refine S.lds (cs := p.cs) (by rfl) stPod (fun j u hj => by rw [Nat.zero_add]; exact hB1211.cell hj) (by rfl) (by rfl) ?_
      refine S.lds (cs := (PV.zero : PV).cs) (by rfl) stPod (fun j u hj => by rw [Nat.zero_add]; exact hB1111.cell hj) (by rfl) (by rfl) ?_
      refine S.cl (op_call ent26 (by rfl) (by rfl)) (by rfl) (by rfl) (SamePod_ab p PV.zero w11 (by rw [hwrk.abx hX11, hrp10.abx hx11, hap10]) ((hrp10.x hx11).mono fun _ _ _ => trivial) ((hwrk.x hX11).mono fun _ _ _ => trivial)) ?_
      rintro _ w12 ⟨rfl, hx12⟩
      have hB612 := hB611.x hx12
      refine W.pure (d := some 73) (op_pick_true (by rfl) (by rfl)) (by rfl) (by rfl) ?_
      refine S.stB (vs := [a', b']) (by rfl) (by rfl) rfl hB612 rfl szRL hones' (by rfl) ?_
      intro w13 hg13 hB613
      have hx812 : X w8 w12 := (hx10.trans hx11).trans hx12
      have hw10 := hx10.le
      have hl610 : b6 < w10.heap.size := hB610.lt
      repeat (first
 | (with_reducible first
 | apply CW.seq | apply CW.region | apply CW.block | apply CW.ret | apply CW.skip | apply CW.label | apply CW.exit
 | apply W.nil | apply Fin.seq | apply Fin.then_ret | apply Fin.then_exit | apply Fin.blk_ret | apply Fin.blk_normal | apply Fin.blk_here)
 | (with_reducible first | refine S.move ?_ | refine S.assign ?_ | refine S.pickT ?_ | refine S.pickF ?_ | refine S.lss ?_ | refine S.gtr ?_ | refine S.leq ?_ | refine S.geq ?_ | refine S.eqT ?_ | refine S.neF ?_ | refine S.eql ?_ | refine S.neq ?_ | refine S.add ?_ | refine S.sub ?_ | refine S.mul ?_ | refine S.conv ?_ | refine S.shr1 ?_ | refine S.neg ?_ | refine S.not ?_ | refine S.extract ?_ | refine S.len ?_ | refine S.fld ?_ | refine S.index ?_ | refine S.skp ?_ | refine S.sliceTo ?_ | refine S.sliceFrom ?_ | refine S.eqNil ?_ | refine S.eqbT ?_ | refine S.nebF ?_ | refine S.eqb ?_ | refine S.neb ?_)
 | (with_reducible first | refine S.nc ?_ | refine S.fld ?_ (h1 := fRLP) | refine S.fld ?_ (h1 := fRLR) | refine S.fld ?_ (h1 := fOpKind) | refine S.fld ?_ (h1 := fOpPod) | refine S.fld ?_ (h1 := fOpReason) | refine S.eqP ?_ | refine S.neP ?_)
 | ((with_reducible apply CW.cond_true); exact rfl)
 | ((with_reducible apply CW.cond_false); exact rfl)
 | ((with_reducible apply Fin.blk_far); exact rfl))
      refine R.c2 rfl (by rfl) (by rfl) hB613 stRL ⟨a', b', O, rfl, (((hA10.x hx11).x hx12)).g hg13 hn6, ((FO.of_x hx67).trans (hF8.x hx812)).g hg13 h6, ?_⟩
      rw [hstep]
      exact ((hR11.x hx12).keep fun k hk hK => hg13.block k hk (by intro e; cases e; omega)).mono fun k _ h ho => by
        rcases ho with ho | ho
        · have := (hOlt k ho).2; omega
        · have := hT k ho; omega
  -- wake
  have hk1 : o.kind ≠ 1 := of_decide_eq_false hk
  clear hk
  have hstep : stepZ Z o = [] := by unfold stepZ; rw [if_neg hk0, if_neg hk1]
  repeat (first
 | (with_reducible first
 | apply CW.seq | apply CW.region | apply CW.block | apply CW.ret | apply CW.skip | apply CW.label | apply CW.exit
 | apply W.nil | apply Fin.seq | apply Fin.then_ret | apply Fin.then_exit | apply Fin.blk_ret | apply Fin.blk_normal | apply Fin.blk_here)
 | (with_reducible first | refine S.move ?_ | refine S.assign ?_ | refine S.pickT ?_ | refine S.pickF ?_ | refine S.lss ?_ | refine S.gtr ?_ | refine S.leq ?_ | refine S.geq ?_ | refine S.eqT ?_ | refine S.neF ?_ | refine S.eql ?_ | refine S.neq ?_ | refine S.add ?_ | refine S.sub ?_ | refine S.mul ?_ | refine S.conv ?_ | refine S.shr1 ?_ | refine S.neg ?_ | refine S.not ?_ | refine S.extract ?_ | refine S.len ?_ | refine S.fld ?_ | refine S.index ?_ | refine S.skp ?_ | refine S.sliceTo ?_ | refine S.sliceFrom ?_ | refine S.eqNil ?_ | refine S.eqbT ?_ | refine S.nebF ?_ | refine S.eqb ?_ | refine S.neb ?_)
 | (with_reducible first | refine S.nc ?_ | refine S.fld ?_ (h1 := fRLP) | refine S.fld ?_ (h1 := fRLR) | refine S.fld ?_ (h1 := fOpKind) | refine S.fld ?_ (h1 := fOpPod) | refine S.fld ?_ (h1 := fOpReason) | refine S.eqP ?_ | refine S.neP ?_)
 | ((with_reducible apply CW.cond_true); exact rfl)
 | ((with_reducible apply CW.cond_false); exact rfl)
 | ((with_reducible apply Fin.blk_far); exact rfl))
  refine wp_factsC (R := SF O) (c := 2) (fun w' => w' = { w3 with drawn := w3.drawn + 1 }) (fun w' => LA w' wb.heap.size b0 O [] ∧ FO O O w3 w') (pu := [0, 1]) (front := [2, 3]) (lp := []) (al := [2]) (tail := [4, 5, 6, 7]) (by kernel_rfl) (by rfl) (by rfl) rfl mixed (by kernel_rfl) (by (repeat (first | with_reducible exact NoPanic.post_ | with_reducible apply NoPanic.then_ | with_reducible apply NoPanic.blk))) (SF.refl O) (fun _ _ _ => SF.trans) (SF.of_x (X.drew _)) ?_
  (with_reducible refine TP.step ?_)
  refine E.pure (v := lotV (.slice none 0 0) (.slice none 0 0)) (op_build (by rfl) (by kernel_rfl)) (by rfl) (by rfl) ?_
  (with_reducible refine TP.step ?_)
  (with_reducible first | refine E.move ?_ | refine E.assign ?_ | refine E.pickT ?_ | refine E.pickF ?_ | refine E.lss ?_ | refine E.gtr ?_ | refine E.leq ?_ | refine E.geq ?_ | refine E.eqT ?_ | refine E.neF ?_ | refine E.eql ?_ | refine E.neq ?_ | refine E.add ?_ | refine E.sub ?_ | refine E.mul ?_ | refine E.conv ?_ | refine E.shr1 ?_ | refine E.neg ?_ | refine E.not ?_ | refine E.extract ?_ | refine E.len ?_ | refine E.fld ?_ | refine E.index ?_ | refine E.skp ?_ | refine E.sliceTo ?_ | refine E.sliceFrom ?_ | refine E.eqNil ?_ | refine E.eqbT ?_ | refine E.nebF ?_ | refine E.eqb ?_ | refine E.neb ?_)
  refine TP.done ?_
  refine TG.step ?_
  refine TG.cl (.pr fun v w' => ∃ Ls, NewS w' w3.heap.size v Ls ∧ Ls.map (ab w') = sortAP ((Z.map (abZ wb)).map (·.1)) ∧ Ls.length = (Z.map (abZ wb)).length ∧ ∀ p ∈ Ls, OwnR w' w3.heap.size p) (by rfl) (op_call ent13 (by rfl) (by rfl)) (by rfl) (by rfl) (by rfl) (by rfl) (fun w' hr h1 => ?_) ?_
  · subst h1
    refine (lWake_calls wb.heap.size b0 O _ _ (hA3.x (X.drew _)) (by rw [List.length_map]; omega)).mono fun u w'' h => ?_
    obtain ⟨h1, h2, h3⟩ := h
    exact ⟨h1, h3.sf, h2, (FO.of_x (X.drew _)).trans h3⟩
  refine TG.step ?_
  refine TG.lds (cs := [a, b]) (by rfl) stRL (fun w' hr => hlot w' a b (hr.blk hB4 hn4)) (by decide) (by rfl) (by rfl) (by rfl) ?_
  refine TG.back ?_
  refine TC.pr 76 (by rfl) fun v76 => TC.tail4 (by rfl) (by rfl) (by rfl) (by rfl) fun w5 h5 => ?_
  obtain ⟨⟨hS5, hA5, hF5⟩, Ls, hN5, hLs, hLl, hown⟩ := h5
  have hR5 := hR3.fo hF5 (fun k h ho => h.1 (.inl ho))
  have hx05 := hF5
  have hX5 : X wb w5 := hF5.xx hX3 fun k h => (hOlt k h).1
  rw [List.length_map] at hLl
  rw [(absZ wb Z).sort] at hLs
  refine S.cl (op_call ent21 (by rfl) (by rfl)) (by rfl) (by rfl) (refAll_calls a b Z w5 (hR5.mono fun _ _ _ => trivial) (by omega) (fun p hp => by
    obtain ⟨z, hz1, rfl⟩ := List.mem_map.1 hp
    exact (hz z hz1).2)) ?_
  rintro v6 w6 ⟨hO6, hx6⟩
  have hX6 := hX5.trans hx6
  have hown6 : ∀ p ∈ Ls, RK w6 (fun _ => True) p ∧ ab w6 p = ab w5 p := fun p hp => ⟨((hown p hp).rk.x hx6).mono fun _ _ _ => trivial, (hown p hp).rk.abx hx6⟩
  have hrk6 : ∀ p ∈ sortR (Z.map (·.1)), RK wb (· < wb.heap.size) p := fun p hp => by
    obtain ⟨z, hz1, rfl⟩ := List.mem_map.1 (((sortR_srt _).2.mem p).2 hp)
    exact (hz z hz1).1
  have hsame : Ls.map (ab w6) = (sortR (Z.map (·.1))).map (ab w6) := by
    rw [List.map_congr_left fun p hp => (hown6 p hp).2, hLs]
    exact List.map_congr_left fun p hp => ((hrk6 p hp).abx hX6).symm
  refine S.cl (op_call ent12 (by rfl) (by rfl)) (by rfl) (by rfl) (Same_ab v76 v6 Ls _ w6 ((hN5.psk.x hx6).ps) hO6.ps hsame (fun p hp => (hown6 p hp).1) (fun p hp => ((hrk6 p hp).x hX6).mono fun _ _ _ => trivial) (by omega)) ?_
  rintro _ w7 ⟨rfl, hx7⟩
  have hB67 := ((hS5.blk hB6 hn6).x hx6).x hx7
  refine S.stB (vs := [.slice none 0 0, .slice none 0 0]) (by rfl) (by rfl) rfl hB67 rfl szRL (by simp [Value.oneCell']) (by rfl) ?_
  intro w8 hg8 hB68
  repeat (first
 | (with_reducible first
 | apply CW.seq | apply CW.region | apply CW.block | apply CW.ret | apply CW.skip | apply CW.label | apply CW.exit
 | apply W.nil | apply Fin.seq | apply Fin.then_ret | apply Fin.then_exit | apply Fin.blk_ret | apply Fin.blk_normal | apply Fin.blk_here)
 | (with_reducible first | refine S.move ?_ | refine S.assign ?_ | refine S.pickT ?_ | refine S.pickF ?_ | refine S.lss ?_ | refine S.gtr ?_ | refine S.leq ?_ | refine S.geq ?_ | refine S.eqT ?_ | refine S.neF ?_ | refine S.eql ?_ | refine S.neq ?_ | refine S.add ?_ | refine S.sub ?_ | refine S.mul ?_ | refine S.conv ?_ | refine S.shr1 ?_ | refine S.neg ?_ | refine S.not ?_ | refine S.extract ?_ | refine S.len ?_ | refine S.fld ?_ | refine S.index ?_ | refine S.skp ?_ | refine S.sliceTo ?_ | refine S.sliceFrom ?_ | refine S.eqNil ?_ | refine S.eqbT ?_ | refine S.nebF ?_ | refine S.eqb ?_ | refine S.neb ?_)
 | (with_reducible first | refine S.nc ?_ | refine S.fld ?_ (h1 := fRLP) | refine S.fld ?_ (h1 := fRLR) | refine S.fld ?_ (h1 := fOpKind) | refine S.fld ?_ (h1 := fOpPod) | refine S.fld ?_ (h1 := fOpReason) | refine S.eqP ?_ | refine S.neP ?_)
 | ((with_reducible apply CW.cond_true); exact rfl)
 | ((with_reducible apply CW.cond_false); exact rfl)
 | ((with_reducible apply Fin.blk_far); exact rfl))
  refine R.c2 rfl (by rfl) (by rfl) hB68 stRL ⟨_, _, O, rfl, by rw [hstep]; exact ((hA5.x hx6).x hx7).g hg8 hn6, ((FO.of_x hx03).trans ((hF5.x hx6).x hx7)).g hg8 h6, by rw [hstep]; exact RLt.nil _ _⟩

end Go.Proofs.YtmilpjkjcanghaaDoor

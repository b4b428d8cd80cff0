/- The reference's lot: Remove. -/
import Derived.Test.YtmilpjkjcanghaaDoorP10
namespace Go.Proofs.YtmilpjkjcanghaaDoor
open Go.RowKit
set_option linter.unusedVariables false
set_option linter.unusedSimpArgs false

theorem pSl.x {B : Nat} {e : TypeId} {n : Nat} {cs : List Value} : ∀ v w w', X w w' → pSl B e n cs v w → pSl B e n cs v w' := fun v w w' hx ⟨b, h1, h2, h3⟩ => ⟨b, h1, h2.x hx, h3⟩
theorem OwnI.x {w w' : World} {B : Nat} {v : Value} {l : List Int} (h : OwnI w B v l) (hx : X w w') : OwnI w' B v l := own_same h fun g hg => hx.block g (World.ownsRow.lt h g hg).2
theorem OwnI.g {w w' : World} {B b : Nat} {v : Value} {l : List Int} (h : OwnI w B v l) (hg : w.grownBy w' (some b)) (hb : b < B) : OwnI w' B v l := own_same h fun g e => hg.block g (World.ownsRow.lt h g e).2 (by have := (World.ownsRow.lt h g e).1; intro e; cases e; omega)
theorem OwnI.own {w w' : World} {B B' : Nat} {v u : Value} {l : List Int} {L : List PV} (h : OwnI w B v l) (ho : OwnP w B' u L) (hg : w.grownBy w' u.ownBlock) : OwnI w' B v l := own_same h fun g e => hg.block g (World.ownsRow.lt h g e).2 fun e2 => by
  obtain ⟨cs, h1⟩ := own_blk h e
  obtain ⟨cs', h2⟩ := own_blk ho e2.symm
  exact absurd (h1.one h2) (by decide)
theorem OwnP.ownI {w w' : World} {B B' : Nat} {v u : Value} {l : List Int} {L : List PV} (h : OwnP w B v L) (ho : OwnI w B' u l) (hg : w.grownBy w' u.ownBlock) : OwnP w' B v L := own_same h fun g e => hg.block g (World.ownsRow.lt h g e).2 fun e2 => by
  obtain ⟨cs, h1⟩ := own_blk h e
  obtain ⟨cs', h2⟩ := own_blk ho e2.symm
  exact absurd (h1.one h2) (by decide)
theorem blk_own {w w' : World} {B g : Nat} {e : TypeId} {cs : List Value} {v : Value} {base sz n : Nat} {e' : TypeId} {xs : List Value} (h : Blk w g e cs) (ho : w.ownsRow base e' sz v n xs) (hg : w.grownBy w' v.ownBlock) (hne : e ≠ e') : Blk w' g e cs := (hg.block g h.lt fun e2 => by
  obtain ⟨cs', h2⟩ := own_blk ho e2.symm
  exact hne (h.one h2)).trans h

def keepZ (Z : List (PV × Int)) (id : Int) : List (PV × Int) := Z.filter fun z => !(z.1.id == id)
theorem keepZ_take {Z : List (PV × Int)} {id : Int} {k : Nat} (hk : k < Z.length) : keepZ (Z.take (k + 1)) id = if Z[k].1.id ≠ id then keepZ (Z.take k) id ++ [Z[k]] else keepZ (Z.take k) id := by
  unfold keepZ
  rw [List.take_succ_eq_append_getElem hk, List.filter_append]
  by_cases h : Z[k].1.id = id <;> simp [h]
theorem keepZ_len (Z : List (PV × Int)) (id : Int) : (keepZ Z id).length ≤ Z.length := List.length_filter_le _ _

set_option maxHeartbeats 2000000 in
theorem refRemove_calls (a b : Value) (Z : List (PV × Int)) (id : Int) (w : World) (h : RLt w (fun _ => True) a b Z) (hn : Z.length ≤ 400) :
    CallsR Tryd.prog 31 [lotV a b, .int .i64 id] w fun v w' => (∃ a' b', v = lotV a' b' ∧ RLt w' (w.heap.size ≤ ·) a' b' (keepZ Z id)) ∧ X w w' := by
  obtain ⟨A, c, rfl, hc, hat⟩ := h.ps.ps.open_
  obtain ⟨Ai, ci, rfl, hci, _, hati⟩ := h.is
  refine enter2 Tryd.func31 rfl Tryd.ntmps31 rfl ?_
  refine CW.seq ?_
  refine CW.region ?_
  refine W.newBlk (d := some 2) (mk := fun b => .pointer (some ⟨b, 0, none⟩)) (cs := [.slice A (Z.map (·.1)).length c, .slice Ai (Z.map (·.2)).length ci]) (op_box (by rfl) (by rfl)) (by rfl) (by rfl) ?_
  intro b2 w1 hx1 hb2 hB2
  have hlt2 := hB2.lt
  refine W.newBlk (d := some 4) (mk := fun b => .pointer (some ⟨b, 0, none⟩)) (cs := [.slice none 0 0, .slice none 0 0]) (op_alloc' zRL rfl) (by rfl) (by rfl) ?_
  intro b4 w2 hx2 hb4 hB4
  have hlt4 := hB4.lt
  repeat (first
 | (with_reducible first
 | apply CW.seq | apply CW.region | apply CW.block | apply CW.ret | apply CW.skip | apply CW.label | apply CW.exit
 | apply W.nil | apply Fin.seq | apply Fin.then_ret | apply Fin.then_exit | apply Fin.blk_ret | apply Fin.blk_normal | apply Fin.blk_here)
 | (with_reducible first | refine S.move ?_ | refine S.assign ?_ | refine S.pickT ?_ | refine S.pickF ?_ | refine S.lss ?_ | refine S.gtr ?_ | refine S.leq ?_ | refine S.geq ?_ | refine S.eqT ?_ | refine S.neF ?_ | refine S.eql ?_ | refine S.neq ?_ | refine S.add ?_ | refine S.sub ?_ | refine S.mul ?_ | refine S.conv ?_ | refine S.shr1 ?_ | refine S.neg ?_ | refine S.not ?_ | refine S.extract ?_ | refine S.len ?_ | refine S.fld ?_ | refine S.index ?_ | refine S.skp ?_ | refine S.sliceTo ?_ | refine S.sliceFrom ?_ | refine S.eqNil ?_ | refine S.eqbT ?_ | refine S.nebF ?_ | refine S.eqb ?_ | refine S.neb ?_)
 | (with_reducible first | refine S.nc ?_ | refine S.fld ?_ (h1 := fRLP) | refine S.fld ?_ (h1 := fRLR) | refine S.fld ?_ (h1 := fOpKind) | refine S.fld ?_ (h1 := fOpPod) | refine S.fld ?_ (h1 := fOpReason) | refine S.eqP ?_ | refine S.neP ?_)
 | ((with_reducible apply CW.cond_true); exact rfl)
 | ((with_reducible apply CW.cond_false); exact rfl)
 | ((with_reducible apply Fin.blk_far); exact rfl))
  refine W.pure (d := some 7) (v := lotV (.slice none 0 0) (.slice none 0 0)) (op_build (by rfl) (by kernel_rfl)) (by rfl) (by rfl) ?_
  refine W.newBlk (d := some 5) (mk := fun b => .pointer (some ⟨b, 0, none⟩)) (cs := [.slice none 0 0, .slice none 0 0]) (op_alloc' zRL rfl) (by rfl) (by rfl) ?_
  intro b5 w3 hx3 hb5 hB5
  refine S.stB (vs := [.slice none 0 0, .slice none 0 0]) (by rfl) (by rfl) rfl hB5 rfl szRL (by simp [Value.oneCell']) (by rfl) ?_
  intro w4 hg4 hB5
  have hx4 : X w2 w4 := below_g hx3 hg4 hx3.le hb5
  have hB2 := (hB2.x hx2).x hx4
  have hB4 := hB4.x hx4
  have hX4 := (hx1.trans hx2).trans hx4
  have hle5 : w.heap.size ≤ b5 := by have := hx1.le; have := hx2.le; omega
  have hle4 : w.heap.size ≤ b4 := by have := hx1.le; omega
  have h54 : b5 < w4.heap.size := hB5.lt
  have h44 : b4 < w4.heap.size := hB4.lt
  have hne45 : b4 ≠ b5 := by omega
  have hne25 : b2 ≠ b5 := by have := hx2.le; omega
  clear hx2 hx3 hx4 hg4 hx1 hb2 hb4 hb5
  have hl1 : (Z.map (·.1)).length = Z.length := by simp
  have hl2 : (Z.map (·.2)).length = Z.length := by simp
  repeat (first
 | (with_reducible first
 | apply CW.seq | apply CW.region | apply CW.block | apply CW.ret | apply CW.skip | apply CW.label | apply CW.exit
 | apply W.nil | apply Fin.seq | apply Fin.then_ret | apply Fin.then_exit | apply Fin.blk_ret | apply Fin.blk_normal | apply Fin.blk_here)
 | (with_reducible first | refine S.move ?_ | refine S.assign ?_ | refine S.pickT ?_ | refine S.pickF ?_ | refine S.lss ?_ | refine S.gtr ?_ | refine S.leq ?_ | refine S.geq ?_ | refine S.eqT ?_ | refine S.neF ?_ | refine S.eql ?_ | refine S.neq ?_ | refine S.add ?_ | refine S.sub ?_ | refine S.mul ?_ | refine S.conv ?_ | refine S.shr1 ?_ | refine S.neg ?_ | refine S.not ?_ | refine S.extract ?_ | refine S.len ?_ | refine S.fld ?_ | refine S.index ?_ | refine S.skp ?_ | refine S.sliceTo ?_ | refine S.sliceFrom ?_ | refine S.eqNil ?_ | refine S.eqbT ?_ | refine S.nebF ?_ | refine S.eqb ?_ | refine S.neb ?_)
 | (with_reducible first | refine S.nc ?_ | refine S.fld ?_ (h1 := fRLP) | refine S.fld ?_ (h1 := fRLR) | refine S.fld ?_ (h1 := fOpKind) | refine S.fld ?_ (h1 := fOpPod) | refine S.fld ?_ (h1 := fOpReason) | refine S.eqP ?_ | refine S.neP ?_)
 | ((with_reducible apply CW.cond_true); exact rfl)
 | ((with_reducible apply CW.cond_false); exact rfl)
 | ((with_reducible apply Fin.blk_far); exact rfl))
  refine CW.loop (ι := Nat × Value × Value) (fun k => [(6, .int .i64 (k.1 : Int)), (2, .pointer (some ⟨b2, 0, none⟩)), (4, .pointer (some ⟨b4, 0, none⟩)), (5, .pointer (some ⟨b5, 0, none⟩)), (1, .int .i64 id)])
    (fun k w' => X w w' ∧ k.1 ≤ Z.length ∧ Blk w' b2 43 [.slice A (Z.map (·.1)).length c, .slice Ai (Z.map (·.2)).length ci] ∧ Blk w' b4 43 [.slice none 0 0, .slice none 0 0] ∧ Blk w' b5 43 [k.2.1, k.2.2] ∧ OwnP w' w4.heap.size k.2.1 ((keepZ (Z.take k.1) id).map (·.1)) ∧ OwnI w' w4.heap.size k.2.2 ((keepZ (Z.take k.1) id).map (·.2)) ∧ w4.heap.size ≤ w'.heap.size) (fun k => Z.length - k.1) ?_ (0, .slice none 0 0, .slice none 0 0) (by repeat (first | exact trivial | refine ⟨congrArg (fun z : Int => some (Value.int .i64 z)) (by omega), ?_⟩ | refine ⟨rfl, ?_⟩)) ⟨hX4, Nat.zero_le _, hB2, hB4, hB5, OwnP.nil _ _, World.ownsRow_nil _ _ _ _, Nat.le_refl _⟩
  clear hB2 hB4 hB5 hX4
  rintro ⟨k, vO, vI⟩ w5 ⟨hX5, hk, hB2, hB4, hB5, hO, hI, hsz⟩
  simp only at hk hB5 hO hI ⊢
  have hkl := keepZ_len (Z.take k) id
  rw [List.length_take, Nat.min_eq_left hk] at hkl
  repeat (first
 | (with_reducible first
 | apply CW.seq | apply CW.region | apply CW.block | apply CW.ret | apply CW.skip | apply CW.label | apply CW.exit
 | apply W.nil | apply Fin.seq | apply Fin.then_ret | apply Fin.then_exit | apply Fin.blk_ret | apply Fin.blk_normal | apply Fin.blk_here)
 | (with_reducible first | refine S.move ?_ | refine S.assign ?_ | refine S.pickT ?_ | refine S.pickF ?_ | refine S.lss ?_ | refine S.gtr ?_ | refine S.leq ?_ | refine S.geq ?_ | refine S.eqT ?_ | refine S.neF ?_ | refine S.eql ?_ | refine S.neq ?_ | refine S.add ?_ | refine S.sub ?_ | refine S.mul ?_ | refine S.conv ?_ | refine S.shr1 ?_ | refine S.neg ?_ | refine S.not ?_ | refine S.extract ?_ | refine S.len ?_ | refine S.fld ?_ | refine S.index ?_ | refine S.skp ?_ | refine S.sliceTo ?_ | refine S.sliceFrom ?_ | refine S.eqNil ?_ | refine S.eqbT ?_ | refine S.nebF ?_ | refine S.eqb ?_ | refine S.neb ?_)
 | (with_reducible first | refine S.nc ?_ | refine S.fld ?_ (h1 := fRLP) | refine S.fld ?_ (h1 := fRLR) | refine S.fld ?_ (h1 := fOpKind) | refine S.fld ?_ (h1 := fOpPod) | refine S.fld ?_ (h1 := fOpReason) | refine S.eqP ?_ | refine S.neP ?_)
 | ((with_reducible apply CW.cond_true); exact rfl)
 | ((with_reducible apply CW.cond_false); exact rfl)
 | ((with_reducible apply Fin.blk_far); exact rfl))
  refine S.ld (by rfl) onePods (hB2.cell rfl) (by rfl) (by rfl) ?_
  repeat (first
 | (with_reducible first
 | apply CW.seq | apply CW.region | apply CW.block | apply CW.ret | apply CW.skip | apply CW.label | apply CW.exit
 | apply W.nil | apply Fin.seq | apply Fin.then_ret | apply Fin.then_exit | apply Fin.blk_ret | apply Fin.blk_normal | apply Fin.blk_here)
 | (with_reducible first | refine S.move ?_ | refine S.assign ?_ | refine S.pickT ?_ | refine S.pickF ?_ | refine S.lss ?_ | refine S.gtr ?_ | refine S.leq ?_ | refine S.geq ?_ | refine S.eqT ?_ | refine S.neF ?_ | refine S.eql ?_ | refine S.neq ?_ | refine S.add ?_ | refine S.sub ?_ | refine S.mul ?_ | refine S.conv ?_ | refine S.shr1 ?_ | refine S.neg ?_ | refine S.not ?_ | refine S.extract ?_ | refine S.len ?_ | refine S.fld ?_ | refine S.index ?_ | refine S.skp ?_ | refine S.sliceTo ?_ | refine S.sliceFrom ?_ | refine S.eqNil ?_ | refine S.eqbT ?_ | refine S.nebF ?_ | refine S.eqb ?_ | refine S.neb ?_)
 | (with_reducible first | refine S.nc ?_ | refine S.fld ?_ (h1 := fRLP) | refine S.fld ?_ (h1 := fRLR) | refine S.fld ?_ (h1 := fOpKind) | refine S.fld ?_ (h1 := fOpPod) | refine S.fld ?_ (h1 := fOpReason) | refine S.eqP ?_ | refine S.neP ?_)
 | ((with_reducible apply CW.cond_true); exact rfl)
 | ((with_reducible apply CW.cond_false); exact rfl)
 | ((with_reducible apply Fin.blk_far); exact rfl))
  refine CW.cond (by rfl) (fun hcd => ?_) (fun hcd => ?_)
  · have hk' : k < Z.length := by have := of_decide_eq_true hcd; omega
    clear hcd
    obtain ⟨bw, o, rfl, hbw, hcell⟩ := hat k (by omega)
    obtain ⟨bi, oi, rfl, hbi, hcelli⟩ := hati (by intro e; rw [e] at hl2; simp at hl2; omega)
    have hst := keepZ_take (id := id) hk'
    have hpk : (Z.map (·.1))[k]? = some Z[k].1 := by rw [List.getElem?_map, List.getElem?_eq_getElem hk']; rfl
    have hik : (Z.map (·.2))[k]? = some Z[k].2 := by rw [List.getElem?_map, List.getElem?_eq_getElem hk']; rfl
    have hc1 := hcelli k _ hik
    have hc1 : ∀ w', X w w' → w'.cell? ⟨bi, oi + k * 1, none⟩ = some (.int .i64 Z[k].2) := fun w' hx => by rw [Nat.mul_one]; exact (hx.cell (p := ⟨bi, _, none⟩) (World.block_lt_of_cell? w _ hc1)).trans hc1
    generalize hz : Z[k] = z at *
    obtain ⟨p, r⟩ := z
    simp only at hpk hik hc1 hst
    have hpc : ∀ w', X w w' → ∀ j u, p.cs[j]? = some u → w'.cell? ⟨bw, o + k * 9 + j, none⟩ = some u := fun w' hx j u hj => (hx.cell (p := ⟨bw, _, none⟩) hbw).trans (hcell k p j u hpk hj)
    repeat (first
 | (with_reducible first
 | apply CW.seq | apply CW.region | apply CW.block | apply CW.ret | apply CW.skip | apply CW.label | apply CW.exit
 | apply W.nil | apply Fin.seq | apply Fin.then_ret | apply Fin.then_exit | apply Fin.blk_ret | apply Fin.blk_normal | apply Fin.blk_here)
 | (with_reducible first | refine S.move ?_ | refine S.assign ?_ | refine S.pickT ?_ | refine S.pickF ?_ | refine S.lss ?_ | refine S.gtr ?_ | refine S.leq ?_ | refine S.geq ?_ | refine S.eqT ?_ | refine S.neF ?_ | refine S.eql ?_ | refine S.neq ?_ | refine S.add ?_ | refine S.sub ?_ | refine S.mul ?_ | refine S.conv ?_ | refine S.shr1 ?_ | refine S.neg ?_ | refine S.not ?_ | refine S.extract ?_ | refine S.len ?_ | refine S.fld ?_ | refine S.index ?_ | refine S.skp ?_ | refine S.sliceTo ?_ | refine S.sliceFrom ?_ | refine S.eqNil ?_ | refine S.eqbT ?_ | refine S.nebF ?_ | refine S.eqb ?_ | refine S.neb ?_)
 | (with_reducible first | refine S.nc ?_ | refine S.fld ?_ (h1 := fRLP) | refine S.fld ?_ (h1 := fRLR) | refine S.fld ?_ (h1 := fOpKind) | refine S.fld ?_ (h1 := fOpPod) | refine S.fld ?_ (h1 := fOpReason) | refine S.eqP ?_ | refine S.neP ?_)
 | ((with_reducible apply CW.cond_true); exact rfl)
 | ((with_reducible apply CW.cond_false); exact rfl)
 | ((with_reducible apply Fin.blk_far); exact rfl))
    refine S.ld (by rfl) onePods (hB2.cell rfl) (by rfl) (by rfl) ?_
    repeat (first
 | (with_reducible first
 | apply CW.seq | apply CW.region | apply CW.block | apply CW.ret | apply CW.skip | apply CW.label | apply CW.exit
 | apply W.nil | apply Fin.seq | apply Fin.then_ret | apply Fin.then_exit | apply Fin.blk_ret | apply Fin.blk_normal | apply Fin.blk_here)
 | (with_reducible first | refine S.move ?_ | refine S.assign ?_ | refine S.pickT ?_ | refine S.pickF ?_ | refine S.lss ?_ | refine S.gtr ?_ | refine S.leq ?_ | refine S.geq ?_ | refine S.eqT ?_ | refine S.neF ?_ | refine S.eql ?_ | refine S.neq ?_ | refine S.add ?_ | refine S.sub ?_ | refine S.mul ?_ | refine S.conv ?_ | refine S.shr1 ?_ | refine S.neg ?_ | refine S.not ?_ | refine S.extract ?_ | refine S.len ?_ | refine S.fld ?_ | refine S.index ?_ | refine S.skp ?_ | refine S.sliceTo ?_ | refine S.sliceFrom ?_ | refine S.eqNil ?_ | refine S.eqbT ?_ | refine S.nebF ?_ | refine S.eqb ?_ | refine S.neb ?_)
 | (with_reducible first | refine S.nc ?_ | refine S.fld ?_ (h1 := fRLP) | refine S.fld ?_ (h1 := fRLR) | refine S.fld ?_ (h1 := fOpKind) | refine S.fld ?_ (h1 := fOpPod) | refine S.fld ?_ (h1 := fOpReason) | refine S.eqP ?_ | refine S.neP ?_)
 | ((with_reducible apply CW.cond_true); exact rfl)
 | ((with_reducible apply CW.cond_false); exact rfl)
 | ((with_reducible apply Fin.blk_far); exact rfl))
    ((with_reducible apply S.ld); exact rfl; (with_reducible first | exact oneInt | exact oneI64s | exact oneBool | exact oneI64 | exact onePods | exact oneMap); (exact hpc w5 hX5 0 _ rfl); exact rfl; exact rfl)
    repeat (first
 | (with_reducible first
 | apply CW.seq | apply CW.region | apply CW.block | apply CW.ret | apply CW.skip | apply CW.label | apply CW.exit
 | apply W.nil | apply Fin.seq | apply Fin.then_ret | apply Fin.then_exit | apply Fin.blk_ret | apply Fin.blk_normal | apply Fin.blk_here)
 | (with_reducible first | refine S.move ?_ | refine S.assign ?_ | refine S.pickT ?_ | refine S.pickF ?_ | refine S.lss ?_ | refine S.gtr ?_ | refine S.leq ?_ | refine S.geq ?_ | refine S.eqT ?_ | refine S.neF ?_ | refine S.eql ?_ | refine S.neq ?_ | refine S.add ?_ | refine S.sub ?_ | refine S.mul ?_ | refine S.conv ?_ | refine S.shr1 ?_ | refine S.neg ?_ | refine S.not ?_ | refine S.extract ?_ | refine S.len ?_ | refine S.fld ?_ | refine S.index ?_ | refine S.skp ?_ | refine S.sliceTo ?_ | refine S.sliceFrom ?_ | refine S.eqNil ?_ | refine S.eqbT ?_ | refine S.nebF ?_ | refine S.eqb ?_ | refine S.neb ?_)
 | (with_reducible first | refine S.nc ?_ | refine S.fld ?_ (h1 := fRLP) | refine S.fld ?_ (h1 := fRLR) | refine S.fld ?_ (h1 := fOpKind) | refine S.fld ?_ (h1 := fOpPod) | refine S.fld ?_ (h1 := fOpReason) | refine S.eqP ?_ | refine S.neP ?_)
 | ((with_reducible apply CW.cond_true); exact rfl)
 | ((with_reducible apply CW.cond_false); exact rfl)
 | ((with_reducible apply Fin.blk_far); exact rfl))
    refine CW.cond (by rfl) (fun hcd => ?_) (fun hcd => ?_)
    · rw [if_pos (by have := of_decide_eq_true hcd; exact this)] at hst
      clear hcd
      repeat (first
 | (with_reducible first
 | apply CW.seq | apply CW.region | apply CW.block | apply CW.ret | apply CW.skip | apply CW.label | apply CW.exit
 | apply W.nil | apply Fin.seq | apply Fin.then_ret | apply Fin.then_exit | apply Fin.blk_ret | apply Fin.blk_normal | apply Fin.blk_here)
 | (with_reducible first | refine S.move ?_ | refine S.assign ?_ | refine S.pickT ?_ | refine S.pickF ?_ | refine S.lss ?_ | refine S.gtr ?_ | refine S.leq ?_ | refine S.geq ?_ | refine S.eqT ?_ | refine S.neF ?_ | refine S.eql ?_ | refine S.neq ?_ | refine S.add ?_ | refine S.sub ?_ | refine S.mul ?_ | refine S.conv ?_ | refine S.shr1 ?_ | refine S.neg ?_ | refine S.not ?_ | refine S.extract ?_ | refine S.len ?_ | refine S.fld ?_ | refine S.index ?_ | refine S.skp ?_ | refine S.sliceTo ?_ | refine S.sliceFrom ?_ | refine S.eqNil ?_ | refine S.eqbT ?_ | refine S.nebF ?_ | refine S.eqb ?_ | refine S.neb ?_)
 | (with_reducible first | refine S.nc ?_ | refine S.fld ?_ (h1 := fRLP) | refine S.fld ?_ (h1 := fRLR) | refine S.fld ?_ (h1 := fOpKind) | refine S.fld ?_ (h1 := fOpPod) | refine S.fld ?_ (h1 := fOpReason) | refine S.eqP ?_ | refine S.neP ?_)
 | ((with_reducible apply CW.cond_true); exact rfl)
 | ((with_reducible apply CW.cond_false); exact rfl)
 | ((with_reducible apply Fin.blk_far); exact rfl))
      refine wp_facts3 (R := X) (pu := [0, 2, 4]) (front := [1, 3, 5, 6, 7]) (tail := [8, 9, 10]) mixed (by kernel_rfl) (by (repeat (first | with_reducible exact NoPanic.post_ | with_reducible apply NoPanic.then_ | with_reducible apply NoPanic.blk))) X.refl (fun _ _ _ => X.trans) (X.drew _) ?_
      repeat ((with_reducible refine TP.step ?_); first
        | (with_reducible first | refine E.move ?_ | refine E.assign ?_ | refine E.pickT ?_ | refine E.pickF ?_ | refine E.lss ?_ | refine E.gtr ?_ | refine E.leq ?_ | refine E.geq ?_ | refine E.eqT ?_ | refine E.neF ?_ | refine E.eql ?_ | refine E.neq ?_ | refine E.add ?_ | refine E.sub ?_ | refine E.mul ?_ | refine E.conv ?_ | refine E.shr1 ?_ | refine E.neg ?_ | refine E.not ?_ | refine E.extract ?_ | refine E.len ?_ | refine E.fld ?_ | refine E.index ?_ | refine E.skp ?_ | refine E.sliceTo ?_ | refine E.sliceFrom ?_ | refine E.eqNil ?_ | refine E.eqbT ?_ | refine E.nebF ?_ | refine E.eqb ?_ | refine E.neb ?_)
        | (with_reducible first | refine E.nc ?_ | refine E.fld ?_ (h1 := fRLP) | refine E.fld ?_ (h1 := fRLR) | refine E.fld ?_ (h1 := fOpKind) | refine E.fld ?_ (h1 := fOpPod) | refine E.fld ?_ (h1 := fOpReason)))
      refine TP.done ?_
      (with_reducible refine TC.step ?_)
      refine D.ld (by rfl) onePods (fun w' hx => (hB5.x hx).cell rfl) X.refl (by rfl) (by rfl) ?_
      (with_reducible refine TC.step ?_)
      refine D.ld (by rfl) onePods (fun w' hx => (hB2.x hx).cell rfl) X.refl (by rfl) (by rfl) ?_
      (with_reducible refine TC.step ?_)
      (with_reducible refine D.indexE (j := k) ?_)
      (with_reducible refine TC.step ?_)
      refine D.lds (cs := p.cs) (by rfl) stPod (fun w' hx j u hj => hpc w' (hX5.trans hx) j u hj) X.refl (by rfl) (by rfl) ?_
      (with_reducible refine TC.step ?_)
      refine D.mk (pSl w5.heap.size 30 1 (flat [p])) pSl.x (by rfl) (by rfl) (fun w' hx => ⟨_, _, op_buildSlice (cs := flat [p]) Tryd.underlying22 zPod rfl rfl (by rfl) rfl (by simp [Value.cells, PV.cs, PV.v]) rfl rfl, X.alloc _ _, _, rfl, Blk.new w' _ _, hx.le⟩) ?_
      refine TC.pr 30 (by rfl) fun v30 => TC.tail3 (by rfl) (by rfl) (by rfl) fun w6 h6 => ?_
      obtain ⟨hx6, g, rfl, hBg, hgB⟩ := h6
      have hX6 := hX5.trans hx6
      have hO6 := hO.x hx6
      have hI6 := hI.x hx6
      have hB26 := hB2.x hx6
      have hB46 := hB4.x hx6
      have hB56 := hB5.x hx6
      have hs6 : w4.heap.size ≤ w6.heap.size := Nat.le_trans hsz hx6.le
      have hP : PS w6 w6.heap.size (.slice (some ⟨g, 0, none⟩) 1 1) [p] := hBg.ps (L := [p]) (Nat.le_refl _)
      clear hO hI hB2 hB4 hB5 hx6 hBg
      refine S.app (by rfl) (by rfl) hO6 hP (by simp; omega) hs6 (by rfl) (by rfl) ?_
      intro vO7 w7 hO7 hg7 hat7
      have hX7 : X w w7 := hX6.grown hg7 hX6.le (fun kk e => by have := (hO6.lt kk e).1; omega)
      have hI7 := hI6.own hO6 hg7
      have hB27 := blk_own (B := 0) hB26 hO6 hg7 (by decide)
      have hB47 := blk_own (B := 0) hB46 hO6 hg7 (by decide)
      have hB57 := blk_own (B := 0) hB56 hO6 hg7 (by decide)
      have hs7 : w4.heap.size ≤ w7.heap.size := Nat.le_trans hs6 hg7.size
      clear hO6 hI6 hB26 hB46 hB56 hg7 hat7 hP
      obtain ⟨A7, c7, rfl, _⟩ := hO7.nl
      repeat (first
 | (with_reducible first
 | apply CW.seq | apply CW.region | apply CW.block | apply CW.ret | apply CW.skip | apply CW.label | apply CW.exit
 | apply W.nil | apply Fin.seq | apply Fin.then_ret | apply Fin.then_exit | apply Fin.blk_ret | apply Fin.blk_normal | apply Fin.blk_here)
 | (with_reducible first | refine S.move ?_ | refine S.assign ?_ | refine S.pickT ?_ | refine S.pickF ?_ | refine S.lss ?_ | refine S.gtr ?_ | refine S.leq ?_ | refine S.geq ?_ | refine S.eqT ?_ | refine S.neF ?_ | refine S.eql ?_ | refine S.neq ?_ | refine S.add ?_ | refine S.sub ?_ | refine S.mul ?_ | refine S.conv ?_ | refine S.shr1 ?_ | refine S.neg ?_ | refine S.not ?_ | refine S.extract ?_ | refine S.len ?_ | refine S.fld ?_ | refine S.index ?_ | refine S.skp ?_ | refine S.sliceTo ?_ | refine S.sliceFrom ?_ | refine S.eqNil ?_ | refine S.eqbT ?_ | refine S.nebF ?_ | refine S.eqb ?_ | refine S.neb ?_)
 | (with_reducible first | refine S.nc ?_ | refine S.fld ?_ (h1 := fRLP) | refine S.fld ?_ (h1 := fRLR) | refine S.fld ?_ (h1 := fOpKind) | refine S.fld ?_ (h1 := fOpPod) | refine S.fld ?_ (h1 := fOpReason) | refine S.eqP ?_ | refine S.neP ?_)
 | ((with_reducible apply CW.cond_true); exact rfl)
 | ((with_reducible apply CW.cond_false); exact rfl)
 | ((with_reducible apply Fin.blk_far); exact rfl))
      refine S.stC (o := 0 + 0) (by rfl) (by rfl) hB57 (by simp) rfl rfl szPodsS (by rfl) fun w8 hg8 hB58 => ?_
      generalize hv7 : Value.slice A7 _ c7 = v7 at *
      have hB58 : Blk w8 b5 43 [v7, vI] := hB58
      have hX8 : X w w8 := below_g hX7 hg8 hX7.le hle5
      have hO8 := hO7.g hg8 (fun e => by have := (hO7.lt b5 e).1; omega)
      have hI8 := hI7.g hg8 h54
      have hB28 : Blk w8 b2 43 _ := (show G b5 w7 w8 from hg8).blk hB27 hne25
      have hB48 : Blk w8 b4 43 _ := (show G b5 w7 w8 from hg8).blk hB47 hne45
      have hs8 : w4.heap.size ≤ w8.heap.size := Nat.le_trans hs7 hg8.size
      clear hO7 hI7 hB27 hB47 hB57 hg8 hX7
      repeat (first
 | (with_reducible first
 | apply CW.seq | apply CW.region | apply CW.block | apply CW.ret | apply CW.skip | apply CW.label | apply CW.exit
 | apply W.nil | apply Fin.seq | apply Fin.then_ret | apply Fin.then_exit | apply Fin.blk_ret | apply Fin.blk_normal | apply Fin.blk_here)
 | (with_reducible first | refine S.move ?_ | refine S.assign ?_ | refine S.pickT ?_ | refine S.pickF ?_ | refine S.lss ?_ | refine S.gtr ?_ | refine S.leq ?_ | refine S.geq ?_ | refine S.eqT ?_ | refine S.neF ?_ | refine S.eql ?_ | refine S.neq ?_ | refine S.add ?_ | refine S.sub ?_ | refine S.mul ?_ | refine S.conv ?_ | refine S.shr1 ?_ | refine S.neg ?_ | refine S.not ?_ | refine S.extract ?_ | refine S.len ?_ | refine S.fld ?_ | refine S.index ?_ | refine S.skp ?_ | refine S.sliceTo ?_ | refine S.sliceFrom ?_ | refine S.eqNil ?_ | refine S.eqbT ?_ | refine S.nebF ?_ | refine S.eqb ?_ | refine S.neb ?_)
 | (with_reducible first | refine S.nc ?_ | refine S.fld ?_ (h1 := fRLP) | refine S.fld ?_ (h1 := fRLR) | refine S.fld ?_ (h1 := fOpKind) | refine S.fld ?_ (h1 := fOpPod) | refine S.fld ?_ (h1 := fOpReason) | refine S.eqP ?_ | refine S.neP ?_)
 | ((with_reducible apply CW.cond_true); exact rfl)
 | ((with_reducible apply CW.cond_false); exact rfl)
 | ((with_reducible apply Fin.blk_far); exact rfl))
      refine wp_facts3 (R := X) (pu := [0, 2, 4]) (front := [1, 3, 5, 6, 7]) (tail := [8, 9, 10]) mixed (by kernel_rfl) (by (repeat (first | with_reducible exact NoPanic.post_ | with_reducible apply NoPanic.then_ | with_reducible apply NoPanic.blk))) X.refl (fun _ _ _ => X.trans) (X.drew _) ?_
      repeat ((with_reducible refine TP.step ?_); first
        | (with_reducible first | refine E.move ?_ | refine E.assign ?_ | refine E.pickT ?_ | refine E.pickF ?_ | refine E.lss ?_ | refine E.gtr ?_ | refine E.leq ?_ | refine E.geq ?_ | refine E.eqT ?_ | refine E.neF ?_ | refine E.eql ?_ | refine E.neq ?_ | refine E.add ?_ | refine E.sub ?_ | refine E.mul ?_ | refine E.conv ?_ | refine E.shr1 ?_ | refine E.neg ?_ | refine E.not ?_ | refine E.extract ?_ | refine E.len ?_ | refine E.fld ?_ | refine E.index ?_ | refine E.skp ?_ | refine E.sliceTo ?_ | refine E.sliceFrom ?_ | refine E.eqNil ?_ | refine E.eqbT ?_ | refine E.nebF ?_ | refine E.eqb ?_ | refine E.neb ?_)
        | (with_reducible first | refine E.nc ?_ | refine E.fld ?_ (h1 := fRLP) | refine E.fld ?_ (h1 := fRLR) | refine E.fld ?_ (h1 := fOpKind) | refine E.fld ?_ (h1 := fOpPod) | refine E.fld ?_ (h1 := fOpReason)))
      refine TP.done ?_
      (with_reducible refine TC.step ?_)
      refine D.ld (by rfl) oneInts (fun w' hx => (hB58.x hx).cell rfl) X.refl (by rfl) (by rfl) ?_
      (with_reducible refine TC.step ?_)
      refine D.ld (by rfl) oneInts (fun w' hx => (hB28.x hx).cell rfl) X.refl (by rfl) (by rfl) ?_
      (with_reducible refine TC.step ?_)
      (with_reducible refine D.indexE (j := k) ?_)
      (with_reducible refine TC.step ?_)
      ((with_reducible apply D.ld); exact rfl; (with_reducible first | exact oneInt | exact oneI64s | exact oneBool | exact oneI64 | exact onePods | exact oneMap); (intro w' hx; exact hc1 w' (hX8.trans hx)); exact X.refl; exact rfl; exact rfl)
      (with_reducible refine TC.step ?_)
      refine D.mk (pSl w8.heap.size 3 1 [.int .i64 r]) pSl.x (by rfl) (by rfl) (fun w' hx => ⟨_, _, op_buildSlice (cs := [.int .i64 r]) Tryd.underlying38 zInt1 rfl rfl (by rfl) rfl (by simp [Value.cells]) rfl rfl, X.alloc _ _, _, rfl, Blk.new w' _ _, hx.le⟩) ?_
      refine TC.pr 40 (by rfl) fun v40 => TC.tail3 (by rfl) (by rfl) (by rfl) fun w9 h9 => ?_
      obtain ⟨hx9, gi, rfl, hBgi, hgiB⟩ := h9
      have hX9 := hX8.trans hx9
      have hO9 := hO8.x hx9
      have hI9 := hI8.x hx9
      have hB29 := hB28.x hx9
      have hB49 := hB48.x hx9
      have hB59 := hB58.x hx9
      have hs9 : w4.heap.size ≤ w9.heap.size := Nat.le_trans hs8 hx9.le
      have hm : ISV w9 (fun _ => True) (.slice (some ⟨gi, 0, none⟩) 1 1) [r] := ⟨_, 1, rfl, Nat.le_refl _, rfl, fun _ => ⟨gi, 0, rfl, trivial, fun i x hi => by
        rw [Nat.zero_add]
        match i, hi with
        | 0, hi => cases hi; exact hBgi.cell rfl⟩⟩
      clear hO8 hI8 hB28 hB48 hB58 hx9
      obtain ⟨vI', w10, hrun, hI10, hg10, _, _⟩ := run_append_IF hI9 hm (by simp; omega) hs9 38
      refine W.makes (d := some 41) (v := vI') (w' := w10) (fun ev he d pos aft g => by
        have he1 := he (.tmp 34) _ (by rfl : opv _ _ = some vI)
        have he2 := he (.tmp 40) _ (by rfl : opv _ _ = some (.slice (some ⟨gi, 0, none⟩) 1 1))
        simp [execOp, resolve, invoke, builtin, he1, he2, hrun]) (by rfl) (by rfl) ?_
      have hX10 : X w w10 := hX9.grown hg10 hX9.le (fun kk e => by have := (World.ownsRow.lt hI9 kk e).1; omega)
      have hO10 := hO9.ownI hI9 hg10
      have hB210 := blk_own (B := 0) hB29 hI9 hg10 (by decide)
      have hB410 := blk_own (B := 0) hB49 hI9 hg10 (by decide)
      have hB510 := blk_own (B := 0) hB59 hI9 hg10 (by decide)
      have hs10 : w4.heap.size ≤ w10.heap.size := Nat.le_trans hs9 hg10.size
      clear hO9 hI9 hB29 hB49 hB59 hg10 hm hrun hBgi
      obtain ⟨A9, c9, rfl, _⟩ := hI10.isv
      repeat (first
 | (with_reducible first
 | apply CW.seq | apply CW.region | apply CW.block | apply CW.ret | apply CW.skip | apply CW.label | apply CW.exit
 | apply W.nil | apply Fin.seq | apply Fin.then_ret | apply Fin.then_exit | apply Fin.blk_ret | apply Fin.blk_normal | apply Fin.blk_here)
 | (with_reducible first | refine S.move ?_ | refine S.assign ?_ | refine S.pickT ?_ | refine S.pickF ?_ | refine S.lss ?_ | refine S.gtr ?_ | refine S.leq ?_ | refine S.geq ?_ | refine S.eqT ?_ | refine S.neF ?_ | refine S.eql ?_ | refine S.neq ?_ | refine S.add ?_ | refine S.sub ?_ | refine S.mul ?_ | refine S.conv ?_ | refine S.shr1 ?_ | refine S.neg ?_ | refine S.not ?_ | refine S.extract ?_ | refine S.len ?_ | refine S.fld ?_ | refine S.index ?_ | refine S.skp ?_ | refine S.sliceTo ?_ | refine S.sliceFrom ?_ | refine S.eqNil ?_ | refine S.eqbT ?_ | refine S.nebF ?_ | refine S.eqb ?_ | refine S.neb ?_)
 | (with_reducible first | refine S.nc ?_ | refine S.fld ?_ (h1 := fRLP) | refine S.fld ?_ (h1 := fRLR) | refine S.fld ?_ (h1 := fOpKind) | refine S.fld ?_ (h1 := fOpPod) | refine S.fld ?_ (h1 := fOpReason) | refine S.eqP ?_ | refine S.neP ?_)
 | ((with_reducible apply CW.cond_true); exact rfl)
 | ((with_reducible apply CW.cond_false); exact rfl)
 | ((with_reducible apply Fin.blk_far); exact rfl))
      refine S.stC (o := 0 + 1) (by rfl) (by rfl) hB510 (by simp) rfl rfl szIntsS (by rfl) fun w11 hg11 hB511 => ?_
      generalize hv9 : Value.slice A9 _ c9 = v9 at *
      have hB511 : Blk w11 b5 43 [v7, v9] := hB511
      have hO11 := hO10.g hg11 (fun e => by have := (hO10.lt b5 e).1; omega)
      have hI11 := hI10.g hg11 h54
      have hB211 : Blk w11 b2 43 _ := (show G b5 w10 w11 from hg11).blk hB210 hne25
      have hB411 : Blk w11 b4 43 _ := (show G b5 w10 w11 from hg11).blk hB410 hne45
      repeat (first
 | (with_reducible first
 | apply CW.seq | apply CW.region | apply CW.block | apply CW.ret | apply CW.skip | apply CW.label | apply CW.exit
 | apply W.nil | apply Fin.seq | apply Fin.then_ret | apply Fin.then_exit | apply Fin.blk_ret | apply Fin.blk_normal | apply Fin.blk_here)
 | (with_reducible first | refine S.move ?_ | refine S.assign ?_ | refine S.pickT ?_ | refine S.pickF ?_ | refine S.lss ?_ | refine S.gtr ?_ | refine S.leq ?_ | refine S.geq ?_ | refine S.eqT ?_ | refine S.neF ?_ | refine S.eql ?_ | refine S.neq ?_ | refine S.add ?_ | refine S.sub ?_ | refine S.mul ?_ | refine S.conv ?_ | refine S.shr1 ?_ | refine S.neg ?_ | refine S.not ?_ | refine S.extract ?_ | refine S.len ?_ | refine S.fld ?_ | refine S.index ?_ | refine S.skp ?_ | refine S.sliceTo ?_ | refine S.sliceFrom ?_ | refine S.eqNil ?_ | refine S.eqbT ?_ | refine S.nebF ?_ | refine S.eqb ?_ | refine S.neb ?_)
 | (with_reducible first | refine S.nc ?_ | refine S.fld ?_ (h1 := fRLP) | refine S.fld ?_ (h1 := fRLR) | refine S.fld ?_ (h1 := fOpKind) | refine S.fld ?_ (h1 := fOpPod) | refine S.fld ?_ (h1 := fOpReason) | refine S.eqP ?_ | refine S.neP ?_)
 | ((with_reducible apply CW.cond_true); exact rfl)
 | ((with_reducible apply CW.cond_false); exact rfl)
 | ((with_reducible apply Fin.blk_far); exact rfl))
      refine Fin.round (k + 1, v7, v9) (by simp only; omega) (by repeat (first | exact trivial | refine ⟨congrArg (fun z : Int => some (Value.int .i64 z)) (by omega), ?_⟩ | refine ⟨rfl, ?_⟩)) ⟨below_g hX10 hg11 hX10.le hle5, hk', hB211, hB411, hB511, by simp only; rw [hst, List.map_append]; exact hO11, by simp only; rw [hst, List.map_append]; exact hI11, Nat.le_trans hs10 hg11.size⟩
    · rw [if_neg (by have := of_decide_eq_false hcd; exact this)] at hst
      repeat (first
 | (with_reducible first
 | apply CW.seq | apply CW.region | apply CW.block | apply CW.ret | apply CW.skip | apply CW.label | apply CW.exit
 | apply W.nil | apply Fin.seq | apply Fin.then_ret | apply Fin.then_exit | apply Fin.blk_ret | apply Fin.blk_normal | apply Fin.blk_here)
 | (with_reducible first | refine S.move ?_ | refine S.assign ?_ | refine S.pickT ?_ | refine S.pickF ?_ | refine S.lss ?_ | refine S.gtr ?_ | refine S.leq ?_ | refine S.geq ?_ | refine S.eqT ?_ | refine S.neF ?_ | refine S.eql ?_ | refine S.neq ?_ | refine S.add ?_ | refine S.sub ?_ | refine S.mul ?_ | refine S.conv ?_ | refine S.shr1 ?_ | refine S.neg ?_ | refine S.not ?_ | refine S.extract ?_ | refine S.len ?_ | refine S.fld ?_ | refine S.index ?_ | refine S.skp ?_ | refine S.sliceTo ?_ | refine S.sliceFrom ?_ | refine S.eqNil ?_ | refine S.eqbT ?_ | refine S.nebF ?_ | refine S.eqb ?_ | refine S.neb ?_)
 | (with_reducible first | refine S.nc ?_ | refine S.fld ?_ (h1 := fRLP) | refine S.fld ?_ (h1 := fRLR) | refine S.fld ?_ (h1 := fOpKind) | refine S.fld ?_ (h1 := fOpPod) | refine S.fld ?_ (h1 := fOpReason) | refine S.eqP ?_ | refine S.neP ?_)
 | ((with_reducible apply CW.cond_true); exact rfl)
 | ((with_reducible apply CW.cond_false); exact rfl)
 | ((with_reducible apply Fin.blk_far); exact rfl))
      refine Fin.round (k + 1, vO, vI) (by simp only; omega) (by repeat (first | exact trivial | refine ⟨congrArg (fun z : Int => some (Value.int .i64 z)) (by omega), ?_⟩ | refine ⟨rfl, ?_⟩)) ⟨hX5, hk', hB2, hB4, hB5, by simp only; rw [hst]; exact hO, by simp only; rw [hst]; exact hI, hsz⟩
  · have hk2 : k = Z.length := by have := of_decide_eq_false hcd; omega
    subst hk2
    rw [List.take_length] at hO hI
    obtain ⟨A7, c7, rfl, _⟩ := hO.nl
    obtain ⟨A8, c8, rfl, _⟩ := hI.isv
    repeat (first
 | (with_reducible first
 | apply CW.seq | apply CW.region | apply CW.block | apply CW.ret | apply CW.skip | apply CW.label | apply CW.exit
 | apply W.nil | apply Fin.seq | apply Fin.then_ret | apply Fin.then_exit | apply Fin.blk_ret | apply Fin.blk_normal | apply Fin.blk_here)
 | (with_reducible first | refine S.move ?_ | refine S.assign ?_ | refine S.pickT ?_ | refine S.pickF ?_ | refine S.lss ?_ | refine S.gtr ?_ | refine S.leq ?_ | refine S.geq ?_ | refine S.eqT ?_ | refine S.neF ?_ | refine S.eql ?_ | refine S.neq ?_ | refine S.add ?_ | refine S.sub ?_ | refine S.mul ?_ | refine S.conv ?_ | refine S.shr1 ?_ | refine S.neg ?_ | refine S.not ?_ | refine S.extract ?_ | refine S.len ?_ | refine S.fld ?_ | refine S.index ?_ | refine S.skp ?_ | refine S.sliceTo ?_ | refine S.sliceFrom ?_ | refine S.eqNil ?_ | refine S.eqbT ?_ | refine S.nebF ?_ | refine S.eqb ?_ | refine S.neb ?_)
 | (with_reducible first | refine S.nc ?_ | refine S.fld ?_ (h1 := fRLP) | refine S.fld ?_ (h1 := fRLR) | refine S.fld ?_ (h1 := fOpKind) | refine S.fld ?_ (h1 := fOpPod) | refine S.fld ?_ (h1 := fOpReason) | refine S.eqP ?_ | refine S.neP ?_)
 | ((with_reducible apply CW.cond_true); exact rfl)
 | ((with_reducible apply CW.cond_false); exact rfl)
 | ((with_reducible apply Fin.blk_far); exact rfl))
    refine S.lds (cs := [.slice A7 ((keepZ Z id).map (·.1)).length c7, .slice A8 ((keepZ Z id).map (·.2)).length c8]) (by rfl) stRL (fun k u hk => by rw [Nat.zero_add]; exact hB5.cell hk) (by rfl) (by rfl) ?_
    refine S.stB (vs := [.slice A7 ((keepZ Z id).map (·.1)).length c7, .slice A8 ((keepZ Z id).map (·.2)).length c8]) (by rfl) (by rfl) rfl hB4 rfl szRL (by simp [Value.oneCell']) (by rfl) ?_
    intro w6 hg6 hB4
    repeat (first
 | (with_reducible first
 | apply CW.seq | apply CW.region | apply CW.block | apply CW.ret | apply CW.skip | apply CW.label | apply CW.exit
 | apply W.nil | apply Fin.seq | apply Fin.then_ret | apply Fin.then_exit | apply Fin.blk_ret | apply Fin.blk_normal | apply Fin.blk_here)
 | (with_reducible first | refine S.move ?_ | refine S.assign ?_ | refine S.pickT ?_ | refine S.pickF ?_ | refine S.lss ?_ | refine S.gtr ?_ | refine S.leq ?_ | refine S.geq ?_ | refine S.eqT ?_ | refine S.neF ?_ | refine S.eql ?_ | refine S.neq ?_ | refine S.add ?_ | refine S.sub ?_ | refine S.mul ?_ | refine S.conv ?_ | refine S.shr1 ?_ | refine S.neg ?_ | refine S.not ?_ | refine S.extract ?_ | refine S.len ?_ | refine S.fld ?_ | refine S.index ?_ | refine S.skp ?_ | refine S.sliceTo ?_ | refine S.sliceFrom ?_ | refine S.eqNil ?_ | refine S.eqbT ?_ | refine S.nebF ?_ | refine S.eqb ?_ | refine S.neb ?_)
 | (with_reducible first | refine S.nc ?_ | refine S.fld ?_ (h1 := fRLP) | refine S.fld ?_ (h1 := fRLR) | refine S.fld ?_ (h1 := fOpKind) | refine S.fld ?_ (h1 := fOpPod) | refine S.fld ?_ (h1 := fOpReason) | refine S.eqP ?_ | refine S.neP ?_)
 | ((with_reducible apply CW.cond_true); exact rfl)
 | ((with_reducible apply CW.cond_false); exact rfl)
 | ((with_reducible apply Fin.blk_far); exact rfl))
    refine R.c1 rfl (by rfl) hB4 stRL ⟨⟨_, _, rfl, ?_, ?_⟩, below_g hX5 hg6 hX5.le hle4⟩
    · exact (hO.psk.keep fun k hk hK => hg6.block k hk fun e => by cases e; have := hK.1; omega).mono fun b _ hb => by have := hb.1; have := hX5.le; omega
    · exact (hI.isv.keep fun k hk hK => hg6.block k hk fun e => by cases e; have := hK.1; omega).mono fun b _ hb => by have := hb.1; have := hX5.le; omega

end Go.Proofs.YtmilpjkjcanghaaDoor

/- The reference's lot: Add. -/
import Derived.Test.YtmilpjkjcanghaaDoorP9
namespace Go.Proofs.YtmilpjkjcanghaaDoor
open Go.RowKit
set_option linter.unusedVariables false
set_option linter.unusedSimpArgs false

/-- A slice made of one row. -/
def pSl (B : Nat) (e : TypeId) (n : Nat) (cs : List Value) (v : Value) (w : World) : Prop := ∃ b, v = .slice (some ⟨b, 0, none⟩) n n ∧ Blk w b e cs ∧ B ≤ b
theorem run_append_E2 {w : World} {B Bm g : Nat} {x : Value} {M : List PV} (hg : Blk w g 30 []) (hgB : B ≤ g) (hm : PS w Bm x M) (hn : M.length ≤ 1000) (ty : TypeId) :
    ∃ v' w', (Builtin.append_ #[22, 22] ty #[.slice (some ⟨g, 0, none⟩) 0 0, x]).run Tryd.prog w = .ok v' w' ∧ (OwnP w' B v' M ∧ (M = [] → ∃ g, v' = .slice (some ⟨g, 0, none⟩) 0 0 ∧ Blk w' g 30 [])) ∧ X w w' := by
  by_cases hM : M = []
  · obtain ⟨A, c, rfl, hc, hat⟩ := hm
    cases hi : Tryd.prog.info? 30 with
    | none => have := zPodB; rw [hi] at this; cases this
    | some i =>
      subst hM
      refine ⟨.slice (some ⟨g, 0, none⟩) 0 0, w, ?_, ⟨⟨rfl, .inr ⟨g, 0, #[], rfl, hgB, hg, Nat.le_refl _, by unfold maxLen; omega, rfl, rfl⟩⟩, fun _ => ⟨g, rfl, hg⟩⟩, X.refl _⟩
      cases A <;> simp [Builtin.append_, run_underlying Tryd.underlying22, sizeOf, typeInfo, hi, Builtin.lenOf, Builtin.firstCells, loadCells, loadCellsFrom, storeCells]
  · obtain ⟨v', w', h1, h2, h3⟩ := run_append_E hg hgB hm hn ty
    exact ⟨v', w', h1, ⟨h2, fun h => absurd h hM⟩, h3⟩
theorem run_append_I2 {w : World} {B g : Nat} {K : Nat → Prop} {x : Value} {m : List Int} (hg : Blk w g 3 []) (hgB : B ≤ g) (hB : B ≤ w.heap.size) (hm : ISV w K x m) (hn : m.length ≤ 1000) (ty : TypeId) :
    ∃ v' w', (Builtin.append_ #[38, 38] ty #[.slice (some ⟨g, 0, none⟩) 0 0, x]).run Tryd.prog w = .ok v' w' ∧ (OwnI w' B v' m ∧ (m = [] → ∃ g, v' = .slice (some ⟨g, 0, none⟩) 0 0 ∧ Blk w' g 3 [])) ∧ X w w' := by
  have ho : OwnI w B (.slice (some ⟨g, 0, none⟩) 0 0) [] := ⟨rfl, .inr ⟨g, 0, #[], rfl, hgB, hg, Nat.le_refl _, by unfold maxLen; omega, rfl, rfl⟩⟩
  by_cases hM : m = []
  · obtain ⟨A, c, rfl, hc, hat⟩ := hm
    cases hi : Tryd.prog.info? 3 with
    | none => have := zIntB; rw [hi] at this; cases this
    | some i =>
      subst hM
      refine ⟨.slice (some ⟨g, 0, none⟩) 0 0, w, ?_, ⟨ho, fun _ => ⟨g, rfl, hg⟩⟩, X.refl _⟩
      cases A <;> simp [Builtin.append_, run_underlying Tryd.underlying38, sizeOf, typeInfo, hi, Builtin.lenOf, Builtin.firstCells, loadCells, loadCellsFrom, storeCells]
  · obtain ⟨v', w', h1, h2, _, _, h3⟩ := run_append_IF ho hm (by simpa using hn) hB ty
    refine ⟨v', w', h1, ⟨by simpa using h2, fun h => absurd h hM⟩, ?_⟩
    rcases h3 with h3 | ⟨hpos, g', e1, _, _, hp⟩
    · exact h3
    · cases e1
      have := (hp.same hg).1
      simp at this
      exact absurd this hM

theorem built_rl (A A' : Option Addr) (n n' c c' : Nat) : Tryd.prog.built 43 [(0, .slice A n c), (1, .slice A' n' c')] = some #[.slice A n c, .slice A' n' c'] := by kernel_rfl

section
variable {B n : Nat} {p : PV} {r : Int} {w w' : World}
theorem PutR.pSl {e : TypeId} {m : Nat} {cs : List Value} {v : Value} (h : PutR B n p r w w') (h9 : e = 30 → cs.length ≤ 9) (h1 : e = 3 → cs.length ≤ 1) (hp : pSl B e m cs v w) : pSl B e m cs v w' := by
  obtain ⟨b, e1, e2, e3⟩ := hp
  exact ⟨b, e1, h.short e2 h9 h1, e3⟩
def pL (B : Nat) (L : List PV) (v : Value) (w : World) : Prop := OwnP w B v L ∧ (L = [] → ∃ g, v = .slice (some ⟨g, 0, none⟩) 0 0 ∧ Blk w g 30 [])
def pI (B : Nat) (l : List Int) (v : Value) (w : World) : Prop := OwnI w B v l ∧ (l = [] → ∃ g, v = .slice (some ⟨g, 0, none⟩) 0 0 ∧ Blk w g 3 [])
theorem PutR.pL {L : List PV} {v : Value} (h : PutR B n p r w w') (hl : L.length = n) (hp : pL B L v w) : pL B L v w' :=
  ⟨own_R h hp.1 (fun _ _ => .inl (by rw [flat_length, hl])) (fun e => absurd e (by decide)), fun h0 => by
    obtain ⟨g, e1, e2⟩ := hp.2 h0
    exact ⟨g, e1, h.short e2 (fun _ => by simp) (fun _ => by simp)⟩⟩
theorem PutR.pI {l : List Int} {v : Value} (h : PutR B n p r w w') (hl : l.length = n) (hp : pI B l v w) : pI B l v w' :=
  ⟨own_R h hp.1 (fun e => absurd e (by decide)) (fun _ _ => .inl (by simpa using hl)), fun h0 => by
    obtain ⟨g, e1, e2⟩ := hp.2 h0
    exact ⟨g, e1, h.short e2 (fun _ => by simp) (fun _ => by simp)⟩⟩
theorem PutR.ownP {L : List PV} {v : Value} (h : PutR B n p r w w') (hl : L.length = n) (hp : OwnP w B v (L ++ [p])) : OwnP w' B v (L ++ [p]) :=
  own_R h hp (fun _ _ => .inr ⟨flat L, by rw [flat_append]; simp [flat], by rw [flat_length, hl]⟩) (fun e => absurd e (by decide))
theorem PutR.ownI {l : List Int} {v : Value} (h : PutR B n p r w w') (hl : l.length = n) (hp : OwnI w B v (l ++ [r])) : OwnI w' B v (l ++ [r]) :=
  own_R h hp (fun e => absurd e (by decide)) (fun _ _ => .inr ⟨l.map (Value.int .i64), by simp, by simpa using hl⟩)
end

set_option maxHeartbeats 2000000 in
theorem refAdd_calls (a b : Value) (Z : List (PV × Int)) (p : PV) (r : Int) (w : World) (h : RLt w (fun _ => True) a b Z) (hn : Z.length ≤ 400) :
    CallsR Tryd.prog 29 [lotV a b, p.v, .int .i64 r] w fun v w' => X w w' ∧
      if decide (1 ≤ r) && decide (r ≤ 4) && !hasR (Z.map (·.1)) p.id then ∃ a' b', v = .tuple #[lotV a' b', .bool true] ∧ RLt w' (w.heap.size ≤ ·) a' b' (Z ++ [(p, r)]) else v = .tuple #[lotV a b, .bool false] := by
  obtain ⟨ha1, hb1, ha2, hb2⟩ := h.cells
  have hones : ∀ u ∈ [a, b], u.oneCell' = true := by simp [ha1, hb1]
  refine enter3 Tryd.func29 rfl Tryd.ntmps29 rfl ?_
  refine CW.seq ?_
  refine CW.region ?_
  refine W.newBlk (d := some 3) (mk := fun b => .pointer (some ⟨b, 0, none⟩)) (cs := [a, b]) (op_box (by rfl) (by rfl)) (by rfl) (by rfl) ?_
  intro b3 w1 hx1 hb3 hB3
  refine W.newBlk (d := some 4) (mk := fun b => .pointer (some ⟨b, 0, none⟩)) (cs := p.cs) (op_box (by rfl) (by rfl)) (by rfl) (by rfl) ?_
  intro b4 w2 hx2 hb4 hB4
  refine W.newBlk (d := some 6) (mk := fun b => .pointer (some ⟨b, 0, none⟩)) (cs := [.slice none 0 0, .slice none 0 0]) (op_alloc' zRL rfl) (by rfl) (by rfl) ?_
  intro b6 w3 hx3 hb6 hB6
  have hB3 := (hB3.x hx2).x hx3
  have hB4 := hB4.x hx3
  have hX3 := (hx1.trans hx2).trans hx3
  have hle6 : w.heap.size ≤ b6 := by have := hx1.le; have := hx2.le; omega
  have hlt : b6 < w3.heap.size := hB6.lt
  clear hx2 hx3
  have hno : (decide (1 ≤ r) && decide (r ≤ 4) && !hasR (Z.map (·.1)) p.id) = false → ∀ w', w3.grownBy w' (some b6) → X w w' ∧ if decide (1 ≤ r) && decide (r ≤ 4) && !hasR (Z.map (·.1)) p.id then ∃ a' b', Value.tuple #[lotV a b, .bool false] = .tuple #[lotV a' b', .bool true] ∧ RLt w' (w.heap.size ≤ ·) a' b' (Z ++ [(p, r)]) else Value.tuple #[lotV a b, .bool false] = .tuple #[lotV a b, .bool false] := fun e w' hg => by
    rw [e]
    exact ⟨below_g hX3 hg hX3.le hle6, by simp⟩
  repeat (first
 | (with_reducible first
 | apply CW.seq | apply CW.region | apply CW.block | apply CW.ret | apply CW.skip | apply CW.label | apply CW.exit
 | apply W.nil | apply Fin.seq | apply Fin.then_ret | apply Fin.then_exit | apply Fin.blk_ret | apply Fin.blk_normal | apply Fin.blk_here)
 | (with_reducible first | refine S.move ?_ | refine S.assign ?_ | refine S.pickT ?_ | refine S.pickF ?_ | refine S.lss ?_ | refine S.gtr ?_ | refine S.leq ?_ | refine S.geq ?_ | refine S.eqT ?_ | refine S.neF ?_ | refine S.eql ?_ | refine S.neq ?_ | refine S.add ?_ | refine S.sub ?_ | refine S.mul ?_ | refine S.conv ?_ | refine S.shr1 ?_ | refine S.neg ?_ | refine S.not ?_ | refine S.extract ?_ | refine S.len ?_ | refine S.fld ?_ | refine S.index ?_ | refine S.skp ?_ | refine S.sliceTo ?_ | refine S.sliceFrom ?_ | refine S.eqNil ?_ | refine S.eqbT ?_ | refine S.nebF ?_ | refine S.eqb ?_ | refine S.neb ?_)
 | (with_reducible first | refine S.nc ?_ | refine S.fld ?_ (h1 := fRLP) | refine S.fld ?_ (h1 := fRLR) | refine S.fld ?_ (h1 := fOpKind) | refine S.fld ?_ (h1 := fOpPod) | refine S.fld ?_ (h1 := fOpReason) | refine S.eqP ?_ | refine S.neP ?_)
 | ((with_reducible apply CW.cond_true); exact rfl)
 | ((with_reducible apply CW.cond_false); exact rfl)
 | ((with_reducible apply Fin.blk_far); exact rfl))
  refine W.bool (fun h1 => ?_) (fun h1 => ?_)
  · have h1 := of_decide_eq_true h1
    repeat (first
 | (with_reducible first
 | apply CW.seq | apply CW.region | apply CW.block | apply CW.ret | apply CW.skip | apply CW.label | apply CW.exit
 | apply W.nil | apply Fin.seq | apply Fin.then_ret | apply Fin.then_exit | apply Fin.blk_ret | apply Fin.blk_normal | apply Fin.blk_here)
 | (with_reducible first | refine S.move ?_ | refine S.assign ?_ | refine S.pickT ?_ | refine S.pickF ?_ | refine S.lss ?_ | refine S.gtr ?_ | refine S.leq ?_ | refine S.geq ?_ | refine S.eqT ?_ | refine S.neF ?_ | refine S.eql ?_ | refine S.neq ?_ | refine S.add ?_ | refine S.sub ?_ | refine S.mul ?_ | refine S.conv ?_ | refine S.shr1 ?_ | refine S.neg ?_ | refine S.not ?_ | refine S.extract ?_ | refine S.len ?_ | refine S.fld ?_ | refine S.index ?_ | refine S.skp ?_ | refine S.sliceTo ?_ | refine S.sliceFrom ?_ | refine S.eqNil ?_ | refine S.eqbT ?_ | refine S.nebF ?_ | refine S.eqb ?_ | refine S.neb ?_)
 | (with_reducible first | refine S.nc ?_ | refine S.fld ?_ (h1 := fRLP) | refine S.fld ?_ (h1 := fRLR) | refine S.fld ?_ (h1 := fOpKind) | refine S.fld ?_ (h1 := fOpPod) | refine S.fld ?_ (h1 := fOpReason) | refine S.eqP ?_ | refine S.neP ?_)
 | ((with_reducible apply CW.cond_true); exact rfl)
 | ((with_reducible apply CW.cond_false); exact rfl)
 | ((with_reducible apply Fin.blk_far); exact rfl))
    refine S.lds (cs := [a, b]) (by rfl) stRL (fun k u hk => by rw [Nat.zero_add]; exact hB3.cell hk) (by rfl) (by rfl) ?_
    refine S.stB (vs := [a, b]) (by rfl) (by rfl) rfl hB6 rfl szRL hones (by rfl) ?_
    intro w4 hg4 hB6
    repeat (first
 | (with_reducible first
 | apply CW.seq | apply CW.region | apply CW.block | apply CW.ret | apply CW.skip | apply CW.label | apply CW.exit
 | apply W.nil | apply Fin.seq | apply Fin.then_ret | apply Fin.then_exit | apply Fin.blk_ret | apply Fin.blk_normal | apply Fin.blk_here)
 | (with_reducible first | refine S.move ?_ | refine S.assign ?_ | refine S.pickT ?_ | refine S.pickF ?_ | refine S.lss ?_ | refine S.gtr ?_ | refine S.leq ?_ | refine S.geq ?_ | refine S.eqT ?_ | refine S.neF ?_ | refine S.eql ?_ | refine S.neq ?_ | refine S.add ?_ | refine S.sub ?_ | refine S.mul ?_ | refine S.conv ?_ | refine S.shr1 ?_ | refine S.neg ?_ | refine S.not ?_ | refine S.extract ?_ | refine S.len ?_ | refine S.fld ?_ | refine S.index ?_ | refine S.skp ?_ | refine S.sliceTo ?_ | refine S.sliceFrom ?_ | refine S.eqNil ?_ | refine S.eqbT ?_ | refine S.nebF ?_ | refine S.eqb ?_ | refine S.neb ?_)
 | (with_reducible first | refine S.nc ?_ | refine S.fld ?_ (h1 := fRLP) | refine S.fld ?_ (h1 := fRLR) | refine S.fld ?_ (h1 := fOpKind) | refine S.fld ?_ (h1 := fOpPod) | refine S.fld ?_ (h1 := fOpReason) | refine S.eqP ?_ | refine S.neP ?_)
 | ((with_reducible apply CW.cond_true); exact rfl)
 | ((with_reducible apply CW.cond_false); exact rfl)
 | ((with_reducible apply Fin.blk_far); exact rfl))
    exact R.c2 rfl (by rfl) (by rfl) hB6 stRL (hno (by rw [decide_eq_false (by omega : ¬ 1 ≤ r)]; rfl) w4 hg4)
  have h1 := of_decide_eq_false h1
  repeat (first
 | (with_reducible first
 | apply CW.seq | apply CW.region | apply CW.block | apply CW.ret | apply CW.skip | apply CW.label | apply CW.exit
 | apply W.nil | apply Fin.seq | apply Fin.then_ret | apply Fin.then_exit | apply Fin.blk_ret | apply Fin.blk_normal | apply Fin.blk_here)
 | (with_reducible first | refine S.move ?_ | refine S.assign ?_ | refine S.pickT ?_ | refine S.pickF ?_ | refine S.lss ?_ | refine S.gtr ?_ | refine S.leq ?_ | refine S.geq ?_ | refine S.eqT ?_ | refine S.neF ?_ | refine S.eql ?_ | refine S.neq ?_ | refine S.add ?_ | refine S.sub ?_ | refine S.mul ?_ | refine S.conv ?_ | refine S.shr1 ?_ | refine S.neg ?_ | refine S.not ?_ | refine S.extract ?_ | refine S.len ?_ | refine S.fld ?_ | refine S.index ?_ | refine S.skp ?_ | refine S.sliceTo ?_ | refine S.sliceFrom ?_ | refine S.eqNil ?_ | refine S.eqbT ?_ | refine S.nebF ?_ | refine S.eqb ?_ | refine S.neb ?_)
 | (with_reducible first | refine S.nc ?_ | refine S.fld ?_ (h1 := fRLP) | refine S.fld ?_ (h1 := fRLR) | refine S.fld ?_ (h1 := fOpKind) | refine S.fld ?_ (h1 := fOpPod) | refine S.fld ?_ (h1 := fOpReason) | refine S.eqP ?_ | refine S.neP ?_)
 | ((with_reducible apply CW.cond_true); exact rfl)
 | ((with_reducible apply CW.cond_false); exact rfl)
 | ((with_reducible apply Fin.blk_far); exact rfl))
  refine W.bool (fun h2 => ?_) (fun h2 => ?_)
  · have h2 := of_decide_eq_true h2
    repeat (first
 | (with_reducible first
 | apply CW.seq | apply CW.region | apply CW.block | apply CW.ret | apply CW.skip | apply CW.label | apply CW.exit
 | apply W.nil | apply Fin.seq | apply Fin.then_ret | apply Fin.then_exit | apply Fin.blk_ret | apply Fin.blk_normal | apply Fin.blk_here)
 | (with_reducible first | refine S.move ?_ | refine S.assign ?_ | refine S.pickT ?_ | refine S.pickF ?_ | refine S.lss ?_ | refine S.gtr ?_ | refine S.leq ?_ | refine S.geq ?_ | refine S.eqT ?_ | refine S.neF ?_ | refine S.eql ?_ | refine S.neq ?_ | refine S.add ?_ | refine S.sub ?_ | refine S.mul ?_ | refine S.conv ?_ | refine S.shr1 ?_ | refine S.neg ?_ | refine S.not ?_ | refine S.extract ?_ | refine S.len ?_ | refine S.fld ?_ | refine S.index ?_ | refine S.skp ?_ | refine S.sliceTo ?_ | refine S.sliceFrom ?_ | refine S.eqNil ?_ | refine S.eqbT ?_ | refine S.nebF ?_ | refine S.eqb ?_ | refine S.neb ?_)
 | (with_reducible first | refine S.nc ?_ | refine S.fld ?_ (h1 := fRLP) | refine S.fld ?_ (h1 := fRLR) | refine S.fld ?_ (h1 := fOpKind) | refine S.fld ?_ (h1 := fOpPod) | refine S.fld ?_ (h1 := fOpReason) | refine S.eqP ?_ | refine S.neP ?_)
 | ((with_reducible apply CW.cond_true); exact rfl)
 | ((with_reducible apply CW.cond_false); exact rfl)
 | ((with_reducible apply Fin.blk_far); exact rfl))
    refine S.lds (cs := [a, b]) (by rfl) stRL (fun k u hk => by rw [Nat.zero_add]; exact hB3.cell hk) (by rfl) (by rfl) ?_
    refine S.stB (vs := [a, b]) (by rfl) (by rfl) rfl hB6 rfl szRL hones (by rfl) ?_
    intro w4 hg4 hB6
    repeat (first
 | (with_reducible first
 | apply CW.seq | apply CW.region | apply CW.block | apply CW.ret | apply CW.skip | apply CW.label | apply CW.exit
 | apply W.nil | apply Fin.seq | apply Fin.then_ret | apply Fin.then_exit | apply Fin.blk_ret | apply Fin.blk_normal | apply Fin.blk_here)
 | (with_reducible first | refine S.move ?_ | refine S.assign ?_ | refine S.pickT ?_ | refine S.pickF ?_ | refine S.lss ?_ | refine S.gtr ?_ | refine S.leq ?_ | refine S.geq ?_ | refine S.eqT ?_ | refine S.neF ?_ | refine S.eql ?_ | refine S.neq ?_ | refine S.add ?_ | refine S.sub ?_ | refine S.mul ?_ | refine S.conv ?_ | refine S.shr1 ?_ | refine S.neg ?_ | refine S.not ?_ | refine S.extract ?_ | refine S.len ?_ | refine S.fld ?_ | refine S.index ?_ | refine S.skp ?_ | refine S.sliceTo ?_ | refine S.sliceFrom ?_ | refine S.eqNil ?_ | refine S.eqbT ?_ | refine S.nebF ?_ | refine S.eqb ?_ | refine S.neb ?_)
 | (with_reducible first | refine S.nc ?_ | refine S.fld ?_ (h1 := fRLP) | refine S.fld ?_ (h1 := fRLR) | refine S.fld ?_ (h1 := fOpKind) | refine S.fld ?_ (h1 := fOpPod) | refine S.fld ?_ (h1 := fOpReason) | refine S.eqP ?_ | refine S.neP ?_)
 | ((with_reducible apply CW.cond_true); exact rfl)
 | ((with_reducible apply CW.cond_false); exact rfl)
 | ((with_reducible apply Fin.blk_far); exact rfl))
    exact R.c2 rfl (by rfl) (by rfl) hB6 stRL (hno (by rw [decide_eq_false (by omega : ¬ r ≤ 4)]; simp) w4 hg4)
  have h2 := of_decide_eq_false h2
  have hok : (decide (1 ≤ r) && decide (r ≤ 4) && !hasR (Z.map (·.1)) p.id) = !hasR (Z.map (·.1)) p.id := by
    rw [decide_eq_true (by omega : 1 ≤ r), decide_eq_true (by omega : r ≤ 4)]; rfl
  have hfh := findR_has (Z.map (·.1)) p.id
  repeat (first
 | (with_reducible first
 | apply CW.seq | apply CW.region | apply CW.block | apply CW.ret | apply CW.skip | apply CW.label | apply CW.exit
 | apply W.nil | apply Fin.seq | apply Fin.then_ret | apply Fin.then_exit | apply Fin.blk_ret | apply Fin.blk_normal | apply Fin.blk_here)
 | (with_reducible first | refine S.move ?_ | refine S.assign ?_ | refine S.pickT ?_ | refine S.pickF ?_ | refine S.lss ?_ | refine S.gtr ?_ | refine S.leq ?_ | refine S.geq ?_ | refine S.eqT ?_ | refine S.neF ?_ | refine S.eql ?_ | refine S.neq ?_ | refine S.add ?_ | refine S.sub ?_ | refine S.mul ?_ | refine S.conv ?_ | refine S.shr1 ?_ | refine S.neg ?_ | refine S.not ?_ | refine S.extract ?_ | refine S.len ?_ | refine S.fld ?_ | refine S.index ?_ | refine S.skp ?_ | refine S.sliceTo ?_ | refine S.sliceFrom ?_ | refine S.eqNil ?_ | refine S.eqbT ?_ | refine S.nebF ?_ | refine S.eqb ?_ | refine S.neb ?_)
 | (with_reducible first | refine S.nc ?_ | refine S.fld ?_ (h1 := fRLP) | refine S.fld ?_ (h1 := fRLR) | refine S.fld ?_ (h1 := fOpKind) | refine S.fld ?_ (h1 := fOpPod) | refine S.fld ?_ (h1 := fOpReason) | refine S.eqP ?_ | refine S.neP ?_)
 | ((with_reducible apply CW.cond_true); exact rfl)
 | ((with_reducible apply CW.cond_false); exact rfl)
 | ((with_reducible apply Fin.blk_far); exact rfl))
  refine S.ld (by rfl) onePods (hB3.cell rfl) (by rfl) (by rfl) ?_
  repeat (first
 | (with_reducible first
 | apply CW.seq | apply CW.region | apply CW.block | apply CW.ret | apply CW.skip | apply CW.label | apply CW.exit
 | apply W.nil | apply Fin.seq | apply Fin.then_ret | apply Fin.then_exit | apply Fin.blk_ret | apply Fin.blk_normal | apply Fin.blk_here)
 | (with_reducible first | refine S.move ?_ | refine S.assign ?_ | refine S.pickT ?_ | refine S.pickF ?_ | refine S.lss ?_ | refine S.gtr ?_ | refine S.leq ?_ | refine S.geq ?_ | refine S.eqT ?_ | refine S.neF ?_ | refine S.eql ?_ | refine S.neq ?_ | refine S.add ?_ | refine S.sub ?_ | refine S.mul ?_ | refine S.conv ?_ | refine S.shr1 ?_ | refine S.neg ?_ | refine S.not ?_ | refine S.extract ?_ | refine S.len ?_ | refine S.fld ?_ | refine S.index ?_ | refine S.skp ?_ | refine S.sliceTo ?_ | refine S.sliceFrom ?_ | refine S.eqNil ?_ | refine S.eqbT ?_ | refine S.nebF ?_ | refine S.eqb ?_ | refine S.neb ?_)
 | (with_reducible first | refine S.nc ?_ | refine S.fld ?_ (h1 := fRLP) | refine S.fld ?_ (h1 := fRLR) | refine S.fld ?_ (h1 := fOpKind) | refine S.fld ?_ (h1 := fOpPod) | refine S.fld ?_ (h1 := fOpReason) | refine S.eqP ?_ | refine S.neP ?_)
 | ((with_reducible apply CW.cond_true); exact rfl)
 | ((with_reducible apply CW.cond_false); exact rfl)
 | ((with_reducible apply Fin.blk_far); exact rfl))
  ((with_reducible apply S.ld); exact rfl; (with_reducible first | exact oneInt | exact oneI64s | exact oneBool | exact oneI64 | exact onePods | exact oneMap); (exact hB4.cell rfl); exact rfl; exact rfl)
  refine S.cl (op_call ent23 (by rfl) (by rfl)) (by rfl) (by rfl) (Find_calls a _ p.id w3 (h.ps.x hX3).ps (by simpa using by omega)) ?_
  rintro _ w4 ⟨rfl, rfl⟩
  repeat (first
 | (with_reducible first
 | apply CW.seq | apply CW.region | apply CW.block | apply CW.ret | apply CW.skip | apply CW.label | apply CW.exit
 | apply W.nil | apply Fin.seq | apply Fin.then_ret | apply Fin.then_exit | apply Fin.blk_ret | apply Fin.blk_normal | apply Fin.blk_here)
 | (with_reducible first | refine S.move ?_ | refine S.assign ?_ | refine S.pickT ?_ | refine S.pickF ?_ | refine S.lss ?_ | refine S.gtr ?_ | refine S.leq ?_ | refine S.geq ?_ | refine S.eqT ?_ | refine S.neF ?_ | refine S.eql ?_ | refine S.neq ?_ | refine S.add ?_ | refine S.sub ?_ | refine S.mul ?_ | refine S.conv ?_ | refine S.shr1 ?_ | refine S.neg ?_ | refine S.not ?_ | refine S.extract ?_ | refine S.len ?_ | refine S.fld ?_ | refine S.index ?_ | refine S.skp ?_ | refine S.sliceTo ?_ | refine S.sliceFrom ?_ | refine S.eqNil ?_ | refine S.eqbT ?_ | refine S.nebF ?_ | refine S.eqb ?_ | refine S.neb ?_)
 | (with_reducible first | refine S.nc ?_ | refine S.fld ?_ (h1 := fRLP) | refine S.fld ?_ (h1 := fRLR) | refine S.fld ?_ (h1 := fOpKind) | refine S.fld ?_ (h1 := fOpPod) | refine S.fld ?_ (h1 := fOpReason) | refine S.eqP ?_ | refine S.neP ?_)
 | ((with_reducible apply CW.cond_true); exact rfl)
 | ((with_reducible apply CW.cond_false); exact rfl)
 | ((with_reducible apply Fin.blk_far); exact rfl))
  refine CW.cond (by rfl) (fun h3 => ?_) (fun h3 => ?_)
  · have h3 : hasR (Z.map (·.1)) p.id = true := by
      have := of_decide_eq_true h3
      rw [decide_eq_false (by omega)] at hfh
      simpa using hfh
    repeat (first
 | (with_reducible first
 | apply CW.seq | apply CW.region | apply CW.block | apply CW.ret | apply CW.skip | apply CW.label | apply CW.exit
 | apply W.nil | apply Fin.seq | apply Fin.then_ret | apply Fin.then_exit | apply Fin.blk_ret | apply Fin.blk_normal | apply Fin.blk_here)
 | (with_reducible first | refine S.move ?_ | refine S.assign ?_ | refine S.pickT ?_ | refine S.pickF ?_ | refine S.lss ?_ | refine S.gtr ?_ | refine S.leq ?_ | refine S.geq ?_ | refine S.eqT ?_ | refine S.neF ?_ | refine S.eql ?_ | refine S.neq ?_ | refine S.add ?_ | refine S.sub ?_ | refine S.mul ?_ | refine S.conv ?_ | refine S.shr1 ?_ | refine S.neg ?_ | refine S.not ?_ | refine S.extract ?_ | refine S.len ?_ | refine S.fld ?_ | refine S.index ?_ | refine S.skp ?_ | refine S.sliceTo ?_ | refine S.sliceFrom ?_ | refine S.eqNil ?_ | refine S.eqbT ?_ | refine S.nebF ?_ | refine S.eqb ?_ | refine S.neb ?_)
 | (with_reducible first | refine S.nc ?_ | refine S.fld ?_ (h1 := fRLP) | refine S.fld ?_ (h1 := fRLR) | refine S.fld ?_ (h1 := fOpKind) | refine S.fld ?_ (h1 := fOpPod) | refine S.fld ?_ (h1 := fOpReason) | refine S.eqP ?_ | refine S.neP ?_)
 | ((with_reducible apply CW.cond_true); exact rfl)
 | ((with_reducible apply CW.cond_false); exact rfl)
 | ((with_reducible apply Fin.blk_far); exact rfl))
    refine S.lds (cs := [a, b]) (by rfl) stRL (fun k u hk => by rw [Nat.zero_add]; exact hB3.cell hk) (by rfl) (by rfl) ?_
    refine S.stB (vs := [a, b]) (by rfl) (by rfl) rfl hB6 rfl szRL hones (by rfl) ?_
    intro w5 hg5 hB6
    repeat (first
 | (with_reducible first
 | apply CW.seq | apply CW.region | apply CW.block | apply CW.ret | apply CW.skip | apply CW.label | apply CW.exit
 | apply W.nil | apply Fin.seq | apply Fin.then_ret | apply Fin.then_exit | apply Fin.blk_ret | apply Fin.blk_normal | apply Fin.blk_here)
 | (with_reducible first | refine S.move ?_ | refine S.assign ?_ | refine S.pickT ?_ | refine S.pickF ?_ | refine S.lss ?_ | refine S.gtr ?_ | refine S.leq ?_ | refine S.geq ?_ | refine S.eqT ?_ | refine S.neF ?_ | refine S.eql ?_ | refine S.neq ?_ | refine S.add ?_ | refine S.sub ?_ | refine S.mul ?_ | refine S.conv ?_ | refine S.shr1 ?_ | refine S.neg ?_ | refine S.not ?_ | refine S.extract ?_ | refine S.len ?_ | refine S.fld ?_ | refine S.index ?_ | refine S.skp ?_ | refine S.sliceTo ?_ | refine S.sliceFrom ?_ | refine S.eqNil ?_ | refine S.eqbT ?_ | refine S.nebF ?_ | refine S.eqb ?_ | refine S.neb ?_)
 | (with_reducible first | refine S.nc ?_ | refine S.fld ?_ (h1 := fRLP) | refine S.fld ?_ (h1 := fRLR) | refine S.fld ?_ (h1 := fOpKind) | refine S.fld ?_ (h1 := fOpPod) | refine S.fld ?_ (h1 := fOpReason) | refine S.eqP ?_ | refine S.neP ?_)
 | ((with_reducible apply CW.cond_true); exact rfl)
 | ((with_reducible apply CW.cond_false); exact rfl)
 | ((with_reducible apply Fin.blk_far); exact rfl))
    exact R.c2 rfl (by rfl) (by rfl) hB6 stRL (hno (by rw [hok, h3]; rfl) w5 hg5)
  have h3 : hasR (Z.map (·.1)) p.id = false := by
    have := of_decide_eq_false h3
    rw [decide_eq_true (by omega)] at hfh
    simpa using hfh.symm
  rw [hok, h3]
  simp only [Bool.not_false, if_true]
  have hps4 := h.ps.x hX3
  have his4 := h.is.x hX3
  have hl1 : (Z.map (·.1)).length = Z.length := by simp
  have hl2 : (Z.map (·.2)).length = Z.length := by simp
  have hZ1 : (Z ++ [(p, r)]).map (·.1) = Z.map (·.1) ++ [p] := by simp
  have hZ2 : (Z ++ [(p, r)]).map (·.2) = Z.map (·.2) ++ [r] := by simp
  generalize hLe : Z.map (·.1) = L at *
  generalize hle : Z.map (·.2) = l at *
  clear hno hok hfh h3 hx1 hb3 hb4 h
  have hs4 : ∀ w', PutR w4.heap.size Z.length p r w4 w' → X w4 w' := fun w' h => h.x (Nat.le_refl _)
  repeat (first
 | (with_reducible first
 | apply CW.seq | apply CW.region | apply CW.block | apply CW.ret | apply CW.skip | apply CW.label | apply CW.exit
 | apply W.nil | apply Fin.seq | apply Fin.then_ret | apply Fin.then_exit | apply Fin.blk_ret | apply Fin.blk_normal | apply Fin.blk_here)
 | (with_reducible first | refine S.move ?_ | refine S.assign ?_ | refine S.pickT ?_ | refine S.pickF ?_ | refine S.lss ?_ | refine S.gtr ?_ | refine S.leq ?_ | refine S.geq ?_ | refine S.eqT ?_ | refine S.neF ?_ | refine S.eql ?_ | refine S.neq ?_ | refine S.add ?_ | refine S.sub ?_ | refine S.mul ?_ | refine S.conv ?_ | refine S.shr1 ?_ | refine S.neg ?_ | refine S.not ?_ | refine S.extract ?_ | refine S.len ?_ | refine S.fld ?_ | refine S.index ?_ | refine S.skp ?_ | refine S.sliceTo ?_ | refine S.sliceFrom ?_ | refine S.eqNil ?_ | refine S.eqbT ?_ | refine S.nebF ?_ | refine S.eqb ?_ | refine S.neb ?_)
 | (with_reducible first | refine S.nc ?_ | refine S.fld ?_ (h1 := fRLP) | refine S.fld ?_ (h1 := fRLR) | refine S.fld ?_ (h1 := fOpKind) | refine S.fld ?_ (h1 := fOpPod) | refine S.fld ?_ (h1 := fOpReason) | refine S.eqP ?_ | refine S.neP ?_)
 | ((with_reducible apply CW.cond_true); exact rfl)
 | ((with_reducible apply CW.cond_false); exact rfl)
 | ((with_reducible apply Fin.blk_far); exact rfl))
  refine wp_facts3 (R := PutR w4.heap.size Z.length p r) (pu := [1, 8, 11]) (front := [0, 2, 3, 4, 5, 6, 7, 9, 10, 12, 13, 14]) (tail := [15, 16]) mixed (by kernel_rfl) (by (repeat (first | with_reducible exact NoPanic.post_ | with_reducible apply NoPanic.then_ | with_reducible apply NoPanic.blk))) PutR.refl (fun _ _ _ => PutR.trans) (PutR.of_x (X.drew _)) ?_
  repeat ((with_reducible refine TP.step ?_); first
    | (with_reducible first | refine E.move ?_ | refine E.assign ?_ | refine E.pickT ?_ | refine E.pickF ?_ | refine E.lss ?_ | refine E.gtr ?_ | refine E.leq ?_ | refine E.geq ?_ | refine E.eqT ?_ | refine E.neF ?_ | refine E.eql ?_ | refine E.neq ?_ | refine E.add ?_ | refine E.sub ?_ | refine E.mul ?_ | refine E.conv ?_ | refine E.shr1 ?_ | refine E.neg ?_ | refine E.not ?_ | refine E.extract ?_ | refine E.len ?_ | refine E.fld ?_ | refine E.index ?_ | refine E.skp ?_ | refine E.sliceTo ?_ | refine E.sliceFrom ?_ | refine E.eqNil ?_ | refine E.eqbT ?_ | refine E.nebF ?_ | refine E.eqb ?_ | refine E.neb ?_)
    | (with_reducible first | refine E.nc ?_ | refine E.fld ?_ (h1 := fRLP) | refine E.fld ?_ (h1 := fRLR) | refine E.fld ?_ (h1 := fOpKind) | refine E.fld ?_ (h1 := fOpPod) | refine E.fld ?_ (h1 := fOpReason)))
  refine TP.done ?_
  (with_reducible refine TC.step ?_)
  refine D.mk (pSl w4.heap.size 30 0 []) (fun v _ _ hx => hx.pSl (fun _ => by simp) (fun _ => by simp)) (by rfl) (by rfl) (fun w' hx => ⟨_, _, op_buildSlice (cs := []) Tryd.underlying22 zPod rfl rfl (by rfl) rfl (by simp) rfl rfl, PutR.of_x (X.alloc _ _), _, rfl, Blk.new w' _ _, (hs4 _ hx).le⟩) ?_
  (with_reducible refine TC.step ?_)
  refine D.ld (by rfl) onePods (fun w' hx => (hB3.x (hs4 _ hx)).cell rfl) PutR.refl (by rfl) (by rfl) ?_
  (with_reducible refine TC.step ?_)
  refine D.one (pL w4.heap.size L) (fun v _ _ hx => hx.pL hl1) (by rfl) (by rfl) (fun ev w' hr he hp => ?_) ?_
  · obtain ⟨g, e1, hB, hg⟩ := hp 23 _ (by simp [Op.operands, Call.operands]) (by rfl)
    have e2 := he (.tmp 25) _ (by rfl : opL _ _ _ = some a)
    obtain ⟨v', w'', hrun, h1, h2⟩ := run_append_E2 hB hg (hps4.x (hs4 _ hr)).ps (by omega) 22
    unfold OpT
    simp [execOp, resolve, invoke, builtin, e1, e2, hrun]
    exact ⟨PutR.of_x h2, h1⟩
  (with_reducible refine TC.step ?_)
  refine D.lds (cs := p.cs) (by rfl) stPod (fun w' hx j u hj => by rw [Nat.zero_add]; exact (hB4.x (hs4 _ hx)).cell hj) PutR.refl (by rfl) (by rfl) ?_
  (with_reducible refine TC.step ?_)
  refine D.mk (pSl w4.heap.size 30 1 (flat [p])) (fun v _ _ hx => hx.pSl (fun _ => by rw [flat_length]; exact Nat.le_refl _) (fun e => absurd e (by decide))) (by rfl) (by rfl) (fun w' hx => ⟨_, _, op_buildSlice (cs := flat [p]) Tryd.underlying22 zPod rfl rfl (by rfl) rfl (by simp [Value.cells, PV.cs, PV.v]) rfl rfl, PutR.of_x (X.alloc _ _), _, rfl, Blk.new w' _ _, (hs4 _ hx).le⟩) ?_
  (with_reducible refine TC.step ?_)
  refine D.one (fun v w' => OwnP w' w4.heap.size v (L ++ [p])) (fun v _ _ hx => hx.ownP hl1) (by rfl) (by rfl) (fun ev w' hr he hp => ?_) ?_
  · obtain ⟨ho, h0⟩ := hp 26 _ (by simp [Op.operands, Call.operands]) (by rfl)
    obtain ⟨g, e1, hB, hg⟩ := hp 28 _ (by simp [Op.operands, Call.operands]) (by rfl)
    obtain ⟨v', w'', hrun, h1, h2, h3⟩ := run_append_PF (x := .slice (some ⟨g, 0, none⟩) 1 1) ho (hB.ps (L := [p]) (Nat.le_refl _)) (by simp; omega) (hs4 _ hr).le 22
    unfold OpT
    simp [execOp, resolve, invoke, builtin, e1, hrun]
    refine ⟨?_, h1⟩
    rcases h3 with h3 | ⟨_, g', f1, f2, f3, f4⟩
    · exact PutR.of_x h3
    · have hpos : 0 < Z.length := by
        rcases Nat.eq_zero_or_pos Z.length with h | h
        · exfalso
          obtain ⟨g2, k1, k2⟩ := h0 (List.eq_nil_of_length_eq_zero (by omega))
          rw [k1] at f1
          cases f1
          have := (f4.same k2).1
          rw [flat_length] at this
          simp at this
        · exact h
      rw [hl1] at f4
      refine ⟨h2.os, h2.tape, h2.output, h2.size, fun k hk => ?_⟩
      by_cases e : k = g'
      · subst e
        exact .inr ⟨f2, hpos, .inl (by simpa [flat] using f4)⟩
      · exact .inl (h2.block k hk (by rw [f1]; simpa using e))
  (with_reducible refine TC.step ?_)
  refine D.mk (pSl w4.heap.size 3 0 []) (fun v _ _ hx => hx.pSl (fun _ => by simp) (fun _ => by simp)) (by rfl) (by rfl) (fun w' hx => ⟨_, _, op_buildSlice (cs := []) Tryd.underlying38 zInt1 rfl rfl (by rfl) rfl (by simp) rfl rfl, PutR.of_x (X.alloc _ _), _, rfl, Blk.new w' _ _, (hs4 _ hx).le⟩) ?_
  (with_reducible refine TC.step ?_)
  refine D.ld (by rfl) oneInts (fun w' hx => (hB3.x (hs4 _ hx)).cell rfl) PutR.refl (by rfl) (by rfl) ?_
  (with_reducible refine TC.step ?_)
  refine D.one (pI w4.heap.size l) (fun v _ _ hx => hx.pI hl2) (by rfl) (by rfl) (fun ev w' hr he hp => ?_) ?_
  · obtain ⟨g, e1, hB, hg⟩ := hp 30 _ (by simp [Op.operands, Call.operands]) (by rfl)
    have e2 := he (.tmp 32) _ (by rfl : opL _ _ _ = some b)
    obtain ⟨v', w'', hrun, h1, h2⟩ := run_append_I2 hB hg (hs4 _ hr).le (his4.x (hs4 _ hr)) (by omega) 38
    unfold OpT
    simp [execOp, resolve, invoke, builtin, e1, e2, hrun]
    exact ⟨PutR.of_x h2, h1⟩
  (with_reducible refine TC.step ?_)
  refine D.mk (pSl w4.heap.size 3 1 [.int .i64 r]) (fun v _ _ hx => hx.pSl (fun e => absurd e (by decide)) (fun _ => by simp)) (by rfl) (by rfl) (fun w' hx => ⟨_, _, op_buildSlice (cs := [.int .i64 r]) Tryd.underlying38 zInt1 rfl rfl (by rfl) rfl (by simp [Value.cells]) rfl rfl, PutR.of_x (X.alloc _ _), _, rfl, Blk.new w' _ _, (hs4 _ hx).le⟩) ?_
  (with_reducible refine TC.step ?_)
  refine D.one (fun v w' => OwnI w' w4.heap.size v (l ++ [r])) (fun v _ _ hx => hx.ownI hl2) (by rfl) (by rfl) (fun ev w' hr he hp => ?_) ?_
  · obtain ⟨ho, h0⟩ := hp 33 _ (by simp [Op.operands, Call.operands]) (by rfl)
    obtain ⟨g, e1, hB, hg⟩ := hp 35 _ (by simp [Op.operands, Call.operands]) (by rfl)
    have hm : ISV w' (fun _ => True) (.slice (some ⟨g, 0, none⟩) 1 1) [r] := ⟨_, 1, rfl, Nat.le_refl _, rfl, fun _ => ⟨g, 0, rfl, trivial, fun i x hi => by
      rw [Nat.zero_add]
      match i, hi with
      | 0, hi => cases hi; exact hB.cell rfl⟩⟩
    obtain ⟨v', w'', hrun, h1, h2, _, h3⟩ := run_append_IF ho hm (by simp; omega) (hs4 _ hr).le 38
    unfold OpT
    simp [execOp, resolve, invoke, builtin, e1, hrun]
    refine ⟨?_, h1⟩
    rcases h3 with h3 | ⟨_, g', f1, f2, f3, f4⟩
    · exact PutR.of_x h3
    · have hpos : 0 < Z.length := by
        rcases Nat.eq_zero_or_pos Z.length with h | h
        · exfalso
          obtain ⟨g2, k1, k2⟩ := h0 (List.eq_nil_of_length_eq_zero (by omega))
          rw [k1] at f1
          cases f1
          have := (f4.same k2).1
          simp at this
        · exact h
      rw [hl2] at f4
      refine ⟨h2.os, h2.tape, h2.output, h2.size, fun k hk => ?_⟩
      by_cases e : k = g'
      · subst e
        exact .inr ⟨f2, hpos, .inr (by simpa using f4)⟩
      · exact .inl (h2.block k hk (by rw [f1]; simpa using e))
  (with_reducible refine TC.step ?_)
  refine D.one (fun v w' => ∃ v1 v2, v = lotV v1 v2 ∧ OwnP w' w4.heap.size v1 (L ++ [p]) ∧ OwnI w' w4.heap.size v2 (l ++ [r])) (fun v _ _ hx ⟨v1, v2, h1, h2, h3⟩ => ⟨v1, v2, h1, hx.ownP hl1 h2, hx.ownI hl2 h3⟩) (by rfl) (by rfl) (fun ev w' hr he hp => ?_) ?_
  · have h1 : OwnP w' w4.heap.size (ev (.tmp 29)) (L ++ [p]) := hp 29 _ (by simp [Op.operands]) (by rfl)
    have h2 : OwnI w' w4.heap.size (ev (.tmp 36)) (l ++ [r]) := hp 36 _ (by simp [Op.operands]) (by rfl)
    obtain ⟨A1, c1, e1, _⟩ := h1.nl
    obtain ⟨A2, c2, e2, _⟩ := h2.isv
    have h5 := op_build (P := Tryd.prog) (ty := 43) (L := fun x => some (ev x)) (t := 43) (parts := #[(0, .tmp 29), (1, .tmp 36)]) (ps := [(0, .slice A1 (L ++ [p]).length c1), (1, .slice A2 (l ++ [r]).length c2)]) (by simp [evB, e1, e2]) (built_rl _ _ _ _ _ _)
    unfold OpT
    rw [h5 ev (fun x v h => by injection h)]
    exact ⟨PutR.refl _, _, _, rfl, by rw [← e1]; exact h1, by rw [← e2]; exact h2⟩
  refine TC.pr 37 (by rfl) fun v37 => TC.tail2 (by rfl) (by rfl) fun w5 h5 => ?_
  obtain ⟨hR5, v1, v2, rfl, hO1, hO2⟩ := h5
  have hx5 := hs4 _ hR5
  have hB6 := hB6.x hx5
  obtain ⟨A1, c1, rfl, _⟩ := hO1.nl
  obtain ⟨A2, c2, rfl, _⟩ := hO2.isv
  refine S.stB (vs := [.slice A1 (L ++ [p]).length c1, .slice A2 (l ++ [r]).length c2]) (by rfl) (by rfl) rfl hB6 rfl szRL (by simp [Value.oneCell']) (by rfl) ?_
  intro w6 hg6 hB6
  have hX5 := hX3.trans hx5
  have hl4 := hX3.le
  repeat (first
 | (with_reducible first
 | apply CW.seq | apply CW.region | apply CW.block | apply CW.ret | apply CW.skip | apply CW.label | apply CW.exit
 | apply W.nil | apply Fin.seq | apply Fin.then_ret | apply Fin.then_exit | apply Fin.blk_ret | apply Fin.blk_normal | apply Fin.blk_here)
 | (with_reducible first | refine S.move ?_ | refine S.assign ?_ | refine S.pickT ?_ | refine S.pickF ?_ | refine S.lss ?_ | refine S.gtr ?_ | refine S.leq ?_ | refine S.geq ?_ | refine S.eqT ?_ | refine S.neF ?_ | refine S.eql ?_ | refine S.neq ?_ | refine S.add ?_ | refine S.sub ?_ | refine S.mul ?_ | refine S.conv ?_ | refine S.shr1 ?_ | refine S.neg ?_ | refine S.not ?_ | refine S.extract ?_ | refine S.len ?_ | refine S.fld ?_ | refine S.index ?_ | refine S.skp ?_ | refine S.sliceTo ?_ | refine S.sliceFrom ?_ | refine S.eqNil ?_ | refine S.eqbT ?_ | refine S.nebF ?_ | refine S.eqb ?_ | refine S.neb ?_)
 | (with_reducible first | refine S.nc ?_ | refine S.fld ?_ (h1 := fRLP) | refine S.fld ?_ (h1 := fRLR) | refine S.fld ?_ (h1 := fOpKind) | refine S.fld ?_ (h1 := fOpPod) | refine S.fld ?_ (h1 := fOpReason) | refine S.eqP ?_ | refine S.neP ?_)
 | ((with_reducible apply CW.cond_true); exact rfl)
 | ((with_reducible apply CW.cond_false); exact rfl)
 | ((with_reducible apply Fin.blk_far); exact rfl))
  refine R.c2 rfl (by rfl) (by rfl) hB6 stRL ⟨below_g hX5 hg6 hX5.le hle6, _, _, rfl, ?_, ?_⟩
  · rw [hZ1]
    exact (hO1.psk.keep fun k hk hK => hg6.block k hk fun e => by cases e; have := hK.1; omega).mono fun b _ hb => by have := hb.1; omega
  · rw [hZ2]
    exact (hO2.isv.keep fun k hk hK => hg6.block k hk fun e => by cases e; have := hK.1; omega).mono fun b _ hb => by have := hb.1; omega

end Go.Proofs.YtmilpjkjcanghaaDoor

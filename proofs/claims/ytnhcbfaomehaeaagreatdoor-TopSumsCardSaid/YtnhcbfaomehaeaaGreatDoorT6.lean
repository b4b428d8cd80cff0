/- vec.Fits of a vector and itself. -/
import Derived.Test.YtnhcbfaomehaeaaGreatDoorT5
namespace Go.Proofs.YtnhcbfaomehaeaaGreatDoor
open Go.RowKit
set_option linter.unusedVariables false
set_option linter.unusedSimpArgs false
set_option maxRecDepth 100000

theorem ent12 : Go.Proofs.Enters Tryz.prog 12 := Go.Proofs.enters_of Tryz.func12 (by kernel_rfl) rfl
theorem ent11 : Go.Proofs.Enters Tryz.prog 11 := Go.Proofs.enters_of Tryz.func11 (by kernel_rfl) rfl

theorem Fits1_calls (x : Int) (w : World) : CallsR Tryz.prog 12 [.int .i64 x, .int .i64 x] w fun v w' => v = .tuple #[.int .i64 0, .bool true] ∧ X w w' := by
  refine enter2 Tryz.func12 rfl Tryz.ntmps12 rfl ?_
  repeat (first
 | (with_reducible first
 | apply CW.seq | apply CW.region | apply CW.block | apply CW.ret | apply CW.skip | apply CW.label | apply CW.exit
 | apply W.nil | apply Fin.seq | apply Fin.then_ret | apply Fin.then_exit | apply Fin.blk_ret | apply Fin.blk_normal | apply Fin.blk_here)
 | (with_reducible first | refine S.move ?_ | refine S.assign ?_ | refine S.pickT ?_ | refine S.pickF ?_ | refine S.lss ?_ | refine S.gtr ?_ | refine S.leq ?_ | refine S.geq ?_ | refine S.eqT ?_ | refine S.neF ?_ | refine S.eql ?_ | refine S.neq ?_ | refine S.add ?_ | refine S.sub ?_ | refine S.mul ?_ | refine S.conv ?_ | refine S.shr1 ?_ | refine S.neg ?_ | refine S.not ?_ | refine S.extract ?_ | refine S.len ?_ | refine S.fld ?_ | refine S.index ?_ | refine S.skp ?_ | refine S.sliceTo ?_ | refine S.sliceFrom ?_ | refine S.eqNil ?_ | refine S.eqbT ?_ | refine S.nebF ?_ | refine S.eqb ?_ | refine S.neb ?_)
 | ((with_reducible apply CW.cond_true); exact rfl)
 | ((with_reducible apply CW.cond_false); exact rfl)
 | ((with_reducible apply Fin.blk_far); exact rfl))
  have h : decide (x ≤ x) = true := by simp
  rw [h]
  repeat (first
 | (with_reducible first
 | apply CW.seq | apply CW.region | apply CW.block | apply CW.ret | apply CW.skip | apply CW.label | apply CW.exit
 | apply W.nil | apply Fin.seq | apply Fin.then_ret | apply Fin.then_exit | apply Fin.blk_ret | apply Fin.blk_normal | apply Fin.blk_here)
 | (with_reducible first | refine S.move ?_ | refine S.assign ?_ | refine S.pickT ?_ | refine S.pickF ?_ | refine S.lss ?_ | refine S.gtr ?_ | refine S.leq ?_ | refine S.geq ?_ | refine S.eqT ?_ | refine S.neF ?_ | refine S.eql ?_ | refine S.neq ?_ | refine S.add ?_ | refine S.sub ?_ | refine S.mul ?_ | refine S.conv ?_ | refine S.shr1 ?_ | refine S.neg ?_ | refine S.not ?_ | refine S.extract ?_ | refine S.len ?_ | refine S.fld ?_ | refine S.index ?_ | refine S.skp ?_ | refine S.sliceTo ?_ | refine S.sliceFrom ?_ | refine S.eqNil ?_ | refine S.eqbT ?_ | refine S.nebF ?_ | refine S.eqb ?_ | refine S.neb ?_)
 | ((with_reducible apply CW.cond_true); exact rfl)
 | ((with_reducible apply CW.cond_false); exact rfl)
 | ((with_reducible apply Fin.blk_far); exact rfl))
  (with_reducible apply R.r2); exact rfl; exact rfl; exact rfl
  exact ⟨rfl, X.refl _⟩

theorem both_calls (w : World) {g : Nat} {p q : Int} (hB : Blk w g 2 [.int .i64 p, .int .i64 q]) :
    CallsR Tryz.prog 11 [.slice (some ⟨g, 0, none⟩) 2 2, .slice (some ⟨g, 0, none⟩) 2 2, .func (.func 12) #[] #[]] w fun v w' => (∃ u, v = .tuple #[u, .bool true]) ∧ X w w' := by
  refine enter3 Tryz.func11 rfl Tryz.ntmps11 rfl ?_
  repeat (first
 | (with_reducible first
 | apply CW.seq | apply CW.region | apply CW.block | apply CW.ret | apply CW.skip | apply CW.label | apply CW.exit
 | apply W.nil | apply Fin.seq | apply Fin.then_ret | apply Fin.then_exit | apply Fin.blk_ret | apply Fin.blk_normal | apply Fin.blk_here)
 | (with_reducible first | refine S.move ?_ | refine S.assign ?_ | refine S.pickT ?_ | refine S.pickF ?_ | refine S.lss ?_ | refine S.gtr ?_ | refine S.leq ?_ | refine S.geq ?_ | refine S.eqT ?_ | refine S.neF ?_ | refine S.eql ?_ | refine S.neq ?_ | refine S.add ?_ | refine S.sub ?_ | refine S.mul ?_ | refine S.conv ?_ | refine S.shr1 ?_ | refine S.neg ?_ | refine S.not ?_ | refine S.extract ?_ | refine S.len ?_ | refine S.fld ?_ | refine S.index ?_ | refine S.skp ?_ | refine S.sliceTo ?_ | refine S.sliceFrom ?_ | refine S.eqNil ?_ | refine S.eqbT ?_ | refine S.nebF ?_ | refine S.eqb ?_ | refine S.neb ?_)
 | ((with_reducible apply CW.cond_true); exact rfl)
 | ((with_reducible apply CW.cond_false); exact rfl)
 | ((with_reducible apply Fin.blk_far); exact rfl))
  refine W.newBlk (mk := fun b => .slice (some ⟨b, 0, none⟩) 2 2) (cs := [.int .i64 0, .int .i64 0]) (op_mk (n := 2) Tryz.underlying25 infN rfl (by omega) (by omega) (by rfl) (by rfl)) (by rfl) (by rfl) ?_
  intro go w1 hX1 hle1 hB1
  repeat (first
 | (with_reducible first
 | apply CW.seq | apply CW.region | apply CW.block | apply CW.ret | apply CW.skip | apply CW.label | apply CW.exit
 | apply W.nil | apply Fin.seq | apply Fin.then_ret | apply Fin.then_exit | apply Fin.blk_ret | apply Fin.blk_normal | apply Fin.blk_here)
 | (with_reducible first | refine S.move ?_ | refine S.assign ?_ | refine S.pickT ?_ | refine S.pickF ?_ | refine S.lss ?_ | refine S.gtr ?_ | refine S.leq ?_ | refine S.geq ?_ | refine S.eqT ?_ | refine S.neF ?_ | refine S.eql ?_ | refine S.neq ?_ | refine S.add ?_ | refine S.sub ?_ | refine S.mul ?_ | refine S.conv ?_ | refine S.shr1 ?_ | refine S.neg ?_ | refine S.not ?_ | refine S.extract ?_ | refine S.len ?_ | refine S.fld ?_ | refine S.index ?_ | refine S.skp ?_ | refine S.sliceTo ?_ | refine S.sliceFrom ?_ | refine S.eqNil ?_ | refine S.eqbT ?_ | refine S.nebF ?_ | refine S.eqb ?_ | refine S.neb ?_)
 | ((with_reducible apply CW.cond_true); exact rfl)
 | ((with_reducible apply CW.cond_false); exact rfl)
 | ((with_reducible apply Fin.blk_far); exact rfl))
  refine CW.loop (ι := Nat) (fun i => [(22, .int .i64 (i : Int)), (21, .int .i64 ((2 : Nat) : Int)), (0, .slice (some ⟨g, 0, none⟩) 2 2), (1, .slice (some ⟨g, 0, none⟩) 2 2), (2, .func (.func 12) #[] #[]), (8, .slice (some ⟨go, 0, none⟩) 2 2)]) (fun i w' => X w w' ∧ (∃ cs, cs.length = 2 ∧ Blk w' go 2 cs) ∧ i ≤ 2) (fun i => 2 - i) ?_ 0 (by repeat (first | exact trivial | refine ⟨rfl, ?_⟩)) ⟨hX1, ⟨_, rfl, hB1⟩, Nat.zero_le _⟩
  rintro i w4 ⟨hX4, ⟨cs, hcs, hB4⟩, hi⟩
  repeat (first
 | (with_reducible first
 | apply CW.seq | apply CW.region | apply CW.block | apply CW.ret | apply CW.skip | apply CW.label | apply CW.exit
 | apply W.nil | apply Fin.seq | apply Fin.then_ret | apply Fin.then_exit | apply Fin.blk_ret | apply Fin.blk_normal | apply Fin.blk_here)
 | (with_reducible first | refine S.move ?_ | refine S.assign ?_ | refine S.pickT ?_ | refine S.pickF ?_ | refine S.lss ?_ | refine S.gtr ?_ | refine S.leq ?_ | refine S.geq ?_ | refine S.eqT ?_ | refine S.neF ?_ | refine S.eql ?_ | refine S.neq ?_ | refine S.add ?_ | refine S.sub ?_ | refine S.mul ?_ | refine S.conv ?_ | refine S.shr1 ?_ | refine S.neg ?_ | refine S.not ?_ | refine S.extract ?_ | refine S.len ?_ | refine S.fld ?_ | refine S.index ?_ | refine S.skp ?_ | refine S.sliceTo ?_ | refine S.sliceFrom ?_ | refine S.eqNil ?_ | refine S.eqbT ?_ | refine S.nebF ?_ | refine S.eqb ?_ | refine S.neb ?_)
 | ((with_reducible apply CW.cond_true); exact rfl)
 | ((with_reducible apply CW.cond_false); exact rfl)
 | ((with_reducible apply Fin.blk_far); exact rfl))
  refine CW.cond (by rfl) (fun h1 => ?_) (fun h1 => ?_)
  · have h1 := of_decide_eq_true h1
    have h1 : i < 2 := by omega
    have hx : ∃ x : Int, ∀ w', X w4 w' → w'.cell? ⟨g, 0 + i * 1, none⟩ = some (.int .i64 x) := by
      by_cases hi0 : i = 0
      · subst hi0; exact ⟨p, fun w' h => ((hB.x hX4).x h).cell rfl⟩
      · have : i = 1 := by omega
        subst this; exact ⟨q, fun w' h => ((hB.x hX4).x h).cell rfl⟩
    obtain ⟨x, hx⟩ := hx
    repeat (first
 | (with_reducible first
 | apply CW.seq | apply CW.region | apply CW.block | apply CW.ret | apply CW.skip | apply CW.label | apply CW.exit
 | apply W.nil | apply Fin.seq | apply Fin.then_ret | apply Fin.then_exit | apply Fin.blk_ret | apply Fin.blk_normal | apply Fin.blk_here)
 | (with_reducible first | refine S.move ?_ | refine S.assign ?_ | refine S.pickT ?_ | refine S.pickF ?_ | refine S.lss ?_ | refine S.gtr ?_ | refine S.leq ?_ | refine S.geq ?_ | refine S.eqT ?_ | refine S.neF ?_ | refine S.eql ?_ | refine S.neq ?_ | refine S.add ?_ | refine S.sub ?_ | refine S.mul ?_ | refine S.conv ?_ | refine S.shr1 ?_ | refine S.neg ?_ | refine S.not ?_ | refine S.extract ?_ | refine S.len ?_ | refine S.fld ?_ | refine S.index ?_ | refine S.skp ?_ | refine S.sliceTo ?_ | refine S.sliceFrom ?_ | refine S.eqNil ?_ | refine S.eqbT ?_ | refine S.nebF ?_ | refine S.eqb ?_ | refine S.neb ?_)
 | ((with_reducible apply CW.cond_true); exact rfl)
 | ((with_reducible apply CW.cond_false); exact rfl)
 | ((with_reducible apply Fin.blk_far); exact rfl))
    refine wp_facts (R := X) (front := [0, 1, 2, 3, 4, 5, 6, 7, 8, 9, 10, 11, 12, 13]) (tail := [14]) mixed (by kernel_rfl) X.refl (fun _ _ _ => X.trans) (X.drew _) ?_
    repeat ((with_reducible refine TC.step ?_); first
      | (with_reducible first | refine D.move ?_ | refine D.assign ?_ | refine D.pickT ?_ | refine D.pickF ?_ | refine D.lss ?_ | refine D.gtr ?_ | refine D.leq ?_ | refine D.geq ?_ | refine D.eqT ?_ | refine D.neF ?_ | refine D.eql ?_ | refine D.neq ?_ | refine D.add ?_ | refine D.sub ?_ | refine D.mul ?_ | refine D.conv ?_ | refine D.shr1 ?_ | refine D.neg ?_ | refine D.not ?_ | refine D.extract ?_ | refine D.len ?_ | refine D.fld ?_ | refine D.index ?_ | refine D.skp ?_ | refine D.sliceTo ?_ | refine D.sliceFrom ?_ | refine D.eqNil ?_ | refine D.eqbT ?_ | refine D.nebF ?_ | refine D.eqb ?_ | refine D.neb ?_)
      | ((with_reducible apply D.ld); exact rfl; (with_reducible first | exact oneInt | exact oneI64s | exact oneBool | exact oneI64 | exact onePods | exact oneMap); (exact fun w' h => hx w' h); exact X.refl; exact rfl; exact rfl)
      | refine D.cl (op_callv (vs := [.int .i64 x, .int .i64 x]) ent12 (by rfl) (by rfl)) (by rfl) (by rfl) (v := .tuple #[.int .i64 0, .bool true]) (fun w' h => Fits1_calls x w') ?_)
    refine TC.tail1 (by rfl) fun w5 hX5 => ?_
    repeat (first
 | (with_reducible first
 | apply CW.seq | apply CW.region | apply CW.block | apply CW.ret | apply CW.skip | apply CW.label | apply CW.exit
 | apply W.nil | apply Fin.seq | apply Fin.then_ret | apply Fin.then_exit | apply Fin.blk_ret | apply Fin.blk_normal | apply Fin.blk_here)
 | (with_reducible first | refine S.move ?_ | refine S.assign ?_ | refine S.pickT ?_ | refine S.pickF ?_ | refine S.lss ?_ | refine S.gtr ?_ | refine S.leq ?_ | refine S.geq ?_ | refine S.eqT ?_ | refine S.neF ?_ | refine S.eql ?_ | refine S.neq ?_ | refine S.add ?_ | refine S.sub ?_ | refine S.mul ?_ | refine S.conv ?_ | refine S.shr1 ?_ | refine S.neg ?_ | refine S.not ?_ | refine S.extract ?_ | refine S.len ?_ | refine S.fld ?_ | refine S.index ?_ | refine S.skp ?_ | refine S.sliceTo ?_ | refine S.sliceFrom ?_ | refine S.eqNil ?_ | refine S.eqbT ?_ | refine S.nebF ?_ | refine S.eqb ?_ | refine S.neb ?_)
 | ((with_reducible apply CW.cond_true); exact rfl)
 | ((with_reducible apply CW.cond_false); exact rfl)
 | ((with_reducible apply Fin.blk_far); exact rfl))
    refine S.stC (u := .int .i64 0) (by rfl) (by rfl) (hB4.x hX5) (by rw [hcs]; omega) rfl rfl szI64 (by rfl) ?_
    intro w6 hg6 hB6
    repeat (first
 | (with_reducible first
 | apply CW.seq | apply CW.region | apply CW.block | apply CW.ret | apply CW.skip | apply CW.label | apply CW.exit
 | apply W.nil | apply Fin.seq | apply Fin.then_ret | apply Fin.then_exit | apply Fin.blk_ret | apply Fin.blk_normal | apply Fin.blk_here)
 | (with_reducible first | refine S.move ?_ | refine S.assign ?_ | refine S.pickT ?_ | refine S.pickF ?_ | refine S.lss ?_ | refine S.gtr ?_ | refine S.leq ?_ | refine S.geq ?_ | refine S.eqT ?_ | refine S.neF ?_ | refine S.eql ?_ | refine S.neq ?_ | refine S.add ?_ | refine S.sub ?_ | refine S.mul ?_ | refine S.conv ?_ | refine S.shr1 ?_ | refine S.neg ?_ | refine S.not ?_ | refine S.extract ?_ | refine S.len ?_ | refine S.fld ?_ | refine S.index ?_ | refine S.skp ?_ | refine S.sliceTo ?_ | refine S.sliceFrom ?_ | refine S.eqNil ?_ | refine S.eqbT ?_ | refine S.nebF ?_ | refine S.eqb ?_ | refine S.neb ?_)
 | ((with_reducible apply CW.cond_true); exact rfl)
 | ((with_reducible apply CW.cond_false); exact rfl)
 | ((with_reducible apply Fin.blk_far); exact rfl))
    have hX45 := hX4.trans hX5
    refine Fin.round (i + 1) ?_ (by repeat (first | exact trivial | refine ⟨rfl, ?_⟩)) ⟨below_g hX45 hg6 hX45.le hle1, ⟨_, ?_, hB6⟩, by omega⟩
    · omega
    · simp; omega
  · have h1 := of_decide_eq_false h1
    repeat (first
 | (with_reducible first
 | apply CW.seq | apply CW.region | apply CW.block | apply CW.ret | apply CW.skip | apply CW.label | apply CW.exit
 | apply W.nil | apply Fin.seq | apply Fin.then_ret | apply Fin.then_exit | apply Fin.blk_ret | apply Fin.blk_normal | apply Fin.blk_here)
 | (with_reducible first | refine S.move ?_ | refine S.assign ?_ | refine S.pickT ?_ | refine S.pickF ?_ | refine S.lss ?_ | refine S.gtr ?_ | refine S.leq ?_ | refine S.geq ?_ | refine S.eqT ?_ | refine S.neF ?_ | refine S.eql ?_ | refine S.neq ?_ | refine S.add ?_ | refine S.sub ?_ | refine S.mul ?_ | refine S.conv ?_ | refine S.shr1 ?_ | refine S.neg ?_ | refine S.not ?_ | refine S.extract ?_ | refine S.len ?_ | refine S.fld ?_ | refine S.index ?_ | refine S.skp ?_ | refine S.sliceTo ?_ | refine S.sliceFrom ?_ | refine S.eqNil ?_ | refine S.eqbT ?_ | refine S.nebF ?_ | refine S.eqb ?_ | refine S.neb ?_)
 | ((with_reducible apply CW.cond_true); exact rfl)
 | ((with_reducible apply CW.cond_false); exact rfl)
 | ((with_reducible apply Fin.blk_far); exact rfl))
    (with_reducible apply R.r2); exact rfl; exact rfl; exact rfl
    exact ⟨⟨_, rfl⟩, hX4⟩

theorem Fits_calls (w : World) {g : Nat} {p q : Int} (hB : Blk w g 2 [.int .i64 p, .int .i64 q]) :
    CallsR Tryz.prog 6 [.slice (some ⟨g, 0, none⟩) 2 2, .slice (some ⟨g, 0, none⟩) 2 2] w fun v w' => v = .bool true ∧ X w w' := by
  refine enter2 Tryz.func6 rfl Tryz.ntmps6 rfl ?_
  repeat (first
 | (with_reducible first
 | apply CW.seq | apply CW.region | apply CW.block | apply CW.ret | apply CW.skip | apply CW.label | apply CW.exit
 | apply W.nil | apply Fin.seq | apply Fin.then_ret | apply Fin.then_exit | apply Fin.blk_ret | apply Fin.blk_normal | apply Fin.blk_here)
 | (with_reducible first | refine S.move ?_ | refine S.assign ?_ | refine S.pickT ?_ | refine S.pickF ?_ | refine S.lss ?_ | refine S.gtr ?_ | refine S.leq ?_ | refine S.geq ?_ | refine S.eqT ?_ | refine S.neF ?_ | refine S.eql ?_ | refine S.neq ?_ | refine S.add ?_ | refine S.sub ?_ | refine S.mul ?_ | refine S.conv ?_ | refine S.shr1 ?_ | refine S.neg ?_ | refine S.not ?_ | refine S.extract ?_ | refine S.len ?_ | refine S.fld ?_ | refine S.index ?_ | refine S.skp ?_ | refine S.sliceTo ?_ | refine S.sliceFrom ?_ | refine S.eqNil ?_ | refine S.eqbT ?_ | refine S.nebF ?_ | refine S.eqb ?_ | refine S.neb ?_)
 | ((with_reducible apply CW.cond_true); exact rfl)
 | ((with_reducible apply CW.cond_false); exact rfl)
 | ((with_reducible apply Fin.blk_far); exact rfl))
  refine S.cl (op_call ent11 (by rfl) (by rfl)) (by rfl) (by rfl) (both_calls w hB) ?_
  rintro v w2 ⟨⟨u, rfl⟩, hX⟩
  repeat (first
 | (with_reducible first
 | apply CW.seq | apply CW.region | apply CW.block | apply CW.ret | apply CW.skip | apply CW.label | apply CW.exit
 | apply W.nil | apply Fin.seq | apply Fin.then_ret | apply Fin.then_exit | apply Fin.blk_ret | apply Fin.blk_normal | apply Fin.blk_here)
 | (with_reducible first | refine S.move ?_ | refine S.assign ?_ | refine S.pickT ?_ | refine S.pickF ?_ | refine S.lss ?_ | refine S.gtr ?_ | refine S.leq ?_ | refine S.geq ?_ | refine S.eqT ?_ | refine S.neF ?_ | refine S.eql ?_ | refine S.neq ?_ | refine S.add ?_ | refine S.sub ?_ | refine S.mul ?_ | refine S.conv ?_ | refine S.shr1 ?_ | refine S.neg ?_ | refine S.not ?_ | refine S.extract ?_ | refine S.len ?_ | refine S.fld ?_ | refine S.index ?_ | refine S.skp ?_ | refine S.sliceTo ?_ | refine S.sliceFrom ?_ | refine S.eqNil ?_ | refine S.eqbT ?_ | refine S.nebF ?_ | refine S.eqb ?_ | refine S.neb ?_)
 | ((with_reducible apply CW.cond_true); exact rfl)
 | ((with_reducible apply CW.cond_false); exact rfl)
 | ((with_reducible apply Fin.blk_far); exact rfl))
  (with_reducible apply R.r1); exact rfl; exact rfl
  exact ⟨rfl, hX⟩

end Go.Proofs.YtnhcbfaomehaeaaGreatDoor

/- vec.sum over many vectors. -/
import Derived.Test.YtnhcbfaomehaeaaGreatDoorT2
namespace Go.Proofs.YtnhcbfaomehaeaaGreatDoor
open Go.RowKit
set_option linter.unusedVariables false
set_option linter.unusedSimpArgs false
set_option maxRecDepth 100000

theorem isI64 : (Tryz.prog.underlying 2).isSome = true := by rw [Tryz.underlying2]; rfl
theorem isU64 : (Tryz.prog.underlying 62).isSome = true := by rw [Tryz.underlying62]; rfl
theorem slVecs : SlOf Tryz.prog 24 25 1 := ⟨Tryz.underlying24, by kernel_rfl⟩
theorem slNums : SlOf Tryz.prog 25 2 1 := ⟨Tryz.underlying25, by kernel_rfl⟩
theorem oneSl : ∃ d, Tryz.prog.underlying 25 = some d ∧ oneDesc d = true := ⟨_, Tryz.underlying25, rfl⟩
theorem oneN : ∃ d, Tryz.prog.underlying 2 = some d ∧ oneDesc d = true := ⟨_, Tryz.underlying2, rfl⟩

section
variable {P : Program} {ty t t' : TypeId} {L : Operand → Option Value} {x y z : Operand}
theorem op_shr63 {a : Int} (hx : L x = some (.int .i64 a)) (hy : L y = some (.int .u64 63)) (h0 : 0 ≤ a ∧ a < 9223372036854775808) : Pure P (.binOp .shr t x y t') ty L (.int .i64 0) := fun ev he w d pos aft g => by
  have h := shift_shr .i64 .u64 a 63 (by omega) (by simp [IntKind.bits])
  have h1 : a / 2 ^ 63 = 0 := by omega
  simp [execOp, he x _ hx, he y _ hy, eqGuard, binOp, h]
  omega
theorem op_add64 {a b : Nat} {ats : Array TypeId} (hf : L (.func 19) = some (.func (.func 19) #[] #[])) (hx : L x = some (.int .u64 (a : Int))) (hy : L y = some (.int .u64 (b : Int))) (hz : L z = some (.int .u64 0)) (hlt : a + b < 18446744073709551616) :
    Pure Tryz.prog (.call { callee := .value (.func 19), args := #[x, y, z], argTypes := ats }) ty L (.tuple #[.int .u64 ((a + b : Nat) : Int), .int .u64 0]) := fun ev he w d pos aft g => by
  have hc := R1.fo19 (.int .u64 (a : Int)) (.int .u64 (b : Int)) (.int .u64 0) w
  have hm : (a + b) % 18446744073709551616 = a + b := Nat.mod_eq_of_lt hlt
  have hd : (a + b) / 18446744073709551616 = 0 := Nat.div_eq_of_lt hlt
  have h2 : (callFunc 19 #[.int .u64 (a : Int), .int .u64 (b : Int), .int .u64 0]).run Tryz.prog w = .ok (.value (.tuple #[.int .u64 ((a + b : Nat) : Int), .int .u64 0])) w := by
    refine hc.trans ?_
    have hdef : Extern.MathBitsCarry.three "Add64" #[.int .u64 (a : Int), .int .u64 (b : Int), .int .u64 0] = (do
      let c ← (do pure (← asInt (.int .u64 0)).toNat)
      if c > 1 then unsupported (.noEntry ("extern/math/bits." ++ "Add64" ++ ": a carry that is neither 0 nor 1"))
      pure ((← asInt (.int .u64 (a : Int))).toNat, (← asInt (.int .u64 (b : Int))).toNat, c)) := rfl
    rw [hdef]
    have ht : ∀ q : Nat, ((q : Nat) : Int).toNat = q := fun _ => rfl
    simp only [asInt, asIntOf, Sem.run_bind, Sem.run_pure, Result.andThen_ok, ht, gt_iff_lt]
    simp [Extern.MathBitsCarry.pair, Extern.MathBitsCarry.m64, hm, hd]
    constructor <;> omega
  have h1 : (#[x, y, z] : Array Operand).map ev = #[.int .u64 (a : Int), .int .u64 (b : Int), .int .u64 0] := by simp [he x _ hx, he y _ hy, he z _ hz]
  simp [execOp, resolve, Deferred.ofValue, he _ _ hf, h1, invoke, h2]
end

theorem sum_calls (w : World) {Bl k : Nat} {i : Nat} {x : Nat} (hk : k ≤ 65536) (hi : i < 2) (hx : x ≤ 1099511627776)
    (hc : ∀ j, j < k → ∃ b, w.cell? ⟨Bl, 0 + j * 1, none⟩ = some (.slice (some ⟨b, 0, none⟩) 2 2) ∧ w.cell? ⟨b, 0 + i * 1, none⟩ = some (.int .i64 (x : Int))) :
    CallsR Tryz.prog 10 [.slice (some ⟨Bl, 0, none⟩) k k, .int .i64 (i : Int)] w fun v w' => v = .tuple #[.int .i64 ((k * x : Nat) : Int), .bool true] ∧ w' = w := by
  refine enter2 Tryz.func10 rfl Tryz.ntmps10 rfl ?_
  repeat (first
 | (with_reducible first
 | apply CW.seq | apply CW.region | apply CW.block | apply CW.ret | apply CW.skip | apply CW.label | apply CW.exit
 | apply W.nil | apply Fin.seq | apply Fin.then_ret | apply Fin.then_exit | apply Fin.blk_ret | apply Fin.blk_normal | apply Fin.blk_here)
 | (with_reducible first | refine S.move ?_ | refine S.assign ?_ | refine S.pickT ?_ | refine S.pickF ?_ | refine S.lss ?_ | refine S.gtr ?_ | refine S.leq ?_ | refine S.geq ?_ | refine S.eqT ?_ | refine S.neF ?_ | refine S.eql ?_ | refine S.neq ?_ | refine S.add ?_ | refine S.sub ?_ | refine S.mul ?_ | refine S.conv ?_ | refine S.shr1 ?_ | refine S.neg ?_ | refine S.not ?_ | refine S.extract ?_ | refine S.len ?_ | refine S.fld ?_ | refine S.index ?_ | refine S.skp ?_ | refine S.sliceTo ?_ | refine S.sliceFrom ?_ | refine S.eqNil ?_ | refine S.eqbT ?_ | refine S.nebF ?_ | refine S.eqb ?_ | refine S.neb ?_)
 | ((with_reducible apply CW.cond_true); exact rfl)
 | ((with_reducible apply CW.cond_false); exact rfl)
 | ((with_reducible apply Fin.blk_far); exact rfl))
  refine S.len ?_ (h1 := Tryz.underlying24)
  repeat (first
 | (with_reducible first
 | apply CW.seq | apply CW.region | apply CW.block | apply CW.ret | apply CW.skip | apply CW.label | apply CW.exit
 | apply W.nil | apply Fin.seq | apply Fin.then_ret | apply Fin.then_exit | apply Fin.blk_ret | apply Fin.blk_normal | apply Fin.blk_here)
 | (with_reducible first | refine S.move ?_ | refine S.assign ?_ | refine S.pickT ?_ | refine S.pickF ?_ | refine S.lss ?_ | refine S.gtr ?_ | refine S.leq ?_ | refine S.geq ?_ | refine S.eqT ?_ | refine S.neF ?_ | refine S.eql ?_ | refine S.neq ?_ | refine S.add ?_ | refine S.sub ?_ | refine S.mul ?_ | refine S.conv ?_ | refine S.shr1 ?_ | refine S.neg ?_ | refine S.not ?_ | refine S.extract ?_ | refine S.len ?_ | refine S.fld ?_ | refine S.index ?_ | refine S.skp ?_ | refine S.sliceTo ?_ | refine S.sliceFrom ?_ | refine S.eqNil ?_ | refine S.eqbT ?_ | refine S.nebF ?_ | refine S.eqb ?_ | refine S.neb ?_)
 | ((with_reducible apply CW.cond_true); exact rfl)
 | ((with_reducible apply CW.cond_false); exact rfl)
 | ((with_reducible apply Fin.blk_far); exact rfl))
  refine CW.loop (ι := Nat × Nat) (fun j => [(14, .int .i64 (j.1 : Int)), (13, .int .i64 (k : Int)), (12, .slice (some ⟨Bl, 0, none⟩) k k), (7, .int .u64 (j.2 : Int)), (6, .int .u64 0), (1, .int .i64 (i : Int))]) (fun j w' => w' = w ∧ j.1 ≤ k ∧ j.2 = j.1 * x) (fun j => k - j.1) ?_ (0, 0) (by repeat (first | exact trivial | refine ⟨rfl, ?_⟩)) ⟨rfl, Nat.zero_le _, by simp⟩
  rintro ⟨j, s⟩ w' ⟨rfl, hj, hs⟩
  dsimp only at hj hs ⊢
  have hjx : j * x ≤ 65536 * 1099511627776 := Nat.mul_le_mul (by omega) hx
  repeat (first
 | (with_reducible first
 | apply CW.seq | apply CW.region | apply CW.block | apply CW.ret | apply CW.skip | apply CW.label | apply CW.exit
 | apply W.nil | apply Fin.seq | apply Fin.then_ret | apply Fin.then_exit | apply Fin.blk_ret | apply Fin.blk_normal | apply Fin.blk_here)
 | (with_reducible first | refine S.move ?_ | refine S.assign ?_ | refine S.pickT ?_ | refine S.pickF ?_ | refine S.lss ?_ | refine S.gtr ?_ | refine S.leq ?_ | refine S.geq ?_ | refine S.eqT ?_ | refine S.neF ?_ | refine S.eql ?_ | refine S.neq ?_ | refine S.add ?_ | refine S.sub ?_ | refine S.mul ?_ | refine S.conv ?_ | refine S.shr1 ?_ | refine S.neg ?_ | refine S.not ?_ | refine S.extract ?_ | refine S.len ?_ | refine S.fld ?_ | refine S.index ?_ | refine S.skp ?_ | refine S.sliceTo ?_ | refine S.sliceFrom ?_ | refine S.eqNil ?_ | refine S.eqbT ?_ | refine S.nebF ?_ | refine S.eqb ?_ | refine S.neb ?_)
 | ((with_reducible apply CW.cond_true); exact rfl)
 | ((with_reducible apply CW.cond_false); exact rfl)
 | ((with_reducible apply Fin.blk_far); exact rfl))
  refine CW.cond (by rfl) (fun h1 => ?_) (fun h1 => ?_)
  · have h1 := of_decide_eq_true h1
    have h1 : j < k := by omega
    obtain ⟨b, hb1, hb2⟩ := hc j h1
    repeat (first
 | (with_reducible first
 | apply CW.seq | apply CW.region | apply CW.block | apply CW.ret | apply CW.skip | apply CW.label | apply CW.exit
 | apply W.nil | apply Fin.seq | apply Fin.then_ret | apply Fin.then_exit | apply Fin.blk_ret | apply Fin.blk_normal | apply Fin.blk_here)
 | (with_reducible first | refine S.move ?_ | refine S.assign ?_ | refine S.pickT ?_ | refine S.pickF ?_ | refine S.lss ?_ | refine S.gtr ?_ | refine S.leq ?_ | refine S.geq ?_ | refine S.eqT ?_ | refine S.neF ?_ | refine S.eql ?_ | refine S.neq ?_ | refine S.add ?_ | refine S.sub ?_ | refine S.mul ?_ | refine S.conv ?_ | refine S.shr1 ?_ | refine S.neg ?_ | refine S.not ?_ | refine S.extract ?_ | refine S.len ?_ | refine S.fld ?_ | refine S.index ?_ | refine S.skp ?_ | refine S.sliceTo ?_ | refine S.sliceFrom ?_ | refine S.eqNil ?_ | refine S.eqbT ?_ | refine S.nebF ?_ | refine S.eqb ?_ | refine S.neb ?_)
 | ((with_reducible apply CW.cond_true); exact rfl)
 | ((with_reducible apply CW.cond_false); exact rfl)
 | ((with_reducible apply Fin.blk_far); exact rfl))
    refine W.pure (op_index' Tryz.underlying24 slVecs.2 (by rfl) (by rfl) h1) (by rfl) (by rfl) ?_
    refine S.ld (by rfl) oneSl hb1 (by rfl) (by rfl) ?_
    repeat (first
 | (with_reducible first
 | apply CW.seq | apply CW.region | apply CW.block | apply CW.ret | apply CW.skip | apply CW.label | apply CW.exit
 | apply W.nil | apply Fin.seq | apply Fin.then_ret | apply Fin.then_exit | apply Fin.blk_ret | apply Fin.blk_normal | apply Fin.blk_here)
 | (with_reducible first | refine S.move ?_ | refine S.assign ?_ | refine S.pickT ?_ | refine S.pickF ?_ | refine S.lss ?_ | refine S.gtr ?_ | refine S.leq ?_ | refine S.geq ?_ | refine S.eqT ?_ | refine S.neF ?_ | refine S.eql ?_ | refine S.neq ?_ | refine S.add ?_ | refine S.sub ?_ | refine S.mul ?_ | refine S.conv ?_ | refine S.shr1 ?_ | refine S.neg ?_ | refine S.not ?_ | refine S.extract ?_ | refine S.len ?_ | refine S.fld ?_ | refine S.index ?_ | refine S.skp ?_ | refine S.sliceTo ?_ | refine S.sliceFrom ?_ | refine S.eqNil ?_ | refine S.eqbT ?_ | refine S.nebF ?_ | refine S.eqb ?_ | refine S.neb ?_)
 | ((with_reducible apply CW.cond_true); exact rfl)
 | ((with_reducible apply CW.cond_false); exact rfl)
 | ((with_reducible apply Fin.blk_far); exact rfl))
    refine S.ld (by rfl) oneN hb2 (by rfl) (by rfl) ?_
    refine W.pure (op_conv (by rfl) Tryz.underlying62 isI64 (wrapU (by omega))) (by rfl) (by rfl) ?_
    refine W.pure (op_add64 (a := s) (b := x) (by rfl) (by rfl) (by rfl) (by rfl) (by omega)) (by rfl) (by rfl) ?_
    repeat (first
 | (with_reducible first
 | apply CW.seq | apply CW.region | apply CW.block | apply CW.ret | apply CW.skip | apply CW.label | apply CW.exit
 | apply W.nil | apply Fin.seq | apply Fin.then_ret | apply Fin.then_exit | apply Fin.blk_ret | apply Fin.blk_normal | apply Fin.blk_here)
 | (with_reducible first | refine S.move ?_ | refine S.assign ?_ | refine S.pickT ?_ | refine S.pickF ?_ | refine S.lss ?_ | refine S.gtr ?_ | refine S.leq ?_ | refine S.geq ?_ | refine S.eqT ?_ | refine S.neF ?_ | refine S.eql ?_ | refine S.neq ?_ | refine S.add ?_ | refine S.sub ?_ | refine S.mul ?_ | refine S.conv ?_ | refine S.shr1 ?_ | refine S.neg ?_ | refine S.not ?_ | refine S.extract ?_ | refine S.len ?_ | refine S.fld ?_ | refine S.index ?_ | refine S.skp ?_ | refine S.sliceTo ?_ | refine S.sliceFrom ?_ | refine S.eqNil ?_ | refine S.eqbT ?_ | refine S.nebF ?_ | refine S.eqb ?_ | refine S.neb ?_)
 | ((with_reducible apply CW.cond_true); exact rfl)
 | ((with_reducible apply CW.cond_false); exact rfl)
 | ((with_reducible apply Fin.blk_far); exact rfl))
    refine S.ld (by rfl) oneN hb2 (by rfl) (by rfl) ?_
    refine W.pure (op_shr63 (a := (x : Int)) (by rfl) (by rfl) (by omega)) (by rfl) (by rfl) ?_
    refine W.pure (op_conv (by rfl) Tryz.underlying62 isI64 (wrapU (by omega))) (by rfl) (by rfl) ?_
    repeat (first
 | (with_reducible first
 | apply CW.seq | apply CW.region | apply CW.block | apply CW.ret | apply CW.skip | apply CW.label | apply CW.exit
 | apply W.nil | apply Fin.seq | apply Fin.then_ret | apply Fin.then_exit | apply Fin.blk_ret | apply Fin.blk_normal | apply Fin.blk_here)
 | (with_reducible first | refine S.move ?_ | refine S.assign ?_ | refine S.pickT ?_ | refine S.pickF ?_ | refine S.lss ?_ | refine S.gtr ?_ | refine S.leq ?_ | refine S.geq ?_ | refine S.eqT ?_ | refine S.neF ?_ | refine S.eql ?_ | refine S.neq ?_ | refine S.add ?_ | refine S.sub ?_ | refine S.mul ?_ | refine S.conv ?_ | refine S.shr1 ?_ | refine S.neg ?_ | refine S.not ?_ | refine S.extract ?_ | refine S.len ?_ | refine S.fld ?_ | refine S.index ?_ | refine S.skp ?_ | refine S.sliceTo ?_ | refine S.sliceFrom ?_ | refine S.eqNil ?_ | refine S.eqbT ?_ | refine S.nebF ?_ | refine S.eqb ?_ | refine S.neb ?_)
 | ((with_reducible apply CW.cond_true); exact rfl)
 | ((with_reducible apply CW.cond_false); exact rfl)
 | ((with_reducible apply Fin.blk_far); exact rfl))
    refine W.pure (op_add64 (a := 0) (b := 0) (by rfl) (by rfl) (by rfl) (by rfl) (by omega)) (by rfl) (by rfl) ?_
    repeat (first
 | (with_reducible first
 | apply CW.seq | apply CW.region | apply CW.block | apply CW.ret | apply CW.skip | apply CW.label | apply CW.exit
 | apply W.nil | apply Fin.seq | apply Fin.then_ret | apply Fin.then_exit | apply Fin.blk_ret | apply Fin.blk_normal | apply Fin.blk_here)
 | (with_reducible first | refine S.move ?_ | refine S.assign ?_ | refine S.pickT ?_ | refine S.pickF ?_ | refine S.lss ?_ | refine S.gtr ?_ | refine S.leq ?_ | refine S.geq ?_ | refine S.eqT ?_ | refine S.neF ?_ | refine S.eql ?_ | refine S.neq ?_ | refine S.add ?_ | refine S.sub ?_ | refine S.mul ?_ | refine S.conv ?_ | refine S.shr1 ?_ | refine S.neg ?_ | refine S.not ?_ | refine S.extract ?_ | refine S.len ?_ | refine S.fld ?_ | refine S.index ?_ | refine S.skp ?_ | refine S.sliceTo ?_ | refine S.sliceFrom ?_ | refine S.eqNil ?_ | refine S.eqbT ?_ | refine S.nebF ?_ | refine S.eqb ?_ | refine S.neb ?_)
 | ((with_reducible apply CW.cond_true); exact rfl)
 | ((with_reducible apply CW.cond_false); exact rfl)
 | ((with_reducible apply Fin.blk_far); exact rfl))
    refine Fin.round (j + 1, s + x) ?_ (by repeat (first | exact trivial | refine ⟨rfl, ?_⟩)) ⟨rfl, by dsimp only; omega, by dsimp only; rw [hs, Nat.succ_mul]⟩
    dsimp only; omega
  · have h1 := of_decide_eq_false h1
    have hjk : j = k := by omega
    subst hjk
    repeat (first
 | (with_reducible first
 | apply CW.seq | apply CW.region | apply CW.block | apply CW.ret | apply CW.skip | apply CW.label | apply CW.exit
 | apply W.nil | apply Fin.seq | apply Fin.then_ret | apply Fin.then_exit | apply Fin.blk_ret | apply Fin.blk_normal | apply Fin.blk_here)
 | (with_reducible first | refine S.move ?_ | refine S.assign ?_ | refine S.pickT ?_ | refine S.pickF ?_ | refine S.lss ?_ | refine S.gtr ?_ | refine S.leq ?_ | refine S.geq ?_ | refine S.eqT ?_ | refine S.neF ?_ | refine S.eql ?_ | refine S.neq ?_ | refine S.add ?_ | refine S.sub ?_ | refine S.mul ?_ | refine S.conv ?_ | refine S.shr1 ?_ | refine S.neg ?_ | refine S.not ?_ | refine S.extract ?_ | refine S.len ?_ | refine S.fld ?_ | refine S.index ?_ | refine S.skp ?_ | refine S.sliceTo ?_ | refine S.sliceFrom ?_ | refine S.eqNil ?_ | refine S.eqbT ?_ | refine S.nebF ?_ | refine S.eqb ?_ | refine S.neb ?_)
 | ((with_reducible apply CW.cond_true); exact rfl)
 | ((with_reducible apply CW.cond_false); exact rfl)
 | ((with_reducible apply Fin.blk_far); exact rfl))
    refine W.pure (op_shr63 (a := (s : Int)) (by rfl) (by rfl) (by omega)) (by rfl) (by rfl) ?_
    refine W.pure (op_conv (by rfl) Tryz.underlying62 isI64 (wrapU (by omega))) (by rfl) (by rfl) ?_
    repeat (first
 | (with_reducible first
 | apply CW.seq | apply CW.region | apply CW.block | apply CW.ret | apply CW.skip | apply CW.label | apply CW.exit
 | apply W.nil | apply Fin.seq | apply Fin.then_ret | apply Fin.then_exit | apply Fin.blk_ret | apply Fin.blk_normal | apply Fin.blk_here)
 | (with_reducible first | refine S.move ?_ | refine S.assign ?_ | refine S.pickT ?_ | refine S.pickF ?_ | refine S.lss ?_ | refine S.gtr ?_ | refine S.leq ?_ | refine S.geq ?_ | refine S.eqT ?_ | refine S.neF ?_ | refine S.eql ?_ | refine S.neq ?_ | refine S.add ?_ | refine S.sub ?_ | refine S.mul ?_ | refine S.conv ?_ | refine S.shr1 ?_ | refine S.neg ?_ | refine S.not ?_ | refine S.extract ?_ | refine S.len ?_ | refine S.fld ?_ | refine S.index ?_ | refine S.skp ?_ | refine S.sliceTo ?_ | refine S.sliceFrom ?_ | refine S.eqNil ?_ | refine S.eqbT ?_ | refine S.nebF ?_ | refine S.eqb ?_ | refine S.neb ?_)
 | ((with_reducible apply CW.cond_true); exact rfl)
 | ((with_reducible apply CW.cond_false); exact rfl)
 | ((with_reducible apply Fin.blk_far); exact rfl))
    (with_reducible apply R.r2); exact rfl; exact rfl; exact rfl
    rw [hs]
    exact ⟨rfl, rfl⟩

end Go.Proofs.YtnhcbfaomehaeaaGreatDoor

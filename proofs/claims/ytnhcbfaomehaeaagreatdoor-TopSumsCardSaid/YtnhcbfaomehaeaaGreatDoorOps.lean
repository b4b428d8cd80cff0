/- The operations, one lemma each. -/
import Derived.Test.YtnhcbfaomehaeaaGreatDoorDraw
import Derived.WalkSpells
namespace Go.Proofs.YtnhcbfaomehaeaaGreatDoor
open Go.RowKit
set_option linter.unusedVariables false
set_option linter.unusedSimpArgs false

section ops
variable {P : Program} {ty : TypeId} {L : Operand → Option Value} {x y z : Operand} {v u : Value}

theorem op_move (h : L x = some v) : Pure P (.move x) ty L v := fun ev he w d pos aft g => by
  simp [execOp, he x v h]
theorem op_assign (h : L x = some v) : Pure P (.assign x) ty L v := fun ev he w d pos aft g => by
  simp [execOp, he x v h]
theorem op_pick_true (h : L x = some (.bool true)) (hy : L y = some v) : Pure P (.pick x y z) ty L v := fun ev he w d pos aft g => by
  simp [execOp, he x _ h, he y _ hy, asBool]
theorem op_pick_false (h : L x = some (.bool false)) (hz : L z = some v) : Pure P (.pick x y z) ty L v := fun ev he w d pos aft g => by
  simp [execOp, he x _ h, he z _ hz, asBool]
theorem op_not {b : Bool} (h : L x = some (.bool b)) {t : TypeId} : Pure P (.unOp .not t x) ty L (.bool (!b)) := fun ev he w d pos aft g => by
  simp [execOp, he x _ h, Op.unary]
theorem op_extract {i : Nat} {vs : Array Value} (h : L x = some (.tuple vs)) (hv : vs[i]? = some v) : Pure P (.extract x i) ty L v := fun ev he w d pos aft g => by
  simp [execOp, he x _ h, Instr.extract, hv]

section ints
variable {k : IntKind} {a b : Int} {t t' : TypeId}
theorem op_lss (hx : L x = some (.int k a)) (hy : L y = some (.int k b)) : Pure P (.binOp .lss t x y t') ty L (.bool (decide (a < b))) := fun ev he w d pos aft g => by
  simp [execOp, he x _ hx, he y _ hy, eqGuard, binOp, Op.intCmp]
theorem op_leq (hx : L x = some (.int k a)) (hy : L y = some (.int k b)) : Pure P (.binOp .leq t x y t') ty L (.bool (decide (a ≤ b))) := fun ev he w d pos aft g => by
  simp [execOp, he x _ hx, he y _ hy, eqGuard, binOp, Op.intCmp]
theorem op_gtr (hx : L x = some (.int k a)) (hy : L y = some (.int k b)) : Pure P (.binOp .gtr t x y t') ty L (.bool (decide (b < a))) := fun ev he w d pos aft g => by
  simp [execOp, he x _ hx, he y _ hy, eqGuard, binOp, Op.intCmp]
theorem op_geq (hx : L x = some (.int k a)) (hy : L y = some (.int k b)) : Pure P (.binOp .geq t x y t') ty L (.bool (decide (b ≤ a))) := fun ev he w d pos aft g => by
  simp [execOp, he x _ hx, he y _ hy, eqGuard, binOp, Op.intCmp]
theorem op_eql (hx : L x = some (.int k a)) (hy : L y = some (.int k b)) : Pure P (.binOp .eql t x y t') ty L (.bool (decide (a = b))) := fun ev he w d pos aft g => by
  simp [execOp, he x _ hx, he y _ hy, eqGuard, binOp, Op.intCmp]
  by_cases h : a = b <;> simp [h]
theorem op_neq (hx : L x = some (.int k a)) (hy : L y = some (.int k b)) : Pure P (.binOp .neq t x y t') ty L (.bool (decide (a ≠ b))) := fun ev he w d pos aft g => by
  simp [execOp, he x _ hx, he y _ hy, eqGuard, binOp, Op.intCmp]
  by_cases h : a = b <;> simp [h]
theorem op_add (hx : L x = some (.int .i64 a)) (hy : L y = some (.int .i64 b)) (hb : -9223372036854775808 ≤ a + b ∧ a + b < 9223372036854775808) :
    Pure P (.binOp .add t x y t') ty L (.int .i64 (a + b)) := fun ev he w d pos aft g => by
  simp [execOp, he x _ hx, he y _ hy, eqGuard, binOp, Op.intArith, IntKind.wrap_i64]
  omega
theorem op_sub (hx : L x = some (.int .i64 a)) (hy : L y = some (.int .i64 b)) (hb : -9223372036854775808 ≤ a - b ∧ a - b < 9223372036854775808) :
    Pure P (.binOp .sub t x y t') ty L (.int .i64 (a - b)) := fun ev he w d pos aft g => by
  simp [execOp, he x _ hx, he y _ hy, eqGuard, binOp, Op.intArith, IntKind.wrap_i64]
  omega
theorem op_neg (hx : L x = some (.int .i64 a)) (hb : -9223372036854775808 < a ∧ a < 9223372036854775808) :
    Pure P (.unOp .neg t x) ty L (.int .i64 (-a)) := fun ev he w d pos aft g => by
  simp [execOp, he x _ hx, Op.unary, Op.intArith, IntKind.wrap_i64]
  omega
theorem op_addw (hx : L x = some (.int .i64 a)) (hy : L y = some (.int .i64 b)) : Pure P (.binOp .add t x y t') ty L (.int .i64 (wrap64 (a + b))) := fun ev he w d pos aft g => by
  simp [execOp, he x _ hx, he y _ hy, eqGuard, binOp, Op.intArith, IntKind.wrap_i64, wrap64]
theorem op_mul (hx : L x = some (.int .i64 a)) (hy : L y = some (.int .i64 b)) (hb : -9223372036854775808 ≤ a * b ∧ a * b < 9223372036854775808) :
    Pure P (.binOp .mul t x y t') ty L (.int .i64 (a * b)) := fun ev he w d pos aft g => by
  simp [execOp, he x _ hx, he y _ hy, eqGuard, binOp, Op.intArith, IntKind.wrap_i64]
  omega
theorem wrapI {a : Int} (h : -9223372036854775808 ≤ a ∧ a < 9223372036854775808) : IntKind.i64.wrap a = a := by rw [IntKind.wrap_i64]; omega
theorem wrapU {a : Int} (h : 0 ≤ a ∧ a < 18446744073709551616) : IntKind.u64.wrap a = a := by rw [IntKind.wrap_u64]; omega
theorem op_conv {k' : IntKind} {s : TypeId} (hx : L x = some (.int k' a)) (hd : P.underlying t = some (.int k)) (hs : (P.underlying s).isSome = true) (hw : k.wrap a = a) :
    Pure P (.convert s t x) ty L (.int k a) := fun ev he w d pos aft g => by
  obtain ⟨d', hd'⟩ := Option.isSome_iff_exists.mp hs
  simp [execOp, he x _ hx, convert, run_underlying hd', run_underlying hd, Conv.intToInt, hw]
theorem op_shr1 (hx : L x = some (.int .u64 a)) (hy : L y = some (.int .u64 1)) : Pure P (.binOp .shr t x y t') ty L (.int .u64 (a / 2)) := fun ev he w d pos aft g => by
  have h := shift_shr .u64 .u64 a 1 (by omega) (by simp [IntKind.bits])
  simp [execOp, he x _ hx, he y _ hy, eqGuard, binOp, h]
end ints

theorem op_eqb {a b : Bool} {t t' : TypeId} (ht : P.underlying t = some .bool) (hx : L x = some (.bool a)) (hy : L y = some (.bool b)) : Pure P (.binOp .eql t x y t') ty L (.bool (a == b)) := fun ev he w d pos aft g => by
  have h1 := run_eql_bool w t a b ht
  simp [execOp, he x _ hx, he y _ hy, eqGuard, h1]
theorem op_neb {a b : Bool} {t t' : TypeId} (ht : P.underlying t = some .bool) (hx : L x = some (.bool a)) (hy : L y = some (.bool b)) : Pure P (.binOp .neq t x y t') ty L (.bool (!(a == b))) := fun ev he w d pos aft g => by
  have h1 := run_neq_bool w t a b ht
  simp [execOp, he x _ hx, he y _ hy, eqGuard, h1]

theorem op_len {A : Option Addr} {n c : Nat} {t : TypeId} {e : TypeId} (ht : P.underlying t = some (.slice e)) (hx : L x = some (.slice A n c)) : Pure P (.call { callee := .builtin .len, args := #[x], argTypes := #[t] }) ty L (.int .i64 n) := fun ev he w d pos aft g => by
  simp [execOp, he x _ hx, resolve, invoke, builtin, Builtin.len_, goInt, go_sem, run_underlying ht]

theorem op_index {A : Addr} {n c i : Nat} {t e : TypeId} {j : TypeInfo} {s : Nat} (ht : P.underlying t = some (.slice e)) (hj : P.info? e = some j) (hs : j.size = s) (hx : L x = some (.slice (some A) n c)) (hy : L y = some (.int .i64 (i : Int))) (hi : i < n) :
    Pure P (.indexAddr t x y) ty L (.pointer (some (A.add (i * s)))) := fun ev he w d pos aft g => by
  simp [execOp, he x _ hx, he y _ hy, Instr.indexAt, asIntOf, run_underlying ht, sizeOf, typeInfo, hj, hs, hi]

theorem op_eqNil {A : Option Addr} {n c n' c' : Nat} {t t' e : TypeId} (ht : P.underlying t = some (.slice e)) (hx : L x = some (.slice A n c)) (hy : L y = some (.slice none n' c')) : Pure P (.binOp .eql t x y t') ty L (.bool A.isNone) := fun ev he w d pos aft g => by
  have h1 := Lib.run_eql_slice_nil w t e A n c n' c' ht
  simp [execOp, he x _ hx, he y _ hy, eqGuard, h1]

end ops
end Go.Proofs.YtnhcbfaomehaeaaGreatDoor

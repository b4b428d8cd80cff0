/- phase.Next, whatever order the table's entries come in; so what the executor leans on holds. -/
import Derived.Test.YtnhcbfaomehaeaaGreatDoorC6
import Derived.Test.YtnhcbfaomehaeaaGreatDoorStep
namespace Go.Proofs.YtnhcbfaomehaeaaGreatDoor
open Go.RowKit
set_option linter.unusedVariables false
set_option linter.unusedSimpArgs false
set_option maxRecDepth 100000

theorem ent239 : Go.Proofs.Enters Tryz.prog 239 := Go.Proofs.enters_of Tryz.func239 (by kernel_rfl) rfl

section
variable {P : Program} {ty : TypeId} {L : Operand → Option Value} {x y : Operand}
theorem op_buildK {p e : Int} (hx : L x = some (.int .i64 p)) (hy : L y = some (.int .i64 e)) : Pure Tryz.prog (.build 372 #[(0, x), (1, y)]) ty L (R1.pKey p e) := fun ev he w d pos aft g => by
  have hb := R1.built372 p e
  have hm : ((#[(0, x), (1, y)] : Array (Nat × Operand)).map fun (i, x) => (i, ev x)) = #[(0, .int .i64 p), (1, .int .i64 e)] := by simp [he x _ hx, he y _ hy]
  simp only [execOp, Sem.run_bind, hm, run_build w 372 #[(0, .int .i64 p), (1, .int .i64 e)] _ hb, Result.andThen_ok]
  rfl
theorem op_lookupK {p e : Int} {B clock : Nat} {es : List MapEntry} {m : List (Int × Int × Int)} {w : World} (hb : w.heap[B]? = some (.map ⟨es⟩ clock)) (hm : R1.MapIs es m) (hx : L x = some (.map (some B))) (hy : L y = some (R1.pKey p e)) :
    Reads Tryz.prog (.lookup 369 x y true) ty L w (match (m.find? (R1.hit p e)).map (·.2.2) with | some q => .tuple #[.int .i64 q, .bool true] | none => .tuple #[.int .i64 0, .bool false]) := fun ev he d pos aft g => by
  obtain ⟨o, h1, h2⟩ := R1.findKey_run372 p e w hm
  have hg : (getObj B).run Tryz.prog w = .ok (.map ⟨es⟩ clock) w := by simp [getObj, Sem.run, hb]
  have hz : (zeroValue 3).run Tryz.prog w = .ok (.int .i64 0) w := by kernel_rfl
  cases hf : m.find? (R1.hit p e) with
  | none =>
    rw [hf] at h2
    have ho : o = none := by cases o with | none => rfl | some x => cases h2
    subst ho
    simp [execOp, he x _ hx, he y _ hy, Instr.lookup, run_underlying Tryz.underlying369, hg, R1.check372, h1, hz]
  | some z =>
    rw [hf] at h2
    cases o with
    | none => cases h2
    | some o =>
      obtain ⟨i, v⟩ := o
      simp only [Option.map_some, Option.some.injEq] at h2
      subst h2
      simp [execOp, he x _ hx, he y _ hy, Instr.lookup, run_underlying Tryz.underlying369, hg, R1.check372, h1]
end

def Still (w w' : World) : Prop := w.heap.size ≤ w'.heap.size ∧ (∀ k, k < w.heap.size → w'.heap[k]? = w.heap[k]?) ∧ w'.tape = w.tape ∧ w'.os = w.os ∧ w'.output = w.output

theorem Next_calls (p e : Int) (w : World) : CallsR Tryz.prog 223 [.int .i64 p, .int .i64 e] w fun v w' => v = (match R1.phaseX p e with | some q => .tuple #[.int .i64 q, .bool true] | none => .tuple #[.int .i64 0, .bool false]) ∧ Still w w' := by
  refine enter2 Tryz.func223 rfl rfl rfl ?_
  repeat (first
 | (with_reducible first
 | apply CW.seq | apply CW.region | apply CW.block | apply CW.ret | apply CW.skip | apply CW.label | apply CW.exit
 | apply W.nil | apply Fin.seq | apply Fin.then_ret | apply Fin.then_exit | apply Fin.blk_ret | apply Fin.blk_normal | apply Fin.blk_here)
 | (with_reducible first | refine S.move ?_ | refine S.assign ?_ | refine S.pickT ?_ | refine S.pickF ?_ | refine S.lss ?_ | refine S.gtr ?_ | refine S.leq ?_ | refine S.geq ?_ | refine S.eqT ?_ | refine S.neF ?_ | refine S.eql ?_ | refine S.neq ?_ | refine S.add ?_ | refine S.sub ?_ | refine S.mul ?_ | refine S.conv ?_ | refine S.shr1 ?_ | refine S.neg ?_ | refine S.not ?_ | refine S.extract ?_ | refine S.len ?_ | refine S.fld ?_ | refine S.index ?_ | refine S.skp ?_ | refine S.sliceTo ?_ | refine S.sliceFrom ?_ | refine S.eqNil ?_ | refine S.eqbT ?_ | refine S.nebF ?_ | refine S.eqb ?_ | refine S.neb ?_)
 | ((with_reducible apply CW.cond_true); exact rfl)
 | ((with_reducible apply CW.cond_false); exact rfl)
 | ((with_reducible apply Fin.blk_far); exact rfl))
  refine S.cl (op_call ent239 (by rfl) (by rfl)) (by rfl) (by rfl) (Rl := fun v w' => ∃ B es clock m, v = .map (some B) ∧ w'.heap[B]? = some (.map ⟨es⟩ clock) ∧ R1.MapIs es m ∧ (∀ x ∈ m, x ∈ R1.phL) ∧ (∀ x ∈ R1.phL, x ∈ m) ∧ Still w w') ?_ ?_
  · refine Calls.mono (R1.table_calls w) fun e w' he => ?_
    obtain ⟨B, es, clock, m, rfl, h2, h3, h4, h5, h6⟩ := he
    exact ⟨B, es, clock, m, rfl, h2, h3, h4, h5, h6⟩
  rintro v w1 ⟨B, es, clock, m, rfl, h2, h3, h4, h5, h6⟩
  repeat (first
 | (with_reducible first
 | apply CW.seq | apply CW.region | apply CW.block | apply CW.ret | apply CW.skip | apply CW.label | apply CW.exit
 | apply W.nil | apply Fin.seq | apply Fin.then_ret | apply Fin.then_exit | apply Fin.blk_ret | apply Fin.blk_normal | apply Fin.blk_here)
 | (with_reducible first | refine S.move ?_ | refine S.assign ?_ | refine S.pickT ?_ | refine S.pickF ?_ | refine S.lss ?_ | refine S.gtr ?_ | refine S.leq ?_ | refine S.geq ?_ | refine S.eqT ?_ | refine S.neF ?_ | refine S.eql ?_ | refine S.neq ?_ | refine S.add ?_ | refine S.sub ?_ | refine S.mul ?_ | refine S.conv ?_ | refine S.shr1 ?_ | refine S.neg ?_ | refine S.not ?_ | refine S.extract ?_ | refine S.len ?_ | refine S.fld ?_ | refine S.index ?_ | refine S.skp ?_ | refine S.sliceTo ?_ | refine S.sliceFrom ?_ | refine S.eqNil ?_ | refine S.eqbT ?_ | refine S.nebF ?_ | refine S.eqb ?_ | refine S.neb ?_)
 | ((with_reducible apply CW.cond_true); exact rfl)
 | ((with_reducible apply CW.cond_false); exact rfl)
 | ((with_reducible apply Fin.blk_far); exact rfl))
  refine W.pure (op_buildK (by rfl) (by rfl)) (by rfl) (by rfl) ?_
  refine W.reads (op_lookupK h2 h3 (by rfl) (by rfl)) (by rfl) (by rfl) ?_
  rw [R1.find_all h4 h5 p e]
  cases R1.phaseX p e with
  | none =>
    repeat (first
 | (with_reducible first
 | apply CW.seq | apply CW.region | apply CW.block | apply CW.ret | apply CW.skip | apply CW.label | apply CW.exit
 | apply W.nil | apply Fin.seq | apply Fin.then_ret | apply Fin.then_exit | apply Fin.blk_ret | apply Fin.blk_normal | apply Fin.blk_here)
 | (with_reducible first | refine S.move ?_ | refine S.assign ?_ | refine S.pickT ?_ | refine S.pickF ?_ | refine S.lss ?_ | refine S.gtr ?_ | refine S.leq ?_ | refine S.geq ?_ | refine S.eqT ?_ | refine S.neF ?_ | refine S.eql ?_ | refine S.neq ?_ | refine S.add ?_ | refine S.sub ?_ | refine S.mul ?_ | refine S.conv ?_ | refine S.shr1 ?_ | refine S.neg ?_ | refine S.not ?_ | refine S.extract ?_ | refine S.len ?_ | refine S.fld ?_ | refine S.index ?_ | refine S.skp ?_ | refine S.sliceTo ?_ | refine S.sliceFrom ?_ | refine S.eqNil ?_ | refine S.eqbT ?_ | refine S.nebF ?_ | refine S.eqb ?_ | refine S.neb ?_)
 | ((with_reducible apply CW.cond_true); exact rfl)
 | ((with_reducible apply CW.cond_false); exact rfl)
 | ((with_reducible apply Fin.blk_far); exact rfl))
    (with_reducible apply R.r2); exact rfl; exact rfl; exact rfl
    exact ⟨rfl, h6⟩
  | some q =>
    repeat (first
 | (with_reducible first
 | apply CW.seq | apply CW.region | apply CW.block | apply CW.ret | apply CW.skip | apply CW.label | apply CW.exit
 | apply W.nil | apply Fin.seq | apply Fin.then_ret | apply Fin.then_exit | apply Fin.blk_ret | apply Fin.blk_normal | apply Fin.blk_here)
 | (with_reducible first | refine S.move ?_ | refine S.assign ?_ | refine S.pickT ?_ | refine S.pickF ?_ | refine S.lss ?_ | refine S.gtr ?_ | refine S.leq ?_ | refine S.geq ?_ | refine S.eqT ?_ | refine S.neF ?_ | refine S.eql ?_ | refine S.neq ?_ | refine S.add ?_ | refine S.sub ?_ | refine S.mul ?_ | refine S.conv ?_ | refine S.shr1 ?_ | refine S.neg ?_ | refine S.not ?_ | refine S.extract ?_ | refine S.len ?_ | refine S.fld ?_ | refine S.index ?_ | refine S.skp ?_ | refine S.sliceTo ?_ | refine S.sliceFrom ?_ | refine S.eqNil ?_ | refine S.eqbT ?_ | refine S.nebF ?_ | refine S.eqb ?_ | refine S.neb ?_)
 | ((with_reducible apply CW.cond_true); exact rfl)
 | ((with_reducible apply CW.cond_false); exact rfl)
 | ((with_reducible apply Fin.blk_far); exact rfl))
    (with_reducible apply R.r2); exact rfl; exact rfl; exact rfl
    exact ⟨rfl, h6⟩

end Go.Proofs.YtnhcbfaomehaeaaGreatDoor

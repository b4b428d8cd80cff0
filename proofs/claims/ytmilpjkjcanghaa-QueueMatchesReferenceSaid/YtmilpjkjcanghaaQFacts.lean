/- What the queue's laws ask of the program's tables; the operations that only they use. -/
import Derived.Test.YtmilpjkjcanghaaMapOps
import Derived.Test.YtmilpjkjcanghaaAwake
import Derived.Laws.Pointers
namespace Go.Proofs.Ytmilpjkjcanghaa
open Go.RowKit
set_option linter.unusedVariables false
set_option linter.unusedSimpArgs false

theorem ent27 : Go.Proofs.Enters Try.prog 27 := Go.Proofs.enters_of Try.func27 (by kernel_rfl) rfl
theorem ent28 : Go.Proofs.Enters Try.prog 28 := Go.Proofs.enters_of Try.func28 (by kernel_rfl) rfl
theorem ent29 : Go.Proofs.Enters Try.prog 29 := Go.Proofs.enters_of Try.func29 (by kernel_rfl) rfl
theorem ent30 : Go.Proofs.Enters Try.prog 30 := Go.Proofs.enters_of Try.func30 (by kernel_rfl) rfl
theorem ent31 : Go.Proofs.Enters Try.prog 31 := Go.Proofs.enters_of Try.func31 (by kernel_rfl) rfl
theorem ent32 : Go.Proofs.Enters Try.prog 32 := Go.Proofs.enters_of Try.func32 (by kernel_rfl) rfl
theorem ent33 : Go.Proofs.Enters Try.prog 33 := Go.Proofs.enters_of Try.func33 (by kernel_rfl) rfl
theorem ent34 : Go.Proofs.Enters Try.prog 34 := Go.Proofs.enters_of Try.func34 (by kernel_rfl) rfl
theorem ent35 : Go.Proofs.Enters Try.prog 35 := Go.Proofs.enters_of Try.func35 (by kernel_rfl) rfl
theorem ent36 : Go.Proofs.Enters Try.prog 36 := Go.Proofs.enters_of Try.func36 (by kernel_rfl) rfl
theorem ent37 : Go.Proofs.Enters Try.prog 37 := Go.Proofs.enters_of Try.func37 (by kernel_rfl) rfl
theorem ent38 : Go.Proofs.Enters Try.prog 38 := Go.Proofs.enters_of Try.func38 (by kernel_rfl) rfl
theorem ent39 : Go.Proofs.Enters Try.prog 39 := Go.Proofs.enters_of Try.func39 (by kernel_rfl) rfl
theorem ent40 : Go.Proofs.Enters Try.prog 40 := Go.Proofs.enters_of Try.func40 (by kernel_rfl) rfl
theorem ent41 : Go.Proofs.Enters Try.prog 41 := Go.Proofs.enters_of Try.func41 (by kernel_rfl) rfl
theorem ent49 : Go.Proofs.Enters Try.prog 49 := Go.Proofs.enters_of Try.func49 (by kernel_rfl) rfl
theorem ent50 : Go.Proofs.Enters Try.prog 50 := Go.Proofs.enters_of Try.func50 (by kernel_rfl) rfl
theorem ent51 : Go.Proofs.Enters Try.prog 51 := Go.Proofs.enters_of Try.func51 (by kernel_rfl) rfl
theorem ent52 : Go.Proofs.Enters Try.prog 52 := Go.Proofs.enters_of Try.func52 (by kernel_rfl) rfl
theorem ent53 : Go.Proofs.Enters Try.prog 53 := Go.Proofs.enters_of Try.func53 (by kernel_rfl) rfl
theorem ent57 : Go.Proofs.Enters Try.prog 57 := Go.Proofs.enters_of Try.func57 (by kernel_rfl) rfl
theorem ent62 : Go.Proofs.Enters Try.prog 62 := Go.Proofs.enters_of Try.func62 (by kernel_rfl) rfl
theorem ent58 : Go.Proofs.Enters Try.prog 58 := Go.Proofs.enters_of Try.func58 (by kernel_rfl) rfl
theorem ent59 : Go.Proofs.Enters Try.prog 59 := Go.Proofs.enters_of Try.func59 (by kernel_rfl) rfl

theorem szMap : (Try.prog.info? 65).map (·.size) = some (0 + 1) := by kernel_rfl
theorem szPodsS : (Try.prog.info? 22).map (·.size) = some (0 + 1) := by kernel_rfl
theorem szPodsT : (Try.prog.info? 67).map (·.size) = some (1 + 1) := by kernel_rfl
theorem zeroInt : (Try.prog.info? 3).map (·.zero) = some (some (.int .i64 0)) := by kernel_rfl
theorem fHeapL : Fld Try.prog 67 0 0 := Fld.of Try.underlying67 rfl rfl szPodsS
theorem fHeapM : Fld Try.prog 67 1 1 := Fld.of Try.underlying67 rfl rfl szMap
theorem fQueueH : Fld Try.prog 69 0 0 := Fld.of Try.underlying69 rfl rfl szPodsT
theorem onePods : ∃ d, Try.prog.underlying 22 = some d ∧ oneDesc d = true := ⟨_, Try.underlying22, rfl⟩
theorem oneMap : ∃ d, Try.prog.underlying 65 = some d ∧ oneDesc d = true := ⟨_, Try.underlying65, rfl⟩

theorem meth_Len (v : Value) (w : World) : (callMethod (.iface 71 v) "Len" [].toArray).run Try.prog w = .ok (.enter 52 [v].toArray) w := by kernel_rfl
theorem meth_Less (v x y : Value) (w : World) : (callMethod (.iface 71 v) "Less" [x, y].toArray).run Try.prog w = .ok (.enter 81 [v, x, y].toArray) w := by kernel_rfl
theorem meth_Swap (v x y : Value) (w : World) : (callMethod (.iface 71 v) "Swap" [x, y].toArray).run Try.prog w = .ok (.enter 84 [v, x, y].toArray) w := by kernel_rfl
theorem meth_Push (v x : Value) (w : World) : (callMethod (.iface 71 v) "Push" [x].toArray).run Try.prog w = .ok (.enter 83 [v, x].toArray) w := by kernel_rfl
theorem meth_Pop (v : Value) (w : World) : (callMethod (.iface 71 v) "Pop" [].toArray).run Try.prog w = .ok (.enter 82 [v].toArray) w := by kernel_rfl

section
variable {P : Program} {ty : TypeId} {L : Operand → Option Value} {x y : Operand}
theorem op_nilCheck {a : Addr} (hx : L x = some (.pointer (some a))) : Pure P (.nilCheck x) ty L (.pointer (some a)) := fun ev he w d pos aft g => by
  simp [execOp, he x _ hx]
theorem op_eqPtr {t t' : TypeId} {A : Option Addr} (ht : P.underlying t = some (.pointer (P.pointee t))) (hx : L x = some (.pointer A)) (hy : L y = some (.pointer none)) : Pure P (.binOp .eql t x y t') ty L (.bool A.isNone) := fun ev he w d pos aft g => by
  have h := run_eql_pointer_nil (P := P) w t A ht
  simp [execOp, he x _ hx, he y _ hy, eqGuard, h]
theorem op_nePtr {t t' : TypeId} {A : Option Addr} (ht : P.underlying t = some (.pointer (P.pointee t))) (hx : L x = some (.pointer A)) (hy : L y = some (.pointer none)) : Pure P (.binOp .neq t x y t') ty L (.bool (!A.isNone)) := fun ev he w d pos aft g => by
  have h := run_neq_pointer_nil (P := P) w t A ht
  simp [execOp, he x _ hx, he y _ hy, eqGuard, h]
theorem op_quo {t t' : TypeId} {a b : Int} (hx : L x = some (.int .i64 a)) (hy : L y = some (.int .i64 b)) (hb : b ≠ 0) (hw : IntKind.i64.wrap (a.tdiv b) = a.tdiv b) : Pure P (.binOp .quo t x y t') ty L (.int .i64 (a.tdiv b)) := fun ev he w d pos aft g => by
  simp [execOp, he x _ hx, he y _ hy, eqGuard, binOp, Op.intDiv, hb, hw]
theorem op_mkIface {t : TypeId} {v : Value} {dd : TypeDesc} (ht : P.underlying t = some dd) (hd : (match dd with | .interface _ => false | _ => true) = true) (hx : L x = some v) : Pure P (.makeInterface t x) ty L (.iface t v) := fun ev he w d pos aft g => by
  cases dd <;> simp at hd <;> simp [execOp, he x _ hx, Instr.makeInterface, run_underlying ht]
theorem op_typeAssert {t xt : TypeId} {v : Value} {dd : TypeDesc} (ht : P.underlying t = some dd) (hd : (match dd with | .interface _ => false | _ => true) = true) (hx : L x = some (.iface t v)) : Pure P (.typeAssert x xt t true) ty L (.tuple #[v, .bool true]) := fun ev he w d pos aft g => by
  cases dd <;> simp at hd <;> simp [execOp, he x _ hx, Instr.typeAssert, run_underlying ht]

/-- The call of a method behind an interface. -/
theorem op_invoke {f : FuncId} {t : TypeId} {v : Value} {name : String} {xs : Array Operand} {vs : List Value} {ats : Array TypeId} (hm : ∀ w, (callMethod (.iface t v) name vs.toArray).run P w = .ok (.enter f (v :: vs).toArray) w) (hx : L x = some (.iface t v)) (hargs : evL L xs.toList = some vs) :
    IsCall P (.call { callee := .invoke x name, args := xs, argTypes := ats }) ty L f (v :: vs) := fun ev he w d pos aft g => by
  have h1 : xs.map ev = vs.toArray := by
    rw [← evL_map he hargs]
    apply Array.toList_inj.1
    simp
  have h2 := he x _ hx
  have h3 := hm w
  have h4 : (#[Value.iface t v] ++ vs.toArray).extract 1 (#[Value.iface t v] ++ vs.toArray).size = vs.toArray := by
    apply Array.toList_inj.1
    simp
  simp [execOp, resolve, h2, h1, invoke]
  simpa using h3
end

section
variable {P : Program} {fn : Func} {N : Nat} {env : Env} {w : World} {R : Value → World → Prop}
/-- A named result that lives in memory. -/
theorem results_one {ty p : Nat} {tmps : Array Value} {g : Nat} {cs : List Value} {t : TypeId} (hr : fn.results = #[.cell p ty]) (hp : tmps.getD p undef = .pointer (some ⟨g, 0, none⟩)) (hB : Blk w g t cs) (hS : StOf P ty cs.length) : (results fn tmps).run P w = .ok (.agg cs.toArray) w := by
  have hl := run_load_struct (P := P) (w := w) (b := g) (o := 0) (cs := cs) hS.choose_spec.1 hS.choose_spec.2 rfl (fun k u hk => by rw [Nat.zero_add]; exact hB.cell hk)
  have hp' : tmps[p]?.getD undef = .pointer (some ⟨g, 0, none⟩) := by simpa using hp
  simp [results, hr, hp', asAddr, hl]
theorem results_two {ty p s : Nat} {tmps : Array Value} {g : Nat} {cs : List Value} {t : TypeId} (hr : fn.results = #[.cell p ty, .tmp s]) (hp : tmps.getD p undef = .pointer (some ⟨g, 0, none⟩)) (hB : Blk w g t cs) (hS : StOf P ty cs.length) : (results fn tmps).run P w = .ok (.tuple #[.agg cs.toArray, tmps.getD s undef]) w := by
  have hl := run_load_struct (P := P) (w := w) (b := g) (o := 0) (cs := cs) hS.choose_spec.1 hS.choose_spec.2 rfl (fun k u hk => by rw [Nat.zero_add]; exact hB.cell hk)
  have hp' : tmps[p]?.getD undef = .pointer (some ⟨g, 0, none⟩) := by simpa using hp
  simp [results, hr, hp', asAddr, hl]
theorem R.c1 {ty p g : Nat} {cs : List Value} {t : TypeId} (hr : fn.results = #[.cell p ty]) (hp : getE env p = some (.pointer (some ⟨g, 0, none⟩))) (hB : Blk w g t cs) (hS : StOf P ty cs.length) (h : R (.agg cs.toArray) w) : Fin (PostR P fn R) .ret N env w := fun a ha =>
  bodyPost_ret (results_one hr (ha.val p _ hp) hB hS) ha.defers h
theorem R.c2 {ty p s g : Nat} {cs : List Value} {t : TypeId} {u : Value} (hr : fn.results = #[.cell p ty, .tmp s]) (hp : getE env p = some (.pointer (some ⟨g, 0, none⟩))) (hs : getE env s = some u) (hB : Blk w g t cs) (hS : StOf P ty cs.length) (h : R (.tuple #[.agg cs.toArray, u]) w) : Fin (PostR P fn R) .ret N env w := fun a ha =>
  bodyPost_ret (results_two hr (ha.val p _ hp) hB hS) ha.defers (by rw [ha.val s u hs]; exact h)
end

end Go.Proofs.Ytmilpjkjcanghaa

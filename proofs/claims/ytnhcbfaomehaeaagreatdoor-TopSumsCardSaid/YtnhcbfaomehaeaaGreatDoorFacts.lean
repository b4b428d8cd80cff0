/- What the program's own tables say. -/
import Derived.Test.YtnhcbfaomehaeaaGreatDoorMake
import Derived.Test.YtnhcbfaomehaeaaGreatDoorProg
namespace Go.Proofs.YtnhcbfaomehaeaaGreatDoor
open Go.RowKit

theorem mixed : Tryz.prog.follows .mixedOrders = true := by kernel_rfl
theorem szInt : (Tryz.prog.info? 3).map (·.size) = some (0 + 1) := by kernel_rfl
theorem szBool : (Tryz.prog.info? 4).map (·.size) = some (0 + 1) := by kernel_rfl
theorem szI64 : (Tryz.prog.info? 2).map (·.size) = some (0 + 1) := by kernel_rfl
theorem szSl : (Tryz.prog.info? 25).map (·.size) = some (0 + 1) := by kernel_rfl
theorem isInt : (Tryz.prog.underlying 3).isSome = true := by rw [Tryz.underlying3]; rfl
theorem isUint : (Tryz.prog.underlying 65).isSome = true := by rw [Tryz.underlying65]; rfl
theorem szPod9 : (Tryz.prog.info? 182).map (·.size) = some 9 := by kernel_rfl
theorem stPod : StOf Tryz.prog 182 9 := ⟨_, Tryz.underlying182, szPod9⟩
theorem slPods : SlOf Tryz.prog 142 182 9 := ⟨Tryz.underlying142, szPod9⟩
theorem slI64s : SlOf Tryz.prog 25 2 1 := ⟨Tryz.underlying25, szI64⟩
theorem slInts : SlOf Tryz.prog 183 3 1 := ⟨Tryz.underlying183, szInt⟩
theorem oneInt : ∃ d, Tryz.prog.underlying 3 = some d ∧ oneDesc d = true := ⟨_, Tryz.underlying3, rfl⟩
theorem oneI64 : ∃ d, Tryz.prog.underlying 2 = some d ∧ oneDesc d = true := ⟨_, Tryz.underlying2, rfl⟩
theorem oneBool : ∃ d, Tryz.prog.underlying 4 = some d ∧ oneDesc d = true := ⟨_, Tryz.underlying4, rfl⟩
theorem oneI64s : ∃ d, Tryz.prog.underlying 25 = some d ∧ oneDesc d = true := ⟨_, Tryz.underlying25, rfl⟩
theorem fPod (i : Nat) (h : Nat.blt i 9 = true) : Fld Tryz.prog 182 i i := by
  have h : i < 9 := by simpa [Nat.blt_eq] using h
  match i, h with
  | 0, _ => exact Fld.of Tryz.underlying182 rfl rfl szInt
  | 1, _ => exact Fld.of Tryz.underlying182 rfl rfl szInt
  | 2, _ => exact Fld.of Tryz.underlying182 rfl rfl szBool
  | 3, _ => exact Fld.of Tryz.underlying182 rfl rfl szInt
  | 4, _ => exact Fld.of Tryz.underlying182 rfl rfl szSl
  | 5, _ => exact Fld.of Tryz.underlying182 rfl rfl szInt
  | 6, _ => exact Fld.of Tryz.underlying182 rfl rfl szInt
  | 7, _ => exact Fld.of Tryz.underlying182 rfl rfl szInt
  | 8, _ => exact Fld.of Tryz.underlying182 rfl rfl szInt
theorem zInt : (Tryz.prog.info? 3).map (fun j => (j.size, j.zero)) = some (1, some (.int .i64 0)) := by kernel_rfl
theorem zPod : (Tryz.prog.info? 182).map (fun j => (j.size, j.zero)) = some (9, some PV.zero.v) := by kernel_rfl

theorem ent265 : Go.Proofs.Enters Tryz.prog 265 := Go.Proofs.enters_of Tryz.func265 (by kernel_rfl) rfl
theorem ent252 : Go.Proofs.Enters Tryz.prog 252 := Go.Proofs.enters_of Tryz.func252 (by kernel_rfl) rfl
theorem ent251 : Go.Proofs.Enters Tryz.prog 251 := Go.Proofs.enters_of Tryz.func251 (by kernel_rfl) rfl
theorem ent237 : Go.Proofs.Enters Tryz.prog 237 := Go.Proofs.enters_of Tryz.func237 (by kernel_rfl) rfl
theorem ent382 : Go.Proofs.Enters Tryz.prog 382 := Go.Proofs.enters_of Tryz.func382 (by kernel_rfl) rfl

theorem ent221 : Go.Proofs.Enters Tryz.prog 221 := Go.Proofs.enters_of Tryz.func221 (by kernel_rfl) rfl
theorem ent282 : Go.Proofs.Enters Tryz.prog 282 := Go.Proofs.enters_of Tryz.func282 (by kernel_rfl) rfl
theorem ent291 : Go.Proofs.Enters Tryz.prog 291 := Go.Proofs.enters_of Tryz.func291 (by kernel_rfl) rfl
theorem ent278 : Go.Proofs.Enters Tryz.prog 278 := Go.Proofs.enters_of Tryz.func278 (by kernel_rfl) rfl
theorem ent290 : Go.Proofs.Enters Tryz.prog 290 := Go.Proofs.enters_of Tryz.func290 (by kernel_rfl) rfl
theorem ent235 : Go.Proofs.Enters Tryz.prog 235 := Go.Proofs.enters_of Tryz.func235 (by kernel_rfl) rfl
theorem ent236 : Go.Proofs.Enters Tryz.prog 236 := Go.Proofs.enters_of Tryz.func236 (by kernel_rfl) rfl
theorem ent250 : Go.Proofs.Enters Tryz.prog 250 := Go.Proofs.enters_of Tryz.func250 (by kernel_rfl) rfl
theorem ent263 : Go.Proofs.Enters Tryz.prog 263 := Go.Proofs.enters_of Tryz.func263 (by kernel_rfl) rfl
theorem ent264 : Go.Proofs.Enters Tryz.prog 264 := Go.Proofs.enters_of Tryz.func264 (by kernel_rfl) rfl
theorem ent276 : Go.Proofs.Enters Tryz.prog 276 := Go.Proofs.enters_of Tryz.func276 (by kernel_rfl) rfl
theorem ent284 : Go.Proofs.Enters Tryz.prog 284 := Go.Proofs.enters_of Tryz.func284 (by kernel_rfl) rfl
end Go.Proofs.YtnhcbfaomehaeaaGreatDoor

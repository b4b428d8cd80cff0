/- What the program's own tables say. -/
import Derived.Test.YtmilpjkjcanghaaDoorMake
import Derived.Test.YtmilpjkjcanghaaDoorProg
namespace Go.Proofs.YtmilpjkjcanghaaDoor
open Go.RowKit

theorem mixed : Tryd.prog.follows .mixedOrders = true := by kernel_rfl
theorem szInt : (Tryd.prog.info? 3).map (·.size) = some (0 + 1) := by kernel_rfl
theorem szBool : (Tryd.prog.info? 4).map (·.size) = some (0 + 1) := by kernel_rfl
theorem szI64 : (Tryd.prog.info? 2).map (·.size) = some (0 + 1) := by kernel_rfl
theorem szSl : (Tryd.prog.info? 28).map (·.size) = some (0 + 1) := by kernel_rfl
theorem isInt : (Tryd.prog.underlying 3).isSome = true := by rw [Tryd.underlying3]; rfl
theorem isUint : (Tryd.prog.underlying 78).isSome = true := by rw [Tryd.underlying78]; rfl
theorem szPod9 : (Tryd.prog.info? 30).map (·.size) = some 9 := by kernel_rfl
theorem stPod : StOf Tryd.prog 30 9 := ⟨_, Tryd.underlying30, szPod9⟩
theorem slPods : SlOf Tryd.prog 22 30 9 := ⟨Tryd.underlying22, szPod9⟩
theorem slI64s : SlOf Tryd.prog 28 2 1 := ⟨Tryd.underlying28, szI64⟩
theorem slInts : SlOf Tryd.prog 38 3 1 := ⟨Tryd.underlying38, szInt⟩
theorem oneInt : ∃ d, Tryd.prog.underlying 3 = some d ∧ oneDesc d = true := ⟨_, Tryd.underlying3, rfl⟩
theorem oneI64 : ∃ d, Tryd.prog.underlying 2 = some d ∧ oneDesc d = true := ⟨_, Tryd.underlying2, rfl⟩
theorem oneBool : ∃ d, Tryd.prog.underlying 4 = some d ∧ oneDesc d = true := ⟨_, Tryd.underlying4, rfl⟩
theorem oneI64s : ∃ d, Tryd.prog.underlying 28 = some d ∧ oneDesc d = true := ⟨_, Tryd.underlying28, rfl⟩
theorem fPod (i : Nat) (h : Nat.blt i 9 = true) : Fld Tryd.prog 30 i i := by
  have h : i < 9 := by simpa [Nat.blt_eq] using h
  match i, h with
  | 0, _ => exact Fld.of Tryd.underlying30 rfl rfl szInt
  | 1, _ => exact Fld.of Tryd.underlying30 rfl rfl szInt
  | 2, _ => exact Fld.of Tryd.underlying30 rfl rfl szBool
  | 3, _ => exact Fld.of Tryd.underlying30 rfl rfl szInt
  | 4, _ => exact Fld.of Tryd.underlying30 rfl rfl szSl
  | 5, _ => exact Fld.of Tryd.underlying30 rfl rfl szInt
  | 6, _ => exact Fld.of Tryd.underlying30 rfl rfl szInt
  | 7, _ => exact Fld.of Tryd.underlying30 rfl rfl szInt
  | 8, _ => exact Fld.of Tryd.underlying30 rfl rfl szInt
theorem zInt : (Tryd.prog.info? 3).map (fun j => (j.size, j.zero)) = some (1, some (.int .i64 0)) := by kernel_rfl
theorem zPod : (Tryd.prog.info? 30).map (fun j => (j.size, j.zero)) = some (9, some PV.zero.v) := by kernel_rfl

theorem ent45 : Go.Proofs.Enters Tryd.prog 45 := Go.Proofs.enters_of Tryd.func45 (by kernel_rfl) rfl
theorem ent42 : Go.Proofs.Enters Tryd.prog 42 := Go.Proofs.enters_of Tryd.func42 (by kernel_rfl) rfl
theorem ent41 : Go.Proofs.Enters Tryd.prog 41 := Go.Proofs.enters_of Tryd.func41 (by kernel_rfl) rfl
theorem ent38 : Go.Proofs.Enters Tryd.prog 38 := Go.Proofs.enters_of Tryd.func38 (by kernel_rfl) rfl

theorem ent28 : Go.Proofs.Enters Tryd.prog 28 := Go.Proofs.enters_of Tryd.func28 (by kernel_rfl) rfl
theorem ent35 : Go.Proofs.Enters Tryd.prog 35 := Go.Proofs.enters_of Tryd.func35 (by kernel_rfl) rfl
theorem ent27 : Go.Proofs.Enters Tryd.prog 27 := Go.Proofs.enters_of Tryd.func27 (by kernel_rfl) rfl
theorem ent26 : Go.Proofs.Enters Tryd.prog 26 := Go.Proofs.enters_of Tryd.func26 (by kernel_rfl) rfl
theorem ent12 : Go.Proofs.Enters Tryd.prog 12 := Go.Proofs.enters_of Tryd.func12 (by kernel_rfl) rfl
theorem ent10 : Go.Proofs.Enters Tryd.prog 10 := Go.Proofs.enters_of Tryd.func10 (by kernel_rfl) rfl
theorem ent34 : Go.Proofs.Enters Tryd.prog 34 := Go.Proofs.enters_of Tryd.func34 (by kernel_rfl) rfl
theorem ent39 : Go.Proofs.Enters Tryd.prog 39 := Go.Proofs.enters_of Tryd.func39 (by kernel_rfl) rfl
theorem ent36 : Go.Proofs.Enters Tryd.prog 36 := Go.Proofs.enters_of Tryd.func36 (by kernel_rfl) rfl
theorem ent37 : Go.Proofs.Enters Tryd.prog 37 := Go.Proofs.enters_of Tryd.func37 (by kernel_rfl) rfl
theorem ent40 : Go.Proofs.Enters Tryd.prog 40 := Go.Proofs.enters_of Tryd.func40 (by kernel_rfl) rfl
theorem ent43 : Go.Proofs.Enters Tryd.prog 43 := Go.Proofs.enters_of Tryd.func43 (by kernel_rfl) rfl
theorem ent44 : Go.Proofs.Enters Tryd.prog 44 := Go.Proofs.enters_of Tryd.func44 (by kernel_rfl) rfl
theorem ent46 : Go.Proofs.Enters Tryd.prog 46 := Go.Proofs.enters_of Tryd.func46 (by kernel_rfl) rfl
theorem ent47 : Go.Proofs.Enters Tryd.prog 47 := Go.Proofs.enters_of Tryd.func47 (by kernel_rfl) rfl
end Go.Proofs.YtmilpjkjcanghaaDoor

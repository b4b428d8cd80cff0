/- What the program's own tables say. -/
import Derived.Test.YtmilpjkjcanghaaMake
import Derived.Test.YtmilpjkjcanghaaProg
namespace Go.Proofs.Ytmilpjkjcanghaa
open Go.RowKit

theorem mixed : Try.prog.follows .mixedOrders = true := by kernel_rfl
theorem szInt : (Try.prog.info? 3).map (·.size) = some (0 + 1) := by kernel_rfl
theorem szBool : (Try.prog.info? 4).map (·.size) = some (0 + 1) := by kernel_rfl
theorem szI64 : (Try.prog.info? 2).map (·.size) = some (0 + 1) := by kernel_rfl
theorem szSl : (Try.prog.info? 23).map (·.size) = some (0 + 1) := by kernel_rfl
theorem isInt : (Try.prog.underlying 3).isSome = true := by rw [Try.underlying3]; rfl
theorem isUint : (Try.prog.underlying 87).isSome = true := by rw [Try.underlying87]; rfl
theorem szPod9 : (Try.prog.info? 25).map (·.size) = some 9 := by kernel_rfl
theorem stPod : StOf Try.prog 25 9 := ⟨_, Try.underlying25, szPod9⟩
theorem slPods : SlOf Try.prog 22 25 9 := ⟨Try.underlying22, szPod9⟩
theorem slI64s : SlOf Try.prog 23 2 1 := ⟨Try.underlying23, szI64⟩
theorem slInts : SlOf Try.prog 60 3 1 := ⟨Try.underlying60, szInt⟩
theorem oneInt : ∃ d, Try.prog.underlying 3 = some d ∧ oneDesc d = true := ⟨_, Try.underlying3, rfl⟩
theorem oneI64 : ∃ d, Try.prog.underlying 2 = some d ∧ oneDesc d = true := ⟨_, Try.underlying2, rfl⟩
theorem oneBool : ∃ d, Try.prog.underlying 4 = some d ∧ oneDesc d = true := ⟨_, Try.underlying4, rfl⟩
theorem oneI64s : ∃ d, Try.prog.underlying 23 = some d ∧ oneDesc d = true := ⟨_, Try.underlying23, rfl⟩
theorem fPod (i : Nat) (h : Nat.blt i 9 = true) : Fld Try.prog 25 i i := by
  have h : i < 9 := by simpa [Nat.blt_eq] using h
  match i, h with
  | 0, _ => exact Fld.of Try.underlying25 rfl rfl szInt
  | 1, _ => exact Fld.of Try.underlying25 rfl rfl szInt
  | 2, _ => exact Fld.of Try.underlying25 rfl rfl szBool
  | 3, _ => exact Fld.of Try.underlying25 rfl rfl szInt
  | 4, _ => exact Fld.of Try.underlying25 rfl rfl szSl
  | 5, _ => exact Fld.of Try.underlying25 rfl rfl szInt
  | 6, _ => exact Fld.of Try.underlying25 rfl rfl szInt
  | 7, _ => exact Fld.of Try.underlying25 rfl rfl szInt
  | 8, _ => exact Fld.of Try.underlying25 rfl rfl szInt
theorem zInt : (Try.prog.info? 3).map (fun j => (j.size, j.zero)) = some (1, some (.int .i64 0)) := by kernel_rfl
theorem zPod : (Try.prog.info? 25).map (fun j => (j.size, j.zero)) = some (9, some PV.zero.v) := by kernel_rfl

theorem ent54 : Go.Proofs.Enters Try.prog 54 := Go.Proofs.enters_of Try.func54 (by kernel_rfl) rfl
theorem ent43 : Go.Proofs.Enters Try.prog 43 := Go.Proofs.enters_of Try.func43 (by kernel_rfl) rfl
theorem ent42 : Go.Proofs.Enters Try.prog 42 := Go.Proofs.enters_of Try.func42 (by kernel_rfl) rfl
theorem ent15 : Go.Proofs.Enters Try.prog 15 := Go.Proofs.enters_of Try.func15 (by kernel_rfl) rfl
theorem ent17 : Go.Proofs.Enters Try.prog 17 := Go.Proofs.enters_of Try.func17 (by kernel_rfl) rfl

theorem ent22 : Go.Proofs.Enters Try.prog 22 := Go.Proofs.enters_of Try.func22 (by kernel_rfl) rfl
theorem ent19 : Go.Proofs.Enters Try.prog 19 := Go.Proofs.enters_of Try.func19 (by kernel_rfl) rfl
theorem ent25 : Go.Proofs.Enters Try.prog 25 := Go.Proofs.enters_of Try.func25 (by kernel_rfl) rfl
theorem ent48 : Go.Proofs.Enters Try.prog 48 := Go.Proofs.enters_of Try.func48 (by kernel_rfl) rfl
theorem ent23 : Go.Proofs.Enters Try.prog 23 := Go.Proofs.enters_of Try.func23 (by kernel_rfl) rfl
theorem ent47 : Go.Proofs.Enters Try.prog 47 := Go.Proofs.enters_of Try.func47 (by kernel_rfl) rfl
theorem ent16 : Go.Proofs.Enters Try.prog 16 := Go.Proofs.enters_of Try.func16 (by kernel_rfl) rfl
theorem ent18 : Go.Proofs.Enters Try.prog 18 := Go.Proofs.enters_of Try.func18 (by kernel_rfl) rfl
theorem ent26 : Go.Proofs.Enters Try.prog 26 := Go.Proofs.enters_of Try.func26 (by kernel_rfl) rfl
theorem ent24 : Go.Proofs.Enters Try.prog 24 := Go.Proofs.enters_of Try.func24 (by kernel_rfl) rfl
theorem ent20 : Go.Proofs.Enters Try.prog 20 := Go.Proofs.enters_of Try.func20 (by kernel_rfl) rfl
theorem ent21 : Go.Proofs.Enters Try.prog 21 := Go.Proofs.enters_of Try.func21 (by kernel_rfl) rfl
theorem ent14 : Go.Proofs.Enters Try.prog 14 := Go.Proofs.enters_of Try.func14 (by kernel_rfl) rfl
theorem ent44 : Go.Proofs.Enters Try.prog 44 := Go.Proofs.enters_of Try.func44 (by kernel_rfl) rfl
theorem ent55 : Go.Proofs.Enters Try.prog 55 := Go.Proofs.enters_of Try.func55 (by kernel_rfl) rfl
theorem ent45 : Go.Proofs.Enters Try.prog 45 := Go.Proofs.enters_of Try.func45 (by kernel_rfl) rfl
theorem ent46 : Go.Proofs.Enters Try.prog 46 := Go.Proofs.enters_of Try.func46 (by kernel_rfl) rfl
theorem ent56 : Go.Proofs.Enters Try.prog 56 := Go.Proofs.enters_of Try.func56 (by kernel_rfl) rfl
theorem ent60 : Go.Proofs.Enters Try.prog 60 := Go.Proofs.enters_of Try.func60 (by kernel_rfl) rfl
theorem ent61 : Go.Proofs.Enters Try.prog 61 := Go.Proofs.enters_of Try.func61 (by kernel_rfl) rfl
theorem ent63 : Go.Proofs.Enters Try.prog 63 := Go.Proofs.enters_of Try.func63 (by kernel_rfl) rfl
theorem ent64 : Go.Proofs.Enters Try.prog 64 := Go.Proofs.enters_of Try.func64 (by kernel_rfl) rfl
theorem ent13 : Go.Proofs.Enters Try.prog 13 := Go.Proofs.enters_of Try.func13 (by kernel_rfl) rfl
end Go.Proofs.Ytmilpjkjcanghaa

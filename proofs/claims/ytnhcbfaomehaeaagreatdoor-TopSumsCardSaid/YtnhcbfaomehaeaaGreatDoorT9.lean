/- The door's own heap, with the pinned table laid beside, meets the condition. -/
import Derived.Test.YtnhcbfaomehaeaaGreatDoorT8
namespace Go.Proofs.YtnhcbfaomehaeaaGreatDoor
open Go.ChangeShapes Go.WideShapes Go.ChangeAt Go.RowKit
set_option maxRecDepth 1000000

theorem ts_own : ownKnob Tryz.prog.godebug = none := by kernel_rfl
theorem ts_laidOut : laidOutB Tryz.prog = true := by kernel_rfl

noncomputable def firstCells : Array Value := match Go.Pinned.utf8First with
  | .agg ds => ⟨ds.map fun d => match d with
    | .lit (.int k n) => .int k n
    | _ => undef⟩
  | _ => #[]
noncomputable def gFirst : Nat := (Tryz.prog.globalNamed "unicode/utf8.first").getD 0
noncomputable def wit (os : Os) : World := { World.doorLaid Tryz.prog 110 os with heap := (World.doorLaid Tryz.prog 110 os).heap.setIfInBounds gFirst (.cells firstCells (((Tryz.prog.globals[gFirst]?).map (·.type)).getD 0) (0, 0)) }

theorem wit_os (os : Os) : (wit os).os = os := rfl
theorem wit_run (os : Os) (args : Array Value) : (DataW.laidRun Tryz.prog ((wit os).forCall (fun _ _ => 0) ⟨#[], args, []⟩).memory 8 ((lvs.filter fun x => x.2.handleName?.isNone).map (·.1))).map (·.1) = some (lvs.filter fun x => x.2.handleName?.isNone) := by kernel_rfl

theorem wit_rows (os : Os) (args : Array Value) : (DataW.laidRun Tryz.prog ((wit os).forCall (fun _ _ => 0) ⟨#[], args, []⟩).memory 8 ((lvs.filter fun x => x.2.handleName?.isNone).map (·.1))).map (fun x => decide x.2.Nodup && laidRowsB Tryz.prog ((wit os).forCall (fun _ _ => 0) ⟨#[], args, []⟩).memory x.2) = some true := by kernel_rfl
theorem door_met (os : Os) (args : Array Value) : laidMetH Tryz.prog lvs ((wit os).forCall (fun _ _ => 0) ⟨#[], args, []⟩).memory :=
  laidMetH_of_parts3 (fuel := 8) (laidMet_of_run' 8 (wit_run os args) (wit_rows os args)) (by kernel_rfl) (by kernel_rfl)

end Go.Proofs.YtnhcbfaomehaeaaGreatDoor

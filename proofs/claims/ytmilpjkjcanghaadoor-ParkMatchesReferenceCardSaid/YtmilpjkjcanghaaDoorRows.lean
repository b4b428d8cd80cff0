/-
  NARROWER THAN 'FOR EVERY INPUT', by the rows' own cells (each row's printed sentence says how): ParkWakes: laid · ParkKeeps: laid · ParkNames: laid · ParkCounts: laid · ParkMatchesReference: laid.
  DERIVED. THE GIVEN ROWS OF THIS SEAT. 5 by the template 'for every input the law returns true; each argument reads behind the call as it read before'; 0 by the template 'total and deterministic' (their statements: YtmilpjkjcanghaaDoorTotals.lean).
  GIVEN WITH THE SEED: the statements are not yours to turn. If you find one false, say at which input.
  Laid BY PROGRAM, IN A SANDBOX (cutbox-rows.mjs): the forced cells as the released guide's own fill.sh prints them over the translation bf55c4a4fab10f13… (all of the seat's roots in one cut). By AI agents, Wed Nov 11 2026. No macro, syntax, notation, axiom, sorry.
-/
import Derived.Test.YtmilpjkjcanghaaDoorChecked
import GoSem.Claim
import GoSem.ClaimJoined
import GoSem.ClaimMapViews
import Derived.JoinedTies
import Derived.KernelRfl
namespace Go.Proofs.YtmilpjkjcanghaaDoor
/- THE CELL 'sum', in the pinned program and in every row, IS THE sha256 OF THE DUMP (.gsa) THAT YtmilpjkjcanghaaDoorProg.lean LOADS. Nothing in Lean hashes anything: it is a label: what it is worth is what the hold of that sum in a sandbox is worth. -/
noncomputable def Tryd.pinned : Pinned := { name := "ytmilpjkjcanghaadoor", sum := "bf55c4a4fab10f13cf0ca5cb902f66ad7c6621cbc319cfb0cf7150ffaf6e2073", checked := Tryd.checked }
namespace Rows
def none {H : Type} : Left H := { results := [], args := [] }

/- WHAT THE LISTED PACKAGE-LEVEL VARIABLES READ AS WHEN THE CALL BEGINS. Each datum BY PROGRAM (the guide's laid-datum.mjs) off the statement by which the dump's own 'gosem.cut.vars' lays the variable. In a bare row this is a premise. The card (YtmilpjkjcanghaaDoorCards.lean) ties it to the program's text. -/
def laid_hammock_park_names {H : Type} : DataW H := .agg [.lit (.string []), .lit (.string [110, 111, 32, 110, 111, 100, 101]), .lit (.string [110, 101, 118, 101, 114]), .lit (.string [99, 108, 97, 105, 109, 101, 100]), .lit (.string [119, 97, 105, 116, 105, 110, 103])]

/-- 'hammocklaw08.ParkWakes': WHATEVER THE INPUT: true; the input reads as it did. -/
def parkWakesSpec : ChangeSpec := { name := "parkWakes", fn := fun _ => fun
  | [d1, d2] => { results := [.lit (.bool true)], args := [d1, d2] }
  | _ => none }
def parkWakesRow : OpenClaim := { program := "ytmilpjkjcanghaadoor", sum := "bf55c4a4fab10f13cf0ca5cb902f66ad7c6621cbc319cfb0cf7150ffaf6e2073", func := "hammock/hammocklaw08.ParkWakes", spec := "parkWakes", unfollowed := true, recurses := true, named := ["hammock/park.names"], apart := false, laid := [("hammock/park.names", laid_hammock_park_names)] }
def ParkWakesSaid : Prop := parkWakesRow.holds Tryd.pinned (OpenSpec.ofChange parkWakesSpec)

/-- ITS FALSE NEIGHBOUR: 'it returns false'. Refute it at one input. -/
def parkWakesWrong : ChangeSpec := { name := "parkWakes", fn := fun _ => fun
  | [d1, d2] => { results := [.lit (.bool false)], args := [d1, d2] }
  | _ => none }
def ParkWakesWrongFalsely : Prop := parkWakesRow.holds Tryd.pinned (OpenSpec.ofChange parkWakesWrong)

/-- 'hammocklaw08.ParkKeeps': WHATEVER THE INPUT: true; the input reads as it did. -/
def parkKeepsSpec : ChangeSpec := { name := "parkKeeps", fn := fun _ => fun
  | [d] => { results := [.lit (.bool true)], args := [d] }
  | _ => none }
def parkKeepsRow : OpenClaim := { program := "ytmilpjkjcanghaadoor", sum := "bf55c4a4fab10f13cf0ca5cb902f66ad7c6621cbc319cfb0cf7150ffaf6e2073", func := "hammock/hammocklaw08.ParkKeeps", spec := "parkKeeps", unfollowed := true, recurses := true, named := ["hammock/park.names"], apart := false, laid := [("hammock/park.names", laid_hammock_park_names)] }
def ParkKeepsSaid : Prop := parkKeepsRow.holds Tryd.pinned (OpenSpec.ofChange parkKeepsSpec)

/-- ITS FALSE NEIGHBOUR: 'it returns false'. Refute it at one input. -/
def parkKeepsWrong : ChangeSpec := { name := "parkKeeps", fn := fun _ => fun
  | [d] => { results := [.lit (.bool false)], args := [d] }
  | _ => none }
def ParkKeepsWrongFalsely : Prop := parkKeepsRow.holds Tryd.pinned (OpenSpec.ofChange parkKeepsWrong)

/-- 'hammocklaw08.ParkNames': WHATEVER THE INPUT: true; the input reads as it did. -/
def parkNamesSpec : ChangeSpec := { name := "parkNames", fn := fun _ => fun
  | [d1, d2] => { results := [.lit (.bool true)], args := [d1, d2] }
  | _ => none }
def parkNamesRow : OpenClaim := { program := "ytmilpjkjcanghaadoor", sum := "bf55c4a4fab10f13cf0ca5cb902f66ad7c6621cbc319cfb0cf7150ffaf6e2073", func := "hammock/hammocklaw08.ParkNames", spec := "parkNames", unfollowed := true, recurses := true, named := ["hammock/park.names"], apart := false, laid := [("hammock/park.names", laid_hammock_park_names)] }
def ParkNamesSaid : Prop := parkNamesRow.holds Tryd.pinned (OpenSpec.ofChange parkNamesSpec)

/-- ITS FALSE NEIGHBOUR: 'it returns false'. Refute it at one input. -/
def parkNamesWrong : ChangeSpec := { name := "parkNames", fn := fun _ => fun
  | [d1, d2] => { results := [.lit (.bool false)], args := [d1, d2] }
  | _ => none }
def ParkNamesWrongFalsely : Prop := parkNamesRow.holds Tryd.pinned (OpenSpec.ofChange parkNamesWrong)

/-- 'hammocklaw08.ParkCounts': WHATEVER THE INPUT: true; the input reads as it did. -/
def parkCountsSpec : ChangeSpec := { name := "parkCounts", fn := fun _ => fun
  | [d1, d2] => { results := [.lit (.bool true)], args := [d1, d2] }
  | _ => none }
def parkCountsRow : OpenClaim := { program := "ytmilpjkjcanghaadoor", sum := "bf55c4a4fab10f13cf0ca5cb902f66ad7c6621cbc319cfb0cf7150ffaf6e2073", func := "hammock/hammocklaw08.ParkCounts", spec := "parkCounts", unfollowed := true, recurses := true, named := ["hammock/park.names"], apart := false, laid := [("hammock/park.names", laid_hammock_park_names)] }
def ParkCountsSaid : Prop := parkCountsRow.holds Tryd.pinned (OpenSpec.ofChange parkCountsSpec)

/-- ITS FALSE NEIGHBOUR: 'it returns false'. Refute it at one input. -/
def parkCountsWrong : ChangeSpec := { name := "parkCounts", fn := fun _ => fun
  | [d1, d2] => { results := [.lit (.bool false)], args := [d1, d2] }
  | _ => none }
def ParkCountsWrongFalsely : Prop := parkCountsRow.holds Tryd.pinned (OpenSpec.ofChange parkCountsWrong)

/-- 'hammocklaw08.ParkMatchesReference': WHATEVER THE INPUT: true; the input reads as it did. -/
def parkMatchesReferenceSpec : ChangeSpec := { name := "parkMatchesReference", fn := fun _ => fun
  | [d] => { results := [.lit (.bool true)], args := [d] }
  | _ => none }
def parkMatchesReferenceRow : OpenClaim := { program := "ytmilpjkjcanghaadoor", sum := "bf55c4a4fab10f13cf0ca5cb902f66ad7c6621cbc319cfb0cf7150ffaf6e2073", func := "hammock/hammocklaw08.ParkMatchesReference", spec := "parkMatchesReference", unfollowed := true, recurses := true, named := ["hammock/park.names"], apart := false, laid := [("hammock/park.names", laid_hammock_park_names)] }
def ParkMatchesReferenceSaid : Prop := parkMatchesReferenceRow.holds Tryd.pinned (OpenSpec.ofChange parkMatchesReferenceSpec)

/-- ITS FALSE NEIGHBOUR: 'it returns false'. Refute it at one input. -/
def parkMatchesReferenceWrong : ChangeSpec := { name := "parkMatchesReference", fn := fun _ => fun
  | [d] => { results := [.lit (.bool false)], args := [d] }
  | _ => none }
def ParkMatchesReferenceWrongFalsely : Prop := parkMatchesReferenceRow.holds Tryd.pinned (OpenSpec.ofChange parkMatchesReferenceWrong)

/- THE SECOND FORM. 'bulk': how many values and letters a reading holds, each counted each time it is reached (what is shared counts as often as it is met; a slice's spare places count too). A statement '..UptoSaid' is the law's where the arguments, and the package variables that the reading takes, are together of bulk at most 1048576: NARROWER than '..Said'. Prove '..Said' where nothing that the law and all that it calls make is longer than what came in: it says more and counts as full. Else prove '..UptoSaid'. A law counts once. -/
mutual
def uptoBulk {H : Type} : DataW H → Nat
  | .lit (.string bytes) => bytes.length + 1
  | .lit _ => 1
  | .nil => 1
  | .ptr d => uptoBulk d + 1
  | .slice elems spare => uptoBulkAll elems + uptoBulkAll spare + 1
  | .agg parts => uptoBulkAll parts + 1
  | .iface _ d => uptoBulk d + 1
  | .map entries => uptoBulkEntries entries + 1
  | .held _ => 1
def uptoBulkAll {H : Type} : List (DataW H) → Nat
  | [] => 0
  | d :: r => uptoBulk d + uptoBulkAll r
def uptoBulkEntries {H : Type} : List (Lit × DataW H) → Nat
  | [] => 0
  | x :: r => uptoBulkEntry x + uptoBulkEntries r
def uptoBulkEntry {H : Type} : Lit × DataW H → Nat
  | (.string bytes, d) => bytes.length + uptoBulk d + 1
  | (_, d) => uptoBulk d + 1
 end
def uptoSmall : (H : Type) → List (DataW H) → Bool := fun _ ds => decide (uptoBulkAll ds ≤ 1048576)
def OpenSpec.upto (s : _root_.Go.ChangeSpec) : _root_.Go.OpenSpec := { _root_.Go.OpenSpec.ofChange s with cond := some uptoSmall }

/-- 'hammocklaw08.ParkWakes', WHERE WHAT IT READS IS OF BULK AT MOST 1048576: true; the input reads as it did. -/
def parkWakesUptoRow : OpenClaim := { program := "ytmilpjkjcanghaadoor", sum := "bf55c4a4fab10f13cf0ca5cb902f66ad7c6621cbc319cfb0cf7150ffaf6e2073", func := "hammock/hammocklaw08.ParkWakes", spec := "parkWakes", unfollowed := true, recurses := true, named := ["hammock/park.names"], apart := false, laid := [("hammock/park.names", laid_hammock_park_names)], narrowed := true }
def ParkWakesUptoSaid : Prop := parkWakesUptoRow.holds Tryd.pinned (OpenSpec.upto parkWakesSpec)

/-- 'hammocklaw08.ParkKeeps', WHERE WHAT IT READS IS OF BULK AT MOST 1048576: true; the input reads as it did. -/
def parkKeepsUptoRow : OpenClaim := { program := "ytmilpjkjcanghaadoor", sum := "bf55c4a4fab10f13cf0ca5cb902f66ad7c6621cbc319cfb0cf7150ffaf6e2073", func := "hammock/hammocklaw08.ParkKeeps", spec := "parkKeeps", unfollowed := true, recurses := true, named := ["hammock/park.names"], apart := false, laid := [("hammock/park.names", laid_hammock_park_names)], narrowed := true }
def ParkKeepsUptoSaid : Prop := parkKeepsUptoRow.holds Tryd.pinned (OpenSpec.upto parkKeepsSpec)

/-- 'hammocklaw08.ParkNames', WHERE WHAT IT READS IS OF BULK AT MOST 1048576: true; the input reads as it did. -/
def parkNamesUptoRow : OpenClaim := { program := "ytmilpjkjcanghaadoor", sum := "bf55c4a4fab10f13cf0ca5cb902f66ad7c6621cbc319cfb0cf7150ffaf6e2073", func := "hammock/hammocklaw08.ParkNames", spec := "parkNames", unfollowed := true, recurses := true, named := ["hammock/park.names"], apart := false, laid := [("hammock/park.names", laid_hammock_park_names)], narrowed := true }
def ParkNamesUptoSaid : Prop := parkNamesUptoRow.holds Tryd.pinned (OpenSpec.upto parkNamesSpec)

/-- 'hammocklaw08.ParkCounts', WHERE WHAT IT READS IS OF BULK AT MOST 1048576: true; the input reads as it did. -/
def parkCountsUptoRow : OpenClaim := { program := "ytmilpjkjcanghaadoor", sum := "bf55c4a4fab10f13cf0ca5cb902f66ad7c6621cbc319cfb0cf7150ffaf6e2073", func := "hammock/hammocklaw08.ParkCounts", spec := "parkCounts", unfollowed := true, recurses := true, named := ["hammock/park.names"], apart := false, laid := [("hammock/park.names", laid_hammock_park_names)], narrowed := true }
def ParkCountsUptoSaid : Prop := parkCountsUptoRow.holds Tryd.pinned (OpenSpec.upto parkCountsSpec)

/-- 'hammocklaw08.ParkMatchesReference', WHERE WHAT IT READS IS OF BULK AT MOST 1048576: true; the input reads as it did. -/
def parkMatchesReferenceUptoRow : OpenClaim := { program := "ytmilpjkjcanghaadoor", sum := "bf55c4a4fab10f13cf0ca5cb902f66ad7c6621cbc319cfb0cf7150ffaf6e2073", func := "hammock/hammocklaw08.ParkMatchesReference", spec := "parkMatchesReference", unfollowed := true, recurses := true, named := ["hammock/park.names"], apart := false, laid := [("hammock/park.names", laid_hammock_park_names)], narrowed := true }
def ParkMatchesReferenceUptoSaid : Prop := parkMatchesReferenceUptoRow.holds Tryd.pinned (OpenSpec.upto parkMatchesReferenceSpec)

end Rows
end Go.Proofs.YtmilpjkjcanghaaDoor

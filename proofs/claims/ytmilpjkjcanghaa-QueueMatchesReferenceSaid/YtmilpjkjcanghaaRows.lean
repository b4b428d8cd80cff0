/-
  No cell of these rows narrows 'for every input' (looked for: loops, veiled, ifaces, maps, wideKeys, modest, calm, conditions, laid).
  DERIVED. THE GIVEN ROWS OF THIS SEAT. 10 by the template 'for every input the law returns true; each argument reads behind the call as it read before'; 0 by the template 'total and deterministic' (their statements: YtmilpjkjcanghaaTotals.lean).
  GIVEN WITH THE SEED: the statements are not yours to turn. If you find one false, say at which input.
  Laid BY PROGRAM, IN A SANDBOX (cutbox-rows.mjs): the forced cells as the released guide's own fill.sh prints them over the translation e3283e92cb6e7d3b… (all of the seat's roots in one cut). By AI agents, Wed Nov 11 2026. No macro, syntax, notation, axiom, sorry.
-/
import Derived.Test.YtmilpjkjcanghaaChecked
import GoSem.Claim
import GoSem.ClaimJoined
import GoSem.ClaimMapViews
import Derived.JoinedTies
import Derived.KernelRfl
namespace Go.Proofs.Ytmilpjkjcanghaa
/- THE CELL 'sum', in the pinned program and in every row, IS THE sha256 OF THE DUMP (.gsa) THAT YtmilpjkjcanghaaProg.lean LOADS. Nothing in Lean hashes anything: it is a label: what it is worth is what the hold of that sum in a sandbox is worth. -/
noncomputable def Try.pinned : Pinned := { name := "ytmilpjkjcanghaa", sum := "e3283e92cb6e7d3bc6442e51d07796f032b676234658e2af3cfb8cffb78f3c18", checked := Try.checked }
namespace Rows
def none {H : Type} : Left H := { results := [], args := [] }

/-- 'hammocklaw06.RankMatchesReference': WHATEVER THE INPUT: true; the input reads as it did. -/
def rankMatchesReferenceSpec : ChangeSpec := { name := "rankMatchesReference", fn := fun _ => fun
  | [d1, d2, d3] => { results := [.lit (.bool true)], args := [d1, d2, d3] }
  | _ => none }
def rankMatchesReferenceRow : OpenClaim := { program := "ytmilpjkjcanghaa", sum := "e3283e92cb6e7d3bc6442e51d07796f032b676234658e2af3cfb8cffb78f3c18", func := "hammock/hammocklaw06.RankMatchesReference", spec := "rankMatchesReference", unfollowed := true, recurses := true, apart := false }
def RankMatchesReferenceSaid : Prop := rankMatchesReferenceRow.holds Try.pinned (OpenSpec.ofChange rankMatchesReferenceSpec)

/-- ITS FALSE NEIGHBOUR: 'it returns false'. Refute it at one input. -/
def rankMatchesReferenceWrong : ChangeSpec := { name := "rankMatchesReference", fn := fun _ => fun
  | [d1, d2, d3] => { results := [.lit (.bool false)], args := [d1, d2, d3] }
  | _ => none }
def RankMatchesReferenceWrongFalsely : Prop := rankMatchesReferenceRow.holds Try.pinned (OpenSpec.ofChange rankMatchesReferenceWrong)

/-- 'hammocklaw06.RankLower': WHATEVER THE INPUT: true; the input reads as it did. -/
def rankLowerSpec : ChangeSpec := { name := "rankLower", fn := fun _ => fun
  | [d1, d2] => { results := [.lit (.bool true)], args := [d1, d2] }
  | _ => none }
def rankLowerRow : OpenClaim := { program := "ytmilpjkjcanghaa", sum := "e3283e92cb6e7d3bc6442e51d07796f032b676234658e2af3cfb8cffb78f3c18", func := "hammock/hammocklaw06.RankLower", spec := "rankLower", unfollowed := true, recurses := true, apart := false }
def RankLowerSaid : Prop := rankLowerRow.holds Try.pinned (OpenSpec.ofChange rankLowerSpec)

/-- ITS FALSE NEIGHBOUR: 'it returns false'. Refute it at one input. -/
def rankLowerWrong : ChangeSpec := { name := "rankLower", fn := fun _ => fun
  | [d1, d2] => { results := [.lit (.bool false)], args := [d1, d2] }
  | _ => none }
def RankLowerWrongFalsely : Prop := rankLowerRow.holds Try.pinned (OpenSpec.ofChange rankLowerWrong)

/-- 'hammocklaw06.RankTotal': WHATEVER THE INPUT: true; the input reads as it did. -/
def rankTotalSpec : ChangeSpec := { name := "rankTotal", fn := fun _ => fun
  | [d1, d2, d3] => { results := [.lit (.bool true)], args := [d1, d2, d3] }
  | _ => none }
def rankTotalRow : OpenClaim := { program := "ytmilpjkjcanghaa", sum := "e3283e92cb6e7d3bc6442e51d07796f032b676234658e2af3cfb8cffb78f3c18", func := "hammock/hammocklaw06.RankTotal", spec := "rankTotal", unfollowed := true, recurses := true, apart := false }
def RankTotalSaid : Prop := rankTotalRow.holds Try.pinned (OpenSpec.ofChange rankTotalSpec)

/-- ITS FALSE NEIGHBOUR: 'it returns false'. Refute it at one input. -/
def rankTotalWrong : ChangeSpec := { name := "rankTotal", fn := fun _ => fun
  | [d1, d2, d3] => { results := [.lit (.bool false)], args := [d1, d2, d3] }
  | _ => none }
def RankTotalWrongFalsely : Prop := rankTotalRow.holds Try.pinned (OpenSpec.ofChange rankTotalWrong)

/-- 'hammocklaw06.RankKeeps': WHATEVER THE INPUT: true; the input reads as it did. -/
def rankKeepsSpec : ChangeSpec := { name := "rankKeeps", fn := fun _ => fun
  | [d] => { results := [.lit (.bool true)], args := [d] }
  | _ => none }
def rankKeepsRow : OpenClaim := { program := "ytmilpjkjcanghaa", sum := "e3283e92cb6e7d3bc6442e51d07796f032b676234658e2af3cfb8cffb78f3c18", func := "hammock/hammocklaw06.RankKeeps", spec := "rankKeeps", unfollowed := true, recurses := true, apart := false }
def RankKeepsSaid : Prop := rankKeepsRow.holds Try.pinned (OpenSpec.ofChange rankKeepsSpec)

/-- ITS FALSE NEIGHBOUR: 'it returns false'. Refute it at one input. -/
def rankKeepsWrong : ChangeSpec := { name := "rankKeeps", fn := fun _ => fun
  | [d] => { results := [.lit (.bool false)], args := [d] }
  | _ => none }
def RankKeepsWrongFalsely : Prop := rankKeepsRow.holds Try.pinned (OpenSpec.ofChange rankKeepsWrong)

/-- 'hammocklaw06.RankAdds': WHATEVER THE INPUT: true; the input reads as it did. -/
def rankAddsSpec : ChangeSpec := { name := "rankAdds", fn := fun _ => fun
  | [d1, d2] => { results := [.lit (.bool true)], args := [d1, d2] }
  | _ => none }
def rankAddsRow : OpenClaim := { program := "ytmilpjkjcanghaa", sum := "e3283e92cb6e7d3bc6442e51d07796f032b676234658e2af3cfb8cffb78f3c18", func := "hammock/hammocklaw06.RankAdds", spec := "rankAdds", unfollowed := true, recurses := true, apart := false }
def RankAddsSaid : Prop := rankAddsRow.holds Try.pinned (OpenSpec.ofChange rankAddsSpec)

/-- ITS FALSE NEIGHBOUR: 'it returns false'. Refute it at one input. -/
def rankAddsWrong : ChangeSpec := { name := "rankAdds", fn := fun _ => fun
  | [d1, d2] => { results := [.lit (.bool false)], args := [d1, d2] }
  | _ => none }
def RankAddsWrongFalsely : Prop := rankAddsRow.holds Try.pinned (OpenSpec.ofChange rankAddsWrong)

/-- 'hammocklaw07.QueueSorts': WHATEVER THE INPUT: true; the input reads as it did. -/
def queueSortsSpec : ChangeSpec := { name := "queueSorts", fn := fun _ => fun
  | [d] => { results := [.lit (.bool true)], args := [d] }
  | _ => none }
def queueSortsRow : OpenClaim := { program := "ytmilpjkjcanghaa", sum := "e3283e92cb6e7d3bc6442e51d07796f032b676234658e2af3cfb8cffb78f3c18", func := "hammock/hammocklaw07.QueueSorts", spec := "queueSorts", unfollowed := true, recurses := true, apart := false }
def QueueSortsSaid : Prop := queueSortsRow.holds Try.pinned (OpenSpec.ofChange queueSortsSpec)

/-- ITS FALSE NEIGHBOUR: 'it returns false'. Refute it at one input. -/
def queueSortsWrong : ChangeSpec := { name := "queueSorts", fn := fun _ => fun
  | [d] => { results := [.lit (.bool false)], args := [d] }
  | _ => none }
def QueueSortsWrongFalsely : Prop := queueSortsRow.holds Try.pinned (OpenSpec.ofChange queueSortsWrong)

/-- 'hammocklaw07.QueueKeeps': WHATEVER THE INPUT: true; the input reads as it did. -/
def queueKeepsSpec : ChangeSpec := { name := "queueKeeps", fn := fun _ => fun
  | [d] => { results := [.lit (.bool true)], args := [d] }
  | _ => none }
def queueKeepsRow : OpenClaim := { program := "ytmilpjkjcanghaa", sum := "e3283e92cb6e7d3bc6442e51d07796f032b676234658e2af3cfb8cffb78f3c18", func := "hammock/hammocklaw07.QueueKeeps", spec := "queueKeeps", unfollowed := true, recurses := true, apart := false }
def QueueKeepsSaid : Prop := queueKeepsRow.holds Try.pinned (OpenSpec.ofChange queueKeepsSpec)

/-- ITS FALSE NEIGHBOUR: 'it returns false'. Refute it at one input. -/
def queueKeepsWrong : ChangeSpec := { name := "queueKeeps", fn := fun _ => fun
  | [d] => { results := [.lit (.bool false)], args := [d] }
  | _ => none }
def QueueKeepsWrongFalsely : Prop := queueKeepsRow.holds Try.pinned (OpenSpec.ofChange queueKeepsWrong)

/-- 'hammocklaw07.QueueMatchesReference': WHATEVER THE INPUT: true; the input reads as it did. -/
def queueMatchesReferenceSpec : ChangeSpec := { name := "queueMatchesReference", fn := fun _ => fun
  | [d] => { results := [.lit (.bool true)], args := [d] }
  | _ => none }
def queueMatchesReferenceRow : OpenClaim := { program := "ytmilpjkjcanghaa", sum := "e3283e92cb6e7d3bc6442e51d07796f032b676234658e2af3cfb8cffb78f3c18", func := "hammock/hammocklaw07.QueueMatchesReference", spec := "queueMatchesReference", unfollowed := true, recurses := true, apart := false }
def QueueMatchesReferenceSaid : Prop := queueMatchesReferenceRow.holds Try.pinned (OpenSpec.ofChange queueMatchesReferenceSpec)

/-- ITS FALSE NEIGHBOUR: 'it returns false'. Refute it at one input. -/
def queueMatchesReferenceWrong : ChangeSpec := { name := "queueMatchesReference", fn := fun _ => fun
  | [d] => { results := [.lit (.bool false)], args := [d] }
  | _ => none }
def QueueMatchesReferenceWrongFalsely : Prop := queueMatchesReferenceRow.holds Try.pinned (OpenSpec.ofChange queueMatchesReferenceWrong)

/-- 'hammocklaw07.QueueAgain': WHATEVER THE INPUT: true; the input reads as it did. -/
def queueAgainSpec : ChangeSpec := { name := "queueAgain", fn := fun _ => fun
  | [d1, d2] => { results := [.lit (.bool true)], args := [d1, d2] }
  | _ => none }
def queueAgainRow : OpenClaim := { program := "ytmilpjkjcanghaa", sum := "e3283e92cb6e7d3bc6442e51d07796f032b676234658e2af3cfb8cffb78f3c18", func := "hammock/hammocklaw07.QueueAgain", spec := "queueAgain", unfollowed := true, recurses := true, apart := false }
def QueueAgainSaid : Prop := queueAgainRow.holds Try.pinned (OpenSpec.ofChange queueAgainSpec)

/-- ITS FALSE NEIGHBOUR: 'it returns false'. Refute it at one input. -/
def queueAgainWrong : ChangeSpec := { name := "queueAgain", fn := fun _ => fun
  | [d1, d2] => { results := [.lit (.bool false)], args := [d1, d2] }
  | _ => none }
def QueueAgainWrongFalsely : Prop := queueAgainRow.holds Try.pinned (OpenSpec.ofChange queueAgainWrong)

/-- 'hammocklaw07.QueueDrops': WHATEVER THE INPUT: true; the input reads as it did. -/
def queueDropsSpec : ChangeSpec := { name := "queueDrops", fn := fun _ => fun
  | [d1, d2] => { results := [.lit (.bool true)], args := [d1, d2] }
  | _ => none }
def queueDropsRow : OpenClaim := { program := "ytmilpjkjcanghaa", sum := "e3283e92cb6e7d3bc6442e51d07796f032b676234658e2af3cfb8cffb78f3c18", func := "hammock/hammocklaw07.QueueDrops", spec := "queueDrops", unfollowed := true, recurses := true, apart := false }
def QueueDropsSaid : Prop := queueDropsRow.holds Try.pinned (OpenSpec.ofChange queueDropsSpec)

/-- ITS FALSE NEIGHBOUR: 'it returns false'. Refute it at one input. -/
def queueDropsWrong : ChangeSpec := { name := "queueDrops", fn := fun _ => fun
  | [d1, d2] => { results := [.lit (.bool false)], args := [d1, d2] }
  | _ => none }
def QueueDropsWrongFalsely : Prop := queueDropsRow.holds Try.pinned (OpenSpec.ofChange queueDropsWrong)

/- THE SECOND FORM. 'bulk': how many values and letters a reading holds, each counted each time it is reached (what is shared counts as often as it is met; a slice's spare places count too). A statement '..UptoSaid' is the law's where the arguments, and the package variables that the reading takes, are together of bulk at most 1048576: NARROWER than '..Said'. Prove '..Said' where nothing that the law and all that it calls make is longer than what came in: it says more and counts as full. Else prove '..UptoSaid'. A law counts once. -/
mutual
def uptoBulk {H : Type} : DataW H → Nat
  | .lit (.string bytes) => bytes.length + 1
  | .lit _ => 1
  | .nil => 1
  | .ptr d => uptoBulk d + 1
  | .slice elems spare => uptoBulkAll elems + uptoBulkAll spare + 1
  | .agg parts => uptoBulkAll parts + 1
  | .iface _ d => uptoBulk d + 1
  | .map entries => uptoBulkEntries entries + 1
  | .held _ => 1
def uptoBulkAll {H : Type} : List (DataW H) → Nat
  | [] => 0
  | d :: r => uptoBulk d + uptoBulkAll r
def uptoBulkEntries {H : Type} : List (Lit × DataW H) → Nat
  | [] => 0
  | x :: r => uptoBulkEntry x + uptoBulkEntries r
def uptoBulkEntry {H : Type} : Lit × DataW H → Nat
  | (.string bytes, d) => bytes.length + uptoBulk d + 1
  | (_, d) => uptoBulk d + 1
 end
def uptoSmall : (H : Type) → List (DataW H) → Bool := fun _ ds => decide (uptoBulkAll ds ≤ 1048576)
def OpenSpec.upto (s : _root_.Go.ChangeSpec) : _root_.Go.OpenSpec := { _root_.Go.OpenSpec.ofChange s with cond := some uptoSmall }

/-- 'hammocklaw06.RankMatchesReference', WHERE WHAT IT READS IS OF BULK AT MOST 1048576: true; the input reads as it did. -/
def rankMatchesReferenceUptoRow : OpenClaim := { program := "ytmilpjkjcanghaa", sum := "e3283e92cb6e7d3bc6442e51d07796f032b676234658e2af3cfb8cffb78f3c18", func := "hammock/hammocklaw06.RankMatchesReference", spec := "rankMatchesReference", unfollowed := true, recurses := true, apart := false, narrowed := true }
def RankMatchesReferenceUptoSaid : Prop := rankMatchesReferenceUptoRow.holds Try.pinned (OpenSpec.upto rankMatchesReferenceSpec)

/-- 'hammocklaw06.RankLower', WHERE WHAT IT READS IS OF BULK AT MOST 1048576: true; the input reads as it did. -/
def rankLowerUptoRow : OpenClaim := { program := "ytmilpjkjcanghaa", sum := "e3283e92cb6e7d3bc6442e51d07796f032b676234658e2af3cfb8cffb78f3c18", func := "hammock/hammocklaw06.RankLower", spec := "rankLower", unfollowed := true, recurses := true, apart := false, narrowed := true }
def RankLowerUptoSaid : Prop := rankLowerUptoRow.holds Try.pinned (OpenSpec.upto rankLowerSpec)

/-- 'hammocklaw06.RankTotal', WHERE WHAT IT READS IS OF BULK AT MOST 1048576: true; the input reads as it did. -/
def rankTotalUptoRow : OpenClaim := { program := "ytmilpjkjcanghaa", sum := "e3283e92cb6e7d3bc6442e51d07796f032b676234658e2af3cfb8cffb78f3c18", func := "hammock/hammocklaw06.RankTotal", spec := "rankTotal", unfollowed := true, recurses := true, apart := false, narrowed := true }
def RankTotalUptoSaid : Prop := rankTotalUptoRow.holds Try.pinned (OpenSpec.upto rankTotalSpec)

/-- 'hammocklaw06.RankKeeps', WHERE WHAT IT READS IS OF BULK AT MOST 1048576: true; the input reads as it did. -/
def rankKeepsUptoRow : OpenClaim := { program := "ytmilpjkjcanghaa", sum := "e3283e92cb6e7d3bc6442e51d07796f032b676234658e2af3cfb8cffb78f3c18", func := "hammock/hammocklaw06.RankKeeps", spec := "rankKeeps", unfollowed := true, recurses := true, apart := false, narrowed := true }
def RankKeepsUptoSaid : Prop := rankKeepsUptoRow.holds Try.pinned (OpenSpec.upto rankKeepsSpec)

/-- 'hammocklaw06.RankAdds', WHERE WHAT IT READS IS OF BULK AT MOST 1048576: true; the input reads as it did. -/
def rankAddsUptoRow : OpenClaim := { program := "ytmilpjkjcanghaa", sum := "e3283e92cb6e7d3bc6442e51d07796f032b676234658e2af3cfb8cffb78f3c18", func := "hammock/hammocklaw06.RankAdds", spec := "rankAdds", unfollowed := true, recurses := true, apart := false, narrowed := true }
def RankAddsUptoSaid : Prop := rankAddsUptoRow.holds Try.pinned (OpenSpec.upto rankAddsSpec)

/-- 'hammocklaw07.QueueSorts', WHERE WHAT IT READS IS OF BULK AT MOST 1048576: true; the input reads as it did. -/
def queueSortsUptoRow : OpenClaim := { program := "ytmilpjkjcanghaa", sum := "e3283e92cb6e7d3bc6442e51d07796f032b676234658e2af3cfb8cffb78f3c18", func := "hammock/hammocklaw07.QueueSorts", spec := "queueSorts", unfollowed := true, recurses := true, apart := false, narrowed := true }
def QueueSortsUptoSaid : Prop := queueSortsUptoRow.holds Try.pinned (OpenSpec.upto queueSortsSpec)

/-- 'hammocklaw07.QueueKeeps', WHERE WHAT IT READS IS OF BULK AT MOST 1048576: true; the input reads as it did. -/
def queueKeepsUptoRow : OpenClaim := { program := "ytmilpjkjcanghaa", sum := "e3283e92cb6e7d3bc6442e51d07796f032b676234658e2af3cfb8cffb78f3c18", func := "hammock/hammocklaw07.QueueKeeps", spec := "queueKeeps", unfollowed := true, recurses := true, apart := false, narrowed := true }
def QueueKeepsUptoSaid : Prop := queueKeepsUptoRow.holds Try.pinned (OpenSpec.upto queueKeepsSpec)

/-- 'hammocklaw07.QueueMatchesReference', WHERE WHAT IT READS IS OF BULK AT MOST 1048576: true; the input reads as it did. -/
def queueMatchesReferenceUptoRow : OpenClaim := { program := "ytmilpjkjcanghaa", sum := "e3283e92cb6e7d3bc6442e51d07796f032b676234658e2af3cfb8cffb78f3c18", func := "hammock/hammocklaw07.QueueMatchesReference", spec := "queueMatchesReference", unfollowed := true, recurses := true, apart := false, narrowed := true }
def QueueMatchesReferenceUptoSaid : Prop := queueMatchesReferenceUptoRow.holds Try.pinned (OpenSpec.upto queueMatchesReferenceSpec)

/-- 'hammocklaw07.QueueAgain', WHERE WHAT IT READS IS OF BULK AT MOST 1048576: true; the input reads as it did. -/
def queueAgainUptoRow : OpenClaim := { program := "ytmilpjkjcanghaa", sum := "e3283e92cb6e7d3bc6442e51d07796f032b676234658e2af3cfb8cffb78f3c18", func := "hammock/hammocklaw07.QueueAgain", spec := "queueAgain", unfollowed := true, recurses := true, apart := false, narrowed := true }
def QueueAgainUptoSaid : Prop := queueAgainUptoRow.holds Try.pinned (OpenSpec.upto queueAgainSpec)

/-- 'hammocklaw07.QueueDrops', WHERE WHAT IT READS IS OF BULK AT MOST 1048576: true; the input reads as it did. -/
def queueDropsUptoRow : OpenClaim := { program := "ytmilpjkjcanghaa", sum := "e3283e92cb6e7d3bc6442e51d07796f032b676234658e2af3cfb8cffb78f3c18", func := "hammock/hammocklaw07.QueueDrops", spec := "queueDrops", unfollowed := true, recurses := true, apart := false, narrowed := true }
def QueueDropsUptoSaid : Prop := queueDropsUptoRow.holds Try.pinned (OpenSpec.upto queueDropsSpec)

end Rows
end Go.Proofs.Ytmilpjkjcanghaa

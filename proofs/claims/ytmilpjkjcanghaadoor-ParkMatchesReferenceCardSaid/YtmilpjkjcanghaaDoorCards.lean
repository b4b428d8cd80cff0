/-
  DERIVED. GIVEN WITH THE SEED: THE CARDS: each row of YtmilpjkjcanghaaDoorRows.lean that lists a variable, with what it lists TIED to the program's text (the seventh form; the later family's looks); each row that meets fmt, with fmt's text TOLD by the authors' own Lean function (tested against real Go, not proved from fmt's source: count such statements apart). THE CARD IS WHAT COUNTS. Prove the row's statement (the work); the ties are given (YtmilpjkjcanghaaDoorTie.lean); close each card by the builder's one call (the guide's Derived/Test/ToyasCard.lean, 'card_holds'). Laid BY PROGRAM, IN A SANDBOX (cutbox-door.mjs). By AI agents, Wed Nov 11 2026. No macro, syntax, notation, axiom, sorry.
-/
import Derived.Test.YtmilpjkjcanghaaDoorRows
import GoSem.ClaimSeven
namespace Go.Proofs.YtmilpjkjcanghaaDoor
namespace Rows

/-- THE TIED CARD OF 'hammocklaw08.ParkWakes'. -/
def parkWakesCard : Claim7 := { stood := { row := parkWakesRow, standIns := [], harness := (true, "53c7908d652e15aa9856675547562f6a935524e9bada01b28cca0ddf7c2a6a68"), looks := false }, kinds := [], alts := [], laidByText := true, laidKinds := [.data], laidTests := true, laidLooks := .later }
def ParkWakesCardSaid : Prop := Claim7.holds Tryd.pinned (.plain (OpenSpec.ofChange parkWakesSpec)) parkWakesCard

/-- THE TIED CARD OF 'hammocklaw08.ParkKeeps'. -/
def parkKeepsCard : Claim7 := { stood := { row := parkKeepsRow, standIns := [], harness := (true, "53c7908d652e15aa9856675547562f6a935524e9bada01b28cca0ddf7c2a6a68"), looks := false }, kinds := [], alts := [], laidByText := true, laidKinds := [.data], laidTests := true, laidLooks := .later }
def ParkKeepsCardSaid : Prop := Claim7.holds Tryd.pinned (.plain (OpenSpec.ofChange parkKeepsSpec)) parkKeepsCard

/-- THE TIED CARD OF 'hammocklaw08.ParkNames'. -/
def parkNamesCard : Claim7 := { stood := { row := parkNamesRow, standIns := [], harness := (true, "53c7908d652e15aa9856675547562f6a935524e9bada01b28cca0ddf7c2a6a68"), looks := false }, kinds := [], alts := [], laidByText := true, laidKinds := [.data], laidTests := true, laidLooks := .later }
def ParkNamesCardSaid : Prop := Claim7.holds Tryd.pinned (.plain (OpenSpec.ofChange parkNamesSpec)) parkNamesCard

/-- THE TIED CARD OF 'hammocklaw08.ParkCounts'. -/
def parkCountsCard : Claim7 := { stood := { row := parkCountsRow, standIns := [], harness := (true, "53c7908d652e15aa9856675547562f6a935524e9bada01b28cca0ddf7c2a6a68"), looks := false }, kinds := [], alts := [], laidByText := true, laidKinds := [.data], laidTests := true, laidLooks := .later }
def ParkCountsCardSaid : Prop := Claim7.holds Tryd.pinned (.plain (OpenSpec.ofChange parkCountsSpec)) parkCountsCard

/-- THE TIED CARD OF 'hammocklaw08.ParkMatchesReference'. -/
def parkMatchesReferenceCard : Claim7 := { stood := { row := parkMatchesReferenceRow, standIns := [], harness := (true, "53c7908d652e15aa9856675547562f6a935524e9bada01b28cca0ddf7c2a6a68"), looks := false }, kinds := [], alts := [], laidByText := true, laidKinds := [.data], laidTests := true, laidLooks := .later }
def ParkMatchesReferenceCardSaid : Prop := Claim7.holds Tryd.pinned (.plain (OpenSpec.ofChange parkMatchesReferenceSpec)) parkMatchesReferenceCard

/-- THE SECOND FORM's CARD OF 'hammocklaw08.ParkWakes'. -/
def parkWakesUptoCard : Claim7 := { stood := { row := parkWakesUptoRow, standIns := [], harness := (true, "53c7908d652e15aa9856675547562f6a935524e9bada01b28cca0ddf7c2a6a68"), looks := false }, kinds := [], alts := [], laidByText := true, laidKinds := [.data], laidTests := true, laidLooks := .later }
def ParkWakesUptoCardSaid : Prop := Claim7.holds Tryd.pinned (.plain (OpenSpec.upto parkWakesSpec)) parkWakesUptoCard

/-- THE SECOND FORM's CARD OF 'hammocklaw08.ParkKeeps'. -/
def parkKeepsUptoCard : Claim7 := { stood := { row := parkKeepsUptoRow, standIns := [], harness := (true, "53c7908d652e15aa9856675547562f6a935524e9bada01b28cca0ddf7c2a6a68"), looks := false }, kinds := [], alts := [], laidByText := true, laidKinds := [.data], laidTests := true, laidLooks := .later }
def ParkKeepsUptoCardSaid : Prop := Claim7.holds Tryd.pinned (.plain (OpenSpec.upto parkKeepsSpec)) parkKeepsUptoCard

/-- THE SECOND FORM's CARD OF 'hammocklaw08.ParkNames'. -/
def parkNamesUptoCard : Claim7 := { stood := { row := parkNamesUptoRow, standIns := [], harness := (true, "53c7908d652e15aa9856675547562f6a935524e9bada01b28cca0ddf7c2a6a68"), looks := false }, kinds := [], alts := [], laidByText := true, laidKinds := [.data], laidTests := true, laidLooks := .later }
def ParkNamesUptoCardSaid : Prop := Claim7.holds Tryd.pinned (.plain (OpenSpec.upto parkNamesSpec)) parkNamesUptoCard

/-- THE SECOND FORM's CARD OF 'hammocklaw08.ParkCounts'. -/
def parkCountsUptoCard : Claim7 := { stood := { row := parkCountsUptoRow, standIns := [], harness := (true, "53c7908d652e15aa9856675547562f6a935524e9bada01b28cca0ddf7c2a6a68"), looks := false }, kinds := [], alts := [], laidByText := true, laidKinds := [.data], laidTests := true, laidLooks := .later }
def ParkCountsUptoCardSaid : Prop := Claim7.holds Tryd.pinned (.plain (OpenSpec.upto parkCountsSpec)) parkCountsUptoCard

/-- THE SECOND FORM's CARD OF 'hammocklaw08.ParkMatchesReference'. -/
def parkMatchesReferenceUptoCard : Claim7 := { stood := { row := parkMatchesReferenceUptoRow, standIns := [], harness := (true, "53c7908d652e15aa9856675547562f6a935524e9bada01b28cca0ddf7c2a6a68"), looks := false }, kinds := [], alts := [], laidByText := true, laidKinds := [.data], laidTests := true, laidLooks := .later }
def ParkMatchesReferenceUptoCardSaid : Prop := Claim7.holds Tryd.pinned (.plain (OpenSpec.upto parkMatchesReferenceSpec)) parkMatchesReferenceUptoCard
end Rows
end Go.Proofs.YtmilpjkjcanghaaDoor

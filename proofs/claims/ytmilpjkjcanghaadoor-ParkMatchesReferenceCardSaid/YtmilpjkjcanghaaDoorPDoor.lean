/- What the listed variable reads as: the names' table as the walks want it; the door's own heap meets the condition. -/
import Derived.Test.YtmilpjkjcanghaaDoorP4
import Derived.Test.YtmilpjkjcanghaaDoorOpen
import Derived.Test.YtmilpjkjcanghaaDoorTie
import Derived.Test.YtmilpjkjcanghaaDoorCards
import Derived.SevenTiedAt
import Derived.LaidMore
import Derived.ProofKit
import Derived.OpenShut
import Derived.Stop.Joined
namespace Go.Proofs.YtmilpjkjcanghaaDoor
open Go.ChangeShapes Go.WideShapes Go.ChangeAt Go.WideMaps Go.WideElems Go.RowKit
set_option linter.unusedVariables false
set_option linter.unusedSimpArgs false

def lvs : List (String × DataW Unit) := [("hammock/park.names", Rows.laid_hammock_park_names)]
theorem gNames : Tryd.prog.globalNamed "hammock/park.names" = some 0 := by kernel_rfl
theorem tNames : (Tryd.prog.globals[0]?).map (·.type) = some 62 := by kernel_rfl

theorem door_met (os : Os) (args : Array Value) : laidMetH Tryd.prog lvs ((World.doorLaid Tryd.prog 400 os).forCall (fun _ _ => 0) ⟨#[], args, []⟩).memory :=
  laidMetH_of_parts3 (fuel := 8) (laidMet_of_run' 8 (by kernel_rfl) (by kernel_rfl)) (by kernel_rfl) (by kernel_rfl)

theorem nm_all : (nmL.map fun s : ByteArray => (DataW.lit (.string s.data.toList) : DataW Unit)) = [.lit (.string []), .lit (.string [110, 111, 32, 110, 111, 100, 101]), .lit (.string [110, 101, 118, 101, 114]), .lit (.string [99, 108, 97, 105, 109, 101, 100]), .lit (.string [119, 97, 105, 116, 105, 110, 103])] := rfl

theorem nm_of_laid {W : World} (h : laidMetH Tryd.prog lvs W) : NmAt W := by
  rw [MakeChecks.laidMetH_plain _ _ _ (by kernel_rfl)] at h
  obtain ⟨ps, ⟨g0, t0, cs0, f0, p0, q0, hg0, ht0, hv0, hd0, _, _⟩, _, _⟩ := h
  obtain rfl := Option.some.inj (gNames.symm.trans hg0)
  obtain rfl := Option.some.inj (tNames.symm.trans ht0)
  obtain ⟨xs, m1, rfl, hx1, hlen, hn3, hel⟩ := DataW.trod_array Tryd.underlying62 hd0
  have cS : Tryd.prog.cellsOf 9 = 1 := by kernel_rfl
  simp only [Prod.mk.injEq] at hx1
  have hm : xs.map (·.1) = nmL.map fun s : ByteArray => (DataW.lit (.string s.data.toList) : DataW Unit) := by
    have h1 := hx1.1
    unfold Rows.laid_hammock_park_names at h1
    rw [nm_all]
    injection h1 with h1
    exact h1.symm
  intro i s hs
  have hi : i < 5 := by
    obtain ⟨h, _⟩ := List.getElem?_eq_some_iff.1 hs
    exact h
  have h0 := hel i hi
  have hxi : xs[i]? = some xs[i] := List.getElem?_eq_getElem (by omega)
  rw [hxi] at h0
  obtain ⟨s', e1, e2, _⟩ := DataW.trod_string Tryd.underlying9 h0
  have h2 : (xs.map (·.1))[i]? = some (xs[i]).1 := by rw [List.getElem?_map, hxi]; rfl
  rw [hm, List.getElem?_map, hs, e2] at h2
  simp only [Option.map_some, Option.some.injEq, DataW.lit.injEq, Lit.string.injEq] at h2
  have hss : s' = s := by
    cases s with | mk d => cases s' with | mk d' => simp only [ByteArray.mk.injEq]; exact (Array.toList_inj.1 h2).symm
  subst hss
  have h3 := World.var?_cell hg0 hv0 i
  rw [cS, Nat.mul_one] at e1
  have h4 : cs0.toList[i]? = some (.string s') := by
    have h5 : (cs0.toList.drop i)[0]? = some (.string s') := by
      have h6 : ((cs0.toList.drop i).take 1)[0]? = some (.string s') := by rw [e1]; rfl
      rw [List.getElem?_take] at h6
      simpa using h6
    simpa using h5
  have h7 : cs0[i]? = some (.string s') := by simpa using h4
  rw [show 0 + i * 1 = i from by omega]
  exact h3.trans h7

end Go.Proofs.YtmilpjkjcanghaaDoor

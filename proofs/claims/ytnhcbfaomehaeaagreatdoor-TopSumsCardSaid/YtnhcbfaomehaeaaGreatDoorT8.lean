/- What the listed variables read as: the four rows as the walk wants them; the door's own heap meets the condition. -/
import Derived.Test.YtnhcbfaomehaeaaGreatDoorT7
import Derived.Test.YtnhcbfaomehaeaaGreatDoorTie
import Derived.Test.YtnhcbfaomehaeaaGreatDoorCards
import Derived.SevenTiedAt
import Derived.LaidMore
import Derived.LaidSub
import Derived.ProofKit
import Derived.OpenShut
import Derived.Stop.Joined
namespace Go.Proofs.YtnhcbfaomehaeaaGreatDoor
open Go.ChangeShapes Go.WideShapes Go.ChangeAt Go.WideMaps Go.WideElems Go.RowKit
set_option linter.unusedVariables false
set_option linter.unusedSimpArgs false
set_option maxRecDepth 100000

def lvs : List (String × DataW Unit) := Rows.topSumsRow.laid

def str0 : List ByteArray := [⟨⟨[]⟩⟩, ⟨⟨[105, 110, 102]⟩⟩, ⟨⟨[105, 97]⟩⟩, ⟨⟨[105]⟩⟩, ⟨⟨[105, 99, 110, 97]⟩⟩, ⟨⟨[105]⟩⟩, ⟨⟨[110]⟩⟩, ⟨⟨[]⟩⟩]
def str1 : List ByteArray := [⟨⟨[110, 111]⟩⟩, ⟨⟨[121, 101, 115]⟩⟩]
def str4 : List ByteArray := [⟨⟨[]⟩⟩, ⟨⟨[99, 108, 97, 115, 115]⟩⟩, ⟨⟨[110, 111, 100, 101]⟩⟩, ⟨⟨[100, 114, 111, 112]⟩⟩, ⟨⟨[112, 111, 100]⟩⟩, ⟨⟨[100, 101, 108, 101, 116, 101]⟩⟩, ⟨⟨[116, 105, 99, 107]⟩⟩, ⟨⟨[99, 121, 99, 108, 101]⟩⟩]
def str5 : List ByteArray := [⟨⟨[]⟩⟩, ⟨⟨[97, 100, 100, 101, 100]⟩⟩, ⟨⟨[102, 114, 101, 101, 100]⟩⟩, ⟨⟨[119, 111, 107, 101, 110]⟩⟩, ⟨⟨[105, 100, 108, 101]⟩⟩, ⟨⟨[98, 105, 110, 100, 115]⟩⟩, ⟨⟨[101, 118, 105, 99, 116, 115]⟩⟩, ⟨⟨[99, 108, 97, 105, 109, 115]⟩⟩, ⟨⟨[99, 108, 101, 97, 114, 101, 100]⟩⟩, ⟨⟨[119, 97, 105, 116, 115]⟩⟩, ⟨⟨[112, 97, 114, 107, 115]⟩⟩, ⟨⟨[100, 114, 111, 112, 112, 101, 100]⟩⟩]

theorem row_of_laid {n : String} {g t len : Nat} {L : List ByteArray} {W : World} (h : laidMetH Tryz.prog lvs W) (hf : (lvs.filter fun x => x.1 == n) = [(n, .agg (L.map fun s => .lit (.string s.data.toList)))])
    (hg : Tryz.prog.globalNamed n = some g) (ht : (Tryz.prog.globals[g]?).map (·.type) = some t) (hu : Tryz.prog.underlying t = some (.array len 9)) (hL : L.length = len) : ∃ rest e f, W.heap[g]? = some (.cells ⟨L.map Value.string ++ rest⟩ e f) := by
  have h := laidMetH.filter (fun x => x.1 == n) h
  rw [hf, MakeChecks.laidMetH_plain _ _ _ rfl] at h
  obtain ⟨ps, ⟨g0, t0, cs0, f0, p0, q0, hg0, ht0, hv0, hd0, _, _⟩, _, _⟩ := h
  obtain rfl := Option.some.inj (hg.symm.trans hg0)
  obtain rfl := Option.some.inj (ht.symm.trans ht0)
  obtain ⟨xs, m1, rfl, hx1, hlen, hn3, hel⟩ := DataW.trod_array hu hd0
  have cS : Tryz.prog.cellsOf 9 = 1 := by kernel_rfl
  simp only [Prod.mk.injEq] at hx1
  have hm : xs.map (·.1) = L.map fun s : ByteArray => (DataW.lit (.string s.data.toList) : DataW Unit) := by
    have h1 := hx1.1
    injection h1 with h1
    exact h1.symm
  have hcell : ∀ (i : Nat) (s : ByteArray), L[i]? = some s → cs0.toList[i]? = some (Value.string s) := by
    intro i s hs
    have hi : i < len := by
      obtain ⟨h, _⟩ := List.getElem?_eq_some_iff.1 hs
      omega
    have h0 := hel i hi
    have hxi : xs[i]? = some xs[i] := List.getElem?_eq_getElem (by omega)
    rw [hxi] at h0
    obtain ⟨s', e1, e2, _⟩ := DataW.trod_string Tryz.underlying9 h0
    have h2 : (xs.map (·.1))[i]? = some (xs[i]).1 := by rw [List.getElem?_map, hxi]; rfl
    rw [hm, List.getElem?_map, hs, e2] at h2
    simp only [Option.map_some, Option.some.injEq, DataW.lit.injEq, Lit.string.injEq] at h2
    have hss : s' = s := by
      cases s with | mk d => cases s' with | mk d' => simp only [ByteArray.mk.injEq]; exact (Array.toList_inj.1 h2).symm
    subst hss
    rw [cS, Nat.mul_one] at e1
    have h5 : (cs0.toList.drop i)[0]? = some (.string s') := by
      have h6 : ((cs0.toList.drop i).take 1)[0]? = some (.string s') := by rw [e1]; rfl
      rw [List.getElem?_take] at h6
      simpa using h6
    simpa using h5
  have hcs : cs0.toList = L.map Value.string ++ cs0.toList.drop len := by
    have h1 : cs0.toList.take len = L.map Value.string := by
      apply List.ext_getElem?
      intro i
      rw [List.getElem?_take, List.getElem?_map]
      by_cases hi : i < len
      · rw [if_pos hi, List.getElem?_eq_getElem (show i < L.length by omega)]
        exact hcell i _ (List.getElem?_eq_getElem (show i < L.length by omega))
      · rw [if_neg hi, List.getElem?_eq_none (by omega)]; rfl
    rw [← h1, List.take_append_drop]
  unfold World.var? at hv0
  rw [hg] at hv0
  simp only [Option.bind_some] at hv0
  split at hv0
  · rename_i cs e f hh
    cases hv0
    refine ⟨cs0.toList.drop len, e, f, ?_⟩
    rw [← hcs]
    exact hh
  · cases hv0

theorem gat_of_laid {W : World} (h : laidMetH Tryz.prog lvs W) : R1.GAt W := by
  obtain ⟨r0, e0, f0, h0⟩ := row_of_laid (n := "hammock/script.fields") (g := 0) (t := 107) (len := 8) (L := str0) h (by kernel_rfl) (by kernel_rfl) (by kernel_rfl) Tryz.underlying107 rfl
  obtain ⟨r1, e1, f1, h1⟩ := row_of_laid (n := "hammock/script.flags") (g := 1) (t := 109) (len := 2) (L := str1) h (by kernel_rfl) (by kernel_rfl) (by kernel_rfl) Tryz.underlying109 rfl
  obtain ⟨r4, e4, f4, h4⟩ := row_of_laid (n := "hammock/fault.kinds") (g := 4) (t := 107) (len := 8) (L := str4) h (by kernel_rfl) (by kernel_rfl) (by kernel_rfl) Tryz.underlying107 rfl
  obtain ⟨r5, e5, f5, h5⟩ := row_of_laid (n := "hammock/log.names") (g := 5) (t := 221) (len := 12) (L := str5) h (by kernel_rfl) (by kernel_rfl) (by kernel_rfl) Tryz.underlying221 rfl
  exact ⟨⟨_, r0, _, e0, f0, rfl, h0⟩, ⟨_, r1, _, e1, f1, rfl, h1⟩, ⟨_, r4, _, e4, f4, rfl, h4⟩, ⟨_, r5, _, e5, f5, rfl, h5⟩⟩

end Go.Proofs.YtnhcbfaomehaeaaGreatDoor

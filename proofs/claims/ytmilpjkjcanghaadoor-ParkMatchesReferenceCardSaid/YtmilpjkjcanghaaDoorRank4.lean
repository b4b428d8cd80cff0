/- Least; vectors and pods compared. -/
import Derived.Test.YtmilpjkjcanghaaDoorRank3
namespace Go.Proofs.YtmilpjkjcanghaaDoor
open Go.RowKit
set_option linter.unusedVariables false
set_option linter.unusedSimpArgs false

def leastTo (L : List PV) : Nat → Nat
  | 0 => 0
  | k + 1 => if cmpP (L.getD k PV.zero) (L.getD (leastTo L k) PV.zero) < 0 then k else leastTo L k

theorem leastTo_lt {L : List PV} (h : L ≠ []) : ∀ k, k ≤ L.length → leastTo L k < L.length
  | 0, _ => by cases L with
    | nil => exact absurd rfl h
    | cons p r => simp [leastTo]
  | k + 1, hk => by
    have := leastTo_lt h k (by omega)
    unfold leastTo
    split <;> omega

theorem getD_at {L : List PV} {k : Nat} (h : k < L.length) : L.getD k PV.zero = L[k] := by simp [List.getD, h]

end Go.Proofs.YtmilpjkjcanghaaDoor

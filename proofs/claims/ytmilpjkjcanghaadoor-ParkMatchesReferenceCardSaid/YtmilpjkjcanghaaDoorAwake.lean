/- awake of law 06. -/
import Derived.Test.YtmilpjkjcanghaaDoorSort7
import Derived.Laws.Tables
namespace Go.Proofs.YtmilpjkjcanghaaDoor
open Go.RowKit
set_option linter.unusedVariables false
set_option linter.unusedSimpArgs false

def evB (L : Operand → Option Value) : List (Nat × Operand) → Option (List (Nat × Value))
  | [] => some []
  | (i, x) :: r => match L x, evB L r with
    | some v, some vs => some ((i, v) :: vs)
    | _, _ => none
theorem evB_map {L : Operand → Option Value} {ev : Operand → Value} (he : EvOk L ev) : ∀ {ps : List (Nat × Operand)} {vs : List (Nat × Value)}, evB L ps = some vs → ps.map (fun p => (p.1, ev p.2)) = vs
  | [], vs, h => by simp [evB] at h; simp [h]
  | (i, x) :: r, vs, h => by
    simp only [evB] at h
    split at h
    · rename_i v vs' hx hr
      cases h
      simp [he x v hx, evB_map he hr]
    · cases h
/-- A struct of parts. -/
theorem op_build {P : Program} {ty : TypeId} {L : Operand → Option Value} {t : TypeId} {parts : Array (Nat × Operand)} {ps : List (Nat × Value)} {cs : Array Value} (hp : evB L parts.toList = some ps) (h : P.built t ps = some cs) : Pure P (.build t parts) ty L (.agg cs) := fun ev he w d pos aft g => by
  have h1 : (parts.map fun x => (x.1, ev x.2)).toList = ps := by
    rw [Array.toList_map]
    exact evB_map he hp
  have h2 := run_build (P := P) w t (parts.map fun x => (x.1, ev x.2)) cs (by rw [h1]; exact h)
  simp only [execOp, Sem.run_bind, h2, Result.andThen_ok]
  simp

end Go.Proofs.YtmilpjkjcanghaaDoor

/- What the queue's laws share. -/
import Derived.Test.YtmilpjkjcanghaaQ13
namespace Go.Proofs.Ytmilpjkjcanghaa
open Go.RowKit
set_option linter.unusedVariables false
set_option linter.unusedSimpArgs false

theorem RQ.rk {w : World} {B : Nat} {f : PV → List Int} {L : List PV} (h : RQ w B f L) {p : PV} (hp : p ∈ L) : RK w (· < B) p := ⟨f p, (h p hp).2, (h p hp).1⟩
theorem sort_mem {L : List PV} : ∀ p ∈ sortR (addAll [] L), p ∈ L := fun p hp => by
  have := ((sortR_srt _).2.mem p).2 hp
  rcases addAll_mem L [] p this with h | h
  · cases h
  · exact h
theorem sort_abs (w : World) (L : List PV) : (sortR (addAll [] L)).map (ab w) = pushAll [] (L.map (ab w)) := pushAll_map w L []

theorem hasA_drop (A : List AP) (id : Int) : hasA (dropA A id) id = false := by
  unfold hasA dropA
  rw [List.any_eq_false]
  intro a ha
  have := (List.mem_filter.1 ha).2
  simpa using this
theorem dropA_drop (A : List AP) (id : Int) : dropA (dropA A id) id = dropA A id := by
  unfold dropA
  rw [List.filter_filter]
  simp
theorem hasA_map (w : World) (L : List PV) (id : Int) : hasA (L.map (ab w)) id = hasR L id := by
  unfold hasA hasR
  rw [List.any_map]
  rfl
theorem dropA_none {A : List AP} {id : Int} (h : hasA A id = false) : dropA A id = A := by
  unfold dropA
  refine List.filter_eq_self.2 fun a ha => ?_
  unfold hasA at h
  rw [List.any_eq_false] at h
  have := h a ha
  simpa using this

end Go.Proofs.Ytmilpjkjcanghaa

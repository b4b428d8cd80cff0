/- RankMatchesReference: the statement. -/
import Derived.Test.YtmilpjkjcanghaaOpen
import Derived.Test.YtmilpjkjcanghaaLaw5
namespace Go.Proofs.Ytmilpjkjcanghaa
open Go.ChangeShapes Go.WideShapes Go.ChangeAt Go.RowKit
set_option linter.unusedVariables false
set_option linter.unusedSimpArgs false

set_option maxRecDepth 100000 in
theorem rankMatchesReference_lifted (os : Os) (started : os.Started) (H : Type) (enc : TypeId × Value → H) :
    ReturnsInHanded {} Try.checked os 3 .any (Rows.rankMatchesReferenceSpec.pre6 enc Try.prog Try.f3 Rows.rankMatchesReferenceRow.domain false) (Rows.rankMatchesReferenceSpec.post enc Try.prog Try.f3 false true false false) := by
  refine returnsInHanded_of_change (C := Try.checked) pods_own started (by kernel_rfl) Try.func3
    (ChangeSpec.witness6 (enc := enc) (C := Try.checked) false ⟨#[], #[.slice none 0 0, PV.zero.v, PV.zero.v], []⟩ 8 (by kernel_rfl) (by kernel_rfl) (by kernel_rfl) (by kernel_rfl)) ?_
  intro W base args ds gs before hval0 hW hcnd _
  have hval : ∀ (j : Nat) t v, Try.f3.params[j]? = some t → args[j]? = some v → Value.okWide Try.prog W .any base t v := hval0
  have hW' := hW
  obtain ⟨p, q, hA0, hV, rfl, hfz, hnd⟩ := hW
  have hA : DataW.TrodAll enc Try.prog W 0 (fun _ => true) true Try.f3.params.toList args.toList ds p := hA0
  rw [Try.params3] at hA hval
  obtain ⟨v0, v1, v2, d0, d1, d2, p0, p1, p2, rfl, rfl, rfl, h0, h1, h2⟩ := trodAll_three hA
  obtain ⟨rfl, rfl⟩ := trodVars_none hV
  simp only [List.append_nil] at hW'
  have hlt : ∀ x ∈ p0 ++ p1 ++ p2, x.block < W.heap.size := fun x hx => hW'.lt x hx
  have hargs : ∀ (W' : World), Below W.heap.size W W' → DataW.TrodAll enc Try.prog W' 0 (fun b => decide (b < W.heap.size)) true [22, 25, 25] [v0, v1, v2] [d0, d1, d2] (p0 ++ (p1 ++ p2)) := fun W' hn =>
    trodAll_mk3 (Below.trod pods_laidOut (by kernel_rfl) (of_decide_eq_true (by kernel_rfl)) h0 hn fun x hx => hlt x (by simp [hx])) (Below.trod pods_laidOut (by kernel_rfl) (of_decide_eq_true (by kernel_rfl)) h1 hn fun x hx => hlt x (by simp [hx])) (Below.trod pods_laidOut (by kernel_rfl) (of_decide_eq_true (by kernel_rfl)) h2 hn fun x hx => hlt x (by simp [hx]))
  obtain ⟨L0, hP0, hn0, hq0⟩ := open_pods (hval 0 22 v0 rfl rfl) h0
  obtain ⟨x1, rfl, _⟩ := open_pod (hval 1 25 v1 rfl rfl) h1
  obtain ⟨x2, rfl, _⟩ := open_pod (hval 2 25 v2 rfl rfl) h2
  clear hA0 hval0
  refine Calls.mono (RankMatches_calls v0 L0 x1 x2 (rqf W) W hP0 hn0 fun hf => hq0.rq hf) fun e W' he => ?_
  cases e with
  | returned v =>
    obtain ⟨rfl, hx⟩ := he
    exact ⟨_, rfl, ⟨_, _, _, [], _, [], hW', trodAll_mk1 (shut_bool Try.underlying4 true), hargs _ hx, rfl, Below.frame hx _, fun h => by cases h⟩⟩
  | panicked c => exact he.elim
  | outgrown => exact he.elim

theorem rankMatchesReference_holds : Rows.RankMatchesReferenceSaid :=
  OpenClaim.holds_of_wide 3 Try.f3 rfl rfl rfl rfl rfl rfl rfl ⟨rfl, rfl, rfl, rfl, rfl⟩ rfl rfl rfl rfl rfl (by kernel_rfl) Try.func3 (by kernel_rfl)
    (of_decide_eq_true (by kernel_rfl)) (by unfold Func.isWrapper; rw [if_neg (by decide +kernel)]; exact ⟨rfl, rfl⟩)
    (fun os started H enc _ => rankMatchesReference_lifted os started H enc)

end Go.Proofs.Ytmilpjkjcanghaa

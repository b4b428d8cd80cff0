/- ParkMatchesReference: the statement and its card. -/
import Derived.Test.YtmilpjkjcanghaaDoorPDoor
import Derived.Test.YtmilpjkjcanghaaDoorP15
namespace Go.Proofs.YtmilpjkjcanghaaDoor
open Go.ChangeShapes Go.WideShapes Go.ChangeAt Go.WideMaps Go.WideElems Go.RowKit
set_option linter.unusedVariables false
set_option linter.unusedSimpArgs false

set_option maxRecDepth 100000 in
theorem parkMatchesReference_lifted (os : Os) (started : os.Started) (H : Type) (enc : TypeId × Value → H) :
    ReturnsInHanded {} Tryd.checked os 7 .any (fun w args => (Rows.parkMatchesReferenceSpec.pre enc Tryd.prog Tryd.f7 [] false w args ∧ laidMetH Tryd.prog lvs w) ∧ sizedMet enc Tryd.prog Tryd.f7 (OpenSpec.ofChange Rows.parkMatchesReferenceSpec) false w args)
      (Rows.parkMatchesReferenceSpec.post enc Tryd.prog Tryd.f7 false true false false) := by
  refine returnsInHanded_of_change_and (C := Tryd.checked) (X := fun w _ => laidMetH Tryd.prog lvs w) (fun _ _ _ hh h => h.of_heap hh) pods_own started (by kernel_rfl) Tryd.func7
    (ChangeSpec.witness_shaped (enc := enc) (C := Tryd.checked) (os := os) (X := fun w _ => laidMetH Tryd.prog lvs w) false (World.doorLaid Tryd.prog 400 os) #[.slice none 0 0] 8 rfl (World.shaped_of_RefB (by kernel_rfl) (by kernel_rfl)) (by kernel_rfl) (by kernel_rfl) (by kernel_rfl) (door_met os _)) ?_
  intro W base args ds gs before hval0 hW _ _ hL _
  have hval : ∀ (j : Nat) t v, Tryd.f7.params[j]? = some t → args[j]? = some v → Value.okWide Tryd.prog W .any base t v := hval0
  have hW' := hW
  obtain ⟨p, q, hA0, hV, rfl, hfz, hnd⟩ := hW
  have hA : DataW.TrodAll enc Tryd.prog W 0 (fun _ => true) true Tryd.f7.params.toList args.toList ds p := hA0
  rw [Tryd.params7] at hA hval
  obtain ⟨v0, d0, rfl, rfl, h0⟩ := trodAll_one hA
  obtain ⟨rfl, rfl⟩ := trodVars_none hV
  simp only [List.append_nil] at hW'
  have hN := nm_of_laid hL
  have hlt : ∀ x ∈ p, x.block < W.heap.size := fun x hx => hW'.lt x (by simpa using hx)
  have hargs : ∀ (W' : World), Below W.heap.size W W' → DataW.TrodAll enc Tryd.prog W' 0 (fun b => decide (b < W.heap.size)) true [40] [v0] [d0] p := fun W' hn =>
    trodAll_mk1 (Below.trod pods_laidOut (by kernel_rfl) (of_decide_eq_true (by kernel_rfl)) h0 hn fun x hx => hlt x (by simp [hx]))
  obtain ⟨L0, hP0, hn0, hq0⟩ := open_ops8 (hval 0 40 v0 rfl rfl) h0
  clear hA0 hval0
  refine Calls.mono (ParkMatches_calls v0 L0 W hP0 hn0 hq0 hN) fun e W' he => ?_
  cases e with
  | returned v =>
    obtain ⟨rfl, hx⟩ := he
    exact ⟨_, rfl, ⟨_, _, _, [], _, [], hW', trodAll_mk1 (shut_bool Tryd.underlying4 true), hargs _ hx, rfl, Below.frame hx _, fun h => by cases h⟩⟩
  | panicked c => exact he.elim
  | outgrown => exact he.elim

theorem parkMatchesReference_holds : Rows.ParkMatchesReferenceSaid :=
  OpenClaim.holds_of_wide 7 Tryd.f7 rfl rfl rfl rfl rfl rfl rfl ⟨rfl, rfl, rfl, rfl, rfl⟩ rfl rfl rfl rfl rfl (by kernel_rfl) Tryd.func7 (by kernel_rfl)
    (of_decide_eq_true (by kernel_rfl)) (by unfold Func.isWrapper; rw [if_neg (by decide +kernel)]; exact ⟨rfl, rfl⟩)
    (fun os started H enc _ => parkMatchesReference_lifted os started H enc)

theorem parkMatchesReferenceCard_holds : Rows.ParkMatchesReferenceCardSaid :=
  Claim7.holds_tied_plain_at .later [] [.data] true (true, "53c7908d652e15aa9856675547562f6a935524e9bada01b28cca0ddf7c2a6a68") false
    parkMatchesReference_holds (fun _ h => by cases h) (by kernel_rfl) (fun _ h => by cases h) parkMatchesReference_row_tie rfl ⟨rfl, rfl⟩ (by kernel_rfl) rfl
    (fun f fn hf hfn => by
      obtain rfl : f = 7 := Option.some.inj ((show Tryd.prog.funcNamed "hammock/hammocklaw08.ParkMatchesReference" = some 7 by kernel_rfl).symm.trans hf) |>.symm
      obtain rfl : fn = Tryd.f7 := (Option.some.inj (Tryd.func7.symm.trans hfn)).symm
      exact ⟨by kernel_rfl, fun j t ht => by
        rw [Tryd.params7] at ht
        have hm : t ∈ [40] := by simpa using Array.mem_of_getElem? ht
        have hall : ([40].all fun u => !Tryd.prog.wantsStandIn u) = true := by kernel_rfl
        exact (show Tryd.prog.wantsStandIn t = false by simpa using List.all_eq_true.1 hall t hm)⟩)
    (by kernel_rfl)

end Go.Proofs.YtmilpjkjcanghaaDoor

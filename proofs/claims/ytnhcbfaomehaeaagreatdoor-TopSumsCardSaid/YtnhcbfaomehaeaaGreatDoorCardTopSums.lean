/- TopSums: the statement and its card. -/
import Derived.Test.YtnhcbfaomehaeaaGreatDoorT9
import Derived.Carry
import Derived.Below
import Derived.ChangeSame
namespace Go.Proofs.YtnhcbfaomehaeaaGreatDoor
open Go.ChangeShapes Go.WideShapes Go.ChangeAt Go.WideMaps Go.WideElems Go.RowKit
set_option linter.unusedVariables false
set_option linter.unusedSimpArgs false
set_option maxRecDepth 100000

theorem wfB {k : IntKind} {x : Int} (h : (Lit.int k x).wf = true) : k.min ≤ x ∧ x ≤ k.max := by
  rw [show (Lit.int k x).wf = (decide (k.min ≤ x) && decide (x ≤ k.max)) from rfl, Bool.and_eq_true, decide_eq_true_eq, decide_eq_true_eq] at h
  exact h

theorem topSums_lifted (os : Os) (started : os.Started) (H : Type) (enc : TypeId × Value → H) :
    ReturnsInHanded {} Tryz.checked os 3 .any (fun w args => (Rows.topSumsSpec.pre enc Tryz.prog Tryz.f3 [] false w args ∧ laidMetH Tryz.prog lvs w) ∧ sizedMet enc Tryz.prog Tryz.f3 (OpenSpec.ofChange Rows.topSumsSpec) false w args)
      (Rows.topSumsSpec.post enc Tryz.prog Tryz.f3 false true false false) := by
  refine returnsInHanded_of_change_and (C := Tryz.checked) (X := fun w _ => laidMetH Tryz.prog lvs w) (fun _ _ _ hh h => h.of_heap hh) ts_own started (by kernel_rfl) Tryz.func3
    (ChangeSpec.witness_shaped (enc := enc) (C := Tryz.checked) (os := os) (X := fun w _ => laidMetH Tryz.prog lvs w) false (wit os) #[.int .u16 0, .int .u8 0, .int .i64 0] 8 rfl (World.shaped_of_RefB (by kernel_rfl) (by kernel_rfl)) (by kernel_rfl) (by kernel_rfl) (by kernel_rfl) (door_met os _)) ?_
  intro W base args ds gs before hval0 hW _ _ hL _
  have hval : ∀ (j : Nat) t v, Tryz.f3.params[j]? = some t → args[j]? = some v → Value.okWide Tryz.prog W .any base t v := hval0
  have hW' := hW
  obtain ⟨p, q, hA0, hV, rfl, hfz, hnd⟩ := hW
  have hA : DataW.TrodAll enc Tryz.prog W 0 (fun _ => true) true Tryz.f3.params.toList args.toList ds p := hA0
  rw [Tryz.params3] at hA hval
  obtain ⟨v0, v1, v2, d0, d1, d2, p0, p1, p2, rfl, rfl, rfl, h0, h1, h2⟩ := trodAll_three hA
  obtain ⟨rfl, rfl⟩ := trodVars_none hV
  simp only [List.append_nil] at hW'
  have hG := gat_of_laid hL
  have hlt : ∀ x ∈ p0 ++ p1 ++ p2, x.block < W.heap.size := fun x hx => hW'.lt x hx
  have hargs : ∀ (W' : World), Below W.heap.size W W' → DataW.TrodAll enc Tryz.prog W' 0 (fun b => decide (b < W.heap.size)) true [22, 5, 2] [v0, v1, v2] [d0, d1, d2] (p0 ++ p1 ++ p2) := fun W' hn =>
    List.append_assoc p0 p1 p2 ▸ trodAll_mk3 (Below.trod ts_laidOut (by kernel_rfl) (of_decide_eq_true (by kernel_rfl)) h0 hn fun x hx => hlt x (by simp [hx])) (Below.trod ts_laidOut (by kernel_rfl) (of_decide_eq_true (by kernel_rfl)) h1 hn fun x hx => hlt x (by simp [hx])) (Below.trod ts_laidOut (by kernel_rfl) (of_decide_eq_true (by kernel_rfl)) h2 hn fun x hx => hlt x (by simp [hx]))
  obtain ⟨x0, rfl, rfl, rfl, hx0⟩ := open_int Tryz.underlying22 (hval 0 22 v0 rfl rfl) h0
  obtain ⟨x1, rfl, rfl, rfl, hx1⟩ := open_int Tryz.underlying5 (hval 1 5 v1 rfl rfl) h1
  obtain ⟨x2, rfl, rfl, rfl, hx2⟩ := open_int Tryz.underlying2 (hval 2 2 v2 rfl rfl) h2
  clear hA0 hval0
  have b0 : 0 ≤ x0 ∧ x0 < 65536 := by
    have h := wfB hx0
    rw [show IntKind.u16.min = 0 by decide, show IntKind.u16.max = 65535 by decide] at h
    omega
  have b1 : 0 ≤ x1 ∧ x1 < 256 := by
    have h := wfB hx1
    rw [show IntKind.u8.min = 0 by decide, show IntKind.u8.max = 255 by decide] at h
    omega
  have b2 : -9223372036854775808 ≤ x2 ∧ x2 < 9223372036854775808 := by
    have h := wfB hx2
    rw [show IntKind.i64.min = -9223372036854775808 by decide, show IntKind.i64.max = 9223372036854775807 by decide] at h
    omega
  obtain ⟨n, rfl⟩ : ∃ n : Nat, x0 = (n : Int) := ⟨x0.toNat, by omega⟩
  obtain ⟨m, rfl⟩ : ∃ m : Nat, x1 = (m : Int) := ⟨x1.toNat, by omega⟩
  refine Calls.mono (TopSums_calls W n m x2 (by omega) (by omega) b2 hG) fun e W' he => ?_
  cases e with
  | returned v =>
    obtain ⟨rfl, hx⟩ := he
    exact ⟨_, rfl, ⟨_, _, _, [], _, [], hW', trodAll_mk1 (shut_bool Tryz.underlying4 true), hargs _ hx, rfl, Below.frame hx _, fun h => by cases h⟩⟩
  | panicked c => exact he.elim
  | outgrown => exact he.elim

/-! The closed facts, each by itself: together they are too great for the kernel. -/
theorem jf3 : (mapsRowed Tryz.prog) = true := by kernel_rfl
theorem jf10 : ((Rows.topSumsRow.inPlace == Tryz.prog.inPlace 3)) = true := by kernel_rfl
theorem jf11 : ((Rows.topSumsRow.unfollowed == Tryz.prog.unfollowed 3)) = true := by kernel_rfl
theorem jf12 : ((Rows.topSumsRow.recurses == Tryz.prog.recurses 3)) = true := by kernel_rfl
theorem jf13 : ((Rows.topSumsRow.named == Tryz.prog.varsNamed 3)) = true := by kernel_rfl
theorem aa {a b : Bool} (h : a = true) (k : b = true) : (a && b) = true := by rw [h, k]; rfl
theorem jl23 : (Rows.topSumsRow.plainKeys == Tryz.prog.plainKeys) = true := by kernel_rfl
theorem jl25 : Tryz.prog.stopsHeard = true := by kernel_rfl
theorem jl26 : Tryz.prog.mayEnter = true := by kernel_rfl
theorem jl27 : (Rows.topSumsRow.lifted == Tryz.prog.liftsFinal) = true := by kernel_rfl
theorem jl28 : (Tryz.prog.make == some Rows.topSumsRow.make) = true := by kernel_rfl
theorem ts_closed : joinedFacts Tryz.prog 3 Tryz.f3 Rows.topSumsSpec Rows.topSumsRow = true := by
  unfold joinedFacts
  exact (aa (aa (aa (aa (aa (aa (aa (aa (aa (aa (aa (aa (aa (aa (aa (aa (aa (aa (aa (aa (aa (aa (aa (aa (aa (aa (aa (aa (aa (aa (aa (by kernel_rfl) ts_laidOut) jf3) (by kernel_rfl)) (by kernel_rfl)) (by kernel_rfl)) (by kernel_rfl)) (by kernel_rfl)) (by kernel_rfl)) jf10) jf11) jf12) jf13) (by kernel_rfl)) (by kernel_rfl)) (by kernel_rfl)) (by kernel_rfl)) (by kernel_rfl)) (by kernel_rfl)) (by kernel_rfl)) (by kernel_rfl)) (by kernel_rfl)) jl23) (by kernel_rfl)) jl25) jl26) jl27) jl28) (by kernel_rfl)) (by kernel_rfl)) (by kernel_rfl)) (by kernel_rfl))

theorem ts_inst : Tryz.f3.isInstance Tryz.prog Rows.topSumsRow.origin Rows.topSumsRow.targs := of_decide_eq_true (by kernel_rfl)
theorem topSums_holds : Rows.TopSumsSaid :=
  OpenClaim.holds_of_wide 3 Tryz.f3 rfl rfl rfl rfl rfl rfl rfl ⟨rfl, rfl, rfl, rfl, rfl⟩ rfl rfl rfl rfl rfl (by kernel_rfl) Tryz.func3 ts_closed
    ts_inst (by unfold Func.isWrapper; rw [if_neg (by decide +kernel)]; exact ⟨rfl, rfl⟩)
    (fun os started H enc _ => topSums_lifted os started H enc)

theorem topSumsCard_holds : Rows.TopSumsCardSaid :=
  Claim7.holds_tied_plain_at .later [] [.data, .data, .data, .data, .handle, .sentinel, .sentinel, .data, .data, .data, .widerDeep, .widerDeep, .pinned] true (true, "397088ca37e44bbc808f605c53c0606d6777c18a190c0929fdea59dbbbe871f1") true
    topSums_holds (fun _ h => by cases h) (by kernel_rfl) (fun _ h => by cases h) topSums_row_tie rfl ⟨rfl, rfl⟩ (by kernel_rfl) rfl
    (fun f fn hf hfn => by
      obtain rfl : f = 3 := Option.some.inj ((show Tryz.prog.funcNamed "hammock/hammocktop.TopSums" = some 3 by kernel_rfl).symm.trans hf) |>.symm
      obtain rfl : fn = Tryz.f3 := (Option.some.inj (Tryz.func3.symm.trans hfn)).symm
      exact ⟨by kernel_rfl, fun j t ht => by
        rw [Tryz.params3] at ht
        have hm : t ∈ [22, 5, 2] := by simpa using Array.mem_of_getElem? ht
        have hall : ([22, 5, 2].all fun u => !Tryz.prog.wantsStandIn u) = true := by kernel_rfl
        exact (show Tryz.prog.wantsStandIn t = false by simpa using List.all_eq_true.1 hall t hm)⟩)
    (by kernel_rfl)

end Go.Proofs.YtnhcbfaomehaeaaGreatDoor

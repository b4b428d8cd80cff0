/- Awake: true, and the caller's heap stays. -/
import Derived.Test.YtnhcbfaomehaeaaGreatDoorC3
namespace Go.Proofs.YtnhcbfaomehaeaaGreatDoor.R1
open Go
set_option linter.unusedVariables false
set_option linter.unusedSimpArgs false
set_option maxRecDepth 100000

/-- A block holds a table's row. -/
noncomputable def RowAt (b : Nat) (o : AO) (w : World) : Prop := ∃ c rest e e' f, o = .ro c e ∧ w.heap[b]? = some (.cells ⟨c ++ rest⟩ e' f)

structure GAt (w : World) : Prop where
  r0 : RowAt 0 row0 w
  r1 : RowAt 1 row1 w
  r4 : RowAt 4 row4 w
  r5 : RowAt 5 row5 w

theorem h0_get {b : Nat} {o : AO} (h : h0.get b = some o) : (b = 0 ∧ o = row0) ∨ (b = 1 ∧ o = row1) ∨ (b = 4 ∧ o = row4) ∨ (b = 5 ∧ o = row5) := by
  unfold h0 at h
  rcases T.get_cases h with ⟨e1, h1⟩ | ⟨j, e1, h1⟩ | ⟨j, e1, h1⟩
  · cases h1; exact .inl ⟨e1, rfl⟩
  · rcases T.get_cases h1 with ⟨e2, h2⟩ | ⟨j2, e2, h2⟩ | ⟨j2, e2, h2⟩
    · cases h2; exact .inr (.inl ⟨by omega, rfl⟩)
    · cases h2
    · rcases T.get_cases h2 with ⟨e3, h3⟩ | ⟨j3, e3, h3⟩ | ⟨j3, e3, h3⟩
      · cases h3; exact .inr (.inr (.inr ⟨by omega, rfl⟩))
      · cases h3
      · cases h3
  · rcases T.get_cases h1 with ⟨e2, h2⟩ | ⟨j2, e2, h2⟩ | ⟨j2, e2, h2⟩
    · cases h2
    · rcases T.get_cases h2 with ⟨e3, h3⟩ | ⟨j3, e3, h3⟩ | ⟨j3, e3, h3⟩
      · cases h3; exact .inr (.inr (.inl ⟨by omega, rfl⟩))
      · cases h3
      · cases h3
    · cases h2

noncomputable def V4 : Nat → Bool := fun b => decide (b = 0) || (decide (b = 1) || (decide (b = 4) || decide (b = 5)))
noncomputable def ρ4 : Ren := fun b => if b < 14 then some b else none

theorem okRun_spec {r : Option (Value × St)} (h : okRun r = true) : ∃ s', r = some (.bool true, s') ∧ (∀ b, b < 21 → s'.wr.testBit b = false) ∧ ∀ b, b < 21 → s'.rd.testBit b = true → V4 b = true := by
  unfold okRun at h
  split at h
  · rename_i s'
    refine ⟨s', rfl, ?_⟩
    have h1 := Nat.eq_of_beq_eq_true h
    have bits : ∀ b, ((s'.rd.testBit b && (2097100 : Nat).testBit b || s'.wr.testBit b) && (2097151 : Nat).testBit b) = false := fun b => by
      have h2 : (Nat.land (Nat.lor (Nat.land s'.rd 2097100) s'.wr) 2097151).testBit b = ((s'.rd.testBit b && (2097100 : Nat).testBit b || s'.wr.testBit b) && (2097151 : Nat).testBit b) := by
        rw [show Nat.land (Nat.lor (Nat.land s'.rd 2097100) s'.wr) 2097151 = ((s'.rd &&& 2097100) ||| s'.wr) &&& 2097151 from rfl, Nat.testBit_and, Nat.testBit_or, Nat.testBit_and]
      rw [← h2, h1, Nat.zero_testBit]
    have all : ∀ b, b < 21 → (2097151 : Nat).testBit b = true := by decide
    have out : ∀ b, b < 21 → (2097100 : Nat).testBit b = false → V4 b = true := by decide
    refine ⟨fun b hb => ?_, fun b hb hr => out b hb ?_⟩
    · have := bits b
      rw [all b hb] at this
      cases hw : s'.wr.testBit b with
      | false => rfl
      | true => rw [hw] at this; simp at this
    · have := bits b
      rw [all b hb, hr] at this
      cases hm : (2097100 : Nat).testBit b with
      | false => rfl
      | true => rw [hm] at this; simp at this
  · cases h

theorem lr_refl {l : List Value} (h : allL Go.Proofs.YtnhcbfaomehaeaaGreatDoor.R1.ground l = true) {ρ : Ren} : LR ρ l l := LR.of_ground h

noncomputable def rowsG : Bool := [row0, row1, row4, row5].all fun o => match o with
  | .ro c _ => allL ground c
  | _ => false
theorem rowsG_ok : rowsG = true := by kernel_rfl

/-- Awake. -/
theorem awake_calls (hL : LemOk Tryz.prog tb) (w : World) (hG : GAt w) : Calls Tryz.prog 4 #[] w fun e w' => e = .returned (.bool true) ∧ w.heap.size ≤ w'.heap.size ∧ (∀ k, k < w.heap.size → w'.heap[k]? = w.heap[k]?) ∧ w'.tape = w.tape ∧ w'.os = w.os ∧ w'.output = w.output := by
  obtain ⟨s', hr, hw, hd⟩ := okRun_spec awake_run
  obtain ⟨tr, hrun⟩ := (hdX_ok tabOk hL 5000 40).1 _ _ _ _ _ hr
  have hgr : ∀ o, o = row0 ∨ o = row1 ∨ o = row4 ∨ o = row5 → ∀ c e, o = .ro c e → allL ground c = true := by
    intro o ho c e he
    have h := rowsG_ok
    unfold rowsG at h
    have hm : o ∈ [row0, row1, row4, row5] := by rcases ho with h | h | h | h <;> simp [h]
    have := List.all_eq_true.1 h o hm
    rw [he] at this
    exact this
  have hobj : ∀ b o, RowAt b o w → (o = row0 ∨ o = row1 ∨ o = row4 ∨ o = row5) → ∃ o', w.heap[b]? = some o' ∧ OR ρ4 b o o' := by
    rintro b o ⟨c, rest, e, e', f, rfl, h2⟩ ho
    exact ⟨_, h2, .ro (lr_refl (hgr _ ho c e rfl))⟩
  have hρ : ∀ b k, ρ4 b = some k → k = b ∧ b < 14 := by
    intro b k h
    unfold ρ4 at h
    split at h
    · cases h; exact ⟨rfl, by assumption⟩
    · cases h
  have hs0 : s0.h = h0 := rfl
  have hnx : s0.nx = 21 := rfl
  have hwf : Wf s0 := fun b hb => by
    cases hg : s0.h.get b with
    | none => rfl
    | some o =>
      rw [hs0] at hg
      rw [hnx] at hb
      rcases h0_get hg with ⟨h, _⟩ | ⟨h, _⟩ | ⟨h, _⟩ | ⟨h, _⟩ <;> omega
  have hrel : Rel tb.globals ρ4 (res V4 s0.h.get) w := by
    refine ⟨fun b o hb => ?_, fun b c k _ _ h1 h2 => by rw [← (hρ b k h1).1, ← (hρ c k h2).1], fun g hg => ?_⟩
    · obtain ⟨_, hb⟩ := res_some.1 hb
      rw [hs0] at hb
      rcases h0_get hb with ⟨rfl, rfl⟩ | ⟨rfl, rfl⟩ | ⟨rfl, rfl⟩ | ⟨rfl, rfl⟩
      · obtain ⟨o', h1, h2⟩ := hobj _ _ hG.r0 (.inl rfl)
        exact ⟨0, o', rfl, h1, h2⟩
      · obtain ⟨o', h1, h2⟩ := hobj _ _ hG.r1 (.inr (.inl rfl))
        exact ⟨1, o', rfl, h1, h2⟩
      · obtain ⟨o', h1, h2⟩ := hobj _ _ hG.r4 (.inr (.inr (.inl rfl)))
        exact ⟨4, o', rfl, h1, h2⟩
      · obtain ⟨o', h1, h2⟩ := hobj _ _ hG.r5 (.inr (.inr (.inr rfl)))
        exact ⟨5, o', rfl, h1, h2⟩
    · have hg : g < 14 := hg
      unfold ρ4
      rw [if_pos hg]
  have hfr : fresh ρ4 s0 s' := fun b h1 _ => by
    rw [hnx] at h1
    unfold ρ4
    rw [if_neg (by omega)]
  have hvis : vis V4 s0 s' := fun b hb ht => by
    rw [hnx] at hb
    rcases ht with h | h
    · exact hd b hb h
    · rw [hw b hb] at h; cases h
  refine Calls.mono (callsIn_wide.1 (hrun V4 ρ4 w [] hwf (by rw [hnx]; decide) hvis hfr hrel .nil)) fun e w' he => ?_
  cases e with
  | returned v =>
    obtain ⟨ρ', hv, hO⟩ := he
    refine ⟨by cases hv; rfl, hO.size, fun k hk => ?_, hO.same⟩
    by_cases hkb : ∃ b, V4 b = true ∧ (s0.h.get b).isSome = true ∧ ρ4 b = some k
    · obtain ⟨b, h1, h2, h3⟩ := hkb
      refine hO.keepw b k h1 h2 (hw b ?_) h3
      have := (hρ b k h3).2
      omega
    · exact hO.frame k hk fun b h1 h2 h3 => hkb ⟨b, h1, h2, h3⟩
  | panicked c => exact he.elim
  | outgrown => exact he.elim

end Go.Proofs.YtnhcbfaomehaeaaGreatDoor.R1

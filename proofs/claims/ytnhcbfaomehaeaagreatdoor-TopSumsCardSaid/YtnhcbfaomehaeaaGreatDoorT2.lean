/- Awake, with nothing left to lean on. -/
import Derived.Test.YtnhcbfaomehaeaaGreatDoorT1
namespace Go.Proofs.YtnhcbfaomehaeaaGreatDoor
open Go.RowKit
set_option linter.unusedVariables false
set_option linter.unusedSimpArgs false
set_option maxRecDepth 100000

theorem R1.Out.grow {G : Nat} {V : Nat → Bool} {ρ : R1.Ren} {s : R1.St} {w w' : World} (hr : R1.Rel G ρ (R1.res V s.h.get) w) (h : Still w w') : R1.Out G V ρ s w ρ s w' where
  ext := fun _ _ => rfl
  rel := by
    rw [R1.res_same (h := s.h.get) rfl (R1.Vn_same (V := V) rfl)]
    exact ⟨fun b o hb => by
      obtain ⟨k, o', h1, h2, h3⟩ := hr.obj b o hb
      exact ⟨k, o', h1, by rw [h.2.1 k (Array.getElem?_eq_some_iff.1 h2).1]; exact h2, h3⟩, hr.inj, hr.glb⟩
  frame := fun k hk _ => h.2.1 k hk
  img := fun b k h1 h2 => by omega
  size := h.1
  same := h.2.2
  keepw := fun b k hV hs _ he => h.2.1 k (hr.lt hV hs he)

noncomputable def lemOnly (k : Nat) (fi : R1.FI) : Bool := match fi with
  | .lem _ => Nat.beq k 223
  | _ => true
theorem lem223 : R1.allT lemOnly R1.fnT 0 1 = true := by kernel_rfl

theorem lemOk : R1.LemOk Tryz.prog R1.tb := by
  intro f x hf args s v s' h
  have h1 := R1.allT_get lem223 hf
  rw [Nat.zero_add, Nat.one_mul] at h1
  have h1 : f = 223 := Nat.eq_of_beq_eq_true h1
  subst h1
  unfold R1.lemX at h
  split at h
  · rename_i p e
    have key : s' = s ∧ v = (match R1.phaseX p e with | some q => .tuple #[.int .i64 q, .bool true] | none => .tuple #[.int .i64 0, .bool false]) := by
      split at h
      · rename_i q hq
        cases h
        rw [hq]
        exact ⟨rfl, rfl⟩
      · rename_i hq
        cases h
        rw [hq]
        exact ⟨rfl, rfl⟩
    obtain ⟨rfl, hv⟩ := key
    refine ⟨R1.Tr.refl _, fun V ρ w args' hw hG hvis hf' hr hl => ?_⟩
    have ha : args' = [.int .i64 p, .int .i64 e] := R1.LR.ground hl rfl
    subst ha
    refine callsIn_wide.2 (Calls.mono (Next_calls p e w) fun en w' he => ?_)
    cases en with
    | returned u =>
      obtain ⟨hu, hS⟩ := he
      refine ⟨ρ, ?_, R1.Out.grow hr hS⟩
      rw [hu, hv]
      cases R1.phaseX p e with
      | none => exact .tuple (R1.LR.of_ground rfl)
      | some q => exact .tuple (R1.LR.of_ground rfl)
    | panicked c => exact he.elim
    | outgrown => exact he.elim
  · cases h

theorem awake_calls (w : World) (hG : R1.GAt w) : CallsR Tryz.prog 4 [] w fun v w' => v = .bool true ∧ Still w w' :=
  Calls.mono (R1.awake_calls lemOk w hG) fun e w' he => by
    obtain ⟨rfl, h⟩ := he
    exact ⟨rfl, h⟩

end Go.Proofs.YtnhcbfaomehaeaaGreatDoor

/- Slices of what there is; memory: made, read, written. -/
import Derived.Test.YtnhcbfaomehaeaaGreatDoorA6
namespace Go.Proofs.YtnhcbfaomehaeaaGreatDoor.R1
open Go
set_option linter.unusedVariables false
set_option linter.unusedSimpArgs false

section
variable {P : Program} {tb : Tab} {G : Nat} {ev : Ev} {s s' : St} {r : R} {d : Option Nat} {ty : TypeId} {pos : String} {aft : Array Edge} {g : Option (Nat × Bool)}

theorem VR.slice_inv {ρ : Ren} {a : Addr} {n c : Nat} {v : Value} (h : VR ρ (.slice (some a) n c) v) :
    (∃ b' c', ρ a.block = some b' ∧ a = ⟨a.block, a.off, none⟩ ∧ CapR ρ a.block n c c' ∧ v = .slice (some ⟨b', a.off, none⟩) n c') ∨ (a = ⟨NOB, 0, none⟩ ∧ n = 0 ∧ c = UNK ∧ ∃ a' c', v = .slice (some a') 0 c') := by
  cases h with
  | slice e c => exact .inl ⟨_, _, e, rfl, c, rfl⟩
  | dead => exact .inr ⟨rfl, rfl, rfl, _, _, rfl⟩
theorem CapR.known {ρ : Ren} {b n c c' : Nat} (h : CapR ρ b n c c') (hc : c < UNK) : c' = c := by
  rcases h with ⟨_, e⟩ | ⟨e, _⟩
  · exact e
  · omega
theorem CapR.unk {ρ : Ren} {b n c c' : Nat} (h : CapR ρ b n c c') (hc : UNK ≤ c) : n ≤ c' ∧ ∃ C, ρ (b + 1) = some C ∧ c' ≤ C := by
  rcases h with ⟨e, _⟩ | ⟨_, e⟩
  · omega
  · exact e

theorem optEv_ok {ρ : Ren} {ev' : Operand → Value} (he : EvR ρ ev ev') {lo : Option Operand} {lov : Option Value} {m n : Nat} (h2 : (match lov with | some v => natOf v | none => some m) = some n) (h1 : optEv ev lo = some lov) :
    (lo = none ∧ lov = none ∧ n = m) ∨ ∃ x k, lo = some x ∧ ev' x = .int k n := by
  cases lo with
  | none =>
    simp only [optEv, Option.some.injEq] at h1
    subst h1
    simp only [Option.some.injEq] at h2
    exact .inl ⟨rfl, rfl, h2.symm⟩
  | some x =>
    simp only [optEv] at h1
    split at h1
    · rename_i v hv
      cases h1
      obtain ⟨k, rfl⟩ := natOf_eq h2
      exact .inr ⟨x, k, rfl, (he x _ hv).ground rfl⟩
    · cases h1

theorem bounds_ok {ρ : Ren} {ev' : Operand → Value} (he : EvR ρ ev ev') {lo hi : Option Operand} {lov hiv : Option Value} {n c l h : Nat} (h1 : optEv ev lo = some lov) (h2 : optEv ev hi = some hiv) (hb : boundsX n c lov hiv = some (l, h)) :
    (l ≤ h ∧ h ≤ c) ∧ ∀ (b : Bool) (c' : Nat) (w : World), h ≤ c' → (Instr.sliceBounds b n c' (lo.map ev') (hi.map ev') none).run P w = .ok (l, h, c') w := by
  unfold boundsX at hb
  split at hb
  · rename_i h' hh
    split at hb
    · rename_i l' hl
      split at hb
      · rename_i hc1 hc2
        cases hb
        have hle1 := ble_iff.1 hc1
        have hle2 := ble_iff.1 hc2
        refine ⟨⟨hle2, hle1⟩, fun b c' w hc' => ?_⟩
        rcases optEv_ok he hh h2 with ⟨e1, _, e2⟩ | ⟨x, k, e1, hx⟩ <;> rcases optEv_ok he hl h1 with ⟨e3, _, e4⟩ | ⟨y, k', e3, hy⟩ <;> subst e1 <;> subst e3 <;>
          simp [Instr.sliceBounds, Instr.sliceBound, asIntOf, hc', hle2, *] <;> (intro hx'; omega)
      · cases hb
    · cases hb
  · cases hb

theorem op_slice_ok (hT : TabOk P tb) {t : TypeId} {x : Operand} {lo hi : Option Operand} (h : op_slice tb ev t x lo hi s = some (r, s')) : OpOk P G ev ⟨d, .slice t x lo hi none, ty, pos, aft, g⟩ s r s' := by
  unfold op_slice at h
  split at h
  · rename_i v lov hiv hx hlo hhi
    obtain ⟨u, hu, rfl, rfl⟩ := valX_eq h
    unfold sliceX at hu
    split at hu
    · rename_i ti ht
      have hk := (hT.ty _ _ ht).kind
      split at hu
      · -- a string
        rename_i b hki
        rw [hki] at hk
        split at hu
        · rename_i l h' hb
          split at hu
          · rename_i bs hcut
            cases hu
            refine OpOk.pure fun ρ w ev' he => ⟨_, ?_, VR.of_ground rfl⟩
            have e1 := (he x _ hx).ground rfl
            obtain ⟨⟨hl1, hl2⟩, hrun⟩ := bounds_ok (P := P) he hlo hhi hb
            obtain ⟨c1, c2, c3⟩ := cut_eq hcut
            have hsz : b.data.toList.length = b.size := by rw [Array.length_toList]; rfl
            rw [hsz] at hrun hl2
            have hr := hrun false b.size w hl2
            have hbs : (⟨⟨bs⟩⟩ : ByteArray) = b.extract l h' := by
              apply ByteArray.ext
              apply Array.toList_inj.1
              rw [Lib.extract_data, c1]
            simp [execOp, e1, Instr.sliceAt, run_underlying hk, Instr.slice, hr, hbs]
          · cases hu
        · cases hu
      · rename_i e a n c hki
        rw [hki] at hk
        split at hu
        · rename_i ei hei
          obtain ⟨j, z, hj, hjs, _⟩ := (hT.ty _ _ hei).info
          split at hu
          · split at hu
            · rename_i l h' hb
              cases hu
              refine OpOk.pure fun ρ w ev' he => ⟨_, ?_, .nilSlice _ _⟩
              have e1 := (he x _ hx).ground rfl
              obtain ⟨⟨hl1, hl2⟩, hrun⟩ := bounds_ok (P := P) he hlo hhi hb
              simp [execOp, e1, Instr.sliceAt, run_underlying hk, Instr.slice, hrun true c w hl2, sizeOf, typeInfo, hj]
            · cases hu
          · rename_i aa
            split at hu
            · rename_i hcu
              have hcu' := blt_iff.1 hcu
              split at hu
              · rename_i l h' hb
                cases hu
                refine OpOk.pure fun ρ w ev' he => ?_
                obtain ⟨⟨hl1, hl2⟩, hrun⟩ := bounds_ok (P := P) he hlo hhi hb
                rcases (he x _ hx).slice_inv with ⟨b', c', hρ, ha, hcap, hv⟩ | ⟨_, _, hc, _⟩
                · have hcc := hcap.known hcu'
                  subst hcc
                  have hr := hrun true c' w hl2
                  by_cases hcl : c' = l
                  · refine ⟨.slice (some ⟨b', aa.off, none⟩) (h' - l) (c' - l), ?_, ?_⟩
                    · simp [execOp, hv, Instr.sliceAt, run_underlying hk, Instr.slice, hr, sizeOf, typeInfo, hj]
                      simp [hcl]
                    · rw [show Nat.beq c' l = true from beq_iff.2 hcl, ha]
                      exact .slice hρ (.inl ⟨by omega, rfl⟩)
                  · refine ⟨.slice (some ⟨b', aa.off + l * ei.size, none⟩) (h' - l) (c' - l), ?_, ?_⟩
                    · simp [execOp, hv, Instr.sliceAt, run_underlying hk, Instr.slice, hr, sizeOf, typeInfo, hj, hcl, hjs, add_plain]
                    · have hb' : Nat.beq c' l = false := by
                        cases hb'' : Nat.beq c' l with
                        | false => rfl
                        | true => exact absurd (beq_iff.1 hb'') hcl
                      rw [hb']
                      exact .slice hρ (.inl ⟨by omega, rfl⟩)
                · rw [hc] at hcu'; exact absurd hcu' (Nat.lt_irrefl _)
              · cases hu
            · rename_i hcu
              have hcu' := blt_false hcu
              split at hu
              · rename_i l h' hb
                split at hu
                · rename_i hlh hl0
                  cases hu
                  have hlh' := beq_iff.1 hlh
                  refine OpOk.pure fun ρ w ev' he => ?_
                  obtain ⟨⟨hl1, hl2⟩, hrun⟩ := bounds_ok (P := P) he hlo hhi hb
                  rcases (he x _ hx).slice_inv with ⟨b', c', hρ, ha, hcap, hv⟩ | ⟨_, hn, _⟩
                  · obtain ⟨hcc, C, hC, hCc⟩ := hcap.unk hcu'
                    have hr := hrun true c' w (by omega)
                    refine ⟨.slice (some (if c' = l then ⟨b', aa.off, none⟩ else ⟨b', aa.off + l * ei.size, none⟩)) 0 (c' - l), ?_, .dead⟩
                    simp [execOp, hv, Instr.sliceAt, run_underlying hk, Instr.slice, hr, sizeOf, typeInfo, hj, hjs, hlh']
                    split <;> simp [add_plain]
                  · exact absurd (beq_false hl0) (by omega)
                · rename_i hno
                  cases hu
                  refine OpOk.pure fun ρ w ev' he => ?_
                  obtain ⟨⟨hl1, hl2⟩, hrun⟩ := bounds_ok (P := P) he hlo hhi hb
                  have hor : l = 0 ∨ l < h' := by
                    rcases Nat.eq_zero_or_pos l with h0 | h0
                    · exact .inl h0
                    · right
                      rcases Nat.lt_or_ge l h' with hlt | hge
                      · exact hlt
                      · have e : l = h' := by omega
                        exact (hno (beq_iff.2 e) (by
                          cases hz : Nat.beq l 0 with
                          | false => rfl
                          | true => have := beq_iff.1 hz; omega)).elim
                  rcases (he x _ hx).slice_inv with ⟨b', c', hρ, ha, hcap, hv⟩ | ⟨ha, hn, _, a', c', hv⟩
                  · obtain ⟨hcc, C, hC, hCc⟩ := hcap.unk hcu'
                    have hr := hrun true c' w (by omega)
                    refine ⟨.slice (some ⟨b', aa.off + l * ei.size, none⟩) (h' - l) (c' - l), ?_, .slice hρ (.inr ⟨Nat.le_refl _, by omega, C, hC, by omega⟩)⟩
                    by_cases hcl : c' = l
                    · have : l = 0 := by omega
                      subst this
                      simp [execOp, hv, Instr.sliceAt, run_underlying hk, Instr.slice, hr, sizeOf, typeInfo, hj]
                      simp [hcl]
                    · simp [execOp, hv, Instr.sliceAt, run_underlying hk, Instr.slice, hr, sizeOf, typeInfo, hj, hcl, hjs, add_plain]
                  · have hl0 : l = 0 := by omega
                    have hh0 : h' = 0 := by omega
                    subst hl0; subst hh0; subst hn
                    have hr := hrun true c' w (Nat.zero_le _)
                    refine ⟨.slice (some a') 0 c', ?_, ?_⟩
                    · simp [execOp, hv, Instr.sliceAt, run_underlying hk, Instr.slice, hr, sizeOf, typeInfo, hj]
                      intro _
                      simp [Addr.add]
                    · rw [ha]
                      simp only [Nat.zero_mul, Nat.add_zero, Nat.sub_self]
                      exact .dead
              · cases hu
        · cases hu
      · rename_i n e a hki
        rw [hki] at hk
        split at hu
        · rename_i ei hei
          obtain ⟨j, z, hj, hjs, _⟩ := (hT.ty _ _ hei).info
          split at hu
          · rename_i l h' hb
            split at hu
            · rename_i hnu
              have hnu' := blt_iff.1 hnu
              cases hu
              refine OpOk.pure fun ρ w ev' he => ?_
              obtain ⟨⟨hl1, hl2⟩, hrun⟩ := bounds_ok (P := P) he hlo hhi hb
              obtain ⟨b', e1, e2, e3⟩ := (he x _ hx).ptr_inv
              have hr := hrun false n w hl2
              by_cases hcl : n = l
              · refine ⟨.slice (some ⟨b', a.off, none⟩) (h' - l) (n - l), ?_, ?_⟩
                · simp [execOp, e3, Instr.sliceAt, run_underlying hk, Instr.sureAddr, hr, sizeOf, typeInfo, hj]
                  simp [hcl]
                · rw [show Nat.beq n l = true from beq_iff.2 hcl, e2]
                  exact .slice e1 (.inl ⟨by omega, rfl⟩)
              · refine ⟨.slice (some ⟨b', a.off + l * ei.size, none⟩) (h' - l) (n - l), ?_, ?_⟩
                · simp [execOp, e3, Instr.sliceAt, run_underlying hk, Instr.sureAddr, hr, sizeOf, typeInfo, hj, hcl, hjs, add_plain]
                · have hb' : Nat.beq n l = false := by
                    cases hb'' : Nat.beq n l with
                    | false => rfl
                    | true => exact absurd (beq_iff.1 hb'') hcl
                  rw [hb']
                  exact .slice e1 (.inl ⟨by omega, rfl⟩)
            · cases hu
          · cases hu
        · cases hu
      · cases hu
    · cases hu
  · cases h

end
end Go.Proofs.YtnhcbfaomehaeaaGreatDoor.R1

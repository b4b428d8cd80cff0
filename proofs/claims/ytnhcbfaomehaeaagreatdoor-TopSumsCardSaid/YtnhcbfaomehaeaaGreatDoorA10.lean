/- Appending, as the executor does it. -/
import Derived.Test.YtnhcbfaomehaeaaGreatDoorA9
namespace Go.Proofs.YtnhcbfaomehaeaaGreatDoor.R1
open Go
set_option linter.unusedVariables false
set_option linter.unusedSimpArgs false

section
variable {P : Program} {tb : Tab} {G : Nat} {ev : Ev} {s s' : St} {r : R}

theorem new2_out {V : Nat → Bool} {ρ : Ren} {w w0 : World} {b C : Nat} {o : AO} {o' : Obj} (hn : New2Ok s o b s') (hf : fresh ρ s s') (hG : G ≤ s.nx) (hw : Wf s) (hr : Rel G ρ (res V s.h.get) w) (h0 : w0.heap = w.heap ∧ w0.tape = w.tape ∧ w0.os = w.os ∧ w0.output = w.output)
    (ho : ∀ ρ', Sub ρ ρ' → ρ' (s.nx + 1) = some C → OR ρ' s.nx o o') :
    ∃ ρ', ρ' b = some w.heap.size ∧ ρ' (b + 1) = some C ∧ Out G V ρ s w ρ' s' (w0.alloc o') ∧ Sub ρ ρ' := by
  have hnone : ρ s.nx = none := hf s.nx (Nat.le_refl _) (by rw [hn.nx]; omega)
  have hnone2 : ρ (s.nx + 1) = none := hf (s.nx + 1) (by omega) (by rw [hn.nx]; omega)
  have hsub := upd2_sub w.heap.size C hnone hnone2
  refine ⟨_, by rw [hn.eq]; exact upd2_same _ _ _ C, by rw [hn.eq]; exact upd2_cap _ _ _ _, Out.new2 hn hnone hnone2 hG hw hr (fun k hk => ?_) ?_ ⟨h0.2.1, h0.2.2.1, h0.2.2.2⟩ (ho _ hsub (upd2_cap _ _ _ _)), hsub⟩
  · rw [← h0.1] at hk ⊢
    exact heap_alloc_old w0 o' hk
  · rw [← h0.1]
    exact heap_alloc_new w0 o'

theorem Rel.heap {ρ : Ren} {h : HF} {w w1 : World} (hr : Rel G ρ h w) (e : w1.heap = w.heap) : Rel G ρ h w1 :=
  ⟨fun b o hb => by obtain ⟨k, o', h1, h2, h3⟩ := hr.obj b o hb; exact ⟨k, o', h1, by rw [e]; exact h2, h3⟩, hr.inj, hr.glb⟩

/-- A part of the state's turn that only looks. -/
theorem Out.after {V : Nat → Bool} {ρ ρ' : Ren} {s s1 s2 : St} {w w' : World} (hh : s1.h = s.h) (hn : s1.nx = s.nx) (h : Out G V ρ s1 w ρ' s2 w') : Out G V ρ s w ρ' s2 w' := by
  obtain ⟨h1, h2, h3, h4, h5, h6, h7⟩ := h
  have hv : ∀ b, Vn V s1 s2 b = Vn V s s2 b := fun b => by unfold Vn; rw [hn]
  rw [hn] at h1
  refine ⟨h1, by rw [res_same (h := s2.h.get) rfl (fun b => (hv b).symm)]; exact h2, by rw [hh] at h3; exact h3, ?_, h5, h6, by rw [hh] at h7; exact h7⟩
  rw [hn, hh] at h4
  exact h4

theorem appendC_ok {e : TypeId} {ei : TI} (hei : TyOk P e ei) {v u : Value} {m : Nat} {new : List Value} (h : appendC ei e s v m new = some (u, s')) (hlen : new.length = m * ei.size) :
    Tr s s' ∧ ∀ V ρ w v', Wf s → G ≤ s.nx → vis V s s' → fresh ρ s s' → Rel G ρ (res V s.h.get) w → VR ρ v v' →
      ∀ (x' : Value) (new' : List Value) (t t' ty : TypeId) (dd : TypeDesc), P.underlying t = some (.slice e) → P.underlying t' = some dd → (∀ k, dd ≠ .int k) → LR ρ new new' → Src P w x' m ei.size new' →
        ∃ u' w' ρ', (Builtin.append_ #[t, t'] ty #[v', x']).run P w = .ok u' w' ∧ VR ρ' u u' ∧ Out G V ρ s w ρ' s' w' := by
  obtain ⟨i, z, hi, hs, hby, hz, hzc, _⟩ := hei.info
  have hzs : z.cells.size = ei.size := by rw [← hei.len, ← hzc, Array.length_toList]
  unfold appendC at h
  split at h
  · rename_i hm hsz hbt hone
    have hm := blt_iff.1 hm
    have hsz := blt_iff.1 hsz
    have hbt := blt_iff.1 hbt
    split at h
    · -- nil
      rename_i n c
      split at h
      · rename_i hn hc
        have hn := beq_iff.1 hn
        have hc := beq_iff.1 hc
        subst hn; subst hc
        split at h
        · rename_i hm0
          cases h
          have hm0 := beq_iff.1 hm0
          subst hm0
          refine ⟨Tr.refl _, fun V ρ w v' hw hG hv hf hr hvr x' new' t t' ty dd ht ht' hdd hlr hsrc => ⟨.slice none 0 0, w, ρ, ?_, .nilSlice _ _, Out.idle rfl rfl hr⟩⟩
          cases hvr
          have hnil : new' = [] := List.eq_nil_of_length_eq_zero (by rw [hlr.length, hlen]; simp)
          have hzz : (dd matches .int _) = false := by cases dd <;> first | rfl | exact absurd rfl (hdd _)
          unfold Builtin.append_
          simp [run_underlying ht, run_underlying ht', hzz, sizeOf, typeInfo, hi, hs, hsrc.len, hsrc.cells w rfl]
        · rename_i hm0
          have hm0 := beq_false hm0
          split at h
          · rename_i b s1 hn
            cases h
            have hn := new2_ok hn
            refine ⟨hn.tr, fun V ρ w v' hw hG hv hf hr hvr x' new' t t' ty dd ht ht' hdd hlr hsrc => ?_⟩
            cases hvr
            obtain ⟨cap, rest, hcap, hrest, hrun⟩ := run_append_grow (P := P) (ty := ty) (w := w) ht ht' hdd hi hz (base := none) (n := 0) (c := 0) (old := []) hsrc.len (by simp [Builtin.firstCells]) (by rw [hs]; exact hsrc.cells w.drew rfl) (by omega) (by omega) (by omega)
            simp only [Nat.zero_add, List.nil_append] at hrun hcap hrest
            have hll : (new' ++ rest).length = cap * ei.size := by
              rw [List.length_append, hlr.length, hlen, hrest, hzs, ← Nat.add_mul]
              congr 1; omega
            obtain ⟨ρ', g1, gc, g2, g3⟩ := new2_out (C := cap) hn hf hG hw hr (w0 := w.drew) ⟨rfl, rfl, rfl, rfl⟩ (o' := .cells ⟨new' ++ rest⟩ e) (fun ρ' hsub hC => .opn (hlr.mono hsub) hC (by rw [hll]; exact Nat.le_refl _))
            exact ⟨_, _, _, hrun, .slice g1 (.inr ⟨Nat.le_refl _, hcap, cap, gc, Nat.le_refl _⟩), g2⟩
          · cases h
      · cases h
    · rename_i a n c
      split at h
      · -- nothing new
        rename_i hm0 hn
        split at h
        · rename_i hnc
          cases h
          have hm0 := beq_iff.1 hm0
          have hnc := ble_iff.1 hnc
          subst hm0
          refine ⟨Tr.refl _, fun V ρ w v' hw hG hv hf hr hvr x' new' t t' ty dd ht ht' hdd hlr hsrc => ⟨v', w, ρ, ?_, hvr, Out.idle rfl rfl hr⟩⟩
          have hnil : new' = [] := List.eq_nil_of_length_eq_zero (by rw [hlr.length, hlen]; simp)
          subst hnil
          rcases hvr.slice_inv with ⟨b', c', e1, e2, hcap, rfl⟩ | ⟨_, hn0, _, a', c', rfl⟩
          · have hc' : n ≤ c' := by
              rcases hcap with ⟨_, e⟩ | ⟨_, e, _⟩
              · omega
              · exact e
            have := run_append_in (P := P) (ty := ty) (w2 := w) ht ht' hdd hi (a := ⟨b', a.off, none⟩) (n := n) (c := c') hsrc.len (by rw [hs]; exact hsrc.cells w rfl) (by omega) (by simp [storeCells])
            simpa using this
          · have := run_append_in (P := P) (ty := ty) (w2 := w) ht ht' hdd hi (a := a') (n := 0) (c := c') hsrc.len (by rw [hs]; exact hsrc.cells w rfl) (by omega) (by simp [storeCells])
            simpa using this
        · cases h
      · -- capacity known
        rename_i hm0 hcu hn
        have hm0 := beq_false hm0
        have hcu := blt_iff.1 hcu
        have hn := blt_iff.1 hn
        split at h
        · rename_i hnc
          have hnc := ble_iff.1 hnc
          split at h
          · rename_i s1 hst
            cases h
            have hst := storeX_ok hst
            refine ⟨hst.tr, fun V ρ w v' hw hG hv hf hr hvr x' new' t t' ty dd ht ht' hdd hlr hsrc => ?_⟩
            have hV := hv.wr hw hst.is hst.touch
            obtain ⟨k, w', f1, f2, f3⟩ := hst.run P G V ρ w new' hV hr hlr
            rcases hvr.slice_inv with ⟨b', c', e1, e2, hcap, rfl⟩ | ⟨_, _, hc, _⟩
            · have hk : b' = k := by rw [e1] at f1; exact Option.some.inj f1
              subst hk
              have hcc := hcap.known hcu
              subst hcc
              refine ⟨_, w', ρ, run_append_in (P := P) (ty := ty) (w2 := w') ht ht' hdd hi (a := ⟨b', a.off, none⟩) (n := n) (c := c') hsrc.len (by rw [hs]; exact hsrc.cells w rfl) hnc (by rw [add_plain, hs]; exact f2), ?_, f3⟩
              rw [e2]
              exact .slice e1 (.inl ⟨hcu, rfl⟩)
            · omega
          · cases h
        · rename_i hnc
          have hnc := ble_false hnc
          split at h
          · rename_i old s1 hl
            have hl := loadX_ok hl
            split at h
            · rename_i b s2 hn2
              cases h
              have hn2 := new2_ok hn2
              refine ⟨hl.tr.trans hn2.tr, fun V ρ w v' hw hG hv hf hr hvr x' new' t t' ty dd ht ht' hdd hlr hsrc => ?_⟩
              have hV := (hv.fst hn2.tr).rd hw hl.is hl.touch
              obtain ⟨k, old', f1, f2, f3⟩ := hl.run G V ρ w hV hr
              rcases hvr.slice_inv with ⟨b', c', e1, e2, hcap, rfl⟩ | ⟨_, _, hc, _⟩
              · have hk : b' = k := by rw [e1] at f1; exact Option.some.inj f1
                subst hk
                have hcc := hcap.known hcu
                subst hcc
                have hold : (Builtin.firstCells i.size n (.slice (some ⟨b', a.off, none⟩) n c')).run P w.drew = .ok ⟨old'⟩ w.drew := by
                  have h1 := run_loadCells_list (P := P) (w := w.drew) ⟨b', a.off, none⟩ old' (fun j u hj => by rw [add_plain]; exact (cell_heap (w := w) (w1 := w.drew) rfl _).trans (f3 j u hj))
                  rw [f2.length, hl.len, ← hs] at h1
                  simp only [Builtin.firstCells, h1]
                obtain ⟨cap, rest, hcap2, hrest, hrun⟩ := run_append_grow (P := P) (ty := ty) (w := w) ht ht' hdd hi hz (base := some ⟨b', a.off, none⟩) (n := n) (c := c') hsrc.len hold (by rw [hs]; exact hsrc.cells w.drew rfl) (by omega) (by omega) (by omega)
                have hr1 : Rel G ρ (res V s1.h.get) w := by rw [hl.h]; exact hr
                have hf1 : fresh ρ s1 s' := fun q h1 h2 => hf q (by rw [← hl.nx]; exact h1) h2
                have hll : (old' ++ new' ++ rest).length = cap * ei.size := by
                  rw [List.length_append, List.length_append, f2.length, hl.len, hlr.length, hlen, hrest, hzs, ← Nat.add_mul, ← Nat.add_mul]
                  congr 1; omega
                obtain ⟨ρ', g1, gc, g2, g3⟩ := new2_out (C := cap) hn2 hf1 (by rw [hl.nx]; exact hG) (hl.tr.wf hw) hr1 (w0 := w.drew) ⟨rfl, rfl, rfl, rfl⟩ (o' := .cells ⟨old' ++ new' ++ rest⟩ e) (fun ρ' hsub hC => .opn ((f2.append hlr).mono hsub) hC (by rw [hll]; exact Nat.le_refl _))
                exact ⟨_, _, _, hrun, .slice g1 (.inr ⟨Nat.le_refl _, hcap2, cap, gc, Nat.le_refl _⟩), Out.after hl.h hl.nx g2⟩
              · omega
            · cases h
          · cases h
      · -- capacity unknown
        rename_i hm0 hcu hn
        have hm0 := beq_false hm0
        have hcu := blt_false hcu
        have hn := blt_iff.1 hn
        split at h
        · rename_i c0 e' z0 s1 hao hnob hlk
          have hlk := look_ok hlk
          split at h
          · rename_i old htk
            obtain ⟨rfl, htl⟩ := takeL_eq _ _ _ htk
            split at h
            · rename_i s2 htn
              have htn := turn_ok htn
              split at h
              · rename_i b s3 hn2
                have hn2 := new2_ok hn2
                split at h
                · rename_i hee hzz
                  cases h
                  have hee := beq_iff.1 hee
                  have hzz := beq_iff.1 hzz
                  subst hee; subst hzz
                  have hao := beq_iff.1 hao
                  refine ⟨(hlk.tr.trans htn.tr).trans hn2.tr, fun V ρ w v' hw hG hv hf hr hvr x' new' t t' ty dd ht ht' hdd hlr hsrc => ?_⟩
                  have hV := ((hv.fst hn2.tr).fst htn.tr).rd hw (by rw [hlk.get]; rfl) hlk.touch
                  obtain ⟨k, o', f1, f2, f3⟩ := hlk.rel hV hr
                  rcases hvr.slice_inv with ⟨b', c', e1, e2, hcap, rfl⟩ | ⟨hdead, hn0, _⟩
                  · have hk : b' = k := by rw [e1] at f1; exact Option.some.inj f1
                    subst hk
                    obtain ⟨hcn, C, hC, hCc⟩ := hcap.unk hcu
                    cases f3 with
                    | opn hcd hC' hlC =>
                      rename_i dd0 rest0 C0
                      rw [hC] at hC'
                      cases hC'
                      have hdl := hcd.length
                      have hnm : ρ s.nx = none := hf s.nx (Nat.le_refl _) (by rw [hn2.nx, htn.nx, hlk.nx]; omega)
                      have hnm2 : ρ (s.nx + 1) = none := hf (s.nx + 1) (by omega) (by rw [hn2.nx, htn.nx, hlk.nx]; omega)
                      have htk' : LR ρ (c0.take (n * ei.size)) (dd0.take (n * ei.size)) := hcd.take _
                      rw [hao] at e2
                      have hold : ∀ w1 : World, w1.heap = w.heap → (Builtin.firstCells i.size n (.slice (some ⟨b', a.off, none⟩) n c')).run P w1 = .ok ⟨dd0.take (n * ei.size)⟩ w1 := by
                        intro w1 hw1
                        have h1 := run_loadCells_list (P := P) (w := w1) ⟨b', 0, none⟩ (dd0.take (n * ei.size)) (fun j u hj => by
                          rw [add_plain]
                          refine (cell_heap hw1 _).trans (cell_of f2 ?_)
                          rw [List.getElem?_take] at hj
                          split at hj
                          · rw [Nat.zero_add, List.getElem?_append_left (by rw [hdl]; omega)]; exact hj
                          · cases hj)
                        rw [List.length_take, hdl, Nat.min_eq_left (by omega), ← hs] at h1
                        simp only [Builtin.firstCells, hao, h1]
                        rw [hs]
                      by_cases hin : n + m ≤ c'
                      · -- there is room
                        have hroom : n * ei.size + new'.length ≤ (dd0 ++ rest0).length := by
                          rw [hlr.length, hlen, ← Nat.add_mul]
                          exact Nat.le_trans (Nat.mul_le_mul_right _ (by omega)) hlC
                        have h1' : ∀ v ∈ new', v.oneCell' = true := fun v hv => one_cell (hlr.one hone v hv)
                        have hst := run_storeCells_at P b' (n * ei.size) e new' 0 ⟨dd0 ++ rest0⟩ w f2 (by simp at hroom ⊢; omega) h1'
                        have hrun := run_append_in (P := P) (ty := ty) ht ht' hdd hi (a := ⟨b', a.off, none⟩) (n := n) (c := c') hsrc.len (by rw [hs]; exact hsrc.cells w rfl) hin (by rw [add_plain, hs, hao, Nat.zero_add]; exact hst)
                        have hr1 : Rel G ρ (res V s1.h.get) w := by rw [hlk.h]; exact hr
                        have hO := Out.swap (G := G) (w := w) (w' := w.setRow b' ((dd0 ++ rest0).take (n * ei.size + 0) ++ new' ++ (dd0 ++ rest0).drop (n * ei.size + 0 + new'.length)).toArray) (C := C) htn hn2 hV e1 (by rw [hlk.nx]; exact hnm) (by rw [hlk.nx]; exact hnm2) (by rw [hlk.nx]; exact hG) (hlk.tr.wf hw) hr1 (setRow_heap w b' _ _ _ _ f2) (fun j hj => setRow_other w b' j _ hj) (by simp [World.setRow]) ⟨rfl, rfl, rfl⟩ (by
                          have hsub := upd2_sub b' C (by rw [hlk.nx]; exact hnm : ρ s1.nx = none) (by rw [hlk.nx]; exact hnm2)
                          have e4 : (dd0 ++ rest0).take (n * ei.size + 0) ++ new' ++ (dd0 ++ rest0).drop (n * ei.size + 0 + new'.length) = (dd0.take (n * ei.size) ++ new') ++ (dd0 ++ rest0).drop (n * ei.size + 0 + new'.length) := by
                            rw [Nat.add_zero, List.take_append_of_le_length (by rw [hdl]; omega)]
                          rw [e4]
                          refine .opn ((htk'.append hlr).mono hsub) (upd2_cap _ _ _ _) ?_
                          have h5 : (dd0.take (n * ei.size) ++ new' ++ (dd0 ++ rest0).drop (n * ei.size + 0 + new'.length)).length = (dd0 ++ rest0).length := by
                            simp only [List.length_append, List.length_take, List.length_drop] at hroom ⊢
                            omega
                          rw [h5]; exact hlC)
                        refine ⟨_, _, _, hrun, ?_, Out.after hlk.h hlk.nx hO⟩
                        rw [hao, hn2.eq, htn.nx]
                        exact .slice (upd2_same _ _ _ _) (.inr ⟨Nat.le_refl _, hin, C, upd2_cap _ _ _ _, hCc⟩)
                      · obtain ⟨cap, rest, hcap2, hrest, hrun⟩ := run_append_grow (P := P) (ty := ty) (w := w) ht ht' hdd hi hz (base := some ⟨b', a.off, none⟩) (n := n) (c := c') hsrc.len (hold w.drew rfl) (by rw [hs]; exact hsrc.cells w.drew rfl) (by omega) (by omega) (by omega)
                        have hr1 : Rel G ρ (res V s1.h.get) w := by rw [hlk.h]; exact hr
                        have hO1 := Out.turn (G := G) (w := w) (w' := w) htn hV e1 hr1 f2 (fun _ _ => rfl) rfl ⟨rfl, rfl, rfl⟩ (fun x hx => by cases hx)
                        have hf2 : fresh ρ s2 s' := fun q h1 h2 => hf q (by rw [← hlk.nx, ← htn.nx]; exact h1) h2
                        have hll : (dd0.take (n * ei.size) ++ new' ++ rest).length = cap * ei.size := by
                          rw [List.length_append, List.length_append, List.length_take, hdl, Nat.min_eq_left (by omega), hlr.length, hlen, hrest, hzs, ← Nat.add_mul, ← Nat.add_mul]
                          congr 1; omega
                        obtain ⟨ρ', g1, gc, g2, g3⟩ := new2_out (C := cap) hn2 hf2 (by rw [htn.nx, hlk.nx]; exact hG) ((hlk.tr.trans htn.tr).wf hw) hO1.rel (w0 := w.drew) ⟨rfl, rfl, rfl, rfl⟩ (o' := .cells ⟨dd0.take (n * ei.size) ++ new' ++ rest⟩ e) (fun ρ' hsub hC => .opn ((htk'.append hlr).mono hsub) hC (by rw [hll]; exact Nat.le_refl _))
                        have hf1 : fresh ρ s1 s' := fun q h1 h2 => hf q (by rw [← hlk.nx]; exact h1) h2
                        exact ⟨_, _, _, hrun, .slice g1 (.inr ⟨Nat.le_refl _, hcap2, cap, gc, Nat.le_refl _⟩), Out.after hlk.h hlk.nx (Out.trans htn.tr hn2.tr (hlk.tr.wf hw) hf1 hO1 g2)⟩
                  · rw [hdead] at hnob
                    exact absurd rfl (beq_false hnob)
                · cases h
              · cases h
            · cases h
          · cases h
        · cases h
      · cases h
    · cases h
  · cases h

end
end Go.Proofs.YtnhcbfaomehaeaaGreatDoor.R1

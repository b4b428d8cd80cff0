/- Builtins and conversions. -/
import Derived.Test.YtnhcbfaomehaeaaGreatDoorA10
import Derived.Lib.UnsafeStr
namespace Go.Proofs.YtnhcbfaomehaeaaGreatDoor.R1
open Go
set_option linter.unusedVariables false
set_option linter.unusedSimpArgs false

section
variable {P : Program} {tb : Tab} {G : Nat} {ev : Ev} {s s' : St} {r : R}

/-- What a builtin, or a conversion, is asked. -/
noncomputable def RunPost (P : Program) (G : Nat) (V : Nat → Bool) (ρ : Ren) (s : St) (w : World) (s' : St) (v : Value) (m : Sem Value) : Prop :=
  ∃ v' w' ρ', m.run P w = .ok v' w' ∧ VR ρ' v v' ∧ Out G V ρ s w ρ' s' w'

noncomputable def BOk (P : Program) (G : Nat) (b : Builtin) (ats : List TypeId) (ty : TypeId) (args : List Value) (s : St) (v : Value) (s' : St) : Prop :=
  Tr s s' ∧ ∀ V ρ w args', Wf s → G ≤ s.nx → vis V s s' → fresh ρ s s' → Rel G ρ (res V s.h.get) w → LR ρ args args' → ∀ consts, ∃ v' w' ρ', (Go.builtin b ats.toArray ty consts ⟨args'⟩).run P w = .ok (.value v') w' ∧ VR ρ' v v' ∧ Out G V ρ s w ρ' s' w'

theorem BOk.pure {b : Builtin} {ats : List TypeId} {ty : TypeId} {args : List Value} {v : Value}
    (h : ∀ ρ w args', LR ρ args args' → ∀ consts, ∃ v', (Go.builtin b ats.toArray ty consts ⟨args'⟩).run P w = .ok (.value v') w ∧ VR ρ v v') : BOk P G b ats ty args s v s :=
  ⟨Tr.refl s, fun V ρ w args' _ _ _ _ hr hl consts => let ⟨v', h1, h2⟩ := h ρ w args' hl consts; ⟨v', w, ρ, h1, h2, Out.idle rfl rfl hr⟩⟩

theorem VR.map_inv {ρ : Ren} {m : Nat} {v : Value} (h : VR ρ (.map (some m)) v) : ∃ m', ρ m = some m' ∧ v = .map (some m') := by
  cases h with
  | map e => exact ⟨_, e, rfl⟩
theorem LR.one_inv {ρ : Ren} {v : Value} {l : List Value} (h : LR ρ [v] l) : ∃ v', l = [v'] ∧ VR ρ v v' := by
  cases h with
  | cons a b => cases b; exact ⟨_, rfl, a⟩
theorem LR.two_inv {ρ : Ren} {v u : Value} {l : List Value} (h : LR ρ [v, u] l) : ∃ v' u', l = [v', u'] ∧ VR ρ v v' ∧ VR ρ u u' := by
  cases h with
  | cons a b => obtain ⟨u', rfl, hu⟩ := b.one_inv; exact ⟨_, _, rfl, a, hu⟩

theorem OR.map_inv {ρ : Ren} {b : Nat} {es : List MapEntry} {clock : Nat} {o' : Obj} (h : OR ρ b (.map es clock) o') : ∃ es', o' = .map ⟨es'⟩ clock ∧ ER ρ es es' := by
  cases h with
  | map a => exact ⟨_, rfl, a⟩
theorem ER.length {ρ : Ren} : ∀ {l l' : List MapEntry}, ER ρ l l' → l'.length = l.length
  | _, _, .nil => rfl
  | _, _, .cons _ _ _ d => by simp [ER.length d]

theorem len_ok (hT : TabOk P tb) {ats : List TypeId} {ty : TypeId} {args : List Value} {v : Value} (h : builtinX tb .len ats ty args s = some (v, s')) : BOk P G .len ats ty args s v s' := by
  unfold builtinX at h
  split at h <;> try contradiction
  rename_i t ts x _
  split at h
  · rename_i ti ht
    have hk := (hT.ty _ _ ht).kind
    split at h
    · rename_i b hki
      rw [hki] at hk
      cases h
      refine BOk.pure fun ρ w args' hl consts => ⟨_, ?_, .int _ _⟩
      obtain ⟨v', rfl, hv⟩ := hl.one_inv
      cases hv
      have hsz : b.data.toList.length = b.size := by rw [Array.length_toList]; rfl
      have hk' : P.underlying t = some .string := hk
      simp [Go.builtin, Builtin.len_, goInt, run_underlying hk']
    · rename_i e a n c hki
      rw [hki] at hk
      cases h
      refine BOk.pure fun ρ w args' hl consts => ⟨_, ?_, .int _ _⟩
      obtain ⟨v', rfl, hv⟩ := hl.one_inv
      have hk' : P.underlying t = some (.slice e) := hk
      cases hv <;> simp [Go.builtin, Builtin.len_, goInt, run_underlying hk'] <;> rfl
    · rename_i k e hki
      rw [hki] at hk
      cases h
      refine BOk.pure fun ρ w args' hl consts => ⟨_, ?_, .int _ _⟩
      obtain ⟨v', rfl, hv⟩ := hl.one_inv
      cases hv
      have hk' : P.underlying t = some (.map k e) := hk
      simp [Go.builtin, Builtin.len_, goInt, run_underlying hk']
    · rename_i k e m hki
      rw [hki] at hk
      split at h
      · rename_i es clock s1 hlk
        cases h
        have hlk := look_ok hlk
        refine ⟨hlk.tr, fun V ρ w args' hw hG hv hf hr hl consts => ?_⟩
        obtain ⟨v', rfl, hv'⟩ := hl.one_inv
        obtain ⟨m', e1, rfl⟩ := hv'.map_inv
        have hV := hv.rd hw (by rw [hlk.get]; rfl) hlk.touch
        obtain ⟨k', o', f1, f2, f3⟩ := hlk.rel hV hr
        rw [e1] at f1; cases f1
        obtain ⟨es', rfl, hes⟩ := f3.map_inv
        have hk' : P.underlying t = some (.map k e) := hk
        refine ⟨_, w, ρ, ?_, .int _ _, Out.idle hlk.h hlk.nx hr⟩
        have hgo : (getObj m').run P w = .ok (.map ⟨es'⟩ clock) w := by simp [getObj, Sem.run, f2]
        simp [Go.builtin, Builtin.len_, goInt, run_underlying hk', hgo, hes.length]
      · cases h
    · cases h
  · cases h

theorem cap_ok (hT : TabOk P tb) {ats : List TypeId} {ty : TypeId} {args : List Value} {v : Value} (h : builtinX tb .cap ats ty args s = some (v, s')) : BOk P G .cap ats ty args s v s' := by
  unfold builtinX at h
  split at h <;> try contradiction
  rename_i t ts a n c _
  split at h
  · rename_i ti ht hc
    have hk := (hT.ty _ _ ht).kind
    have hc := blt_iff.1 hc
    split at h
    · rename_i e hki
      rw [hki] at hk
      cases h
      have hk' : P.underlying t = some (.slice e) := hk
      refine BOk.pure fun ρ w args' hl consts => ⟨_, ?_, .int _ _⟩
      obtain ⟨v', rfl, hv⟩ := hl.one_inv
      cases a with
      | none => cases hv; simp [Go.builtin, Builtin.cap_, goInt, run_underlying hk']
      | some a =>
        rcases hv.slice_inv with ⟨b', c', _, _, hcap, rfl⟩ | ⟨_, _, hcu, _⟩
        · rw [hcap.known hc]; simp [Go.builtin, Builtin.cap_, goInt, run_underlying hk']
        · omega
    · cases h
  · cases h

theorem und_kind {t : TypeId} {ti : TI} (h : TyOk P t ti) (hk : (∃ e, ti.kind = .slice e) ∨ ti.kind = .str) : ∃ dd, P.underlying t = some dd ∧ ∀ k, dd ≠ .int k := by
  have := h.kind
  rcases hk with ⟨e, hk⟩ | hk <;> rw [hk] at this
  · exact ⟨_, this, fun k e => by cases e⟩
  · exact ⟨_, this, fun k e => by cases e⟩

theorem append_ok (hT : TabOk P tb) {ats : List TypeId} {ty : TypeId} {args : List Value} {v : Value} (h : builtinX tb .append ats ty args s = some (v, s')) : BOk P G .append ats ty args s v s' := by
  unfold builtinX at h
  split at h <;> try contradiction
  rename_i t t' a x _
  split at h
  · rename_i ti ti' ht ht'
    have hk := (hT.ty _ _ ht).kind
    have hS : ∀ e, ti.kind = .slice e → ((∃ e, ti'.kind = .slice e) ∨ ti'.kind = .str) → appendX tb e s a x = some (v, s') → BOk P G .append [t, t'] ty [a, x] s v s' := by
      intro e hki hk' h
      rw [hki] at hk
      obtain ⟨dd, hd, hdd⟩ := und_kind (hT.ty _ _ ht') hk'
      unfold appendX at h
      split at h
      · rename_i ei hei
        split at h
        · rename_i m new s1 hel
          have hel := elems_ok hel
          obtain ⟨tr, hrun⟩ := appendC_ok (G := G) (hT.ty _ _ hei) h hel.len
          refine ⟨hel.tr.trans tr, fun V ρ w args' hw hG hv hf hr hl consts => ?_⟩
          obtain ⟨a', x', rfl, ha, hx⟩ := hl.two_inv
          obtain ⟨new', hn1, hsrc⟩ := hel.run P G V ρ w x' hw (hv.fst tr) hr hx
          have hr1 : Rel G ρ (res V s1.h.get) w := by rw [hel.h]; exact hr
          have hv1 : vis V s1 s' := fun b hb ht => hv b (by rw [← hel.nx]; exact hb) ht
          have hf1 : fresh ρ s1 s' := fun b hb ht => hf b (by rw [← hel.nx]; exact hb) ht
          obtain ⟨u', w', ρ', g1, g2, g3⟩ := hrun V ρ w a' (hel.tr.wf hw) (by rw [hel.nx]; exact hG) hv1 hf1 hr1 ha x' new' t t' ty dd hk hd hdd hn1 hsrc
          exact ⟨u', w', ρ', by simp [Go.builtin, g1], g2, Out.after hel.h hel.nx g3⟩
        · cases h
      · cases h
    split at h
    · rename_i e e' h1 h2
      exact hS e h1 (.inl ⟨_, h2⟩) h
    · rename_i e h1 h2
      exact hS e h1 (.inr h2) h
    · rename_i e k h1 h2
      rw [h1] at hk
      have hk' := (hT.ty _ _ ht').kind
      rw [h2] at hk'
      unfold appendZ at h
      split at h
      · rename_i ei n c m hei
        obtain ⟨i, z, hi, hs, hby, hz, hzc, _⟩ := (hT.ty _ _ hei).info
        have hzs : z.cells.size = ei.size := by rw [← (hT.ty _ _ hei).len, ← hzc, Array.length_toList]
        unfold appendC at h
        split at h
        · rename_i hm hsz hbt hone
          have hm := blt_iff.1 hm
          have hsz := blt_iff.1 hsz
          have hbt := blt_iff.1 hbt
          split at h
          · rename_i n0 c0 heq
            cases heq
            split at h
            · rename_i hn hc
              have hn := beq_iff.1 hn
              have hc := beq_iff.1 hc
              subst hn; subst hc
              split at h
              · rename_i hm0
                cases h
                have hm0 := beq_iff.1 hm0
                subst hm0
                refine BOk.pure fun ρ w args' hl consts => ⟨_, ?_, .nilSlice _ _⟩
                obtain ⟨a', x', rfl, ha, hx⟩ := hl.two_inv
                cases ha; cases hx
                have hk1 : P.underlying t = some (.slice e) := hk
                have hk2 : P.underlying t' = some (.int k) := hk'
                have w1 : IntKind.i64.wrap 0 = 0 := by decide
                simp [Go.builtin, Builtin.append_, run_underlying hk1, run_underlying hk2, sizeOf, typeInfo, hi, asInt, asIntOf, w1]
              · rename_i hm0
                have hm0 := beq_false hm0
                split at h
                · rename_i b s1 hn
                  cases h
                  have hn := new2_ok hn
                  refine ⟨hn.tr, fun V ρ w args' hw hG hv hf hr hl consts => ?_⟩
                  obtain ⟨a', x', rfl, ha, hx⟩ := hl.two_inv
                  cases ha; cases hx
                  obtain ⟨cap, rest, hcap, hrest, hrun⟩ := run_append_growZ (P := P) (ty := ty) (w := w) (t := t) (t' := t') hk hk' hi hz (by rw [hzs, hs]) (m := m) (by omega) (by omega) (by omega) (by omega)
                  have hll : (rep z.cells.toList m ++ rest).length = cap * ei.size := by
                    rw [List.length_append, rep_length, Array.length_toList, hrest, hzs, ← Nat.add_mul]
                    congr 1; omega
                  obtain ⟨ρ', g1, gc, g2, g3⟩ := new2_out (C := cap) hn hf hG hw hr (w0 := w.drew) ⟨rfl, rfl, rfl, rfl⟩ (o' := .cells ⟨rep z.cells.toList m ++ rest⟩ e) (fun ρ' hsub hC => .opn (by rw [hzc]; exact (LR.of_ground (hT.ty _ _ hei).gr).rep m) hC (by rw [hll]; exact Nat.le_refl _))
                  exact ⟨_, _, _, by simp [Go.builtin]; rw [hrun]; rfl, .slice g1 (.inr ⟨Nat.le_refl _, hcap, cap, gc, Nat.le_refl _⟩), g2⟩
                · cases h
            · cases h
          · rename_i heq; cases heq
          · rename_i h1 h2; exact absurd rfl (h1 _ _)
        · cases h
      · cases h
    · cases h
  · cases h

end
end Go.Proofs.YtnhcbfaomehaeaaGreatDoor.R1

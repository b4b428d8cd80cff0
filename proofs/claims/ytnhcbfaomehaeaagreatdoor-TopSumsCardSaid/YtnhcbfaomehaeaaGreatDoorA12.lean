/- More builtins; conversions. -/
import Derived.Test.YtnhcbfaomehaeaaGreatDoorA11
namespace Go.Proofs.YtnhcbfaomehaeaaGreatDoor.R1
open Go
set_option linter.unusedVariables false
set_option linter.unusedSimpArgs false

section
variable {P : Program} {tb : Tab} {G : Nat} {ev : Ev} {s s' : St} {r : R}

theorem copy_ok (hT : TabOk P tb) {ats : List TypeId} {ty : TypeId} {args : List Value} {v : Value} (h : builtinX tb .copy ats ty args s = some (v, s')) : BOk P G .copy ats ty args s v s' := by
  unfold builtinX at h
  split at h <;> try contradiction
  rename_i t ts a n c m c2 _
  split at h
  · rename_i ti ht
    have hk := (hT.ty _ _ ht).kind
    split at h
    · rename_i e hki
      rw [hki] at hk
      have hk' : P.underlying t = some (.slice e) := hk
      split at h
      · rename_i ei hei
        obtain ⟨i, z, hi, _⟩ := (hT.ty _ _ hei).info
        cases h
        refine BOk.pure fun ρ w args' hl consts => ⟨_, ?_, .int _ _⟩
        obtain ⟨d', x', rfl, hd, hx⟩ := hl.two_inv
        cases hx
        cases a with
        | none =>
          cases hd
          simp [Go.builtin, Builtin.copy_, goInt, run_underlying hk', Builtin.lenOf, Builtin.firstCells, sizeOf, typeInfo, hi]
        | some a =>
          rcases hd.slice_inv with ⟨b', c', _, _, _, rfl⟩ | ⟨_, hn, _, a', c', rfl⟩
          · simp [Go.builtin, Builtin.copy_, goInt, run_underlying hk', Builtin.lenOf, Builtin.firstCells, sizeOf, typeInfo, hi, storeCells]
          · subst hn
            simp [Go.builtin, Builtin.copy_, goInt, run_underlying hk', Builtin.lenOf, Builtin.firstCells, sizeOf, typeInfo, hi, storeCells]
      · cases h
    · cases h
  · cases h

theorem minmax_ok {b : Builtin} (hb : b = .max ∨ b = .min) {ats : List TypeId} {ty : TypeId} {args : List Value} {v : Value} (h : builtinX tb b ats ty args s = some (v, s')) : BOk P G b ats ty args s v s' := by
  rcases hb with rfl | rfl
  · unfold builtinX at h
    split at h <;> try contradiction
    split at h
    · rename_i hg
      split at h
      · rename_i u hu
        cases h
        obtain ⟨e1, e2⟩ := runG_eq hu
        refine BOk.pure fun ρ w args' hl consts => ⟨_, ?_, VR.of_ground e2⟩
        rw [hl.ground hg]
        simp only [Go.builtin]
        rw [show Builtin.max_ _ ty _ = Sem.pure v from e1]
        rfl
      · cases h
    · cases h
  · unfold builtinX at h
    split at h <;> try contradiction
    split at h
    · rename_i hg
      split at h
      · rename_i u hu
        cases h
        obtain ⟨e1, e2⟩ := runG_eq hu
        refine BOk.pure fun ρ w args' hl consts => ⟨_, ?_, VR.of_ground e2⟩
        rw [hl.ground hg]
        simp only [Go.builtin]
        rw [show Builtin.min_ _ ty _ = Sem.pure v from e1]
        rfl
      · cases h
    · cases h

theorem sliceData_ok {ats : List TypeId} {ty : TypeId} {args : List Value} {v : Value} (h : builtinX tb .unsafeSliceData ats ty args s = some (v, s')) : BOk P G .unsafeSliceData ats ty args s v s' := by
  unfold builtinX at h
  split at h <;> try contradiction
  rename_i a n c _
  split at h
  · rename_i hn hc
    cases h
    have hn := beq_false hn
    have hc := beq_false hc
    refine BOk.pure fun ρ w args' hl consts => ?_
    obtain ⟨x', rfl, hx⟩ := hl.one_inv
    rcases hx.slice_inv with ⟨b', c', h1, h2, hcap, rfl⟩ | ⟨_, h0, _⟩
    · have hc' : c' ≠ 0 := by
        rcases hcap with ⟨_, e⟩ | ⟨_, e, _⟩
        · omega
        · omega
      refine ⟨.pointer (some ⟨b', a.off, none⟩), ?_, by rw [h2]; exact .ptr h1⟩
      simp only [Go.builtin, Sem.run_bind]
      rw [Lib.run_unsafeSliceData_row (P := P) w _ ty _ _ _ hc']
      simp
    · omega
  · cases h

theorem bytesOfX_eq : ∀ {vs : List Value} {bs : List UInt8}, bytesOfX vs = some bs → vs = bs.map fun b => .int .u8 b.toNat
  | [], bs, h => by simp only [bytesOfX, Option.some.injEq] at h; subst h; rfl
  | v :: vs, bs, h => by
    simp only [bytesOfX] at h
    split at h
    · rename_i b hb
      split at h
      · rename_i r hr
        cases h
        rw [bytesOfX_eq hr]
        unfold byteOfX at hb
        split at hb
        · rename_i n
          split at hb
          · rename_i hn
            cases hb
            have hn := blt_iff.1 hn
            have : (UInt8.ofNat n).toNat = n := by simp; omega
            simp [this]
          · cases hb
        · cases hb
      · cases h
    · cases h

theorem allL_bytes (bs : List UInt8) : allL ground (bs.map fun b => Value.int .u8 b.toNat) = true := by
  induction bs with
  | nil => rfl
  | cons x l ih => simpa [allL, ground] using ih

theorem unsafeString_ok (hT : TabOk P tb) {ats : List TypeId} {ty : TypeId} {args : List Value} {v : Value} (h : builtinX tb .unsafeString ats ty args s = some (v, s')) : BOk P G .unsafeString ats ty args s v s' := by
  unfold builtinX at h
  split at h <;> try contradiction
  rename_i t it a n _
  split at h
  · rename_i ti hn ht
    have hk := (hT.ty _ _ ht).kind
    have hn := beq_false hn
    split at h
    · rename_i e c e' z1 s1 hki hlk hao hnb
      rw [hki] at hk
      have hk' : P.underlying t = some (.pointer e) := hk
      have hlk := look_ok hlk
      have hao := beq_iff.1 hao
      have hnb := blt_iff.1 hnb
      split at h
      · rename_i ei hee hei
        have hee := beq_iff.1 hee
        subst hee
        split at h
        · rename_i vs _ htk hsz
          have hsz := beq_iff.1 hsz
          split at h
          · rename_i bs hbs
            split at h
            · rename_i s2 htn
              cases h
              have htn := turn_ok htn
              obtain ⟨htk1, htk2⟩ := takeL_eq _ _ _ htk
              obtain ⟨i, z, hi, hs, _⟩ := (hT.ty _ _ hei).info
              have hc1 : P.cellsOf e = 1 := by unfold Program.cellsOf; simp [hi, hs, hsz]
              have hvs := bytesOfX_eq hbs
              have hbl : bs.length = n := by
                have : vs.length = bs.length := by rw [hvs]; simp
                rw [← this, htk1, List.length_take]; omega
              refine ⟨hlk.tr.trans htn.tr, fun V ρ w args' hw hG hv hf hr hl consts => ?_⟩
              obtain ⟨p', q', rfl, hp, hq⟩ := hl.two_inv
              cases hq
              obtain ⟨b', e1, e2, rfl⟩ := hp.ptr_inv
              have hV := (hv.fst htn.tr).rd hw (by rw [hlk.get]; rfl) hlk.touch
              obtain ⟨k, o', f1, f2, f3⟩ := hlk.rel hV hr
              rw [e1] at f1
              cases f1
              cases f3 with
              | opn hcd hC hlC =>
                rename_i d rest C
                have hdl := hcd.length
                have hd : d.take n = vs := by
                  have h1 : LR ρ vs (d.take n) := by rw [htk1]; exact hcd.take n
                  exact h1.ground (by rw [hvs]; exact allL_bytes bs)
                have hcell : ∀ j x, bs[j]? = some x → w.cell? ((⟨b', 0, none⟩ : Addr).add j) = some (.int .u8 x.toNat) := by
                  intro j x hj
                  rw [add_plain]
                  refine cell_of f2 ?_
                  have hjl : j < n := by
                    have := (List.getElem?_eq_some_iff.1 hj).1; omega
                  rw [Nat.zero_add, List.getElem?_append_left (by rw [hdl]; omega)]
                  have h1 : (d.take n)[j]? = d[j]? := by rw [List.getElem?_take, if_pos hjl]
                  rw [← h1, hd, hvs]
                  simp [hj]
                have hrun := Lib.run_unsafeString_row (P := P) w t it ty e hk' hc1 b' (d ++ rest).length (by unfold World.shape?; rw [f2]; rfl) bs (by intro h0; rw [h0] at hbl; simp at hbl; omega) (by simp; omega) (by omega) hcell
                have hr1 : Rel G ρ (res V s1.h.get) w := by rw [hlk.h]; exact hr
                have hfz : ∀ j, (w.freeze ⟨b', 0, none⟩ bs.length).heap[j]? = if b' = j then (w.heap[j]?).map (fun o => match o with
                    | .cells c elem (lo, hi) => .cells c elem (if lo == hi then (0, 0 + bs.length) else (min lo 0, max hi (0 + bs.length)))
                    | o => o) else w.heap[j]? := by
                  intro j
                  unfold World.freeze
                  rw [if_neg (by omega)]
                  simp only [Array.getElem?_modify]
                  rfl
                have hO := Out.turn (G := G) (w := w) (w' := w.freeze ⟨b', 0, none⟩ bs.length) htn hV e1 hr1 (by rw [hfz, if_pos rfl, f2]; rfl) (fun j hj => by rw [hfz, if_neg (Ne.symm hj)]) (by unfold World.freeze; split <;> simp) (by unfold World.freeze; split <;> exact ⟨rfl, rfl, rfl⟩) (fun x hx => by cases hx)
                refine ⟨.string ⟨⟨bs⟩⟩, _, ρ, ?_, .string _, Out.after hlk.h hlk.nx hO⟩
                rw [hbl] at hrun
                simp only [Go.builtin, Sem.run_bind]
                have hao' : (⟨b', a.off, none⟩ : Addr) = ⟨b', 0, none⟩ := by rw [hao]
                rw [hao']
                have : (Builtin.unsafeString_ [t, it].toArray ty ⟨[.pointer (some ⟨b', 0, none⟩), .int .i64 (Int.ofNat n)]⟩).run P w = .ok (.string ⟨bs.toArray⟩) (w.freeze ⟨b', 0, none⟩ n) := hrun
                rw [this, hbl]
                rfl
            · cases h
          · cases h
        · cases h
      · cases h
    · cases h
  · cases h

end
end Go.Proofs.YtnhcbfaomehaeaaGreatDoor.R1

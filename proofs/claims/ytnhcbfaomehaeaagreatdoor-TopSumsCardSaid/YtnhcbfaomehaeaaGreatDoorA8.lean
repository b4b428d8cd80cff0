/- Memory: made, read, written. -/
import Derived.Test.YtnhcbfaomehaeaaGreatDoorA7
import Derived.DataShut
namespace Go.Proofs.YtnhcbfaomehaeaaGreatDoor.R1
open Go
set_option linter.unusedVariables false
set_option linter.unusedSimpArgs false

theorem rep_get {α : Type} (z : List α) : ∀ (n i : Nat), (rep z n)[i]? = if i < n * z.length then z[i % z.length]? else none := by
  intro n
  induction n with
  | zero => intro i; simp [rep]
  | succ n ih =>
    intro i
    have h1 : (n + 1) * z.length = n * z.length + z.length := Nat.succ_mul _ _
    rw [rep, List.getElem?_append, ih, h1]
    split
    · rename_i h
      rw [if_pos (by omega), Nat.mod_eq_of_lt h]
    · rename_i h
      have hm : i % z.length = (i - z.length) % z.length := Nat.mod_eq_sub_mod (by omega)
      rw [hm]
      by_cases h2 : i - z.length < n * z.length
      · rw [if_pos h2, if_pos (by omega)]
      · rw [if_neg h2, if_neg (by omega)]
theorem rep_length {α : Type} (z : List α) : ∀ (n : Nat), (rep z n).length = n * z.length := by
  intro n
  induction n with
  | zero => simp [rep]
  | succ n ih => rw [rep, List.length_append, ih, Nat.succ_mul]; omega
theorem range_rep (z : Array Value) (n : Nat) : (Array.range (n * z.size)).map (fun i => z[i % z.size]!) = ⟨rep z.toList n⟩ := by
  apply Array.toList_inj.1
  apply List.ext_getElem?
  intro i
  simp only [rep_get]
  by_cases h : i < n * z.size
  · have hz : 0 < z.size := by
      rcases Nat.eq_zero_or_pos z.size with h0 | h0
      · rw [h0] at h; simp at h
      · exact h0
    have hm := Nat.mod_lt i hz
    simp [h, hm]
  · simp [h]

theorem OR.cells {ρ : Ren} {b : Nat} {o : AO} {o' : Obj} {c : List Value} (h : OR ρ b o o') (hc : o.cells = some c) : ∃ c' e fz, o' = .cells ⟨c'⟩ e fz ∧ LR ρ c (c'.take c.length) ∧ c.length ≤ c'.length := by
  cases h with
  | row a => cases hc; exact ⟨_, _, _, rfl, by rw [List.take_of_length_le (by rw [a.length]; exact Nat.le_refl _)]; exact a, by rw [a.length]; exact Nat.le_refl _⟩
  | opn a _ _ => cases hc; exact ⟨_, _, _, rfl, by rw [List.take_append_of_le_length (by rw [a.length]; exact Nat.le_refl _), List.take_of_length_le (by rw [a.length]; exact Nat.le_refl _)]; exact a, by rw [List.length_append, a.length]; omega⟩
  | ro a => cases hc; exact ⟨_, _, _, rfl, by rw [List.take_append_of_le_length (by rw [a.length]; exact Nat.le_refl _), List.take_of_length_le (by rw [a.length]; exact Nat.le_refl _)]; exact a, by rw [List.length_append, a.length]; omega⟩
  | _ => cases hc

theorem cell_of {w : World} {k : Nat} {c' : List Value} {e : TypeId} {fz : Nat × Nat} (h : w.heap[k]? = some (.cells ⟨c'⟩ e fz)) {i : Nat} {u : Value} (hu : c'[i]? = some u) : w.cell? ⟨k, i, none⟩ = some u := by
  unfold World.cell?
  simp [h, hu]

section
variable {P : Program} {tb : Tab} {G : Nat} {ev : Ev} {s s' : St} {r : R} {d : Option Nat} {ty : TypeId} {pos : String} {aft : Array Edge} {g : Option (Nat × Bool)}

/-- What is looked at lies there. -/
theorem LookOk.rel {b : Nat} {o : AO} (h : LookOk s b o s') {V : Nat → Bool} {ρ : Ren} {w : World} (hV : V b = true) (hr : Rel G ρ (res V s.h.get) w) : ∃ k o', ρ b = some k ∧ w.heap[k]? = some o' ∧ OR ρ b o o' :=
  hr.obj b o (res_some.2 ⟨hV, h.get⟩)

structure LoadOk (s : St) (b o n : Nat) (vs : List Value) (s' : St) : Prop where
  tr : Tr s s'
  h : s'.h = s.h
  nx : s'.nx = s.nx
  wr : s'.wr = s.wr
  is : (s.h.get b).isSome
  touch : s'.rd.testBit b = true
  len : vs.length = n
  run : ∀ (G : Nat) (V : Nat → Bool) (ρ : Ren) (w : World), V b = true → Rel G ρ (res V s.h.get) w → ∃ k vs', ρ b = some k ∧ LR ρ vs vs' ∧ ∀ j u, vs'[j]? = some u → w.cell? ⟨k, o + j, none⟩ = some u

theorem loadX_ok {b o n : Nat} {vs : List Value} (h : loadX s b o n = some (vs, s')) : LoadOk s b o n vs s' := by
  unfold loadX at h
  split at h
  · rename_i ob s1 hl
    have hl := look_ok hl
    split at h
    · rename_i c hc
      split at h
      · rename_i vs1 hcut
        cases h
        obtain ⟨c1, c2, c3⟩ := cut_eq hcut
        refine ⟨hl.tr, hl.h, hl.nx, hl.wr, by rw [hl.get]; rfl, hl.touch, c2, fun G V ρ w hV hr => ?_⟩
        obtain ⟨k, o', h1, h2, h3⟩ := hl.rel hV hr
        obtain ⟨c', e, fz, rfl, h5, h6⟩ := h3.cells hc
        refine ⟨k, _, h1, h5.cut hcut, fun j u hj => ?_⟩
        apply cell_of h2
        rw [List.getElem?_take] at hj
        split at hj
        · rw [List.getElem?_drop, List.getElem?_take] at hj
          split at hj
          · exact hj
          · cases hj
        · cases hj
      · cases h
    · cases h
  · cases h

structure StoreOk (s : St) (b o : Nat) (vs : List Value) (s' : St) : Prop where
  tr : Tr s s'
  is : (s.h.get b).isSome
  touch : s'.wr.testBit b = true
  run : ∀ (P : Program) (G : Nat) (V : Nat → Bool) (ρ : Ren) (w : World) (vs' : List Value), V b = true → Rel G ρ (res V s.h.get) w → LR ρ vs vs' →
    ∃ k w', ρ b = some k ∧ (storeCells ⟨k, o, none⟩ vs').run P w = .ok () w' ∧ Out G V ρ s w ρ s' w'

theorem one_cell {u : Value} (h : one u = true) : u.oneCell' = true := by cases u <;> first | rfl | cases h

theorem storeX_ok {b o : Nat} {vs : List Value} (h : storeX s b o vs = some s') : StoreOk s b o vs s' := by
  unfold storeX at h
  split at h
  · rename_i ob s1 hl
    have hl := look_ok hl
    split at h
    · rename_i c hc
      split at h
      · rename_i c2 hsp
        split at h
        · rename_i ob2 hw
          split at h
          · rename_i h1c
            have ht := turn_ok h
            obtain ⟨p1, p2⟩ := splice_eq _ _ _ _ hsp
            have htouch := ht.touch
            refine ⟨hl.tr.trans ht.tr, by rw [hl.get]; rfl, htouch, fun P G V ρ w vs' hV hr hlr => ?_⟩
            obtain ⟨k, o', e1, e2, e3⟩ := hl.rel hV hr
            have hlen := hlr.length
            have h1' : ∀ v ∈ vs', v.oneCell' = true := fun v hv => one_cell (hlr.one h1c v hv)
            have ht' : TurnOk s b (some ob2) { s' with rd := s.rd } := ⟨by rw [hl.get]; rfl, fun j => by rw [show ({ s' with rd := s.rd } : St).h = s'.h from rfl, ht.get, hl.h], by rw [← hl.nx, ← ht.nx], rfl, fun j => by rw [← hl.wr, ← ht.wr]⟩
            have fin : ∀ (c' rest : List Value) (e : TypeId), w.heap[k]? = some (.cells ⟨c' ++ rest⟩ e (0, 0)) → LR ρ c c' → (∀ d, LR ρ c2 d → d.length = c'.length → OR ρ b ob2 (.cells ⟨d ++ rest⟩ e (0, 0))) →
                ∃ k w', ρ b = some k ∧ (storeCells ⟨k, o, none⟩ vs').run P w = .ok () w' ∧ Out G V ρ s w ρ s' w' := by
              intro c' rest e hk hcl hor
              have hcl' := hcl.length
              have hrun := run_storeCells_at P k o e vs' 0 ⟨c' ++ rest⟩ w hk (by simp; omega) h1'
              refine ⟨k, _, e1, hrun, ?_⟩
              have hd : LR ρ c2 (c'.take o ++ vs' ++ c'.drop (o + vs.length)) := by rw [p2]; exact ((hcl.take _).append hlr).append (hcl.drop _)
              have hO := Out.turn (G := G) (w := w) (w' := w.setRow k ((c' ++ rest).take o ++ vs' ++ (c' ++ rest).drop (o + vs'.length)).toArray) ht' hV e1 hr (setRow_heap w k _ _ _ _ hk) (fun j hj => setRow_other w k j _ hj) (by simp [World.setRow]) ⟨rfl, rfl, rfl⟩ (fun x hx => by
                cases hx
                have := hor _ hd (by simp; omega)
                have e4 : c'.take o ++ vs' ++ c'.drop (o + vs.length) ++ rest = (c' ++ rest).take o ++ vs' ++ (c' ++ rest).drop (o + vs'.length) := by
                  rw [List.take_append_of_le_length (by omega), List.drop_append_of_le_length (by omega), hlen]
                  simp
                rw [e4] at this
                exact this)
              have hO' : Out G V ρ s w ρ s' (w.setRow k ((c' ++ rest).take o ++ vs' ++ (c' ++ rest).drop (o + vs'.length)).toArray) :=
                ⟨hO.ext, hO.rel, hO.frame, hO.img, hO.size, hO.same, hO.keepw⟩
              simpa using hO'
            cases ob with
            | row c0 e =>
              cases hc
              cases hw
              cases e3 with
              | row a =>
                refine fin _ [] e (by rw [e2]; simp) a fun d hd _ => ?_
                rw [List.append_nil]; exact .row hd
            | opn c0 e z =>
              cases hc
              cases hw
              cases e3 with
              | opn a hC hl => exact fin _ _ e e2 a fun d hd hdl => .opn hd hC (by simp at hl ⊢; omega)
            | _ => first | cases hw | cases hc
          · cases h
        · cases h
      · cases h
    · cases h
  · cases h

theorem wrapV_agg {ti : TI} {cs : List Value} {v : Value} (h : wrapV ti cs = some v) : (isAgg ti.kind = true ∧ v = .agg ⟨cs⟩) ∨ (isAgg ti.kind = false ∧ cs = [v]) := by
  unfold wrapV at h
  split at h
  · rename_i ha; cases h; exact .inl ⟨ha, rfl⟩
  · rename_i ha
    split at h
    · cases h; exact .inr ⟨ha, rfl⟩
    · cases h

noncomputable def szOf (ti : TI) : Nat := match isAgg ti.kind with | true => ti.size | false => 1

/-- A variable is read. -/
theorem loadVar_ok {t : TypeId} {ti : TI} (hti : TyOk P t ti) {ρ : Ren} {vs vs' : List Value} {v : Value} {w : World} {k o : Nat} (hv : wrapV ti vs = some v) (hlen : vs.length = szOf ti) (hlr : LR ρ vs vs')
    (hc : ∀ j u, vs'[j]? = some u → w.cell? ⟨k, o + j, none⟩ = some u) : ∃ v', (loadVar t ⟨k, o, none⟩).run P w = .ok v' w ∧ VR ρ v v' := by
  obtain ⟨dd, hd, hagg, _⟩ := und_of hti
  obtain ⟨i, z, hi, hs, _⟩ := hti.info
  rcases wrapV_agg hv with ⟨ha, rfl⟩ | ⟨ha, rfl⟩
  · refine ⟨_, ?_, .agg hlr⟩
    have hl : vs'.length = i.size := by
      rw [hlr.length, hlen, hs]; unfold szOf; rw [ha]
    have h1 := run_loadCells_list (P := P) (w := w) ⟨k, o, none⟩ vs' (fun j u hj => by rw [add_plain]; exact hc j u hj)
    rw [hl] at h1
    unfold loadVar
    simp [hagg, ha, sizeOf, typeInfo, hi, h1]
  · cases hlr with
    | cons hv' hn =>
      cases hn
      refine ⟨_, ?_, hv'⟩
      have h1 := hc 0 _ rfl
      unfold loadVar
      simp [hagg, ha, load, Sem.run, Nat.add_zero] at h1 ⊢
      rw [h1]

theorem op_load_ok (hT : TabOk P tb) {t : TypeId} {x : Operand} (h : op_load tb ev t x s = some (r, s')) : OpOk P G ev ⟨d, .load t x, ty, pos, aft, g⟩ s r s' := by
  unfold op_load at h
  split at h
  · rename_i ti a ht hx
    split at h
    · rename_i vs s1 hl
      have hl := loadX_ok hl
      split at h
      · rename_i v hv
        cases h
        refine ⟨hl.tr, fun V ρ w ev' hw hG hvis hf hr he => ?_⟩
        obtain ⟨b', e1, e2, e3⟩ := (he x _ hx).ptr_inv
        have hV := hvis.rd hw hl.is hl.touch
        obtain ⟨k, vs', f1, f2, f3⟩ := hl.run G V ρ w hV hr
        rw [e1] at f1
        cases f1
        obtain ⟨v', g1, g2⟩ := loadVar_ok (hT.ty _ _ ht) hv hl.len f2 f3
        exact ⟨v', w, ρ, by simp [execOp, e3, Instr.loadAt, Instr.sureAddr, g1], g2, Out.idle hl.h hl.nx hr⟩
      · cases h
    · cases h
  · cases h

theorem op_store_ok (hT : TabOk P tb) {t : TypeId} {x y : Operand} (h : op_store tb ev t x y s = some (r, s')) : OpOk P G ev ⟨d, .store t x y, ty, pos, aft, g⟩ s r s' := by
  unfold op_store at h
  split at h
  · rename_i ti a v ht hx hy
    split at h
    · rename_i s1 hlen hst
      cases h
      have hst := storeX_ok hst
      obtain ⟨i, z, hi, hs, _⟩ := (hT.ty _ _ ht).info
      refine ⟨hst.tr, fun V ρ w ev' hw hG hvis hf hr he => ?_⟩
      obtain ⟨b', e1, e2, e3⟩ := (he x _ hx).ptr_inv
      have hV := hvis.wr hw hst.is hst.touch
      have hcl := (he y _ hy).cells
      obtain ⟨k, w', f1, f2, f3⟩ := hst.run P G V ρ w _ hV hr hcl
      rw [e1] at f1
      cases f1
      have hl : (ev' y).cells.size = i.size := by
        have := hcl.length
        rw [Array.length_toList] at this
        rw [this, hs, beq_iff.1 hlen]
      exact ⟨w', ρ, by simp [execOp, e3, Instr.storeAt, Instr.sureAddr, storeVar, sizeOf, typeInfo, hi, hl, f2], f3⟩
    · cases h
  · cases h

/-- A new block, as the model lays it. -/
theorem new_out {o : AO} {b : Nat} {o' : Obj} {V : Nat → Bool} {ρ : Ren} {w : World} (hn : NewOk s o b s') (hf : fresh ρ s s') (hG : G ≤ s.nx) (hr : Rel G ρ (res V s.h.get) w) (ho : OR ρ s.nx o o') :
    (upd ρ s.nx w.heap.size) b = some w.heap.size ∧ Out G V ρ s w (upd ρ s.nx w.heap.size) s' (w.alloc o') ∧ Sub ρ (upd ρ s.nx w.heap.size) := by
  have hnone : ρ s.nx = none := hf s.nx (Nat.le_refl _) (by rw [hn.nx]; omega)
  refine ⟨by rw [hn.eq]; exact upd_same _ _ _, Out.new hn hnone hG hr (fun k hk => heap_alloc_old w o' hk) (heap_alloc_new w o') ⟨rfl, rfl, rfl⟩ ho, upd_sub _ hnone⟩

theorem op_alloc_ok (hT : TabOk P tb) {t : TypeId} (h : op_alloc tb ev t s = some (r, s')) : OpOk P G ev ⟨d, .alloc t, ty, pos, aft, g⟩ s r s' := by
  unfold op_alloc at h
  split at h
  · rename_i ti ht
    split at h
    · rename_i b s1 hn
      cases h
      have hn := new_ok hn
      obtain ⟨i, z, hi, hs, _, hz, hc, _⟩ := (hT.ty _ _ ht).info
      refine ⟨hn.tr, fun V ρ w ev' hw hG hvis hf hr he => ?_⟩
      have hz' : z.cells = ⟨ti.zero⟩ := Array.toList_inj.1 hc
      obtain ⟨h1, h2, h3⟩ := new_out hn hf hG hr (o' := .cells ⟨ti.zero⟩ t) (.row (LR.of_ground (hT.ty _ _ ht).gr))
      exact ⟨_, _, _, by simp [execOp, Instr.alloc, zeroValue, typeInfo, hi, hz, newVar, newRow, hz'], .ptr h1, h2⟩
    · cases h
  · cases h

theorem op_box_ok {t : TypeId} {x : Operand} (h : op_box tb ev t x s = some (r, s')) : OpOk P G ev ⟨d, .box t x, ty, pos, aft, g⟩ s r s' := by
  unfold op_box at h
  split at h
  · rename_i v hx
    split at h
    · rename_i b s1 hn
      cases h
      have hn := new_ok hn
      refine ⟨hn.tr, fun V ρ w ev' hw hG hvis hf hr he => ?_⟩
      obtain ⟨h1, h2, h3⟩ := new_out hn hf hG hr (o' := .cells ⟨(ev' x).cells.toList⟩ t) (.row (he x v hx).cells)
      exact ⟨_, _, _, by simp [execOp, Instr.box, newVar, newRow], .ptr h1, h2⟩
    · cases h
  · cases h

theorem op_makeMap_ok {t : TypeId} (h : op_makeMap tb ev s = some (r, s')) : OpOk P G ev ⟨d, .makeMap t none, ty, pos, aft, g⟩ s r s' := by
  unfold op_makeMap at h
  split at h
  · rename_i b s1 hn
    cases h
    have hn := new_ok hn
    refine ⟨hn.tr, fun V ρ w ev' hw hG hvis hf hr he => ?_⟩
    obtain ⟨h1, h2, h3⟩ := new_out hn hf hG hr (o' := .map #[] 0) (.map .nil)
    exact ⟨_, _, _, by simp [execOp, Instr.makeMap], .map h1, h2⟩
  · cases h

theorem op_makeSlice_ok (hT : TabOk P tb) {t : TypeId} {x y : Operand} (h : op_makeSlice tb ev t x y s = some (r, s')) : OpOk P G ev ⟨d, .makeSlice t x y, ty, pos, aft, g⟩ s r s' := by
  unfold op_makeSlice at h
  split at h
  · rename_i ti k1 l k2 c ht hx hy
    have hk := (hT.ty _ _ ht).kind
    split at h
    · rename_i e hki
      rw [hki] at hk
      split at h
      · rename_i ei hei
        split at h
        · rename_i b s1 hlc hc hb hn
          cases h
          have hn := new_ok hn
          have hlc := ble_iff.1 hlc
          have hc := blt_iff.1 hc
          have hb := blt_iff.1 hb
          obtain ⟨i, z, hi, hs, hby, hz, hzc, _⟩ := (hT.ty _ _ hei).info
          have hzl := (hT.ty _ _ hei).len
          refine ⟨hn.tr, fun V ρ w ev' hw hG hvis hf hr he => ?_⟩
          have e1 := (he x _ hx).ground rfl
          have e2 := (he y _ hy).ground rfl
          have hz' : z.cells = ⟨ei.zero⟩ := Array.toList_inj.1 hzc
          obtain ⟨h1, h2, h3⟩ := new_out hn hf hG hr (o' := .cells ⟨rep ei.zero c⟩ e) (.row ((LR.of_ground (hT.ty _ _ hei).gr).rep c))
          have hzs : z.cells.size = ei.size := by rw [hz']; exact hzl
          have hcells : (Array.range (c * ei.size)).map (fun i => z.cells[i % z.cells.size]!) = ⟨rep ei.zero c⟩ := by
            have := range_rep z.cells c
            rw [hzs] at this ⊢
            rw [this, hzc]
          have hbc' : i.bytes * c ≤ 1000 * 100000 := Nat.mul_le_mul (by omega) (by omega)
          have hbc : (i.bytes : Int) * c ≤ 281474976710656 := by
            have : ((i.bytes * c : Nat) : Int) ≤ 281474976710656 := by omega
            rwa [Int.natCast_mul] at this
          have hrun := run_make (P := P) w t e i z hk hi hz k1 k2 l c (by omega) (by omega) hbc (by omega)
          simp only [Int.toNat_natCast, hs, madeCells, hcells] at hrun
          refine ⟨.slice (some ⟨w.heap.size, 0, none⟩) l c, w.alloc (.cells ⟨rep ei.zero c⟩ e), _, ?_, .slice h1 (.inl ⟨by unfold UNK; omega, rfl⟩), h2⟩
          simp only [Int.ofNat_eq_natCast] at e1 e2
          simp [execOp, e1, e2, hrun]
        · cases h
      · cases h
    · cases h
  · cases h

/-! ## Parts put together -/

theorem fold_splice (off : Nat) : ∀ (vs : List Value) (k : Nat) (cs : Array Value), off + k + vs.length ≤ cs.size →
    (vs.zipIdx k).foldl (fun cs (x : Value × Nat) => cs.setIfInBounds (off + x.2) x.1) cs = (cs.toList.take (off + k) ++ vs ++ cs.toList.drop (off + k + vs.length)).toArray
  | [], k, cs, h => by simp
  | v :: vs, k, cs, h => by
    rw [List.zipIdx_cons, List.foldl_cons, fold_splice off vs (k + 1) _ (by simp at h ⊢; omega)]
    congr 1
    have e := list_seg_step cs.toList (off + k) v vs (by simp at h ⊢; omega)
    simpa [Array.toList_setIfInBounds, Nat.add_assoc] using e

theorem evParts_ok {ρ : Ren} {ev' : Operand → Value} (he : EvR ρ ev ev') : ∀ {l : List (Nat × Operand)} {vs : List (Nat × Value)}, evParts ev l = some vs → ∃ us : List Value, l.map (fun p => (p.1, ev' p.2)) = (vs.map (·.1)).zip us ∧ LR ρ (vs.map (·.2)) us
  | [], vs, h => by simp only [evParts, Option.some.injEq] at h; subst h; exact ⟨[], rfl, .nil⟩
  | (i, x) :: l, vs, h => by
    simp only [evParts] at h
    split at h
    · rename_i v hv
      split at h
      · rename_i rr hr
        cases h
        obtain ⟨us, h1, h2⟩ := evParts_ok he hr
        exact ⟨ev' x :: us, by simp [h1], .cons (he x v hv) h2⟩
      · cases h
    · cases h

theorem fill_ok {ρ : Ren} {place place' : Nat → Option (Nat × Nat)} (hp : ∀ i o z, place i = some (o, z) → place' i = some (o, z)) : ∀ {vs : List (Nat × Value)} {us : List Value} {cells cells' out : List Value}, fillX place cells vs = some out → LR ρ cells cells' → LR ρ (vs.map (·.2)) us →
    ∃ out', Instr.fill place' ⟨cells'⟩ ((vs.map (·.1)).zip us) = some ⟨out'⟩ ∧ LR ρ out out'
  | [], us, cells, cells', out, h, hc, hu => by
    simp only [fillX, Option.some.injEq] at h
    subst h
    exact ⟨cells', by simp [Instr.fill], hc⟩
  | (i, v) :: vs, us, cells, cells', out, h, hc, hu => by
    cases hu with
    | cons hv hu =>
      rename_i u us
      simp only [fillX] at h
      split at h
      · cases h
      · rename_i off size hpl
        split at h
        · rename_i hsz
          split at h
          · rename_i c2 hsp
            obtain ⟨p1, p2⟩ := splice_eq _ _ _ _ hsp
            have hcl := hv.cells
            have hl1 := hcl.length
            have hl2 := hc.length
            have hsz' := beq_iff.1 hsz
            rw [Array.length_toList] at hl1
            have hd : LR ρ c2 (cells'.take off ++ u.cells.toList ++ cells'.drop (off + (cellsL v).length)) := by rw [p2]; exact ((hc.take _).append hcl).append (hc.drop _)
            obtain ⟨out', h1, h2⟩ := fill_ok hp h hd hu
            refine ⟨out', ?_, h2⟩
            simp only [List.map_cons, List.zip_cons_cons, Instr.fill, hp _ _ _ hpl]
            rw [if_neg (by simp [hl1, hsz']; omega)]
            have e : u.cells.zipIdx.foldl (fun cs (x : Value × Nat) => cs.setIfInBounds (off + x.2) x.1) (⟨cells'⟩ : Array Value) = ⟨cells'.take off ++ u.cells.toList ++ cells'.drop (off + (cellsL v).length)⟩ := by
              have := fold_splice off u.cells.toList 0 ⟨cells'⟩ (by simp [hl1]; omega)
              simp only [Nat.add_zero, Array.length_toList, hl1] at this
              rw [← Array.foldl_toList, Array.toList_zipIdx, this]
            have e' : (u.cells.zipIdx.foldl (fun cs x => match x with | (c, j) => cs.setIfInBounds (off + j) c) (⟨cells'⟩ : Array Value)) = ⟨cells'.take off ++ u.cells.toList ++ cells'.drop (off + (cellsL v).length)⟩ := e
            rw [e']
            exact h1
          · cases h
        · cases h

theorem map_parts (ev' : Operand → Value) (ps : Array (Nat × Operand)) : (ps.map fun (i, x) => (i, ev' x)).toList = ps.toList.map (fun p => (p.1, ev' p.2)) := by
  rw [Array.toList_map]

theorem op_build_ok (hT : TabOk P tb) {t : TypeId} {ps : Array (Nat × Operand)} (h : op_build tb ev t ps s = some (r, s')) : OpOk P G ev ⟨d, .build t ps, ty, pos, aft, g⟩ s r s' := by
  unfold op_build at h
  split at h
  · rename_i ti vs ht hps
    have hk := (hT.ty _ _ ht).kind
    obtain ⟨i, z, hi, hs, hby, hz, hzc, _⟩ := (hT.ty _ _ ht).info
    have hz' : z.cells = ⟨ti.zero⟩ := Array.toList_inj.1 hzc
    have hgr : ∀ ρ, LR ρ ti.zero ti.zero := fun ρ => LR.of_ground (hT.ty _ _ ht).gr
    split at h
    · rename_i fs hf
      rw [hf] at hk
      obtain ⟨fields, hu, hsz, hfs⟩ := hk
      split at h
      · rename_i cs hfill
        cases h
        refine OpOk.pure fun ρ w ev' he => ?_
        obtain ⟨us, h1, h2⟩ := evParts_ok he hps
        have hmm : fields.toList.mapM (fun f => (P.info? f.type).map fun i => (f.offset, i.size)) = some (fs.map fun x => (x.1, x.2.1)) := by
          refine mapM_some_of_get _ _ (by simp [hsz]) fun i f hf' => ?_
          have hlt : i < fs.length := by
            have := (List.getElem?_eq_some_iff.1 hf').1
            simp at this; omega
          obtain ⟨f', j, f1, f2, f3, f4, f5⟩ := hfs i _ _ _ (List.getElem?_eq_getElem hlt)
          have hff : f' = f := by
            have : fields[i]? = some f := by simpa using hf'
            rw [f1] at this; cases this; rfl
          subst hff
          rw [f3, f4]
          simp [hlt, f2, f5]
        have hpl2 : ∀ i o z, (match nth fs i with | some (o, z, _) => some (o, z) | none => none) = some (o, z) → (fs.map fun x => (x.1, x.2.1)).toArray[i]? = some (o, z) := by
          intro i o z h
          rw [nth_eq] at h
          split at h
          · rename_i o' z' ft hn
            cases h
            simp [hn]
          · cases h
        obtain ⟨out', f1, f2⟩ := fill_ok (place' := ((fs.map fun x => (x.1, x.2.1)).toArray[·]?)) hpl2 hfill (hgr ρ) h2
        refine ⟨.agg ⟨out'⟩, ?_, .agg f2⟩
        have hm := map_parts ev' ps
        rw [h1] at hm
        have hb : P.built t (ps.map fun (i, x) => (i, ev' x)).toList = some ⟨out'⟩ := by
          rw [hm]
          unfold Program.built
          simp only [hi, hu, hz, hmm, hz', f1]
        simp only [execOp, Sem.run_bind, run_build w t _ _ hb, Result.andThen_ok]
        simp
      · cases h
    · rename_i n e hf
      rw [hf] at hk
      split at h
      · rename_i ei hei
        obtain ⟨j, zj, hj, hjs, _⟩ := (hT.ty _ _ hei).info
        split at h
        · rename_i cs hfill
          cases h
          refine OpOk.pure fun ρ w ev' he => ?_
          obtain ⟨us, h1, h2⟩ := evParts_ok he hps
          obtain ⟨out', f1, f2⟩ := fill_ok (place' := fun i => some (i * ei.size, ei.size)) (fun _ _ _ h => h) hfill (hgr ρ) h2
          refine ⟨.agg ⟨out'⟩, ?_, .agg f2⟩
          have hm := map_parts ev' ps
          rw [h1] at hm
          have hb : P.built t (ps.map fun (i, x) => (i, ev' x)).toList = some ⟨out'⟩ := by
            rw [hm]
            unfold Program.built
            have hk' : P.underlying t = some (.array n e) := hk
            simp only [hi, hk', hz, hj, hjs, hz', f1]
          simp only [execOp, Sem.run_bind, run_build w t _ _ hb, Result.andThen_ok]
          simp
        · cases h
      · cases h
    · cases h
  · cases h

theorem op_buildSlice_ok (hT : TabOk P tb) {t : TypeId} {len : Nat} {ps : Array (Nat × Operand)} (h : op_buildSlice tb ev t len ps s = some (r, s')) : OpOk P G ev ⟨d, .buildSlice t len ps, ty, pos, aft, g⟩ s r s' := by
  unfold op_buildSlice at h
  split at h
  · rename_i ti vs ht hps
    have hk := (hT.ty _ _ ht).kind
    split at h
    · rename_i e hki
      rw [hki] at hk
      split at h
      · rename_i ei hei
        split at h
        · rename_i cs hlt hlen hfill
          split at h
          · rename_i b s1 hn
            cases h
            have hn := new_ok hn
            have hlt := blt_iff.1 hlt
            obtain ⟨i, z, hi, hs, hby, hz, hzc, _⟩ := (hT.ty _ _ hei).info
            have hzl := (hT.ty _ _ hei).len
            have hz' : z.cells = ⟨ei.zero⟩ := Array.toList_inj.1 hzc
            have hzs : z.cells.size = ei.size := by rw [hz']; exact hzl
            refine ⟨hn.tr, fun V ρ w ev' hw hG hvis hf hr he => ?_⟩
            obtain ⟨us, h1, h2⟩ := evParts_ok he hps
            obtain ⟨out', f1, f2⟩ := fill_ok (place' := fun i => some (i * ei.size, ei.size)) (fun _ _ _ h => h) hfill ((LR.of_ground (ρ := ρ) (hT.ty _ _ hei).gr).rep len) h2
            obtain ⟨g1, g2, g3⟩ := new_out hn hf hG hr (o' := .cells ⟨out'⟩ e) (.row f2)
            have hm := map_parts ev' ps
            rw [h1] at hm
            have hcells : (Array.range (len * ei.size)).map (fun i => z.cells[i % z.cells.size]!) = ⟨rep ei.zero len⟩ := by
              have := range_rep z.cells len
              rw [hzs] at this ⊢
              rw [this, hzc]
            have hcells0 : len * ei.size = 0 → (Array.range (len * ei.size)).map (fun i => (#[] : Array Value)[i % (#[] : Array Value).size]!) = ⟨rep ei.zero len⟩ := by
              intro h0
              apply Array.toList_inj.1
              rw [List.eq_nil_of_length_eq_zero (by rw [rep_length, hzl]; exact h0 : (rep ei.zero len).length = 0), h0]
              simp
            refine ⟨.slice (some ⟨w.heap.size, 0, none⟩) len len, w.alloc (.cells ⟨out'⟩ e), _, ?_, .slice g1 (.inl ⟨?_, rfl⟩), g2⟩
            · by_cases h0 : len * ei.size = 0
              · have hc := hcells0 h0
                simp [execOp, Instr.buildSlice, run_underlying hk, sizeOf, typeInfo, hi, hs, h0, newRow, newObj, Sem.run]
                rw [h1]
                have : (Array.range 0).map (fun i => (#[] : Array Value)[i % (#[] : Array Value).size]!) = ⟨rep ei.zero len⟩ := by rw [h0] at hc; exact hc
                simp at this
                rw [this, f1]
                simp [Sem.run]
              · simp [execOp, Instr.buildSlice, run_underlying hk, sizeOf, typeInfo, hi, hs, hz, zeroValue, h0, Nat.not_lt.2 (Nat.le_of_lt (Nat.lt_trans hlt (by omega : 16000000 < 16777216))), newRow, newObj, Sem.run]
                rw [h1, hcells, f1]
                simp [Sem.run]
            · exact Nat.lt_of_le_of_lt (ble_iff.1 hlen) (by unfold UNK; omega)
          · cases h
        · cases h
      · cases h
    · cases h
  · cases h

end
end Go.Proofs.YtnhcbfaomehaeaaGreatDoor.R1

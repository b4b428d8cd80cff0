/- More operations that look at no memory. -/
import Derived.Test.YtnhcbfaomehaeaaGreatDoorA5
namespace Go.Proofs.YtnhcbfaomehaeaaGreatDoor.R1
open Go
set_option linter.unusedVariables false
set_option linter.unusedSimpArgs false

section
variable {P : Program} {tb : Tab} {G : Nat} {ev : Ev} {s s' : St} {r : R} {d : Option Nat} {ty : TypeId} {pos : String} {aft : Array Edge} {g : Option (Nat × Bool)}

theorem op_unOp_ok {op : UnOp} {t : TypeId} {x : Operand} (h : op_unOp tb ev op x s = some (r, s')) : OpOk P G ev ⟨d, .unOp op t x, ty, pos, aft, g⟩ s r s' := by
  unfold op_unOp at h
  split at h
  · rename_i v hx
    split at h
    · rename_i hg
      obtain ⟨u, hu, rfl, rfl⟩ := valX_eq h
      obtain ⟨e1, e2⟩ := runG_eq hu
      refine OpOk.pure fun ρ w ev' he => ⟨u, ?_, VR.of_ground e2⟩
      have := (he x _ hx).ground hg
      simp only [execOp, this, e1]
      rfl
    · cases h
  · cases h

theorem und_of {t : TypeId} {ti : TI} (h : TyOk P t ti) : ∃ dd, P.underlying t = some dd ∧ (∀ w, (Go.isAgg t).run P w = .ok (isAgg ti.kind) w) ∧ ((∀ ms, dd ≠ .interface ms) ∨ ti.kind = .iface ∨ ti.kind = .other) := by
  have hk := h.kind
  cases hti : ti.kind <;> rw [hti] at hk <;> simp only [KOk] at hk
  case struct fs => obtain ⟨f, hk, _⟩ := hk; exact ⟨_, hk, fun w => by simp [Go.isAgg, run_underlying hk, isAgg], .inl (by intro ms e; cases e)⟩
  case iface => obtain ⟨f, hk⟩ := hk; exact ⟨_, hk, fun w => by simp [Go.isAgg, run_underlying hk, isAgg], .inr (.inl rfl)⟩
  case other =>
    obtain ⟨f, hk, hm⟩ := hk
    exact ⟨_, hk, fun w => by cases f <;> first | (exact hm.elim) | simp [Go.isAgg, run_underlying hk, isAgg], .inr (.inr rfl)⟩
  all_goals exact ⟨_, hk, fun w => by simp [Go.isAgg, run_underlying hk, isAgg], .inl (by intro ms e; cases e)⟩

theorem op_makeInterface_ok (hT : TabOk P tb) {t : TypeId} {x : Operand} (h : op_makeInterface tb ev t x s = some (r, s')) : OpOk P G ev ⟨d, .makeInterface t x, ty, pos, aft, g⟩ s r s' := by
  unfold op_makeInterface at h
  split at h
  · rename_i ti v ht hx
    obtain ⟨dd, hd, _, hi⟩ := und_of (hT.ty _ _ ht)
    split at h
    · cases h
    · cases h
    · rename_i h1 h2
      cases h
      refine OpOk.pure fun ρ w ev' he => ⟨_, ?_, .iface t (he x v hx)⟩
      rcases hi with hi | hi | hi
      · cases dd <;> first | (exact absurd rfl (hi _)) | simp [execOp, Instr.makeInterface, run_underlying hd]
      · exact absurd hi h1
      · exact absurd hi h2
  · cases h

theorem evs_ok {ρ : Ren} {ev' : Operand → Value} (he : EvR ρ ev ev') : ∀ {l : List Operand} {vs : List Value}, evs ev l = some vs → LR ρ vs (l.map ev')
  | [], vs, h => by simp only [evs, Option.some.injEq] at h; subst h; exact .nil
  | x :: l, vs, h => by
    simp only [evs] at h
    split at h
    · rename_i v hv
      split at h
      · rename_i r hr
        cases h
        exact .cons (he x v hv) (evs_ok he hr)
      · cases h
    · cases h
theorem map_arr {α β : Type} (f : α → β) (a : Array α) : a.map f = ⟨a.toList.map f⟩ := by
  apply Array.toList_inj.1; simp

theorem op_makeFunc_ok {f : FuncId} {fs cs : Array Operand} (h : op_makeFunc tb ev f fs cs s = some (r, s')) : OpOk P G ev ⟨d, .makeFunc (.func f) fs cs, ty, pos, aft, g⟩ s r s' := by
  unfold op_makeFunc at h
  split at h
  · rename_i a b ha hb
    cases h
    refine OpOk.pure fun ρ w ev' he => ⟨_, ?_, .func (evs_ok he ha) (evs_ok he hb)⟩
    simp only [execOp, Instr.makeFunc, map_arr]
    rfl
  · cases h

/-- A part of a value. -/
theorem part_ok {t : TypeId} {ti : TI} (h : TyOk P t ti) {ρ : Ren} {l l' vs : List Value} {o : Nat} {v : Value} (hl : LR ρ l l') (hc : cut l o (match isAgg ti.kind with | true => ti.size | false => 1) = some vs) (hv : wrapV ti vs = some v) (w : World) :
    ∃ v', (part t ⟨l'⟩ o).run P w = .ok v' w ∧ VR ρ v v' := by
  obtain ⟨dd, hd, hagg, _⟩ := und_of h
  obtain ⟨i, z, hi, hs, _⟩ := h.info
  have hr := hl.cut hc
  obtain ⟨e1, e2, e3⟩ := cut_eq hc
  unfold wrapV at hv
  unfold part
  split at hv
  · rename_i ha
    cases hv
    rw [ha] at e2 hr e3
    simp only at e2 hr e3
    refine ⟨_, ?_, .agg hr⟩
    simp only [Sem.run_bind, hagg, ha, Result.andThen_ok, if_true]
    simp [sizeOf, typeInfo, hi, hs]
  · rename_i ha
    split at hv
    · cases hv
      rw [ha] at e1 e2 hr e3
      simp only at e1 e2 hr e3
      have hget : l[o]? = some v := by
        have h0 : (l.drop o)[0]? = some v := by
          cases hd : l.drop o with
          | nil => rw [hd] at e1; simp at e1
          | cons u rest => rw [hd] at e1; simp at e1; rw [e1]; rfl
        rw [List.getElem?_drop] at h0
        exact h0
      obtain ⟨v', h1, h2⟩ := hl.get hget
      refine ⟨v', ?_, h2⟩
      simp only [Sem.run_bind, hagg, ha, Result.andThen_ok]
      have : (⟨l'⟩ : Array Value)[o]? = some v' := by simpa using h1
      simp [this]
    · cases hv

theorem op_field_ok (hT : TabOk P tb) {t : TypeId} {x : Operand} {i : Nat} (h : op_field tb ev t x i s = some (r, s')) : OpOk P G ev ⟨d, .field t x i, ty, pos, aft, g⟩ s r s' := by
  unfold op_field at h
  split at h
  · rename_i ti cs ht hx
    have hk := (hT.ty _ _ ht).kind
    split at h
    · rename_i fs hf
      rw [hf] at hk
      obtain ⟨fields, hu, hsz, hfs⟩ := hk
      split at h
      · rename_i o z ft hn
        rw [nth_eq] at hn
        obtain ⟨f, j, f1, f2, f3, f4, f5⟩ := hfs _ _ _ _ hn
        split at h
        · rename_i fi hfi
          split at h
          · rename_i vs hc
            obtain ⟨v, hv, rfl, rfl⟩ := valX_eq h
            refine OpOk.pure fun ρ w ev' he => ?_
            have hvr := he x _ hx
            cases hvr' : ev' x <;> rw [hvr'] at hvr <;> cases hvr
            rename_i hl
            obtain ⟨v', h1, h2⟩ := part_ok (hT.ty _ _ hfi) hl hc hv w
            refine ⟨v', ?_, h2⟩
            simp [execOp, hvr', Instr.field, run_underlying hu, f1, asAgg, f2, f3, h1]
          · cases h
        · cases h
      · cases h
    · cases h
  · cases h

theorem op_index_ok (hT : TabOk P tb) {t : TypeId} {x y : Operand} (h : op_index tb ev t x y s = some (r, s')) : OpOk P G ev ⟨d, .index t x y, ty, pos, aft, g⟩ s r s' := by
  unfold op_index at h
  split at h
  · rename_i ti v k i ht hx hy
    have hk := (hT.ty _ _ ht).kind
    split at h
    · rename_i b hki
      rw [hki] at hk
      split at h
      · rename_i u hu
        cases h
        refine OpOk.pure fun ρ w ev' he => ⟨_, ?_, VR.of_ground rfl⟩
        have e1 := (he x _ hx).ground rfl
        have e2 := (he y _ hy).ground rfl
        rw [nth_eq] at hu
        have hu' : b[i]? = some u := by
          have hb : b.data[i]? = some u := by simpa using hu
          obtain ⟨hlt, hget⟩ := Array.getElem?_eq_some_iff.1 hb
          have hlt' : i < b.size := hlt
          rw [getElem?_pos b i hlt']
          exact congrArg some hget
        simp [execOp, e1, e2, Instr.index, asIntOf, run_underlying hk, hu']
      · cases h
    · rename_i n e cs hki
      rw [hki] at hk
      split at h
      · rename_i ei he' hlt
        split at h
        · rename_i vs hc
          obtain ⟨v, hv, rfl, rfl⟩ := valX_eq h
          refine OpOk.pure fun ρ w ev' he => ?_
          have hvr := he x _ hx
          have e2 := (he y _ hy).ground rfl
          cases hvr' : ev' x <;> rw [hvr'] at hvr <;> cases hvr
          rename_i hl
          obtain ⟨j, z, hj, hjs, _⟩ := (hT.ty _ _ he').info
          obtain ⟨v', h1, h2⟩ := part_ok (hT.ty _ _ he') hl hc hv w
          refine ⟨v', ?_, h2⟩
          have := blt_iff.1 hlt
          simp [execOp, hvr', e2, Instr.index, asIntOf, run_underlying hk, this, sizeOf, typeInfo, hj, hjs, h1]
        · cases h
      · cases h
    · cases h
  · cases h

theorem op_fieldAddr_ok (hT : TabOk P tb) {t : TypeId} {x : Operand} {i : Nat} (h : op_fieldAddr tb ev t x i s = some (r, s')) : OpOk P G ev ⟨d, .fieldAddr t x i, ty, pos, aft, g⟩ s r s' := by
  unfold op_fieldAddr at h
  split at h
  · rename_i ti a ht hx
    have hk := (hT.ty _ _ ht).kind
    split at h
    · rename_i fs hf
      rw [hf] at hk
      obtain ⟨fields, hu, hsz, hfs⟩ := hk
      split at h
      · rename_i o z ft hn
        rw [nth_eq] at hn
        obtain ⟨f, j, f1, f2, f3, f4, f5⟩ := hfs _ _ _ _ hn
        split at h
        · cases h
        · rename_i hz
          cases h
          refine OpOk.pure fun ρ w ev' he => ?_
          obtain ⟨b', e1, e2, e3⟩ := (he x _ hx).ptr_inv
          refine ⟨_, ?_, .ptr e1⟩
          have hz' : j.size ≠ 0 := by rw [f5]; exact beq_false hz
          simp [execOp, e3, Instr.fieldAt, run_underlying hu, f1, Instr.sureAddr, fieldPlace, f2, f3, sizeOf, typeInfo, f4, hz', add_plain]
      · cases h
    · cases h
  · cases h

theorem op_indexAddr_ok (hT : TabOk P tb) {t : TypeId} {x y : Operand} (h : op_indexAddr tb ev t x y s = some (r, s')) : OpOk P G ev ⟨d, .indexAddr t x y, ty, pos, aft, g⟩ s r s' := by
  unfold op_indexAddr at h
  split at h
  · rename_i ti v k i ht hx hy
    have hk := (hT.ty _ _ ht).kind
    split at h
    · rename_i e a n c hki
      rw [hki] at hk
      split at h
      · rename_i ei he' hlt
        cases h
        obtain ⟨j, z, hj, hjs, _⟩ := (hT.ty _ _ he').info
        have hlt' := blt_iff.1 hlt
        refine OpOk.pure fun ρ w ev' he => ?_
        have hvr := he x _ hx
        have e2 := (he y _ hy).ground rfl
        cases hvr' : ev' x <;> rw [hvr'] at hvr <;> cases hvr
        · rename_i e1 _
          refine ⟨_, ?_, .ptr e1⟩
          simp [execOp, hvr', e2, Instr.indexAt, asIntOf, run_underlying hk, sizeOf, typeInfo, hj, hjs, hlt', add_plain]
        · omega
      · cases h
    · rename_i n e a hki
      rw [hki] at hk
      split at h
      · rename_i ei he' hlt
        cases h
        obtain ⟨j, z, hj, hjs, _⟩ := (hT.ty _ _ he').info
        have hlt' := blt_iff.1 hlt
        refine OpOk.pure fun ρ w ev' he => ?_
        obtain ⟨b', e1, e2, e3⟩ := (he x _ hx).ptr_inv
        have e4 := (he y _ hy).ground rfl
        refine ⟨_, ?_, .ptr e1⟩
        simp [execOp, e3, e4, Instr.indexAt, asIntOf, run_underlying hk, Instr.sureAddr, sizeOf, typeInfo, hj, hjs, hlt', add_plain]
      · cases h
    · cases h
  · cases h

theorem op_extract_ok {x : Operand} {i : Nat} (h : op_extract tb ev x i s = some (r, s')) : OpOk P G ev ⟨d, .extract x i, ty, pos, aft, g⟩ s r s' := by
  unfold op_extract at h
  split at h
  · rename_i vs hx
    obtain ⟨v, hv, rfl, rfl⟩ := valX_eq h
    rw [nth_eq] at hv
    refine OpOk.pure fun ρ w ev' he => ?_
    have hvr := he x _ hx
    cases hvr' : ev' x <;> rw [hvr'] at hvr <;> cases hvr
    rename_i l' hl
    obtain ⟨v', h1, h2⟩ := hl.get hv
    refine ⟨v', ?_, h2⟩
    have : (⟨l'⟩ : Array Value)[i]? = some v' := by simpa using h1
    simp [execOp, hvr', Instr.extract, this]
  · cases h

theorem wrap_zero {t : TypeId} {ti : TI} (h : TyOk P t ti) {z : Value} (hz : wrapV ti ti.zero = some z) : (∃ i, P.info? t = some i ∧ i.zero = some z) ∧ ∀ ρ, VR ρ z z := by
  obtain ⟨i, z', hi, _, _, h1, _, h2, h3⟩ := h.info
  unfold wrapV at hz
  split at hz
  · rename_i ha
    cases hz
    rw [h2 ha] at h1
    exact ⟨⟨i, hi, h1⟩, fun ρ => .agg (LR.of_ground h.gr)⟩
  · rename_i ha
    split at hz
    · rename_i v hv
      cases hz
      have h4 := h3 ha
      rw [hv] at h4
      cases h4
      refine ⟨⟨i, hi, h1⟩, fun ρ => VR.of_ground ?_⟩
      have := h.gr
      rw [hv] at this
      simp only [allL] at this
      split at this
      · assumption
      · cases this
    · cases hz

theorem op_typeAssert_ok (hT : TabOk P tb) {t xt : TypeId} {x : Operand} (h : op_typeAssert tb ev x t s = some (r, s')) : OpOk P G ev ⟨d, .typeAssert x xt t true, ty, pos, aft, g⟩ s r s' := by
  unfold op_typeAssert at h
  split at h
  · rename_i ti u v ht hx
    obtain ⟨dd, hd, _, hi⟩ := und_of (hT.ty _ _ ht)
    split at h
    · cases h
    · cases h
    · rename_i h1 h2
      have hni : ∀ ms, dd ≠ .interface ms := by
        rcases hi with hi | hi | hi
        · exact hi
        · exact absurd hi h1
        · exact absurd hi h2
      split at h
      · rename_i hb
        cases h
        have hb' := beq_iff.1 hb
        subst hb'
        refine OpOk.pure fun ρ w ev' he => ?_
        have hvr := he x _ hx
        cases hvr' : ev' x <;> rw [hvr'] at hvr <;> cases hvr
        rename_i v' hv
        refine ⟨.tuple ⟨[v', .bool true]⟩, ?_, .tuple (.cons hv (.cons (.bool true) .nil))⟩
        cases dd <;> first | (exact absurd rfl (hni _)) | simp [execOp, hvr', Instr.typeAssert, run_underlying hd]
      · rename_i hb
        have hb' := beq_false hb
        split at h
        · rename_i z hz
          cases h
          obtain ⟨⟨i, hi1, hi2⟩, hzv⟩ := wrap_zero (hT.ty _ _ ht) hz
          refine OpOk.pure fun ρ w ev' he => ?_
          have hvr := he x _ hx
          cases hvr' : ev' x <;> rw [hvr'] at hvr <;> cases hvr
          rename_i v' hv
          refine ⟨.tuple ⟨[z, .bool false]⟩, ?_, .tuple (.cons (hzv ρ) (.cons (.bool false) .nil))⟩
          cases dd <;> first | (exact absurd rfl (hni _)) | simp [execOp, hvr', Instr.typeAssert, run_underlying hd, hb', zeroValue, typeInfo, hi1, hi2]
        · cases h
  · cases h

end
end Go.Proofs.YtnhcbfaomehaeaaGreatDoor.R1

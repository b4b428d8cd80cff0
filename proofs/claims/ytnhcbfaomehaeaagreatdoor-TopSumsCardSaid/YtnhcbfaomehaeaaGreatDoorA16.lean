/- Calls; every operation. -/
import Derived.Test.YtnhcbfaomehaeaaGreatDoorA15
namespace Go.Proofs.YtnhcbfaomehaeaaGreatDoor.R1
open Go
set_option linter.unusedVariables false
set_option linter.unusedSimpArgs false

section
variable {P : Program} {tb : Tab} {G : Nat} {ev : Ev} {s s' : St} {r : R} {d : Option Nat} {ty : TypeId} {pos : String} {aft : Array Edge} {g : Option (Nat × Bool)}

/-- A function value is called. -/
theorem callX_ok (hT : TabOk P tb) {f : Value} {args : List Value} (h : callX tb f args s = some (r, s')) :
    Tr s s' ∧ ∀ V ρ w f' args', Wf s → G ≤ s.nx → vis V s s' → fresh ρ s s' → Rel G ρ (res V s.h.get) w → VR ρ f f' → LR ρ args args' →
      OpPost P G V ρ s w s' r (do let d ← Deferred.ofValue f' ⟨args'⟩; invoke d.target d.args) := by
  unfold callX at h
  split at h
  · rename_i f0 first captured
    have hbody : (∀ (args : Array Value) (w : World), (callFunc f0 args).run P w = .ok (.enter f0 args) w) → some (R.enter f0 (first.toList ++ args ++ captured.toList), s) = some (r, s') →
        Tr s s' ∧ ∀ V ρ w f' args', Wf s → G ≤ s.nx → vis V s s' → fresh ρ s s' → Rel G ρ (res V s.h.get) w → VR ρ (.func (.func f0) first captured) f' → LR ρ args args' →
          OpPost P G V ρ s w s' r (do let d ← Deferred.ofValue f' ⟨args'⟩; invoke d.target d.args) := by
      intro henter h
      cases h
      refine ⟨Tr.refl _, fun V ρ w f' args' hw hG hv hf hr hfv hl => ?_⟩
      cases hfv with
      | func h1 h2 =>
        rename_i l l' m m'
        refine ⟨l' ++ args' ++ m', w, ρ, ?_, (h1.append hl).append h2, Out.idle rfl rfl hr⟩
        simp only [Deferred.ofValue, Sem.run_bind, Sem.run_pure, Result.andThen_ok, invoke, henter]
        congr 2
        apply Array.toList_inj.1
        simp
    split at h
    · rename_i n rs c hfn
      exact hbody (hT.fn _ _ hfn).2 h
    · rename_i x hfn
      exact hbody (hT.fn _ _ hfn) h
    · rename_i x e hfn
      split at h
      · rename_i v s1 hx
        cases h
        obtain ⟨tr, hrun⟩ := extX_ok (P := P) (G := G) (f := f0) (hT.fn _ _ hfn) hx
        refine ⟨tr, fun V ρ w f' args' hw hG hv hf hr hfv hl => ?_⟩
        cases hfv with
        | func h1 h2 =>
          rename_i l l' m m'
          obtain ⟨v', w', ρ', g1, g2, g3⟩ := hrun V ρ w _ hw hG hv hf hr ((h1.append hl).append h2)
          refine ⟨v', w', ρ', ?_, g2, g3⟩
          simp only [Deferred.ofValue, Sem.run_bind, Sem.run_pure, Result.andThen_ok, invoke]
          rw [← g1]
          congr 2
          apply Array.toList_inj.1
          simp
      · cases h
    · cases h
  · rename_i l
    cases h
    refine ⟨Tr.refl _, fun V ρ w f' args' hw hG hv hf hr hfv hl => ?_⟩
    cases hfv with
    | yield h1 =>
      refine ⟨_, args', h1, hl, rfl, ?_⟩
      simp only [Deferred.ofValue, Sem.run_bind, Sem.run_pure, Result.andThen_ok, invoke]
      congr 2
      apply Array.toList_inj.1
      simp
  · cases h

theorem evs_arr {ρ : Ren} {ev' : Operand → Value} (he : EvR ρ ev ev') {l : Array Operand} {vs : List Value} (h : evs ev l.toList = some vs) : l.map ev' = ⟨l.toList.map ev'⟩ ∧ LR ρ vs (l.toList.map ev') :=
  ⟨map_arr _ _, evs_ok he h⟩

theorem op_value_ok (hT : TabOk P tb) {f : Operand} {args : Array Operand} {ats : Array TypeId} (h : op_value tb ev f args s = some (r, s')) : OpOk P G ev ⟨d, .call { callee := .value f, args := args, argTypes := ats }, ty, pos, aft, g⟩ s r s' := by
  unfold op_value at h
  split at h
  · rename_i fv vs hf hvs
    obtain ⟨tr, hrun⟩ := callX_ok (G := G) hT h
    refine ⟨tr, fun V ρ w ev' hw hG hv hfr hr he => ?_⟩
    obtain ⟨h1, h2⟩ := evs_arr he hvs
    have := hrun V ρ w _ _ hw hG hv hfr hr (he f fv hf) h2
    rw [← h1] at this
    exact this
  · cases h

theorem methX_mem {l : List (TypeId × String × FuncId × Option TypeId)} {t : TypeId} {n : String} {f : FuncId} {dd : Option TypeId} (h : methX l t n = some (f, dd)) : (t, n, f, dd) ∈ l := by
  induction l with
  | nil => cases h
  | cons q l ih =>
    obtain ⟨t', n', f', d'⟩ := q
    simp only [methX] at h
    split at h
    · rename_i ht
      have ht := beq_iff.1 ht
      subst ht
      split at h
      · rename_i hn
        have hn := of_decide_eq_true hn
        subst hn
        cases h
        exact List.mem_cons_self
      · exact List.mem_cons_of_mem _ (ih h)
    · exact List.mem_cons_of_mem _ (ih h)

theorem op_invoke_ok (hT : TabOk P tb) {x : Operand} {name : String} {args : Array Operand} {ats : Array TypeId} (h : op_invoke tb ev x name args s = some (r, s')) : OpOk P G ev ⟨d, .call { callee := .invoke x name, args := args, argTypes := ats }, ty, pos, aft, g⟩ s r s' := by
  unfold op_invoke at h
  split at h
  · rename_i t v vs hx hvs
    have hcall : ∀ (ev' : Operand → Value) (w : World) (v' : Value), ev' x = .iface t v' → (execOp ev' ⟨d, .call { callee := .invoke x name, args := args, argTypes := ats }, ty, pos, aft, g⟩).run P w = (callMethod (.iface t v') name ⟨args.toList.map ev'⟩).run P w := by
      intro ev' w v' hv'
      have hm : args.map ev' = ⟨args.toList.map ev'⟩ := map_arr _ _
      have h4 : ∀ L : List Value, (#[Value.iface t v'] ++ (⟨L⟩ : Array Value)).extract 1 (#[Value.iface t v'] ++ (⟨L⟩ : Array Value)).size = ⟨L⟩ := fun L => by
        apply Array.toList_inj.1
        simp
      have h5 : ∀ L : List Value, (#[Value.iface t v'] ++ (⟨L⟩ : Array Value))[0]? = some (.iface t v') := fun L => by simp
      simp only [execOp, resolve, Sem.run_bind, Sem.run_pure, Result.andThen_ok, hm, hv', invoke, h5, h4]
    split at h
    · rename_i f hm
      cases h
      have hmm := hT.meth _ _ _ _ (methX_mem hm)
      refine ⟨Tr.refl _, fun V ρ w ev' hw hG hv hf hr he => ?_⟩
      have hvr := he x _ hx
      cases hvr' : ev' x <;> rw [hvr'] at hvr <;> cases hvr
      rename_i v' hv'
      refine ⟨v' :: args.toList.map ev', w, ρ, ?_, .cons hv' (evs_ok he hvs), Out.idle rfl rfl hr⟩
      rw [hcall ev' w v' hvr']
      exact hmm v' _ w
    · rename_i f e hm
      have hmm := hT.meth _ _ _ _ (methX_mem hm)
      split at h
      · rename_i ti a hti
        split at h
        · rename_i us s1 hl
          have hl := loadX_ok hl
          split at h
          · rename_i u hu
            cases h
            refine ⟨hl.tr, fun V ρ w ev' hw hG hv hf hr he => ?_⟩
            have hvr := he x _ hx
            cases hvr' : ev' x <;> rw [hvr'] at hvr <;> cases hvr
            rename_i v' hv'
            obtain ⟨b', e1, e2, rfl⟩ := hv'.ptr_inv
            have hV := hv.rd hw hl.is hl.touch
            obtain ⟨k, vs', f1, f2, f3⟩ := hl.run G V ρ w hV hr
            rw [e1] at f1; cases f1
            obtain ⟨u', g1, g2⟩ := loadVar_ok (hT.ty _ _ hti) hu hl.len f2 f3
            refine ⟨u' :: args.toList.map ev', w, ρ, ?_, .cons g2 (evs_ok he hvs), Out.idle hl.h hl.nx hr⟩
            rw [hcall ev' w _ hvr']
            exact hmm _ _ w u' g1
          · cases h
        · cases h
      · cases h
    · cases h
  · cases h

theorem builtinX_ok (hT : TabOk P tb) {b : Builtin} {ats : List TypeId} {ty : TypeId} {args : List Value} {v : Value} (h : builtinX tb b ats ty args s = some (v, s')) : BOk P G b ats ty args s v s' := by
  cases b
  case len => exact len_ok hT h
  case cap => exact cap_ok hT h
  case append => exact append_ok hT h
  case copy => exact copy_ok hT h
  case clear => exact clear_ok hT h
  case delete => exact delete_ok hT h
  case max => exact minmax_ok (.inl rfl) h
  case min => exact minmax_ok (.inr rfl) h
  case unsafeSliceData => exact sliceData_ok h
  case unsafeString => exact unsafeString_ok hT h
  all_goals (unfold builtinX at h; split at h <;> contradiction)

theorem op_builtin_ok (hT : TabOk P tb) {b : Builtin} {args : Array Operand} {ats : Array TypeId} (h : op_builtin tb ev b args ats ty s = some (r, s')) : OpOk P G ev ⟨d, .call { callee := .builtin b, args := args, argTypes := ats }, ty, pos, aft, g⟩ s r s' := by
  unfold op_builtin at h
  split at h
  · rename_i vs hvs
    obtain ⟨v, hv, rfl⟩ := valsX_eq h
    obtain ⟨tr, hrun⟩ := builtinX_ok (G := G) hT hv
    refine ⟨tr, fun V ρ w ev' hw hG hvis hf hr he => ?_⟩
    obtain ⟨h1, h2⟩ := evs_arr he hvs
    obtain ⟨v', w', ρ', g1, g2, g3⟩ := hrun V ρ w _ hw hG hvis hf hr h2 (args.map fun | .const _ => true | _ => false)
    refine ⟨v', w', ρ', ?_, g2, g3⟩
    rw [← h1] at g1
    simp only [execOp, resolve, Sem.run_bind, Sem.run_pure, Result.andThen_ok, invoke]
    exact g1
  · cases h

/-- EVERY OPERATION OF THE EXECUTOR IS RIGHT. -/
theorem opX_ok (hT : TabOk P tb) {o : Oper} (h : opX tb ev o s = some (r, s')) : OpOk P G ev o s r s' := by
  obtain ⟨dst, op, type, pos, after, guard⟩ := o
  unfold opX at h
  simp only at h
  split at h
  · exact (op_move_ok h).1
  · exact (op_move_ok h).2
  · exact op_pick_ok h
  · exact op_alloc_ok hT h
  · exact op_box_ok h
  · exact op_build_ok hT h
  · exact op_buildSlice_ok hT h
  · exact op_load_ok hT h
  · exact op_store_ok hT h
  · exact op_nilCheck_ok h
  · exact op_binOp_ok hT h
  · exact op_unOp_ok h
  · exact op_convert_ok hT h
  · exact op_makeInterface_ok hT h
  · exact op_makeFunc_ok h
  · exact op_makeMap_ok h
  · exact op_makeSlice_ok hT h
  · exact op_slice_ok hT h
  · exact op_fieldAddr_ok hT h
  · exact op_field_ok hT h
  · exact op_indexAddr_ok hT h
  · exact op_index_ok hT h
  · exact op_lookup_ok hT h
  · exact (op_mapUpdate_ok hT h).1
  · exact (op_mapUpdate_ok hT h).2
  · exact op_range_ok hT h
  · exact op_next_ok h
  · exact op_entry_ok h
  · exact op_typeAssert_ok hT h
  · exact op_extract_ok h
  · exact op_builtin_ok hT h
  · exact op_value_ok hT h
  · exact op_invoke_ok hT h
  · cases h

end
end Go.Proofs.YtnhcbfaomehaeaaGreatDoor.R1

/- The table of phases, whatever order its entries come in: the region and the function. -/
import Derived.Test.YtnhcbfaomehaeaaGreatDoorC5
import Derived.Carry
namespace Go.Proofs.YtnhcbfaomehaeaaGreatDoor.R1
open Go
set_option linter.unusedVariables false
set_option linter.unusedSimpArgs false
set_option maxRecDepth 100000

/-- Any order: an invariant that each operation keeps whenever it comes up. -/
theorem any_run {P : Program} {ops : Array Oper} (hE : ∀ (i : Nat) (o : Oper), ops[i]? = some o → ∀ e ∈ o.after, Region.binds .any e = true → e.on < i) {Inv : Array Bool → Act → World → Prop} {F : Fence} {Q : Exit → Act → World → Prop}
    (hs : ∀ l a w, Inv l a w → l.size = ops.size)
    (hstep : ∀ l a w i o, Inv l a w → ops[i]? = some o → i < ops.size → ¬ Lst l i → (∀ e ∈ o.after, Region.binds .any e = true → Lst l e.on) → wpOpIn F 0 P ops Q i (fun a' w' => Inv (l.setIfInBounds i true) a' w') a w)
    (hQ : ∀ l a w, Inv l a w → (∀ i, i < ops.size → Lst l i) → Q .normal a w) :
    ∀ (fuel : Nat) (l : Array Bool) (a : Act) (w : World), Inv l a w → unl l (List.range ops.size) ≤ fuel → wpAnyIn F 0 P .any ops Q fuel l a w := by
  intro fuel
  induction fuel with
  | zero =>
    intro l a w hI hu
    have hall : ∀ i, i < ops.size → Lst l i := fun i hi => unl_zero (by omega) hi
    refine ⟨?_, hQ l a w hI hall⟩
    cases hr : Region.ready .any ops l with
    | nil => rfl
    | cons x xs =>
      obtain ⟨o, ho, hi, hn, _⟩ := ready_spec (hs l a w hI) (i := x) (by rw [hr]; exact List.mem_cons_self)
      exact absurd (hall x hi) hn
  | succ fuel ih =>
    intro l a w hI hu
    refine ⟨fun hr => hQ l a w hI fun i hi => ?_, fun i hir => ?_⟩
    · exact Classical.byContradiction fun hn => ready_ex hE (hs l a w hI) i hi hn hr
    · obtain ⟨o, ho, hi, hn, ha⟩ := ready_spec (hs l a w hI) hir
      refine wpOpIn_mono (fun a' w' h' => ih _ a' w' h' ?_) (hstep l a w i o hI ho hi hn ha)
      have := unl_set (by rw [hs l a w hI]; exact hi) hn (List.range ops.size) List.nodup_range (List.mem_range.2 hi)
      omega

section one
variable {P : Program} {ops : Array Oper} {i : Nat} {o : Oper} {a : Act} {w w' : World} {v : Value} {K : Act → World → Prop} {Q : Exit → Act → World → Prop}
theorem wpOp_val (ho : ops[i]? = some o) (hg : o.guard = none) (hd : ∀ c, o.op ≠ .defer c) (h : (execOp a.eval o).run P w = .ok (.value v) w') (hK : K (a.put o.dst v) w') : wpOpIn (FF none) 0 P ops Q i K a w := by
  unfold wpOpIn
  simp only [ho]
  have base : o.semAt (FF none).round a.eval = execOp a.eval o := Oper.semAt_eq _ _ o hd
  rw [if_pos (by unfold Region.wanted; rw [hg])]
  refine ⟨fun _ _ => trivial, ?_⟩
  rw [base, h]
  exact hK
theorem wpOp_skip (ho : ops[i]? = some o) (hg : o.guard = none) (hd : ∀ c, o.op ≠ .defer c) (h : (execOp a.eval o).run P w = .ok .skip w') (hK : K (a.put o.dst undef) w') : wpOpIn (FF none) 0 P ops Q i K a w := by
  unfold wpOpIn
  simp only [ho]
  have base : o.semAt (FF none).round a.eval = execOp a.eval o := Oper.semAt_eq _ _ o hd
  rw [if_pos (by unfold Region.wanted; rw [hg])]
  refine ⟨fun _ _ => trivial, ?_⟩
  rw [base, h]
  exact hK
end one

/-! ## The region -/

noncomputable def phOps : Array Oper := match Tryz.f239.body with
  | some (.seq _ (.seq (.region _ ops _) _)) => ops
  | _ => #[]
noncomputable def ph0 : Array Oper := match Tryz.f239.body with
  | some (.seq (.region _ ops _) _) => ops
  | _ => #[]
theorem phBody : Tryz.f239.body = some (.seq (.region 0 ph0 false) (.seq (.region 1 phOps true) .ret)) := by kernel_rfl
theorem phSize : phOps.size = 23 := by kernel_rfl
noncomputable def phEdges : Bool := (List.range 23).all fun i => match phOps[i]? with
  | some o => o.after.toList.all fun e => Nat.blt e.on i
  | none => true
theorem phEdges_ok : phEdges = true := by kernel_rfl
theorem phE (i : Nat) (o : Oper) (ho : phOps[i]? = some o) (e : Edge) (he : e ∈ o.after) : e.on < i := by
  have hi : i < 23 := by rw [← phSize]; exact (Array.getElem?_eq_some_iff.1 ho).1
  have h := List.all_eq_true.1 phEdges_ok i (List.mem_range.2 hi)
  rw [ho] at h
  exact blt_iff.1 (List.all_eq_true.1 h e (by simpa using he))

theorem op0 : ∃ ty pos aft, phOps[0]? = some ⟨some 1, .makeMap 369 none, ty, pos, aft, none⟩ := ⟨_, _, _, rfl⟩
theorem opB (j : Nat) (x : Int × Int × Int) (h : phL[j]? = some x) : ∃ ty pos aft, phOps[2 * j + 1]? = some ⟨some (j + 2), .build 372 #[(0, .const (.int .i64 x.1)), (1, .const (.int .i64 x.2.1))], ty, pos, aft, none⟩ := by
  rcases j with _ | _ | _ | _ | _ | _ | _ | _ | _ | _ | j
  all_goals first
    | (cases h; exact ⟨_, _, _, rfl⟩)
    | (simp [phL] at h)
theorem opI (j : Nat) (x : Int × Int × Int) (h : phL[j]? = some x) : ∃ ty pos, phOps[2 * j + 2]? = some ⟨none, .insert 369 (.tmp 1) (.tmp (j + 2)) (.const (.int .i64 x.2.2)), ty, pos, #[⟨0, .data⟩, ⟨2 * j + 1, .data⟩], none⟩ := by
  rcases j with _ | _ | _ | _ | _ | _ | _ | _ | _ | _ | j
  all_goals first
    | (cases h; exact ⟨_, _, rfl⟩)
    | (simp [phL] at h)
theorem op21 : ∃ ty pos aft, phOps[21]? = some ⟨some 12, .move (.tmp 1), ty, pos, aft, none⟩ ∧ (⟨0, .data⟩ : Edge) ∈ aft := ⟨_, _, _, rfl, by simp⟩
theorem op22 : ∃ ty pos aft, phOps[22]? = some ⟨some 0, .assign (.tmp 12), ty, pos, aft, none⟩ ∧ (⟨21, .data⟩ : Edge) ∈ aft := ⟨_, _, _, rfl, by simp⟩
theorem bindsData (k : Nat) : Region.binds .any ⟨k, .data⟩ = true := rfl

theorem built372 (p e : Int) : Tryz.prog.built 372 [(0, .int .i64 p), (1, .int .i64 e)] = some #[.int .i64 p, .int .i64 e] := by kernel_rfl
theorem build_run (ev : Operand → Value) (hc : ∀ v, ev (.const v) = v) (p e : Int) (d : Option Nat) (ty : TypeId) (pos : String) (aft : Array Edge) (g : Option (Nat × Bool)) (w : World) : (execOp ev ⟨d, .build 372 #[(0, .const (.int .i64 p)), (1, .const (.int .i64 e))], ty, pos, aft, g⟩).run Tryz.prog w = .ok (.value (pKey p e)) w := by
  have hb := built372 p e
  have hm : ((#[(0, .const (.int .i64 p)), (1, .const (.int .i64 e))] : Array (Nat × Operand)).map fun (i, x) => (i, ev x)) = #[(0, .int .i64 p), (1, .int .i64 e)] := by simp [hc]
  simp only [execOp, Sem.run_bind, hm, run_build w 372 #[(0, .int .i64 p), (1, .int .i64 e)] _ hb, Result.andThen_ok]
  rfl

structure PInv (w0 : World) (l : Array Bool) (a : Act) (w : World) : Prop where
  size : l.size = 23
  closed : Closed phOps l
  len : a.tmps.size = 13
  defers : a.defers = []
  old : ∀ k, k < w0.heap.size → w.heap[k]? = w0.heap[k]?
  same : w.tape = w0.tape ∧ w.os = w0.os ∧ w.output = w0.output
  none0 : ¬ Lst l 0 → w.heap.size = w0.heap.size
  map : Lst l 0 → w.heap.size = w0.heap.size + 1 ∧ a.tmps[1]? = some (.map (some w0.heap.size)) ∧ ∃ es clock m, w.heap[w0.heap.size]? = some (.map ⟨es⟩ clock) ∧ MapIs es m ∧
    (∀ x ∈ m, ∃ j, Lst l (2 * j + 2) ∧ phL[j]? = some x) ∧ ∀ (j : Nat) x, phL[j]? = some x → Lst l (2 * j + 2) → x ∈ m
  key : ∀ (j : Nat) x, phL[j]? = some x → Lst l (2 * j + 1) → a.tmps[j + 2]? = some (pKey x.1 x.2.1)
  mv : Lst l 21 → a.tmps[12]? = some (.map (some w0.heap.size))
  fin : Lst l 22 → a.tmps[0]? = some (.map (some w0.heap.size))

theorem put_other {a : Act} {d t : Nat} {v : Value} (h : d ≠ t) : (a.put (some d) v).tmps[t]? = a.tmps[t]? := by
  simp only [Act.put]
  rw [Array.getElem?_setIfInBounds_ne h]
theorem put_same {a : Act} {d : Nat} {v : Value} (h : d < a.tmps.size) : (a.put (some d) v).tmps[d]? = some v := by
  simp only [Act.put]
  rw [Array.getElem?_setIfInBounds_self_of_lt h]
theorem put_size {a : Act} {d : Option Nat} {v : Value} : (a.put d v).tmps.size = a.tmps.size := by cases d <;> simp [Act.put]
theorem put_defers {a : Act} {d : Option Nat} {v : Value} : (a.put d v).defers = a.defers := by cases d <;> rfl
theorem eval_tmp {a : Act} {t : Nat} {v : Value} (h : a.tmps[t]? = some v) : a.eval (.tmp t) = v := by
  simp only [Act.eval, Array.getD_eq_getD_getElem?, h, Option.getD_some]

theorem phL_inj : ∀ i < 10, ∀ j < 10, ∀ x y, phL[i]? = some x → phL[j]? = some y → x.1 = y.1 → x.2.1 = y.2.1 → i = j := by
  intro i hi j hj x y hx hy h1 h2
  have all : ((List.range 10).all fun i => (List.range 10).all fun j => match phL[i]?, phL[j]? with
    | some x, some y => decide (i = j) || !(decide (x.1 = y.1) && decide (x.2.1 = y.2.1))
    | _, _ => true) = true := by decide
  have := List.all_eq_true.1 (List.all_eq_true.1 all i (List.mem_range.2 hi)) j (List.mem_range.2 hj)
  rw [hx, hy] at this
  simpa [h1, h2] using this
theorem phL_lt {j : Nat} {x : Int × Int × Int} (h : phL[j]? = some x) : j < 10 := (List.getElem?_eq_some_iff.1 h).1

theorem PInv.step {w0 : World} {l : Array Bool} {a : Act} {w : World} {i : Nat} {o : Oper} {Q : Exit → Act → World → Prop} (hI : PInv w0 l a w) (ho : phOps[i]? = some o) (hi : i < phOps.size) (hn : ¬ Lst l i)
    (ha : ∀ e ∈ o.after, Region.binds .any e = true → Lst l e.on) : wpOpIn (FF none) 0 Tryz.prog phOps Q i (fun a' w' => PInv w0 (l.setIfInBounds i true) a' w') a w := by
  have hi' : i < 23 := by rw [← phSize]; exact hi
  have hS : ∀ k, Lst (l.setIfInBounds i true) k ↔ k = i ∨ Lst l k := fun k => lst_set (by rw [hI.size]; exact hi')
  have hsz : (l.setIfInBounds i true).size = 23 := by rw [Array.size_setIfInBounds, hI.size]
  have hcl := closed_set (by rw [hI.size, phSize]) hI.closed ho hi ha
  have hcase : i = 0 ∨ (∃ j, j < 10 ∧ i = 2 * j + 1) ∨ (∃ j, j < 10 ∧ i = 2 * j + 2) ∨ i = 21 ∨ i = 22 := by
    rcases Nat.mod_two_eq_zero_or_one i with h | h
    · by_cases h0 : i = 0
      · exact .inl h0
      · by_cases h22 : i = 22
        · exact .inr (.inr (.inr (.inr h22)))
        · exact .inr (.inr (.inl ⟨i / 2 - 1, by omega, by omega⟩))
    · by_cases h21 : i = 21
      · exact .inr (.inr (.inr (.inl h21)))
      · exact .inr (.inl ⟨i / 2, by omega, by omega⟩)
  rcases hcase with rfl | ⟨j, hj, rfl⟩ | ⟨j, hj, rfl⟩ | rfl | rfl
  · obtain ⟨ty, pos, aft, h0⟩ := op0
    rw [h0] at ho; cases ho
    have hsz0 := hI.none0 hn
    refine wpOp_val (v := .map (some w.heap.size)) (w' := w.alloc (.map #[] 0)) h0 rfl (fun _ => by simp) (by simp [execOp, show (Instr.makeMap 369 none).run Tryz.prog w = .ok (.map (some w.heap.size)) (w.alloc (.map #[] 0)) from rfl]) ?_
    have noI : ∀ j x, phL[j]? = some x → ¬ Lst l (2 * j + 2) := fun j x hx h => by
      obtain ⟨ty, pos, hop⟩ := opI j x hx
      exact hn (hI.closed _ _ hop h ⟨0, .data⟩ (by simp) rfl)
    refine ⟨hsz, hcl, by rw [put_size, hI.len], by rw [put_defers, hI.defers], fun k hk => ?_, hI.same, fun h => absurd ((hS 0).2 (.inl rfl)) h, fun _ => ⟨?_, ?_, [], 0, [], ?_, rfl, by simp, fun j x hx h => ?_⟩, fun j x hx h => ?_, fun h => ?_, fun h => ?_⟩
    · rw [← hI.old k hk]
      exact heap_alloc_old w _ (by omega)
    · show (w.heap.push _).size = _
      rw [Array.size_push, hsz0]
    · rw [put_same (by rw [hI.len]; omega), hsz0]
    · rw [← hsz0]; exact heap_alloc_new w _
    · rcases (hS _).1 h with h | h
      · omega
      · exact (noI j x hx h).elim
    · rw [put_other (by omega)]
      exact hI.key j x hx (((hS _).1 h).resolve_left (by omega))
    · rw [put_other (by omega)]
      exact hI.mv (((hS _).1 h).resolve_left (by omega))
    · rw [put_other (by omega)]
      exact hI.fin (((hS _).1 h).resolve_left (by omega))
  · have hx : phL[j]? = some (phL[j]'hj) := List.getElem?_eq_getElem hj
    generalize phL[j]'hj = x at hx
    obtain ⟨ty, pos, aft, h0⟩ := opB j x hx
    rw [h0] at ho; cases ho
    refine wpOp_val h0 rfl (fun _ => by simp) (build_run _ (fun _ => rfl) _ _ _ _ _ _ _ w) ?_
    refine ⟨hsz, hcl, by rw [put_size, hI.len], by rw [put_defers, hI.defers], hI.old, hI.same, fun h => hI.none0 fun hh => h ((hS 0).2 (.inr hh)), fun h => ?_, fun k y hy h => ?_, fun h => ?_, fun h => ?_⟩
    · obtain ⟨q1, q2, es, clock, m, q3, q4, q5, q6⟩ := hI.map (((hS _).1 h).resolve_left (by omega))
      refine ⟨q1, by rw [put_other (by omega)]; exact q2, es, clock, m, q3, q4, fun y hy => ?_, fun k y hy hk => q6 k y hy (((hS _).1 hk).resolve_left (by omega))⟩
      obtain ⟨k, hk, hky⟩ := q5 y hy
      exact ⟨k, (hS _).2 (.inr hk), hky⟩
    · rcases (hS _).1 h with h1 | h1
      · have : k = j := by omega
        subst this
        rw [hx] at hy; cases hy
        exact put_same (by rw [hI.len]; omega)
      · by_cases hkj : k = j
        · subst hkj; exact absurd h1 hn
        · rw [put_other (by omega)]; exact hI.key k y hy h1
    · rw [put_other (by omega)]
      exact hI.mv (((hS _).1 h).resolve_left (by omega))
    · rw [put_other (by omega)]
      exact hI.fin (((hS _).1 h).resolve_left (by omega))
  · have hx : phL[j]? = some (phL[j]'hj) := List.getElem?_eq_getElem hj
    generalize phL[j]'hj = x at hx
    obtain ⟨ty, pos, h0⟩ := opI j x hx
    rw [h0] at ho; cases ho
    have hl0 : Lst l 0 := ha ⟨0, .data⟩ (by simp) rfl
    have hl1 : Lst l (2 * j + 1) := ha ⟨2 * j + 1, .data⟩ (by simp) rfl
    obtain ⟨q1, q2, es, clock, m, q3, q4, q5, q6⟩ := hI.map hl0
    have hk := hI.key j x hx hl1
    have hnf : m.find? (hit x.1 x.2.1) = none := by
      rw [List.find?_eq_none]
      intro y hy hh
      obtain ⟨k, hkl, hky⟩ := q5 y hy
      simp only [hit, Bool.and_eq_true, decide_eq_true_eq] at hh
      have := phL_inj k (phL_lt hky) j hj y x hky hx hh.1.symm hh.2.symm
      subst this
      exact hn hkl
    obtain ⟨es', hrun, hes'⟩ := insert_run x.1 x.2.1 x.2.2 w q3 q4 hnf
    have hlt : w0.heap.size < w.heap.size := by omega
    have hc : a.eval (.const (.int .i64 x.2.2)) = .int .i64 x.2.2 := rfl
    refine wpOp_skip (w' := w.putObj w0.heap.size (.map ⟨es'⟩ (clock + 1))) h0 rfl (fun _ => by simp) (by simp [execOp, eval_tmp q2, eval_tmp hk, hc, hrun]) ?_
    refine ⟨hsz, hcl, hI.len, hI.defers, fun k hk => ?_, hI.same, fun h => absurd ((hS 0).2 (.inr hl0)) h, fun _ => ⟨?_, q2, es', clock + 1, m ++ [x], World.putObj_heap_same hlt, hes', fun y hy => ?_, fun k y hy h => ?_⟩, fun k y hy h => hI.key k y hy (((hS _).1 h).resolve_left (by omega)), fun h => hI.mv (((hS _).1 h).resolve_left (by omega)), fun h => hI.fin (((hS _).1 h).resolve_left (by omega))⟩
    · rw [← hI.old k hk]
      exact World.putObj_heap_other (by omega)
    · rw [World.putObj_size]; exact q1
    · rcases List.mem_append.1 hy with hy | hy
      · obtain ⟨k, hk, hky⟩ := q5 y hy
        exact ⟨k, (hS _).2 (.inr hk), hky⟩
      · simp only [List.mem_singleton] at hy
        subst hy
        exact ⟨j, (hS _).2 (.inl rfl), hx⟩
    · rcases (hS _).1 h with h | h
      · have : k = j := by omega
        subst this
        rw [hx] at hy; cases hy
        simp
      · exact List.mem_append_left _ (q6 k y hy h)
  · obtain ⟨ty, pos, aft, h0, he⟩ := op21
    rw [h0] at ho; cases ho
    have hl0 : Lst l 0 := ha ⟨0, .data⟩ he rfl
    obtain ⟨q1, q2, es, clock, m, q3, q4, q5, q6⟩ := hI.map hl0
    refine wpOp_val (v := .map (some w0.heap.size)) (w' := w) h0 rfl (fun _ => by simp) (by simp [execOp, eval_tmp q2]) ?_
    refine ⟨hsz, hcl, by rw [put_size, hI.len], by rw [put_defers, hI.defers], hI.old, hI.same, fun h => absurd ((hS 0).2 (.inr hl0)) h, fun _ => ⟨q1, by rw [put_other (by omega)]; exact q2, es, clock, m, q3, q4, fun y hy => ?_, fun k y hy h => q6 k y hy (((hS _).1 h).resolve_left (by omega))⟩, fun k y hy h => ?_, fun h => put_same (by rw [hI.len]; omega), fun h => ?_⟩
    · obtain ⟨k, hk, hky⟩ := q5 y hy
      exact ⟨k, (hS _).2 (.inr hk), hky⟩
    · have := phL_lt hy
      rw [put_other (by omega)]; exact hI.key k y hy (((hS _).1 h).resolve_left (by omega))
    · rw [put_other (by omega)]
      exact hI.fin (((hS _).1 h).resolve_left (by omega))
  · obtain ⟨ty, pos, aft, h0, he⟩ := op22
    rw [h0] at ho; cases ho
    have hl21 : Lst l 21 := ha ⟨21, .data⟩ he rfl
    have q2 := hI.mv hl21
    refine wpOp_val (v := .map (some w0.heap.size)) (w' := w) h0 rfl (fun _ => by simp) (by simp [execOp, eval_tmp q2]) ?_
    refine ⟨hsz, hcl, by rw [put_size, hI.len], by rw [put_defers, hI.defers], hI.old, hI.same, fun h => hI.none0 fun hh => h ((hS 0).2 (.inr hh)), fun h => ?_, fun k y hy h => ?_, fun h => ?_, fun h => put_same (by rw [hI.len]; omega)⟩
    · obtain ⟨q1, q2, es, clock, m, q3, q4, q5, q6⟩ := hI.map (((hS _).1 h).resolve_left (by omega))
      refine ⟨q1, by rw [put_other (by omega)]; exact q2, es, clock, m, q3, q4, fun y hy => ?_, fun k y hy hk => q6 k y hy (((hS _).1 hk).resolve_left (by have := phL_lt hy; omega))⟩
      obtain ⟨k, hk, hky⟩ := q5 y hy
      exact ⟨k, (hS _).2 (.inr hk), hky⟩
    · rw [put_other (by omega)]; exact hI.key k y hy (((hS _).1 h).resolve_left (by omega))
    · rw [put_other (by omega)]; exact q2

/-- The table. -/
theorem table_calls (w : World) : Calls Tryz.prog 239 #[] w fun e w' => ∃ B es clock m, e = .returned (.map (some B)) ∧ w'.heap[B]? = some (.map ⟨es⟩ clock) ∧ MapIs es m ∧ (∀ x ∈ m, x ∈ phL) ∧ (∀ x ∈ phL, x ∈ m) ∧
    w.heap.size ≤ w'.heap.size ∧ (∀ k, k < w.heap.size → w'.heap[k]? = w.heap[k]?) ∧ w'.tape = w.tape ∧ w'.os = w.os ∧ w'.output = w.output := by
  refine callsIn_wide.1 (callsIn_of_wp_marks (F := FF none) (n := 0) Tryz.func239 phBody trivial ?_)
  have hnt : Tryz.f239.ntmps = 13 := rfl
  obtain ⟨a0, ha0, h1, h2⟩ : ∃ a0 : Act, ({ tmps := #[] ++ Array.replicate (Tryz.f239.ntmps - (#[] : Array Value).size) undef, defers := [] } : Act) = a0 ∧ a0.tmps.size = 13 ∧ a0.defers = [] := ⟨_, rfl, by simp [hnt], rfl⟩
  rw [ha0]
  clear ha0
  refine wpIn_seq (wpIn_region ?_)
  obtain ⟨ty, pos, aft, v, ho⟩ : ∃ ty pos aft v, ph0 = #[⟨some 0, .assign (.const v), ty, pos, aft, none⟩] := ⟨_, _, _, _, rfl⟩
  rw [ho]
  show wpOpsIn (FF none) 0 Tryz.prog _ _ [0] a0 w
  rw [wpOpsIn_cons]
  refine wpOp_val (v := v) (w' := w) rfl rfl (fun _ => by simp) (by simp [execOp, show ∀ a : Act, a.eval (.const v) = v from fun _ => rfl]) ?_
  have h3 : (a0.put (some 0) v).tmps.size = 13 := by rw [put_size, h1]
  have h4 : (a0.put (some 0) v).defers = [] := by rw [put_defers, h2]
  show wpOpsIn (FF none) 0 Tryz.prog _ _ [] (a0.put (some 0) v) w
  generalize a0.put (some 0) v = a1 at h3 h4
  unfold wpOpsIn
  change Code.wpIn (FF none) 0 Tryz.prog (.seq (.region 1 phOps true) .ret) _ a1 w
  refine wpIn_seq (wpIn_region_any tabOk.follows ?_)
  refine any_run (fun i o ho e he _ => phE i o ho e he) (Inv := PInv w) (fun l a w' h => by rw [h.size, phSize]) (fun l a w' i o hI ho hi hn ha => hI.step ho hi hn ha) (fun l a w' hI hall => ?_) _ _ _ _ ?_ ?_
  · refine wpIn_ret ?_
    have hall : ∀ i, i < 23 → Lst l i := fun i hi => hall i (by rw [phSize]; exact hi)
    obtain ⟨q1, q2, es, clock, m, q3, q4, q5, q6⟩ := hI.map (hall 0 (by omega))
    have q7 := hI.fin (hall 22 (by omega))
    show LeavesInM _ _ _ _ _ _ a.defers _ _
    rw [hI.defers]
    refine ⟨.map (some w.heap.size), ?_, w.heap.size, es, clock, m, rfl, q3, q4, fun x hx => ?_, fun x hx => ?_, by omega, hI.old, hI.same⟩
    · unfold results
      have hr : Tryz.f239.results = #[.tmp 0] := rfl
      rw [hr]
      have hg : a.tmps.getD 0 undef = .map (some w.heap.size) := by simp only [Array.getD_eq_getD_getElem?, q7, Option.getD_some]
      simp [q7]
    · obtain ⟨j, _, hj⟩ := q5 x hx
      exact List.mem_of_getElem? hj
    · obtain ⟨j, hj, hjx⟩ := List.mem_iff_getElem.1 hx
      have : phL[j]? = some x := by rw [List.getElem?_eq_getElem hj, hjx]
      exact q6 j x this (hall _ (by have := phL_lt this; omega))
  · have nl : ∀ i, ¬ Lst (Array.replicate phOps.size false) i := lst_rep _
    exact ⟨by rw [Array.size_replicate, phSize], fun i o _ h => (nl i h).elim, h3, h4, fun _ _ => rfl, ⟨rfl, rfl, rfl⟩, fun _ => rfl, fun h => (nl _ h).elim, fun _ _ _ h => (nl _ h).elim, fun h => (nl _ h).elim, fun h => (nl _ h).elim⟩
  · unfold unl
    exact Nat.le_trans (List.length_filter_le _ _) (by simp)

end Go.Proofs.YtnhcbfaomehaeaaGreatDoor.R1

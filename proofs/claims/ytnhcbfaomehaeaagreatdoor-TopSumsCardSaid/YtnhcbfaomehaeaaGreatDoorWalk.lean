/- Calls and the ends of walks. -/
import Derived.Test.YtnhcbfaomehaeaaGreatDoorMem
namespace Go.Proofs.YtnhcbfaomehaeaaGreatDoor
open Go.RowKit
set_option linter.unusedVariables false
set_option linter.unusedSimpArgs false

def evL (L : Operand → Option Value) : List Operand → Option (List Value)
  | [] => some []
  | x :: r => match L x, evL L r with
    | some v, some vs => some (v :: vs)
    | _, _ => none

theorem evL_map {L : Operand → Option Value} {ev : Operand → Value} (he : EvOk L ev) : ∀ {xs : List Operand} {vs : List Value}, evL L xs = some vs → xs.map ev = vs
  | [], vs, h => by simp [evL] at h; simp [h]
  | x :: r, vs, h => by
    simp only [evL] at h
    split at h
    · rename_i v vs' hx hr
      cases h
      simp [he x v hx, evL_map he hr]
    · cases h

section
variable {P : Program} {ty : TypeId} {L : Operand → Option Value}

theorem op_callv {f : FuncId} {x : Operand} {xs : Array Operand} {vs : List Value} {ats : Array TypeId} (hf : Go.Proofs.Enters P f) (hx : L x = some (.func (.func f) #[] #[])) (hargs : evL L xs.toList = some vs) :
    IsCall P (.call { callee := .value x, args := xs, argTypes := ats }) ty L f vs := fun ev he w d pos aft g => by
  have h1 : xs.map ev = vs.toArray := by
    rw [← evL_map he hargs]
    apply Array.toList_inj.1
    simp
  have h2 := he x _ hx
  simp [execOp, resolve, Deferred.ofValue, h2, h1, invoke, hf vs.toArray w]

/-- A call of a closure. -/
theorem op_callc {f : FuncId} {x : Operand} {xs : Array Operand} {vs cap all : List Value} {ats : Array TypeId} (hf : Go.Proofs.Enters P f) (hx : L x = some (.func (.func f) #[] cap.toArray)) (hargs : evL L xs.toList = some vs) (hall : vs ++ cap = all) :
    IsCall P (.call { callee := .value x, args := xs, argTypes := ats }) ty L f all := fun ev he w d pos aft g => by
  subst hall
  have h1 : xs.map ev = vs.toArray := by
    rw [← evL_map he hargs]
    apply Array.toList_inj.1
    simp
  have h2 := he x _ hx
  have h3 := hf (vs ++ cap).toArray w
  simp [execOp, resolve, Deferred.ofValue, h2, h1, invoke]
  simpa using h3

theorem op_makeFunc {f : FuncId} {xs : Array Operand} {vs : List Value} (hargs : evL L xs.toList = some vs) : Pure P (.makeFunc (.func f) #[] xs) ty L (.func (.func f) #[] vs.toArray) := fun ev he w d pos aft g => by
  have h1 : xs.map ev = vs.toArray := by
    rw [← evL_map he hargs]
    apply Array.toList_inj.1
    simp
  simp [execOp, Instr.makeFunc, h1]

theorem op_call {f : FuncId} {xs : Array Operand} {vs : List Value} {ats : Array TypeId} (hf : Go.Proofs.Enters P f) (hx : L (.func f) = some (.func (.func f) #[] #[])) (hargs : evL L xs.toList = some vs) :
    IsCall P (.call { callee := .value (.func f), args := xs, argTypes := ats }) ty L f vs := op_callv hf hx hargs

end

theorem CW.cond_true {P : Program} {Q : Exit → Act → World → Prop} {N : Nat} {env : Env} {w : World} {x y : Code} {o : Operand} (hb : opv env o = some (.bool true)) (k : CW P x Q N env w) : CW P (.cond o x y) Q N env w :=
  CW.cond hb (fun _ => k) (fun h => by cases h)
theorem CW.cond_false {P : Program} {Q : Exit → Act → World → Prop} {N : Nat} {env : Env} {w : World} {x y : Code} {o : Operand} (hb : opv env o = some (.bool false)) (k : CW P y Q N env w) : CW P (.cond o x y) Q N env w :=
  CW.cond hb (fun h => by cases h) (fun _ => k)

def argEnv : List Value → Nat → Env
  | [], _ => []
  | v :: vs, i => (i, v) :: argEnv vs (i + 1)

theorem getE_argEnv : ∀ (vs : List Value) (i t : Nat) (v : Value), getE (argEnv vs i) t = some v → i ≤ t ∧ vs[t - i]? = some v
  | [], i, t, v, h => by simp [argEnv, getE] at h
  | u :: vs, i, t, v, h => by
    simp only [argEnv, getE_cons] at h
    by_cases hk : i = t
    · subst hk; rw [if_pos rfl] at h; simpa using h
    · rw [if_neg hk] at h
      obtain ⟨h1, h2⟩ := getE_argEnv vs (i + 1) t v h
      refine ⟨by omega, ?_⟩
      rw [show t - i = (t - (i + 1)) + 1 from by omega]
      simpa using h2

theorem calls_of {P : Program} {f : FuncId} {fn : Func} {c : Code} {N : Nat} {args : List Value} {w : World} {R : Value → World → Prop} (hf : P.funcs[f]? = some fn) (hb : fn.body = some c) (hN : fn.ntmps = N) (hl : Nat.ble args.length N = true)
    (h : CW P c (bodyPost P fn fun e w' => match e with | .returned v => R v w' | _ => False) N (argEnv args 0) w) : CallsR P f args w R := by
  refine calls_of_wp hf hb (h _ ⟨?_, rfl, fun t v hv => ?_⟩)
  · have := Nat.le_of_ble_eq_true hl
    simp [hN]; omega
  · obtain ⟨_, h2⟩ := getE_argEnv args 0 t v hv
    have hlt : t < args.length := (List.getElem?_eq_some_iff.1 h2).1
    simp only [Nat.sub_zero] at h2
    rw [Array.getD_eq_getD_getElem?, Array.getElem?_append_left (by simpa using hlt)]
    simp [h2]

section
variable {P : Program} {fn : Func} {R : Ending → World → Prop} {N : Nat} {env : Env} {w : World} {v u : Value}

theorem Fin.ret1 {t : Nat} (hr : fn.results = #[.tmp t]) (hv : getE env t = some v) (h : R (.returned v) w) : Fin (bodyPost P fn R) .ret N env w := fun a ha =>
  bodyPost_ret (results_tmp hr _ _ _) ha.defers (by rw [ha.val t v hv]; exact h)
theorem Fin.ret2 {t s : Nat} (hr : fn.results = #[.tmp t, .tmp s]) (hv : getE env t = some v) (hu : getE env s = some u) (h : R (.returned (.tuple #[v, u])) w) : Fin (bodyPost P fn R) .ret N env w := fun a ha =>
  bodyPost_ret (results_tmp2 hr _ _ _) ha.defers (by rw [ha.val t v hv, ha.val s u hu]; exact h)
theorem Fin.ret0 (hr : fn.results = #[]) (h : R (.returned (.tuple #[])) w) : Fin (bodyPost P fn R) .ret N env w := fun a ha =>
  bodyPost_ret (results_none hr _ _ _) ha.defers h
theorem Fin.end0 (hr : fn.results = #[]) (h : R (.returned (.tuple #[])) w) : Fin (bodyPost P fn R) .normal N env w := fun a ha =>
  bodyPost_end (results_none hr _ _ _) ha.defers h
end
/-! ## Where ways meet again -/

def Mid {ι : Type} (E : ι → Env) (Wd : ι → World → Prop) (N : Nat) (a : Act) (w : World) : Prop := ∃ j, Fr N (E j) a ∧ Wd j w

section
variable {P : Program} {Q : Exit → Act → World → Prop} {N : Nat} {env : Env} {w : World} {c : Code} {K : Act → World → Prop} {id : Nat} {ι : Type}

theorem CW.mid (E : ι → Env) (Wd : ι → World → Prop) (h1 : CW P c (Exit.then (Mid E Wd N) Q) N env w) (h2 : ∀ j w', Wd j w' → Fin (Exit.then K Q) .normal N (E j) w') : CW P c (Exit.then K Q) N env w := fun a ha =>
  wp_mono (h1 a ha) fun e a w h => by
    cases e with
    | normal => obtain ⟨j, hf, hw⟩ := h; exact h2 j w hw a hf
    | _ => exact h

theorem CW.midB (E : ι → Env) (Wd : ι → World → Prop) (h1 : CW P c (Exit.inBlock id (Exit.then (Mid E Wd N) Q)) N env w) (h2 : ∀ j w', Wd j w' → Fin (Exit.then K Q) .normal N (E j) w') : CW P c (Exit.inBlock id (Exit.then K Q)) N env w := fun a ha =>
  wp_mono (h1 a ha) fun e a w h => by
    cases e with
    | normal => obtain ⟨j, hf, hw⟩ := h; exact h2 j w hw a hf
    | exit id' =>
      show (if id' = id then _ else _)
      have h' : (if id' = id then Exit.then (Mid E Wd N) Q .normal a w else Exit.then (Mid E Wd N) Q (.exit id') a w) := h
      by_cases e : id' = id
      · rw [if_pos e] at h' ⊢
        obtain ⟨j, hf, hw⟩ := h'
        exact h2 j w hw a hf
      · rw [if_neg e] at h' ⊢
        exact h'
    | _ => exact h

theorem Fin.mid {E : ι → Env} {Wd : ι → World → Prop} (j : ι) (hs : SubE (E j) env) (hw : Wd j w) : Fin (Exit.then (Mid E Wd N) Q) .normal N env w := fun a ha => ⟨j, ha.sub hs, hw⟩
end
end Go.Proofs.YtnhcbfaomehaeaaGreatDoor

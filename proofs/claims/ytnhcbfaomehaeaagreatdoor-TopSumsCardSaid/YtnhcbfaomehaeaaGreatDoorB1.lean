/- One operation in a region; a region in the order of its text. -/
import Derived.Test.YtnhcbfaomehaeaaGreatDoorA16
import Derived.CallsIn
import Derived.RangeFuncLeaves
import Derived.OrdersIn
import Derived.TacticsIn
import Derived.LoopNIn
namespace Go.Proofs.YtnhcbfaomehaeaaGreatDoor.R1
open Go
set_option linter.unusedVariables false
set_option linter.unusedSimpArgs false

abbrev FF (r : Option Nat) : Fence := { Fence.wide with round := r }

noncomputable def RetPost (G : Nat) (V : Nat → Bool) (ρ : Ren) (s : St) (w : World) (s' : St) (v : Value) (e : Ending) (w' : World) : Prop := match e with
  | .returned v' => ∃ ρ', VR ρ' v v' ∧ Out G V ρ s w ρ' s' w'
  | _ => False

/-- What a function's handler says is so. -/
noncomputable def CallOk (P : Program) (G : Nat) (call : CallH) : Prop := ∀ f args s v s', call f args s = some (v, s') → Tr s s' ∧ ∀ V ρ w args', Wf s → G ≤ s.nx → vis V s s' → fresh ρ s s' → Rel G ρ (res V s.h.get) w → LR ρ args args' →
  CallsIn Fence.wide 0 P f ⟨args'⟩ w (RetPost G V ρ s w s' v)

/-- What a yield's handler says is so. -/
noncomputable def YldOk (P : Program) (G : Nat) (yld : CallH) : Prop := ∀ l args s v s', yld l args s = some (v, s') → Tr s s' ∧ ∀ V ρ w l' args', Wf s → G ≤ s.nx → vis V s s' → fresh ρ s s' → Rel G ρ (res V s.h.get) w → ρ l = some l' → LR ρ args args' →
  ∃ f tmps assign body, (Instr.yield l' ⟨args'⟩).run P w = .ok (.round l' f tmps assign body) w ∧ RoundIn Fence.wide 0 P l' f tmps assign body w (RetPost G V ρ s w s' v)

section
variable {P : Program} {tb : Tab} {G : Nat} {ev : Ev} {s s' : St} {r : R} {call yld : CallH}

theorem opX_noDefer {o : Oper} {q : Option (R × St)} (h : opX tb ev o s = q) (hq : q ≠ none) : ∀ c, o.op ≠ .defer c := by
  intro c hc
  apply hq
  rw [← h]
  unfold opX
  rw [hc]

theorem doX_ok (hT : TabOk P tb) (hC : CallOk P G call) (hY : YldOk P G yld) {o : Oper} {tm tm' : List Value} (h : doX call yld tm o.dst (opX tb ev o s) = some (tm', s')) :
    Tr s s' ∧ ∃ v, putE tm o.dst v = some tm' ∧ ∀ V ρ w a rd (K : Act → World → Prop) Q, Wf s → G ≤ s.nx → vis V s s' → fresh ρ s s' → Rel G ρ (res V s.h.get) w → EvR ρ ev a.eval →
      (∀ v' ρ' w', VR ρ' v v' → Out G V ρ s w ρ' s' w' → K (a.put o.dst v') w') → o.wpIn (FF rd) 0 P a w K Q := by
  cases hop : opX tb ev o s with
  | none => rw [hop] at h; cases h
  | some q =>
    obtain ⟨r, s1⟩ := q
    have hnd := opX_noDefer hop (by simp)
    obtain ⟨tr1, hrun⟩ := opX_ok (G := G) hT hop
    rw [hop] at h
    have base : ∀ (a : Act) (rd : Option Nat), o.semAt (FF rd).round a.eval = execOp a.eval o := fun a rd => Oper.semAt_eq _ _ o hnd
    cases r with
    | val v =>
      obtain ⟨tm1, h1, h2⟩ := obind_eq h
      cases h2
      refine ⟨tr1, v, h1, fun V ρ w a rd K Q hw hG hv hf hr he hK => ?_⟩
      obtain ⟨v', w', ρ', g1, g2, g3⟩ := hrun V ρ w _ hw hG hv hf hr he
      refine ⟨fun _ _ => trivial, ?_⟩
      rw [base, g1]
      exact hK v' ρ' w' g2 g3
    | skip =>
      obtain ⟨tm1, h1, h2⟩ := obind_eq h
      cases h2
      refine ⟨tr1, undefV, h1, fun V ρ w a rd K Q hw hG hv hf hr he hK => ?_⟩
      obtain ⟨w', ρ', g1, g3⟩ := hrun V ρ w _ hw hG hv hf hr he
      refine ⟨fun _ _ => trivial, ?_⟩
      rw [base, g1]
      exact hK _ ρ' w' (.tuple .nil) g3
    | enter f args =>
      change putS tm o.dst (call f args s1) = some (tm', s') at h
      unfold putS at h
      split at h
      · rename_i v s2 hc
        obtain ⟨tm1, h1, h2⟩ := obind_eq h
        cases h2
        obtain ⟨tr2, hcall⟩ := hC _ _ _ _ _ hc
        refine ⟨tr1.trans tr2, v, h1, fun V ρ w a rd K Q hw hG hv hf hr he hK => ?_⟩
        obtain ⟨args', w1, ρ1, g1, g2, g3⟩ := hrun V ρ w _ hw hG (hv.fst tr2) (hf.fst tr2) hr he
        refine ⟨fun _ _ => trivial, ?_⟩
        rw [base, g1]
        refine ⟨fun h => by simp [Fence.wide] at h, ?_⟩
        have := hcall (Vn V s s1) ρ1 w1 args' (tr1.wf hw) (Nat.le_trans hG tr1.nx) hv.snd (hf.snd tr1 g3) g3.rel g2
        refine CallsIn.mono this fun e w2 he2 => ?_
        cases e with
        | returned v' =>
          obtain ⟨ρ2, q1, q2⟩ := he2
          exact hK v' ρ2 w2 q1 (Out.trans tr1 tr2 hw hf g3 q2)
        | panicked c => exact he2.elim
        | outgrown => exact he2.elim
      · cases h
    | yield l args =>
      change putS tm o.dst (yld l args s1) = some (tm', s') at h
      unfold putS at h
      split at h
      · rename_i v s2 hc
        obtain ⟨tm1, h1, h2⟩ := obind_eq h
        cases h2
        obtain ⟨tr2, hcall⟩ := hY _ _ _ _ _ hc
        refine ⟨tr1.trans tr2, v, h1, fun V ρ w a rd K Q hw hG hv hf hr he hK => ?_⟩
        obtain ⟨l', args', g1, g2, hs1, g4⟩ := hrun V ρ w _ hw hG (hv.fst tr2) (hf.fst tr2) hr he
        subst hs1
        obtain ⟨f, tmps, as, bd, q1, q2⟩ := hcall V ρ w l' args' hw hG hv hf hr g1 g2
        refine ⟨fun _ _ => trivial, ?_⟩
        rw [base, g4, q1]
        refine ⟨fun h => by simp [Fence.wide] at h, ?_⟩
        refine RoundIn.mono q2 fun e w2 he2 => ?_
        cases e with
        | returned v' =>
          obtain ⟨ρ2, q3, q4⟩ := he2
          exact hK v' ρ2 w2 q3 q4
        | panicked c => exact he2.elim
        | outgrown => exact he2.elim
      · cases h

/-- The slots of an activation are as the executor has them. -/
noncomputable def TmR (ρ : Ren) (tm : List Value) (a : Act) : Prop := LR ρ tm a.tmps.toList

theorem evR_of {ρ : Ren} {h : HF} {w : World} {tm : List Value} {a : Act} (hr : Rel tb.globals ρ h w) (ht : TmR ρ tm a) : EvR ρ (evE tb tm) a.eval := by
  intro x v hx
  cases x with
  | tmp t =>
    simp only [evE, nth_eq] at hx
    obtain ⟨v', h1, h2⟩ := LR.get ht hx
    have : a.eval (.tmp t) = v' := by
      have h3 : a.tmps[t]? = some v' := by simpa using h1
      simp only [Act.eval, Array.getD_eq_getD_getElem?, h3, Option.getD_some]
    rw [this]; exact h2
  | const u =>
    simp only [evE] at hx
    split at hx
    · rename_i hg; cases hx; exact VR.of_ground hg
    · cases hx
  | global g =>
    simp only [evE] at hx
    split at hx
    · rename_i hg; cases hx; exact .ptr (hr.glb g (blt_iff.1 hg))
    · cases hx
  | func f =>
    simp only [evE, Option.some.injEq] at hx
    subst hx
    exact .func .nil .nil

theorem putE_ok {ρ : Ren} {tm tm' : List Value} {dst : Option Nat} {v v' : Value} {a : Act} (h : putE tm dst v = some tm') (ht : TmR ρ tm a) (hv : VR ρ v v') : TmR ρ tm' (a.put dst v') := by
  cases dst with
  | none =>
    have : some tm = some tm' := h
    cases this
    exact ht
  | some d =>
    have : setNth tm d v = some tm' := h
    obtain ⟨h1, rfl⟩ := setNth_eq _ _ _ _ this
    unfold TmR at *
    simp only [Act.put, Array.toList_setIfInBounds]
    exact LR.set ht d hv

theorem wantX_ok {ρ : Ren} {ops : Array Oper} {tm : List Value} {a : Act} {o : Oper} (hj : ∀ j want d v, o.guard = some (j, want) → ((ops[j]?).bind (·.dst)) = some d → nth tm d = some v → ∃ v', a.tmps[d]? = some v' ∧ VR ρ v v')
    (hl : ∀ j want d, o.guard = some (j, want) → ((ops[j]?).bind (·.dst)) = some d → nth tm d = none → a.tmps[d]? = none) :
    Region.wanted o (yielded ops a.tmps) = wantX ops.toList tm o.guard := by
  unfold Region.wanted wantX
  cases hg : o.guard with
  | none => rfl
  | some p =>
    obtain ⟨j, want⟩ := p
    simp only [nth_eq ops.toList, Array.getElem?_toList]
    unfold yielded
    cases ho : ops[j]? with
    | none => simp
    | some o' =>
      simp only [Option.bind_some]
      cases hd : o'.dst with
      | none => simp
      | some d =>
        simp only [Option.bind_some]
        have hb : ((ops[j]?).bind (·.dst)) = some d := by rw [ho]; exact hd
        cases hn : nth tm d with
        | none =>
          rw [hl j want d hg hb hn]
          simp
        | some v =>
          obtain ⟨v', h1, h2⟩ := hj j want d v hg hb hn
          rw [h1]
          cases h2 <;> try rfl
          rename_i b
          cases b <;> cases want <;> rfl

theorem TmR.none {ρ : Ren} {tm : List Value} {a : Act} (h : TmR ρ tm a) {d : Nat} (hn : nth tm d = none) : a.tmps[d]? = none := by
  rw [nth_eq] at hn
  have h1 := LR.length h
  rw [List.getElem?_eq_none_iff] at hn
  rw [Array.getElem?_eq_none_iff]
  simp at h1; omega

/-- One operation, wanted or not, with all slots told. -/
theorem stepX_ok (hT : TabOk P tb) (hC : CallOk P tb.globals call) (hY : YldOk P tb.globals yld) {ops : Array Oper} {i : Nat} {o : Oper} (ho : ops[i]? = some o) {tm tm' : List Value} (h : stepX tb call yld ops.toList o tm s = some (tm', s')) :
    Tr s s' ∧ ∀ V ρ w a rd (K : Act → World → Prop) Q, Wf s → tb.globals ≤ s.nx → vis V s s' → fresh ρ s s' → Rel tb.globals ρ (res V s.h.get) w → TmR ρ tm a →
      (∀ a' ρ' w', a'.defers = a.defers → TmR ρ' tm' a' → Out tb.globals V ρ s w ρ' s' w' → K a' w') → wpOpIn (FF rd) 0 P ops Q i K a w := by
  unfold stepX at h
  have hwant : ∀ ρ a, TmR ρ tm a → Region.wanted o (yielded ops a.tmps) = wantX ops.toList tm o.guard := fun ρ a ht =>
    wantX_ok (fun j want d v _ _ hn => by
      rw [nth_eq] at hn
      obtain ⟨v', h1, h2⟩ := LR.get ht hn
      exact ⟨v', by simpa using h1, h2⟩) (fun j want d _ _ hn => ht.none hn)
  cases hw0 : wantX ops.toList tm o.guard with
  | true =>
    rw [hw0] at h
    obtain ⟨tr, v, hput, hrun⟩ := doX_ok hT hC hY h
    refine ⟨tr, fun V ρ w a rd K Q hw hG hv hf hr ht hK => ?_⟩
    unfold wpOpIn
    simp only [ho]
    rw [if_pos (by rw [hwant ρ a ht, hw0])]
    refine hrun V ρ w a rd K Q hw hG hv hf hr (evR_of hr ht) fun v' ρ' w' hvr hO => ?_
    refine hK _ ρ' w' ?_ (putE_ok hput (ht.mono (hO.sub hf)) hvr) hO
    unfold Act.put; split <;> rfl
  | false =>
    rw [hw0] at h
    obtain ⟨tm1, h1, h2⟩ := obind_eq h
    cases h2
    refine ⟨Tr.refl _, fun V ρ w a rd K Q hw hG hv hf hr ht hK => ?_⟩
    unfold wpOpIn
    simp only [ho]
    rw [if_neg (by rw [hwant ρ a ht, hw0]; simp)]
    refine ⟨fun _ _ => trivial, hK _ ρ w ?_ (putE_ok h1 ht (.tuple .nil)) (Out.idle rfl rfl hr)⟩
    unfold Act.put; split <;> rfl

theorem TmR.mono {ρ ρ' : Ren} (h : Sub ρ ρ') {tm : List Value} {a : Act} (ht : TmR ρ tm a) : TmR ρ' tm a := LR.mono h ht

/-- A region in the order of its text. -/
theorem seqX_ok (hT : TabOk P tb) (hC : CallOk P tb.globals call) (hY : YldOk P tb.globals yld) {ops : Array Oper} : ∀ (l : List Oper) (k : Nat) (tm tm' : List Value) (s s' : St), (∀ j, l[j]? = ops[k + j]?) → seqX tb call yld ops.toList l tm s = some (tm', s') →
    Tr s s' ∧ ∀ V ρ w a rd Q, Wf s → tb.globals ≤ s.nx → vis V s s' → fresh ρ s s' → Rel tb.globals ρ (res V s.h.get) w → TmR ρ tm a →
      (∀ a' ρ' w', a'.defers = a.defers → TmR ρ' tm' a' → Out tb.globals V ρ s w ρ' s' w' → Q .normal a' w') → wpOpsIn (FF rd) 0 P ops Q (List.range' k l.length) a w := by
  intro l
  induction l with
  | nil =>
    intro k tm tm' s s' _ h
    cases h
    exact ⟨Tr.refl _, fun V ρ w a rd Q hw hG hv hf hr ht hQ => hQ a ρ w rfl ht (Out.idle rfl rfl hr)⟩
  | cons o l ih =>
    intro k tm tm' s s' hops h
    change seqK (seqX tb call yld ops.toList l) (stepX tb call yld ops.toList o tm s) = some (tm', s') at h
    unfold seqK at h
    split at h
    · rename_i tm1 s1 hst
      have ho : ops[k]? = some o := by have := hops 0; simpa using this.symm
      obtain ⟨tr1, hrun1⟩ := stepX_ok hT hC hY ho hst
      obtain ⟨tr2, hrun2⟩ := ih (k + 1) tm1 tm' s1 s' (fun j => by have := hops (j + 1); simpa [Nat.add_assoc, Nat.add_comm 1 j] using this) h
      refine ⟨tr1.trans tr2, fun V ρ w a rd Q hw hG hv hf hr ht hQ => ?_⟩
      rw [List.length_cons, List.range'_succ, wpOpsIn_cons]
      refine hrun1 V ρ w a rd _ Q hw hG (hv.fst tr2) (hf.fst tr2) hr ht fun a1 ρ1 w1 hd1 ht1 hO1 => ?_
      refine hrun2 (Vn V s s1) ρ1 w1 a1 rd Q (tr1.wf hw) (Nat.le_trans hG tr1.nx) hv.snd (hf.snd tr1 hO1) hO1.rel ht1 fun a2 ρ2 w2 hd2 ht2 hO2 => ?_
      exact hQ a2 ρ2 w2 (hd2.trans hd1) ht2 (Out.trans tr1 tr2 hw hf hO1 hO2)
    · cases h

end
end Go.Proofs.YtnhcbfaomehaeaaGreatDoor.R1

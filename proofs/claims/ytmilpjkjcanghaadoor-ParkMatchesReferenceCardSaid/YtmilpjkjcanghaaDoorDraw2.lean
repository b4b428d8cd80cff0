/- A region whose order is drawn, once more: operations that look at no memory may come late: they are taken as soon as they can be; so what comes behind all the others need not come behind them. -/
import Derived.Test.YtmilpjkjcanghaaDoorStep
namespace Go.Proofs.YtmilpjkjcanghaaDoor
open Go.RowKit
set_option linter.unusedVariables false
set_option linter.unusedSimpArgs false

/-- An operation that looks at no memory. -/
def PureOk (P : Program) (ops : Array Oper) (env : Env) (Γ : SEnv) (o : Oper) (s : Sl) : Prop :=
  ∃ v, s = .det v ∧ ((wantS ops Γ env o.guard = some true ∧ ∀ ev, EvOk (opL Γ env) ev → ∀ w, (execOp ev o).run P w = .ok (.value v) w) ∨ (wantS ops Γ env o.guard = some false ∧ v = undef))
theorem PureOk.step {P : Program} {R : World → World → Prop} {w0 : World} {ops : Array Oper} {env : Env} {Γ : SEnv} {o : Oper} {s : Sl} (hrefl : ∀ a, R a a) (h : PureOk P ops env Γ o s) : StepOk P R w0 ops env Γ o s := by
  obtain ⟨v, rfl, h⟩ := h
  rcases h with ⟨h1, h2⟩ | ⟨h1, h2⟩
  · exact .inl ⟨h1, fun ev w _ he _ => by unfold OpT; rw [h2 ev he]; exact ⟨hrefl w, rfl⟩⟩
  · exact .inr ⟨h1, by rw [h2]⟩

/-- The chain; those of lp look at no memory. -/
def TCL (P : Program) (R : World → World → Prop) (w0 : World) (ops : Array Oper) (env : Env) (N : Nat) (lp : List Nat) (Post : SEnv → Prop) : List Nat → SEnv → Prop
  | [], Γ => Post Γ
  | i :: rest, Γ => ∃ o s, ops[i]? = some o ∧ dstOk N o.dst = true ∧ s.lasts R ∧ StepOk P R w0 ops env Γ o s ∧ (lp.contains i = true → PureOk P ops env Γ o s) ∧ TCL P R w0 ops env N lp Post rest (setS Γ o.dst s)
def TCLs (P : Program) (R : World → World → Prop) (w0 : World) (ops : Array Oper) (env : Env) (N : Nat) (lp : List Nat) (S : Nat → Sl) : List Nat → List Nat → Prop
  | _, [] => True
  | pre, i :: rest => (∃ o, ops[i]? = some o ∧ dstOk N o.dst = true ∧ (S i).lasts R ∧ StepOk P R w0 ops env (envOf ops S pre) o (S i) ∧ (lp.contains i = true → PureOk P ops env (envOf ops S pre) o (S i))) ∧ TCLs P R w0 ops env N lp S (i :: pre) rest
theorem TCLs.tcs {P : Program} {R : World → World → Prop} {w0 : World} {ops : Array Oper} {env : Env} {N : Nat} {lp : List Nat} {S : Nat → Sl} : ∀ (l pre : List Nat), TCLs P R w0 ops env N lp S pre l → TCs P R w0 ops env N S pre l
  | [], _, _ => trivial
  | i :: l, pre, h => by
    obtain ⟨⟨o, h1, h2, h3, h4, _⟩, h6⟩ := h
    exact ⟨⟨o, h1, h2, h3, h4⟩, TCLs.tcs l (i :: pre) h6⟩
theorem TCL.facts {P : Program} {R : World → World → Prop} {w0 : World} {ops : Array Oper} {env : Env} {N : Nat} {lp : List Nat} {Post : SEnv → Prop} : ∀ (l pre : List Nat) (S0 : Nat → Sl), (∀ j ∈ l, j ∉ pre) → l.Nodup →
    TCL P R w0 ops env N lp Post l (envOf ops S0 pre) → ∃ S, (∀ j ∈ pre, S j = S0 j) ∧ TCLs P R w0 ops env N lp S pre l ∧ Post (envOf ops S (l.reverse ++ pre))
  | [], pre, S0, _, _, h => ⟨S0, fun _ _ => rfl, trivial, h⟩
  | i :: l, pre, S0, hd, hn, h => by
    obtain ⟨o, s, ho, hok, hl, hst, hpu, hr⟩ := h
    have hi : i ∉ pre := hd i List.mem_cons_self
    obtain ⟨hil, hnl⟩ := List.nodup_cons.1 hn
    let S1 : Nat → Sl := fun j => if j = i then s else S0 j
    have h1 : ∀ j ∈ pre, S1 j = S0 j := fun j hj => by
      show (if j = i then s else S0 j) = S0 j
      rw [if_neg (by rintro rfl; exact hi hj)]
    have h1i : S1 i = s := by show (if i = i then s else S0 i) = s; rw [if_pos rfl]
    have hdst : dstOf ops i = o.dst := by simp [dstOf, ho]
    have he : envOf ops S1 (i :: pre) = setS (envOf ops S0 pre) o.dst s := by
      simp only [envOf]
      rw [envOf_congr pre h1, h1i, hdst]
    rw [← he] at hr
    obtain ⟨S, hS, hT, hP⟩ := TCL.facts l (i :: pre) S1 (fun j hj hm => by
      rcases List.mem_cons.1 hm with rfl | hm
      · exact hil hj
      · exact hd j (List.mem_cons_of_mem _ hj) hm) hnl hr
    have hpe : envOf ops S pre = envOf ops S0 pre := envOf_congr pre (fun j hj => (hS j (List.mem_cons_of_mem _ hj)).trans (h1 j hj))
    have hie : S i = s := by rw [hS i List.mem_cons_self, h1i]
    refine ⟨S, fun j hj => (hS j (List.mem_cons_of_mem _ hj)).trans (h1 j hj), ⟨⟨o, ho, hok, ?_, ?_, ?_⟩, hT⟩, ?_⟩
    · rw [hie]; exact hl
    · rw [hie, hpe]; exact hst
    · rw [hie, hpe]; exact hpu
    · simpa using hP
theorem TCLs.at_ {P : Program} {R : World → World → Prop} {w0 : World} {ops : Array Oper} {B : Array Nat} {pu : List Nat} {env : Env} {N : Nat} {lp : List Nat} {S : Nat → Sl} : ∀ (l pre tl : List Nat), TCLs P R w0 ops env N lp S pre l → okOrd ops B pu pre (l ++ tl) = true → ∀ i ∈ l,
    ∃ pre' : List Nat, (∀ j ∈ pre', j ∈ pre ∨ j ∈ l) ∧ (pre.Nodup → (∀ j ∈ l, j ∉ pre) → l.Nodup → pre'.Nodup) ∧
      ∃ o, ops[i]? = some o ∧ dstOk N o.dst = true ∧ (S i).lasts R ∧ StepOk P R w0 ops env (envOf ops S pre') o (S i) ∧ (lp.contains i = true → PureOk P ops env (envOf ops S pre') o (S i)) ∧ ∀ t ∈ o.looksAt ops, okLook ops B pu pre' i t = true
  | [], _, _, _, _, i, hi => by cases hi
  | k :: l, pre, tl, h, hok, i, hi => by
    obtain ⟨⟨o, ho, hd, hl, hst, hpu⟩, hr⟩ := h
    simp only [List.cons_append, okOrd, Bool.and_eq_true] at hok
    rcases List.mem_cons.1 hi with rfl | hi
    · refine ⟨pre, fun j hj => .inl hj, fun h _ _ => h, o, ho, hd, hl, hst, hpu, ?_⟩
      have h1 := hok.1
      simp only [ho, Bool.and_eq_true] at h1
      exact fun t ht => List.all_eq_true.1 h1.2 t ht
    · obtain ⟨pre', h1, h2, h3⟩ := TCLs.at_ l (k :: pre) tl hr hok.2 i hi
      refine ⟨pre', fun j hj => ?_, fun hn hdj hnd => ?_, h3⟩
      · rcases h1 j hj with h | h
        · rcases List.mem_cons.1 h with rfl | h
          · exact .inr List.mem_cons_self
          · exact .inl h
        · exact .inr (List.mem_cons_of_mem _ h)
      · obtain ⟨hkl, hnl⟩ := List.nodup_cons.1 hnd
        refine h2 (List.nodup_cons.2 ⟨hdj k List.mem_cons_self, hn⟩) (fun j hj hm => ?_) hnl
        rcases List.mem_cons.1 hm with rfl | hm
        · exact hkl hj
        · exact hdj j (List.mem_cons_of_mem _ hj) hm

section main
variable {P : Program} {R : World → World → Prop} {w0 : World} {ops : Array Oper} {B : Array Nat} {env : Env} {N : Nat} {S : Nat → Sl} {Q : Exit → Act → World → Prop}

/-- An operation that looks at no memory, as soon as it can be taken. -/
theorem front_pure (hN : okNoSel ops = true) (hD : okDst ops = true) {pu front : List Nat} {listed : Array Bool} {a : Act} {w : World} (hI : Inv R w0 ops env N S pu front listed a w) (hrefl : ∀ a, R a a)
    (htr : ∀ a b c, R a b → R b c → R a c) (hS : ∀ i ∈ front, (S i).lasts R)
    {i : Nat} (hif : i ∈ front) (hi : i < ops.size) (hn : ¬ Lst listed i) {o : Oper} (ho : ops[i]? = some o) (ha : ∀ e ∈ o.after, Region.binds .any e = true → Lst listed e.on)
    {pre : List Nat} (hpf : ∀ j ∈ pre, j ∈ front) (hdj : ∀ j ∈ front, j ∉ pu) (hpn : pre.Nodup) (hd : dstOk N o.dst = true) (hst : PureOk P ops env (envOf ops S pre) o (S i)) (hlk : ∀ t ∈ o.looksAt ops, okLook ops B pu pre i t = true)
    (hB : okB ops B = true) : ∃ v, Yields P ops o v a ∧ Inv R w0 ops env N S pu front (listed.setIfInBounds i true) (a.put o.dst v) w := by
  classical
  have hsee : ∀ t ∈ o.looksAt ops, ∀ s, lookS (envOf ops S pre) env t = some s → s.ok (a.tmps.getD t undef) w := by
    intro t ht s hs
    have hl := hlk t ht
    have anc : ∀ j, (B.getD i 0).testBit j = true → Lst listed j := fun j hj => anc_listed hB hI.closed i j ⟨o, ho, hj, ha⟩
    have hj : ∀ j d, dstOf ops j = some d → d = t → if pre.contains j = true then Lst listed j else (j ∈ pu ∨ j = i ∨ ¬ Lst listed j) := by
      intro j d hjd hdt
      have hjl : j < ops.size := by
        rcases Nat.lt_or_ge j ops.size with h1 | h1
        · exact h1
        · simp [dstOf, Array.getElem?_eq_none h1] at hjd
      have h1 := List.all_eq_true.1 hl j (List.mem_range.2 hjl)
      simp only [hjd, hdt, Nat.beq_refl, Bool.not_true, Bool.false_or] at h1
      split at h1
      · rename_i hc; rw [if_pos hc]; exact anc j h1
      · rename_i hc
        rw [if_neg hc]
        rcases (Bool.or_eq_true _ _).mp h1 with h2 | h2
        · rcases (Bool.or_eq_true _ _).mp h2 with h2 | h2
          · exact .inl (by simpa using h2)
          · exact .inr (.inl (Nat.eq_of_beq_eq_true h2))
        · refine .inr (.inr fun hlj => hn ?_)
          obtain ⟨oj, hoj⟩ : ∃ oj, ops[j]? = some oj := ⟨ops[j], Array.getElem?_eq_getElem hjl⟩
          exact anc_of_listed hB hI.closed hoj hlj h2
    rcases lookS_envOf (S := S) (env := env) hD t pre hpn with ⟨j, hjp, hjd, he⟩ | ⟨hno, he⟩
    · rw [he] at hs
      cases hs
      have h1 := hj j t hjd rfl
      rw [if_pos (by simpa using hjp)] at h1
      exact hI.facts j (hpf j hjp) t h1 hjd
    · rw [he] at hs
      simp only [lookS] at hs
      cases hg : getE env t with
      | none => rw [hg] at hs; simp at hs
      | some v =>
        rw [hg] at hs
        simp only [Option.some.injEq] at hs
        subst hs
        refine hI.rest t v hg fun j hjf hlj hjd => ?_
        have h1 := hj j t hjd rfl
        rw [if_neg (by simpa using fun hm => hno j hm hjd)] at h1
        rcases h1 with h1 | rfl | h1
        · exact hdj j hjf h1
        · exact hn hlj
        · exact h1 hlj
  have put : ∀ v, (S i).ok v w → Inv R w0 ops env N S pu front (listed.setIfInBounds i true) (a.put o.dst v) w := by
    intro v hv
    have hdst : dstOf ops i = o.dst := by simp [dstOf, ho]
    have hget : ∀ t, (a.put o.dst v).tmps.getD t undef = if o.dst = some t then v else a.tmps.getD t undef := by
      intro t
      cases hod : o.dst with
      | none => simp [Act.put]
      | some d =>
        rw [hod] at hd
        have hdN : d < N := by simpa [dstOk, Nat.blt_eq] using hd
        simp only [Act.put, Option.some.injEq]
        by_cases hdt : d = t
        · subst hdt; simp [Array.getD_eq_getD_getElem?, hI.size, hdN]
        · simp [Array.getD_eq_getD_getElem?, hdt]
    refine ⟨hI.rel, ?_, ?_, by simp [hI.lsize], closed_set hI.lsize hI.closed ho hi ha, fun k hk => (lst_set (by rw [hI.lsize]; exact hi)).2 (.inr (hI.pure_ k hk)), fun k hk => ?_, fun k hkf d hk hkd => ?_, fun t u hu hk => ?_⟩
    · cases o.dst <;> simp [Act.put, hI.size]
    · cases o.dst <;> simp [Act.put, hI.defers]
    · rcases (lst_set (by rw [hI.lsize]; exact hi)).1 hk with rfl | hk
      · exact .inr hif
      · exact hI.inFront k hk
    · rw [hget]
      rcases (lst_set (by rw [hI.lsize]; exact hi)).1 hk with rfl | hk
      · rw [hdst] at hkd
        rw [if_pos hkd]; exact hv
      · rw [if_neg (by intro e; rw [← hdst] at e; have := okDst_spec hD e hkd; subst this; exact hn hk)]
        exact hI.facts k hkf d hk hkd
    · rw [hget]
      have h1 := hk i hif ((lst_set (by rw [hI.lsize]; exact hi)).2 (.inl rfl))
      rw [if_neg (by rw [← hdst]; exact h1)]
      exact hI.rest t u hu fun j hjf hj => hk j hjf ((lst_set (by rw [hI.lsize]; exact hi)).2 (.inr hj))
  have wok : ∀ b, wantS ops (envOf ops S pre) env o.guard = some b → Region.wanted o (yielded ops a.tmps) = b := by
    intro b hb
    unfold wantS at hb
    unfold Region.wanted
    split at hb
    · rename_i hg; rw [hg]; cases hb; rfl
    · rename_i j want hg
      rw [hg]
      split at hb
      · rename_i o' ho'
        split at hb
        · rename_i d hdd
          split at hb
          · rename_i x hx
            cases hb
            have hm : d ∈ o.looksAt ops := by
              unfold Oper.looksAt
              rw [hg]
              simp [ho', hdd]
            have hv := hsee d hm _ hx
            simp only [Sl.ok] at hv
            have : yielded ops a.tmps j = some x := by
              unfold yielded
              simp only [ho', Option.bind_some, hdd]
              rw [Array.getD_eq_getD_getElem?] at hv
              cases he : a.tmps[d]? with
              | none => rw [he] at hv; simp [undef] at hv
              | some y => rw [he] at hv; simp at hv; subst hv; rfl
            simp only [this]
            cases x <;> cases want <;> rfl
          · rename_i ts hx
            cases hb
            have hm : d ∈ o.looksAt ops := by
              unfold Oper.looksAt
              rw [hg]
              simp [ho', hdd]
            have hv := hsee d hm _ hx
            simp only [Sl.ok] at hv
            have : yielded ops a.tmps j = none := by
              unfold yielded
              simp only [ho', Option.bind_some, hdd]
              rw [Array.getD_eq_getD_getElem?] at hv
              cases he : a.tmps[d]? with
              | none => rfl
              | some y => rw [he] at hv; simp at hv; subst hv; rfl
            simp only [this]
            rfl
          · cases hb
        · cases hb
      · cases hb
  obtain ⟨v, hs, hst⟩ := hst
  refine ⟨v, ?_, put v (by rw [hs]; rfl)⟩
  rcases hst with ⟨hw, hop⟩ | ⟨hw, hv⟩
  · refine .inl ⟨wok _ hw, ?_⟩
    let ev : Operand → Value := fun x => if x ∈ o.op.operands then a.eval x else match opL (envOf ops S pre) env x with | some v => v | none => undef
    have hev : EvOk (opL (envOf ops S pre) env) ev := by
      intro x v hx
      show (if x ∈ o.op.operands then a.eval x else _) = v
      by_cases hxo : x ∈ o.op.operands
      · rw [if_pos hxo]
        cases x with
        | tmp t =>
          have hm : t ∈ o.looksAt ops := List.mem_append_left _ (List.mem_filterMap.2 ⟨.tmp t, by simpa using hxo, rfl⟩)
          simp only [opL] at hx
          split at hx
          · rename_i u hu
            cases hx
            exact hsee t hm _ hu
          · cases hx
        | const u => simpa [opL, Act.eval] using hx
        | global g => simpa [opL, Act.eval] using hx
        | func f => simpa [opL, Act.eval] using hx
      · rw [if_neg hxo, hx]
    have hcg : execOp ev o = execOp a.eval o := execOp_congr o (fun cs b => okNoSel_spec hN ho cs b) fun x hx => by
      show (if x ∈ o.op.operands then a.eval x else _) = _
      rw [if_pos hx]
    have h1 := hop ev hev
    rw [hcg] at h1
    exact h1
  · exact .inr ⟨wok _ hw, hv⟩

/-- Free, as soon as what it comes after is listed. -/
def freeB (ops : Array Oper) (B : Array Nat) (i : Nat) : Bool := match ops[i]? with
  | none => false
  | some oi => (List.range ops.size).all fun j => Nat.beq j i || (B.getD i 0).testBit j || match ops[j]? with
      | some oj => oj.after.any (fun e => Region.binds .any e && e.on == i) || oi.apart ops oj
      | none => true

def okRL (ops : Array Oper) (pu front lp tail : List Nat) : Bool :=
  let B := Region.before ops
  okB ops B && okDst ops && ((pu ++ (front ++ tail)).length == ops.size && (List.range ops.size).all fun i => (pu ++ (front ++ tail)).contains i) && okOrd ops B pu [] (front ++ tail) &&
    okTail B (front.filter fun i => !lp.contains i).reverse tail && okNoSel ops && okPu ops (Array.replicate ops.size false) pu && (lp.all fun i => front.contains i && freeB ops B i && tail.all fun j => !(B.getD i 0).testBit j)

theorem foldl_keep (f : Edge → Bool) (B : Array Nat) (j : Nat) : ∀ (l : List Edge) (s : Nat), s.testBit j = true → (l.foldl (fun s e => if f e then s ||| 2 ^ e.on ||| B.getD e.on 0 else s) s).testBit j = true
  | [], s, h => h
  | e :: l, s, h => by
    rw [List.foldl_cons]
    refine foldl_keep f B j l _ ?_
    split
    · simp only [Nat.testBit_or, h, Bool.true_or]
    · exact h
theorem foldl_has (f : Edge → Bool) (B : Array Nat) {e : Edge} (hf : f e = true) : ∀ (l : List Edge) (s : Nat), e ∈ l → (l.foldl (fun s e => if f e then s ||| 2 ^ e.on ||| B.getD e.on 0 else s) s).testBit e.on = true
  | [], s, h => by cases h
  | x :: l, s, h => by
    rw [List.foldl_cons]
    rcases List.mem_cons.1 h with rfl | h
    · refine foldl_keep f B e.on l _ ?_
      rw [if_pos hf]
      simp [Nat.testBit_or, Nat.testBit_two_pow]
    · exact foldl_has f B hf l _ h
theorem okTail_sub {B : Array Nat} : ∀ (l pre pre' : List Nat), okTail B pre l = true → (∀ i ∈ pre', i ∈ pre) → okTail B pre' l = true
  | [], _, _, _, _ => rfl
  | x :: l, pre, pre', h, hs => by
    simp only [okTail, Bool.and_eq_true] at h ⊢
    refine ⟨List.all_eq_true.2 fun j hj => List.all_eq_true.1 h.1 j (hs j hj), okTail_sub l (x :: pre) (x :: pre') h.2 fun i hi => ?_⟩
    rcases List.mem_cons.1 hi with rfl | hi
    · exact List.mem_cons_self
    · exact List.mem_cons_of_mem _ (hs i hi)
theorem okTail_anc {B : Array Nat} {k i : Nat} : ∀ (l pre : List Nat), okTail B pre l = true → k ∈ pre → i ∈ l → (B.getD i 0).testBit k = true
  | [], _, _, _, h => by cases h
  | x :: l, pre, hp, hk, hi => by
    simp only [okTail, Bool.and_eq_true] at hp
    rcases List.mem_cons.1 hi with rfl | hi
    · exact List.all_eq_true.1 hp.1 k hk
    · exact okTail_anc l (x :: pre) hp.2 (List.mem_cons_of_mem _ hk) hi

theorem front_runL {pu front lp tail : List Nat} (hok : okRL ops pu front lp tail = true) (hnp : NoPanic Q) (hrefl : ∀ a, R a a) (htr : ∀ a b c, R a b → R b c → R a c) (hT : TCLs P R w0 ops env N lp S [] front)
    (hP : ∀ a w, R w0 w → FrS N (envOf ops S front.reverse) env a w → wpOps P ops Q tail a w) : ∀ (fuel : Nat) (listed : Array Bool) (a : Act) (w : World),
    Inv R w0 ops env N S pu front listed a w → fuel = unl listed (front ++ tail) → wpAny P .any ops Q fuel listed a w := by
  simp only [okRL, Bool.and_eq_true, beq_iff_eq] at hok
  obtain ⟨⟨⟨⟨⟨⟨⟨hB, hD⟩, hlen, hcov⟩, hO⟩, hTl⟩, hN⟩, _⟩, hLp⟩ := hok
  obtain ⟨hin, hnd⟩ := okOrd_nodup _ _ hO
  have hndf : front.Nodup := (List.nodup_append.1 hnd).1
  have hndt : tail.Nodup := (List.nodup_append.1 hnd).2.1
  have hft : ∀ i ∈ front, ∀ j ∈ tail, i ≠ j := (List.nodup_append.1 hnd).2.2
  have hlp : ∀ i ∈ lp, i ∈ front ∧ freeB ops (Region.before ops) i = true ∧ ∀ j ∈ tail, ((Region.before ops).getD i 0).testBit j = false := fun i hi => by
    have h := List.all_eq_true.1 hLp i hi
    simp only [Bool.and_eq_true] at h
    exact ⟨by simpa using h.1.1, h.1.2, fun j hj => by simpa using List.all_eq_true.1 h.2 j hj⟩
  have hsel : Region.noSelect ops = true := Array.all_eq_true_iff_forall_mem.2 fun o' ho' => by
    have h1 := List.all_eq_true.1 hN o' (by simpa using ho')
    exact h1
  have hall : ∀ i, i < ops.size → i ∈ pu ∨ i ∈ front ∨ i ∈ tail := by
    intro i hi
    have h1 := List.all_eq_true.1 hcov i (List.mem_range.2 hi)
    have h2 : i ∈ pu ++ (front ++ tail) := by simpa using h1
    rcases List.mem_append.1 h2 with h2 | h2
    · exact .inl h2
    · exact .inr (List.mem_append.1 h2)
  have hlt : ∀ i, i ∈ front ∨ i ∈ tail → i < ops.size := fun i hi => (hin i (List.mem_append.2 hi)).2.1
  have hpu : ∀ i, i ∈ front ∨ i ∈ tail → i ∉ pu := fun i hi => (hin i (List.mem_append.2 hi)).2.2
  have hT' := hT.tcs
  have done : ∀ (listed : Array Bool) (a : Act) (w : World), Inv R w0 ops env N S pu front listed a w → (∀ i ∈ front, Lst listed i) → wpAny P .any ops Q (unl listed (front ++ tail)) listed a w := by
    intro listed a w hI hf
    have hu : unl listed (front ++ tail) = tail.length := by
      unfold unl
      rw [List.filter_append, List.length_append]
      have h1 : front.filter (fun i => !listed.getD i false) = [] := List.filter_eq_nil_iff.2 fun i hi => by
        have := hf i hi
        unfold Lst at this
        simp [this]
      have h2 : tail.filter (fun i => !listed.getD i false) = tail := List.filter_eq_self.2 fun i hi => by
        have hn : ¬ Lst listed i := fun hl => by
          rcases hI.inFront i hl with h | h
          · exact hpu i (.inr hi) h
          · exact hft i h i hi rfl
        unfold Lst at hn
        simpa using hn
      rw [h1, h2]
      simp
    rw [hu]
    refine tail_run hB tail (pu ++ front) [] listed a w hI.lsize hI.closed (okTail_sub _ _ _ hTl fun _ h => by cases h) hndt (fun i hi => hlt i (.inr hi)) (fun i hi => ?_) (fun i hi => ?_) (fun j hj hm => ?_) (hP a w hI.rel ⟨hI.size, hI.defers, ?_⟩)
    · rw [List.mem_append]
      exact ⟨hI.inFront i, fun h => h.elim (hI.pure_ i) (hf i)⟩
    · rw [List.mem_append]
      rcases hall i hi with h | h | h
      · exact .inl (.inl h)
      · exact .inl (.inr h)
      · exact .inr h
    · rcases List.mem_append.1 hm with h | h
      · exact hpu j (.inr hj) h
      · exact hft j h j hj rfl
    · intro t s hs
      rcases lookS_envOf (S := S) (env := env) hD t front.reverse (List.pairwise_reverse.2 (List.Pairwise.imp (fun h => Ne.symm h) hndf)) with ⟨j, hjp, hjd, he⟩ | ⟨hno, he⟩
      · rw [he] at hs
        cases hs
        exact hI.facts j (List.mem_reverse.1 hjp) t (hf j (List.mem_reverse.1 hjp)) hjd
      · rw [he] at hs
        simp only [lookS] at hs
        cases hg : getE env t with
        | none => rw [hg] at hs; simp at hs
        | some v =>
          rw [hg] at hs
          simp only [Option.some.injEq] at hs
          subst hs
          exact hI.rest t v hg fun j hjf hlj hjd => hno j (List.mem_reverse.2 hjf) hjd
  intro fuel
  induction fuel with
  | zero =>
    intro listed a w hI hfu
    have hf : ∀ i ∈ front, Lst listed i := by
      intro i hi
      have h0 : (front ++ tail).filter (fun i => !listed.getD i false) = [] := List.length_eq_zero_iff.1 hfu.symm
      have := List.filter_eq_nil_iff.1 h0 i (List.mem_append_left _ hi)
      unfold Lst
      simpa using this
    have := done listed a w hI hf
    rwa [← hfu] at this
  | succ fuel ih =>
    intro listed a w hI hfu
    by_cases hf : ∀ i ∈ front, Lst listed i
    · have := done listed a w hI hf
      rwa [← hfu] at this
    · by_cases hp : ∃ i ∈ lp, ¬ Lst listed i ∧ ∀ o, ops[i]? = some o → ∀ e ∈ o.after, Region.binds .any e = true → Lst listed e.on
      · -- one that looks at no memory can be taken
        obtain ⟨i, hil, hn, ha⟩ := hp
        obtain ⟨hif, hfr, _⟩ := hlp i hil
        have hi := hlt i (.inl hif)
        obtain ⟨pre, hpm, hpn, o, ho, hd, hl, hst, hpk, hlk⟩ := TCLs.at_ front [] tail hT hO i hif
        have ha := ha o ho
        obtain ⟨v, hy, hI'⟩ := front_pure hN hD hI hrefl htr (TCs.lasts_ front [] hT') hif hi hn ho ha (fun j hj => (hpm j hj).resolve_left (by simp)) (fun j hj => hpu j (.inl hj)) (hpn List.nodup_nil (fun _ _ h => by cases h) hndf) hd (hpk (by simpa using hil)) hlk hB
        have hfree : Region.free .any ops listed i = true := by
          unfold freeB at hfr
          unfold Region.free
          rw [ho] at hfr ⊢
          simp only at hfr ⊢
          refine List.all_eq_true.2 fun j hj => ?_
          have h1 := List.all_eq_true.1 hfr j hj
          simp only [Bool.or_eq_true] at h1 ⊢
          rcases h1 with (h1 | h1) | h1
          · exact .inl (.inl (by simpa using Nat.eq_of_beq_eq_true h1))
          · refine .inl (.inr ?_)
            have hlj : Lst listed j := anc_listed hB hI.closed i j ⟨o, ho, h1, ha⟩
            have hjl := List.mem_range.1 hj
            unfold Lst at hlj
            rw [Array.getD_eq_getD_getElem?, Array.getElem?_eq_getElem (by rw [hI.lsize]; exact hjl)] at hlj ⊢
            exact hlj
          · exact .inr h1
        have hready : i ∈ Region.ready .any ops listed := ready_mk hI.lsize ho hn ha
        refine wpAny_take ho hsel hfree (by simpa using hready) (fun c a w hq => absurd hq (hnp c _ w)) hy (ih _ _ _ hI' ?_)
        have := unl_set (listed := listed) (i := i) (by rw [hI.lsize]; exact hi) hn (front ++ tail) hnd (List.mem_append_left _ hif)
        omega
      · -- none of lp is ready: one of the others of the front is not listed
        have hk : ∃ k ∈ front, k ∉ lp ∧ ¬ Lst listed k := by
          by_cases h : ∃ k ∈ front, k ∉ lp ∧ ¬ Lst listed k
          · exact h
          · exfalso
            have hrest : ∀ k ∈ front, k ∉ lp → Lst listed k := fun k hk hkl => Classical.byContradiction fun hn => h ⟨k, hk, hkl, hn⟩
            have key : ∀ n, ∀ i, i < n → i ∈ lp → Lst listed i := by
              intro n
              induction n with
              | zero => intro i hi; omega
              | succ n ihn =>
                intro i hin hil
                refine Classical.byContradiction fun hn => hp ⟨i, hil, hn, fun o ho e he hb => ?_⟩
                have hei := (okB_spec hB ho).1 e he hb
                obtain ⟨hif, _, htl⟩ := hlp i hil
                have hel : e.on < ops.size := by have := hlt i (.inl hif); omega
                rcases hall e.on hel with h1 | h1 | h1
                · exact hI.pure_ _ h1
                · by_cases h2 : e.on ∈ lp
                  · exact ihn e.on (by omega) h2
                  · exact hrest _ h1 h2
                · exfalso
                  have h2 := htl e.on h1
                  have h3 : ((Region.before ops).getD i 0).testBit e.on = true := by
                    have h4 := List.all_eq_true.1 hB i (List.mem_range.2 (hlt i (.inl hif)))
                    simp only [ho, Bool.and_eq_true, beq_iff_eq] at h4
                    rw [h4.2]
                    exact foldl_has (Region.binds .any) (Region.before ops) hb o.after.toList 0 (by simpa using he)
                  rw [h2] at h3
                  cases h3
            refine hf fun i hi => ?_
            by_cases h2 : i ∈ lp
            · exact key (i + 1) i (by omega) h2
            · exact hrest i hi h2
        obtain ⟨k, hk, hkl, hkn⟩ := hk
        refine ⟨fun hr => absurd hr (ready_ex hB hI.lsize k (hlt k (.inl hk)) hkn), fun i hi => ?_⟩
        obtain ⟨o, ho, hil, hn, ha⟩ := ready_spec hI.lsize hi
        have hif : i ∈ front := by
          rcases hall i hil with h | h | h
          · exact absurd (hI.pure_ i h) hn
          · exact h
          · exfalso
            have hb := okTail_anc tail _ hTl (List.mem_reverse.2 (List.mem_filter.2 ⟨hk, by simpa using hkl⟩)) h
            exact hkn (anc_listed hB hI.closed i k ⟨o, ho, hb, ha⟩)
        obtain ⟨pre, hpm, hpn, o', ho', hd, hl, hst, hlk⟩ := TCs.at_ front [] tail hT' hO i hif
        rw [ho] at ho'
        cases ho'
        refine front_step hN hD hI hrefl htr (TCs.lasts_ front [] hT') hif hil hn ho ha (fun j hj => (hpm j hj).resolve_left (by simp)) (fun j hj => hpu j (.inl hj)) (hpn List.nodup_nil (fun _ _ h => by cases h) hndf) hd hst hlk hB fun a' w' hI' => ih _ a' w' hI' ?_
        have := unl_set (listed := listed) (i := i) (by rw [hI.lsize]; exact hil) hn (front ++ tail) hnd (List.mem_append_left _ hif)
        omega

/-- **Whatever order is drawn**, with operations that look at no memory among the front that may come late. -/
theorem wp_factsL {id : Nat} {pu front lp tail : List Nat} {w : World} (hm : P.follows .mixedOrders = true) (hok : okRL ops pu front lp tail = true) (hnp : NoPanic Q) (hrefl : ∀ a, R a a) (htr : ∀ a b c, R a b → R b c → R a c)
    (hdw : R w { w with drawn := w.drawn + 1 })
    (h : TP P ops env N (fun Γ0 => TCL P R w ops (detE Γ0 env) N lp (fun Γ => ∀ a w', R w w' → FrS N Γ (detE Γ0 env) a w' → wpOps P ops Q tail a w') front []) pu []) :
    CW P (.region id ops true) Q N env w := by
  intro a ha
  have hok' := hok
  simp only [okRL, Bool.and_eq_true, beq_iff_eq] at hok'
  obtain ⟨⟨⟨⟨⟨⟨⟨hB, hD⟩, hlen, hcov⟩, hO⟩, hTl⟩, hN⟩, hPu⟩, _⟩ := hok'
  obtain ⟨hin, hnd⟩ := okOrd_nodup _ _ hO
  have hnl : ∀ i, ¬ Lst (Array.replicate ops.size false) i := by
    intro i hl
    unfold Lst at hl
    rw [Array.getD_eq_getD_getElem?, Array.getElem?_replicate] at hl
    split at hl <;> simp at hl
  refine wp_region_any hm ?_
  have hF0 : FrS N [] env a { w with drawn := w.drawn + 1 } := ⟨ha.size, ha.defers, fun t s hs => by
    simp only [lookS] at hs
    cases hg : getE env t with
    | none => rw [hg] at hs; simp at hs
    | some v => rw [hg] at hs; simp only [Option.some.injEq] at hs; subst hs; exact ha.val t v hg⟩
  rw [show ops.size = pu.length + (front ++ tail).length from by rw [← hlen, List.length_append]]
  rw [show Array.replicate (pu.length + (front ++ tail).length) false = Array.replicate ops.size false from by rw [← hlen]; simp only [List.length_append]]
  refine pure_run hN hnp pu _ (front ++ tail).length [] a _ (by simp) hPu hF0 (fun i _ _ hl => absurd hl (hnl i)) h fun listed' Γ' a' hs' hl' hc' hF' hK' => ?_
  obtain ⟨S, _, hT, hP⟩ := TCL.facts front [] (fun _ => .det undef) (by simp) (List.nodup_append.1 hnd).1 hK'
  have hp := hF'.plain
  refine front_runL (S := S) hok hnp hrefl htr hT (by simpa using hP) (front ++ tail).length _ a' _ ⟨hdw, hp.size, hp.defers, hs', hc', fun i hi => (hl' i).2 (.inr hi), fun i hi => .inl (((hl' i).1 hi).resolve_left (hnl i)), fun i hi d hl _ => ?_, fun t v hv _ => hp.val t v hv⟩ ?_
  · exact absurd (((hl' i).1 hl).resolve_left (hnl i)) (hin i (List.mem_append_left _ hi)).2.2
  · unfold unl
    refine congrArg List.length (List.filter_eq_self.2 fun i hi => ?_).symm
    have : ¬ Lst listed' i := fun hl => (hin i hi).2.2 (((hl' i).1 hl).resolve_left (hnl i))
    unfold Lst at this
    simpa only [Bool.not_eq_true, Bool.not_eq_true'] using this

end main

section
variable {P : Program} {R : World → World → Prop} {w0 : World} {ops : Array Oper} {env : Env} {N : Nat} {lp : List Nat} {Post : SEnv → Prop} {rest : List Nat} {Γ : SEnv} {i : Nat} {op : Op} {ty : TypeId} {pos : String} {aft : Array Edge} {g : Option (Nat × Bool)} {d : Option Nat}
/-- The next of the chain. -/
theorem TCL.step (h : TC1 P R w0 ops env N (fun Γ => TCL P R w0 ops env N lp Post rest Γ) [] Γ { dst := d, op, type := ty, pos, after := aft, guard := g }) (hi : lp.contains i = false := by with_unfolding_all exact rfl)
    (ho : ops[i]? = some { dst := d, op, type := ty, pos, after := aft, guard := g } := by with_unfolding_all exact rfl) : TC P R w0 ops env N (fun Γ => TCL P R w0 ops env N lp Post (i :: rest) Γ) [] Γ := by
  obtain ⟨s, h1, h2, h3, h4⟩ := h
  exact ⟨_, s, ho, h1, h2, h3, (fun h => by rw [hi] at h; cases h), h4⟩
/-- The next of the chain, which looks at no memory. -/
theorem TCL.stepP (h : TP1 P ops env N (fun Γ => TCL P R w0 ops env N lp Post rest Γ) [] Γ { dst := d, op, type := ty, pos, after := aft, guard := g }) (hrefl : ∀ a, R a a)
    (ho : ops[i]? = some { dst := d, op, type := ty, pos, after := aft, guard := g } := by with_unfolding_all exact rfl) : TC P R w0 ops env N (fun Γ => TCL P R w0 ops env N lp Post (i :: rest) Γ) [] Γ := by
  obtain ⟨v, h1, h2, h3⟩ := h
  have h4 : PureOk P ops env Γ { dst := d, op, type := ty, pos, after := aft, guard := g } (.det v) := ⟨v, rfl, h2⟩
  exact ⟨_, .det v, ho, h1, Sl.lasts_det R v, h4.step hrefl, fun _ => h4, h3⟩
theorem TCL.begin (h : TC P R w0 ops env N (fun Γ => TCL P R w0 ops env N lp Post rest Γ) [] Γ) : TCL P R w0 ops env N lp Post rest Γ := h
theorem TCL.back (h : TC P R w0 ops env N Post [] Γ) : TC P R w0 ops env N (fun Γ => TCL P R w0 ops env N lp Post [] Γ) [] Γ := h
theorem TPL.back (h : TC P R w0 ops env N (fun Γ => TCL P R w0 ops env N lp Post rest Γ) [] Γ) : TP P ops env N (fun Γ => TCL P R w0 ops env N lp Post rest Γ) [] Γ := h
end

end Go.Proofs.YtmilpjkjcanghaaDoor

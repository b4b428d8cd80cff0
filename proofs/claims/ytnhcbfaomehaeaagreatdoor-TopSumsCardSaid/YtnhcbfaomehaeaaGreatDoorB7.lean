/- A region whose order is drawn: the theorem. -/
import Derived.Test.YtnhcbfaomehaeaaGreatDoorB6
namespace Go.Proofs.YtnhcbfaomehaeaaGreatDoor.R1
open Go
set_option linter.unusedVariables false
set_option linter.unusedSimpArgs false

/-! ## What is listed -/

section listed
variable {ops : Array Oper}

noncomputable def Lst (listed : Array Bool) (i : Nat) : Prop := listed.getD i false = true
noncomputable def Closed (ops : Array Oper) (listed : Array Bool) : Prop := ∀ i o, ops[i]? = some o → Lst listed i → ∀ e ∈ o.after, Region.binds .any e = true → Lst listed e.on

theorem ready_spec {listed : Array Bool} (hs : listed.size = ops.size) {i : Nat} (h : i ∈ Region.ready .any ops listed) :
    ∃ o, ops[i]? = some o ∧ i < ops.size ∧ ¬ Lst listed i ∧ ∀ e ∈ o.after, Region.binds .any e = true → Lst listed e.on := by
  unfold Region.ready at h
  obtain ⟨h1, h2⟩ := List.mem_filter.1 h
  have hi := List.mem_range.1 h1
  have ho : ops[i]? = some ops[i] := Array.getElem?_eq_getElem hi
  rw [ho] at h2
  simp only [Option.map_some, Option.getD_some, Bool.and_eq_true, Bool.not_eq_true'] at h2
  refine ⟨ops[i], ho, hi, ?_, fun e he hb => ?_⟩
  · unfold Lst
    have h3 := h2.1
    simp only [Array.getD_eq_getD_getElem?] at h3 ⊢
    rw [Array.getElem?_eq_getElem (by omega)] at h3 ⊢
    simp only [Option.getD_some] at h3 ⊢
    simp [h3]
  · have h3 := Array.all_eq_true_iff_forall_mem.1 h2.2 e he
    simpa [hb, Lst] using h3

theorem ready_mk {listed : Array Bool} (hs : listed.size = ops.size) {i : Nat} {o : Oper} (ho : ops[i]? = some o) (hn : ¬ Lst listed i) (ha : ∀ e ∈ o.after, Region.binds .any e = true → Lst listed e.on) :
    i ∈ Region.ready .any ops listed := by
  have hi : i < ops.size := (Array.getElem?_eq_some_iff.1 ho).1
  unfold Region.ready
  refine List.mem_filter.2 ⟨List.mem_range.2 hi, ?_⟩
  rw [ho]
  simp only [Option.map_some, Option.getD_some, Bool.and_eq_true, Bool.not_eq_true']
  refine ⟨?_, Array.all_eq_true_iff_forall_mem.2 fun e he => ?_⟩
  · unfold Lst at hn
    simp only [Array.getD_eq_getD_getElem?] at hn ⊢
    rw [Array.getElem?_eq_getElem (by omega)] at hn ⊢
    simpa using hn
  · by_cases hb : Region.binds .any e = true
    · have := ha e he hb
      simp only [hb, Bool.not_true, Bool.false_or]; exact this
    · simp at hb; simp [hb]

theorem ready_ex (hE : ∀ (i : Nat) (o : Oper), ops[i]? = some o → ∀ e ∈ o.after, Region.binds .any e = true → e.on < i) {listed : Array Bool} (hs : listed.size = ops.size) : ∀ i, i < ops.size → ¬ Lst listed i → Region.ready .any ops listed ≠ [] := by
  intro i
  induction i using Nat.strongRecOn with
  | _ i ih =>
    intro hi hn hr
    have ho : ops[i]? = some ops[i] := Array.getElem?_eq_getElem hi
    by_cases ha : ∀ e ∈ ops[i].after, Region.binds .any e = true → Lst listed e.on
    · have := ready_mk hs ho hn ha
      rw [hr] at this
      cases this
    · simp only [Classical.not_forall] at ha
      obtain ⟨e, he, hb, hne⟩ := ha
      have hlt := hE i _ ho e he hb
      exact ih e.on hlt (by omega) hne hr

theorem lst_set {listed : Array Bool} {i j : Nat} (hi : i < listed.size) : Lst (listed.setIfInBounds i true) j ↔ j = i ∨ Lst listed j := by
  unfold Lst
  simp only [Array.getD_eq_getD_getElem?]
  by_cases h : i = j
  · subst h; simp [hi]
  · rw [Array.getElem?_setIfInBounds_ne h]
    constructor
    · exact .inr
    · rintro (rfl | h')
      · exact absurd rfl h
      · exact h'

noncomputable def unl (listed : Array Bool) (l : List Nat) : Nat := (l.filter fun i => !listed.getD i false).length

theorem unl_set {listed : Array Bool} {i : Nat} (hi : i < listed.size) (hn : ¬ Lst listed i) : ∀ (l : List Nat), l.Nodup → i ∈ l → unl (listed.setIfInBounds i true) l + 1 = unl listed l
  | [], _, h => by cases h
  | k :: l, hnd, h => by
    have ne : ∀ j, j ≠ i → (listed.setIfInBounds i true).getD j false = listed.getD j false := fun j hj => by
      simp only [Array.getD_eq_getD_getElem?]
      rw [Array.getElem?_setIfInBounds_ne (fun e => hj e.symm)]
    obtain ⟨hk, hnl⟩ := List.nodup_cons.1 hnd
    have keep : ∀ (l : List Nat), i ∉ l → unl (listed.setIfInBounds i true) l = unl listed l := by
      intro l hl
      unfold unl
      congr 1
      refine List.filter_congr fun j hj => ?_
      rw [ne j (by rintro rfl; exact hl hj)]
    by_cases hki : k = i
    · subst hki
      have e1 : (listed.setIfInBounds k true).getD k false = true := (lst_set hi).2 (.inl rfl)
      have e2 : listed.getD k false = false := by unfold Lst at hn; simpa using hn
      have h1 := keep l hk
      unfold unl at h1 ⊢
      simp only [List.filter_cons, e1, e2, Bool.not_true, Bool.not_false, if_true, Bool.false_eq_true, if_false, List.length_cons]
      omega
    · have hil : i ∈ l := (List.mem_cons.1 h).resolve_left (fun e => hki e.symm)
      have ih := unl_set hi hn l hnl hil
      unfold unl at ih ⊢
      have e1 := ne k hki
      simp only [List.filter_cons, e1]
      split
      · simp only [List.length_cons]; omega
      · exact ih

theorem closed_set {listed : Array Bool} (hs : listed.size = ops.size) (hc : Closed ops listed) {i : Nat} {o : Oper} (ho : ops[i]? = some o) (hi : i < ops.size)
    (ha : ∀ e ∈ o.after, Region.binds .any e = true → Lst listed e.on) : Closed ops (listed.setIfInBounds i true) := by
  intro k ok hk hl e he hb
  refine (lst_set (by omega)).2 (.inr ?_)
  rcases (lst_set (by omega)).1 hl with rfl | hl
  · rw [ho] at hk; cases hk; exact ha e he hb
  · exact hc k ok hk hl e he hb

theorem lst_lt {listed : Array Bool} {i : Nat} (h : Lst listed i) : i < listed.size := by
  unfold Lst at h
  rcases Nat.lt_or_ge i listed.size with h1 | h1
  · exact h1
  · simp [Array.getD_eq_getD_getElem?, Array.getElem?_eq_none h1] at h
end listed

theorem LR.of_get {ρ : Ren} : ∀ {l l' : List Value}, l.length = l'.length → (∀ (i : Nat) (v : Value), l[i]? = some v → ∃ v', l'[i]? = some v' ∧ VR ρ v v') → LR ρ l l'
  | [], [], _, _ => .nil
  | v :: l, v' :: l', hl, h => by
    obtain ⟨u, h1, h2⟩ := h 0 v (by simp)
    simp only [List.getElem?_cons_zero, Option.some.injEq] at h1
    subst h1
    exact .cons h2 (LR.of_get (by simpa using hl) fun i u hu => by simpa using h (i + 1) u (by simpa using hu))
  | [], _ :: _, hl, _ => by cases hl
  | _ :: _, [], hl, _ => by cases hl

section chain
variable {P : Program} {tb : Tab} {call yld : CallH} {ops : Array Oper} {σ : Nat → St} {τ : Nat → List Value} {δ : Nat → Did}

/-- What the chain says, in one place. -/
structure Ch (P : Program) (tb : Tab) (call yld : CallH) (ops : Array Oper) (σ : Nat → St) (τ : Nat → List Value) (δ : Nat → Did) : Prop where
  at_ : ∀ k o, ops[k]? = some o → AtX tb call yld ops.toList σ τ δ ((List.range' 0 k).map δ) k o
  tab : TabOk P tb
  callOk : CallOk P tb.globals call
  yldOk : YldOk P tb.globals yld

theorem Ch.op (_ : Ch P tb call yld ops σ τ δ) {k : Nat} (h : k < ops.size) : ∃ o, ops[k]? = some o := ⟨ops[k], Array.getElem?_eq_getElem h⟩

theorem Ch.tr (hc : Ch P tb call yld ops σ τ δ) {k : Nat} (h : k < ops.size) : Tr (rst (σ k)) (σ (k + 1)) := by
  obtain ⟨o, ho⟩ := hc.op h
  obtain ⟨g, hg, h1, _⟩ := (hc.at_ k o ho).ex
  exact (stepD_ok hc.tab hc.callOk hc.yldOk ho h1 hg).1

theorem Ch.nx (hc : Ch P tb call yld ops σ τ δ) : ∀ (d i : Nat), i + d ≤ ops.size → (σ i).nx ≤ (σ (i + d)).nx
  | 0, _, _ => Nat.le_refl _
  | d + 1, i, h => Nat.le_trans (hc.nx d i (by omega)) (hc.tr (k := i + d) (by omega)).nx

theorem Ch.nx' (hc : Ch P tb call yld ops σ τ δ) {i j : Nat} (h : i ≤ j) (hj : j ≤ ops.size) : (σ i).nx ≤ (σ j).nx := by
  have := hc.nx (j - i) i (by omega)
  rwa [show i + (j - i) = j from by omega] at this

theorem Ch.wf (hc : Ch P tb call yld ops σ τ δ) (h0 : Wf (σ 0)) : ∀ i, i ≤ ops.size → Wf (σ i)
  | 0, _ => h0
  | i + 1, h => (hc.tr (k := i) (by omega)).wf (hc.wf h0 i (by omega))

theorem Ch.dom (hc : Ch P tb call yld ops σ τ δ) {b : Nat} (hb : b < (σ 0).nx) (hn : (σ 0).h.get b = none) : ∀ i, i ≤ ops.size → (σ i).h.get b = none
  | 0, _ => hn
  | i + 1, h => (hc.tr (k := i) (by omega)).dom b (Nat.lt_of_lt_of_le hb (hc.nx' (Nat.zero_le i) (by omega))) (hc.dom hb hn i (by omega))

theorem Ch.wr_iff (hc : Ch P tb call yld ops σ τ δ) {k : Nat} (h : k < ops.size) {b : Nat} : (δ k).wr.testBit b = true ↔ (σ (k + 1)).wr.testBit b = true ∨ ((σ k).nx ≤ b ∧ b < (σ (k + 1)).nx) := by
  obtain ⟨o, ho⟩ := hc.op h
  obtain ⟨g, _, _, _, _, hw, _⟩ := (hc.at_ k o ho).ex
  have hx : (σ k).nx ≤ (σ (k + 1)).nx := (hc.tr h).nx
  rw [hw, lor_test, range_bit hx]
  simp

theorem Ch.keep (hc : Ch P tb call yld ops σ τ δ) (h0 : Wf (σ 0)) {j : Nat} (hj : j < ops.size) (b : Nat) (hn : ¬ (δ j).wr.testBit b = true) : (σ (j + 1)).h.get b = (σ j).h.get b := by
  rw [hc.wr_iff hj] at hn
  by_cases hb : b < (σ j).nx
  · exact (hc.tr hj).keep b hb (by cases h : (σ (j + 1)).wr.testBit b with | false => rfl | true => exact absurd (.inl h) hn)
  · rw [hc.wf h0 (j + 1) (by omega) b (by
      rcases Nat.lt_or_ge b (σ (j + 1)).nx with h | h
      · exact absurd (.inr ⟨by omega, h⟩) hn
      · exact h), hc.wf h0 j (by omega) b (by omega)]

theorem Ch.pre (_ : Ch P tb call yld ops σ τ δ) {i j : Nat} (h : j < i) : ((List.range' 0 i).map δ)[j]? = some (δ j) := by
  rw [List.getElem?_map, List.getElem?_range' (by omega)]
  simp

theorem Ch.free (hc : Ch P tb call yld ops σ τ δ) {i j : Nat} (hi : i < ops.size) (hj : j < i) (hn : ¬ (δ i).anc.testBit j = true) :
    apart (δ i).wr (Nat.lor (δ j).rd (δ j).wr) = true ∧ apart (δ j).wr (δ i).rd = true ∧ apart (δ i).ds (δ j).nm = true ∧ apart (δ j).ds (δ i).nm = true := by
  obtain ⟨o, ho⟩ := hc.op hi
  rcases freeX_ok _ 0 (hc.at_ i o ho).free j (δ j) (hc.pre hj) with h | h
  · rw [Nat.zero_add] at h; exact absurd h hn
  · exact h

theorem Ch.freeB (hc : Ch P tb call yld ops σ τ δ) : Free ops.size (fun i b => (δ i).wr.testBit b = true) (fun i b => (δ i).rd.testBit b = true ∨ (δ i).wr.testBit b = true) (fun i j => (δ i).anc.testBit j = true) := by
  intro i j hi hj hn b
  obtain ⟨h1, h2, _, _⟩ := hc.free hi hj hn
  have one : (δ i).wr.testBit b = true → ¬ ((δ j).rd.testBit b = true ∨ (δ j).wr.testBit b = true) := fun hw hu =>
    apart_ok h1 b hw (by rw [lor_test]; rcases hu with h | h <;> simp [h])
  refine ⟨one, fun hw hu => ?_⟩
  rcases hu with h | h
  · exact apart_ok h2 b hw h
  · exact one h (.inr hw)

theorem Ch.freeT (hc : Ch P tb call yld ops σ τ δ) : Free ops.size (fun i b => (δ i).ds.testBit b = true) (fun i b => (δ i).nm.testBit b = true) (fun i j => (δ i).anc.testBit j = true) := by
  intro i j hi hj hn b
  obtain ⟨_, _, h1, h2⟩ := hc.free hi hj hn
  exact ⟨apart_ok h1 b, apart_ok h2 b⟩

theorem Ch.edge (hc : Ch P tb call yld ops σ τ δ) {i : Nat} {o : Oper} (ho : ops[i]? = some o) (e : Edge) (he : e ∈ o.after) (hb : Region.binds .any e = true) : e.on < i := by
  obtain ⟨g, _, _, ha, _⟩ := (hc.at_ i o ho).ex
  exact (ancX_ok _ _ ha).1 e (by simpa using he) hb

theorem Ch.anc (hc : Ch P tb call yld ops σ τ δ) {listed : Array Bool} (hs : listed.size = ops.size) (hcl : Closed ops listed) : ∀ (i : Nat) (o : Oper), ops[i]? = some o → (∀ e ∈ o.after, Region.binds .any e = true → Lst listed e.on) → ∀ j, (δ i).anc.testBit j = true → Lst listed j := by
  intro i
  induction i using Nat.strongRecOn with
  | _ i ih =>
    intro o ho ha j hj
    obtain ⟨g, _, _, hx, _⟩ := (hc.at_ i o ho).ex
    obtain ⟨e, he, hb, h⟩ := (ancX_ok _ _ hx).2 j hj
    have he : e ∈ o.after := by simpa using he
    have hl := ha e he hb
    rcases h with rfl | ⟨d, hd, hdj⟩
    · exact hl
    · have hlt := hc.edge ho e he hb
      rw [hc.pre hlt] at hd
      cases hd
      obtain ⟨o', ho'⟩ := hc.op (k := e.on) (by rw [← hs]; exact lst_lt hl)
      exact ih e.on hlt o' ho' (fun e' he' hb' => hcl _ _ ho' hl e' he' hb') j hdj

theorem Ch.ancL (hc : Ch P tb call yld ops σ τ δ) {listed : Array Bool} (hs : listed.size = ops.size) (hcl : Closed ops listed) {j : Nat} (hj : Lst listed j) (k : Nat) (hk : (δ j).anc.testBit k = true) : Lst listed k := by
  obtain ⟨o, ho⟩ := hc.op (k := j) (by rw [← hs]; exact lst_lt hj)
  exact hc.anc hs hcl j o ho (fun e he hb => hcl _ _ ho hj e he hb) k hk

theorem Ch.ds (hc : Ch P tb call yld ops σ τ δ) {i : Nat} {o : Oper} (ho : ops[i]? = some o) {t : Nat} : (δ i).ds.testBit t = true ↔ o.dst = some t := by
  obtain ⟨g, _, _, _, _, _, _, h⟩ := (hc.at_ i o ho).ex
  rw [h]; exact dmask_ok

theorem Ch.put (hc : Ch P tb call yld ops σ τ δ) {i : Nat} {o : Oper} (ho : ops[i]? = some o) : ∃ v, putE (τ i) o.dst v = some (τ (i + 1)) := by
  obtain ⟨g, hg, h1, _⟩ := (hc.at_ i o ho).ex
  obtain ⟨_, v, h, _⟩ := stepD_ok hc.tab hc.callOk hc.yldOk ho h1 hg
  exact ⟨v, h⟩

theorem Ch.keepT (hc : Ch P tb call yld ops σ τ δ) {j : Nat} (hj : j < ops.size) (t : Nat) (hn : ¬ (δ j).ds.testBit t = true) : (τ (j + 1))[t]? = (τ j)[t]? := by
  obtain ⟨o, ho⟩ := hc.op hj
  obtain ⟨v, h⟩ := hc.put ho
  exact (putE_eq h).2.1 t (fun e => hn ((hc.ds ho).2 e))

theorem Ch.len (hc : Ch P tb call yld ops σ τ δ) : ∀ j, j ≤ ops.size → (τ j).length = (τ 0).length
  | 0, _ => rfl
  | j + 1, h => by
    obtain ⟨o, ho⟩ := hc.op (k := j) (by omega)
    obtain ⟨v, hv⟩ := hc.put ho
    rw [(putE_eq hv).1, hc.len j (by omega)]
end chain
end Go.Proofs.YtnhcbfaomehaeaaGreatDoor.R1

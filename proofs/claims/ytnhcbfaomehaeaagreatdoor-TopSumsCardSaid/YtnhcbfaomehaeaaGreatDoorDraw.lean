/- A region whose order is drawn: one fact for each operation, which lasts while the world goes on; whatever order is drawn, all facts hold at the end. -/
import Derived.Test.YtnhcbfaomehaeaaGreatDoorEng
namespace Go.Proofs.YtnhcbfaomehaeaaGreatDoor
open Go.RowKit
set_option linter.unusedVariables false
set_option linter.unusedSimpArgs false

inductive Sl where
  | det (v : Value)
  | pr (p : Value → World → Prop)

def Sl.ok : Sl → Value → World → Prop
  | .det u, v, _ => v = u
  | .pr p, v, w => p v w

def Sl.lasts (R : World → World → Prop) (s : Sl) : Prop := ∀ v w w', R w w' → s.ok v w → s.ok v w'

abbrev SEnv := List (Nat × Sl)

def lookS : SEnv → Env → Nat → Option Sl
  | [], env, t => match getE env t with
    | some v => some (.det v)
    | none => none
  | (k, s) :: r, env, t => match Nat.beq k t with
    | true => some s
    | false => lookS r env t

def setS (Γ : SEnv) (d : Option Nat) (s : Sl) : SEnv := match d with
  | some d => (d, s) :: Γ
  | none => Γ

def opL (Γ : SEnv) (env : Env) : Operand → Option Value
  | .const v => some v
  | .tmp t => match lookS Γ env t with
    | some (.det v) => some v
    | _ => none
  | .func f => some (.func (.func f) #[] #[])
  | .global g => some (.pointer (some ⟨g, 0, none⟩))

structure FrS (N : Nat) (Γ : SEnv) (env : Env) (a : Act) (w : World) : Prop where
  size : a.tmps.size = N
  defers : a.defers = []
  val : ∀ t s, lookS Γ env t = some s → s.ok (a.tmps.getD t undef) w

theorem lookS_cons (k : Nat) (s : Sl) (r : SEnv) (env : Env) (t : Nat) : lookS ((k, s) :: r) env t = if k = t then some s else lookS r env t := by
  rw [lookS]
  by_cases h : k = t
  · subst h; rw [if_pos rfl, Nat.beq_refl]
  · rw [if_neg h]
    cases hb : Nat.beq k t
    · rfl
    · exact absurd (Nat.eq_of_beq_eq_true hb) h

def wantS (ops : Array Oper) (Γ : SEnv) (env : Env) : Option (Nat × Bool) → Option Bool
  | none => some true
  | some (j, want) => match ops[j]? with
    | some o => match o.dst with
      | some d => match lookS Γ env d with
        | some (.det (.bool b)) => some (b == want)
        | some (.det (.tuple _)) => some false
        | _ => none
      | none => none
    | none => none

/-- What is owed for one operation. -/
def StepOk (P : Program) (R : World → World → Prop) (w0 : World) (ops : Array Oper) (env : Env) (Γ : SEnv) (o : Oper) (s : Sl) : Prop :=
  (wantS ops Γ env o.guard = some true ∧ ∀ ev w, R w0 w → EvOk (opL Γ env) ev → (∀ t p, Operand.tmp t ∈ o.op.operands → lookS Γ env t = some (.pr p) → p (ev (.tmp t)) w) →
    OpT P o ev w fun v w' => R w w' ∧ s.ok v w') ∨
  (wantS ops Γ env o.guard = some false ∧ s = .det undef)

/-- The chain: one operation at a time, each leaning on those alone whose values it looks at. -/
def TC (P : Program) (R : World → World → Prop) (w0 : World) (ops : Array Oper) (env : Env) (N : Nat) (Post : SEnv → Prop) : List Nat → SEnv → Prop
  | [], Γ => Post Γ
  | i :: rest, Γ => ∃ o s, ops[i]? = some o ∧ dstOk N o.dst = true ∧ s.lasts R ∧ StepOk P R w0 ops env Γ o s ∧ TC P R w0 ops env N Post rest (setS Γ o.dst s)

/-! ## The check of the region's shape -/

def dstOf (ops : Array Oper) (i : Nat) : Option Nat := (ops[i]?).bind (·.dst)

def okB (ops : Array Oper) (B : Array Nat) : Bool :=
  (List.range ops.size).all fun i => match ops[i]? with
    | some o => (o.after.toList.all fun e => !Region.binds .any e || Nat.blt e.on i) &&
        B.getD i 0 == o.after.toList.foldl (fun s e => if Region.binds .any e then s ||| 2 ^ e.on ||| B.getD e.on 0 else s) 0
    | none => false

def okDst (ops : Array Oper) : Bool :=
  (List.range ops.size).all fun i => (List.range ops.size).all fun j => Nat.beq i j || (match dstOf ops i, dstOf ops j with
    | some d, some e => !Nat.beq d e
    | _, _ => true)

def okLook (ops : Array Oper) (B : Array Nat) (pu pre : List Nat) (i t : Nat) : Bool :=
  (List.range ops.size).all fun j => match dstOf ops j with
    | some d => !Nat.beq d t || (if pre.contains j then (B.getD i 0).testBit j else pu.contains j || Nat.beq j i || (B.getD j 0).testBit i)
    | none => true

def okOrd (ops : Array Oper) (B : Array Nat) (pu : List Nat) : List Nat → List Nat → Bool
  | _, [] => true
  | pre, i :: rest => (match ops[i]? with
    | some o => !pre.contains i && !pu.contains i && (o.looksAt ops).all (okLook ops B pu pre i)
    | none => false) && okOrd ops B pu (i :: pre) rest

def okTail (B : Array Nat) : List Nat → List Nat → Bool
  | _, [] => true
  | pre, i :: rest => pre.all (fun j => (B.getD i 0).testBit j) && okTail B (i :: pre) rest

def okNoSel (ops : Array Oper) : Bool := ops.toList.all fun o => match o.op with
  | .select .. => false
  | _ => true

/-- The operations that look at no memory, taken first. -/
def okPu (ops : Array Oper) : Array Bool → List Nat → Bool
  | _, [] => true
  | listed, i :: rest => Region.free .any ops listed i && (Region.ready .any ops listed).contains i && Nat.blt i ops.size && okPu ops (listed.setIfInBounds i true) rest

def okR3 (ops : Array Oper) (pu front tail : List Nat) : Bool :=
  let B := Region.before ops
  okB ops B && okDst ops && ((pu ++ (front ++ tail)).length == ops.size && (List.range ops.size).all fun i => (pu ++ (front ++ tail)).contains i) && okOrd ops B pu [] (front ++ tail) && okTail B front.reverse tail && okNoSel ops && okPu ops (Array.replicate ops.size false) pu

def okR (ops : Array Oper) (front tail : List Nat) : Bool := okR3 ops [] front tail

/-! ## What the check says -/

section sound
variable {ops : Array Oper} {B : Array Nat}

def Lst (listed : Array Bool) (i : Nat) : Prop := listed.getD i false = true
def Closed (ops : Array Oper) (listed : Array Bool) : Prop := ∀ i o, ops[i]? = some o → Lst listed i → ∀ e ∈ o.after, Region.binds .any e = true → Lst listed e.on

theorem foldl_bit (f : Edge → Bool) (B : Array Nat) (j : Nat) : ∀ (l : List Edge) (s : Nat), (l.foldl (fun s e => if f e then s ||| 2 ^ e.on ||| B.getD e.on 0 else s) s).testBit j = true →
    s.testBit j = true ∨ ∃ e ∈ l, f e = true ∧ (e.on = j ∨ (B.getD e.on 0).testBit j = true)
  | [], s, h => .inl h
  | e :: l, s, h => by
    rw [List.foldl_cons] at h
    rcases foldl_bit f B j l _ h with h1 | ⟨x, hx, h2⟩
    · by_cases hf : f e = true
      · rw [if_pos hf] at h1
        simp only [Nat.testBit_or, Bool.or_eq_true] at h1
        rcases h1 with (h1 | h1) | h1
        · exact .inl h1
        · exact .inr ⟨e, List.mem_cons_self, hf, .inl (by simpa [Nat.testBit_two_pow] using h1)⟩
        · exact .inr ⟨e, List.mem_cons_self, hf, .inr h1⟩
      · rw [if_neg hf] at h1; exact .inl h1
    · exact .inr ⟨x, List.mem_cons_of_mem _ hx, h2⟩

theorem okB_spec (h : okB ops B = true) {i : Nat} {o : Oper} (ho : ops[i]? = some o) : (∀ e ∈ o.after, Region.binds .any e = true → e.on < i) ∧
    ∀ j, (B.getD i 0).testBit j = true → ∃ e ∈ o.after, Region.binds .any e = true ∧ (e.on = j ∨ (B.getD e.on 0).testBit j = true) := by
  have hi : i < ops.size := (Array.getElem?_eq_some_iff.1 ho).1
  have h1 := List.all_eq_true.1 h i (List.mem_range.2 hi)
  simp only [ho, Bool.and_eq_true] at h1
  refine ⟨fun e he hb => ?_, fun j hj => ?_⟩
  · have := List.all_eq_true.1 h1.1 e (by simpa using he)
    simpa [hb, Nat.blt_eq] using this
  · have e1 := beq_iff_eq.1 h1.2
    rw [e1] at hj
    rcases foldl_bit _ B j _ _ hj with h2 | ⟨e, he, h3, h4⟩
    · simp at h2
    · exact ⟨e, by simpa using he, h3, h4⟩

/-- An ancestor of what is listed is listed. -/
theorem anc_listed (h : okB ops B = true) {listed : Array Bool} (hc : Closed ops listed) : ∀ (i j : Nat), (∃ o, ops[i]? = some o ∧ (B.getD i 0).testBit j = true ∧ ∀ e ∈ o.after, Region.binds .any e = true → Lst listed e.on) → Lst listed j := by
  intro i
  induction i using Nat.strongRecOn with
  | _ i ih =>
    rintro j ⟨o, ho, hj, hall⟩
    obtain ⟨h1, h2⟩ := okB_spec h ho
    obtain ⟨e, he, hb, h3⟩ := h2 j hj
    rcases h3 with rfl | h3
    · exact hall e he hb
    · have hlt := h1 e he hb
      have hl := hall e he hb
      have hi : i < ops.size := (Array.getElem?_eq_some_iff.1 ho).1
      exact ih e.on hlt j ⟨ops[e.on], Array.getElem?_eq_getElem (by omega), h3, fun e' he' hb' => hc _ _ (Array.getElem?_eq_getElem (by omega)) hl e' he' hb'⟩

theorem anc_of_listed (h : okB ops B = true) {listed : Array Bool} (hc : Closed ops listed) {i j : Nat} {o : Oper} (ho : ops[i]? = some o) (hl : Lst listed i) (hj : (B.getD i 0).testBit j = true) : Lst listed j :=
  anc_listed h hc i j ⟨o, ho, hj, fun e he hb => hc i o ho hl e he hb⟩

theorem ready_spec {listed : Array Bool} (hs : listed.size = ops.size) {i : Nat} (h : i ∈ Region.ready .any ops listed) :
    ∃ o, ops[i]? = some o ∧ i < ops.size ∧ ¬ Lst listed i ∧ ∀ e ∈ o.after, Region.binds .any e = true → Lst listed e.on := by
  unfold Region.ready at h
  obtain ⟨h1, h2⟩ := List.mem_filter.1 h
  have hi := List.mem_range.1 h1
  have ho : ops[i]? = some ops[i] := Array.getElem?_eq_getElem hi
  rw [ho] at h2
  simp only [Option.map_some, Option.getD_some, Bool.and_eq_true, Bool.not_eq_true'] at h2
  refine ⟨ops[i], ho, hi, ?_, fun e he hb => ?_⟩
  · unfold Lst
    have h3 := h2.1
    simp only [Array.getD_eq_getD_getElem?] at h3 ⊢
    rw [Array.getElem?_eq_getElem (by omega)] at h3 ⊢
    simp only [Option.getD_some] at h3 ⊢
    simp [h3]
  · have h3 := Array.all_eq_true_iff_forall_mem.1 h2.2 e he
    simpa [hb, Lst] using h3

theorem ready_mk {listed : Array Bool} (hs : listed.size = ops.size) {i : Nat} {o : Oper} (ho : ops[i]? = some o) (hn : ¬ Lst listed i) (ha : ∀ e ∈ o.after, Region.binds .any e = true → Lst listed e.on) :
    i ∈ Region.ready .any ops listed := by
  have hi : i < ops.size := (Array.getElem?_eq_some_iff.1 ho).1
  unfold Region.ready
  refine List.mem_filter.2 ⟨List.mem_range.2 hi, ?_⟩
  rw [ho]
  simp only [Option.map_some, Option.getD_some, Bool.and_eq_true, Bool.not_eq_true']
  refine ⟨?_, Array.all_eq_true_iff_forall_mem.2 fun e he => ?_⟩
  · unfold Lst at hn
    simp only [Array.getD_eq_getD_getElem?] at hn ⊢
    rw [Array.getElem?_eq_getElem (by omega)] at hn ⊢
    simpa using hn
  · by_cases hb : Region.binds .any e = true
    · have := ha e he hb
      simp only [hb, Bool.not_true, Bool.false_or]; exact this
    · simp at hb; simp [hb]

theorem ready_ex (h : okB ops B = true) {listed : Array Bool} (hs : listed.size = ops.size) : ∀ i, i < ops.size → ¬ Lst listed i → Region.ready .any ops listed ≠ [] := by
  intro i
  induction i using Nat.strongRecOn with
  | _ i ih =>
    intro hi hn hr
    have ho : ops[i]? = some ops[i] := Array.getElem?_eq_getElem hi
    by_cases ha : ∀ e ∈ ops[i].after, Region.binds .any e = true → Lst listed e.on
    · have := ready_mk hs ho hn ha
      rw [hr] at this
      cases this
    · simp only [Classical.not_forall] at ha
      obtain ⟨e, he, hb, hne⟩ := ha
      have hlt := (okB_spec h ho).1 e he hb
      exact ih e.on hlt (by omega) hne hr

theorem lst_set {listed : Array Bool} {i j : Nat} (hi : i < listed.size) : Lst (listed.setIfInBounds i true) j ↔ j = i ∨ Lst listed j := by
  unfold Lst
  simp only [Array.getD_eq_getD_getElem?]
  by_cases h : i = j
  · subst h; simp [hi]
  · rw [Array.getElem?_setIfInBounds_ne h]
    constructor
    · exact .inr
    · rintro (rfl | h')
      · exact absurd rfl h
      · exact h'

end sound

/-! ## The theorem -/

def envOf (ops : Array Oper) (S : Nat → Sl) : List Nat → SEnv
  | [] => []
  | i :: pre => setS (envOf ops S pre) (dstOf ops i) (S i)

theorem envOf_congr {ops : Array Oper} {S S' : Nat → Sl} : ∀ (pre : List Nat), (∀ j ∈ pre, S j = S' j) → envOf ops S pre = envOf ops S' pre
  | [], _ => rfl
  | i :: pre, h => by
    simp only [envOf]
    rw [envOf_congr pre (fun j hj => h j (List.mem_cons_of_mem _ hj)), h i List.mem_cons_self]

/-- The facts, op by op. -/
def TCs (P : Program) (R : World → World → Prop) (w0 : World) (ops : Array Oper) (env : Env) (N : Nat) (S : Nat → Sl) : List Nat → List Nat → Prop
  | _, [] => True
  | pre, i :: rest => (∃ o, ops[i]? = some o ∧ dstOk N o.dst = true ∧ (S i).lasts R ∧ StepOk P R w0 ops env (envOf ops S pre) o (S i)) ∧ TCs P R w0 ops env N S (i :: pre) rest

theorem TCs.congr {P : Program} {R : World → World → Prop} {w0 : World} {ops : Array Oper} {env : Env} {N : Nat} {S S' : Nat → Sl} : ∀ (l pre : List Nat), (∀ j, j ∈ pre ∨ j ∈ l → S j = S' j) →
    TCs P R w0 ops env N S pre l → TCs P R w0 ops env N S' pre l
  | [], _, _, _ => trivial
  | i :: l, pre, hs, h => by
    obtain ⟨⟨o, ho, hd, hl, hst⟩, hr⟩ := h
    have hi := hs i (.inr List.mem_cons_self)
    refine ⟨⟨o, ho, hd, hi ▸ hl, ?_⟩, TCs.congr l (i :: pre) (fun j hj => hs j ?_) hr⟩
    · rw [← hi, ← envOf_congr pre (fun j hj => hs j (.inl hj))]
      exact hst
    · rcases hj with hj | hj
      · rcases List.mem_cons.1 hj with rfl | hj
        · exact .inr List.mem_cons_self
        · exact .inl hj
      · exact .inr (List.mem_cons_of_mem _ hj)

theorem TC.facts {P : Program} {R : World → World → Prop} {w0 : World} {ops : Array Oper} {env : Env} {N : Nat} {Post : SEnv → Prop} : ∀ (l pre : List Nat) (S0 : Nat → Sl), (∀ j ∈ l, j ∉ pre) → l.Nodup →
    TC P R w0 ops env N Post l (envOf ops S0 pre) → ∃ S, (∀ j ∈ pre, S j = S0 j) ∧ TCs P R w0 ops env N S pre l ∧ Post (envOf ops S (l.reverse ++ pre))
  | [], pre, S0, _, _, h => ⟨S0, fun _ _ => rfl, trivial, h⟩
  | i :: l, pre, S0, hd, hn, h => by
    obtain ⟨o, s, ho, hok, hl, hst, hr⟩ := h
    have hi : i ∉ pre := hd i List.mem_cons_self
    obtain ⟨hil, hnl⟩ := List.nodup_cons.1 hn
    let S1 : Nat → Sl := fun j => if j = i then s else S0 j
    have h1 : ∀ j ∈ pre, S1 j = S0 j := fun j hj => by
      show (if j = i then s else S0 j) = S0 j
      rw [if_neg (by rintro rfl; exact hi hj)]
    have h1i : S1 i = s := by show (if i = i then s else S0 i) = s; rw [if_pos rfl]
    have hdst : dstOf ops i = o.dst := by simp [dstOf, ho]
    have he : envOf ops S1 (i :: pre) = setS (envOf ops S0 pre) o.dst s := by
      simp only [envOf]
      rw [envOf_congr pre h1, h1i, hdst]
    rw [← he] at hr
    obtain ⟨S, hS, hT, hP⟩ := TC.facts l (i :: pre) S1 (fun j hj hm => by
      rcases List.mem_cons.1 hm with rfl | hm
      · exact hil hj
      · exact hd j (List.mem_cons_of_mem _ hj) hm) hnl hr
    refine ⟨S, fun j hj => (hS j (List.mem_cons_of_mem _ hj)).trans (h1 j hj), ⟨⟨o, ho, hok, ?_, ?_⟩, hT⟩, ?_⟩
    · rw [hS i List.mem_cons_self, h1i]; exact hl
    · rw [hS i List.mem_cons_self, h1i, envOf_congr pre (fun j hj => (hS j (List.mem_cons_of_mem _ hj)).trans (h1 j hj))]
      exact hst
    · simpa using hP

theorem okDst_spec {ops : Array Oper} (h : okDst ops = true) {i j d : Nat} (hi : dstOf ops i = some d) (hj : dstOf ops j = some d) : i = j := by
  have hil : i < ops.size := by
    rcases Nat.lt_or_ge i ops.size with h1 | h1
    · exact h1
    · simp [dstOf, Array.getElem?_eq_none h1] at hi
  have hjl : j < ops.size := by
    rcases Nat.lt_or_ge j ops.size with h1 | h1
    · exact h1
    · simp [dstOf, Array.getElem?_eq_none h1] at hj
  have h1 := List.all_eq_true.1 (List.all_eq_true.1 h i (List.mem_range.2 hil)) j (List.mem_range.2 hjl)
  simp only [hi, hj, Nat.beq_refl, Bool.not_true, Bool.or_false] at h1
  exact Nat.eq_of_beq_eq_true h1

theorem lookS_envOf {ops : Array Oper} {S : Nat → Sl} {env : Env} (hd : okDst ops = true) (t : Nat) : ∀ (pre : List Nat), pre.Nodup →
    (∃ j ∈ pre, dstOf ops j = some t ∧ lookS (envOf ops S pre) env t = some (S j)) ∨ ((∀ j ∈ pre, dstOf ops j ≠ some t) ∧ lookS (envOf ops S pre) env t = lookS [] env t)
  | [], _ => .inr ⟨by simp, rfl⟩
  | i :: pre, hn => by
    obtain ⟨hi, hn'⟩ := List.nodup_cons.1 hn
    simp only [envOf]
    by_cases hit : dstOf ops i = some t
    · refine .inl ⟨i, List.mem_cons_self, hit, ?_⟩
      rw [hit]
      simp only [setS, lookS_cons, if_true]
    · have hsk : lookS (setS (envOf ops S pre) (dstOf ops i) (S i)) env t = lookS (envOf ops S pre) env t := by
        cases hdi : dstOf ops i with
        | none => rfl
        | some d =>
          simp only [setS, lookS_cons]
          rw [if_neg (by rintro rfl; exact hit hdi)]
      rw [hsk]
      rcases lookS_envOf (S := S) (env := env) hd t pre hn' with ⟨j, hj, h1, h2⟩ | ⟨h1, h2⟩
      · exact .inl ⟨j, List.mem_cons_of_mem _ hj, h1, h2⟩
      · refine .inr ⟨fun j hj => ?_, h2⟩
        rcases List.mem_cons.1 hj with rfl | hj
        · exact hit
        · exact h1 j hj

structure Inv (R : World → World → Prop) (w0 : World) (ops : Array Oper) (env : Env) (N : Nat) (S : Nat → Sl) (pu front : List Nat) (listed : Array Bool) (a : Act) (w : World) : Prop where
  rel : R w0 w
  size : a.tmps.size = N
  defers : a.defers = []
  lsize : listed.size = ops.size
  closed : Closed ops listed
  pure_ : ∀ i ∈ pu, Lst listed i
  inFront : ∀ i, Lst listed i → i ∈ pu ∨ i ∈ front
  facts : ∀ i ∈ front, ∀ d, Lst listed i → dstOf ops i = some d → (S i).ok (a.tmps.getD d undef) w
  rest : ∀ t v, getE env t = some v → (∀ i ∈ front, Lst listed i → dstOf ops i ≠ some t) → a.tmps.getD t undef = v

theorem okOrd_nodup {ops : Array Oper} {B : Array Nat} {pu : List Nat} : ∀ (l pre : List Nat), okOrd ops B pu pre l = true → (∀ j ∈ l, j ∉ pre ∧ j < ops.size ∧ j ∉ pu) ∧ l.Nodup
  | [], _, _ => ⟨by simp, List.nodup_nil⟩
  | i :: l, pre, h => by
    simp only [okOrd, Bool.and_eq_true] at h
    obtain ⟨h1, h2⟩ := h
    obtain ⟨h3, h4⟩ := okOrd_nodup l (i :: pre) h2
    cases ho : ops[i]? with
    | none => simp [ho] at h1
    | some o =>
      simp only [ho, Bool.and_eq_true, Bool.not_eq_true'] at h1
      have hi : i ∉ pre := by simpa using h1.1.1
      have hiu : i ∉ pu := by simpa using h1.1.2
      have hlt : i < ops.size := (Array.getElem?_eq_some_iff.1 ho).1
      refine ⟨fun j hj => ?_, List.nodup_cons.2 ⟨fun hm => (h3 i hm).1 List.mem_cons_self, h4⟩⟩
      rcases List.mem_cons.1 hj with rfl | hj
      · exact ⟨hi, hlt, hiu⟩
      · exact ⟨fun hm => (h3 j hj).1 (List.mem_cons_of_mem _ hm), (h3 j hj).2⟩

/-- At its place in the chain. -/
theorem TCs.at_ {P : Program} {R : World → World → Prop} {w0 : World} {ops : Array Oper} {B : Array Nat} {pu : List Nat} {env : Env} {N : Nat} {S : Nat → Sl} : ∀ (l pre tl : List Nat), TCs P R w0 ops env N S pre l → okOrd ops B pu pre (l ++ tl) = true → ∀ i ∈ l,
    ∃ pre' : List Nat, (∀ j ∈ pre', j ∈ pre ∨ j ∈ l) ∧ (pre.Nodup → (∀ j ∈ l, j ∉ pre) → l.Nodup → pre'.Nodup) ∧
      ∃ o, ops[i]? = some o ∧ dstOk N o.dst = true ∧ (S i).lasts R ∧ StepOk P R w0 ops env (envOf ops S pre') o (S i) ∧ ∀ t ∈ o.looksAt ops, okLook ops B pu pre' i t = true
  | [], _, _, _, _, i, hi => by cases hi
  | k :: l, pre, tl, h, hok, i, hi => by
    obtain ⟨⟨o, ho, hd, hl, hst⟩, hr⟩ := h
    simp only [List.cons_append, okOrd, Bool.and_eq_true] at hok
    rcases List.mem_cons.1 hi with rfl | hi
    · refine ⟨pre, fun j hj => .inl hj, fun h _ _ => h, o, ho, hd, hl, hst, ?_⟩
      have h1 := hok.1
      simp only [ho, Bool.and_eq_true] at h1
      exact fun t ht => List.all_eq_true.1 h1.2 t ht
    · obtain ⟨pre', h1, h2, h3⟩ := TCs.at_ l (k :: pre) tl hr hok.2 i hi
      refine ⟨pre', fun j hj => ?_, fun hn hdj hnd => ?_, h3⟩
      · rcases h1 j hj with h | h
        · rcases List.mem_cons.1 h with rfl | h
          · exact .inr List.mem_cons_self
          · exact .inl h
        · exact .inr (List.mem_cons_of_mem _ h)
      · obtain ⟨hkl, hnl⟩ := List.nodup_cons.1 hnd
        refine h2 (List.nodup_cons.2 ⟨hdj k List.mem_cons_self, hn⟩) (fun j hj hm => ?_) hnl
        rcases List.mem_cons.1 hm with rfl | hm
        · exact hkl hj
        · exact hdj j (List.mem_cons_of_mem _ hj) hm

def unl (listed : Array Bool) (l : List Nat) : Nat := (l.filter fun i => !listed.getD i false).length

theorem unl_set {listed : Array Bool} {i : Nat} (hi : i < listed.size) (hn : ¬ Lst listed i) : ∀ (l : List Nat), l.Nodup → i ∈ l → unl (listed.setIfInBounds i true) l + 1 = unl listed l
  | [], _, h => by cases h
  | k :: l, hnd, h => by
    obtain ⟨hk, hnl⟩ := List.nodup_cons.1 hnd
    have keep : ∀ (l : List Nat), i ∉ l → unl (listed.setIfInBounds i true) l = unl listed l := by
      intro l hl
      unfold unl
      congr 1
      refine List.filter_congr fun j hj => ?_
      rw [getD_set_ne false (by rintro rfl; exact hl hj)]
    by_cases hki : k = i
    · subst hki
      have e1 : (listed.setIfInBounds k true).getD k false = true := (lst_set hi).2 (.inl rfl)
      have e2 : listed.getD k false = false := by unfold Lst at hn; simpa using hn
      have h1 := keep l hk
      unfold unl at h1 ⊢
      simp only [List.filter_cons, e1, e2, Bool.not_true, Bool.not_false, if_true, Bool.false_eq_true, if_false, List.length_cons]
      omega
    · have hil : i ∈ l := (List.mem_cons.1 h).resolve_left (fun e => hki e.symm)
      have ih := unl_set hi hn l hnl hil
      unfold unl at ih ⊢
      have e1 : (listed.setIfInBounds i true).getD k false = listed.getD k false := getD_set_ne false (fun e => hki e.symm)
      simp only [List.filter_cons, e1]
      split
      · simp only [List.length_cons]; omega
      · exact ih

theorem closed_set {ops : Array Oper} {listed : Array Bool} (hs : listed.size = ops.size) (hc : Closed ops listed) {i : Nat} {o : Oper} (ho : ops[i]? = some o) (hi : i < ops.size)
    (ha : ∀ e ∈ o.after, Region.binds .any e = true → Lst listed e.on) : Closed ops (listed.setIfInBounds i true) := by
  intro k ok hk hl e he hb
  refine (lst_set (by omega)).2 (.inr ?_)
  rcases (lst_set (by omega)).1 hl with rfl | hl
  · rw [ho] at hk; cases hk; exact ha e he hb
  · exact hc k ok hk hl e he hb

section main
variable {P : Program} {R : World → World → Prop} {w0 : World} {ops : Array Oper} {B : Array Nat} {env : Env} {N : Nat} {S : Nat → Sl} {Q : Exit → Act → World → Prop}

/-- The tail: its order is forced. -/
theorem tail_run (hB : okB ops B = true) : ∀ (tl pre preT : List Nat) (listed : Array Bool) (a : Act) (w : World), listed.size = ops.size → Closed ops listed → okTail B preT tl = true → tl.Nodup → (∀ i ∈ tl, i < ops.size) →
    (∀ i, i < ops.size → (Lst listed i ↔ i ∈ pre)) → (∀ i, i < ops.size → i ∈ pre ∨ i ∈ tl) → (∀ j ∈ tl, j ∉ pre) → wpOps P ops Q tl a w → wpAny P .any ops Q tl.length listed a w
  | [], pre, preT, listed, a, w, hs, hc, _, _, _, hl, hall, _, h => by
    refine ⟨?_, h⟩
    cases hr : Region.ready .any ops listed with
    | nil => rfl
    | cons x xs =>
      obtain ⟨o, ho, hi, hn, _⟩ := ready_spec hs (i := x) (by rw [hr]; exact List.mem_cons_self)
      exact absurd ((hl x hi).2 ((hall x hi).resolve_right (by simp))) hn
  | i :: tl, pre, preT, listed, a, w, hs, hc, hok, hnd, hlt, hl, hall, hdj, h => by
    obtain ⟨hil, hnl⟩ := List.nodup_cons.1 hnd
    simp only [okTail, Bool.and_eq_true] at hok
    have only : ∀ k ∈ Region.ready .any ops listed, k = i := by
      intro k hk
      obtain ⟨o, ho, hi, hn, ha⟩ := ready_spec hs hk
      have hkt : k ∈ i :: tl := (hall k hi).resolve_left (fun hp => hn ((hl k hi).2 hp))
      rcases List.mem_cons.1 hkt with e | hkt
      · exact e
      · exfalso
        -- k lies behind i: i is among its ancestors
        have hanc : ∀ (l pre : List Nat), okTail B pre l = true → i ∈ pre → k ∈ l → (B.getD k 0).testBit i = true := by
          intro l
          induction l with
          | nil => intro _ _ _ h; cases h
          | cons x l ih =>
            intro pre hp hi hk
            simp only [okTail, Bool.and_eq_true] at hp
            rcases List.mem_cons.1 hk with rfl | hk
            · exact List.all_eq_true.1 hp.1 i hi
            · exact ih (x :: pre) hp.2 (List.mem_cons_of_mem _ hi) hk
        have hb := hanc tl (i :: preT) hok.2 List.mem_cons_self hkt
        have hli : Lst listed i := anc_listed hB hc k i ⟨o, ho, hb, ha⟩
        have hi' : i < ops.size := by
          unfold Lst at hli
          rcases Nat.lt_or_ge i ops.size with h1 | h1
          · exact h1
          · simp [Array.getD_eq_getD_getElem?, Array.getElem?_eq_none (show listed.size ≤ i by omega)] at hli
        exact hdj i List.mem_cons_self ((hl i hi').1 hli)
    refine ⟨fun hr => ?_, fun k hk => ?_⟩
    · have h1 := hlt i List.mem_cons_self
      exact absurd hr (ready_ex hB hs i h1 (fun hli => hdj i List.mem_cons_self ((hl i h1).1 hli)))
    · have e := only k hk
      subst e
      obtain ⟨o, ho, hi, hn, ha⟩ := ready_spec hs hk
      rw [wpOps_cons] at h
      refine wpOp_mono (fun a w h => ?_) h
      refine tail_run hB tl (k :: pre) (k :: preT) _ a w (by simp [hs]) (closed_set hs hc ho hi ha) hok.2 hnl (fun j hj => hlt j (List.mem_cons_of_mem _ hj)) (fun j hj => ?_) (fun j hj => ?_) (fun j hj hm => ?_) h
      · rw [lst_set (by omega), hl j hj, List.mem_cons]
      · rcases hall j hj with h | h
        · exact .inl (List.mem_cons_of_mem _ h)
        · rcases List.mem_cons.1 h with rfl | h
          · exact .inl List.mem_cons_self
          · exact .inr h
      · rcases List.mem_cons.1 hm with rfl | hm
        · exact hil hj
        · exact hdj j (List.mem_cons_of_mem _ hj) hm

theorem okNoSel_spec (h : okNoSel ops = true) {i : Nat} {o : Oper} (ho : ops[i]? = some o) (cs : Array SelectCase) (b : Bool) : o.op ≠ .select cs b := by
  intro he
  have hm : o ∈ ops.toList := by
    have := Array.mem_of_getElem? ho
    simpa using this
  have := List.all_eq_true.1 h o hm
  simp [he] at this

/-- One operation, whenever it comes up. -/
theorem front_step (hN : okNoSel ops = true) (hD : okDst ops = true) {pu front : List Nat} {listed : Array Bool} {a : Act} {w : World} (hI : Inv R w0 ops env N S pu front listed a w)
    (hrefl : ∀ a, R a a) (htr : ∀ a b c, R a b → R b c → R a c) (hS : ∀ i ∈ front, (S i).lasts R)
    {i : Nat} (hif : i ∈ front) (hi : i < ops.size) (hn : ¬ Lst listed i) {o : Oper} (ho : ops[i]? = some o) (ha : ∀ e ∈ o.after, Region.binds .any e = true → Lst listed e.on)
    {pre : List Nat} (hpf : ∀ j ∈ pre, j ∈ front) (hdj : ∀ j ∈ front, j ∉ pu) (hpn : pre.Nodup) (hd : dstOk N o.dst = true) (hst : StepOk P R w0 ops env (envOf ops S pre) o (S i)) (hlk : ∀ t ∈ o.looksAt ops, okLook ops B pu pre i t = true)
    (hB : okB ops B = true) {K : Act → World → Prop} (hK : ∀ a' w', Inv R w0 ops env N S pu front (listed.setIfInBounds i true) a' w' → K a' w') : wpOp P ops Q i K a w := by
  classical
  -- what the slots hold that it looks at
  have hsee : ∀ t ∈ o.looksAt ops, ∀ s, lookS (envOf ops S pre) env t = some s → s.ok (a.tmps.getD t undef) w := by
    intro t ht s hs
    have hl := hlk t ht
    have anc : ∀ j, (B.getD i 0).testBit j = true → Lst listed j := fun j hj => anc_listed hB hI.closed i j ⟨o, ho, hj, ha⟩
    have hj : ∀ j d, dstOf ops j = some d → d = t → if pre.contains j = true then Lst listed j else (j ∈ pu ∨ j = i ∨ ¬ Lst listed j) := by
      intro j d hjd hdt
      have hjl : j < ops.size := by
        rcases Nat.lt_or_ge j ops.size with h1 | h1
        · exact h1
        · simp [dstOf, Array.getElem?_eq_none h1] at hjd
      have h1 := List.all_eq_true.1 hl j (List.mem_range.2 hjl)
      simp only [hjd, hdt, Nat.beq_refl, Bool.not_true, Bool.false_or] at h1
      split at h1
      · rename_i hc; rw [if_pos hc]; exact anc j h1
      · rename_i hc
        rw [if_neg hc]
        rcases (Bool.or_eq_true _ _).mp h1 with h2 | h2
        · rcases (Bool.or_eq_true _ _).mp h2 with h2 | h2
          · exact .inl (by simpa using h2)
          · exact .inr (.inl (Nat.eq_of_beq_eq_true h2))
        · refine .inr (.inr fun hlj => hn ?_)
          obtain ⟨oj, hoj⟩ : ∃ oj, ops[j]? = some oj := ⟨ops[j], Array.getElem?_eq_getElem hjl⟩
          exact anc_of_listed hB hI.closed hoj hlj h2
    rcases lookS_envOf (S := S) (env := env) hD t pre hpn with ⟨j, hjp, hjd, he⟩ | ⟨hno, he⟩
    · rw [he] at hs
      cases hs
      have h1 := hj j t hjd rfl
      rw [if_pos (by simpa using hjp)] at h1
      exact hI.facts j (hpf j hjp) t h1 hjd
    · rw [he] at hs
      simp only [lookS] at hs
      cases hg : getE env t with
      | none => rw [hg] at hs; simp at hs
      | some v =>
        rw [hg] at hs
        simp only [Option.some.injEq] at hs
        subst hs
        refine hI.rest t v hg fun j hjf hlj hjd => ?_
        have h1 := hj j t hjd rfl
        rw [if_neg (by simpa using fun hm => hno j hm hjd)] at h1
        rcases h1 with h1 | rfl | h1
        · exact hdj j hjf h1
        · exact hn hlj
        · exact h1 hlj
  have put : ∀ v w', R w w' → (S i).ok v w' → Inv R w0 ops env N S pu front (listed.setIfInBounds i true) (a.put o.dst v) w' := by
    intro v w' hr hv
    have hdst : dstOf ops i = o.dst := by simp [dstOf, ho]
    have hget : ∀ t, (a.put o.dst v).tmps.getD t undef = if o.dst = some t then v else a.tmps.getD t undef := by
      intro t
      cases hod : o.dst with
      | none => simp [Act.put]
      | some d =>
        rw [hod] at hd
        have hdN : d < N := by simpa [dstOk, Nat.blt_eq] using hd
        simp only [Act.put, Option.some.injEq]
        by_cases hdt : d = t
        · subst hdt; simp [Array.getD_eq_getD_getElem?, hI.size, hdN]
        · simp [Array.getD_eq_getD_getElem?, hdt]
    refine ⟨htr _ _ _ hI.rel hr, ?_, ?_, by simp [hI.lsize], closed_set hI.lsize hI.closed ho hi ha, fun k hk => (lst_set (by rw [hI.lsize]; exact hi)).2 (.inr (hI.pure_ k hk)), fun k hk => ?_, fun k hkf d hk hkd => ?_, fun t u hu hk => ?_⟩
    · cases o.dst <;> simp [Act.put, hI.size]
    · cases o.dst <;> simp [Act.put, hI.defers]
    · rcases (lst_set (by rw [hI.lsize]; exact hi)).1 hk with rfl | hk
      · exact .inr hif
      · exact hI.inFront k hk
    · rw [hget]
      rcases (lst_set (by rw [hI.lsize]; exact hi)).1 hk with rfl | hk
      · rw [hdst] at hkd
        rw [if_pos hkd]; exact hv
      · rw [if_neg (by intro e; rw [← hdst] at e; have := okDst_spec hD e hkd; subst this; exact hn hk)]
        exact hS k hkf _ _ _ hr (hI.facts k hkf d hk hkd)
    · rw [hget]
      have h1 := hk i hif ((lst_set (by rw [hI.lsize]; exact hi)).2 (.inl rfl))
      rw [if_neg (by rw [← hdst]; exact h1)]
      exact hI.rest t u hu fun j hjf hj => hk j hjf ((lst_set (by rw [hI.lsize]; exact hi)).2 (.inr hj))
  have wok : ∀ b, wantS ops (envOf ops S pre) env o.guard = some b → Region.wanted o (yielded ops a.tmps) = b := by
    intro b hb
    unfold wantS at hb
    unfold Region.wanted
    split at hb
    · rename_i hg; rw [hg]; cases hb; rfl
    · rename_i j want hg
      rw [hg]
      split at hb
      · rename_i o' ho'
        split at hb
        · rename_i d hdd
          split at hb
          · rename_i x hx
            cases hb
            have hm : d ∈ o.looksAt ops := by
              unfold Oper.looksAt
              rw [hg]
              simp [ho', hdd]
            have hv := hsee d hm _ hx
            simp only [Sl.ok] at hv
            have : yielded ops a.tmps j = some x := by
              unfold yielded
              simp only [ho', Option.bind_some, hdd]
              rw [Array.getD_eq_getD_getElem?] at hv
              cases he : a.tmps[d]? with
              | none => rw [he] at hv; simp [undef] at hv
              | some y => rw [he] at hv; simp at hv; subst hv; rfl
            simp only [this]
            cases x <;> cases want <;> rfl
          · rename_i ts hx
            cases hb
            have hm : d ∈ o.looksAt ops := by
              unfold Oper.looksAt
              rw [hg]
              simp [ho', hdd]
            have hv := hsee d hm _ hx
            simp only [Sl.ok] at hv
            have : yielded ops a.tmps j = none := by
              unfold yielded
              simp only [ho', Option.bind_some, hdd]
              rw [Array.getD_eq_getD_getElem?] at hv
              cases he : a.tmps[d]? with
              | none => rfl
              | some y => rw [he] at hv; simp at hv; subst hv; rfl
            simp only [this]
            rfl
          · cases hb
        · cases hb
      · cases hb
  unfold wpOp
  simp only [ho]
  rcases hst with ⟨hw, hop⟩ | ⟨hw, hs⟩
  · rw [if_pos (wok _ hw)]
    refine .inl ?_
    -- values for all operands: its own as they stand, the others as they are told
    let ev : Operand → Value := fun x => if x ∈ o.op.operands then a.eval x else match opL (envOf ops S pre) env x with | some v => v | none => undef
    have hev : EvOk (opL (envOf ops S pre) env) ev := by
      intro x v hx
      show (if x ∈ o.op.operands then a.eval x else _) = v
      by_cases hxo : x ∈ o.op.operands
      · rw [if_pos hxo]
        cases x with
        | tmp t =>
          have hm : t ∈ o.looksAt ops := List.mem_append_left _ (List.mem_filterMap.2 ⟨.tmp t, by simpa using hxo, rfl⟩)
          simp only [opL] at hx
          split at hx
          · rename_i u hu
            cases hx
            exact hsee t hm _ hu
          · cases hx
        | const u => simpa [opL, Act.eval] using hx
        | global g => simpa [opL, Act.eval] using hx
        | func f => simpa [opL, Act.eval] using hx
      · rw [if_neg hxo, hx]
    have hpr : ∀ t p, Operand.tmp t ∈ o.op.operands → lookS (envOf ops S pre) env t = some (.pr p) → p (ev (.tmp t)) w := by
      intro t p hto hl
      show p (if Operand.tmp t ∈ o.op.operands then a.eval (.tmp t) else _) w
      rw [if_pos hto]
      exact hsee t (List.mem_append_left _ (List.mem_filterMap.2 ⟨.tmp t, by simpa using hto, rfl⟩)) _ hl
    have h1 := hop ev w hI.rel hev hpr
    have hcg : execOp ev o = execOp a.eval o := execOp_congr o (fun cs b => okNoSel_spec hN ho cs b) fun x hx => by
      show (if x ∈ o.op.operands then a.eval x else _) = _
      rw [if_pos hx]
    unfold OpT at h1
    rw [hcg] at h1
    exact OpT.wp (R := fun v w' => R w w' ∧ (S i).ok v w') h1 fun v w' ⟨hr, hv⟩ => hK _ _ (put v w' hr hv)
  · rw [if_neg (by rw [wok _ hw]; simp)]
    exact hK _ _ (put undef w (by
      -- nothing runs: the world stays
      exact hrefl w) (by rw [hs]; rfl))

theorem TCs.lasts_ : ∀ (l pre : List Nat), TCs P R w0 ops env N S pre l → ∀ i ∈ l, (S i).lasts R
  | [], _, _, i, hi => by cases hi
  | k :: l, pre, h, i, hi => by
    rcases List.mem_cons.1 hi with rfl | hi
    · obtain ⟨⟨o, _, _, hl, _⟩, _⟩ := h
      exact hl
    · exact TCs.lasts_ l (k :: pre) h.2 i hi

theorem front_run {pu front tail : List Nat} (hok : okR3 ops pu front tail = true) (hrefl : ∀ a, R a a) (htr : ∀ a b c, R a b → R b c → R a c) (hT : TCs P R w0 ops env N S [] front)
    (hP : ∀ a w, R w0 w → FrS N (envOf ops S front.reverse) env a w → wpOps P ops Q tail a w) : ∀ (fuel : Nat) (listed : Array Bool) (a : Act) (w : World),
    Inv R w0 ops env N S pu front listed a w → fuel = unl listed (front ++ tail) → wpAny P .any ops Q fuel listed a w := by
  simp only [okR3, Bool.and_eq_true, beq_iff_eq] at hok
  obtain ⟨⟨⟨⟨⟨⟨hB, hD⟩, hlen, hcov⟩, hO⟩, hTl⟩, hN⟩, _⟩ := hok
  obtain ⟨hin, hnd⟩ := okOrd_nodup _ _ hO
  have hndf : front.Nodup := (List.nodup_append.1 hnd).1
  have hndt : tail.Nodup := (List.nodup_append.1 hnd).2.1
  have hft : ∀ i ∈ front, ∀ j ∈ tail, i ≠ j := (List.nodup_append.1 hnd).2.2
  -- every operation is in the one or in the other
  have hall : ∀ i, i < ops.size → i ∈ pu ∨ i ∈ front ∨ i ∈ tail := by
    intro i hi
    have h1 := List.all_eq_true.1 hcov i (List.mem_range.2 hi)
    have h2 : i ∈ pu ++ (front ++ tail) := by simpa using h1
    rcases List.mem_append.1 h2 with h2 | h2
    · exact .inl h2
    · exact .inr (List.mem_append.1 h2)
  have hlt : ∀ i, i ∈ front ∨ i ∈ tail → i < ops.size := fun i hi => (hin i (List.mem_append.2 hi)).2.1
  have hpu : ∀ i, i ∈ front ∨ i ∈ tail → i ∉ pu := fun i hi => (hin i (List.mem_append.2 hi)).2.2
  -- all of the front being listed, the tail alone is left
  have done : ∀ (listed : Array Bool) (a : Act) (w : World), Inv R w0 ops env N S pu front listed a w → (∀ i ∈ front, Lst listed i) → wpAny P .any ops Q (unl listed (front ++ tail)) listed a w := by
    intro listed a w hI hf
    have hu : unl listed (front ++ tail) = tail.length := by
      unfold unl
      rw [List.filter_append, List.length_append]
      have h1 : front.filter (fun i => !listed.getD i false) = [] := List.filter_eq_nil_iff.2 fun i hi => by
        have := hf i hi
        unfold Lst at this
        simp [this]
      have h2 : tail.filter (fun i => !listed.getD i false) = tail := List.filter_eq_self.2 fun i hi => by
        have hn : ¬ Lst listed i := fun hl => by
          rcases hI.inFront i hl with h | h
          · exact hpu i (.inr hi) h
          · exact hft i h i hi rfl
        unfold Lst at hn
        simpa using hn
      rw [h1, h2]
      simp
    rw [hu]
    refine tail_run hB tail (pu ++ front) front.reverse listed a w hI.lsize hI.closed hTl hndt (fun i hi => hlt i (.inr hi)) (fun i hi => ?_) (fun i hi => ?_) (fun j hj hm => ?_) (hP a w hI.rel ⟨hI.size, hI.defers, ?_⟩)
    · rw [List.mem_append]
      exact ⟨hI.inFront i, fun h => h.elim (hI.pure_ i) (hf i)⟩
    · rw [List.mem_append]
      rcases hall i hi with h | h | h
      · exact .inl (.inl h)
      · exact .inl (.inr h)
      · exact .inr h
    · rcases List.mem_append.1 hm with h | h
      · exact hpu j (.inr hj) h
      · exact hft j h j hj rfl
    · intro t s hs
      rcases lookS_envOf (S := S) (env := env) hD t front.reverse (List.pairwise_reverse.2 (List.Pairwise.imp (fun h => Ne.symm h) hndf)) with ⟨j, hjp, hjd, he⟩ | ⟨hno, he⟩
      · rw [he] at hs
        cases hs
        exact hI.facts j (List.mem_reverse.1 hjp) t (hf j (List.mem_reverse.1 hjp)) hjd
      · rw [he] at hs
        simp only [lookS] at hs
        cases hg : getE env t with
        | none => rw [hg] at hs; simp at hs
        | some v =>
          rw [hg] at hs
          simp only [Option.some.injEq] at hs
          subst hs
          exact hI.rest t v hg fun j hjf hlj hjd => hno j (List.mem_reverse.2 hjf) hjd
  intro fuel
  induction fuel with
  | zero =>
    intro listed a w hI hfu
    have hf : ∀ i ∈ front, Lst listed i := by
      intro i hi
      have h0 : (front ++ tail).filter (fun i => !listed.getD i false) = [] := List.length_eq_zero_iff.1 hfu.symm
      have := List.filter_eq_nil_iff.1 h0 i (List.mem_append_left _ hi)
      unfold Lst
      simpa using this
    have := done listed a w hI hf
    rwa [← hfu] at this
  | succ fuel ih =>
    intro listed a w hI hfu
    by_cases hf : ∀ i ∈ front, Lst listed i
    · have := done listed a w hI hf
      rwa [← hfu] at this
    · simp only [Classical.not_forall] at hf
      obtain ⟨k, hk, hkn⟩ := hf
      refine ⟨fun hr => absurd hr (ready_ex hB hI.lsize k (hlt k (.inl hk)) hkn), fun i hi => ?_⟩
      obtain ⟨o, ho, hil, hn, ha⟩ := ready_spec hI.lsize hi
      -- it is one of the front
      have hif : i ∈ front := by
        rcases hall i hil with h | h | h
        · exact absurd (hI.pure_ i h) hn
        · exact h
        · exfalso
          have hanc : ∀ (l pre : List Nat), okTail (Region.before ops) pre l = true → k ∈ pre → i ∈ l → ((Region.before ops).getD i 0).testBit k = true := by
            intro l
            induction l with
            | nil => intro _ _ _ h; cases h
            | cons x l ih =>
              intro pre hp hk hi
              simp only [okTail, Bool.and_eq_true] at hp
              rcases List.mem_cons.1 hi with rfl | hi
              · exact List.all_eq_true.1 hp.1 k hk
              · exact ih (x :: pre) hp.2 (List.mem_cons_of_mem _ hk) hi
          have hb := hanc tail front.reverse hTl (List.mem_reverse.2 hk) h
          exact hkn (anc_listed hB hI.closed i k ⟨o, ho, hb, ha⟩)
      obtain ⟨pre, hpm, hpn, o', ho', hd, hl, hst, hlk⟩ := TCs.at_ front [] tail hT hO i hif
      rw [ho] at ho'
      cases ho'
      refine front_step hN hD hI hrefl htr (TCs.lasts_ front [] hT) hif hil hn ho ha (fun j hj => (hpm j hj).resolve_left (by simp)) (fun j hj => hpu j (.inl hj)) (hpn List.nodup_nil (fun _ _ h => by cases h) hndf) hd hst hlk hB fun a' w' hI' => ih _ a' w' hI' ?_
      have := unl_set (listed := listed) (i := i) (by rw [hI.lsize]; exact hil) hn (front ++ tail) hnd (List.mem_append_left _ hif)
      omega

/-- Behind the region: a frame of plain values. -/
def detE : SEnv → Env → Env
  | [], env => env
  | (k, .det v) :: r, env => (k, v) :: detE r env
  | (k, .pr _) :: r, env => dropE k (detE r env)
where dropE (k : Nat) : Env → Env
  | [] => []
  | (j, v) :: r => match Nat.beq j k with
    | true => dropE k r
    | false => (j, v) :: dropE k r

theorem getE_dropE (k t : Nat) : ∀ env, getE (detE.dropE k env) t = if k = t then none else getE env t
  | [] => by simp [detE.dropE, getE]
  | (j, v) :: r => by
    simp only [detE.dropE]
    cases hb : Nat.beq j k
    · have hjk : j ≠ k := by intro e; subst e; simp at hb
      simp only [getE_cons, getE_dropE k t r]
      by_cases h1 : k = t
      · subst h1; simp [hjk]
      · simp [h1]
    · have hjk := Nat.eq_of_beq_eq_true hb
      subst hjk
      simp only [getE_cons, getE_dropE j t r]
      by_cases h1 : j = t <;> simp [h1]

theorem getE_detE (t : Nat) (v : Value) : ∀ (Γ : SEnv) (env : Env), getE (detE Γ env) t = some v → lookS Γ env t = some (.det v)
  | [], env, h => by simpa [lookS, detE] using congrArg (fun o => match o with | some v => some (Sl.det v) | none => none) h
  | (k, .det u) :: r, env, h => by
    simp only [detE, getE_cons] at h
    rw [lookS_cons]
    by_cases hk : k = t
    · rw [if_pos hk] at h ⊢; cases h; rfl
    · rw [if_neg hk] at h ⊢; exact getE_detE t v r env h
  | (k, .pr p) :: r, env, h => by
    simp only [detE, getE_dropE] at h
    rw [lookS_cons]
    by_cases hk : k = t
    · rw [if_pos hk] at h; cases h
    · rw [if_neg hk] at h ⊢; exact getE_detE t v r env h

theorem FrS.plain {Γ : SEnv} {a : Act} {w : World} (h : FrS N Γ env a w) : Fr N (detE Γ env) a :=
  ⟨h.size, h.defers, fun t v hv => h.val t _ (getE_detE t v Γ env hv)⟩

/-- What looks at no memory is taken first. -/
def TP (P : Program) (ops : Array Oper) (env : Env) (N : Nat) (K : SEnv → Prop) : List Nat → SEnv → Prop
  | [], Γ => K Γ
  | i :: rest, Γ => ∃ o v, ops[i]? = some o ∧ dstOk N o.dst = true ∧ ((wantS ops Γ env o.guard = some true ∧ ∀ ev, EvOk (opL Γ env) ev → ∀ w, (execOp ev o).run P w = .ok (.value v) w) ∨ (wantS ops Γ env o.guard = some false ∧ v = undef)) ∧
      TP P ops env N K rest (setS Γ o.dst (.det v))

def NoPanic (Q : Exit → Act → World → Prop) : Prop := ∀ c a w, ¬ Q (.panic c) a w
theorem NoPanic.then_ {K : Act → World → Prop} (h : NoPanic Q) : NoPanic (Exit.then K Q) := h
theorem NoPanic.blk {id : Nat} (h : NoPanic Q) : NoPanic (Exit.inBlock id Q) := h

theorem FrS.put {Γ : SEnv} {a : Act} {w : World} (h : FrS N Γ env a w) {d : Option Nat} (hd : dstOk N d = true) (v : Value) : FrS N (setS Γ d (.det v)) env (a.put d v) w := by
  cases d with
  | none => exact h
  | some d =>
    have hdN : d < N := by simpa [dstOk, Nat.blt_eq] using hd
    refine ⟨by simp [Act.put, h.size], h.defers, fun t s hs => ?_⟩
    simp only [setS, lookS_cons] at hs
    simp only [Act.put]
    by_cases hk : d = t
    · rw [if_pos hk] at hs
      cases hs
      subst hk
      simp [Sl.ok, Array.getD_eq_getD_getElem?, h.size, hdN]
    · rw [if_neg hk] at hs
      have := h.val t s hs
      simpa [Array.getD_eq_getD_getElem?, hk] using this

theorem FrS.evOk {Γ : SEnv} {a : Act} {w : World} (h : FrS N Γ env a w) : EvOk (opL Γ env) a.eval := by
  intro x v hx
  cases x with
  | tmp t =>
    simp only [opL] at hx
    split at hx
    · rename_i u hu
      cases hx
      exact h.val t _ hu
    · cases hx
  | const u => simpa [opL, Act.eval] using hx
  | global g => simpa [opL, Act.eval] using hx
  | func f => simpa [opL, Act.eval] using hx

theorem FrS.wanted {Γ : SEnv} {a : Act} {w : World} (h : FrS N Γ env a w) {o : Oper} {b : Bool} (hb : wantS ops Γ env o.guard = some b) : Region.wanted o (yielded ops a.tmps) = b := by
  unfold wantS at hb
  unfold Region.wanted
  split at hb
  · rename_i hg; rw [hg]; cases hb; rfl
  · rename_i j want hg
    rw [hg]
    split at hb
    · rename_i o' ho'
      split at hb
      · rename_i d hdd
        split at hb
        · rename_i x hx
          cases hb
          have hv := h.val d _ hx
          simp only [Sl.ok] at hv
          have : yielded ops a.tmps j = some x := by
            unfold yielded
            simp only [ho', Option.bind_some, hdd]
            rw [Array.getD_eq_getD_getElem?] at hv
            cases he : a.tmps[d]? with
            | none => rw [he] at hv; simp [undef] at hv
            | some y => rw [he] at hv; simp at hv; subst hv; rfl
          simp only [this]
          cases x <;> cases want <;> rfl
        · rename_i ts hx
          cases hb
          have hv := h.val d _ hx
          simp only [Sl.ok] at hv
          have : yielded ops a.tmps j = none := by
            unfold yielded
            simp only [ho', Option.bind_some, hdd]
            rw [Array.getD_eq_getD_getElem?] at hv
            cases he : a.tmps[d]? with
            | none => rfl
            | some y => rw [he] at hv; simp at hv; subst hv; rfl
          simp only [this]
          rfl
        · cases hb
      · cases hb
    · cases hb

theorem pure_run (hN : okNoSel ops = true) (hnp : NoPanic Q) {K : SEnv → Prop} : ∀ (pu : List Nat) (listed : Array Bool) (fuel : Nat) (Γ : SEnv) (a : Act) (w : World), listed.size = ops.size → okPu ops listed pu = true → FrS N Γ env a w → Closed ops listed → TP P ops env N K pu Γ →
    (∀ listed' Γ' a', listed'.size = ops.size → (∀ i, Lst listed' i ↔ Lst listed i ∨ i ∈ pu) → Closed ops listed' → FrS N Γ' env a' w → K Γ' → wpAny P .any ops Q fuel listed' a' w) → wpAny P .any ops Q (pu.length + fuel) listed a w
  | [], listed, fuel, Γ, a, w, hs, _, hF, hc, hK, h => by
    rw [List.length_nil, Nat.zero_add]
    exact h listed Γ a hs (fun i => by simp) hc hF hK
  | i :: pu, listed, fuel, Γ, a, w, hs, hok, hF, hc, hT, h => by
    simp only [okPu, Bool.and_eq_true] at hok
    obtain ⟨⟨⟨hfree, hready⟩, hlt⟩, hok'⟩ := hok
    have hi : i < ops.size := by simpa [Nat.blt_eq] using hlt
    obtain ⟨o, v, ho, hd, hv, hT'⟩ := hT
    have hsel : Region.noSelect ops = true := Array.all_eq_true_iff_forall_mem.2 fun o' ho' => by
      have h1 := List.all_eq_true.1 hN o' (by simpa using ho')
      exact h1
    have hy : Yields P ops o v a := by
      rcases hv with ⟨h1, h2⟩ | ⟨h1, h2⟩
      · exact .inl ⟨hF.wanted h1, h2 a.eval hF.evOk⟩
      · exact .inr ⟨hF.wanted h1, h2⟩
    have hr : i ∈ Region.ready .any ops listed := by simpa using hready
    obtain ⟨o', ho', _, _, hall⟩ := ready_spec hs hr
    rw [ho] at ho'
    cases ho'
    rw [List.length_cons, show pu.length + 1 + fuel = (pu.length + fuel) + 1 from by omega]
    refine wpAny_take ho hsel hfree hready (fun c a w hq => absurd hq (hnp c _ w)) hy ?_
    refine pure_run hN hnp pu (listed.setIfInBounds i true) fuel _ _ w (by simp [hs]) hok' (hF.put hd v) (closed_set hs hc ho hi hall) hT' fun listed' Γ' a' hs' hl' hc' hF' hK' => h listed' Γ' a' hs' (fun j => ?_) hc' hF' hK'
    rw [hl' j, lst_set (by omega), List.mem_cons]
    constructor
    · rintro ((h1 | h1) | h1)
      · exact .inr (.inl h1)
      · exact .inl h1
      · exact .inr (.inr h1)
    · rintro (h1 | h1 | h1)
      · exact .inl (.inr h1)
      · exact .inl (.inl h1)
      · exact .inr h1

/-- **Whatever order is drawn.** pu: what looks at no memory; front: one fact each; tail: what comes behind all of the front, in one order. -/
theorem wp_facts3 {id : Nat} {pu front tail : List Nat} {w : World} (hm : P.follows .mixedOrders = true) (hok : okR3 ops pu front tail = true) (hnp : NoPanic Q) (hrefl : ∀ a, R a a) (htr : ∀ a b c, R a b → R b c → R a c)
    (hdw : R w { w with drawn := w.drawn + 1 })
    (h : TP P ops env N (fun Γ0 => TC P R w ops (detE Γ0 env) N (fun Γ => ∀ a w', R w w' → FrS N Γ (detE Γ0 env) a w' → wpOps P ops Q tail a w') front []) pu []) :
    CW P (.region id ops true) Q N env w := by
  intro a ha
  have hok' := hok
  simp only [okR3, Bool.and_eq_true, beq_iff_eq] at hok'
  obtain ⟨⟨⟨⟨⟨⟨hB, hD⟩, hlen, hcov⟩, hO⟩, hTl⟩, hN⟩, hPu⟩ := hok'
  obtain ⟨hin, hnd⟩ := okOrd_nodup _ _ hO
  have hnl : ∀ i, ¬ Lst (Array.replicate ops.size false) i := by
    intro i hl
    unfold Lst at hl
    rw [Array.getD_eq_getD_getElem?, Array.getElem?_replicate] at hl
    split at hl <;> simp at hl
  refine wp_region_any hm ?_
  have hF0 : FrS N [] env a { w with drawn := w.drawn + 1 } := ⟨ha.size, ha.defers, fun t s hs => by
    simp only [lookS] at hs
    cases hg : getE env t with
    | none => rw [hg] at hs; simp at hs
    | some v => rw [hg] at hs; simp only [Option.some.injEq] at hs; subst hs; exact ha.val t v hg⟩
  rw [show ops.size = pu.length + (front ++ tail).length from by rw [← hlen, List.length_append]]
  rw [show Array.replicate (pu.length + (front ++ tail).length) false = Array.replicate ops.size false from by rw [← hlen]; simp only [List.length_append]]
  refine pure_run hN hnp pu _ (front ++ tail).length [] a _ (by simp) hPu hF0 (fun i _ _ hl => absurd hl (hnl i)) h fun listed' Γ' a' hs' hl' hc' hF' hK' => ?_
  obtain ⟨S, _, hT, hP⟩ := TC.facts front [] (fun _ => .det undef) (by simp) (List.nodup_append.1 hnd).1 hK'
  have hp := hF'.plain
  refine front_run (S := S) hok hrefl htr hT (by simpa using hP) (front ++ tail).length _ a' _ ⟨hdw, hp.size, hp.defers, hs', hc', fun i hi => (hl' i).2 (.inr hi), fun i hi => .inl (((hl' i).1 hi).resolve_left (hnl i)), fun i hi d hl _ => ?_, fun t v hv _ => hp.val t v hv⟩ ?_
  · exact absurd (((hl' i).1 hl).resolve_left (hnl i)) (hin i (List.mem_append_left _ hi)).2.2
  · unfold unl
    refine congrArg List.length (List.filter_eq_self.2 fun i hi => ?_).symm
    have : ¬ Lst listed' i := fun hl => (hin i hi).2.2 (((hl' i).1 hl).resolve_left (hnl i))
    unfold Lst at this
    simpa only [Bool.not_eq_true, Bool.not_eq_true'] using this

theorem wp_facts {id : Nat} {front tail : List Nat} {w : World} (hm : P.follows .mixedOrders = true) (hok : okR ops front tail = true) (hrefl : ∀ a, R a a) (htr : ∀ a b c, R a b → R b c → R a c)
    (hdw : R w { w with drawn := w.drawn + 1 }) (h : TC P R w ops env N (fun Γ => ∀ a w', R w w' → FrS N Γ env a w' → wpOps P ops Q tail a w') front []) :
    CW P (.region id ops true) Q N env w := by
  intro a ha
  have hok' := hok
  simp only [okR, okR3, Bool.and_eq_true, beq_iff_eq] at hok'
  obtain ⟨⟨⟨⟨⟨⟨hB, hD⟩, hlen, hcov⟩, hO⟩, hTl⟩, hN⟩, hPu⟩ := hok'
  obtain ⟨hin, hnd⟩ := okOrd_nodup _ _ hO
  obtain ⟨S, _, hT, hP⟩ := TC.facts front [] (fun _ => .det undef) (by simp) (List.nodup_append.1 hnd).1 h
  have hnl : ∀ i, ¬ Lst (Array.replicate ops.size false) i := by
    intro i hl
    unfold Lst at hl
    rw [Array.getD_eq_getD_getElem?, Array.getElem?_replicate] at hl
    split at hl <;> simp at hl
  refine wp_region_any hm (front_run (pu := []) (S := S) hok hrefl htr hT (by simpa using hP) ops.size _ a _ ⟨hdw, ha.size, ha.defers, by simp, fun i _ _ hl => absurd hl (hnl i), by simp, fun i hl => absurd hl (hnl i), fun i _ _ hl => absurd hl (hnl i), fun t v hv _ => ha.val t v hv⟩ ?_)
  unfold unl
  rw [List.nil_append] at hlen
  refine hlen.symm.trans (congrArg List.length (List.filter_eq_self.2 fun i hi => ?_).symm)
  have := hnl i
  unfold Lst at this
  simpa only [Bool.not_eq_true, Bool.not_eq_true'] using this

/-! ## The chain's steps -/

section chain
variable {Post : SEnv → Prop} {rest : List Nat} {Γ : SEnv} {i : Nat} {op : Op} {ty : TypeId} {pos : String} {aft : Array Edge} {g : Option (Nat × Bool)} {d : Option Nat} {v : Value}

theorem Sl.lasts_det (R : World → World → Prop) (v : Value) : (Sl.det v).lasts R := fun _ _ _ _ h => h

theorem TC.pure (ho : ops[i]? = some { dst := d, op, type := ty, pos, after := aft, guard := g }) (h : Pure P op ty (opL Γ env) v) (hrefl : ∀ a, R a a) (hg : wantS ops Γ env g = some true) (hd : dstOk N d = true)
    (k : TC P R w0 ops env N Post rest (setS Γ d (.det v))) : TC P R w0 ops env N Post (i :: rest) Γ :=
  ⟨_, .det v, ho, hd, Sl.lasts_det R v, .inl ⟨hg, fun ev w _ he _ => by unfold OpT; rw [h ev he]; exact ⟨hrefl w, rfl⟩⟩, k⟩

theorem TC.skip (ho : ops[i]? = some { dst := d, op, type := ty, pos, after := aft, guard := g }) (hg : wantS ops Γ env g = some false) (hd : dstOk N d = true)
    (k : TC P R w0 ops env N Post rest (setS Γ d (.det undef))) : TC P R w0 ops env N Post (i :: rest) Γ :=
  ⟨_, .det undef, ho, hd, Sl.lasts_det R _, .inr ⟨hg, rfl⟩, k⟩

theorem TC.reads (ho : ops[i]? = some { dst := d, op, type := ty, pos, after := aft, guard := g }) (h : ∀ w, R w0 w → Reads P op ty (opL Γ env) w v) (hrefl : ∀ a, R a a) (hg : wantS ops Γ env g = some true) (hd : dstOk N d = true)
    (k : TC P R w0 ops env N Post rest (setS Γ d (.det v))) : TC P R w0 ops env N Post (i :: rest) Γ :=
  ⟨_, .det v, ho, hd, Sl.lasts_det R v, .inl ⟨hg, fun ev w hr he _ => by unfold OpT; rw [h w hr ev he]; exact ⟨hrefl w, rfl⟩⟩, k⟩

/-- A call that hands back one value. -/
theorem TC.call {f : FuncId} {args : List Value} (ho : ops[i]? = some { dst := d, op, type := ty, pos, after := aft, guard := g }) (h : IsCall P op ty (opL Γ env) f args) (hg : wantS ops Γ env g = some true) (hd : dstOk N d = true)
    (hc : ∀ w, R w0 w → CallsR P f args w fun u w' => u = v ∧ R w w') (k : TC P R w0 ops env N Post rest (setS Γ d (.det v))) : TC P R w0 ops env N Post (i :: rest) Γ :=
  ⟨_, .det v, ho, hd, Sl.lasts_det R v, .inl ⟨hg, fun ev w hr he _ => by unfold OpT; rw [h ev he]; exact (hc w hr).mono fun u w' ⟨h1, h2⟩ => ⟨h2, h1⟩⟩, k⟩

/-- An operation whose value is one of many. -/
theorem TC.one {p : Value → World → Prop} (ho : ops[i]? = some { dst := d, op, type := ty, pos, after := aft, guard := g }) (hg : wantS ops Γ env g = some true) (hd : dstOk N d = true) (hl : (Sl.pr p).lasts R)
    (h : ∀ ev w, R w0 w → EvOk (opL Γ env) ev → (∀ t p, Operand.tmp t ∈ op.operands → lookS Γ env t = some (.pr p) → p (ev (.tmp t)) w) → OpT P { dst := d, op, type := ty, pos, after := aft, guard := g } ev w fun v w' => R w w' ∧ p v w')
    (k : TC P R w0 ops env N Post rest (setS Γ d (.pr p))) : TC P R w0 ops env N Post (i :: rest) Γ :=
  ⟨_, .pr p, ho, hd, hl, .inl ⟨hg, h⟩, k⟩

/-- An operation that looks at one of many, and whose value is known all the same. -/
theorem TC.from_ (ho : ops[i]? = some { dst := d, op, type := ty, pos, after := aft, guard := g }) (hg : wantS ops Γ env g = some true) (hd : dstOk N d = true)
    (h : ∀ ev w, R w0 w → EvOk (opL Γ env) ev → (∀ t p, Operand.tmp t ∈ op.operands → lookS Γ env t = some (.pr p) → p (ev (.tmp t)) w) → OpT P { dst := d, op, type := ty, pos, after := aft, guard := g } ev w fun u w' => R w w' ∧ u = v)
    (k : TC P R w0 ops env N Post rest (setS Γ d (.det v))) : TC P R w0 ops env N Post (i :: rest) Γ :=
  ⟨_, .det v, ho, hd, Sl.lasts_det R v, .inl ⟨hg, h⟩, k⟩

theorem TC.bool {t : Nat} {b : Bool} {ord : List Nat} (ht : b = true → TC P R w0 ops env N Post ord ((t, .det (.bool true)) :: Γ)) (hf : b = false → TC P R w0 ops env N Post ord ((t, .det (.bool false)) :: Γ)) :
    TC P R w0 ops env N Post ord ((t, .det (.bool b)) :: Γ) := by
  cases b
  · exact hf rfl
  · exact ht rfl

end chain

theorem Fr.add {a : Act} (h : Fr N env a) (t : Nat) : Fr N ((t, a.tmps.getD t undef) :: env) a :=
  ⟨h.size, h.defers, fun s v hv => by
    rw [getE_cons] at hv
    by_cases hk : t = s
    · subst hk; rw [if_pos rfl] at hv; cases hv; rfl
    · rw [if_neg hk] at hv; exact h.val s v hv⟩

/-- Nothing is left behind the front. -/
theorem post_done {Γ : SEnv} {S : World → Prop} (k : ∀ w', S w' → Fin Q .normal N (detE Γ env) w') : ∀ a w', S w' → FrS N Γ env a w' → wpOps P ops Q [] a w' :=
  fun a w' hr hf => k w' hr a hf.plain

theorem TC.done {S : World → Prop} {Q : Exit → Act → World → Prop} {Γ : SEnv} (k : ∀ w', S w' → Fin Q .normal N (detE Γ env) w') :
    TC P R w0 ops env N (fun Γ => ∀ a w', S w' → FrS N Γ env a w' → wpOps P ops Q [] a w') [] Γ := post_done k

/-- The tail, in its order. -/
theorem post_tail {Γ : SEnv} {S : World → Prop} {tail : List Nat} {l : List Oper} (hl : tail.mapM (ops[·]?) = some l) (k : ∀ w', S w' → W P ops Q l N (detE Γ env) w') : ∀ a w', S w' → FrS N Γ env a w' → wpOps P ops Q tail a w' := by
  intro a w' hr hf
  have hw := k w' hr a hf.plain
  have : ∀ (tail : List Nat) (l : List Oper), tail.mapM (ops[·]?) = some l → ∀ a w, wpList P ops Q l a w → wpOps P ops Q tail a w := by
    intro tail
    induction tail with
    | nil => intro l hl a w h; simp at hl; subst hl; exact h
    | cons i tail ih =>
      intro l hl a w h
      rw [List.mapM_cons] at hl
      cases ho : ops[i]? with
      | none => simp [ho] at hl
      | some o =>
        simp only [ho, Option.bind_eq_bind, Option.bind_some] at hl
        cases hm : tail.mapM (ops[·]?) with
        | none => rw [hm] at hl; simp at hl
        | some l' =>
          rw [hm] at hl
          simp at hl
          subst hl
          rw [wpOps_cons]
          unfold wpList at h
          unfold wpOp
          simp only [ho]
          split
          · rename_i hw
            rw [if_pos hw] at h
            rcases h with h | h
            · exact .inl (Oper.wp_mono (fun a w h => ih l' hm a w h) h)
            · exact .inr h
          · rename_i hw
            rw [if_neg hw] at h
            exact ih l' hm _ _ h
  exact this tail l hl a w' hw

theorem TC.tail {S : World → Prop} {Q : Exit → Act → World → Prop} {Γ : SEnv} {tail : List Nat} {l : List Oper} (hl : tail.mapM (ops[·]?) = some l) (k : ∀ w', S w' → W P ops Q l N (detE Γ env) w') :
    TC P R w0 ops env N (fun Γ => ∀ a w', S w' → FrS N Γ env a w' → wpOps P ops Q tail a w') [] Γ := post_tail hl k

end main
end Go.Proofs.YtnhcbfaomehaeaaGreatDoor
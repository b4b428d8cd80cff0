/- The tables are checked by running a check. -/
import Derived.Test.YtnhcbfaomehaeaaGreatDoorB8
namespace Go.Proofs.YtnhcbfaomehaeaaGreatDoor.R1
open Go
set_option linter.unusedVariables false
set_option linter.unusedSimpArgs false

/-! ## Over a whole table -/

noncomputable def allT {α : Type} (p : Nat → α → Bool) : T α → Nat → Nat → Bool
  | .e, _, _ => true
  | .n v l r, a, s => (match v with
    | some x => p a x
    | none => true) && (allT p l (a + s) (2 * s) && allT p r (a + 2 * s) (2 * s))

theorem T.get_cases {α : Type} {v : Option α} {l r : T α} {k : Nat} {x : α} (h : (T.n v l r).get k = some x) : (k = 0 ∧ v = some x) ∨ (∃ j, k = 2 * j + 1 ∧ l.get j = some x) ∨ (∃ j, k = 2 * j + 2 ∧ r.get j = some x) := by
  rw [T.get_n] at h
  by_cases h0 : k = 0
  · subst h0
    exact .inl ⟨rfl, h⟩
  · have e0 : Nat.beq k 0 = false := by
      cases hb : Nat.beq k 0 with
      | false => rfl
      | true => exact absurd (Nat.eq_of_beq_eq_true hb) h0
    rw [e0] at h
    by_cases h1 : k % 2 = 1
    · have e1 : Nat.beq (k % 2) 1 = true := by rw [h1]; rfl
      rw [e1] at h
      exact .inr (.inl ⟨k / 2, by omega, h⟩)
    · have e1 : Nat.beq (k % 2) 1 = false := by
        cases hb : Nat.beq (k % 2) 1 with
        | false => rfl
        | true => exact absurd (Nat.eq_of_beq_eq_true hb) h1
      rw [e1] at h
      exact .inr (.inr ⟨k / 2 - 1, by omega, h⟩)

theorem allT_get {α : Type} {p : Nat → α → Bool} : ∀ {t : T α} {a s : Nat}, allT p t a s = true → ∀ {j : Nat} {x : α}, t.get j = some x → p (a + s * j) x = true
  | .e, _, _, _, _, _, h => by cases h
  | .n v l r, a, s, h, j, x, hx => by
    simp only [allT, Bool.and_eq_true] at h
    obtain ⟨h0, h1, h2⟩ := h
    rcases T.get_cases hx with ⟨rfl, rfl⟩ | ⟨k, rfl, hk⟩ | ⟨k, rfl, hk⟩
    · simpa using h0
    · have := allT_get h1 hk
      rwa [show a + s + 2 * s * k = a + s * (2 * k + 1) from by rw [Nat.mul_add, Nat.mul_one, ← Nat.mul_assoc, Nat.mul_comm s 2]; omega] at this
    · have := allT_get h2 hk
      rwa [show a + 2 * s + 2 * s * k = a + s * (2 * k + 2) from by rw [Nat.mul_add, ← Nat.mul_assoc, Nat.mul_comm s 2]; omega] at this

noncomputable def FaT {α : Type} (p : Nat → α → Prop) : T α → Nat → Nat → Prop
  | .e, _, _ => True
  | .n v l r, a, s => (∀ x, v = some x → p a x) ∧ FaT p l (a + s) (2 * s) ∧ FaT p r (a + 2 * s) (2 * s)

theorem FaT.e {α : Type} {p : Nat → α → Prop} {a s : Nat} : FaT p .e a s := trivial
theorem FaT.o {α : Type} {p : Nat → α → Prop} {l r : T α} {a s : Nat} (hl : FaT p l (a + s) (2 * s)) (hr : FaT p r (a + 2 * s) (2 * s)) : FaT p (.n none l r) a s := ⟨fun _ h => (by cases h), hl, hr⟩
theorem FaT.s {α : Type} {p : Nat → α → Prop} {x : α} {l r : T α} {a s : Nat} (h : p a x) (hl : FaT p l (a + s) (2 * s)) (hr : FaT p r (a + 2 * s) (2 * s)) : FaT p (.n (some x) l r) a s := ⟨fun _ e => (by cases e; exact h), hl, hr⟩

theorem FaT.get {α : Type} {p : Nat → α → Prop} : ∀ {t : T α} {a s : Nat}, FaT p t a s → ∀ {j : Nat} {x : α}, t.get j = some x → p (a + s * j) x
  | .e, _, _, _, _, _, h => by cases h
  | .n v l r, a, s, h, j, x, hx => by
    obtain ⟨h0, h1, h2⟩ := h
    rcases T.get_cases hx with ⟨rfl, rfl⟩ | ⟨k, rfl, hk⟩ | ⟨k, rfl, hk⟩
    · simpa using h0 _ rfl
    · have := FaT.get h1 hk
      rwa [show a + s + 2 * s * k = a + s * (2 * k + 1) from by rw [Nat.mul_add, Nat.mul_one, ← Nat.mul_assoc, Nat.mul_comm s 2]; omega] at this
    · have := FaT.get h2 hk
      rwa [show a + 2 * s + 2 * s * k = a + s * (2 * k + 2) from by rw [Nat.mul_add, ← Nat.mul_assoc, Nat.mul_comm s 2]; omega] at this

/-! ## A type's entry -/

noncomputable def veq (a b : Value) : Bool := match a with
  | .bool x => match b with
    | .bool y => decide (x = y)
    | _ => false
  | .int k n => match b with
    | .int j m => decide (k = j) && decide (n = m)
    | _ => false
  | .string s => match b with
    | .string t => decide (s.data.toList = t.data.toList)
    | _ => false
  | .pointer none => match b with
    | .pointer none => true
    | _ => false
  | .slice none n c => match b with
    | .slice none m d => decide (n = m) && decide (c = d)
    | _ => false
  | .map none => match b with
    | .map none => true
    | _ => false
  | .nilFunc => match b with
    | .nilFunc => true
    | _ => false
  | .nilIface => match b with
    | .nilIface => true
    | _ => false
  | _ => false

theorem veq_eq {a b : Value} (h : veq a b = true) : a = b := by
  unfold veq at h
  split at h
  case h_9 => cases h
  all_goals
    split at h
    · simp only [Bool.and_eq_true, decide_eq_true_eq] at h
      first
        | rfl
        | (obtain ⟨rfl, rfl⟩ := h; rfl)
        | (subst h; rfl)
        | (rename_i s _ t
           cases s with | mk d => cases t with | mk d' =>
           have : d = d' := Array.toList_inj.1 h
           rw [this])
    · cases h

noncomputable def leq : List Value → List Value → Bool
  | [], [] => true
  | a :: l, b :: m => veq a b && leq l m
  | _, _ => false
theorem leq_eq : ∀ {l m : List Value}, leq l m = true → l = m
  | [], [], _ => rfl
  | a :: l, b :: m, h => by
    simp only [leq, Bool.and_eq_true] at h
    rw [veq_eq h.1, leq_eq h.2]
  | [], _ :: _, h => by cases h
  | _ :: _, [], h => by cases h

noncomputable def fieldsB (P : Program) : List (Nat × Nat × TypeId) → List Field → Bool
  | [], [] => true
  | (o, z, ft) :: fs, f :: l => decide (f.offset = o) && (decide (f.type = ft) && ((match P.info? ft with
    | some j => decide (j.size = z)
    | none => false) && fieldsB P fs l))
  | _, _ => false

theorem fieldsB_ok {P : Program} : ∀ {fs : List (Nat × Nat × TypeId)} {l : List Field}, fieldsB P fs l = true → l.length = fs.length ∧ ∀ (i o z : Nat) (ft : TypeId), fs[i]? = some (o, z, ft) → ∃ (f : Field) (j : TypeInfo), l[i]? = some f ∧ f.offset = o ∧ f.type = ft ∧ P.info? ft = some j ∧ j.size = z
  | [], [], _ => ⟨rfl, fun _ _ _ _ h => by simp at h⟩
  | (o, z, ft) :: fs, f :: l, h => by
    simp only [fieldsB, Bool.and_eq_true, decide_eq_true_eq] at h
    obtain ⟨h1, h2, h3, h4⟩ := h
    obtain ⟨q1, q2⟩ := fieldsB_ok h4
    refine ⟨by simp [q1], fun i o' z' ft' hi => ?_⟩
    cases i with
    | zero =>
      simp only [List.getElem?_cons_zero, Option.some.injEq, Prod.mk.injEq] at hi
      obtain ⟨rfl, rfl, rfl⟩ := hi
      split at h3
      · rename_i j hj
        exact ⟨f, j, by simp, h1, h2, hj, of_decide_eq_true h3⟩
      · cases h3
    | succ i =>
      obtain ⟨f', j, p1, p2⟩ := q2 i o' z' ft' (by simpa using hi)
      exact ⟨f', j, by simpa using p1, p2⟩
  | [], _ :: _, h => by cases h
  | _ :: _, [], h => by cases h

noncomputable def kB (P : Program) (t : TypeId) : K → Bool
  | .struct fs => match P.underlying t with
    | some (.struct l) => fieldsB P fs l.toList
    | _ => false
  | .array n e => match P.underlying t with
    | some (.array m f) => decide (m = n) && decide (f = e)
    | _ => false
  | .slice e => match P.underlying t with
    | some (.slice f) => decide (f = e)
    | _ => false
  | .map k e => match P.underlying t with
    | some (.map j f) => decide (j = k) && decide (f = e)
    | _ => false
  | .ptr e => match P.underlying t with
    | some (.pointer f) => decide (f = e)
    | _ => false
  | .uptr => match P.underlying t with
    | some .unsafePointer => true
    | _ => false
  | .str => match P.underlying t with
    | some .string => true
    | _ => false
  | .int k => match P.underlying t with
    | some (.int j) => decide (j = k)
    | _ => false
  | .bool => match P.underlying t with
    | some .bool => true
    | _ => false
  | .iface => match P.underlying t with
    | some (.interface _) => true
    | _ => false
  | .other => match P.underlying t with
    | some (.struct _) => false
    | some (.array ..) => false
    | some _ => true
    | none => false

theorem kB_ok {P : Program} {t : TypeId} {k : K} (h : kB P t k = true) : KOk P t k := by
  cases k <;> simp only [kB] at h <;> unfold KOk
  case struct fs =>
    split at h
    · rename_i l hu
      obtain ⟨h1, h2⟩ := fieldsB_ok h
      exact ⟨l, hu, by simpa using h1, fun i o z ft hi => by simpa using h2 i o z ft hi⟩
    · cases h
  case other =>
    split at h
    · cases h
    · cases h
    · rename_i d h1 h2 hu
      refine ⟨_, hu, ?_⟩
      split
      · exact h1 _ rfl
      · exact h2 _ _ rfl
      · trivial
    · cases h
  case iface =>
    split at h
    · rename_i ms hu; exact ⟨ms, hu⟩
    · cases h
  all_goals
    split at h
    · rename_i hu
      try simp only [Bool.and_eq_true, decide_eq_true_eq] at h
      first
        | exact hu
        | (obtain ⟨rfl, rfl⟩ := h; exact hu)
        | (subst h; exact hu)
    · cases h

noncomputable def tyB (P : Program) (t : TypeId) (ti : TI) : Bool := match P.info? t with
  | some i => match i.zero with
    | some z => decide (i.size = ti.size) && (decide (i.bytes = ti.bytes) && (leq z.cells.toList ti.zero && ((match isAgg ti.kind with
      | true => match z with
        | .agg _ => true
        | _ => false
      | false => leq ti.zero [z]) && (kB P t ti.kind && (decide (ti.zero.length = ti.size) && (allL ground ti.zero && allL one ti.zero))))))
    | none => false
  | none => false

theorem tyB_ok {P : Program} {t : TypeId} {ti : TI} (h : tyB P t ti = true) : TyOk P t ti := by
  unfold tyB at h
  split at h
  · rename_i i hi
    split at h
    · rename_i z hz
      simp only [Bool.and_eq_true, decide_eq_true_eq] at h
      obtain ⟨h1, h2, h3, h4, h5, h6, h7, h8⟩ := h
      have e3 := leq_eq h3
      refine ⟨⟨i, z, hi, h1, h2, hz, e3, fun ha => ?_, fun ha => ?_⟩, kB_ok h5, h6, h7, h8⟩
      · rw [ha] at h4
        cases z <;> simp only [Bool.false_eq_true] at h4
        rename_i cs
        rw [← e3]
        rfl
      · rw [ha] at h4
        exact leq_eq h4
    · cases h
  · cases h

/-! ## A function's entry -/

noncomputable def fiOf (g : Func) : FI := match g.body with
  | some c => .body g.ntmps g.results.toList c
  | none => .body 0 [] .skip

noncomputable def okF (g : Func) : Bool := g.body.isSome && !(g.name == "runtime.NumGoroutine")

theorem callFunc_body {P : Program} {f : FuncId} {g : Func} (hf : P.funcs[f]? = some g) (ho : okF g = true) (args : Array Value) (w : World) : (callFunc f args).run P w = .ok (.enter f args) w := by
  unfold okF at ho
  simp only [Bool.and_eq_true, Bool.not_eq_true'] at ho
  cases hb : g.body with
  | none => rw [hb] at ho; cases ho.1
  | some c =>
    unfold callFunc
    have hn : ¬ g.name = "runtime.NumGoroutine" := by simpa using ho.2
    simp [hf, hb, hn]

theorem fnOk_of {P : Program} {f : FuncId} {g : Func} (hf : P.funcs[f]? = some g) (ho : okF g = true) : FnOk P f (fiOf g) := by
  have h1 := callFunc_body hf ho
  unfold okF at ho
  unfold fiOf
  cases hb : g.body with
  | none => rw [hb] at ho; cases ho
  | some c => exact ⟨⟨g, hf, hb, rfl, by simp⟩, h1⟩

theorem callFunc_ext {P : Program} {f : FuncId} {fn : Func} {e : Array Value → Sem Value} (hf : P.funcs[f]? = some fn) (hname : (fn.name == "runtime.NumGoroutine") = false) (hb : fn.body.isNone = true) (hn : Extern.findNext fn = none) (he : Extern.find fn = some e) (args : Array Value) (w : World) :
    (callFunc f args).run P w = ((do pure (.value (← e args))) : Sem Next).run P w := by
  have hn' : ¬ fn.name = "runtime.NumGoroutine" := by simpa using hname
  have hb' : fn.body = none := by simpa using hb
  unfold callFunc
  simp [hf, hn', hb', hn, he]

theorem meth_of {P : Program} {t : TypeId} {n : String} {f : FuncId} {v r : Value} {w : World} (hm : (method (P.types.size + Made.depth) t v n).run P w = .ok (f, r) w) (hf : ∀ (args : Array Value) w, (callFunc f args).run P w = .ok (.enter f args) w) (args : List Value) :
    (callMethod (.iface t v) n ⟨args⟩).run P w = .ok (.enter f ⟨r :: args⟩) w := by
  have h1 : (#[r] ++ (⟨args⟩ : Array Value)) = ⟨r :: args⟩ := by
    apply Array.toList_inj.1
    simp
  unfold callMethod
  simp only [Sem.run_bind, run_program, Result.andThen_ok, hm, h1, hf]

end Go.Proofs.YtnhcbfaomehaeaaGreatDoor.R1

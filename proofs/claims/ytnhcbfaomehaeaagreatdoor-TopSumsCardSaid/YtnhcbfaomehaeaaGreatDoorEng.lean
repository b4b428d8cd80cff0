/- An engine for walks: frames told by the slots that matter; one lemma an operation; a region whose order is drawn, told by facts that last. -/
import Derived.WalkKit
import Derived.Orders
import Derived.Deep.Draws
import Derived.Shelf.Abstract
namespace Go.Proofs.YtnhcbfaomehaeaaGreatDoor
open Go.RowKit
set_option linter.unusedVariables false
set_option linter.unusedSimpArgs false

/-! ## Frames -/

abbrev Env := List (Nat × Value)

def getE : Env → Nat → Option Value
  | [], _ => none
  | (k, v) :: r, t => match Nat.beq k t with
    | true => some v
    | false => getE r t

def setE (env : Env) (d : Option Nat) (v : Value) : Env := match d with
  | some d => (d, v) :: env
  | none => env

def opv (env : Env) : Operand → Option Value
  | .const v => some v
  | .tmp t => getE env t
  | .func f => some (.func (.func f) #[] #[])
  | .global g => some (.pointer (some ⟨g, 0, none⟩))

def opvs (env : Env) : List Operand → Option (List Value)
  | [] => some []
  | x :: r => match opv env x, opvs env r with
    | some v, some vs => some (v :: vs)
    | _, _ => none

def dstOk (N : Nat) : Option Nat → Bool
  | some d => Nat.blt d N
  | none => true

def SubE : Env → Env → Prop
  | [], _ => True
  | (k, v) :: r, env => getE env k = some v ∧ SubE r env

structure Fr (N : Nat) (env : Env) (a : Act) : Prop where
  size : a.tmps.size = N
  defers : a.defers = []
  val : ∀ t v, getE env t = some v → a.tmps.getD t undef = v

theorem getE_cons (k : Nat) (v : Value) (r : Env) (t : Nat) : getE ((k, v) :: r) t = if k = t then some v else getE r t := by
  rw [getE]
  by_cases h : k = t
  · subst h; rw [if_pos rfl, Nat.beq_refl]
  · rw [if_neg h]
    cases hb : Nat.beq k t
    · rfl
    · exact absurd (Nat.eq_of_beq_eq_true hb) h

theorem Fr.sub {N : Nat} {env env' : Env} {a : Act} (h : Fr N env a) (hs : SubE env' env) : Fr N env' a := by
  refine ⟨h.size, h.defers, ?_⟩
  induction env' with
  | nil => intro t v hv; simp [getE] at hv
  | cons p r ih =>
    obtain ⟨k, u⟩ := p
    intro t v hv
    rw [getE_cons] at hv
    by_cases hk : k = t
    · rw [if_pos hk] at hv
      cases hv
      subst hk
      exact h.val _ _ hs.1
    · rw [if_neg hk] at hv
      exact ih hs.2 t v hv

theorem Fr.put {N : Nat} {env : Env} {a : Act} (h : Fr N env a) {d : Option Nat} (hd : dstOk N d = true) (v : Value) : Fr N (setE env d v) (a.put d v) := by
  cases d with
  | none => exact h
  | some d =>
    have hd' : d < N := by simpa [dstOk, Nat.blt_eq] using hd
    refine ⟨by simp [Act.put, h.size], h.defers, fun t u hu => ?_⟩
    simp only [setE, getE_cons] at hu
    simp only [Act.put]
    by_cases hk : d = t
    · rw [if_pos hk] at hu
      cases hu
      subst hk
      simp [Array.getD_eq_getD_getElem?, h.size, hd']
    · rw [if_neg hk] at hu
      rw [← h.val t u hu]
      simp [Array.getD_eq_getD_getElem?, hk]

theorem Fr.eval {N : Nat} {env : Env} {a : Act} (h : Fr N env a) {x : Operand} {v : Value} (hx : opv env x = some v) : a.eval x = v := by
  cases x with
  | tmp t => exact h.val t v hx
  | const u => simpa [opv, Act.eval] using hx
  | global g => simpa [opv, Act.eval] using hx
  | func f => simpa [opv, Act.eval] using hx

/-! ## One operation -/

/-- The operands' values are those that are told. -/
def EvOk (L : Operand → Option Value) (ev : Operand → Value) : Prop := ∀ x v, L x = some v → ev x = v

/-- The operation, carried out, hands back v in w'. -/
def OpT (P : Program) (o : Oper) (ev : Operand → Value) (w : World) (R : Value → World → Prop) : Prop :=
  match (execOp ev o).run P w with
  | .ok (.value v) w' => R v w'
  | .ok .skip w' => R undef w'
  | .ok (.enter f args) w' => Calls P f args w' fun e w'' => match e with | .returned v => R v w'' | _ => False
  | _ => False

theorem OpT.wp {P : Program} {o : Oper} {a : Act} {w : World} {R : Value → World → Prop} {K : Act → World → Prop} {Q : Exit → Act → World → Prop}
    (h : OpT P o a.eval w R) (hk : ∀ v w', R v w' → K (a.put o.dst v) w') : o.wp P a w K Q := by
  unfold OpT at h
  unfold Oper.wp
  generalize (execOp a.eval o).run P w = r at *
  cases r with
  | ok n w' =>
    cases n <;> simp only [Oper.upon] at h ⊢
    case value v => exact hk _ _ h
    case skip => exact hk _ _ h
    case enter f args =>
      refine h.mono fun e w'' he => ?_
      cases e with
      | returned v => exact hk _ _ he
      | panicked c => exact he.elim
      | outgrown => exact he.elim
  | halt x w' => simp only at h

theorem OpT.mono {P : Program} {o : Oper} {ev : Operand → Value} {w : World} {R R' : Value → World → Prop} (h : OpT P o ev w R) (hr : ∀ v w', R v w' → R' v w') : OpT P o ev w R' := by
  unfold OpT at *
  generalize (execOp ev o).run P w = r at *
  cases r with
  | ok n w' =>
    cases n <;> simp only at h ⊢
    case value v => exact hr _ _ h
    case skip => exact hr _ _ h
    case enter f args =>
      refine h.mono fun e w'' he => ?_
      cases e with
      | returned v => exact hr _ _ he
      | panicked c => exact he.elim
      | outgrown => exact he.elim
  | halt x w' => simp only at h

/-- An operation that looks at no memory: its value, in every world. -/
def Pure (P : Program) (op : Op) (ty : TypeId) (L : Operand → Option Value) (v : Value) : Prop :=
  ∀ ev, EvOk L ev → ∀ w d pos aft g, (execOp ev { dst := d, op, type := ty, pos, after := aft, guard := g }).run P w = .ok (.value v) w

/-- An operation that reads: its value, in this world. -/
def Reads (P : Program) (op : Op) (ty : TypeId) (L : Operand → Option Value) (w : World) (v : Value) : Prop :=
  ∀ ev, EvOk L ev → ∀ d pos aft g, (execOp ev { dst := d, op, type := ty, pos, after := aft, guard := g }).run P w = .ok (.value v) w

/-- An operation that makes or writes: the value and the world. -/
def Makes (P : Program) (op : Op) (ty : TypeId) (L : Operand → Option Value) (w : World) (n : Next) (w' : World) : Prop :=
  ∀ ev, EvOk L ev → ∀ d pos aft g, (execOp ev { dst := d, op, type := ty, pos, after := aft, guard := g }).run P w = .ok n w'

/-- A call: it returns, and R holds of what. -/
def CallsR (P : Program) (f : FuncId) (args : List Value) (w : World) (R : Value → World → Prop) : Prop :=
  Calls P f args.toArray w fun e w' => match e with | .returned v => R v w' | _ => False

theorem CallsR.mono {P : Program} {f : FuncId} {args : List Value} {w : World} {R R' : Value → World → Prop} (h : CallsR P f args w R) (hr : ∀ v w', R v w' → R' v w') : CallsR P f args w R' :=
  Calls.mono h fun e w' he => by
    cases e with
    | returned v => exact hr _ _ he
    | panicked c => exact he.elim
    | outgrown => exact he.elim

/-! ## A region in the order of the text -/

def W (P : Program) (ops : Array Oper) (Q : Exit → Act → World → Prop) (l : List Oper) (N : Nat) (env : Env) (w : World) : Prop :=
  ∀ a, Fr N env a → wpList P ops Q l a w

/-- Is the operation wanted? As far as the frame tells. -/
def wantE (ops : Array Oper) (env : Env) : Option (Nat × Bool) → Option Bool
  | none => some true
  | some (j, want) => match ops[j]? with
    | some o => match o.dst with
      | some d => match getE env d with
        | some (.bool b) => some (b == want)
        | some (.tuple _) => some false
        | _ => none
      | none => none
    | none => none

theorem wanted_of {ops : Array Oper} {N : Nat} {env : Env} {a : Act} {o : Oper} {b : Bool} (h : Fr N env a) (hw : wantE ops env o.guard = some b) : Region.wanted o (yielded ops a.tmps) = b := by
  unfold wantE at hw
  unfold Region.wanted
  split at hw
  · rename_i hg; rw [hg]; cases hw; rfl
  · rename_i j want hg
    rw [hg]
    split at hw
    · rename_i o' ho'
      split at hw
      · rename_i d hd
        split at hw
        · rename_i x hx
          cases hw
          have hv := h.val _ _ hx
          have : yielded ops a.tmps j = some x := by
            unfold yielded
            simp only [ho', Option.bind_some, hd]
            rw [Array.getD_eq_getD_getElem?] at hv
            cases he : a.tmps[d]? with
            | none => rw [he] at hv; simp [undef] at hv
            | some y => rw [he] at hv; simp at hv; subst hv; rfl
          simp only [this]
          cases x <;> cases want <;> rfl
        · rename_i ts hx
          cases hw
          have hv := h.val _ _ hx
          have : yielded ops a.tmps j = none := by
            unfold yielded
            simp only [ho', Option.bind_some, hd]
            rw [Array.getD_eq_getD_getElem?] at hv
            cases he : a.tmps[d]? with
            | none => rfl
            | some y => rw [he] at hv; simp at hv; subst hv; rfl
          simp only [this]
          rfl
        · cases hw
      · cases hw
    · cases hw

section steps
variable {P : Program} {ops : Array Oper} {Q : Exit → Act → World → Prop} {l : List Oper} {N : Nat} {env : Env} {w : World}
variable {op : Op} {ty : TypeId} {pos : String} {aft : Array Edge} {g : Option (Nat × Bool)} {d : Option Nat} {v : Value}

theorem W.any {R : Value → World → Prop} (hg : wantE ops env g = some true) (hd : dstOk N d = true)
    (h : ∀ ev, EvOk (opv env) ev → OpT P { dst := d, op, type := ty, pos, after := aft, guard := g } ev w R)
    (k : ∀ v w', R v w' → W P ops Q l N (setE env d v) w') : W P ops Q ({ dst := d, op, type := ty, pos, after := aft, guard := g } :: l) N env w := by
  intro a ha
  unfold wpList
  rw [if_pos (wanted_of ha hg)]
  exact .inl ((h a.eval (fun x v hx => ha.eval hx)).wp fun v w' hr => k v w' hr _ (ha.put hd v))

theorem W.skip (hg : wantE ops env g = some false) (hd : dstOk N d = true) (k : W P ops Q l N (setE env d undef) w) :
    W P ops Q ({ dst := d, op, type := ty, pos, after := aft, guard := g } :: l) N env w := by
  intro a ha
  unfold wpList
  rw [if_neg (by rw [wanted_of ha hg]; simp)]
  exact k _ (ha.put hd undef)

theorem W.pure (h : Pure P op ty (opv env) v) (hg : wantE ops env g = some true) (hd : dstOk N d = true) (k : W P ops Q l N (setE env d v) w) :
    W P ops Q ({ dst := d, op, type := ty, pos, after := aft, guard := g } :: l) N env w :=
  W.any (R := fun u w' => u = v ∧ w' = w) hg hd (fun ev he => by unfold OpT; rw [h ev he]; exact ⟨rfl, rfl⟩) (fun u w' ⟨e1, e2⟩ => by subst e1; subst e2; exact k)

theorem W.reads (h : Reads P op ty (opv env) w v) (hg : wantE ops env g = some true) (hd : dstOk N d = true) (k : W P ops Q l N (setE env d v) w) :
    W P ops Q ({ dst := d, op, type := ty, pos, after := aft, guard := g } :: l) N env w :=
  W.any (R := fun u w' => u = v ∧ w' = w) hg hd (fun ev he => by unfold OpT; rw [h ev he]; exact ⟨rfl, rfl⟩) (fun u w' ⟨e1, e2⟩ => by subst e1; subst e2; exact k)

theorem W.makes {w' : World} (h : Makes P op ty (opv env) w (.value v) w') (hg : wantE ops env g = some true) (hd : dstOk N d = true) (k : W P ops Q l N (setE env d v) w') :
    W P ops Q ({ dst := d, op, type := ty, pos, after := aft, guard := g } :: l) N env w :=
  W.any (R := fun u w₁ => u = v ∧ w₁ = w') hg hd (fun ev he => by unfold OpT; rw [h ev he]; exact ⟨rfl, rfl⟩) (fun u w' ⟨e1, e2⟩ => by subst e1; subst e2; exact k)

theorem W.writes {w' : World} (h : Makes P op ty (opv env) w .skip w') (hg : wantE ops env g = some true) (hd : dstOk N d = true) (k : W P ops Q l N (setE env d undef) w') :
    W P ops Q ({ dst := d, op, type := ty, pos, after := aft, guard := g } :: l) N env w :=
  W.any (R := fun u w₁ => u = undef ∧ w₁ = w') hg hd (fun ev he => by unfold OpT; rw [h ev he]; exact ⟨rfl, rfl⟩) (fun u w' ⟨e1, e2⟩ => by subst e1; subst e2; exact k)

/-- The call of a function, by its contract. -/
def IsCall (P : Program) (op : Op) (ty : TypeId) (L : Operand → Option Value) (f : FuncId) (args : List Value) : Prop :=
  ∀ ev, EvOk L ev → ∀ w d pos aft g, (execOp ev { dst := d, op, type := ty, pos, after := aft, guard := g }).run P w = .ok (.enter f args.toArray) w

theorem W.call {f : FuncId} {args : List Value} {R : Value → World → Prop} (h : IsCall P op ty (opv env) f args) (hg : wantE ops env g = some true) (hd : dstOk N d = true)
    (hc : CallsR P f args w R) (k : ∀ v w', R v w' → W P ops Q l N (setE env d v) w') :
    W P ops Q ({ dst := d, op, type := ty, pos, after := aft, guard := g } :: l) N env w :=
  W.any (R := R) hg hd (fun ev he => by unfold OpT; rw [h ev he]; exact hc) k

end steps

/-! ## Code -/

def CW (P : Program) (c : Code) (Q : Exit → Act → World → Prop) (N : Nat) (env : Env) (w : World) : Prop := ∀ a, Fr N env a → c.wp P Q a w
def Fin (Q : Exit → Act → World → Prop) (e : Exit) (N : Nat) (env : Env) (w : World) : Prop := ∀ a, Fr N env a → Q e a w

section code
variable {P : Program} {Q : Exit → Act → World → Prop} {N : Nat} {env : Env} {w : World} {c x y : Code}

theorem W.nil {ops : Array Oper} (k : Fin Q .normal N env w) : W P ops Q [] N env w := fun a ha => k a ha

theorem W.bool {ops : Array Oper} {l : List Oper} {d : Nat} {b : Bool} (ht : b = true → W P ops Q l N ((d, .bool true) :: env) w) (hf : b = false → W P ops Q l N ((d, .bool false) :: env) w) :
    W P ops Q l N ((d, .bool b) :: env) w := by
  cases b
  · exact hf rfl
  · exact ht rfl

theorem CW.seq (k : CW P x (Exit.then (y.wp P Q) Q) N env w) : CW P (.seq x y) Q N env w := fun a ha => wp_seq (k a ha)
theorem CW.region {id : Nat} {l : List Oper} (k : W P l.toArray Q l N env w) : CW P (.region id l.toArray false) Q N env w := fun a ha => wp_region_lit (k a ha)
theorem CW.block {id : Nat} (k : CW P c (Exit.inBlock id Q) N env w) : CW P (.block id c) Q N env w := fun a ha => wp_block (k a ha)
theorem CW.ret (k : Fin Q .ret N env w) : CW P .ret Q N env w := fun a ha => wp_ret (k a ha)
theorem CW.skip (k : Fin Q .normal N env w) : CW P .skip Q N env w := fun a ha => wp_skip (k a ha)
theorem CW.label {n : Nat} (k : Fin Q .normal N env w) : CW P (.label n) Q N env w := fun a ha => wp_label (k a ha)
theorem CW.exit {id : Nat} (k : Fin Q (.exit id) N env w) : CW P (.exit id) Q N env w := fun a ha => wp_exit (k a ha)
theorem CW.cond {o : Operand} {b : Bool} (hb : opv env o = some (.bool b)) (ht : b = true → CW P x Q N env w) (hf : b = false → CW P y Q N env w) : CW P (.cond o x y) Q N env w := by
  intro a ha
  cases b
  · exact wp_cond_false (ha.eval hb) (hf rfl a ha)
  · exact wp_cond_true (ha.eval hb) (ht rfl a ha)

theorem Fin.seq (k : CW P y Q N env w) : Fin (Exit.then (y.wp P Q) Q) .normal N env w := fun a ha => k a ha
theorem Fin.then_ret {K : Act → World → Prop} (k : Fin Q .ret N env w) : Fin (Exit.then K Q) .ret N env w := fun a ha => k a ha
theorem Fin.then_exit {K : Act → World → Prop} {id : Nat} (k : Fin Q (.exit id) N env w) : Fin (Exit.then K Q) (.exit id) N env w := fun a ha => k a ha
theorem Fin.blk_ret {id : Nat} (k : Fin Q .ret N env w) : Fin (Exit.inBlock id Q) .ret N env w := fun a ha => k a ha
theorem Fin.blk_normal {id : Nat} (k : Fin Q .normal N env w) : Fin (Exit.inBlock id Q) .normal N env w := fun a ha => k a ha
theorem Fin.blk_here {id : Nat} (k : Fin Q .normal N env w) : Fin (Exit.inBlock id Q) (.exit id) N env w := fun a ha => by
  show (if id = id then Q .normal a w else Q (.exit id) a w)
  rw [if_pos rfl]; exact k a ha
theorem Fin.blk_far {id id' : Nat} (hne : Nat.beq id' id = false) (k : Fin Q (.exit id') N env w) : Fin (Exit.inBlock id Q) (.exit id') N env w := fun a ha => by
  show (if id' = id then Q .normal a w else Q (.exit id') a w)
  rw [if_neg (by intro h; subst h; simp at hne)]; exact k a ha

theorem Fin.sub {e : Exit} {env' : Env} (k : Fin Q e N env' w) (hs : SubE env' env) : Fin Q e N env w := fun a ha => k a (ha.sub hs)
theorem CW.sub {env' : Env} (k : CW P c Q N env' w) (hs : SubE env' env) : CW P c Q N env w := fun a ha => k a (ha.sub hs)
theorem W.sub {ops : Array Oper} {l : List Oper} {env' : Env} (k : W P ops Q l N env' w) (hs : SubE env' env) : W P ops Q l N env w := fun a ha => k a (ha.sub hs)

/-- What a round must bring. -/
def Round {ι : Type} (E : ι → Env) (Wd : ι → World → Prop) (μ : ι → Nat) (N : Nat) (i : ι) (a : Act) (w : World) : Prop := ∃ i', μ i' < μ i ∧ Fr N (E i') a ∧ Wd i' w

theorem wp_loop_ix {ι : Type} (I : ι → Act → World → Prop) (μ : ι → Nat)
    (round : ∀ i a w, I i a w → c.wp P (Exit.then (fun a' w' => ∃ i', μ i' < μ i ∧ I i' a' w') Q) a w) (i : ι) (a : Act) (w : World) (h0 : I i a w) : (Code.loop c).wp P Q a w := by
  intro b k cs
  have key : ∀ n i a w, μ i = n → I i a w → ∃ e a' w', Q e a' w' ∧ Arrives P (lone (b.at a (.code c :: .inLoop c :: k)) cs w) b k cs e a' w' := by
    intro n
    induction n using Nat.strongRecOn with
    | _ n ih =>
      intro i a w hn hI
      obtain ⟨e, a₁, w₁, hq, harr⟩ := round i a w hI b (.inLoop c :: k) cs
      cases e with
      | normal =>
        obtain ⟨i', hlt, hI₁⟩ := hq
        obtain ⟨e₂, a₂, w₂, hq₂, harr₂⟩ := ih (μ i') (hn ▸ hlt) i' a₁ w₁ rfl hI₁
        exact ⟨e₂, a₂, w₂, hq₂, .of_steps (Steps.trans harr (.one step_inLoop)) harr₂⟩
      | exit id => exact ⟨_, a₁, w₁, hq, .pass (x := .inLoop c) rfl (fun _ _ => .inl (by simp)) harr⟩
      | goto l => exact ⟨_, a₁, w₁, hq, .pass (x := .inLoop c) rfl (fun _ _ => .inl (by simp)) harr⟩
      | ret => exact ⟨_, a₁, w₁, hq, .pass (x := .inLoop c) rfl (fun _ _ => .inl (by simp)) harr⟩
      | panic ch => exact ⟨_, a₁, w₁, hq, .pass (x := .inLoop c) rfl (fun _ _ => .inl (by simp)) harr⟩
      | outgrown => exact ⟨_, a₁, w₁, hq, .pass (x := .inLoop c) rfl (fun _ _ => .inl (by simp)) harr⟩
  obtain ⟨e, a', w', hq, harr⟩ := key _ i a w rfl h0
  exact ⟨e, a', w', hq, .of_steps (.one step_loop) harr⟩

theorem CW.loop {ι : Type} (E : ι → Env) (Wd : ι → World → Prop) (μ : ι → Nat)
    (round : ∀ i w, Wd i w → CW P c (Exit.then (Round E Wd μ N i) Q) N (E i) w)
    (i : ι) (hs : SubE (E i) env) (h0 : Wd i w) : CW P (.loop c) Q N env w := by
  intro a ha
  refine wp_loop_ix (fun i a w => Fr N (E i) a ∧ Wd i w) μ ?_ i a w ⟨ha.sub hs, h0⟩
  rintro i a w ⟨hf, hw⟩
  exact round i w hw a hf

theorem Fin.round {ι : Type} {E : ι → Env} {Wd : ι → World → Prop} {μ : ι → Nat} {i : ι} (i' : ι) (hμ : μ i' < μ i) (hs : SubE (E i') env) (hw : Wd i' w) :
    Fin (Exit.then (Round E Wd μ N i) Q) .normal N env w := fun _ ha => ⟨i', hμ, ha.sub hs, hw⟩

end code
end Go.Proofs.YtnhcbfaomehaeaaGreatDoor

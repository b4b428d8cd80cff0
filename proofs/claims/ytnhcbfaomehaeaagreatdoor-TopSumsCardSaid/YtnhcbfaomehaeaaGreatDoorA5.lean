/- The tables hold; operations that look at no memory. -/
import Derived.Test.YtnhcbfaomehaeaaGreatDoorA4
import Derived.WalkKit
import Derived.WalkSpells
import Derived.Lib.SmallJoins
import Derived.WideShapes
namespace Go.Proofs.YtnhcbfaomehaeaaGreatDoor.R1
open Go
set_option linter.unusedVariables false
set_option linter.unusedSimpArgs false

noncomputable def KOk (P : Program) (t : TypeId) : K → Prop
  | .struct fs => ∃ fields : Array Field, P.underlying t = some (.struct fields) ∧ fields.size = fs.length ∧ ∀ (i o z : Nat) (ft : TypeId), fs[i]? = some (o, z, ft) → ∃ (f : Field) (j : TypeInfo), fields[i]? = some f ∧ f.offset = o ∧ f.type = ft ∧ P.info? ft = some j ∧ j.size = z
  | .array n e => P.underlying t = some (.array n e)
  | .slice e => P.underlying t = some (.slice e)
  | .map k e => P.underlying t = some (.map k e)
  | .ptr e => P.underlying t = some (.pointer e)
  | .uptr => P.underlying t = some .unsafePointer
  | .str => P.underlying t = some .string
  | .int k => P.underlying t = some (.int k)
  | .bool => P.underlying t = some .bool
  | .iface => ∃ ms, P.underlying t = some (.interface ms)
  | .other => ∃ d, P.underlying t = some d ∧ (match d with | .struct _ | .array .. => False | _ => True)

structure TyOk (P : Program) (t : TypeId) (ti : TI) : Prop where
  info : ∃ i z, P.info? t = some i ∧ i.size = ti.size ∧ i.bytes = ti.bytes ∧ i.zero = some z ∧ z.cells.toList = ti.zero ∧ (isAgg ti.kind = true → z = .agg ⟨ti.zero⟩) ∧ (isAgg ti.kind = false → ti.zero = [z])
  kind : KOk P t ti.kind
  len : ti.zero.length = ti.size
  gr : allL ground ti.zero = true
  one : allL one ti.zero = true

/-- Which function an extern stands for. -/
noncomputable def XtOk (P : Program) (f : FuncId) : Xt → TypeId → Prop
  | .add64, _ => ∀ (x y c : Value) (w : World), (callFunc f #[x, y, c]).run P w = ((do let (x, y, c) ← Extern.MathBitsCarry.three "Add64" #[x, y, c]; pure (.value (Extern.MathBitsCarry.pair ((x + y + c) % Extern.MathBitsCarry.m64) ((x + y + c) / Extern.MathBitsCarry.m64))) : Sem Next)).run P w
  | .indexByteString, _ => ∀ (x y : Value) (w : World), (callFunc f #[x, y]).run P w = ((do pure (.value (← Extern.BytealgIndexByte.indexByte #[x, y])) : Sem Next)).run P w
  | .countString, _ => ∀ (x y : Value) (w : World), (callFunc f #[x, y]).run P w = ((do pure (.value (← Extern.BytealgCount.count #[x, y])) : Sem Next)).run P w
  | .noEscape, _ => ∀ (x : Value) (w : World), (callFunc f #[x]).run P w = .ok (.value x) w
  | .makeNoZero, e => P.underlying e = some (.int .u8) ∧ ∃ rs t, rs[0]? = some t ∧ P.underlying t = some (.slice e) ∧ ∀ (x : Value) (w : World), (callFunc f #[x]).run P w = ((do pure (.value (← Extern.BytealgMakeNoZero.makeNoZero #[] rs #[x])) : Sem Next)).run P w

noncomputable def FnOk (P : Program) (f : FuncId) : FI → Prop
  | .body n rs c => (∃ g, P.funcs[f]? = some g ∧ g.body = some c ∧ g.ntmps = n ∧ g.results = rs.toArray) ∧ ∀ (args : Array Value) (w : World), (callFunc f args).run P w = .ok (.enter f args) w
  | .lem _ => ∀ (args : Array Value) (w : World), (callFunc f args).run P w = .ok (.enter f args) w
  | .ext x e => XtOk P f x e

structure TabOk (P : Program) (tb : Tab) : Prop where
  ty : ∀ t ti, tb.ty.get t = some ti → TyOk P t ti
  fn : ∀ f fi, tb.fn.get f = some fi → FnOk P f fi
  meth : ∀ t n f d, (t, n, f, d) ∈ tb.meth → match d with
    | none => ∀ (v : Value) (args : List Value) (w : World), (callMethod (.iface t v) n ⟨args⟩).run P w = .ok (.enter f ⟨v :: args⟩) w
    | some e => ∀ (a : Addr) (args : List Value) (w : World) (u : Value), (loadVar e a).run P w = .ok u w → (callMethod (.iface t (.pointer (some a))) n ⟨args⟩).run P w = .ok (.enter f ⟨u :: args⟩) w
  follows : P.follows .mixedOrders = true

noncomputable def EvR (ρ : Ren) (ev : Ev) (ev' : Operand → Value) : Prop := ∀ x v, ev x = some v → VR ρ v (ev' x)

noncomputable def OpPost (P : Program) (G : Nat) (V : Nat → Bool) (ρ : Ren) (s : St) (w : World) (s' : St) : R → Sem Next → Prop
  | .val v, m => ∃ v' w' ρ', m.run P w = .ok (.value v') w' ∧ VR ρ' v v' ∧ Out G V ρ s w ρ' s' w'
  | .skip, m => ∃ w' ρ', m.run P w = .ok .skip w' ∧ Out G V ρ s w ρ' s' w'
  | .enter f args, m => ∃ args' w' ρ', m.run P w = .ok (.enter f ⟨args'⟩) w' ∧ LR ρ' args args' ∧ Out G V ρ s w ρ' s' w'
  | .yield l args, m => ∃ l' args', ρ l = some l' ∧ LR ρ args args' ∧ s' = s ∧ m.run P w = (Instr.yield l' ⟨args'⟩).run P w

/-- One operation of the executor is right. -/
noncomputable def OpOk (P : Program) (G : Nat) (ev : Ev) (o : Oper) (s : St) (r : R) (s' : St) : Prop :=
  Tr s s' ∧ ∀ V ρ w ev', Wf s → G ≤ s.nx → vis V s s' → fresh ρ s s' → Rel G ρ (res V s.h.get) w → EvR ρ ev ev' → OpPost P G V ρ s w s' r (execOp ev' o)

theorem OpOk.pure {P : Program} {G : Nat} {ev : Ev} {o : Oper} {s : St} {v : Value}
    (h : ∀ ρ w ev', EvR ρ ev ev' → ∃ v', (execOp ev' o).run P w = .ok (.value v') w ∧ VR ρ v v') : OpOk P G ev o s (.val v) s :=
  ⟨Tr.refl s, fun V ρ w ev' _ _ _ _ hr he => let ⟨v', h1, h2⟩ := h ρ w ev' he; ⟨v', w, ρ, h1, h2, Out.idle rfl rfl hr⟩⟩

theorem valX_eq {s s' : St} {r : Option Value} {q : R} (h : valX s r = some (q, s')) : ∃ v, r = some v ∧ q = .val v ∧ s' = s := by
  unfold valX at h
  split at h
  · cases h; exact ⟨_, rfl, rfl, rfl⟩
  · cases h
theorem valsX_eq {s' : St} {r : Option (Value × St)} {q : R} (h : valsX r = some (q, s')) : ∃ v, r = some (v, s') ∧ q = .val v := by
  unfold valsX at h
  split at h
  · cases h; exact ⟨_, rfl, rfl⟩
  · cases h

theorem runP_run {P : Program} {α : Type} {m : Sem α} {a : α} (h : runP m = some a) (w : World) : m.run P w = .ok a w := by
  cases m <;> first | (cases h; rfl) | cases h

theorem add_plain (b o n : Nat) : (⟨b, o, none⟩ : Addr).add n = ⟨b, o + n, none⟩ := by
  unfold Addr.add
  split
  · rename_i h; subst h; rfl
  · rfl

theorem natOf_eq {v : Value} {n : Nat} (h : natOf v = some n) : ∃ k, v = .int k (n : Int) := by
  unfold natOf at h
  split at h
  · cases h; exact ⟨_, rfl⟩
  · cases h

section
variable {P : Program} {tb : Tab} {G : Nat} {ev : Ev} {s s' : St} {r : R} {d : Option Nat} {ty : TypeId} {pos : String} {aft : Array Edge} {g : Option (Nat × Bool)}

theorem op_move_ok {x : Operand} (h : op_move tb ev x s = some (r, s')) : OpOk P G ev ⟨d, .move x, ty, pos, aft, g⟩ s r s' ∧ OpOk P G ev ⟨d, .assign x, ty, pos, aft, g⟩ s r s' := by
  obtain ⟨v, hv, rfl, rfl⟩ := valX_eq h
  exact ⟨OpOk.pure fun ρ w ev' he => ⟨_, by simp [execOp], he x v hv⟩, OpOk.pure fun ρ w ev' he => ⟨_, by simp [execOp], he x v hv⟩⟩

theorem op_pick_ok {c a b : Operand} (h : op_pick tb ev c a b s = some (r, s')) : OpOk P G ev ⟨d, .pick c a b, ty, pos, aft, g⟩ s r s' := by
  unfold op_pick at h
  split at h
  · rename_i hc
    obtain ⟨v, hv, rfl, rfl⟩ := valX_eq h
    refine OpOk.pure fun ρ w ev' he => ⟨_, ?_, he a v hv⟩
    have := (he c _ hc).ground rfl
    simp [execOp, this, asBool]
  · rename_i hc
    obtain ⟨v, hv, rfl, rfl⟩ := valX_eq h
    refine OpOk.pure fun ρ w ev' he => ⟨_, ?_, he b v hv⟩
    have := (he c _ hc).ground rfl
    simp [execOp, this, asBool]
  · cases h

theorem VR.ptr_inv {ρ : Ren} {a : Addr} {v : Value} (h : VR ρ (.pointer (some a)) v) : ∃ b', ρ a.block = some b' ∧ a = ⟨a.block, a.off, none⟩ ∧ v = .pointer (some ⟨b', a.off, none⟩) := by
  cases h with
  | ptr e => exact ⟨_, e, rfl, rfl⟩

theorem op_nilCheck_ok {x : Operand} (h : op_nilCheck tb ev x s = some (r, s')) : OpOk P G ev ⟨d, .nilCheck x, ty, pos, aft, g⟩ s r s' := by
  unfold op_nilCheck at h
  split at h
  · rename_i a hx
    cases h
    refine OpOk.pure fun ρ w ev' he => ⟨_, ?_, he x _ hx⟩
    obtain ⟨b', h1, h2, h3⟩ := (he x _ hx).ptr_inv
    simp [execOp, h3]
  · cases h

theorem bytesEq_eq : ∀ {x y : List UInt8}, bytesEq x y = decide (x = y)
  | [], [] => rfl
  | [], _ :: _ => rfl
  | _ :: _, [] => rfl
  | a :: x, b :: y => by
    rw [bytesEq]
    split
    · rename_i h
      rw [bytesEq_eq (x := x)]
      have : a = b := UInt8.toNat_inj.1 (beq_iff.1 h)
      simp [this]
    · rename_i h
      have := beq_false h
      symm
      rw [decide_eq_false_iff_not]
      intro e
      cases e
      exact this rfl

theorem runP_eq {α : Type} {m : Sem α} {a : α} (h : runP m = some a) : m = .pure a := by
  cases m <;> first | (cases h; rfl) | cases h
theorem runG_eq {m : Sem Value} {a : Value} (h : runG m = some a) : m = .pure a ∧ ground a = true := by
  cases m with
  | pure b =>
    obtain ⟨h1, h2⟩ := ife_some h
    cases h2
    exact ⟨rfl, h1⟩
  | _ => cases h

theorem string_data (s : ByteArray) : s = ⟨⟨s.data.toList⟩⟩ := rfl

theorem of_equal {t : TypeId} {a b : Value} {v : Bool} {w : World} (h : ∀ d, (Op.equalIn (d + 1) t a b).run P w = .ok v w) : (Op.equal t a b).run P w = .ok v w := h 9999

theorem nilX_ok (hT : TabOk P tb) {t : TypeId} {k : K} (hk : KOk P t k) {x y : Operand} {a b a' b' : Value} {v : Bool} {ρ : Ren} (h : nilX tb k x y a b = some v) (ha : VR ρ a a') (hb : VR ρ b b') (w : World) :
    (Go.binOp .eql t a' b').run P w = .ok (.bool v) w ∧ (Go.binOp .neq t a' b').run P w = .ok (.bool (!v)) w ∧ ∀ op, (eqGuard op t x y a' b').run P w = .ok () w := by
  unfold nilX at h
  split at h
  · cases ha; cases hb; cases h
    have hq := of_equal (P := P) (w := w) (t := t) (a := .pointer none) (b := .pointer none) (v := true) fun d => by simp [Op.equalIn, run_underlying hk]
    refine ⟨?_, ?_, fun op => by cases op <;> simp [eqGuard]⟩ <;> simp only [Go.binOp] <;> simp [hq]
  · cases ha; cases hb; cases h
    have hq : ∀ a : Addr, (Op.equal t (.pointer (some a)) (.pointer none)).run P w = .ok false w := fun a => of_equal fun d => by simp [Op.equalIn, run_underlying hk]
    refine ⟨?_, ?_, fun op => by cases op <;> simp [eqGuard]⟩ <;> simp only [Go.binOp] <;> simp [hq]
  · cases ha; cases hb; cases h
    have hq : ∀ a : Addr, (Op.equal t (.pointer none) (.pointer (some a))).run P w = .ok false w := fun a => of_equal fun d => by simp [Op.equalIn, run_underlying hk]
    refine ⟨?_, ?_, fun op => by cases op <;> simp [eqGuard]⟩ <;> simp only [Go.binOp] <;> simp [hq]
  · split at h
    · rename_i h1 h2 h3
      cases h
      obtain ⟨i, z, hi, _⟩ := (hT.ty _ _ h3).info
      obtain ⟨p, e1, e2, rfl⟩ := ha.ptr_inv
      obtain ⟨q, f1, f2, rfl⟩ := hb.ptr_inv
      rw [beq_iff.1 h1, f1] at e1
      cases e1
      rw [beq_iff.1 h2]
      have hq : ∀ a : Addr, (Op.equal t (.pointer (some a)) (.pointer (some a))).run P w = .ok true w := fun a => of_equal fun d => by simp [Op.equalIn, run_underlying hk, sizeOf, typeInfo, hi, sameAddr]
      refine ⟨?_, ?_, fun op => by cases op <;> simp [eqGuard]⟩ <;> simp only [Go.binOp] <;> simp [hq]
    · cases h
  · cases ha; cases hb; cases h
    rename_i n c n' c'
    have hq := of_equal (P := P) (w := w) (t := t) (a := .slice none n c) (b := .slice none n' c') (v := true) fun d => by simp [Op.equalIn, run_underlying hk]
    refine ⟨?_, ?_, fun op => by cases op <;> simp [eqGuard]⟩ <;> simp only [Go.binOp] <;> simp [hq]
  · cases hb; cases h
    have hq : ∀ (a : Addr) (n c n' c' : Nat), (Op.equal t (.slice (some a) n c) (.slice none n' c')).run P w = .ok false w := fun a n c n' c' => of_equal fun d => by simp [Op.equalIn, run_underlying hk]
    cases ha <;> refine ⟨?_, ?_, fun op => by cases op <;> simp [eqGuard]⟩ <;> simp only [Go.binOp] <;> simp [hq]
  · cases ha; cases h
    have hq : ∀ (a : Addr) (n c n' c' : Nat), (Op.equal t (.slice none n' c') (.slice (some a) n c)).run P w = .ok false w := fun a n c n' c' => of_equal fun d => by simp [Op.equalIn, run_underlying hk]
    cases hb <;> refine ⟨?_, ?_, fun op => by cases op <;> simp [eqGuard]⟩ <;> simp only [Go.binOp] <;> simp [hq]
  · cases ha; cases hb
    obtain ⟨ms, hk⟩ := hk
    have hq := of_equal (P := P) (w := w) (t := t) (a := .nilIface) (b := .nilIface) (v := true) fun d => by simp [Op.equalIn, run_underlying hk]
    split at h
    · cases h
    · rename_i hc
      cases h
      refine ⟨?_, ?_, fun op => ?_⟩
      · simp only [Go.binOp]; simp [hq]
      · simp only [Go.binOp]; simp [hq]
      · cases x <;> cases y <;> first | (exact (hc rfl rfl).elim) | (cases op <;> simp [eqGuard])
  · cases ha; cases hb; cases h
    obtain ⟨ms, hk⟩ := hk
    have hq : ∀ (u : TypeId) (v : Value), (Op.equal t (.iface u v) .nilIface).run P w = .ok false w := fun u v => of_equal fun d => by simp [Op.equalIn, run_underlying hk]
    refine ⟨?_, ?_, fun op => by cases op <;> simp [eqGuard]⟩ <;> simp only [Go.binOp] <;> simp [hq]
  · cases ha; cases hb; cases h
    obtain ⟨ms, hk⟩ := hk
    have hq : ∀ (u : TypeId) (v : Value), (Op.equal t .nilIface (.iface u v)).run P w = .ok false w := fun u v => of_equal fun d => by simp [Op.equalIn, run_underlying hk]
    refine ⟨?_, ?_, fun op => by cases op <;> simp [eqGuard]⟩ <;> simp only [Go.binOp] <;> simp [hq]
  · cases h

theorem op_binOp_ok (hT : TabOk P tb) {op : BinOp} {t u : TypeId} {x y : Operand} (h : op_binOp tb ev op t x y s = some (r, s')) : OpOk P G ev ⟨d, .binOp op t x y u, ty, pos, aft, g⟩ s r s' := by
  unfold op_binOp at h
  split at h
  · rename_i a b hx hy
    split at h
    · rename_i v hv
      cases h
      refine OpOk.pure fun ρ w ev' he => ?_
      unfold binX at hv
      split at hv
      · have e1 := (he x _ hx).ground rfl
        have e2 := (he y _ hy).ground rfl
        obtain ⟨e3, e4⟩ := runG_eq hv
        refine ⟨v, ?_, VR.of_ground e4⟩
        simp only [execOp, e1, e2]
        rw [e3]
        rfl
      · rename_i p q
        have e1 := (he x _ hx).ground rfl
        have e2 := (he y _ hy).ground rfl
        split at hv
        · cases hv
          refine ⟨_, ?_, VR.of_ground (by rfl)⟩
          simp [execOp, e1, e2, eqGuard, binOp, Op.stringOp, bytesEq_eq, ByteArray.toList_eq]
          rw [Bool.eq_iff_iff]; simp
        · cases hv
          refine ⟨_, ?_, VR.of_ground (by rfl)⟩
          simp [execOp, e1, e2, eqGuard, binOp, Op.stringOp, bytesEq_eq, ByteArray.toList_eq]
          rw [Bool.eq_iff_iff]; simp
        · split at hv
          · rename_i hl
            cases hv
            refine ⟨_, ?_, VR.of_ground (by rfl)⟩
            have hl' := blt_iff.1 hl
            have h1 : p.size = p.data.toList.length := by rw [Array.length_toList]; rfl
            have h2 : q.size = q.data.toList.length := by rw [Array.length_toList]; rfl
            have h3 : p ++ q = ⟨⟨p.data.toList ++ q.data.toList⟩⟩ := by
              apply ByteArray.ext
              apply Array.toList_inj.1
              exact Joins.data_append p q
            simp [execOp, e1, e2, eqGuard, binOp, Op.stringOp]
            rw [if_neg (by rw [h1, h2]; omega), h3]
          · cases hv
        · cases hv
      · cases hv
    · split at h
      · rename_i ti ht
        have hk := (hT.ty _ _ ht).kind
        split at h
        · rename_i v hv _
          cases h
          refine OpOk.pure fun ρ w ev' he => ⟨.bool v, ?_, .bool v⟩
          obtain ⟨h1, h2, h3⟩ := nilX_ok hT hk hv (he x _ hx) (he y _ hy) w
          simp [execOp, h1, h3]
        · rename_i v hv _
          cases h
          refine OpOk.pure fun ρ w ev' he => ⟨.bool (!v), ?_, .bool _⟩
          obtain ⟨h1, h2, h3⟩ := nilX_ok hT hk hv (he x _ hx) (he y _ hy) w
          simp [execOp, h2, h3]
        · cases h
      · cases h
  · cases h

end
end Go.Proofs.YtnhcbfaomehaeaaGreatDoor.R1

/- Memory: pods, slices of pods, slices of numbers; loads, stores, new blocks. -/
import Derived.Test.YtnhcbfaomehaeaaGreatDoorOps
import Derived.Maps.AppendAt
namespace Go.Proofs.YtnhcbfaomehaeaaGreatDoor
open Go.RowKit
set_option linter.unusedVariables false
set_option linter.unusedSimpArgs false

/-! ## Pods as they lie -/

structure PV where
  id : Int
  prio : Int
  pre : Bool
  grace : Int
  rA : Option Addr
  rn : Nat
  rc : Nat
  arr : Int
  ph : Int
  node : Int
  dead : Int

def PV.cs (p : PV) : List Value := [.int .i64 p.id, .int .i64 p.prio, .bool p.pre, .int .i64 p.grace, .slice p.rA p.rn p.rc, .int .i64 p.arr, .int .i64 p.ph, .int .i64 p.node, .int .i64 p.dead]
def PV.v (p : PV) : Value := .agg p.cs.toArray
theorem PV.cs_length (p : PV) : p.cs.length = 9 := rfl
def PV.zero : PV := ⟨0, 0, false, 0, none, 0, 0, 0, 0, 0, 0⟩
theorem PV.one (p : PV) : ∀ v ∈ p.cs, v.oneCell' = true := by
  intro v hv
  simp only [PV.cs, List.mem_cons, List.not_mem_nil, or_false] at hv
  rcases hv with rfl | rfl | rfl | rfl | rfl | rfl | rfl | rfl | rfl <;> rfl

def flat (L : List PV) : List Value := L.flatMap PV.cs
theorem flat_nil : flat [] = [] := rfl
theorem flat_cons (p : PV) (L : List PV) : flat (p :: L) = p.cs ++ flat L := rfl
theorem flat_append (L M : List PV) : flat (L ++ M) = flat L ++ flat M := by simp [flat]
theorem flat_length (L : List PV) : (flat L).length = L.length * 9 := by
  induction L with
  | nil => rfl
  | cons p L ih => rw [flat_cons, List.length_append, ih, PV.cs_length, List.length_cons]; omega
theorem flat_one (L : List PV) : ∀ v ∈ flat L, v.oneCell' = true := by
  intro v hv
  obtain ⟨p, _, hp⟩ := List.mem_flatMap.1 hv
  exact p.one v hp
theorem flat_get {L : List PV} {i : Nat} {p : PV} (h : L[i]? = some p) {k : Nat} {v : Value} (hk : p.cs[k]? = some v) : (flat L)[i * 9 + k]? = some v := by
  induction L generalizing i with
  | nil => simp at h
  | cons q L ih =>
    have hk9 : k < 9 := (List.getElem?_eq_some_iff.1 hk).1
    cases i with
    | zero =>
      simp at h
      subst h
      rw [flat_cons, Nat.zero_mul, Nat.zero_add, List.getElem?_append_left (by rw [PV.cs_length]; omega)]
      exact hk
    | succ i =>
      have h' : L[i]? = some p := by simpa using h
      rw [flat_cons, List.getElem?_append_right (by rw [PV.cs_length]; omega), PV.cs_length]
      rw [show (i + 1) * 9 + k - 9 = i * 9 + k from by omega]
      exact ih h'

theorem flat_take (L : List PV) (n : Nat) : (flat L).take (n * 9) = flat (L.take n) := by
  induction L generalizing n with
  | nil => simp [flat]
  | cons p L ih =>
    cases n with
    | zero => simp [flat]
    | succ n =>
      rw [flat_cons, List.take_succ_cons, flat_cons, List.take_append, PV.cs_length, show (n + 1) * 9 - 9 = n * 9 from by omega, ih, List.take_of_length_le (by rw [PV.cs_length]; omega)]
theorem flat_drop (L : List PV) (n : Nat) : (flat L).drop (n * 9) = flat (L.drop n) := by
  induction L generalizing n with
  | nil => simp [flat]
  | cons p L ih =>
    cases n with
    | zero => simp [flat]
    | succ n =>
      rw [flat_cons, List.drop_succ_cons, List.drop_append, PV.cs_length, show (n + 1) * 9 - 9 = n * 9 from by omega, ih, List.drop_eq_nil_of_le (by rw [PV.cs_length]; omega), List.nil_append]

theorem flat_set (L : List PV) (i : Nat) (p : PV) (h : i < L.length) (sp : List Value) :
    (flat L ++ sp).take (i * 9) ++ p.cs ++ (flat L ++ sp).drop (i * 9 + p.cs.length) = flat (L.set i p) ++ sp := by
  have h1 : L.set i p = L.take i ++ p :: L.drop (i + 1) := by rw [List.set_eq_take_append_cons_drop, if_pos h]
  rw [h1, flat_append, flat_cons, List.take_append_of_le_length (by rw [flat_length]; omega), flat_take, PV.cs_length, show i * 9 + 9 = (i + 1) * 9 from by omega,
    List.drop_append_of_le_length (by rw [flat_length]; omega), flat_drop]
  simp

/-! ## Slices -/

/-- A slice of pods that reads as L, all of it below block B. -/
def PS (w : World) (B : Nat) (v : Value) (L : List PV) : Prop :=
  ∃ A c, v = .slice A L.length c ∧ L.length ≤ c ∧ (L ≠ [] → ∃ b o, A = some ⟨b, o, none⟩ ∧ b < B ∧ ∀ i p k u, L[i]? = some p → p.cs[k]? = some u → w.cell? ⟨b, o + i * 9 + k, none⟩ = some u)

/-- A slice of int64 that reads as l, all of it below block B. -/
def IS (w : World) (B : Nat) (A : Option Addr) (n : Nat) (l : List Int) : Prop :=
  n = l.length ∧ (l ≠ [] → ∃ b o, A = some ⟨b, o, none⟩ ∧ b < B ∧ ∀ (i : Nat) (x : Int), l[i]? = some x → w.cell? ⟨b, o + i, none⟩ = some (.int .i64 x))

theorem PS.below {w w' : World} {B : Nat} {v : Value} {L : List PV} (h : PS w B v L) (hb : Below B w w') : PS w' B v L := by
  obtain ⟨A, c, rfl, hl, hc⟩ := h
  refine ⟨A, c, rfl, hl, fun hne => ?_⟩
  obtain ⟨b, o, rfl, hbB, hcell⟩ := hc hne
  exact ⟨b, o, rfl, hbB, fun i p k u hi hk => (hb.cell (p := ⟨b, o + i * 9 + k, none⟩) hbB).trans (hcell i p k u hi hk)⟩
theorem PS.more {w : World} {B B' : Nat} {v : Value} {L : List PV} (h : PS w B v L) (hB : B ≤ B') : PS w B' v L := by
  obtain ⟨A, c, rfl, hl, hc⟩ := h
  refine ⟨A, c, rfl, hl, fun hne => ?_⟩
  obtain ⟨b, o, rfl, hbB, hcell⟩ := hc hne
  exact ⟨b, o, rfl, by omega, hcell⟩
theorem IS.below {w w' : World} {B : Nat} {A : Option Addr} {n : Nat} {l : List Int} (h : IS w B A n l) (hb : Below B w w') : IS w' B A n l := by
  obtain ⟨hl, hc⟩ := h
  refine ⟨hl, fun hne => ?_⟩
  obtain ⟨b, o, rfl, hbB, hcell⟩ := hc hne
  exact ⟨b, o, rfl, hbB, fun i x hi => (hb.cell (p := ⟨b, o + i, none⟩) hbB).trans (hcell i x hi)⟩
theorem IS.more {w : World} {B B' : Nat} {A : Option Addr} {n : Nat} {l : List Int} (h : IS w B A n l) (hB : B ≤ B') : IS w B' A n l := by
  obtain ⟨hl, hc⟩ := h
  refine ⟨hl, fun hne => ?_⟩
  obtain ⟨b, o, rfl, hbB, hcell⟩ := hc hne
  exact ⟨b, o, rfl, by omega, hcell⟩
theorem PS.nil (w : World) (B : Nat) : PS w B (.slice none 0 0) [] := ⟨none, 0, rfl, Nat.le_refl _, fun h => absurd rfl h⟩

theorem PS.take {w : World} {B : Nat} {A : Option Addr} {n c k : Nat} {L : List PV} (h : PS w B (.slice A n c) L) (hk : k ≤ L.length) : PS w B (.slice A k c) (L.take k) := by
  obtain ⟨A', c', hv, hl, hc⟩ := h
  cases hv
  refine ⟨A, c, by rw [List.length_take, Nat.min_eq_left hk], by rw [List.length_take]; omega, fun hne => ?_⟩
  obtain ⟨b, o, rfl, hb, hcell⟩ := hc (by rintro rfl; simp at hne)
  exact ⟨b, o, rfl, hb, fun i p j u hi hj => hcell i p j u (by
    rw [List.getElem?_take] at hi
    split at hi
    · exact hi
    · cases hi) hj⟩
theorem PS.drop {w : World} {B : Nat} {A : Option Addr} {n c k : Nat} {L : List PV} (h : PS w B (.slice A n c) L) (hk : k ≤ L.length) : PS w B (.slice (if c = k then A else A.map (·.add (k * 9))) (n - k) (c - k)) (L.drop k) := by
  obtain ⟨A', c', hv, hl, hc⟩ := h
  cases hv
  refine ⟨_, _, by rw [List.length_drop], by rw [List.length_drop]; omega, fun hne => ?_⟩
  have hlt : k < L.length := by
    rcases Nat.lt_or_ge k L.length with h1 | h1
    · exact h1
    · exact absurd (List.drop_eq_nil_of_le h1) hne
  obtain ⟨b, o, rfl, hb, hcell⟩ := hc (by rintro rfl; simp at hlt)
  rw [if_neg (by omega)]
  refine ⟨b, o + k * 9, ?_, hb, fun i p j u hi hj => ?_⟩
  · simp only [Option.map_some, Option.some.injEq]
    unfold Addr.add
    split
    · rename_i h0; rw [h0]; rfl
    · rfl
  · rw [List.getElem?_drop] at hi
    have := hcell (k + i) p j u hi hj
    rw [show o + (k + i) * 9 + j = o + k * 9 + i * 9 + j from by rw [Nat.add_mul]; omega] at this
    exact this

/-- The world only grows. -/
def X (w w' : World) : Prop := Below w.heap.size w w'
theorem X.refl (w : World) : X w w := Below.refl _ _
theorem X.trans {a b c : World} (h : X a b) (k : X b c) : X a c := Below.trans h (Below.mono k h.size)
theorem X.le {a b : World} (h : X a b) : a.heap.size ≤ b.heap.size := h.size
theorem X.at_ {a b : World} (h : X a b) {B : Nat} (hB : B ≤ a.heap.size) : Below B a b := Below.mono h hB
theorem X.alloc (w : World) (o : Obj) : X w (w.alloc o) := (Below.refl _ _).alloc (Nat.le_refl _) o
theorem X.drew (w : World) : X w { w with drawn := w.drawn + 1 } := ⟨rfl, rfl, rfl, Nat.le_refl _, fun _ _ => rfl⟩

/-- A block that is known whole. -/
def Blk (w : World) (g : Nat) (t : TypeId) (cs : List Value) : Prop := w.heap[g]? = some (.cells cs.toArray t (0, 0))
theorem Blk.lt {w : World} {g : Nat} {t : TypeId} {cs : List Value} (h : Blk w g t cs) : g < w.heap.size := by
  rcases Nat.lt_or_ge g w.heap.size with h1 | h1
  · exact h1
  · unfold Blk at h; rw [Array.getElem?_eq_none h1] at h; cases h
theorem Blk.cell {w : World} {g : Nat} {t : TypeId} {cs : List Value} (h : Blk w g t cs) {i : Nat} {u : Value} (hi : cs[i]? = some u) : w.cell? ⟨g, i, none⟩ = some u := by
  unfold Blk at h
  simp [World.cell?, h, hi]
theorem Blk.new (w : World) (t : TypeId) (cs : List Value) : Blk (w.alloc (.cells cs.toArray t)) w.heap.size t cs := heap_alloc_new w _
theorem Blk.x {w w' : World} {g : Nat} {t : TypeId} {cs : List Value} (h : Blk w g t cs) (hx : X w w') : Blk w' g t cs := (hx.block g h.lt).trans h
theorem Blk.below {w w' : World} {B g : Nat} {t : TypeId} {cs : List Value} (h : Blk w g t cs) (hx : Below B w w') (hg : g < B) : Blk w' g t cs := (hx.block g hg).trans h

/-! ## Operations on memory -/

section memops
variable {P : Program} {ty : TypeId} {L : Operand → Option Value} {x y z : Operand} {v u : Value} {w : World}

theorem add_plain (b o n : Nat) : (⟨b, o, none⟩ : Addr).add n = ⟨b, o + n, none⟩ := by
  unfold Addr.add
  split
  · rename_i h; subst h; rfl
  · rfl

def oneDesc : TypeDesc → Bool
  | .struct _ | .array _ _ => false
  | _ => true

theorem op_load1 {t : TypeId} {d : TypeDesc} {b o : Nat} (ht : P.underlying t = some d) (hd : oneDesc d = true) (hx : L x = some (.pointer (some ⟨b, o, none⟩))) (hc : w.cell? ⟨b, o, none⟩ = some v) : Reads P (.load t x) ty L w v := fun ev he dd pos aft g => by
  have h1 : (loadVar t ⟨b, o, none⟩).run P w = .ok v w := by
    unfold loadVar isAgg
    simp only [Sem.run_bind, run_underlying ht, Result.andThen_ok]
    cases d <;> simp [oneDesc] at hd <;> simp [load, Sem.run, hc]
  simp [execOp, he x _ hx, Instr.loadAt, Instr.sureAddr, h1]

theorem run_load_struct {t : TypeId} {fs : Array Field} {n b o : Nat} {cs : List Value} (ht : P.underlying t = some (.struct fs)) (hn : (P.info? t).map (·.size) = some n) (hl : cs.length = n)
    (hc : ∀ k u, cs[k]? = some u → w.cell? ⟨b, o + k, none⟩ = some u) : (loadVar t ⟨b, o, none⟩).run P w = .ok (.agg cs.toArray) w := by
  have h1 := run_loadCells_list (P := P) (w := w) ⟨b, o, none⟩ cs (fun j v hj => by rw [add_plain]; exact hc j v hj)
  cases hi : P.info? t with
  | none => simp [hi] at hn
  | some i =>
    have hs : i.size = cs.length := by rw [hi] at hn; simp at hn; omega
    unfold loadVar isAgg
    simp [run_underlying ht, sizeOf, typeInfo, hi, hs, h1]

theorem op_loadN {t : TypeId} {fs : Array Field} {n b o : Nat} {cs : List Value} (ht : P.underlying t = some (.struct fs)) (hn : (P.info? t).map (·.size) = some n) (hl : cs.length = n) (hx : L x = some (.pointer (some ⟨b, o, none⟩)))
    (hc : ∀ k u, cs[k]? = some u → w.cell? ⟨b, o + k, none⟩ = some u) : Reads P (.load t x) ty L w (.agg cs.toArray) := fun ev he dd pos aft g => by
  simp [execOp, he x _ hx, Instr.loadAt, Instr.sureAddr, run_load_struct ht hn hl hc]

theorem op_field {t ft : TypeId} {fs : Array Field} {b o i off n : Nat} (ht : P.underlying t = some (.struct fs)) (hf : (fs[i]?).map (fun f => (f.offset, f.type)) = some (off, ft)) (hft : (P.info? ft).map (·.size) = some (n + 1)) (hx : L x = some (.pointer (some ⟨b, o, none⟩))) :
    Pure P (.fieldAddr t x i) ty L (.pointer (some ⟨b, o + off, none⟩)) := fun ev he w d pos aft g => by
  cases hf' : fs[i]? with
  | none => simp [hf'] at hf
  | some f =>
    rw [hf'] at hf
    simp at hf
    obtain ⟨h1, h2⟩ := hf
    subst h1; subst h2
    cases hi : P.info? f.type with
    | none => simp [hi] at hft
    | some j =>
      have hs : j.size = n + 1 := by rw [hi] at hft; simpa using hft
      simp [execOp, he x _ hx, Instr.fieldAt, run_underlying ht, hf', Instr.sureAddr, fieldPlace, sizeOf, typeInfo, hi, hs, add_plain]

/-- The field's place in a struct. -/
def Fld (P : Program) (t i off : Nat) : Prop := ∃ fs f j, P.underlying t = some (.struct fs) ∧ fs[i]? = some f ∧ f.offset = off ∧ P.info? f.type = some j ∧ j.size ≠ 0

theorem Fld.of {t i off : Nat} {fs : Array Field} {f : Field} (ht : P.underlying t = some (.struct fs)) (hf : fs[i]? = some f) (ho : f.offset = off) {n : Nat} (hj : (P.info? f.type).map (·.size) = some (n + 1)) : Fld P t i off := by
  cases hi : P.info? f.type with
  | none => simp [hi] at hj
  | some j => exact ⟨fs, f, j, ht, hf, ho, hi, by rw [hi] at hj; simp at hj; omega⟩

theorem op_fld {t i off b o : Nat} (hF : Fld P t i off) (hx : L x = some (.pointer (some ⟨b, o, none⟩))) : Pure P (.fieldAddr t x i) ty L (.pointer (some ⟨b, o + off, none⟩)) := fun ev he w d pos aft g => by
  obtain ⟨fs, f, j, ht, hf, rfl, hi, hs⟩ := hF
  simp [execOp, he x _ hx, Instr.fieldAt, run_underlying ht, hf, Instr.sureAddr, fieldPlace, sizeOf, typeInfo, hi, hs, add_plain]

theorem op_index' {b o n c i : Nat} {t e : TypeId} {s : Nat} (ht : P.underlying t = some (.slice e)) (hs : (P.info? e).map (·.size) = some s) (hx : L x = some (.slice (some ⟨b, o, none⟩) n c)) (hy : L y = some (.int .i64 (i : Int))) (hi : i < n) :
    Pure P (.indexAddr t x y) ty L (.pointer (some ⟨b, o + i * s, none⟩)) := by
  cases hj : P.info? e with
  | none => simp [hj] at hs
  | some j =>
    have hsz : j.size = s := by rw [hj] at hs; simpa using hs
    have h := op_index (P := P) (ty := ty) ht hj hsz hx hy hi
    rw [add_plain] at h
    exact h

/-- An element of a slice of pods. -/
theorem op_loadP {B b o i : Nat} {p : PV} {A : Option Addr} {c : Nat} {Lp : List PV} {t : TypeId} {fs : Array Field} (ht : P.underlying t = some (.struct fs)) (hn : (P.info? t).map (·.size) = some 9)
    (hs : PS w B (.slice A Lp.length c) Lp) (hA : A = some ⟨b, o, none⟩) (hi : Lp[i]? = some p) (hx : L x = some (.pointer (some ⟨b, o + i * 9, none⟩))) : Reads P (.load t x) ty L w p.v := by
  obtain ⟨A', c', hv, hl, hc⟩ := hs
  cases hv
  obtain ⟨b', o', hA', hb, hcell⟩ := hc (by rintro rfl; simp at hi)
  rw [hA] at hA'
  cases hA'
  exact op_loadN ht hn p.cs_length hx fun k u hk => hcell i p k u hi hk

theorem op_box {t : TypeId} {cs : List Value} (hx : L x = some v) (hv : v.cells.toList = cs) : Makes P (.box t x) ty L w (.value (.pointer (some ⟨w.heap.size, 0, none⟩))) (w.alloc (.cells cs.toArray t)) := fun ev he d pos aft g => by
  have : v.cells = cs.toArray := by rw [← hv]
  simp [execOp, he x _ hx, Instr.box, newVar, newRow, newObj, this, Sem.run]
theorem op_alloc {t : TypeId} {i : TypeInfo} {z : Value} {cs : List Value} (hi : P.info? t = some i) (hz : i.zero = some z) (hv : z.cells.toList = cs) : Makes P (.alloc t) ty L w (.value (.pointer (some ⟨w.heap.size, 0, none⟩))) (w.alloc (.cells cs.toArray t)) := fun ev he d pos aft g => by
  have : z.cells = cs.toArray := by rw [← hv]
  simp [execOp, Instr.alloc, zeroValue, typeInfo, hi, hz, newVar, newRow, newObj, this, Sem.run]

theorem op_alloc' {t : TypeId} {n : Nat} {z : Value} {cs : List Value} (hi : (P.info? t).map (fun j => (j.size, j.zero)) = some (n, some z)) (hv : z.cells.toList = cs) : Makes P (.alloc t) ty L w (.value (.pointer (some ⟨w.heap.size, 0, none⟩))) (w.alloc (.cells cs.toArray t)) := by
  cases h : P.info? t with
  | none => simp [h] at hi
  | some i => exact op_alloc h (by rw [h] at hi; simp at hi; exact hi.2) hv

theorem op_sliceTo {A : Option Addr} {n c k : Nat} {t e s : TypeId} (ht : P.underlying t = some (.slice e)) (hs : (P.info? e).map (·.size) = some s) (hx : L x = some (.slice A n c)) (hy : L y = some (.int .i64 (k : Int))) (hk : k ≤ c) :
    Pure P (.slice t x none (some y) none) ty L (.slice A k c) := fun ev he w d pos aft g => by
  cases hi : P.info? e with
  | none => simp [hi] at hs
  | some i =>
    simp [execOp, he x _ hx, he y _ hy, Instr.sliceAt, run_underlying ht, Instr.slice, Instr.sliceBounds, Instr.sliceBound, asIntOf, hk, sizeOf, typeInfo, hi]
    intro _
    cases A with
    | none => rfl
    | some a => simp [Addr.add]
theorem op_sliceFrom {A : Option Addr} {n c k : Nat} {t e s : TypeId} (ht : P.underlying t = some (.slice e)) (hs : (P.info? e).map (·.size) = some s) (hx : L x = some (.slice A n c)) (hy : L y = some (.int .i64 (k : Int))) (hk : k ≤ n) :
    Pure P (.slice t x (some y) none none) ty L (.slice (if c = k then A else A.map (·.add (k * s))) (n - k) (c - k)) := fun ev he w d pos aft g => by
  cases hi : P.info? e with
  | none => simp [hi] at hs
  | some i =>
    have hsz : i.size = s := by rw [hi] at hs; simpa using hs
    simp [execOp, he x _ hx, he y _ hy, Instr.sliceAt, run_underlying ht, Instr.slice, Instr.sliceBounds, Instr.sliceBound, asIntOf, hk, sizeOf, typeInfo, hi, hsz]

end memops
end Go.Proofs.YtnhcbfaomehaeaaGreatDoor

/- What a call makes: variables, rows; pieces for the walks. -/
import Derived.Test.YtnhcbfaomehaeaaGreatDoorWalk
namespace Go.Proofs.YtnhcbfaomehaeaaGreatDoor
open Go.RowKit
set_option linter.unusedVariables false
set_option linter.unusedSimpArgs false

def seqParts : Nat → List Value → List (Nat × Value)
  | _, [] => []
  | k, v :: vs => (k, v) :: seqParts (k + 1) vs

theorem fold_splice (off : Nat) : ∀ (vs : List Value) (k : Nat) (cs : Array Value), off + k + vs.length ≤ cs.size →
    (vs.zipIdx k).foldl (fun cs (x : Value × Nat) => cs.setIfInBounds (off + x.2) x.1) cs = (cs.toList.take (off + k) ++ vs ++ cs.toList.drop (off + k + vs.length)).toArray
  | [], k, cs, h => by simp
  | v :: vs, k, cs, h => by
    rw [List.zipIdx_cons, List.foldl_cons, fold_splice off vs (k + 1) _ (by simp at h ⊢; omega)]
    congr 1
    have e := list_seg_step cs.toList (off + k) v vs (by simp at h ⊢; omega)
    simpa [Array.toList_setIfInBounds, Nat.add_assoc] using e

theorem fill_seq (s : Nat) : ∀ (vs : List Value) (k : Nat) (cs : Array Value), (∀ v ∈ vs, v.cells.size = s) → (k + vs.length) * s ≤ cs.size →
    Instr.fill (fun i => some (i * s, s)) cs (seqParts k vs) = some (cs.toList.take (k * s) ++ vs.flatMap (fun v => v.cells.toList) ++ cs.toList.drop ((k + vs.length) * s)).toArray
  | [], k, cs, _, h => by simp [seqParts, Instr.fill]
  | v :: vs, k, cs, hv, h => by
    have h1 : v.cells.size = s := hv v List.mem_cons_self
    have h2 : k * s + s ≤ (k + (vs.length + 1)) * s := by rw [← Nat.succ_mul]; exact Nat.mul_le_mul_right _ (by omega)
    have h3 : k * s + s ≤ cs.size := by simp only [List.length_cons] at h; omega
    simp only [seqParts, Instr.fill]
    rw [if_neg (by simp [h1]; omega)]
    have e : v.cells.zipIdx.foldl (fun cs (x : Value × Nat) => cs.setIfInBounds (k * s + x.2) x.1) cs = (cs.toList.take (k * s) ++ v.cells.toList ++ cs.toList.drop (k * s + s)).toArray := by
      have := fold_splice (k * s) v.cells.toList 0 cs (by simp [h1]; omega)
      simp only [Nat.add_zero, Array.length_toList, h1] at this
      rw [← this, ← Array.foldl_toList, Array.toList_zipIdx]
    have e' : (v.cells.zipIdx.foldl (fun cs x => match x with | (c, j) => cs.setIfInBounds (k * s + j) c) cs) = (cs.toList.take (k * s) ++ v.cells.toList ++ cs.toList.drop (k * s + s)).toArray := e
    rw [e']
    have hsz : (cs.toList.take (k * s) ++ v.cells.toList ++ cs.toList.drop (k * s + s)).toArray.size = cs.size := by simp [h1]; omega
    rw [fill_seq s vs (k + 1) _ (fun u hu => hv u (List.mem_cons_of_mem _ hu)) (by rw [hsz]; simp only [List.length_cons] at h; rwa [show k + 1 + vs.length = k + (vs.length + 1) from by omega])]
    congr 2
    have hl1 : (cs.toList.take (k * s) ++ v.cells.toList).length = (k + 1) * s := by simp [h1, Nat.succ_mul]; omega
    simp only [List.flatMap_cons]
    rw [List.take_append_of_le_length (by omega), List.take_of_length_le (by omega), List.drop_append, List.drop_eq_nil_of_le (by
      rw [hl1]; exact Nat.mul_le_mul_right _ (by omega)), hl1, List.nil_append, List.drop_drop]
    simp only [List.append_assoc, List.length_cons]
    congr 3
    rw [show k + 1 + vs.length = k + (vs.length + 1) from by omega]
    have h5 : (k + 1) * s ≤ (k + (vs.length + 1)) * s := Nat.mul_le_mul_right _ (by omega)
    have h6 : (k + 1) * s = k * s + s := Nat.succ_mul k s
    have h7 : (k + (v :: vs).length) * s = (k + (vs.length + 1)) * s := rfl
    rw [show k * s + s + ((k + (vs.length + 1)) * s - (k + 1) * s) = (k + (vs.length + 1)) * s from by omega]

section
variable {P : Program} {ty : TypeId} {L : Operand → Option Value} {w : World}

def evP (L : Operand → Option Value) : Nat → List (Nat × Operand) → Option (List Value)
  | _, [] => some []
  | k, (i, x) :: r => match Nat.beq i k, L x, evP L (k + 1) r with
    | true, some v, some vs => some (v :: vs)
    | _, _, _ => none

theorem evP_map {ev : Operand → Value} (he : EvOk L ev) : ∀ {ps : List (Nat × Operand)} {k : Nat} {vs : List Value}, evP L k ps = some vs → ps.map (fun p => (p.1, ev p.2)) = seqParts k vs
  | [], k, vs, h => by simp [evP] at h; simp [h, seqParts]
  | (i, x) :: r, k, vs, h => by
    simp only [evP] at h
    split at h
    · rename_i v vs' hi hx hr
      cases h
      have := Nat.eq_of_beq_eq_true hi
      subst this
      simp [he x v hx, evP_map he hr, seqParts]
    · cases h

/-- '[]T{v0, v1, ..}' -/
theorem op_buildSlice {t e : TypeId} {z : Value} {s n : Nat} {parts : Array (Nat × Operand)} {vs : List Value} {cs : List Value} (ht : P.underlying t = some (.slice e)) (hj : (P.info? e).map (fun j => (j.size, j.zero)) = some (s, some z)) (hz : z.cells.size = s) (hs : Nat.blt 0 s = true)
    (hp : evP L 0 parts.toList = some vs) (hn : vs.length = n) (hsz : ∀ v ∈ vs, v.cells.size = s) (hb : Nat.ble (n * s) 16777216 = true) (hcs : vs.flatMap (fun v => v.cells.toList) = cs) :
    Makes P (.buildSlice t n parts) ty L w (.value (.slice (some ⟨w.heap.size, 0, none⟩) n n)) (w.alloc (.cells cs.toArray e)) := fun ev he d pos aft g => by
  have hb' := Nat.le_of_ble_eq_true hb
  have h1 : (parts.map fun (i, x) => (i, ev x)).toList = seqParts 0 vs := by
    rw [Array.toList_map]
    exact evP_map he hp
  cases hi : P.info? e with
  | none => simp [hi] at hj
  | some i =>
    rw [hi] at hj
    simp at hj
    obtain ⟨hs1, hz1⟩ := hj
    have hfill : Instr.fill (fun i => some (i * s, s)) ((Array.range (n * s)).map (z.cells[· % z.cells.size]!)) (seqParts 0 vs) = some cs.toArray := by
      rw [fill_seq s vs 0 _ hsz (by simp [hn])]
      simp only [Nat.zero_mul, List.take_zero, List.nil_append, Nat.zero_add, hn]
      rw [List.drop_eq_nil_of_le (by simp), List.append_nil, hcs]
    by_cases h0 : n * s = 0
    · have hs0 : 0 < s := by simpa [Nat.blt_eq] using hs
      have hn0 : n = 0 := by
        rcases Nat.eq_zero_or_pos n with h | h
        · exact h
        · have := Nat.mul_pos h hs0; omega
      subst hn0
      have hv : vs = [] := List.eq_nil_of_length_eq_zero hn
      subst hv
      simp at hcs
      subst hcs
      have h2 : (parts.map fun (i, x) => (i, ev x)).toList = [] := by rw [h1]; rfl
      simp [execOp, Instr.buildSlice, run_underlying ht, sizeOf, typeInfo, hi, newRow, newObj, Sem.run]
      have h3 : List.map (fun x : Nat × Operand => (x.1, ev x.2)) parts.toList = [] := by simpa using h2
      simp [h3, Instr.fill, Sem.run]
      congr 2
      apply Array.eq_empty_of_size_eq_zero
      simp
    · simp [execOp, Instr.buildSlice, run_underlying ht, sizeOf, typeInfo, hi, hs1, hz1, zeroValue, h0, Nat.not_lt.2 hb', newRow, newObj, Sem.run]
      have h3 : List.map (fun x : Nat × Operand => (x.1, ev x.2)) parts.toList = seqParts 0 vs := by simpa using h1
      rw [h3, hfill]
      simp [Sem.run]

/-! ## In a walk: what is made gets a name of its own -/

section
variable {ops : Array Oper} {Q : Exit → Act → World → Prop} {l : List Oper} {N : Nat} {env : Env} {op : Op} {pos : String} {aft : Array Edge} {g : Option (Nat × Bool)} {d : Option Nat}

theorem W.newBlk {t : TypeId} {cs : List Value} {mk : Nat → Value} (h : Makes P op ty (opv env) w (.value (mk w.heap.size)) (w.alloc (.cells cs.toArray t))) (hg : wantE ops env g = some true) (hd : dstOk N d = true)
    (k : ∀ b w', X w w' → w.heap.size ≤ b → Blk w' b t cs → W P ops Q l N (setE env d (mk b)) w') : W P ops Q ({ dst := d, op, type := ty, pos, after := aft, guard := g } :: l) N env w :=
  W.makes h hg hd (k _ _ (X.alloc _ _) (Nat.le_refl _) (Blk.new w t cs))
theorem run_storeVar_blk {t t' : TypeId} {b : Nat} {cs vs : List Value} {v : Value} (hv : v.cells.toList = vs) (hB : Blk w b t' cs) (hl : vs.length = cs.length) (hsz : (P.info? t).map (·.size) = some vs.length) (h1 : ∀ u ∈ vs, u.oneCell' = true) :
    (storeVar t ⟨b, 0, none⟩ v).run P w = .ok () (w.setRow b vs.toArray) := by
  cases hi : P.info? t with
  | none => simp [hi] at hsz
  | some i =>
    have hs : i.size = vs.length := by rw [hi] at hsz; simpa using hsz
    have h2 := run_storeCells_at P b 0 t' vs 0 cs.toArray w hB (by simp; omega) h1
    have h3 : v.cells.size = vs.length := by rw [← hv]; simp
    unfold storeVar
    simp [sizeOf, typeInfo, hi, hs, h3, hv, h2]
    congr 1
    apply Array.toList_inj.1
    simp
    omega

theorem grown_setRow (w : World) (b : Nat) (cs : Array Value) : w.grownBy (w.setRow b cs) (some b) :=
  ⟨rfl, rfl, rfl, by simp, fun k hk hne => setRow_other w b k cs (by simpa using hne)⟩

/-- A store that fills a block. -/
theorem S.stB {t t' : TypeId} {b : Nat} {x y : Operand} {cs vs : List Value} {v : Value} (hx : opv env x = some (.pointer (some ⟨b, 0, none⟩))) (hy : opv env y = some v) (hv : v.cells.toList = vs) (hB : Blk w b t' cs) (hl : vs.length = cs.length) (hsz : (P.info? t).map (·.size) = some vs.length)
    (h1 : ∀ u ∈ vs, u.oneCell' = true) (hg : wantE ops env g = some true) (K : ∀ w', w.grownBy w' (some b) → Blk w' b t' vs → W P ops Q l N env w') :
    W P ops Q ({ dst := none, op := .store t x y, type := ty, pos, after := aft, guard := g } :: l) N env w :=
  W.writes (d := none) (w' := w.setRow b vs.toArray) (fun ev he d pos aft g => by
    simp [execOp, he x _ hx, he y _ hy, Instr.storeAt, Instr.sureAddr, run_storeVar_blk hv hB hl hsz h1]) hg rfl (K _ (grown_setRow w b _) (setRow_heap w b _ _ _ _ hB))

end

end

theorem Blk.g {w w' : World} {b k : Nat} {t : TypeId} {cs : List Value} (h : Blk w k t cs) (hg : w.grownBy w' (some b)) (hne : k ≠ b) : Blk w' k t cs := (hg.block k h.lt (by simpa using hne)).trans h
theorem below_x {B : Nat} {a b c : World} (h : Below B a b) (hB : B ≤ b.heap.size) (k : X b c) : Below B a c := Below.trans h (Below.mono k hB)
theorem below_g {B b : Nat} {a w w' : World} (h : Below B a w) (hg : w.grownBy w' (some b)) (hB : B ≤ w.heap.size) (hb : B ≤ b) : Below B a w' := h.grown hg hB (fun k e => by cases e; exact hb)

def SlOf (P : Program) (t e s : Nat) : Prop := P.underlying t = some (.slice e) ∧ (P.info? e).map (·.size) = some s
def StOf (P : Program) (t n : Nat) : Prop := ∃ fs : Array Field, P.underlying t = some (.struct fs) ∧ (P.info? t).map (·.size) = some n

end Go.Proofs.YtnhcbfaomehaeaaGreatDoor

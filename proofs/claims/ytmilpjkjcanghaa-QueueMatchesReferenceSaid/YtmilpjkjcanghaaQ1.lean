/- The queue in memory; the heap's own methods Len and Less. -/
import Derived.Test.YtmilpjkjcanghaaQStep
namespace Go.Proofs.Ytmilpjkjcanghaa
open Go.RowKit
set_option linter.unusedVariables false
set_option linter.unusedSimpArgs false

/-- The queue: its block, its map, its slice. -/
structure QS (w : World) (B b0 bm : Nat) (v : Value) (D : List PV) (m : Int → Option Int) : Prop where
  hb0 : B ≤ b0
  hbm : B ≤ bm
  own : OwnP w B v D
  blk : Blk w b0 69 [v, .map (some bm)]
  map : ∃ M clock, MB w bm M clock ∧ MapOk M clock m
  n0 : v.ownBlock ≠ some b0
  nm : v.ownBlock ≠ some bm

/-- Nothing but the queue's own has turned. -/
structure QF (b0 bm : Nat) (v : Value) (w w' : World) : Prop where
  os : w'.os = w.os
  tape : w'.tape = w.tape
  output : w'.output = w.output
  size : w.heap.size ≤ w'.heap.size
  block : ∀ k, k < w.heap.size → k ≠ b0 → k ≠ bm → v.ownBlock ≠ some k → w'.heap[k]? = w.heap[k]?

theorem QF.of_x {b0 bm : Nat} {v : Value} {w w' : World} (h : X w w') : QF b0 bm v w w' := ⟨h.os, h.tape, h.output, h.size, fun k hk _ _ _ => h.block k hk⟩
theorem QF.refl (b0 bm : Nat) (v : Value) (w : World) : QF b0 bm v w w := QF.of_x (X.refl w)
theorem QF.trans {b0 bm : Nat} {v v' : Value} {a b c : World} (h : QF b0 bm v a b) (k : QF b0 bm v' b c) (hv : v'.ownBlock = v.ownBlock ∨ ∀ i, v'.ownBlock = some i → a.heap.size ≤ i) : QF b0 bm v a c :=
  ⟨k.os.trans h.os, k.tape.trans h.tape, k.output.trans h.output, Nat.le_trans h.size k.size, fun i hi h1 h2 h3 => (k.block i (by have := h.size; omega) h1 h2 (by
    rcases hv with hv | hv
    · rw [hv]; exact h3
    · intro e; have := hv i e; omega)).trans (h.block i hi h1 h2 h3)⟩
theorem QF.g0 {b0 bm : Nat} {v : Value} {w w' : World} (h : w.grownBy w' (some b0)) : QF b0 bm v w w' := ⟨h.os, h.tape, h.output, h.size, fun k hk h1 _ _ => h.block k hk (by simpa using h1)⟩
theorem QF.gm {b0 bm : Nat} {v : Value} {w w' : World} (h : w.grownBy w' (some bm)) : QF b0 bm v w w' := ⟨h.os, h.tape, h.output, h.size, fun k hk _ h1 _ => h.block k hk (by simpa using h1)⟩
theorem QF.gv {b0 bm : Nat} {v : Value} {w w' : World} (h : w.grownBy w' v.ownBlock) : QF b0 bm v w w' := ⟨h.os, h.tape, h.output, h.size, fun k hk _ _ h1 => h.block k hk (fun e => h1 e.symm)⟩
theorem QF.below {B b0 bm : Nat} {v : Value} {a w w' : World} (h : QF b0 bm v w w') (ha : Below B a w) (hB : B ≤ w.heap.size) (h0 : B ≤ b0) (hm : B ≤ bm) (hv : ∀ i, v.ownBlock = some i → B ≤ i) : Below B a w' :=
  ha.trans ⟨h.os, h.tape, h.output, h.size, fun k hk => h.block k (by omega) (by omega) (by omega) (fun e => by have := hv k e; omega)⟩

theorem QS.x {w w' : World} {B b0 bm : Nat} {v : Value} {D : List PV} {m : Int → Option Int} (h : QS w B b0 bm v D m) (hx : X w w') : QS w' B b0 bm v D m :=
  ⟨h.hb0, h.hbm, h.own.x hx, h.blk.x hx, by obtain ⟨M, c, h1, h2⟩ := h.map; exact ⟨M, c, h1.x hx, h2⟩, h.n0, h.nm⟩
theorem QS.cv {w : World} {B b0 bm : Nat} {v : Value} {D : List PV} {m : Int → Option Int} (h : QS w B b0 bm v D m) : w.cell? ⟨b0, 0, none⟩ = some v := h.blk.cell rfl
theorem QS.cm {w : World} {B b0 bm : Nat} {v : Value} {D : List PV} {m : Int → Option Int} (h : QS w B b0 bm v D m) : w.cell? ⟨b0, 1, none⟩ = some (.map (some bm)) := h.blk.cell rfl
theorem QS.ne {w : World} {B b0 bm : Nat} {v : Value} {D : List PV} {m : Int → Option Int} (h : QS w B b0 bm v D m) : b0 ≠ bm := by
  intro e
  obtain ⟨M, c, h1, _⟩ := h.map
  have h2 := h.blk
  unfold Blk at h2
  unfold MB at h1
  rw [e, h1] at h2
  cases h2

theorem pLen_calls (B b0 bm : Nat) (v : Value) (D : List PV) (m : Int → Option Int) (w : World) (h : QS w B b0 bm v D m) :
    CallsR Try.prog 52 [.pointer (some ⟨b0, 0, none⟩)] w fun u w' => u = .int .i64 (D.length : Int) ∧ w' = w := by
  obtain ⟨A, c, rfl, hc, _⟩ := h.own.ps.open_
  refine enter1 Try.func52 rfl Try.ntmps52 rfl ?_
  repeat (first
 | (with_reducible first
 | apply CW.seq | apply CW.region | apply CW.block | apply CW.ret | apply CW.skip | apply CW.label | apply CW.exit
 | apply W.nil | apply Fin.seq | apply Fin.then_ret | apply Fin.then_exit | apply Fin.blk_ret | apply Fin.blk_normal | apply Fin.blk_here)
 | (with_reducible first | refine S.move ?_ | refine S.assign ?_ | refine S.pickT ?_ | refine S.pickF ?_ | refine S.lss ?_ | refine S.gtr ?_ | refine S.leq ?_ | refine S.geq ?_ | refine S.eqT ?_ | refine S.neF ?_ | refine S.eql ?_ | refine S.neq ?_ | refine S.add ?_ | refine S.sub ?_ | refine S.mul ?_ | refine S.conv ?_ | refine S.shr1 ?_ | refine S.neg ?_ | refine S.not ?_ | refine S.extract ?_ | refine S.len ?_ | refine S.fld ?_ | refine S.index ?_ | refine S.skp ?_ | refine S.sliceTo ?_ | refine S.sliceFrom ?_ | refine S.eqNil ?_ | refine S.eqbT ?_ | refine S.nebF ?_ | refine S.eqb ?_ | refine S.neb ?_)
 | (with_reducible first | refine S.nc ?_ | refine S.fld ?_ (h1 := fHeapL) | refine S.fld ?_ (h1 := fHeapM) | refine S.fld ?_ (h1 := fQueueH) | refine S.eqP ?_ | refine S.neP ?_ | refine S.quo ?_ | refine S.mkP ?_)
 | ((with_reducible apply CW.cond_true); exact rfl)
 | ((with_reducible apply CW.cond_false); exact rfl)
 | ((with_reducible apply Fin.blk_far); exact rfl))
  ((with_reducible apply S.ld); exact rfl; (with_reducible first | exact oneInt | exact oneI64s | exact oneBool | exact oneI64 | exact onePods | exact oneMap); (exact h.cv); exact rfl; exact rfl)
  repeat (first
 | (with_reducible first
 | apply CW.seq | apply CW.region | apply CW.block | apply CW.ret | apply CW.skip | apply CW.label | apply CW.exit
 | apply W.nil | apply Fin.seq | apply Fin.then_ret | apply Fin.then_exit | apply Fin.blk_ret | apply Fin.blk_normal | apply Fin.blk_here)
 | (with_reducible first | refine S.move ?_ | refine S.assign ?_ | refine S.pickT ?_ | refine S.pickF ?_ | refine S.lss ?_ | refine S.gtr ?_ | refine S.leq ?_ | refine S.geq ?_ | refine S.eqT ?_ | refine S.neF ?_ | refine S.eql ?_ | refine S.neq ?_ | refine S.add ?_ | refine S.sub ?_ | refine S.mul ?_ | refine S.conv ?_ | refine S.shr1 ?_ | refine S.neg ?_ | refine S.not ?_ | refine S.extract ?_ | refine S.len ?_ | refine S.fld ?_ | refine S.index ?_ | refine S.skp ?_ | refine S.sliceTo ?_ | refine S.sliceFrom ?_ | refine S.eqNil ?_ | refine S.eqbT ?_ | refine S.nebF ?_ | refine S.eqb ?_ | refine S.neb ?_)
 | (with_reducible first | refine S.nc ?_ | refine S.fld ?_ (h1 := fHeapL) | refine S.fld ?_ (h1 := fHeapM) | refine S.fld ?_ (h1 := fQueueH) | refine S.eqP ?_ | refine S.neP ?_ | refine S.quo ?_ | refine S.mkP ?_)
 | ((with_reducible apply CW.cond_true); exact rfl)
 | ((with_reducible apply CW.cond_false); exact rfl)
 | ((with_reducible apply Fin.blk_far); exact rfl))
  (with_reducible apply R.r1); exact rfl; exact rfl
  exact ⟨rfl, rfl⟩

theorem pLess_calls (B b0 bm : Nat) (v : Value) (Ds : List PV) (m : Int → Option Int) (w : World) (h : QS w B b0 bm v Ds m) (i j : Nat) (hi : i < Ds.length) (hj : j < Ds.length) {a1 a2 : Int} (e1 : a1 = (i : Int)) (e2 : a2 = (j : Int)) :
    CallsR Try.prog 81 [.pointer (some ⟨b0, 0, none⟩), .int .i64 a1, .int .i64 a2] w fun u w' => u = .bool (decide (cmpP (Ds.getD i PV.zero) (Ds.getD j PV.zero) < 0)) ∧ X w w' := by
  subst e1; subst e2
  rw [getD_at hi, getD_at hj]
  obtain ⟨A, c, rfl, hc, hat⟩ := h.own.ps.open_
  obtain ⟨b, o, rfl, hbB, hcell⟩ := hat i hi
  have hpi : Ds[i]? = some Ds[i] := List.getElem?_eq_getElem hi
  have hpj : Ds[j]? = some Ds[j] := List.getElem?_eq_getElem hj
  generalize Ds[i] = p at *
  generalize Ds[j] = q at *
  have k1 : ∀ (i : Nat) (p : PV), Ds[i]? = some p → ∀ w', X w w' → ∀ k u, p.cs[k]? = some u → w'.cell? ⟨b, o + i * 9 + k, none⟩ = some u := fun i p hp w' hx k u hk => (hx.cell (p := ⟨b, _, none⟩) hbB).trans (hcell i p k u hp hk)
  refine enter3 Try.func81 rfl Try.ntmps81 rfl ?_
  repeat (first
 | (with_reducible first
 | apply CW.seq | apply CW.region | apply CW.block | apply CW.ret | apply CW.skip | apply CW.label | apply CW.exit
 | apply W.nil | apply Fin.seq | apply Fin.then_ret | apply Fin.then_exit | apply Fin.blk_ret | apply Fin.blk_normal | apply Fin.blk_here)
 | (with_reducible first | refine S.move ?_ | refine S.assign ?_ | refine S.pickT ?_ | refine S.pickF ?_ | refine S.lss ?_ | refine S.gtr ?_ | refine S.leq ?_ | refine S.geq ?_ | refine S.eqT ?_ | refine S.neF ?_ | refine S.eql ?_ | refine S.neq ?_ | refine S.add ?_ | refine S.sub ?_ | refine S.mul ?_ | refine S.conv ?_ | refine S.shr1 ?_ | refine S.neg ?_ | refine S.not ?_ | refine S.extract ?_ | refine S.len ?_ | refine S.fld ?_ | refine S.index ?_ | refine S.skp ?_ | refine S.sliceTo ?_ | refine S.sliceFrom ?_ | refine S.eqNil ?_ | refine S.eqbT ?_ | refine S.nebF ?_ | refine S.eqb ?_ | refine S.neb ?_)
 | (with_reducible first | refine S.nc ?_ | refine S.fld ?_ (h1 := fHeapL) | refine S.fld ?_ (h1 := fHeapM) | refine S.fld ?_ (h1 := fQueueH) | refine S.eqP ?_ | refine S.neP ?_ | refine S.quo ?_ | refine S.mkP ?_)
 | ((with_reducible apply CW.cond_true); exact rfl)
 | ((with_reducible apply CW.cond_false); exact rfl)
 | ((with_reducible apply Fin.blk_far); exact rfl))
  refine wp_facts (R := X) (front := [0, 1, 2, 3, 4, 5, 6, 7, 8, 9, 10, 11, 12, 13, 14]) (tail := [15]) mixed (by kernel_rfl) X.refl (fun _ _ _ => X.trans) (X.drew _) ?_
  repeat ((with_reducible refine TC.step ?_); first
    | (with_reducible refine D.indexE (j := i) ?_)
    | (with_reducible refine D.indexE (j := j) ?_)
    | (with_reducible first | refine D.move ?_ | refine D.assign ?_ | refine D.pickT ?_ | refine D.pickF ?_ | refine D.lss ?_ | refine D.gtr ?_ | refine D.leq ?_ | refine D.geq ?_ | refine D.eqT ?_ | refine D.neF ?_ | refine D.eql ?_ | refine D.neq ?_ | refine D.add ?_ | refine D.sub ?_ | refine D.mul ?_ | refine D.conv ?_ | refine D.shr1 ?_ | refine D.neg ?_ | refine D.not ?_ | refine D.extract ?_ | refine D.len ?_ | refine D.fld ?_ | refine D.index ?_ | refine D.skp ?_ | refine D.sliceTo ?_ | refine D.sliceFrom ?_ | refine D.eqNil ?_ | refine D.eqbT ?_ | refine D.nebF ?_ | refine D.eqb ?_ | refine D.neb ?_)
    | (with_reducible first | refine D.nc ?_ | refine D.fld ?_ (h1 := fHeapL) | refine D.fld ?_ (h1 := fHeapM) | refine D.fld ?_ (h1 := fQueueH) | refine D.eqP ?_ | refine D.neP ?_ | refine D.mkP ?_)
    | ((with_reducible apply D.ld); exact rfl; (with_reducible first | exact oneInt | exact oneI64s | exact oneBool | exact oneI64 | exact onePods | exact oneMap); (intro w' hx; exact (h.x hx).cv); exact X.refl; exact rfl; exact rfl)
    | refine D.lds (cs := p.cs) (by rfl) stPod (k1 i p hpi) X.refl (by rfl) (by rfl) ?_
    | refine D.lds (cs := q.cs) (by rfl) stPod (k1 j q hpj) X.refl (by rfl) (by rfl) ?_
    | refine D.cl (op_call ent17 (by rfl) (by rfl)) (by rfl) (by rfl) (fun w' _ => Before_calls p q w') ?_)
  refine TC.tail1 (by rfl) fun w2 hx2 => ?_
  repeat (first
 | (with_reducible first
 | apply CW.seq | apply CW.region | apply CW.block | apply CW.ret | apply CW.skip | apply CW.label | apply CW.exit
 | apply W.nil | apply Fin.seq | apply Fin.then_ret | apply Fin.then_exit | apply Fin.blk_ret | apply Fin.blk_normal | apply Fin.blk_here)
 | (with_reducible first | refine S.move ?_ | refine S.assign ?_ | refine S.pickT ?_ | refine S.pickF ?_ | refine S.lss ?_ | refine S.gtr ?_ | refine S.leq ?_ | refine S.geq ?_ | refine S.eqT ?_ | refine S.neF ?_ | refine S.eql ?_ | refine S.neq ?_ | refine S.add ?_ | refine S.sub ?_ | refine S.mul ?_ | refine S.conv ?_ | refine S.shr1 ?_ | refine S.neg ?_ | refine S.not ?_ | refine S.extract ?_ | refine S.len ?_ | refine S.fld ?_ | refine S.index ?_ | refine S.skp ?_ | refine S.sliceTo ?_ | refine S.sliceFrom ?_ | refine S.eqNil ?_ | refine S.eqbT ?_ | refine S.nebF ?_ | refine S.eqb ?_ | refine S.neb ?_)
 | (with_reducible first | refine S.nc ?_ | refine S.fld ?_ (h1 := fHeapL) | refine S.fld ?_ (h1 := fHeapM) | refine S.fld ?_ (h1 := fQueueH) | refine S.eqP ?_ | refine S.neP ?_ | refine S.quo ?_ | refine S.mkP ?_)
 | ((with_reducible apply CW.cond_true); exact rfl)
 | ((with_reducible apply CW.cond_false); exact rfl)
 | ((with_reducible apply Fin.blk_far); exact rfl))
  (with_reducible apply R.r1); exact rfl; exact rfl
  exact ⟨rfl, hx2⟩

end Go.Proofs.Ytmilpjkjcanghaa

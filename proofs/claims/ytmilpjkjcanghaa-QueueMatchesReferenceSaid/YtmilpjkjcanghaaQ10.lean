/- The queue's methods: take, Pop, Peek, Remove. -/
import Derived.Test.YtmilpjkjcanghaaQ9
namespace Go.Proofs.Ytmilpjkjcanghaa
open Go.RowKit
set_option linter.unusedVariables false
set_option linter.unusedSimpArgs false

theorem FO.blk {O O' : Nat → Prop} {w w' : World} {k : Nat} {t : TypeId} {cs : List Value} (h : FO O O' w w') (hB : Blk w k t cs) (hn : ¬ O k) : Blk w' k t cs := (h.block k hB.lt hn).trans hB
theorem FO.x {O O' : Nat → Prop} {w w1 w2 : World} (h : FO O O' w w1) (hx : X w1 w2) : FO O O' w w2 := h.trans (FO.of_x hx)
theorem FO.g {O O' : Nat → Prop} {w w1 w2 : World} {b : Nat} (h : FO O O' w w1) (hg : w1.grownBy w2 (some b)) (hb : w.heap.size ≤ b) : FO O O' w w2 :=
  ⟨hg.os.trans h.os, hg.tape.trans h.tape, hg.output.trans h.output, Nat.le_trans h.size hg.size, fun k hk hn => (hg.block k (Nat.lt_of_lt_of_le hk h.size) (by intro e; injection e with e; omega)).trans (h.block k hk hn), h.own⟩
theorem QI.g {w w' : World} {B b0 bm b : Nat} {v : Value} {Ds : List PV} {m : Int → Option Int} {O : Nat → Prop} (h : QI w B b0 bm v Ds m O) (hg : w.grownBy w' (some b)) (hb : ¬ O b) : QI w' B b0 bm v Ds m O :=
  h.keep hg.size fun k hk hO => hg.block k hk (by intro e; injection e with e; subst e; exact hb hO)
theorem QA.g {w w' : World} {B b0 b : Nat} {O : Nat → Prop} {A : List AP} (h : QA w B b0 O A) (hg : w.grownBy w' (some b)) (hb : ¬ O b) : QA w' B b0 O A :=
  h.keep hg.size fun k hk hO => hg.block k hk (by intro e; injection e with e; subst e; exact hb hO)
theorem RK.g {w w' : World} {K : Nat → Prop} {p : PV} {b : Nat} (h : RK w K p) (hg : w.grownBy w' (some b)) (hb : ¬ K b) : RK w' K p ∧ ab w' p = ab w p :=
  h.keep fun k hk hK => hg.block k hk (by intro e; injection e with e; subst e; exact hb hK)

def dropA (A : List AP) (id : Int) : List AP := A.filter fun a => !(a.1.id == id)

theorem QI.remove {w w' : World} {B b0 bm i : Nat} {v v' : Value} {Ds Es : List PV} {m m' : Int → Option Int} {u : Option Int} {O : Nat → Prop} (hI : QI w B b0 bm v Ds m O) (hi : i < Ds.length)
    (h3 : QS w' B b0 bm v' Es m') (hf : QF b0 bm v w w') (hv : v'.ownBlock = v.ownBlock) (hP : POk Es m') (hH : Heap Es.length Es) (hl : Es.length + 1 = Ds.length) (hP2 : POk (Es ++ [at_ Ds i]) (updM m' (at_ Ds i).id u)) (hm : ∀ x, x ∈ Es ++ [at_ Ds i] ↔ x ∈ Ds) :
    QI w' B b0 bm v' Es m' O ∧ FO O O w w' ∧ RK w' O (at_ Ds i) ∧ ab w' (at_ Ds i) = ab w (at_ Ds i) ∧ QV w' Es = dropA (QV w Ds) (at_ Ds i).id ∧ (i = 0 → QV w Ds = ab w (at_ Ds 0) :: QV w' Es) := by
  have k1 : ∀ k, k < w.heap.size → (O k ∧ k ≠ b0 ∧ k ≠ bm ∧ v.ownBlock ≠ some k) → w'.heap[k]? = w.heap[k]? := fun k hk hK => hf.block k hk hK.2.1 hK.2.2.1 hK.2.2.2
  have hpi : at_ Ds i ∈ Ds := by unfold at_; rw [getD_at hi]; exact List.getElem_mem hi
  obtain ⟨r1, r2⟩ := (hI.rq _ hpi).keep k1
  have hqv : QV w' Ds = QV w Ds := QV_keep hI.rq fun _ _ => k1
  refine ⟨⟨h3, hP, hH, hI.o0, hI.om, fun i hi => hI.ov i (hv ▸ hi), fun x hx => ?_, fun b hb => ⟨(hI.lo b hb).1, Nat.lt_of_lt_of_le (hI.lo b hb).2 hf.size⟩⟩, ⟨hf.os, hf.tape, hf.output, hf.size, fun k hk hn => hf.block k hk ?_ ?_ ?_, fun _ _ h => h⟩, r1.mono fun b _ h => h.1, r2, ?_, ?_⟩
  · rw [hv]
    exact ((hI.rq x ((hm x).1 (List.mem_append_left _ hx))).keep k1).1
  · rintro rfl; exact hn hI.o0
  · rintro rfl; exact hn hI.om
  · intro e; exact hn (hI.ov k e)
  · rw [QV_remove hI.pok hP hP2 hm hl, hqv]; rfl
  · rintro rfl
    rw [← hqv, ← r2]
    exact QV_pop hI.pok hI.heap hP hP2 hm hl

theorem ab_zero (w : World) : ab w PV.zero = az := rfl
theorem RK.zero (w : World) (K : Nat → Prop) : RK w K PV.zero := ⟨[], by simp, rfl, fun h => absurd rfl h⟩

set_option maxHeartbeats 1000000 in
theorem take_calls (B b0 bm : Nat) (v : Value) (Ds : List PV) (m : Int → Option Int) (O : Nat → Prop) (i : Nat) (w : World) (hI : QI w B b0 bm v Ds m O) (hi : i < Ds.length) (hl : Ds.length ≤ 1000) {a1 : Int} (e1 : a1 = (i : Int)) :
    CallsR Try.prog 51 [.pointer (some ⟨b0, 0, none⟩), .int .i64 a1] w fun u w' => u = .tuple #[(at_ Ds i).v, .bool true] ∧ RK w' O (at_ Ds i) ∧ ab w' (at_ Ds i) = ab w (at_ Ds i) ∧ FO O O w w' ∧ ∃ A', QA w' B b0 O A' ∧ A' = dropA (QV w Ds) (at_ Ds i).id ∧ (i = 0 → QV w Ds = ab w (at_ Ds 0) :: A') := by
  subst e1
  have hlo := hI.lo
  have hbw : ∀ b, w.heap.size ≤ b → ¬ O b := fun b hb ho => by have := hlo b ho; omega
  refine enter2 Try.func51 rfl Try.ntmps51 rfl ?_
  repeat (first
 | (with_reducible first
 | apply CW.seq | apply CW.region | apply CW.block | apply CW.ret | apply CW.skip | apply CW.label | apply CW.exit
 | apply W.nil | apply Fin.seq | apply Fin.then_ret | apply Fin.then_exit | apply Fin.blk_ret | apply Fin.blk_normal | apply Fin.blk_here)
 | (with_reducible first | refine S.move ?_ | refine S.assign ?_ | refine S.pickT ?_ | refine S.pickF ?_ | refine S.lss ?_ | refine S.gtr ?_ | refine S.leq ?_ | refine S.geq ?_ | refine S.eqT ?_ | refine S.neF ?_ | refine S.eql ?_ | refine S.neq ?_ | refine S.add ?_ | refine S.sub ?_ | refine S.mul ?_ | refine S.conv ?_ | refine S.shr1 ?_ | refine S.neg ?_ | refine S.not ?_ | refine S.extract ?_ | refine S.len ?_ | refine S.fld ?_ | refine S.index ?_ | refine S.skp ?_ | refine S.sliceTo ?_ | refine S.sliceFrom ?_ | refine S.eqNil ?_ | refine S.eqbT ?_ | refine S.nebF ?_ | refine S.eqb ?_ | refine S.neb ?_)
 | (with_reducible first | refine S.nc ?_ | refine S.fld ?_ (h1 := fHeapL) | refine S.fld ?_ (h1 := fHeapM) | refine S.fld ?_ (h1 := fQueueH) | refine S.eqP ?_ | refine S.neP ?_ | refine S.quo ?_ | refine S.mkP ?_)
 | ((with_reducible apply CW.cond_true); exact rfl)
 | ((with_reducible apply CW.cond_false); exact rfl)
 | ((with_reducible apply Fin.blk_far); exact rfl))
  refine W.newBlk (d := some 4) (mk := fun b => .pointer (some ⟨b, 0, none⟩)) (cs := PV.zero.cs) (op_alloc' zPod rfl) (by rfl) (by rfl) ?_
  intro b4 w1 hx1 hb4 hB4
  have hI1 := hI.x hx1
  have hV1 : QV w1 Ds = QV w Ds := QV_keep hI.rq fun _ _ k hk _ => hx1.block k hk
  have hpi : at_ Ds i ∈ Ds := by unfold at_; rw [getD_at hi]; exact List.getElem_mem hi
  have hab1 : ab w1 (at_ Ds i) = ab w (at_ Ds i) := (hI.rq _ hpi).abx hx1
  have hp0 : at_ Ds 0 ∈ Ds := by unfold at_; rw [getD_at (by omega : 0 < Ds.length)]; exact List.getElem_mem _
  have hab0 : ab w1 (at_ Ds 0) = ab w (at_ Ds 0) := (hI.rq _ hp0).abx hx1
  repeat (first
 | (with_reducible first
 | apply CW.seq | apply CW.region | apply CW.block | apply CW.ret | apply CW.skip | apply CW.label | apply CW.exit
 | apply W.nil | apply Fin.seq | apply Fin.then_ret | apply Fin.then_exit | apply Fin.blk_ret | apply Fin.blk_normal | apply Fin.blk_here)
 | (with_reducible first | refine S.move ?_ | refine S.assign ?_ | refine S.pickT ?_ | refine S.pickF ?_ | refine S.lss ?_ | refine S.gtr ?_ | refine S.leq ?_ | refine S.geq ?_ | refine S.eqT ?_ | refine S.neF ?_ | refine S.eql ?_ | refine S.neq ?_ | refine S.add ?_ | refine S.sub ?_ | refine S.mul ?_ | refine S.conv ?_ | refine S.shr1 ?_ | refine S.neg ?_ | refine S.not ?_ | refine S.extract ?_ | refine S.len ?_ | refine S.fld ?_ | refine S.index ?_ | refine S.skp ?_ | refine S.sliceTo ?_ | refine S.sliceFrom ?_ | refine S.eqNil ?_ | refine S.eqbT ?_ | refine S.nebF ?_ | refine S.eqb ?_ | refine S.neb ?_)
 | (with_reducible first | refine S.nc ?_ | refine S.fld ?_ (h1 := fHeapL) | refine S.fld ?_ (h1 := fHeapM) | refine S.fld ?_ (h1 := fQueueH) | refine S.eqP ?_ | refine S.neP ?_ | refine S.quo ?_ | refine S.mkP ?_)
 | ((with_reducible apply CW.cond_true); exact rfl)
 | ((with_reducible apply CW.cond_false); exact rfl)
 | ((with_reducible apply Fin.blk_far); exact rfl))
  refine S.cl (op_call ent59 (by rfl) (by rfl)) (by rfl) (by rfl) (heapRemove_calls B b0 bm v Ds m (Ds.length - 1) i w1 hI1.qs hI1.pok hI1.heap (by omega) (by omega) hl rfl) ?_
  rintro _ w2 ⟨rfl, v2, Es, m2, h2, hf2, hv2, hP2, hH2, hl2, hP2', hm2⟩
  obtain ⟨hI2, hF2, hrk2, hab2, hV2, hV2'⟩ := hI1.remove hi h2 hf2 hv2 hP2 hH2 (by omega) hP2' hm2
  rw [hV1] at hV2 hV2'
  rw [hab0] at hV2'
  rw [hab1] at hab2
  have hB4' := hF2.blk hB4 (hbw b4 hb4)
  have hF : FO O O w w2 := (FO.of_x hx1).trans hF2
  refine W.pure (d := some 15) (op_typeAssert Try.underlying25 rfl (by rfl)) (by rfl) (by rfl) ?_
  repeat (first
 | (with_reducible first
 | apply CW.seq | apply CW.region | apply CW.block | apply CW.ret | apply CW.skip | apply CW.label | apply CW.exit
 | apply W.nil | apply Fin.seq | apply Fin.then_ret | apply Fin.then_exit | apply Fin.blk_ret | apply Fin.blk_normal | apply Fin.blk_here)
 | (with_reducible first | refine S.move ?_ | refine S.assign ?_ | refine S.pickT ?_ | refine S.pickF ?_ | refine S.lss ?_ | refine S.gtr ?_ | refine S.leq ?_ | refine S.geq ?_ | refine S.eqT ?_ | refine S.neF ?_ | refine S.eql ?_ | refine S.neq ?_ | refine S.add ?_ | refine S.sub ?_ | refine S.mul ?_ | refine S.conv ?_ | refine S.shr1 ?_ | refine S.neg ?_ | refine S.not ?_ | refine S.extract ?_ | refine S.len ?_ | refine S.fld ?_ | refine S.index ?_ | refine S.skp ?_ | refine S.sliceTo ?_ | refine S.sliceFrom ?_ | refine S.eqNil ?_ | refine S.eqbT ?_ | refine S.nebF ?_ | refine S.eqb ?_ | refine S.neb ?_)
 | (with_reducible first | refine S.nc ?_ | refine S.fld ?_ (h1 := fHeapL) | refine S.fld ?_ (h1 := fHeapM) | refine S.fld ?_ (h1 := fQueueH) | refine S.eqP ?_ | refine S.neP ?_ | refine S.quo ?_ | refine S.mkP ?_)
 | ((with_reducible apply CW.cond_true); exact rfl)
 | ((with_reducible apply CW.cond_false); exact rfl)
 | ((with_reducible apply Fin.blk_far); exact rfl))
  refine W.newBlk (d := some 6) (mk := fun b => .pointer (some ⟨b, 0, none⟩)) (cs := PV.zero.cs) (op_alloc' zPod rfl) (by rfl) (by rfl) ?_
  intro b6 w3 hx3 hb6 hB6
  have hb6' : w.heap.size ≤ b6 := by have := hF.size; omega
  have hne : b4 ≠ b6 := by have := hB4'.lt; omega
  refine S.stB (vs := (at_ Ds i).cs) (by rfl) (by rfl) rfl hB6 rfl szPod9 (PV.one _) (by rfl) ?_
  intro w4 hg4 hB6'
  have hB44 := (show G b6 w3 w4 from hg4).blk (hB4'.x hx3) hne
  have hI4 := (hI2.x hx3).g hg4 (hbw b6 hb6')
  have hF4 := (hF.x hx3).g hg4 hb6'
  obtain ⟨hrk4, hab4⟩ := (hrk2.x hx3).g hg4 (hbw b6 hb6')
  have hab3 := hrk2.abx hx3
  have hV4 : QV w4 Es = QV w2 Es := QV_keep (K := fun _ k => O k) (fun p hp => (hI2.rq p hp).mono fun _ _ h => h.1) fun _ _ k hk hO => (hg4.block k (by have := hx3.le; omega) (by intro e; injection e with e; exact hbw b6 hb6' (e ▸ hO))).trans (hx3.block k hk)
  clear hB6 hg4 hB4 hB4' hx3
  repeat (first
 | (with_reducible first
 | apply CW.seq | apply CW.region | apply CW.block | apply CW.ret | apply CW.skip | apply CW.label | apply CW.exit
 | apply W.nil | apply Fin.seq | apply Fin.then_ret | apply Fin.then_exit | apply Fin.blk_ret | apply Fin.blk_normal | apply Fin.blk_here)
 | (with_reducible first | refine S.move ?_ | refine S.assign ?_ | refine S.pickT ?_ | refine S.pickF ?_ | refine S.lss ?_ | refine S.gtr ?_ | refine S.leq ?_ | refine S.geq ?_ | refine S.eqT ?_ | refine S.neF ?_ | refine S.eql ?_ | refine S.neq ?_ | refine S.add ?_ | refine S.sub ?_ | refine S.mul ?_ | refine S.conv ?_ | refine S.shr1 ?_ | refine S.neg ?_ | refine S.not ?_ | refine S.extract ?_ | refine S.len ?_ | refine S.fld ?_ | refine S.index ?_ | refine S.skp ?_ | refine S.sliceTo ?_ | refine S.sliceFrom ?_ | refine S.eqNil ?_ | refine S.eqbT ?_ | refine S.nebF ?_ | refine S.eqb ?_ | refine S.neb ?_)
 | (with_reducible first | refine S.nc ?_ | refine S.fld ?_ (h1 := fHeapL) | refine S.fld ?_ (h1 := fHeapM) | refine S.fld ?_ (h1 := fQueueH) | refine S.eqP ?_ | refine S.neP ?_ | refine S.quo ?_ | refine S.mkP ?_)
 | ((with_reducible apply CW.cond_true); exact rfl)
 | ((with_reducible apply CW.cond_false); exact rfl)
 | ((with_reducible apply Fin.blk_far); exact rfl))
  refine S.lds (cs := (at_ Ds i).cs) (by rfl) stPod (fun k u hk => by rw [Nat.zero_add]; exact hB6'.cell hk) (by rfl) (by rfl) ?_
  repeat (first
 | (with_reducible first
 | apply CW.seq | apply CW.region | apply CW.block | apply CW.ret | apply CW.skip | apply CW.label | apply CW.exit
 | apply W.nil | apply Fin.seq | apply Fin.then_ret | apply Fin.then_exit | apply Fin.blk_ret | apply Fin.blk_normal | apply Fin.blk_here)
 | (with_reducible first | refine S.move ?_ | refine S.assign ?_ | refine S.pickT ?_ | refine S.pickF ?_ | refine S.lss ?_ | refine S.gtr ?_ | refine S.leq ?_ | refine S.geq ?_ | refine S.eqT ?_ | refine S.neF ?_ | refine S.eql ?_ | refine S.neq ?_ | refine S.add ?_ | refine S.sub ?_ | refine S.mul ?_ | refine S.conv ?_ | refine S.shr1 ?_ | refine S.neg ?_ | refine S.not ?_ | refine S.extract ?_ | refine S.len ?_ | refine S.fld ?_ | refine S.index ?_ | refine S.skp ?_ | refine S.sliceTo ?_ | refine S.sliceFrom ?_ | refine S.eqNil ?_ | refine S.eqbT ?_ | refine S.nebF ?_ | refine S.eqb ?_ | refine S.neb ?_)
 | (with_reducible first | refine S.nc ?_ | refine S.fld ?_ (h1 := fHeapL) | refine S.fld ?_ (h1 := fHeapM) | refine S.fld ?_ (h1 := fQueueH) | refine S.eqP ?_ | refine S.neP ?_ | refine S.quo ?_ | refine S.mkP ?_)
 | ((with_reducible apply CW.cond_true); exact rfl)
 | ((with_reducible apply CW.cond_false); exact rfl)
 | ((with_reducible apply Fin.blk_far); exact rfl))
  refine S.stB (vs := (at_ Ds i).cs) (by rfl) (by rfl) rfl hB44 rfl szPod9 (PV.one _) (by rfl) ?_
  intro w5 hg5 hB5
  have hI5 := hI4.g hg5 (hbw b4 hb4)
  have hF5 := hF4.g hg5 hb4
  obtain ⟨hrk5, hab5⟩ := hrk4.g hg5 (hbw b4 hb4)
  have hV5 : QV w5 Es = QV w4 Es := QV_keep (K := fun _ k => O k) (fun p hp => (hI4.rq p hp).mono fun _ _ h => h.1) fun _ _ k hk hO => hg5.block k hk (by intro e; injection e with e; exact hbw b4 hb4 (e ▸ hO))
  repeat (first
 | (with_reducible first
 | apply CW.seq | apply CW.region | apply CW.block | apply CW.ret | apply CW.skip | apply CW.label | apply CW.exit
 | apply W.nil | apply Fin.seq | apply Fin.then_ret | apply Fin.then_exit | apply Fin.blk_ret | apply Fin.blk_normal | apply Fin.blk_here)
 | (with_reducible first | refine S.move ?_ | refine S.assign ?_ | refine S.pickT ?_ | refine S.pickF ?_ | refine S.lss ?_ | refine S.gtr ?_ | refine S.leq ?_ | refine S.geq ?_ | refine S.eqT ?_ | refine S.neF ?_ | refine S.eql ?_ | refine S.neq ?_ | refine S.add ?_ | refine S.sub ?_ | refine S.mul ?_ | refine S.conv ?_ | refine S.shr1 ?_ | refine S.neg ?_ | refine S.not ?_ | refine S.extract ?_ | refine S.len ?_ | refine S.fld ?_ | refine S.index ?_ | refine S.skp ?_ | refine S.sliceTo ?_ | refine S.sliceFrom ?_ | refine S.eqNil ?_ | refine S.eqbT ?_ | refine S.nebF ?_ | refine S.eqb ?_ | refine S.neb ?_)
 | (with_reducible first | refine S.nc ?_ | refine S.fld ?_ (h1 := fHeapL) | refine S.fld ?_ (h1 := fHeapM) | refine S.fld ?_ (h1 := fQueueH) | refine S.eqP ?_ | refine S.neP ?_ | refine S.quo ?_ | refine S.mkP ?_)
 | ((with_reducible apply CW.cond_true); exact rfl)
 | ((with_reducible apply CW.cond_false); exact rfl)
 | ((with_reducible apply Fin.blk_far); exact rfl))
  refine R.c2 rfl (by rfl) (by rfl) hB5 stPod ⟨rfl, hrk5, ?_, hF5, _, ⟨bm, v2, Es, m2, hI5, rfl⟩, ?_, ?_⟩
  · rw [hab5, hab4, hab3, hab2]
  · rw [hV5, hV4, hV2]
  · rw [hV5, hV4]; exact hV2'

/-- What a pod that is handed back says. -/
def GotP (w : World) (K : Nat → Prop) (u : Value) (a : AP) (ok : Bool) : Prop := ∃ p, u = .tuple #[p.v, .bool ok] ∧ RK w K p ∧ ab w p = a

theorem QI.nil {w : World} {B b0 bm : Nat} {v : Value} {Ds : List PV} {m : Int → Option Int} {O : Nat → Prop} (hI : QI w B b0 bm v Ds m O) (h : QV w Ds = []) : Ds = [] := by
  have := hI.len h
  exact List.eq_nil_of_length_eq_zero this

theorem built_pod0 : Try.prog.built 25 [] = some PV.zero.cs.toArray := by kernel_rfl

set_option maxHeartbeats 1000000 in
theorem qPop_calls (B b0 : Nat) (O : Nat → Prop) (A : List AP) (w : World) (h : QA w B b0 O A) (hn : A.length ≤ 1000) :
    CallsR Try.prog 31 [.pointer (some ⟨b0, 0, none⟩)] w fun u w' => GotP w' O u (A.headD az) (!A.isEmpty) ∧ QA w' B b0 O A.tail ∧ FO O O w w' := by
  have hbw : ∀ b, w.heap.size ≤ b → ¬ O b := fun b hb ho => by have := h.lo b ho; omega
  refine enter1 Try.func31 rfl Try.ntmps31 rfl ?_
  repeat (first
 | (with_reducible first
 | apply CW.seq | apply CW.region | apply CW.block | apply CW.ret | apply CW.skip | apply CW.label | apply CW.exit
 | apply W.nil | apply Fin.seq | apply Fin.then_ret | apply Fin.then_exit | apply Fin.blk_ret | apply Fin.blk_normal | apply Fin.blk_here)
 | (with_reducible first | refine S.move ?_ | refine S.assign ?_ | refine S.pickT ?_ | refine S.pickF ?_ | refine S.lss ?_ | refine S.gtr ?_ | refine S.leq ?_ | refine S.geq ?_ | refine S.eqT ?_ | refine S.neF ?_ | refine S.eql ?_ | refine S.neq ?_ | refine S.add ?_ | refine S.sub ?_ | refine S.mul ?_ | refine S.conv ?_ | refine S.shr1 ?_ | refine S.neg ?_ | refine S.not ?_ | refine S.extract ?_ | refine S.len ?_ | refine S.fld ?_ | refine S.index ?_ | refine S.skp ?_ | refine S.sliceTo ?_ | refine S.sliceFrom ?_ | refine S.eqNil ?_ | refine S.eqbT ?_ | refine S.nebF ?_ | refine S.eqb ?_ | refine S.neb ?_)
 | (with_reducible first | refine S.nc ?_ | refine S.fld ?_ (h1 := fHeapL) | refine S.fld ?_ (h1 := fHeapM) | refine S.fld ?_ (h1 := fQueueH) | refine S.eqP ?_ | refine S.neP ?_ | refine S.quo ?_ | refine S.mkP ?_)
 | ((with_reducible apply CW.cond_true); exact rfl)
 | ((with_reducible apply CW.cond_false); exact rfl)
 | ((with_reducible apply Fin.blk_far); exact rfl))
  refine W.newBlk (d := some 2) (mk := fun b => .pointer (some ⟨b, 0, none⟩)) (cs := PV.zero.cs) (op_alloc' zPod rfl) (by rfl) (by rfl) ?_
  intro b2 w1 hx1 hb2 hB2
  have h1 := h.x hx1
  repeat (first
 | (with_reducible first
 | apply CW.seq | apply CW.region | apply CW.block | apply CW.ret | apply CW.skip | apply CW.label | apply CW.exit
 | apply W.nil | apply Fin.seq | apply Fin.then_ret | apply Fin.then_exit | apply Fin.blk_ret | apply Fin.blk_normal | apply Fin.blk_here)
 | (with_reducible first | refine S.move ?_ | refine S.assign ?_ | refine S.pickT ?_ | refine S.pickF ?_ | refine S.lss ?_ | refine S.gtr ?_ | refine S.leq ?_ | refine S.geq ?_ | refine S.eqT ?_ | refine S.neF ?_ | refine S.eql ?_ | refine S.neq ?_ | refine S.add ?_ | refine S.sub ?_ | refine S.mul ?_ | refine S.conv ?_ | refine S.shr1 ?_ | refine S.neg ?_ | refine S.not ?_ | refine S.extract ?_ | refine S.len ?_ | refine S.fld ?_ | refine S.index ?_ | refine S.skp ?_ | refine S.sliceTo ?_ | refine S.sliceFrom ?_ | refine S.eqNil ?_ | refine S.eqbT ?_ | refine S.nebF ?_ | refine S.eqb ?_ | refine S.neb ?_)
 | (with_reducible first | refine S.nc ?_ | refine S.fld ?_ (h1 := fHeapL) | refine S.fld ?_ (h1 := fHeapM) | refine S.fld ?_ (h1 := fQueueH) | refine S.eqP ?_ | refine S.neP ?_ | refine S.quo ?_ | refine S.mkP ?_)
 | ((with_reducible apply CW.cond_true); exact rfl)
 | ((with_reducible apply CW.cond_false); exact rfl)
 | ((with_reducible apply Fin.blk_far); exact rfl))
  refine S.cl (op_call ent32 (by rfl) (by rfl)) (by rfl) (by rfl) (qLen_calls B b0 O A w1 h1) ?_
  rintro _ w2 ⟨rfl, rfl⟩
  repeat (first
 | (with_reducible first
 | apply CW.seq | apply CW.region | apply CW.block | apply CW.ret | apply CW.skip | apply CW.label | apply CW.exit
 | apply W.nil | apply Fin.seq | apply Fin.then_ret | apply Fin.then_exit | apply Fin.blk_ret | apply Fin.blk_normal | apply Fin.blk_here)
 | (with_reducible first | refine S.move ?_ | refine S.assign ?_ | refine S.pickT ?_ | refine S.pickF ?_ | refine S.lss ?_ | refine S.gtr ?_ | refine S.leq ?_ | refine S.geq ?_ | refine S.eqT ?_ | refine S.neF ?_ | refine S.eql ?_ | refine S.neq ?_ | refine S.add ?_ | refine S.sub ?_ | refine S.mul ?_ | refine S.conv ?_ | refine S.shr1 ?_ | refine S.neg ?_ | refine S.not ?_ | refine S.extract ?_ | refine S.len ?_ | refine S.fld ?_ | refine S.index ?_ | refine S.skp ?_ | refine S.sliceTo ?_ | refine S.sliceFrom ?_ | refine S.eqNil ?_ | refine S.eqbT ?_ | refine S.nebF ?_ | refine S.eqb ?_ | refine S.neb ?_)
 | (with_reducible first | refine S.nc ?_ | refine S.fld ?_ (h1 := fHeapL) | refine S.fld ?_ (h1 := fHeapM) | refine S.fld ?_ (h1 := fQueueH) | refine S.eqP ?_ | refine S.neP ?_ | refine S.quo ?_ | refine S.mkP ?_)
 | ((with_reducible apply CW.cond_true); exact rfl)
 | ((with_reducible apply CW.cond_false); exact rfl)
 | ((with_reducible apply Fin.blk_far); exact rfl))
  refine CW.cond (by rfl) (fun hc => ?_) (fun hc => ?_)
  · have hA : A = [] := by
      have := of_decide_eq_true hc
      exact List.eq_nil_of_length_eq_zero (by omega)
    subst hA
    repeat (first
 | (with_reducible first
 | apply CW.seq | apply CW.region | apply CW.block | apply CW.ret | apply CW.skip | apply CW.label | apply CW.exit
 | apply W.nil | apply Fin.seq | apply Fin.then_ret | apply Fin.then_exit | apply Fin.blk_ret | apply Fin.blk_normal | apply Fin.blk_here)
 | (with_reducible first | refine S.move ?_ | refine S.assign ?_ | refine S.pickT ?_ | refine S.pickF ?_ | refine S.lss ?_ | refine S.gtr ?_ | refine S.leq ?_ | refine S.geq ?_ | refine S.eqT ?_ | refine S.neF ?_ | refine S.eql ?_ | refine S.neq ?_ | refine S.add ?_ | refine S.sub ?_ | refine S.mul ?_ | refine S.conv ?_ | refine S.shr1 ?_ | refine S.neg ?_ | refine S.not ?_ | refine S.extract ?_ | refine S.len ?_ | refine S.fld ?_ | refine S.index ?_ | refine S.skp ?_ | refine S.sliceTo ?_ | refine S.sliceFrom ?_ | refine S.eqNil ?_ | refine S.eqbT ?_ | refine S.nebF ?_ | refine S.eqb ?_ | refine S.neb ?_)
 | (with_reducible first | refine S.nc ?_ | refine S.fld ?_ (h1 := fHeapL) | refine S.fld ?_ (h1 := fHeapM) | refine S.fld ?_ (h1 := fQueueH) | refine S.eqP ?_ | refine S.neP ?_ | refine S.quo ?_ | refine S.mkP ?_)
 | ((with_reducible apply CW.cond_true); exact rfl)
 | ((with_reducible apply CW.cond_false); exact rfl)
 | ((with_reducible apply Fin.blk_far); exact rfl))
    refine W.pure (d := some 7) (v := PV.zero.v) (op_build (by rfl) built_pod0) (by rfl) (by rfl) ?_
    refine S.stB (vs := PV.zero.cs) (by rfl) (by rfl) rfl hB2 rfl szPod9 (PV.one _) (by rfl) ?_
    intro w3 hg3 hB3
    repeat (first
 | (with_reducible first
 | apply CW.seq | apply CW.region | apply CW.block | apply CW.ret | apply CW.skip | apply CW.label | apply CW.exit
 | apply W.nil | apply Fin.seq | apply Fin.then_ret | apply Fin.then_exit | apply Fin.blk_ret | apply Fin.blk_normal | apply Fin.blk_here)
 | (with_reducible first | refine S.move ?_ | refine S.assign ?_ | refine S.pickT ?_ | refine S.pickF ?_ | refine S.lss ?_ | refine S.gtr ?_ | refine S.leq ?_ | refine S.geq ?_ | refine S.eqT ?_ | refine S.neF ?_ | refine S.eql ?_ | refine S.neq ?_ | refine S.add ?_ | refine S.sub ?_ | refine S.mul ?_ | refine S.conv ?_ | refine S.shr1 ?_ | refine S.neg ?_ | refine S.not ?_ | refine S.extract ?_ | refine S.len ?_ | refine S.fld ?_ | refine S.index ?_ | refine S.skp ?_ | refine S.sliceTo ?_ | refine S.sliceFrom ?_ | refine S.eqNil ?_ | refine S.eqbT ?_ | refine S.nebF ?_ | refine S.eqb ?_ | refine S.neb ?_)
 | (with_reducible first | refine S.nc ?_ | refine S.fld ?_ (h1 := fHeapL) | refine S.fld ?_ (h1 := fHeapM) | refine S.fld ?_ (h1 := fQueueH) | refine S.eqP ?_ | refine S.neP ?_ | refine S.quo ?_ | refine S.mkP ?_)
 | ((with_reducible apply CW.cond_true); exact rfl)
 | ((with_reducible apply CW.cond_false); exact rfl)
 | ((with_reducible apply Fin.blk_far); exact rfl))
    refine R.c2 rfl (by rfl) (by rfl) hB3 stPod ⟨⟨PV.zero, rfl, RK.zero _ _, rfl⟩, h1.g hg3 (hbw b2 hb2), (FO.of_x hx1).g hg3 hb2⟩
  · have hA : A ≠ [] := by
      have := of_decide_eq_false hc
      rintro rfl
      exact this rfl
    obtain ⟨bm, v, Ds, m, hI, hV⟩ := h1
    have hDl := hI.len hV
    have hD0 : 0 < Ds.length := by rw [hDl]; exact List.length_pos_iff.2 hA
    repeat (first
 | (with_reducible first
 | apply CW.seq | apply CW.region | apply CW.block | apply CW.ret | apply CW.skip | apply CW.label | apply CW.exit
 | apply W.nil | apply Fin.seq | apply Fin.then_ret | apply Fin.then_exit | apply Fin.blk_ret | apply Fin.blk_normal | apply Fin.blk_here)
 | (with_reducible first | refine S.move ?_ | refine S.assign ?_ | refine S.pickT ?_ | refine S.pickF ?_ | refine S.lss ?_ | refine S.gtr ?_ | refine S.leq ?_ | refine S.geq ?_ | refine S.eqT ?_ | refine S.neF ?_ | refine S.eql ?_ | refine S.neq ?_ | refine S.add ?_ | refine S.sub ?_ | refine S.mul ?_ | refine S.conv ?_ | refine S.shr1 ?_ | refine S.neg ?_ | refine S.not ?_ | refine S.extract ?_ | refine S.len ?_ | refine S.fld ?_ | refine S.index ?_ | refine S.skp ?_ | refine S.sliceTo ?_ | refine S.sliceFrom ?_ | refine S.eqNil ?_ | refine S.eqbT ?_ | refine S.nebF ?_ | refine S.eqb ?_ | refine S.neb ?_)
 | (with_reducible first | refine S.nc ?_ | refine S.fld ?_ (h1 := fHeapL) | refine S.fld ?_ (h1 := fHeapM) | refine S.fld ?_ (h1 := fQueueH) | refine S.eqP ?_ | refine S.neP ?_ | refine S.quo ?_ | refine S.mkP ?_)
 | ((with_reducible apply CW.cond_true); exact rfl)
 | ((with_reducible apply CW.cond_false); exact rfl)
 | ((with_reducible apply Fin.blk_far); exact rfl))
    refine S.cl (op_call ent51 (by rfl) (by rfl)) (by rfl) (by rfl) (take_calls B b0 bm v Ds m O 0 w2 hI hD0 (by omega) rfl) ?_
    rintro _ w3 ⟨rfl, hrk3, hab3, hF3, A', hA3, _, hV3⟩
    have hV3 := hV3 rfl
    rw [hV] at hV3
    subst hV3
    have hB3 := hF3.blk hB2 (hbw b2 hb2)
    repeat (first
 | (with_reducible first
 | apply CW.seq | apply CW.region | apply CW.block | apply CW.ret | apply CW.skip | apply CW.label | apply CW.exit
 | apply W.nil | apply Fin.seq | apply Fin.then_ret | apply Fin.then_exit | apply Fin.blk_ret | apply Fin.blk_normal | apply Fin.blk_here)
 | (with_reducible first | refine S.move ?_ | refine S.assign ?_ | refine S.pickT ?_ | refine S.pickF ?_ | refine S.lss ?_ | refine S.gtr ?_ | refine S.leq ?_ | refine S.geq ?_ | refine S.eqT ?_ | refine S.neF ?_ | refine S.eql ?_ | refine S.neq ?_ | refine S.add ?_ | refine S.sub ?_ | refine S.mul ?_ | refine S.conv ?_ | refine S.shr1 ?_ | refine S.neg ?_ | refine S.not ?_ | refine S.extract ?_ | refine S.len ?_ | refine S.fld ?_ | refine S.index ?_ | refine S.skp ?_ | refine S.sliceTo ?_ | refine S.sliceFrom ?_ | refine S.eqNil ?_ | refine S.eqbT ?_ | refine S.nebF ?_ | refine S.eqb ?_ | refine S.neb ?_)
 | (with_reducible first | refine S.nc ?_ | refine S.fld ?_ (h1 := fHeapL) | refine S.fld ?_ (h1 := fHeapM) | refine S.fld ?_ (h1 := fQueueH) | refine S.eqP ?_ | refine S.neP ?_ | refine S.quo ?_ | refine S.mkP ?_)
 | ((with_reducible apply CW.cond_true); exact rfl)
 | ((with_reducible apply CW.cond_false); exact rfl)
 | ((with_reducible apply Fin.blk_far); exact rfl))
    refine S.stB (vs := (at_ Ds 0).cs) (by rfl) (by rfl) rfl hB3 rfl szPod9 (PV.one _) (by rfl) ?_
    intro w4 hg4 hB4
    obtain ⟨hrk4, hab4⟩ := hrk3.g hg4 (hbw b2 hb2)
    repeat (first
 | (with_reducible first
 | apply CW.seq | apply CW.region | apply CW.block | apply CW.ret | apply CW.skip | apply CW.label | apply CW.exit
 | apply W.nil | apply Fin.seq | apply Fin.then_ret | apply Fin.then_exit | apply Fin.blk_ret | apply Fin.blk_normal | apply Fin.blk_here)
 | (with_reducible first | refine S.move ?_ | refine S.assign ?_ | refine S.pickT ?_ | refine S.pickF ?_ | refine S.lss ?_ | refine S.gtr ?_ | refine S.leq ?_ | refine S.geq ?_ | refine S.eqT ?_ | refine S.neF ?_ | refine S.eql ?_ | refine S.neq ?_ | refine S.add ?_ | refine S.sub ?_ | refine S.mul ?_ | refine S.conv ?_ | refine S.shr1 ?_ | refine S.neg ?_ | refine S.not ?_ | refine S.extract ?_ | refine S.len ?_ | refine S.fld ?_ | refine S.index ?_ | refine S.skp ?_ | refine S.sliceTo ?_ | refine S.sliceFrom ?_ | refine S.eqNil ?_ | refine S.eqbT ?_ | refine S.nebF ?_ | refine S.eqb ?_ | refine S.neb ?_)
 | (with_reducible first | refine S.nc ?_ | refine S.fld ?_ (h1 := fHeapL) | refine S.fld ?_ (h1 := fHeapM) | refine S.fld ?_ (h1 := fQueueH) | refine S.eqP ?_ | refine S.neP ?_ | refine S.quo ?_ | refine S.mkP ?_)
 | ((with_reducible apply CW.cond_true); exact rfl)
 | ((with_reducible apply CW.cond_false); exact rfl)
 | ((with_reducible apply Fin.blk_far); exact rfl))
    refine R.c2 rfl (by rfl) (by rfl) hB4 stPod ⟨⟨at_ Ds 0, rfl, hrk4, hab4.trans hab3⟩, hA3.g hg4 (hbw b2 hb2), ((FO.of_x hx1).trans hF3).g hg4 hb2⟩

theorem qPop_none (w : World) : CallsR Try.prog 31 [.pointer none] w fun u w' => u = .tuple #[PV.zero.v, .bool false] ∧ X w w' := by
  refine enter1 Try.func31 rfl Try.ntmps31 rfl ?_
  repeat (first
 | (with_reducible first
 | apply CW.seq | apply CW.region | apply CW.block | apply CW.ret | apply CW.skip | apply CW.label | apply CW.exit
 | apply W.nil | apply Fin.seq | apply Fin.then_ret | apply Fin.then_exit | apply Fin.blk_ret | apply Fin.blk_normal | apply Fin.blk_here)
 | (with_reducible first | refine S.move ?_ | refine S.assign ?_ | refine S.pickT ?_ | refine S.pickF ?_ | refine S.lss ?_ | refine S.gtr ?_ | refine S.leq ?_ | refine S.geq ?_ | refine S.eqT ?_ | refine S.neF ?_ | refine S.eql ?_ | refine S.neq ?_ | refine S.add ?_ | refine S.sub ?_ | refine S.mul ?_ | refine S.conv ?_ | refine S.shr1 ?_ | refine S.neg ?_ | refine S.not ?_ | refine S.extract ?_ | refine S.len ?_ | refine S.fld ?_ | refine S.index ?_ | refine S.skp ?_ | refine S.sliceTo ?_ | refine S.sliceFrom ?_ | refine S.eqNil ?_ | refine S.eqbT ?_ | refine S.nebF ?_ | refine S.eqb ?_ | refine S.neb ?_)
 | (with_reducible first | refine S.nc ?_ | refine S.fld ?_ (h1 := fHeapL) | refine S.fld ?_ (h1 := fHeapM) | refine S.fld ?_ (h1 := fQueueH) | refine S.eqP ?_ | refine S.neP ?_ | refine S.quo ?_ | refine S.mkP ?_)
 | ((with_reducible apply CW.cond_true); exact rfl)
 | ((with_reducible apply CW.cond_false); exact rfl)
 | ((with_reducible apply Fin.blk_far); exact rfl))
  refine W.newBlk (d := some 2) (mk := fun b => .pointer (some ⟨b, 0, none⟩)) (cs := PV.zero.cs) (op_alloc' zPod rfl) (by rfl) (by rfl) ?_
  intro b2 w1 hx1 hb2 hB2
  repeat (first
 | (with_reducible first
 | apply CW.seq | apply CW.region | apply CW.block | apply CW.ret | apply CW.skip | apply CW.label | apply CW.exit
 | apply W.nil | apply Fin.seq | apply Fin.then_ret | apply Fin.then_exit | apply Fin.blk_ret | apply Fin.blk_normal | apply Fin.blk_here)
 | (with_reducible first | refine S.move ?_ | refine S.assign ?_ | refine S.pickT ?_ | refine S.pickF ?_ | refine S.lss ?_ | refine S.gtr ?_ | refine S.leq ?_ | refine S.geq ?_ | refine S.eqT ?_ | refine S.neF ?_ | refine S.eql ?_ | refine S.neq ?_ | refine S.add ?_ | refine S.sub ?_ | refine S.mul ?_ | refine S.conv ?_ | refine S.shr1 ?_ | refine S.neg ?_ | refine S.not ?_ | refine S.extract ?_ | refine S.len ?_ | refine S.fld ?_ | refine S.index ?_ | refine S.skp ?_ | refine S.sliceTo ?_ | refine S.sliceFrom ?_ | refine S.eqNil ?_ | refine S.eqbT ?_ | refine S.nebF ?_ | refine S.eqb ?_ | refine S.neb ?_)
 | (with_reducible first | refine S.nc ?_ | refine S.fld ?_ (h1 := fHeapL) | refine S.fld ?_ (h1 := fHeapM) | refine S.fld ?_ (h1 := fQueueH) | refine S.eqP ?_ | refine S.neP ?_ | refine S.quo ?_ | refine S.mkP ?_)
 | ((with_reducible apply CW.cond_true); exact rfl)
 | ((with_reducible apply CW.cond_false); exact rfl)
 | ((with_reducible apply Fin.blk_far); exact rfl))
  refine S.cl (op_call ent32 (by rfl) (by rfl)) (by rfl) (by rfl) (qLen_nil w1) ?_
  rintro _ w2 ⟨rfl, rfl⟩
  repeat (first
 | (with_reducible first
 | apply CW.seq | apply CW.region | apply CW.block | apply CW.ret | apply CW.skip | apply CW.label | apply CW.exit
 | apply W.nil | apply Fin.seq | apply Fin.then_ret | apply Fin.then_exit | apply Fin.blk_ret | apply Fin.blk_normal | apply Fin.blk_here)
 | (with_reducible first | refine S.move ?_ | refine S.assign ?_ | refine S.pickT ?_ | refine S.pickF ?_ | refine S.lss ?_ | refine S.gtr ?_ | refine S.leq ?_ | refine S.geq ?_ | refine S.eqT ?_ | refine S.neF ?_ | refine S.eql ?_ | refine S.neq ?_ | refine S.add ?_ | refine S.sub ?_ | refine S.mul ?_ | refine S.conv ?_ | refine S.shr1 ?_ | refine S.neg ?_ | refine S.not ?_ | refine S.extract ?_ | refine S.len ?_ | refine S.fld ?_ | refine S.index ?_ | refine S.skp ?_ | refine S.sliceTo ?_ | refine S.sliceFrom ?_ | refine S.eqNil ?_ | refine S.eqbT ?_ | refine S.nebF ?_ | refine S.eqb ?_ | refine S.neb ?_)
 | (with_reducible first | refine S.nc ?_ | refine S.fld ?_ (h1 := fHeapL) | refine S.fld ?_ (h1 := fHeapM) | refine S.fld ?_ (h1 := fQueueH) | refine S.eqP ?_ | refine S.neP ?_ | refine S.quo ?_ | refine S.mkP ?_)
 | ((with_reducible apply CW.cond_true); exact rfl)
 | ((with_reducible apply CW.cond_false); exact rfl)
 | ((with_reducible apply Fin.blk_far); exact rfl))
  refine W.pure (d := some 7) (v := PV.zero.v) (op_build (by rfl) built_pod0) (by rfl) (by rfl) ?_
  refine S.stB (vs := PV.zero.cs) (by rfl) (by rfl) rfl hB2 rfl szPod9 (PV.one _) (by rfl) ?_
  intro w3 hg3 hB3
  repeat (first
 | (with_reducible first
 | apply CW.seq | apply CW.region | apply CW.block | apply CW.ret | apply CW.skip | apply CW.label | apply CW.exit
 | apply W.nil | apply Fin.seq | apply Fin.then_ret | apply Fin.then_exit | apply Fin.blk_ret | apply Fin.blk_normal | apply Fin.blk_here)
 | (with_reducible first | refine S.move ?_ | refine S.assign ?_ | refine S.pickT ?_ | refine S.pickF ?_ | refine S.lss ?_ | refine S.gtr ?_ | refine S.leq ?_ | refine S.geq ?_ | refine S.eqT ?_ | refine S.neF ?_ | refine S.eql ?_ | refine S.neq ?_ | refine S.add ?_ | refine S.sub ?_ | refine S.mul ?_ | refine S.conv ?_ | refine S.shr1 ?_ | refine S.neg ?_ | refine S.not ?_ | refine S.extract ?_ | refine S.len ?_ | refine S.fld ?_ | refine S.index ?_ | refine S.skp ?_ | refine S.sliceTo ?_ | refine S.sliceFrom ?_ | refine S.eqNil ?_ | refine S.eqbT ?_ | refine S.nebF ?_ | refine S.eqb ?_ | refine S.neb ?_)
 | (with_reducible first | refine S.nc ?_ | refine S.fld ?_ (h1 := fHeapL) | refine S.fld ?_ (h1 := fHeapM) | refine S.fld ?_ (h1 := fQueueH) | refine S.eqP ?_ | refine S.neP ?_ | refine S.quo ?_ | refine S.mkP ?_)
 | ((with_reducible apply CW.cond_true); exact rfl)
 | ((with_reducible apply CW.cond_false); exact rfl)
 | ((with_reducible apply Fin.blk_far); exact rfl))
  refine R.c2 rfl (by rfl) (by rfl) hB3 stPod ⟨rfl, below_g hx1 hg3 hx1.le hb2⟩

set_option maxHeartbeats 1000000 in
theorem qPeek_calls (B b0 : Nat) (O : Nat → Prop) (A : List AP) (w : World) (h : QA w B b0 O A) (hn : A.length ≤ 1000) :
    CallsR Try.prog 35 [.pointer (some ⟨b0, 0, none⟩)] w fun u w' => (∃ p l, u = .tuple #[p.v, .bool (!A.isEmpty)] ∧ l.length ≤ 1000 ∧ RqB w' w.heap.size p.rA p.rn l ∧ ab w' p = A.headD az) ∧ X w w' := by
  refine enter1 Try.func35 rfl Try.ntmps35 rfl ?_
  repeat (first
 | (with_reducible first
 | apply CW.seq | apply CW.region | apply CW.block | apply CW.ret | apply CW.skip | apply CW.label | apply CW.exit
 | apply W.nil | apply Fin.seq | apply Fin.then_ret | apply Fin.then_exit | apply Fin.blk_ret | apply Fin.blk_normal | apply Fin.blk_here)
 | (with_reducible first | refine S.move ?_ | refine S.assign ?_ | refine S.pickT ?_ | refine S.pickF ?_ | refine S.lss ?_ | refine S.gtr ?_ | refine S.leq ?_ | refine S.geq ?_ | refine S.eqT ?_ | refine S.neF ?_ | refine S.eql ?_ | refine S.neq ?_ | refine S.add ?_ | refine S.sub ?_ | refine S.mul ?_ | refine S.conv ?_ | refine S.shr1 ?_ | refine S.neg ?_ | refine S.not ?_ | refine S.extract ?_ | refine S.len ?_ | refine S.fld ?_ | refine S.index ?_ | refine S.skp ?_ | refine S.sliceTo ?_ | refine S.sliceFrom ?_ | refine S.eqNil ?_ | refine S.eqbT ?_ | refine S.nebF ?_ | refine S.eqb ?_ | refine S.neb ?_)
 | (with_reducible first | refine S.nc ?_ | refine S.fld ?_ (h1 := fHeapL) | refine S.fld ?_ (h1 := fHeapM) | refine S.fld ?_ (h1 := fQueueH) | refine S.eqP ?_ | refine S.neP ?_ | refine S.quo ?_ | refine S.mkP ?_)
 | ((with_reducible apply CW.cond_true); exact rfl)
 | ((with_reducible apply CW.cond_false); exact rfl)
 | ((with_reducible apply Fin.blk_far); exact rfl))
  refine W.newBlk (d := some 2) (mk := fun b => .pointer (some ⟨b, 0, none⟩)) (cs := PV.zero.cs) (op_alloc' zPod rfl) (by rfl) (by rfl) ?_
  intro b2 w1 hx1 hb2 hB2
  have h1 := h.x hx1
  repeat (first
 | (with_reducible first
 | apply CW.seq | apply CW.region | apply CW.block | apply CW.ret | apply CW.skip | apply CW.label | apply CW.exit
 | apply W.nil | apply Fin.seq | apply Fin.then_ret | apply Fin.then_exit | apply Fin.blk_ret | apply Fin.blk_normal | apply Fin.blk_here)
 | (with_reducible first | refine S.move ?_ | refine S.assign ?_ | refine S.pickT ?_ | refine S.pickF ?_ | refine S.lss ?_ | refine S.gtr ?_ | refine S.leq ?_ | refine S.geq ?_ | refine S.eqT ?_ | refine S.neF ?_ | refine S.eql ?_ | refine S.neq ?_ | refine S.add ?_ | refine S.sub ?_ | refine S.mul ?_ | refine S.conv ?_ | refine S.shr1 ?_ | refine S.neg ?_ | refine S.not ?_ | refine S.extract ?_ | refine S.len ?_ | refine S.fld ?_ | refine S.index ?_ | refine S.skp ?_ | refine S.sliceTo ?_ | refine S.sliceFrom ?_ | refine S.eqNil ?_ | refine S.eqbT ?_ | refine S.nebF ?_ | refine S.eqb ?_ | refine S.neb ?_)
 | (with_reducible first | refine S.nc ?_ | refine S.fld ?_ (h1 := fHeapL) | refine S.fld ?_ (h1 := fHeapM) | refine S.fld ?_ (h1 := fQueueH) | refine S.eqP ?_ | refine S.neP ?_ | refine S.quo ?_ | refine S.mkP ?_)
 | ((with_reducible apply CW.cond_true); exact rfl)
 | ((with_reducible apply CW.cond_false); exact rfl)
 | ((with_reducible apply Fin.blk_far); exact rfl))
  refine S.cl (op_call ent32 (by rfl) (by rfl)) (by rfl) (by rfl) (qLen_calls B b0 O A w1 h1) ?_
  rintro _ w2 ⟨rfl, rfl⟩
  repeat (first
 | (with_reducible first
 | apply CW.seq | apply CW.region | apply CW.block | apply CW.ret | apply CW.skip | apply CW.label | apply CW.exit
 | apply W.nil | apply Fin.seq | apply Fin.then_ret | apply Fin.then_exit | apply Fin.blk_ret | apply Fin.blk_normal | apply Fin.blk_here)
 | (with_reducible first | refine S.move ?_ | refine S.assign ?_ | refine S.pickT ?_ | refine S.pickF ?_ | refine S.lss ?_ | refine S.gtr ?_ | refine S.leq ?_ | refine S.geq ?_ | refine S.eqT ?_ | refine S.neF ?_ | refine S.eql ?_ | refine S.neq ?_ | refine S.add ?_ | refine S.sub ?_ | refine S.mul ?_ | refine S.conv ?_ | refine S.shr1 ?_ | refine S.neg ?_ | refine S.not ?_ | refine S.extract ?_ | refine S.len ?_ | refine S.fld ?_ | refine S.index ?_ | refine S.skp ?_ | refine S.sliceTo ?_ | refine S.sliceFrom ?_ | refine S.eqNil ?_ | refine S.eqbT ?_ | refine S.nebF ?_ | refine S.eqb ?_ | refine S.neb ?_)
 | (with_reducible first | refine S.nc ?_ | refine S.fld ?_ (h1 := fHeapL) | refine S.fld ?_ (h1 := fHeapM) | refine S.fld ?_ (h1 := fQueueH) | refine S.eqP ?_ | refine S.neP ?_ | refine S.quo ?_ | refine S.mkP ?_)
 | ((with_reducible apply CW.cond_true); exact rfl)
 | ((with_reducible apply CW.cond_false); exact rfl)
 | ((with_reducible apply Fin.blk_far); exact rfl))
  refine CW.cond (by rfl) (fun hc => ?_) (fun hc => ?_)
  · have hA : A = [] := by
      have := of_decide_eq_true hc
      exact List.eq_nil_of_length_eq_zero (by omega)
    subst hA
    repeat (first
 | (with_reducible first
 | apply CW.seq | apply CW.region | apply CW.block | apply CW.ret | apply CW.skip | apply CW.label | apply CW.exit
 | apply W.nil | apply Fin.seq | apply Fin.then_ret | apply Fin.then_exit | apply Fin.blk_ret | apply Fin.blk_normal | apply Fin.blk_here)
 | (with_reducible first | refine S.move ?_ | refine S.assign ?_ | refine S.pickT ?_ | refine S.pickF ?_ | refine S.lss ?_ | refine S.gtr ?_ | refine S.leq ?_ | refine S.geq ?_ | refine S.eqT ?_ | refine S.neF ?_ | refine S.eql ?_ | refine S.neq ?_ | refine S.add ?_ | refine S.sub ?_ | refine S.mul ?_ | refine S.conv ?_ | refine S.shr1 ?_ | refine S.neg ?_ | refine S.not ?_ | refine S.extract ?_ | refine S.len ?_ | refine S.fld ?_ | refine S.index ?_ | refine S.skp ?_ | refine S.sliceTo ?_ | refine S.sliceFrom ?_ | refine S.eqNil ?_ | refine S.eqbT ?_ | refine S.nebF ?_ | refine S.eqb ?_ | refine S.neb ?_)
 | (with_reducible first | refine S.nc ?_ | refine S.fld ?_ (h1 := fHeapL) | refine S.fld ?_ (h1 := fHeapM) | refine S.fld ?_ (h1 := fQueueH) | refine S.eqP ?_ | refine S.neP ?_ | refine S.quo ?_ | refine S.mkP ?_)
 | ((with_reducible apply CW.cond_true); exact rfl)
 | ((with_reducible apply CW.cond_false); exact rfl)
 | ((with_reducible apply Fin.blk_far); exact rfl))
    refine W.pure (d := some 7) (v := PV.zero.v) (op_build (by rfl) built_pod0) (by rfl) (by rfl) ?_
    refine S.stB (vs := PV.zero.cs) (by rfl) (by rfl) rfl hB2 rfl szPod9 (PV.one _) (by rfl) ?_
    intro w3 hg3 hB3
    repeat (first
 | (with_reducible first
 | apply CW.seq | apply CW.region | apply CW.block | apply CW.ret | apply CW.skip | apply CW.label | apply CW.exit
 | apply W.nil | apply Fin.seq | apply Fin.then_ret | apply Fin.then_exit | apply Fin.blk_ret | apply Fin.blk_normal | apply Fin.blk_here)
 | (with_reducible first | refine S.move ?_ | refine S.assign ?_ | refine S.pickT ?_ | refine S.pickF ?_ | refine S.lss ?_ | refine S.gtr ?_ | refine S.leq ?_ | refine S.geq ?_ | refine S.eqT ?_ | refine S.neF ?_ | refine S.eql ?_ | refine S.neq ?_ | refine S.add ?_ | refine S.sub ?_ | refine S.mul ?_ | refine S.conv ?_ | refine S.shr1 ?_ | refine S.neg ?_ | refine S.not ?_ | refine S.extract ?_ | refine S.len ?_ | refine S.fld ?_ | refine S.index ?_ | refine S.skp ?_ | refine S.sliceTo ?_ | refine S.sliceFrom ?_ | refine S.eqNil ?_ | refine S.eqbT ?_ | refine S.nebF ?_ | refine S.eqb ?_ | refine S.neb ?_)
 | (with_reducible first | refine S.nc ?_ | refine S.fld ?_ (h1 := fHeapL) | refine S.fld ?_ (h1 := fHeapM) | refine S.fld ?_ (h1 := fQueueH) | refine S.eqP ?_ | refine S.neP ?_ | refine S.quo ?_ | refine S.mkP ?_)
 | ((with_reducible apply CW.cond_true); exact rfl)
 | ((with_reducible apply CW.cond_false); exact rfl)
 | ((with_reducible apply Fin.blk_far); exact rfl))
    refine R.c2 rfl (by rfl) (by rfl) hB3 stPod ⟨⟨PV.zero, [], rfl, by simp, ⟨rfl, fun h => absurd rfl h⟩, rfl⟩, below_g hx1 hg3 hx1.le hb2⟩
  · have hA : A ≠ [] := by
      have := of_decide_eq_false hc
      rintro rfl
      exact this rfl
    obtain ⟨bm, v, Ds, m, hI, hV⟩ := h1
    have hDl := hI.len hV
    have hD0 : 0 < Ds.length := by rw [hDl]; exact List.length_pos_iff.2 hA
    obtain ⟨r, hr⟩ := QV_head (w := w2) hI.heap (by rintro rfl; simp at hD0)
    rw [hV] at hr
    subst hr
    obtain ⟨Ad, c, rfl, hcap, hat⟩ := hI.qs.own.ps.open_
    obtain ⟨bl, o, rfl, hbl, hcell⟩ := hat 0 hD0
    have hp : Ds[0]? = some (at_ Ds 0) := by unfold at_; rw [getD_at hD0]; exact List.getElem?_eq_getElem hD0
    have hpi : at_ Ds 0 ∈ Ds := List.mem_of_getElem? hp
    obtain ⟨lr, hlr, hisk⟩ := hI.rq _ hpi
    have hrd : ab w2 (at_ Ds 0) = ab w2 (at_ Ds 0) := rfl
    generalize at_ Ds 0 = p at *
    repeat (first
 | (with_reducible first
 | apply CW.seq | apply CW.region | apply CW.block | apply CW.ret | apply CW.skip | apply CW.label | apply CW.exit
 | apply W.nil | apply Fin.seq | apply Fin.then_ret | apply Fin.then_exit | apply Fin.blk_ret | apply Fin.blk_normal | apply Fin.blk_here)
 | (with_reducible first | refine S.move ?_ | refine S.assign ?_ | refine S.pickT ?_ | refine S.pickF ?_ | refine S.lss ?_ | refine S.gtr ?_ | refine S.leq ?_ | refine S.geq ?_ | refine S.eqT ?_ | refine S.neF ?_ | refine S.eql ?_ | refine S.neq ?_ | refine S.add ?_ | refine S.sub ?_ | refine S.mul ?_ | refine S.conv ?_ | refine S.shr1 ?_ | refine S.neg ?_ | refine S.not ?_ | refine S.extract ?_ | refine S.len ?_ | refine S.fld ?_ | refine S.index ?_ | refine S.skp ?_ | refine S.sliceTo ?_ | refine S.sliceFrom ?_ | refine S.eqNil ?_ | refine S.eqbT ?_ | refine S.nebF ?_ | refine S.eqb ?_ | refine S.neb ?_)
 | (with_reducible first | refine S.nc ?_ | refine S.fld ?_ (h1 := fHeapL) | refine S.fld ?_ (h1 := fHeapM) | refine S.fld ?_ (h1 := fQueueH) | refine S.eqP ?_ | refine S.neP ?_ | refine S.quo ?_ | refine S.mkP ?_)
 | ((with_reducible apply CW.cond_true); exact rfl)
 | ((with_reducible apply CW.cond_false); exact rfl)
 | ((with_reducible apply Fin.blk_far); exact rfl))
    ((with_reducible apply S.ld); exact rfl; (with_reducible first | exact oneInt | exact oneI64s | exact oneBool | exact oneI64 | exact onePods | exact oneMap); (exact hI.qs.cv); exact rfl; exact rfl)
    (with_reducible refine S.indexE (j := 0) ?_)
    refine S.lds (cs := p.cs) (by rfl) stPod (fun j u hj => hcell 0 p j u hp hj) (by rfl) (by rfl) ?_
    refine S.cl (op_call ent50 (by rfl) (by rfl)) (by rfl) (by rfl) (copied_calls p lr w2 hisk.is (by have := hisk.1; omega)) ?_
    rintro _ w3 ⟨A', c', rfl, hRq, hx3⟩
    have hab3 : ab w3 (p.with A' p.rn c') = ab w2 p := ab_with hisk hRq
    have hB3 := hB2.x hx3
    have hb2w := hB2.lt
    refine S.stB (vs := (p.with A' p.rn c').cs) (by rfl) (by rfl) rfl hB3 rfl szPod9 (PV.one _) (by rfl) ?_
    intro w4 hg4 hB4
    have hX4 : X w w4 := below_g (hx1.trans hx3) hg4 (hx1.trans hx3).le hb2
    have hRq4 : RqB w4 w.heap.size A' p.rn lr := ⟨hRq.1, fun hne => by
      obtain ⟨b, sp, e1, e2, e3⟩ := hRq.2 hne
      exact ⟨b, sp, e1, by have := hx1.le; omega, (show G b2 w3 w4 from hg4).blk e3 (by omega)⟩⟩
    have hab4 : ab w4 (p.with A' p.rn c') = ab w3 (p.with A' p.rn c') := ((hRq.rk (c' := c') hlr).g hg4 (by omega)).2
    repeat (first
 | (with_reducible first
 | apply CW.seq | apply CW.region | apply CW.block | apply CW.ret | apply CW.skip | apply CW.label | apply CW.exit
 | apply W.nil | apply Fin.seq | apply Fin.then_ret | apply Fin.then_exit | apply Fin.blk_ret | apply Fin.blk_normal | apply Fin.blk_here)
 | (with_reducible first | refine S.move ?_ | refine S.assign ?_ | refine S.pickT ?_ | refine S.pickF ?_ | refine S.lss ?_ | refine S.gtr ?_ | refine S.leq ?_ | refine S.geq ?_ | refine S.eqT ?_ | refine S.neF ?_ | refine S.eql ?_ | refine S.neq ?_ | refine S.add ?_ | refine S.sub ?_ | refine S.mul ?_ | refine S.conv ?_ | refine S.shr1 ?_ | refine S.neg ?_ | refine S.not ?_ | refine S.extract ?_ | refine S.len ?_ | refine S.fld ?_ | refine S.index ?_ | refine S.skp ?_ | refine S.sliceTo ?_ | refine S.sliceFrom ?_ | refine S.eqNil ?_ | refine S.eqbT ?_ | refine S.nebF ?_ | refine S.eqb ?_ | refine S.neb ?_)
 | (with_reducible first | refine S.nc ?_ | refine S.fld ?_ (h1 := fHeapL) | refine S.fld ?_ (h1 := fHeapM) | refine S.fld ?_ (h1 := fQueueH) | refine S.eqP ?_ | refine S.neP ?_ | refine S.quo ?_ | refine S.mkP ?_)
 | ((with_reducible apply CW.cond_true); exact rfl)
 | ((with_reducible apply CW.cond_false); exact rfl)
 | ((with_reducible apply Fin.blk_far); exact rfl))
    refine R.c2 rfl (by rfl) (by rfl) hB4 stPod ⟨⟨p.with A' p.rn c', lr, rfl, hlr, hRq4, hab4.trans hab3⟩, hX4⟩

set_option maxHeartbeats 1000000 in
theorem qRemove_calls (B b0 : Nat) (O : Nat → Prop) (A : List AP) (id : Int) (w : World) (h : QA w B b0 O A) (hn : A.length ≤ 1000) :
    CallsR Try.prog 40 [.pointer (some ⟨b0, 0, none⟩), .int .i64 id] w fun u w' => GotP w' O u ((A.find? fun a => a.1.id == id).getD az) (hasA A id) ∧ QA w' B b0 O (dropA A id) ∧ FO O O w w' := by
  have hbw : ∀ b, w.heap.size ≤ b → ¬ O b := fun b hb ho => by have := h.lo b ho; omega
  refine enter2 Try.func40 rfl Try.ntmps40 rfl ?_
  repeat (first
 | (with_reducible first
 | apply CW.seq | apply CW.region | apply CW.block | apply CW.ret | apply CW.skip | apply CW.label | apply CW.exit
 | apply W.nil | apply Fin.seq | apply Fin.then_ret | apply Fin.then_exit | apply Fin.blk_ret | apply Fin.blk_normal | apply Fin.blk_here)
 | (with_reducible first | refine S.move ?_ | refine S.assign ?_ | refine S.pickT ?_ | refine S.pickF ?_ | refine S.lss ?_ | refine S.gtr ?_ | refine S.leq ?_ | refine S.geq ?_ | refine S.eqT ?_ | refine S.neF ?_ | refine S.eql ?_ | refine S.neq ?_ | refine S.add ?_ | refine S.sub ?_ | refine S.mul ?_ | refine S.conv ?_ | refine S.shr1 ?_ | refine S.neg ?_ | refine S.not ?_ | refine S.extract ?_ | refine S.len ?_ | refine S.fld ?_ | refine S.index ?_ | refine S.skp ?_ | refine S.sliceTo ?_ | refine S.sliceFrom ?_ | refine S.eqNil ?_ | refine S.eqbT ?_ | refine S.nebF ?_ | refine S.eqb ?_ | refine S.neb ?_)
 | (with_reducible first | refine S.nc ?_ | refine S.fld ?_ (h1 := fHeapL) | refine S.fld ?_ (h1 := fHeapM) | refine S.fld ?_ (h1 := fQueueH) | refine S.eqP ?_ | refine S.neP ?_ | refine S.quo ?_ | refine S.mkP ?_)
 | ((with_reducible apply CW.cond_true); exact rfl)
 | ((with_reducible apply CW.cond_false); exact rfl)
 | ((with_reducible apply Fin.blk_far); exact rfl))
  refine W.newBlk (d := some 4) (mk := fun b => .pointer (some ⟨b, 0, none⟩)) (cs := PV.zero.cs) (op_alloc' zPod rfl) (by rfl) (by rfl) ?_
  intro b2 w1 hx1 hb2 hB2
  have h1 := h.x hx1
  repeat (first
 | (with_reducible first
 | apply CW.seq | apply CW.region | apply CW.block | apply CW.ret | apply CW.skip | apply CW.label | apply CW.exit
 | apply W.nil | apply Fin.seq | apply Fin.then_ret | apply Fin.then_exit | apply Fin.blk_ret | apply Fin.blk_normal | apply Fin.blk_here)
 | (with_reducible first | refine S.move ?_ | refine S.assign ?_ | refine S.pickT ?_ | refine S.pickF ?_ | refine S.lss ?_ | refine S.gtr ?_ | refine S.leq ?_ | refine S.geq ?_ | refine S.eqT ?_ | refine S.neF ?_ | refine S.eql ?_ | refine S.neq ?_ | refine S.add ?_ | refine S.sub ?_ | refine S.mul ?_ | refine S.conv ?_ | refine S.shr1 ?_ | refine S.neg ?_ | refine S.not ?_ | refine S.extract ?_ | refine S.len ?_ | refine S.fld ?_ | refine S.index ?_ | refine S.skp ?_ | refine S.sliceTo ?_ | refine S.sliceFrom ?_ | refine S.eqNil ?_ | refine S.eqbT ?_ | refine S.nebF ?_ | refine S.eqb ?_ | refine S.neb ?_)
 | (with_reducible first | refine S.nc ?_ | refine S.fld ?_ (h1 := fHeapL) | refine S.fld ?_ (h1 := fHeapM) | refine S.fld ?_ (h1 := fQueueH) | refine S.eqP ?_ | refine S.neP ?_ | refine S.quo ?_ | refine S.mkP ?_)
 | ((with_reducible apply CW.cond_true); exact rfl)
 | ((with_reducible apply CW.cond_false); exact rfl)
 | ((with_reducible apply Fin.blk_far); exact rfl))
  refine S.cl (op_call ent38 (by rfl) (by rfl)) (by rfl) (by rfl) (qHas_calls B b0 O A id w1 h1) ?_
  rintro _ w2 ⟨rfl, rfl⟩
  repeat (first
 | (with_reducible first
 | apply CW.seq | apply CW.region | apply CW.block | apply CW.ret | apply CW.skip | apply CW.label | apply CW.exit
 | apply W.nil | apply Fin.seq | apply Fin.then_ret | apply Fin.then_exit | apply Fin.blk_ret | apply Fin.blk_normal | apply Fin.blk_here)
 | (with_reducible first | refine S.move ?_ | refine S.assign ?_ | refine S.pickT ?_ | refine S.pickF ?_ | refine S.lss ?_ | refine S.gtr ?_ | refine S.leq ?_ | refine S.geq ?_ | refine S.eqT ?_ | refine S.neF ?_ | refine S.eql ?_ | refine S.neq ?_ | refine S.add ?_ | refine S.sub ?_ | refine S.mul ?_ | refine S.conv ?_ | refine S.shr1 ?_ | refine S.neg ?_ | refine S.not ?_ | refine S.extract ?_ | refine S.len ?_ | refine S.fld ?_ | refine S.index ?_ | refine S.skp ?_ | refine S.sliceTo ?_ | refine S.sliceFrom ?_ | refine S.eqNil ?_ | refine S.eqbT ?_ | refine S.nebF ?_ | refine S.eqb ?_ | refine S.neb ?_)
 | (with_reducible first | refine S.nc ?_ | refine S.fld ?_ (h1 := fHeapL) | refine S.fld ?_ (h1 := fHeapM) | refine S.fld ?_ (h1 := fQueueH) | refine S.eqP ?_ | refine S.neP ?_ | refine S.quo ?_ | refine S.mkP ?_)
 | ((with_reducible apply CW.cond_true); exact rfl)
 | ((with_reducible apply CW.cond_false); exact rfl)
 | ((with_reducible apply Fin.blk_far); exact rfl))
  refine CW.cond (by rfl) (fun hc => ?_) (fun hc => ?_)
  · have hno : hasA A id = false := by simpa using hc
    have hall : ∀ a ∈ A, ¬ (a.1.id == id) = true := fun a ha he => by
      have : hasA A id = true := List.any_eq_true.2 ⟨a, ha, he⟩
      rw [hno] at this
      cases this
    have hfind : (A.find? fun a => a.1.id == id) = none := List.find?_eq_none.2 hall
    have hdrop : dropA A id = A := List.filter_eq_self.2 fun a ha => by
      have := hall a ha
      simpa using this
    repeat (first
 | (with_reducible first
 | apply CW.seq | apply CW.region | apply CW.block | apply CW.ret | apply CW.skip | apply CW.label | apply CW.exit
 | apply W.nil | apply Fin.seq | apply Fin.then_ret | apply Fin.then_exit | apply Fin.blk_ret | apply Fin.blk_normal | apply Fin.blk_here)
 | (with_reducible first | refine S.move ?_ | refine S.assign ?_ | refine S.pickT ?_ | refine S.pickF ?_ | refine S.lss ?_ | refine S.gtr ?_ | refine S.leq ?_ | refine S.geq ?_ | refine S.eqT ?_ | refine S.neF ?_ | refine S.eql ?_ | refine S.neq ?_ | refine S.add ?_ | refine S.sub ?_ | refine S.mul ?_ | refine S.conv ?_ | refine S.shr1 ?_ | refine S.neg ?_ | refine S.not ?_ | refine S.extract ?_ | refine S.len ?_ | refine S.fld ?_ | refine S.index ?_ | refine S.skp ?_ | refine S.sliceTo ?_ | refine S.sliceFrom ?_ | refine S.eqNil ?_ | refine S.eqbT ?_ | refine S.nebF ?_ | refine S.eqb ?_ | refine S.neb ?_)
 | (with_reducible first | refine S.nc ?_ | refine S.fld ?_ (h1 := fHeapL) | refine S.fld ?_ (h1 := fHeapM) | refine S.fld ?_ (h1 := fQueueH) | refine S.eqP ?_ | refine S.neP ?_ | refine S.quo ?_ | refine S.mkP ?_)
 | ((with_reducible apply CW.cond_true); exact rfl)
 | ((with_reducible apply CW.cond_false); exact rfl)
 | ((with_reducible apply Fin.blk_far); exact rfl))
    refine W.pure (d := some 10) (v := PV.zero.v) (op_build (by rfl) built_pod0) (by rfl) (by rfl) ?_
    refine S.stB (vs := PV.zero.cs) (by rfl) (by rfl) rfl hB2 rfl szPod9 (PV.one _) (by rfl) ?_
    intro w3 hg3 hB3
    repeat (first
 | (with_reducible first
 | apply CW.seq | apply CW.region | apply CW.block | apply CW.ret | apply CW.skip | apply CW.label | apply CW.exit
 | apply W.nil | apply Fin.seq | apply Fin.then_ret | apply Fin.then_exit | apply Fin.blk_ret | apply Fin.blk_normal | apply Fin.blk_here)
 | (with_reducible first | refine S.move ?_ | refine S.assign ?_ | refine S.pickT ?_ | refine S.pickF ?_ | refine S.lss ?_ | refine S.gtr ?_ | refine S.leq ?_ | refine S.geq ?_ | refine S.eqT ?_ | refine S.neF ?_ | refine S.eql ?_ | refine S.neq ?_ | refine S.add ?_ | refine S.sub ?_ | refine S.mul ?_ | refine S.conv ?_ | refine S.shr1 ?_ | refine S.neg ?_ | refine S.not ?_ | refine S.extract ?_ | refine S.len ?_ | refine S.fld ?_ | refine S.index ?_ | refine S.skp ?_ | refine S.sliceTo ?_ | refine S.sliceFrom ?_ | refine S.eqNil ?_ | refine S.eqbT ?_ | refine S.nebF ?_ | refine S.eqb ?_ | refine S.neb ?_)
 | (with_reducible first | refine S.nc ?_ | refine S.fld ?_ (h1 := fHeapL) | refine S.fld ?_ (h1 := fHeapM) | refine S.fld ?_ (h1 := fQueueH) | refine S.eqP ?_ | refine S.neP ?_ | refine S.quo ?_ | refine S.mkP ?_)
 | ((with_reducible apply CW.cond_true); exact rfl)
 | ((with_reducible apply CW.cond_false); exact rfl)
 | ((with_reducible apply Fin.blk_far); exact rfl))
    refine R.c2 rfl (by rfl) (by rfl) hB3 stPod ⟨?_, ?_, (FO.of_x hx1).g hg3 hb2⟩
    · rw [hno, hfind]
      exact ⟨PV.zero, rfl, RK.zero _ _, rfl⟩
    · rw [hdrop]; exact h1.g hg3 (hbw b2 hb2)
  · have hyes : hasA A id = true := by simpa using hc
    obtain ⟨bm, v, Ds, m, hI, hV⟩ := h1
    have hDl := hI.len hV
    have hms : (m id).isSome = true := by rw [← hyes, ← QV_any (w := w2) hI.pok id, hV]; rfl
    obtain ⟨z, hz⟩ := Option.isSome_iff_exists.1 hms
    obtain ⟨i, hi, rfl, hid⟩ := hI.pok.of_ id z hz
    have hfind := QV_find (w := w2) hI.pok hi hid
    rw [hV] at hfind
    repeat (first
 | (with_reducible first
 | apply CW.seq | apply CW.region | apply CW.block | apply CW.ret | apply CW.skip | apply CW.label | apply CW.exit
 | apply W.nil | apply Fin.seq | apply Fin.then_ret | apply Fin.then_exit | apply Fin.blk_ret | apply Fin.blk_normal | apply Fin.blk_here)
 | (with_reducible first | refine S.move ?_ | refine S.assign ?_ | refine S.pickT ?_ | refine S.pickF ?_ | refine S.lss ?_ | refine S.gtr ?_ | refine S.leq ?_ | refine S.geq ?_ | refine S.eqT ?_ | refine S.neF ?_ | refine S.eql ?_ | refine S.neq ?_ | refine S.add ?_ | refine S.sub ?_ | refine S.mul ?_ | refine S.conv ?_ | refine S.shr1 ?_ | refine S.neg ?_ | refine S.not ?_ | refine S.extract ?_ | refine S.len ?_ | refine S.fld ?_ | refine S.index ?_ | refine S.skp ?_ | refine S.sliceTo ?_ | refine S.sliceFrom ?_ | refine S.eqNil ?_ | refine S.eqbT ?_ | refine S.nebF ?_ | refine S.eqb ?_ | refine S.neb ?_)
 | (with_reducible first | refine S.nc ?_ | refine S.fld ?_ (h1 := fHeapL) | refine S.fld ?_ (h1 := fHeapM) | refine S.fld ?_ (h1 := fQueueH) | refine S.eqP ?_ | refine S.neP ?_ | refine S.quo ?_ | refine S.mkP ?_)
 | ((with_reducible apply CW.cond_true); exact rfl)
 | ((with_reducible apply CW.cond_false); exact rfl)
 | ((with_reducible apply Fin.blk_far); exact rfl))
    ((with_reducible apply S.ld); exact rfl; (with_reducible first | exact oneInt | exact oneI64s | exact oneBool | exact oneI64 | exact onePods | exact oneMap); (exact hI.qs.cm); exact rfl; exact rfl)
    repeat (first
 | (with_reducible first
 | apply CW.seq | apply CW.region | apply CW.block | apply CW.ret | apply CW.skip | apply CW.label | apply CW.exit
 | apply W.nil | apply Fin.seq | apply Fin.then_ret | apply Fin.then_exit | apply Fin.blk_ret | apply Fin.blk_normal | apply Fin.blk_here)
 | (with_reducible first | refine S.move ?_ | refine S.assign ?_ | refine S.pickT ?_ | refine S.pickF ?_ | refine S.lss ?_ | refine S.gtr ?_ | refine S.leq ?_ | refine S.geq ?_ | refine S.eqT ?_ | refine S.neF ?_ | refine S.eql ?_ | refine S.neq ?_ | refine S.add ?_ | refine S.sub ?_ | refine S.mul ?_ | refine S.conv ?_ | refine S.shr1 ?_ | refine S.neg ?_ | refine S.not ?_ | refine S.extract ?_ | refine S.len ?_ | refine S.fld ?_ | refine S.index ?_ | refine S.skp ?_ | refine S.sliceTo ?_ | refine S.sliceFrom ?_ | refine S.eqNil ?_ | refine S.eqbT ?_ | refine S.nebF ?_ | refine S.eqb ?_ | refine S.neb ?_)
 | (with_reducible first | refine S.nc ?_ | refine S.fld ?_ (h1 := fHeapL) | refine S.fld ?_ (h1 := fHeapM) | refine S.fld ?_ (h1 := fQueueH) | refine S.eqP ?_ | refine S.neP ?_ | refine S.quo ?_ | refine S.mkP ?_)
 | ((with_reducible apply CW.cond_true); exact rfl)
 | ((with_reducible apply CW.cond_false); exact rfl)
 | ((with_reducible apply Fin.blk_far); exact rfl))
    obtain ⟨M, clock, hM, hMo⟩ := hI.qs.map
    refine S.lookup1 Try.underlying65 Try.underlying3 zeroInt (by rfl) (by rfl) hM hMo (by rfl) (by rfl) ?_
    rw [hz]
    refine S.cl (op_call ent51 (by rfl) (by rfl)) (by rfl) (by rfl) (take_calls B b0 bm v Ds m O i w2 hI hi (by omega) rfl) ?_
    rintro _ w3 ⟨rfl, hrk3, hab3, hF3, A', hA3, hV3, _⟩
    rw [hV, hid] at hV3
    subst hV3
    have hB3 := hF3.blk hB2 (hbw b2 hb2)
    repeat (first
 | (with_reducible first
 | apply CW.seq | apply CW.region | apply CW.block | apply CW.ret | apply CW.skip | apply CW.label | apply CW.exit
 | apply W.nil | apply Fin.seq | apply Fin.then_ret | apply Fin.then_exit | apply Fin.blk_ret | apply Fin.blk_normal | apply Fin.blk_here)
 | (with_reducible first | refine S.move ?_ | refine S.assign ?_ | refine S.pickT ?_ | refine S.pickF ?_ | refine S.lss ?_ | refine S.gtr ?_ | refine S.leq ?_ | refine S.geq ?_ | refine S.eqT ?_ | refine S.neF ?_ | refine S.eql ?_ | refine S.neq ?_ | refine S.add ?_ | refine S.sub ?_ | refine S.mul ?_ | refine S.conv ?_ | refine S.shr1 ?_ | refine S.neg ?_ | refine S.not ?_ | refine S.extract ?_ | refine S.len ?_ | refine S.fld ?_ | refine S.index ?_ | refine S.skp ?_ | refine S.sliceTo ?_ | refine S.sliceFrom ?_ | refine S.eqNil ?_ | refine S.eqbT ?_ | refine S.nebF ?_ | refine S.eqb ?_ | refine S.neb ?_)
 | (with_reducible first | refine S.nc ?_ | refine S.fld ?_ (h1 := fHeapL) | refine S.fld ?_ (h1 := fHeapM) | refine S.fld ?_ (h1 := fQueueH) | refine S.eqP ?_ | refine S.neP ?_ | refine S.quo ?_ | refine S.mkP ?_)
 | ((with_reducible apply CW.cond_true); exact rfl)
 | ((with_reducible apply CW.cond_false); exact rfl)
 | ((with_reducible apply Fin.blk_far); exact rfl))
    refine S.stB (vs := (at_ Ds i).cs) (by rfl) (by rfl) rfl hB3 rfl szPod9 (PV.one _) (by rfl) ?_
    intro w4 hg4 hB4
    obtain ⟨hrk4, hab4⟩ := hrk3.g hg4 (hbw b2 hb2)
    repeat (first
 | (with_reducible first
 | apply CW.seq | apply CW.region | apply CW.block | apply CW.ret | apply CW.skip | apply CW.label | apply CW.exit
 | apply W.nil | apply Fin.seq | apply Fin.then_ret | apply Fin.then_exit | apply Fin.blk_ret | apply Fin.blk_normal | apply Fin.blk_here)
 | (with_reducible first | refine S.move ?_ | refine S.assign ?_ | refine S.pickT ?_ | refine S.pickF ?_ | refine S.lss ?_ | refine S.gtr ?_ | refine S.leq ?_ | refine S.geq ?_ | refine S.eqT ?_ | refine S.neF ?_ | refine S.eql ?_ | refine S.neq ?_ | refine S.add ?_ | refine S.sub ?_ | refine S.mul ?_ | refine S.conv ?_ | refine S.shr1 ?_ | refine S.neg ?_ | refine S.not ?_ | refine S.extract ?_ | refine S.len ?_ | refine S.fld ?_ | refine S.index ?_ | refine S.skp ?_ | refine S.sliceTo ?_ | refine S.sliceFrom ?_ | refine S.eqNil ?_ | refine S.eqbT ?_ | refine S.nebF ?_ | refine S.eqb ?_ | refine S.neb ?_)
 | (with_reducible first | refine S.nc ?_ | refine S.fld ?_ (h1 := fHeapL) | refine S.fld ?_ (h1 := fHeapM) | refine S.fld ?_ (h1 := fQueueH) | refine S.eqP ?_ | refine S.neP ?_ | refine S.quo ?_ | refine S.mkP ?_)
 | ((with_reducible apply CW.cond_true); exact rfl)
 | ((with_reducible apply CW.cond_false); exact rfl)
 | ((with_reducible apply Fin.blk_far); exact rfl))
    refine R.c2 rfl (by rfl) (by rfl) hB4 stPod ⟨?_, hA3.g hg4 (hbw b2 hb2), ((FO.of_x hx1).trans hF3).g hg4 hb2⟩
    rw [hyes, hfind]
    exact ⟨at_ Ds i, rfl, hrk4, hab4.trans hab3⟩

end Go.Proofs.Ytmilpjkjcanghaa

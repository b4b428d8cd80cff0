/- container/heap: Push and Remove. -/
import Derived.Test.YtmilpjkjcanghaaQ4
namespace Go.Proofs.Ytmilpjkjcanghaa
open Go.RowKit
set_option linter.unusedVariables false
set_option linter.unusedSimpArgs false

theorem at_app {L : List PV} {p : PV} {i : Nat} (hi : i < L.length) : at_ (L ++ [p]) i = at_ L i := by
  unfold at_
  rw [List.getD_eq_getElem?_getD, List.getD_eq_getElem?_getD, List.getElem?_append_left hi]
theorem at_last (L : List PV) (p : PV) : at_ (L ++ [p]) L.length = p := by
  unfold at_
  rw [List.getD_eq_getElem?_getD, List.getElem?_append_right (Nat.le_refl _), Nat.sub_self]; rfl

theorem heap_up {L : List PV} (h : Heap L.length L) (p : PV) : UpInv (L ++ [p]).length (L ++ [p]) L.length := by
  have hlen : (L ++ [p]).length = L.length + 1 := by simp
  refine ⟨fun k hk hkn hne => ?_, fun k hk hkn hpk h0 => ?_⟩
  · have hp : par k < L.length := by unfold par; omega
    unfold leA
    rw [at_app hp, at_app (by omega)]
    exact h k hk (by omega)
  · unfold par at hpk; omega

theorem heapPush_calls (B b0 bm : Nat) (v : Value) (Ds : List PV) (m : Int → Option Int) (p : PV) (w : World) (h : QS w B b0 bm v Ds m) (hP : POk Ds m) (hH : Heap Ds.length Ds) (hp : m p.id = none) (hB : B ≤ w.heap.size) (hl : Ds.length + 1 ≤ 1000) :
    CallsR Try.prog 49 [.iface 71 (.pointer (some ⟨b0, 0, none⟩)), .iface 25 p.v] w fun _ w' => ∃ v' Es m', QS w' B b0 bm v' Es m' ∧ QF b0 bm v w w' ∧ (v'.ownBlock = v.ownBlock ∨ ∀ i, v'.ownBlock = some i → w.heap.size ≤ i) ∧ POk Es m' ∧ Heap Es.length Es ∧ Es.length = Ds.length + 1 ∧ ∀ x, x ∈ Es ↔ x ∈ Ds ++ [p] := by
  refine enter2 Try.func49 rfl Try.ntmps49 rfl ?_
  repeat (first
 | (with_reducible first
 | apply CW.seq | apply CW.region | apply CW.block | apply CW.ret | apply CW.skip | apply CW.label | apply CW.exit
 | apply W.nil | apply Fin.seq | apply Fin.then_ret | apply Fin.then_exit | apply Fin.blk_ret | apply Fin.blk_normal | apply Fin.blk_here)
 | (with_reducible first | refine S.move ?_ | refine S.assign ?_ | refine S.pickT ?_ | refine S.pickF ?_ | refine S.lss ?_ | refine S.gtr ?_ | refine S.leq ?_ | refine S.geq ?_ | refine S.eqT ?_ | refine S.neF ?_ | refine S.eql ?_ | refine S.neq ?_ | refine S.add ?_ | refine S.sub ?_ | refine S.mul ?_ | refine S.conv ?_ | refine S.shr1 ?_ | refine S.neg ?_ | refine S.not ?_ | refine S.extract ?_ | refine S.len ?_ | refine S.fld ?_ | refine S.index ?_ | refine S.skp ?_ | refine S.sliceTo ?_ | refine S.sliceFrom ?_ | refine S.eqNil ?_ | refine S.eqbT ?_ | refine S.nebF ?_ | refine S.eqb ?_ | refine S.neb ?_)
 | (with_reducible first | refine S.nc ?_ | refine S.fld ?_ (h1 := fHeapL) | refine S.fld ?_ (h1 := fHeapM) | refine S.fld ?_ (h1 := fQueueH) | refine S.eqP ?_ | refine S.neP ?_ | refine S.quo ?_ | refine S.mkP ?_)
 | ((with_reducible apply CW.cond_true); exact rfl)
 | ((with_reducible apply CW.cond_false); exact rfl)
 | ((with_reducible apply Fin.blk_far); exact rfl))
  refine S.cl (op_invoke (f := 83) (fun w => meth_Push _ _ w) (by rfl) (by rfl)) (by rfl) (by rfl) (pPush_calls B b0 bm v Ds m p w h hB hl) ?_
  rintro _ w1 ⟨v1, h1, hf1, hv1⟩
  have hlen : (Ds ++ [p]).length = Ds.length + 1 := by simp
  repeat (first
 | (with_reducible first
 | apply CW.seq | apply CW.region | apply CW.block | apply CW.ret | apply CW.skip | apply CW.label | apply CW.exit
 | apply W.nil | apply Fin.seq | apply Fin.then_ret | apply Fin.then_exit | apply Fin.blk_ret | apply Fin.blk_normal | apply Fin.blk_here)
 | (with_reducible first | refine S.move ?_ | refine S.assign ?_ | refine S.pickT ?_ | refine S.pickF ?_ | refine S.lss ?_ | refine S.gtr ?_ | refine S.leq ?_ | refine S.geq ?_ | refine S.eqT ?_ | refine S.neF ?_ | refine S.eql ?_ | refine S.neq ?_ | refine S.add ?_ | refine S.sub ?_ | refine S.mul ?_ | refine S.conv ?_ | refine S.shr1 ?_ | refine S.neg ?_ | refine S.not ?_ | refine S.extract ?_ | refine S.len ?_ | refine S.fld ?_ | refine S.index ?_ | refine S.skp ?_ | refine S.sliceTo ?_ | refine S.sliceFrom ?_ | refine S.eqNil ?_ | refine S.eqbT ?_ | refine S.nebF ?_ | refine S.eqb ?_ | refine S.neb ?_)
 | (with_reducible first | refine S.nc ?_ | refine S.fld ?_ (h1 := fHeapL) | refine S.fld ?_ (h1 := fHeapM) | refine S.fld ?_ (h1 := fQueueH) | refine S.eqP ?_ | refine S.neP ?_ | refine S.quo ?_ | refine S.mkP ?_)
 | ((with_reducible apply CW.cond_true); exact rfl)
 | ((with_reducible apply CW.cond_false); exact rfl)
 | ((with_reducible apply Fin.blk_far); exact rfl))
  refine S.cl (op_invoke (f := 52) (fun w => meth_Len _ w) (by rfl) (by rfl)) (by rfl) (by rfl) (pLen_calls B b0 bm v1 _ _ w1 h1) ?_
  rintro _ w2 ⟨rfl, rfl⟩
  repeat (first
 | (with_reducible first
 | apply CW.seq | apply CW.region | apply CW.block | apply CW.ret | apply CW.skip | apply CW.label | apply CW.exit
 | apply W.nil | apply Fin.seq | apply Fin.then_ret | apply Fin.then_exit | apply Fin.blk_ret | apply Fin.blk_normal | apply Fin.blk_here)
 | (with_reducible first | refine S.move ?_ | refine S.assign ?_ | refine S.pickT ?_ | refine S.pickF ?_ | refine S.lss ?_ | refine S.gtr ?_ | refine S.leq ?_ | refine S.geq ?_ | refine S.eqT ?_ | refine S.neF ?_ | refine S.eql ?_ | refine S.neq ?_ | refine S.add ?_ | refine S.sub ?_ | refine S.mul ?_ | refine S.conv ?_ | refine S.shr1 ?_ | refine S.neg ?_ | refine S.not ?_ | refine S.extract ?_ | refine S.len ?_ | refine S.fld ?_ | refine S.index ?_ | refine S.skp ?_ | refine S.sliceTo ?_ | refine S.sliceFrom ?_ | refine S.eqNil ?_ | refine S.eqbT ?_ | refine S.nebF ?_ | refine S.eqb ?_ | refine S.neb ?_)
 | (with_reducible first | refine S.nc ?_ | refine S.fld ?_ (h1 := fHeapL) | refine S.fld ?_ (h1 := fHeapM) | refine S.fld ?_ (h1 := fQueueH) | refine S.eqP ?_ | refine S.neP ?_ | refine S.quo ?_ | refine S.mkP ?_)
 | ((with_reducible apply CW.cond_true); exact rfl)
 | ((with_reducible apply CW.cond_false); exact rfl)
 | ((with_reducible apply Fin.blk_far); exact rfl))
  refine S.cl (op_call ent57 (by rfl) (by rfl)) (by rfl) (by rfl) (up_calls B b0 bm v1 (Ds ++ [p]) _ (Ds ++ [p]).length Ds.length w2 h1 (hP.add hp) (heap_up hH p) (by omega) (Nat.le_refl _) (by omega) (by omega)) ?_
  rintro _ w3 ⟨Es, m', h3, hf3, hP3, hH3, hS3⟩
  repeat (first
 | (with_reducible first
 | apply CW.seq | apply CW.region | apply CW.block | apply CW.ret | apply CW.skip | apply CW.label | apply CW.exit
 | apply W.nil | apply Fin.seq | apply Fin.then_ret | apply Fin.then_exit | apply Fin.blk_ret | apply Fin.blk_normal | apply Fin.blk_here)
 | (with_reducible first | refine S.move ?_ | refine S.assign ?_ | refine S.pickT ?_ | refine S.pickF ?_ | refine S.lss ?_ | refine S.gtr ?_ | refine S.leq ?_ | refine S.geq ?_ | refine S.eqT ?_ | refine S.neF ?_ | refine S.eql ?_ | refine S.neq ?_ | refine S.add ?_ | refine S.sub ?_ | refine S.mul ?_ | refine S.conv ?_ | refine S.shr1 ?_ | refine S.neg ?_ | refine S.not ?_ | refine S.extract ?_ | refine S.len ?_ | refine S.fld ?_ | refine S.index ?_ | refine S.skp ?_ | refine S.sliceTo ?_ | refine S.sliceFrom ?_ | refine S.eqNil ?_ | refine S.eqbT ?_ | refine S.nebF ?_ | refine S.eqb ?_ | refine S.neb ?_)
 | (with_reducible first | refine S.nc ?_ | refine S.fld ?_ (h1 := fHeapL) | refine S.fld ?_ (h1 := fHeapM) | refine S.fld ?_ (h1 := fQueueH) | refine S.eqP ?_ | refine S.neP ?_ | refine S.quo ?_ | refine S.mkP ?_)
 | ((with_reducible apply CW.cond_true); exact rfl)
 | ((with_reducible apply CW.cond_false); exact rfl)
 | ((with_reducible apply Fin.blk_far); exact rfl))
  (with_reducible first | apply R.r0 | apply R.e0); exact rfl
  refine ⟨v1, Es, m', h3, hf1.trans hf3 hv1, hv1, hP3, ?_, hS3.1.trans hlen, hS3.2.1⟩
  rw [hS3.1]; exact hH3

theorem split_last {L : List PV} {n : Nat} (h : L.length = n + 1) : L = L.take n ++ [at_ L n] := by
  have h1 : n < L.length := by omega
  unfold at_
  rw [getD_at h1, List.take_append_getElem h1, List.take_of_length_le (by omega)]
theorem heap_take {L : List PV} {n : Nat} (hl : n ≤ L.length) (h : Heap n L) : Heap (L.take n).length (L.take n) := by
  have e : (L.take n).length = n := by rw [List.length_take]; omega
  rw [e]
  have ha : ∀ k, k < n → at_ (L.take n) k = at_ L k := fun k hk => by
    unfold at_
    rw [List.getD_eq_getElem?_getD, List.getD_eq_getElem?_getD, List.getElem?_take_of_lt hk]
  intro k hk hkn
  unfold leA
  rw [ha k hkn, ha (par k) (by unfold par; omega)]
  exact h k hk hkn
theorem heap_down {L : List PV} {n i : Nat} (hl : L.length = n + 1) (h : Heap (n + 1) L) (hi : i < n) : DownInv n (swapAt L i n) i i := by
  have hil : i < L.length := by omega
  have hnl : n < L.length := by omega
  have ha : ∀ k, k < n → k ≠ i → at_ (swapAt L i n) k = at_ L k := fun k hk hne => by rw [swapAt_at hil hnl, if_neg (by omega), if_neg hne]
  refine ⟨fun k hk hkn hpk hne => ?_, fun k hk hkn hpk h0 => ?_, Nat.le_refl _⟩
  · unfold leA
    rw [ha k hkn (hne rfl), ha (par k) (by unfold par; omega) hpk]
    exact h k hk (by omega)
  · have hki : k ≠ i := by unfold par at hpk; omega
    have hpi : par i < i := by unfold par; omega
    unfold leA
    rw [ha k hkn hki, ha (par i) (by omega) (by omega)]
    have h1 := h k hk (by omega)
    rw [hpk] at h1
    exact leP.trans (h i h0 (by omega)) h1

set_option maxHeartbeats 1000000 in
theorem heapRemove_calls (B b0 bm : Nat) (v : Value) (Ds : List PV) (m : Int → Option Int) (n i : Nat) (w : World) (h : QS w B b0 bm v Ds m) (hP : POk Ds m) (hH : Heap Ds.length Ds) (hn : Ds.length = n + 1) (hi : i ≤ n) (hl : Ds.length ≤ 1000) {a1 : Int} (e1 : a1 = (i : Int)) :
    CallsR Try.prog 59 [.iface 71 (.pointer (some ⟨b0, 0, none⟩)), .int .i64 a1] w fun u w' => u = .iface 25 (at_ Ds i).v ∧ ∃ v' Es m', QS w' B b0 bm v' Es m' ∧ QF b0 bm v w w' ∧ v'.ownBlock = v.ownBlock ∧ POk Es m' ∧ Heap Es.length Es ∧ Es.length = n ∧ POk (Es ++ [at_ Ds i]) (updM m' (at_ Ds i).id (some (n : Int))) ∧ ∀ x, x ∈ Es ++ [at_ Ds i] ↔ x ∈ Ds := by
  subst e1
  have hil : i < Ds.length := by omega
  have hnl : n < Ds.length := by omega
  refine enter2 Try.func59 rfl Try.ntmps59 rfl ?_
  repeat (first
 | (with_reducible first
 | apply CW.seq | apply CW.region | apply CW.block | apply CW.ret | apply CW.skip | apply CW.label | apply CW.exit
 | apply W.nil | apply Fin.seq | apply Fin.then_ret | apply Fin.then_exit | apply Fin.blk_ret | apply Fin.blk_normal | apply Fin.blk_here)
 | (with_reducible first | refine S.move ?_ | refine S.assign ?_ | refine S.pickT ?_ | refine S.pickF ?_ | refine S.lss ?_ | refine S.gtr ?_ | refine S.leq ?_ | refine S.geq ?_ | refine S.eqT ?_ | refine S.neF ?_ | refine S.eql ?_ | refine S.neq ?_ | refine S.add ?_ | refine S.sub ?_ | refine S.mul ?_ | refine S.conv ?_ | refine S.shr1 ?_ | refine S.neg ?_ | refine S.not ?_ | refine S.extract ?_ | refine S.len ?_ | refine S.fld ?_ | refine S.index ?_ | refine S.skp ?_ | refine S.sliceTo ?_ | refine S.sliceFrom ?_ | refine S.eqNil ?_ | refine S.eqbT ?_ | refine S.nebF ?_ | refine S.eqb ?_ | refine S.neb ?_)
 | (with_reducible first | refine S.nc ?_ | refine S.fld ?_ (h1 := fHeapL) | refine S.fld ?_ (h1 := fHeapM) | refine S.fld ?_ (h1 := fQueueH) | refine S.eqP ?_ | refine S.neP ?_ | refine S.quo ?_ | refine S.mkP ?_)
 | ((with_reducible apply CW.cond_true); exact rfl)
 | ((with_reducible apply CW.cond_false); exact rfl)
 | ((with_reducible apply Fin.blk_far); exact rfl))
  refine S.cl (op_invoke (f := 52) (fun w => meth_Len _ w) (by rfl) (by rfl)) (by rfl) (by rfl) (pLen_calls B b0 bm v _ _ w h) ?_
  rintro _ w1 ⟨rfl, rfl⟩
  repeat (first
 | (with_reducible first
 | apply CW.region | apply CW.block | apply CW.ret | apply CW.skip | apply CW.label | apply CW.exit
 | apply W.nil | apply Fin.seq | apply Fin.then_ret | apply Fin.then_exit | apply Fin.blk_ret | apply Fin.blk_normal | apply Fin.blk_here)
 | (with_reducible first | refine S.move ?_ | refine S.assign ?_ | refine S.pickT ?_ | refine S.pickF ?_ | refine S.lss ?_ | refine S.gtr ?_ | refine S.leq ?_ | refine S.geq ?_ | refine S.eqT ?_ | refine S.neF ?_ | refine S.eql ?_ | refine S.neq ?_ | refine S.add ?_ | refine S.sub ?_ | refine S.mul ?_ | refine S.conv ?_ | refine S.shr1 ?_ | refine S.neg ?_ | refine S.not ?_ | refine S.extract ?_ | refine S.len ?_ | refine S.fld ?_ | refine S.index ?_ | refine S.skp ?_ | refine S.sliceTo ?_ | refine S.sliceFrom ?_ | refine S.eqNil ?_ | refine S.eqbT ?_ | refine S.nebF ?_ | refine S.eqb ?_ | refine S.neb ?_)
 | (with_reducible first | refine S.nc ?_ | refine S.fld ?_ (h1 := fHeapL) | refine S.fld ?_ (h1 := fHeapM) | refine S.fld ?_ (h1 := fQueueH) | refine S.eqP ?_ | refine S.neP ?_ | refine S.quo ?_ | refine S.mkP ?_)
 | ((with_reducible apply CW.cond_true); exact rfl)
 | ((with_reducible apply CW.cond_false); exact rfl)
 | ((with_reducible apply Fin.blk_far); exact rfl))
  refine CW.seq (CW.mid (ι := List PV × (Int → Option Int)) (fun _ => [(0, .iface 71 (.pointer (some ⟨b0, 0, none⟩)))]) (fun k w' => QS w' B b0 bm v k.1 k.2 ∧ QF b0 bm v w1 w' ∧ POk k.1 k.2 ∧ Heap n k.1 ∧ k.1.length = n + 1 ∧ at_ k.1 n = at_ Ds i ∧ ∀ x, x ∈ k.1 ↔ x ∈ Ds) ?_ ?_)
  · repeat (first
 | (with_reducible first
 | apply CW.seq | apply CW.region | apply CW.block | apply CW.ret | apply CW.skip | apply CW.label | apply CW.exit
 | apply W.nil | apply Fin.seq | apply Fin.then_ret | apply Fin.then_exit | apply Fin.blk_ret | apply Fin.blk_normal | apply Fin.blk_here)
 | (with_reducible first | refine S.move ?_ | refine S.assign ?_ | refine S.pickT ?_ | refine S.pickF ?_ | refine S.lss ?_ | refine S.gtr ?_ | refine S.leq ?_ | refine S.geq ?_ | refine S.eqT ?_ | refine S.neF ?_ | refine S.eql ?_ | refine S.neq ?_ | refine S.add ?_ | refine S.sub ?_ | refine S.mul ?_ | refine S.conv ?_ | refine S.shr1 ?_ | refine S.neg ?_ | refine S.not ?_ | refine S.extract ?_ | refine S.len ?_ | refine S.fld ?_ | refine S.index ?_ | refine S.skp ?_ | refine S.sliceTo ?_ | refine S.sliceFrom ?_ | refine S.eqNil ?_ | refine S.eqbT ?_ | refine S.nebF ?_ | refine S.eqb ?_ | refine S.neb ?_)
 | (with_reducible first | refine S.nc ?_ | refine S.fld ?_ (h1 := fHeapL) | refine S.fld ?_ (h1 := fHeapM) | refine S.fld ?_ (h1 := fQueueH) | refine S.eqP ?_ | refine S.neP ?_ | refine S.quo ?_ | refine S.mkP ?_)
 | ((with_reducible apply CW.cond_true); exact rfl)
 | ((with_reducible apply CW.cond_false); exact rfl)
 | ((with_reducible apply Fin.blk_far); exact rfl))
    refine CW.cond (by rfl) (fun hc => ?_) (fun hc => ?_)
    · have hc : i < n := by
        have := of_decide_eq_true hc
        rcases Nat.lt_or_ge i n with h1 | h1
        · exact h1
        · exact absurd (by omega) this
      have hsl := swapAt_len Ds i n
      have hlast : at_ (swapAt Ds i n) n = at_ Ds i := by rw [swapAt_at hil hnl, if_pos rfl]
      repeat (first
 | (with_reducible first
 | apply CW.seq | apply CW.region | apply CW.block | apply CW.ret | apply CW.skip | apply CW.label | apply CW.exit
 | apply W.nil | apply Fin.seq | apply Fin.then_ret | apply Fin.then_exit | apply Fin.blk_ret | apply Fin.blk_normal | apply Fin.blk_here)
 | (with_reducible first | refine S.move ?_ | refine S.assign ?_ | refine S.pickT ?_ | refine S.pickF ?_ | refine S.lss ?_ | refine S.gtr ?_ | refine S.leq ?_ | refine S.geq ?_ | refine S.eqT ?_ | refine S.neF ?_ | refine S.eql ?_ | refine S.neq ?_ | refine S.add ?_ | refine S.sub ?_ | refine S.mul ?_ | refine S.conv ?_ | refine S.shr1 ?_ | refine S.neg ?_ | refine S.not ?_ | refine S.extract ?_ | refine S.len ?_ | refine S.fld ?_ | refine S.index ?_ | refine S.skp ?_ | refine S.sliceTo ?_ | refine S.sliceFrom ?_ | refine S.eqNil ?_ | refine S.eqbT ?_ | refine S.nebF ?_ | refine S.eqb ?_ | refine S.neb ?_)
 | (with_reducible first | refine S.nc ?_ | refine S.fld ?_ (h1 := fHeapL) | refine S.fld ?_ (h1 := fHeapM) | refine S.fld ?_ (h1 := fQueueH) | refine S.eqP ?_ | refine S.neP ?_ | refine S.quo ?_ | refine S.mkP ?_)
 | ((with_reducible apply CW.cond_true); exact rfl)
 | ((with_reducible apply CW.cond_false); exact rfl)
 | ((with_reducible apply Fin.blk_far); exact rfl))
      refine S.cl (op_invoke (f := 84) (fun w => meth_Swap _ _ _ w) (by rfl) (by rfl)) (by rfl) (by rfl) (pSwap_calls B b0 bm v Ds m w1 h i n hil hnl (hP.some_ hil) (hP.some_ hnl) rfl (by omega)) ?_
      rintro _ w2 ⟨h2, hf2⟩
      have hP2 := hP.swap hil hnl
      have hdn := heap_down hn (by rw [← hn]; exact hH) hc
      generalize updM (updM m (Ds.getD n PV.zero).id (some (i : Int))) (Ds.getD i PV.zero).id (some (n : Int)) = m2 at *
      repeat (first
 | (with_reducible first
 | apply CW.seq | apply CW.region | apply CW.block | apply CW.ret | apply CW.skip | apply CW.label | apply CW.exit
 | apply W.nil | apply Fin.seq | apply Fin.then_ret | apply Fin.then_exit | apply Fin.blk_ret | apply Fin.blk_normal | apply Fin.blk_here)
 | (with_reducible first | refine S.move ?_ | refine S.assign ?_ | refine S.pickT ?_ | refine S.pickF ?_ | refine S.lss ?_ | refine S.gtr ?_ | refine S.leq ?_ | refine S.geq ?_ | refine S.eqT ?_ | refine S.neF ?_ | refine S.eql ?_ | refine S.neq ?_ | refine S.add ?_ | refine S.sub ?_ | refine S.mul ?_ | refine S.conv ?_ | refine S.shr1 ?_ | refine S.neg ?_ | refine S.not ?_ | refine S.extract ?_ | refine S.len ?_ | refine S.fld ?_ | refine S.index ?_ | refine S.skp ?_ | refine S.sliceTo ?_ | refine S.sliceFrom ?_ | refine S.eqNil ?_ | refine S.eqbT ?_ | refine S.nebF ?_ | refine S.eqb ?_ | refine S.neb ?_)
 | (with_reducible first | refine S.nc ?_ | refine S.fld ?_ (h1 := fHeapL) | refine S.fld ?_ (h1 := fHeapM) | refine S.fld ?_ (h1 := fQueueH) | refine S.eqP ?_ | refine S.neP ?_ | refine S.quo ?_ | refine S.mkP ?_)
 | ((with_reducible apply CW.cond_true); exact rfl)
 | ((with_reducible apply CW.cond_false); exact rfl)
 | ((with_reducible apply Fin.blk_far); exact rfl))
      refine S.cl (op_call ent62 (by rfl) (by rfl)) (by rfl) (by rfl) (down_calls B b0 bm v (swapAt Ds i n) m2 n i w2 h2 hP2 hdn hc (by omega) (by omega) rfl (by omega)) ?_
      rintro _ w3 ⟨Fs, m3, bb, rfl, h3, hf3, hP3, hS3, hb1, hb2⟩
      have hf13 := hf2.trans hf3 (.inl rfl)
      have hlF : Fs.length = n + 1 := by rw [hS3.1, hsl, hn]
      have hmF : ∀ x, x ∈ Fs ↔ x ∈ Ds := fun x => (hS3.2.1 x).trans (swapAt_mem hil hnl x)
      have hnF : at_ Fs n = at_ Ds i := (hS3.2.2 n (Nat.le_refl _)).trans hlast
      repeat (first
 | (with_reducible first
 | apply CW.seq | apply CW.region | apply CW.block | apply CW.ret | apply CW.skip | apply CW.label | apply CW.exit
 | apply W.nil | apply Fin.seq | apply Fin.then_ret | apply Fin.then_exit | apply Fin.blk_ret | apply Fin.blk_normal | apply Fin.blk_here)
 | (with_reducible first | refine S.move ?_ | refine S.assign ?_ | refine S.pickT ?_ | refine S.pickF ?_ | refine S.lss ?_ | refine S.gtr ?_ | refine S.leq ?_ | refine S.geq ?_ | refine S.eqT ?_ | refine S.neF ?_ | refine S.eql ?_ | refine S.neq ?_ | refine S.add ?_ | refine S.sub ?_ | refine S.mul ?_ | refine S.conv ?_ | refine S.shr1 ?_ | refine S.neg ?_ | refine S.not ?_ | refine S.extract ?_ | refine S.len ?_ | refine S.fld ?_ | refine S.index ?_ | refine S.skp ?_ | refine S.sliceTo ?_ | refine S.sliceFrom ?_ | refine S.eqNil ?_ | refine S.eqbT ?_ | refine S.nebF ?_ | refine S.eqb ?_ | refine S.neb ?_)
 | (with_reducible first | refine S.nc ?_ | refine S.fld ?_ (h1 := fHeapL) | refine S.fld ?_ (h1 := fHeapM) | refine S.fld ?_ (h1 := fQueueH) | refine S.eqP ?_ | refine S.neP ?_ | refine S.quo ?_ | refine S.mkP ?_)
 | ((with_reducible apply CW.cond_true); exact rfl)
 | ((with_reducible apply CW.cond_false); exact rfl)
 | ((with_reducible apply Fin.blk_far); exact rfl))
      refine CW.cond (by rfl) (fun hb => ?_) (fun hb => ?_)
      · have hb : bb = false := by simpa using hb
        repeat (first
 | (with_reducible first
 | apply CW.seq | apply CW.region | apply CW.block | apply CW.ret | apply CW.skip | apply CW.label | apply CW.exit
 | apply W.nil | apply Fin.seq | apply Fin.then_ret | apply Fin.then_exit | apply Fin.blk_ret | apply Fin.blk_normal | apply Fin.blk_here)
 | (with_reducible first | refine S.move ?_ | refine S.assign ?_ | refine S.pickT ?_ | refine S.pickF ?_ | refine S.lss ?_ | refine S.gtr ?_ | refine S.leq ?_ | refine S.geq ?_ | refine S.eqT ?_ | refine S.neF ?_ | refine S.eql ?_ | refine S.neq ?_ | refine S.add ?_ | refine S.sub ?_ | refine S.mul ?_ | refine S.conv ?_ | refine S.shr1 ?_ | refine S.neg ?_ | refine S.not ?_ | refine S.extract ?_ | refine S.len ?_ | refine S.fld ?_ | refine S.index ?_ | refine S.skp ?_ | refine S.sliceTo ?_ | refine S.sliceFrom ?_ | refine S.eqNil ?_ | refine S.eqbT ?_ | refine S.nebF ?_ | refine S.eqb ?_ | refine S.neb ?_)
 | (with_reducible first | refine S.nc ?_ | refine S.fld ?_ (h1 := fHeapL) | refine S.fld ?_ (h1 := fHeapM) | refine S.fld ?_ (h1 := fQueueH) | refine S.eqP ?_ | refine S.neP ?_ | refine S.quo ?_ | refine S.mkP ?_)
 | ((with_reducible apply CW.cond_true); exact rfl)
 | ((with_reducible apply CW.cond_false); exact rfl)
 | ((with_reducible apply Fin.blk_far); exact rfl))
        refine S.cl (op_call ent57 (by rfl) (by rfl)) (by rfl) (by rfl) (up_calls B b0 bm v Fs m3 n i w3 h3 hP3 (hb2 hb) hc (by omega) (by omega) rfl) ?_
        rintro _ w4 ⟨Gs, m4, h4, hf4, hP4, hH4, hS4⟩
        repeat (first
 | (with_reducible first
 | apply CW.seq | apply CW.region | apply CW.block | apply CW.ret | apply CW.skip | apply CW.label | apply CW.exit
 | apply W.nil | apply Fin.seq | apply Fin.then_ret | apply Fin.then_exit | apply Fin.blk_ret | apply Fin.blk_normal | apply Fin.blk_here)
 | (with_reducible first | refine S.move ?_ | refine S.assign ?_ | refine S.pickT ?_ | refine S.pickF ?_ | refine S.lss ?_ | refine S.gtr ?_ | refine S.leq ?_ | refine S.geq ?_ | refine S.eqT ?_ | refine S.neF ?_ | refine S.eql ?_ | refine S.neq ?_ | refine S.add ?_ | refine S.sub ?_ | refine S.mul ?_ | refine S.conv ?_ | refine S.shr1 ?_ | refine S.neg ?_ | refine S.not ?_ | refine S.extract ?_ | refine S.len ?_ | refine S.fld ?_ | refine S.index ?_ | refine S.skp ?_ | refine S.sliceTo ?_ | refine S.sliceFrom ?_ | refine S.eqNil ?_ | refine S.eqbT ?_ | refine S.nebF ?_ | refine S.eqb ?_ | refine S.neb ?_)
 | (with_reducible first | refine S.nc ?_ | refine S.fld ?_ (h1 := fHeapL) | refine S.fld ?_ (h1 := fHeapM) | refine S.fld ?_ (h1 := fQueueH) | refine S.eqP ?_ | refine S.neP ?_ | refine S.quo ?_ | refine S.mkP ?_)
 | ((with_reducible apply CW.cond_true); exact rfl)
 | ((with_reducible apply CW.cond_false); exact rfl)
 | ((with_reducible apply Fin.blk_far); exact rfl))
        refine Fin.mid (Gs, m4) (by repeat (first | exact trivial | refine ⟨rfl, ?_⟩)) ⟨h4, hf13.trans hf4 (.inl rfl), hP4, hH4, hS4.1.trans hlF, (hS4.2.2 n (Nat.le_refl _)).trans hnF, fun x => (hS4.2.1 x).trans (hmF x)⟩
      · have hb : bb = true := by simpa using hb
        repeat (first
 | (with_reducible first
 | apply CW.seq | apply CW.region | apply CW.block | apply CW.ret | apply CW.skip | apply CW.label | apply CW.exit
 | apply W.nil | apply Fin.seq | apply Fin.then_ret | apply Fin.then_exit | apply Fin.blk_ret | apply Fin.blk_normal | apply Fin.blk_here)
 | (with_reducible first | refine S.move ?_ | refine S.assign ?_ | refine S.pickT ?_ | refine S.pickF ?_ | refine S.lss ?_ | refine S.gtr ?_ | refine S.leq ?_ | refine S.geq ?_ | refine S.eqT ?_ | refine S.neF ?_ | refine S.eql ?_ | refine S.neq ?_ | refine S.add ?_ | refine S.sub ?_ | refine S.mul ?_ | refine S.conv ?_ | refine S.shr1 ?_ | refine S.neg ?_ | refine S.not ?_ | refine S.extract ?_ | refine S.len ?_ | refine S.fld ?_ | refine S.index ?_ | refine S.skp ?_ | refine S.sliceTo ?_ | refine S.sliceFrom ?_ | refine S.eqNil ?_ | refine S.eqbT ?_ | refine S.nebF ?_ | refine S.eqb ?_ | refine S.neb ?_)
 | (with_reducible first | refine S.nc ?_ | refine S.fld ?_ (h1 := fHeapL) | refine S.fld ?_ (h1 := fHeapM) | refine S.fld ?_ (h1 := fQueueH) | refine S.eqP ?_ | refine S.neP ?_ | refine S.quo ?_ | refine S.mkP ?_)
 | ((with_reducible apply CW.cond_true); exact rfl)
 | ((with_reducible apply CW.cond_false); exact rfl)
 | ((with_reducible apply Fin.blk_far); exact rfl))
        refine Fin.mid (Fs, m3) (by repeat (first | exact trivial | refine ⟨rfl, ?_⟩)) ⟨h3, hf13, hP3, hb1 hb, hlF, hnF, hmF⟩
    · have hc : i = n := by
        have := of_decide_eq_false hc
        rcases Nat.lt_or_ge i n with h1 | h1
        · exact absurd (by omega) this
        · omega
      repeat (first
 | (with_reducible first
 | apply CW.seq | apply CW.region | apply CW.block | apply CW.ret | apply CW.skip | apply CW.label | apply CW.exit
 | apply W.nil | apply Fin.seq | apply Fin.then_ret | apply Fin.then_exit | apply Fin.blk_ret | apply Fin.blk_normal | apply Fin.blk_here)
 | (with_reducible first | refine S.move ?_ | refine S.assign ?_ | refine S.pickT ?_ | refine S.pickF ?_ | refine S.lss ?_ | refine S.gtr ?_ | refine S.leq ?_ | refine S.geq ?_ | refine S.eqT ?_ | refine S.neF ?_ | refine S.eql ?_ | refine S.neq ?_ | refine S.add ?_ | refine S.sub ?_ | refine S.mul ?_ | refine S.conv ?_ | refine S.shr1 ?_ | refine S.neg ?_ | refine S.not ?_ | refine S.extract ?_ | refine S.len ?_ | refine S.fld ?_ | refine S.index ?_ | refine S.skp ?_ | refine S.sliceTo ?_ | refine S.sliceFrom ?_ | refine S.eqNil ?_ | refine S.eqbT ?_ | refine S.nebF ?_ | refine S.eqb ?_ | refine S.neb ?_)
 | (with_reducible first | refine S.nc ?_ | refine S.fld ?_ (h1 := fHeapL) | refine S.fld ?_ (h1 := fHeapM) | refine S.fld ?_ (h1 := fQueueH) | refine S.eqP ?_ | refine S.neP ?_ | refine S.quo ?_ | refine S.mkP ?_)
 | ((with_reducible apply CW.cond_true); exact rfl)
 | ((with_reducible apply CW.cond_false); exact rfl)
 | ((with_reducible apply Fin.blk_far); exact rfl))
      refine Fin.mid (Ds, m) (by repeat (first | exact trivial | refine ⟨rfl, ?_⟩)) ⟨h, QF.refl _ _ _ _, hP, fun k hk hkn => hH k hk (by omega), hn, by rw [hc], fun x => Iff.rfl⟩
  rintro ⟨Gs, m2⟩ w2 ⟨h2, hf2, hP2, hH2, hlG, hnG, hmG⟩
  simp only at h2 hP2 hH2 hlG hnG hmG ⊢
  have hsp := split_last hlG
  rw [hnG] at hsp
  have hLs : (Gs.take n).length = n := by rw [List.length_take]; omega
  have hHL := heap_take (by omega) hH2
  generalize Gs.take n = Ls at *
  subst hsp
  repeat (first
 | (with_reducible first
 | apply CW.seq | apply CW.region | apply CW.block | apply CW.ret | apply CW.skip | apply CW.label | apply CW.exit
 | apply W.nil | apply Fin.seq | apply Fin.then_ret | apply Fin.then_exit | apply Fin.blk_ret | apply Fin.blk_normal | apply Fin.blk_here)
 | (with_reducible first | refine S.move ?_ | refine S.assign ?_ | refine S.pickT ?_ | refine S.pickF ?_ | refine S.lss ?_ | refine S.gtr ?_ | refine S.leq ?_ | refine S.geq ?_ | refine S.eqT ?_ | refine S.neF ?_ | refine S.eql ?_ | refine S.neq ?_ | refine S.add ?_ | refine S.sub ?_ | refine S.mul ?_ | refine S.conv ?_ | refine S.shr1 ?_ | refine S.neg ?_ | refine S.not ?_ | refine S.extract ?_ | refine S.len ?_ | refine S.fld ?_ | refine S.index ?_ | refine S.skp ?_ | refine S.sliceTo ?_ | refine S.sliceFrom ?_ | refine S.eqNil ?_ | refine S.eqbT ?_ | refine S.nebF ?_ | refine S.eqb ?_ | refine S.neb ?_)
 | (with_reducible first | refine S.nc ?_ | refine S.fld ?_ (h1 := fHeapL) | refine S.fld ?_ (h1 := fHeapM) | refine S.fld ?_ (h1 := fQueueH) | refine S.eqP ?_ | refine S.neP ?_ | refine S.quo ?_ | refine S.mkP ?_)
 | ((with_reducible apply CW.cond_true); exact rfl)
 | ((with_reducible apply CW.cond_false); exact rfl)
 | ((with_reducible apply Fin.blk_far); exact rfl))
  refine S.cl (op_invoke (f := 82) (fun w => meth_Pop _ w) (by rfl) (by rfl)) (by rfl) (by rfl) (pPop_calls B b0 bm v Ls m2 _ w2 h2 (by omega)) ?_
  rintro _ w3 ⟨rfl, v3, h3, hf3, hv3⟩
  have hP3 := hP2.pop
  have hnone : updM m2 (at_ Ds i).id none (at_ Ds i).id = none := by unfold updM; rw [if_pos rfl]
  have hP4 := hP3.add hnone
  rw [hLs] at hP4
  repeat (first
 | (with_reducible first
 | apply CW.seq | apply CW.region | apply CW.block | apply CW.ret | apply CW.skip | apply CW.label | apply CW.exit
 | apply W.nil | apply Fin.seq | apply Fin.then_ret | apply Fin.then_exit | apply Fin.blk_ret | apply Fin.blk_normal | apply Fin.blk_here)
 | (with_reducible first | refine S.move ?_ | refine S.assign ?_ | refine S.pickT ?_ | refine S.pickF ?_ | refine S.lss ?_ | refine S.gtr ?_ | refine S.leq ?_ | refine S.geq ?_ | refine S.eqT ?_ | refine S.neF ?_ | refine S.eql ?_ | refine S.neq ?_ | refine S.add ?_ | refine S.sub ?_ | refine S.mul ?_ | refine S.conv ?_ | refine S.shr1 ?_ | refine S.neg ?_ | refine S.not ?_ | refine S.extract ?_ | refine S.len ?_ | refine S.fld ?_ | refine S.index ?_ | refine S.skp ?_ | refine S.sliceTo ?_ | refine S.sliceFrom ?_ | refine S.eqNil ?_ | refine S.eqbT ?_ | refine S.nebF ?_ | refine S.eqb ?_ | refine S.neb ?_)
 | (with_reducible first | refine S.nc ?_ | refine S.fld ?_ (h1 := fHeapL) | refine S.fld ?_ (h1 := fHeapM) | refine S.fld ?_ (h1 := fQueueH) | refine S.eqP ?_ | refine S.neP ?_ | refine S.quo ?_ | refine S.mkP ?_)
 | ((with_reducible apply CW.cond_true); exact rfl)
 | ((with_reducible apply CW.cond_false); exact rfl)
 | ((with_reducible apply Fin.blk_far); exact rfl))
  (with_reducible apply R.r1); exact rfl; exact rfl
  exact ⟨rfl, v3, Ls, _, h3, hf2.trans hf3 (.inl rfl), hv3, hP3, hHL, hLs, hP4, hmG⟩

end Go.Proofs.Ytmilpjkjcanghaa

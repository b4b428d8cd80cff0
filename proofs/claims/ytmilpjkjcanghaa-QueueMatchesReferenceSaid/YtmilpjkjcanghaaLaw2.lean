/- RankLower, RankAdds. -/
import Derived.Test.YtmilpjkjcanghaaLaw1
namespace Go.Proofs.Ytmilpjkjcanghaa
open Go.RowKit
set_option linter.unusedVariables false
set_option linter.unusedSimpArgs false

theorem few_sub {L M : List PV} (h : fewB L = true) (hm : ∀ x ∈ M, x ∈ L) (hl : M.length ≤ L.length) : fewB M = true := by
  simp only [fewB, Bool.and_eq_true, decide_eq_true_eq] at *
  exact ⟨List.all_eq_true.2 fun x hx => List.all_eq_true.1 h.1 x (hm x hx), by omega⟩
theorem lowL_sub (L : List PV) (pr : Int) : (∀ x ∈ lowL L pr, x ∈ L) ∧ (lowL L pr).length ≤ L.length := ⟨fun x hx => (List.mem_filter.1 hx).1, List.length_filter_le _ _⟩
theorem few_low {L : List PV} (h : fewB L = true) (pr : Int) : fewB (lowL L pr) = true := few_sub h (lowL_sub L pr).1 (lowL_sub L pr).2
theorem RQ.sub {w : World} {B : Nat} {f : PV → List Int} {L M : List PV} (h : RQ w B f L) (hm : ∀ x ∈ M, x ∈ L) : RQ w B f M := fun p hp => h p (hm p hp)

set_option maxHeartbeats 1000000 in
theorem RankLower_calls (l : Value) (L : List PV) (pr : Int) (f : PV → List Int) (w : World) (hl : PS w w.heap.size l L) (hn : L.length ≤ 9223372036854775807) (hq : fewB L = true → RQ w w.heap.size f L) :
    CallsR Try.prog 4 [l, .int .i64 pr] w fun v w' => v = .bool true ∧ X w w' := by
  refine enter2 Try.func4 rfl Try.ntmps4 rfl ?_
  repeat (first
 | (with_reducible first
 | apply CW.seq | apply CW.region | apply CW.block | apply CW.ret | apply CW.skip | apply CW.label | apply CW.exit
 | apply W.nil | apply Fin.seq | apply Fin.then_ret | apply Fin.then_exit | apply Fin.blk_ret | apply Fin.blk_normal | apply Fin.blk_here)
 | (with_reducible first | refine S.move ?_ | refine S.assign ?_ | refine S.pickT ?_ | refine S.pickF ?_ | refine S.lss ?_ | refine S.gtr ?_ | refine S.leq ?_ | refine S.geq ?_ | refine S.eqT ?_ | refine S.neF ?_ | refine S.eql ?_ | refine S.neq ?_ | refine S.add ?_ | refine S.sub ?_ | refine S.mul ?_ | refine S.conv ?_ | refine S.shr1 ?_ | refine S.neg ?_ | refine S.not ?_ | refine S.extract ?_ | refine S.len ?_ | refine S.fld ?_ | refine S.index ?_ | refine S.skp ?_ | refine S.sliceTo ?_ | refine S.sliceFrom ?_ | refine S.eqNil ?_ | refine S.eqbT ?_ | refine S.nebF ?_ | refine S.eqb ?_ | refine S.neb ?_)
 | ((with_reducible apply CW.cond_true); exact rfl)
 | ((with_reducible apply CW.cond_false); exact rfl)
 | ((with_reducible apply Fin.blk_far); exact rfl))
  refine S.cl (op_call ent13 (by rfl) (by rfl)) (by rfl) (by rfl) (awake6_calls w) ?_
  rintro _ w1 ⟨rfl, hx1⟩
  have hl1 := (hl.below hx1).more hx1.le
  repeat (first
 | (with_reducible first
 | apply CW.seq | apply CW.region | apply CW.block | apply CW.ret | apply CW.skip | apply CW.label | apply CW.exit
 | apply W.nil | apply Fin.seq | apply Fin.then_ret | apply Fin.then_exit | apply Fin.blk_ret | apply Fin.blk_normal | apply Fin.blk_here)
 | (with_reducible first | refine S.move ?_ | refine S.assign ?_ | refine S.pickT ?_ | refine S.pickF ?_ | refine S.lss ?_ | refine S.gtr ?_ | refine S.leq ?_ | refine S.geq ?_ | refine S.eqT ?_ | refine S.neF ?_ | refine S.eql ?_ | refine S.neq ?_ | refine S.add ?_ | refine S.sub ?_ | refine S.mul ?_ | refine S.conv ?_ | refine S.shr1 ?_ | refine S.neg ?_ | refine S.not ?_ | refine S.extract ?_ | refine S.len ?_ | refine S.fld ?_ | refine S.index ?_ | refine S.skp ?_ | refine S.sliceTo ?_ | refine S.sliceFrom ?_ | refine S.eqNil ?_ | refine S.eqbT ?_ | refine S.nebF ?_ | refine S.eqb ?_ | refine S.neb ?_)
 | ((with_reducible apply CW.cond_true); exact rfl)
 | ((with_reducible apply CW.cond_false); exact rfl)
 | ((with_reducible apply Fin.blk_far); exact rfl))
  refine S.cl (op_call ent14 (by rfl) (by rfl)) (by rfl) (by rfl) (Few_calls l L w1.heap.size w1 hl1 hn) ?_
  rintro _ w2 ⟨rfl, rfl⟩
  repeat (first
 | (with_reducible first
 | apply CW.seq | apply CW.region | apply CW.block | apply CW.ret | apply CW.skip | apply CW.label | apply CW.exit
 | apply W.nil | apply Fin.seq | apply Fin.then_ret | apply Fin.then_exit | apply Fin.blk_ret | apply Fin.blk_normal | apply Fin.blk_here)
 | (with_reducible first | refine S.move ?_ | refine S.assign ?_ | refine S.pickT ?_ | refine S.pickF ?_ | refine S.lss ?_ | refine S.gtr ?_ | refine S.leq ?_ | refine S.geq ?_ | refine S.eqT ?_ | refine S.neF ?_ | refine S.eql ?_ | refine S.neq ?_ | refine S.add ?_ | refine S.sub ?_ | refine S.mul ?_ | refine S.conv ?_ | refine S.shr1 ?_ | refine S.neg ?_ | refine S.not ?_ | refine S.extract ?_ | refine S.len ?_ | refine S.fld ?_ | refine S.index ?_ | refine S.skp ?_ | refine S.sliceTo ?_ | refine S.sliceFrom ?_ | refine S.eqNil ?_ | refine S.eqbT ?_ | refine S.nebF ?_ | refine S.eqb ?_ | refine S.neb ?_)
 | ((with_reducible apply CW.cond_true); exact rfl)
 | ((with_reducible apply CW.cond_false); exact rfl)
 | ((with_reducible apply Fin.blk_far); exact rfl))
  refine CW.cond (by rfl) (fun h => ?_) (fun h => ?_)
  · repeat (first
 | (with_reducible first
 | apply CW.seq | apply CW.region | apply CW.block | apply CW.ret | apply CW.skip | apply CW.label | apply CW.exit
 | apply W.nil | apply Fin.seq | apply Fin.then_ret | apply Fin.then_exit | apply Fin.blk_ret | apply Fin.blk_normal | apply Fin.blk_here)
 | (with_reducible first | refine S.move ?_ | refine S.assign ?_ | refine S.pickT ?_ | refine S.pickF ?_ | refine S.lss ?_ | refine S.gtr ?_ | refine S.leq ?_ | refine S.geq ?_ | refine S.eqT ?_ | refine S.neF ?_ | refine S.eql ?_ | refine S.neq ?_ | refine S.add ?_ | refine S.sub ?_ | refine S.mul ?_ | refine S.conv ?_ | refine S.shr1 ?_ | refine S.neg ?_ | refine S.not ?_ | refine S.extract ?_ | refine S.len ?_ | refine S.fld ?_ | refine S.index ?_ | refine S.skp ?_ | refine S.sliceTo ?_ | refine S.sliceFrom ?_ | refine S.eqNil ?_ | refine S.eqbT ?_ | refine S.nebF ?_ | refine S.eqb ?_ | refine S.neb ?_)
 | ((with_reducible apply CW.cond_true); exact rfl)
 | ((with_reducible apply CW.cond_false); exact rfl)
 | ((with_reducible apply Fin.blk_far); exact rfl))
    refine S.cl (op_call ent13 (by rfl) (by rfl)) (by rfl) (by rfl) (awake6_calls _) ?_
    rintro _ w3 ⟨rfl, hx3⟩
    repeat (first
 | (with_reducible first
 | apply CW.seq | apply CW.region | apply CW.block | apply CW.ret | apply CW.skip | apply CW.label | apply CW.exit
 | apply W.nil | apply Fin.seq | apply Fin.then_ret | apply Fin.then_exit | apply Fin.blk_ret | apply Fin.blk_normal | apply Fin.blk_here)
 | (with_reducible first | refine S.move ?_ | refine S.assign ?_ | refine S.pickT ?_ | refine S.pickF ?_ | refine S.lss ?_ | refine S.gtr ?_ | refine S.leq ?_ | refine S.geq ?_ | refine S.eqT ?_ | refine S.neF ?_ | refine S.eql ?_ | refine S.neq ?_ | refine S.add ?_ | refine S.sub ?_ | refine S.mul ?_ | refine S.conv ?_ | refine S.shr1 ?_ | refine S.neg ?_ | refine S.not ?_ | refine S.extract ?_ | refine S.len ?_ | refine S.fld ?_ | refine S.index ?_ | refine S.skp ?_ | refine S.sliceTo ?_ | refine S.sliceFrom ?_ | refine S.eqNil ?_ | refine S.eqbT ?_ | refine S.nebF ?_ | refine S.eqb ?_ | refine S.neb ?_)
 | ((with_reducible apply CW.cond_true); exact rfl)
 | ((with_reducible apply CW.cond_false); exact rfl)
 | ((with_reducible apply Fin.blk_far); exact rfl))
    (with_reducible apply R.r1); exact rfl; exact rfl
    exact ⟨rfl, hx1.trans hx3⟩
  have hf : fewB L = true := by simpa using h
  have hR := hq hf
  have hlen := few_len hf
  clear h hq
  have hp : ∀ w', X w w' → PS w' w'.heap.size l L := fun w' hx => (hl.below hx).more hx.le
  repeat (first
 | (with_reducible first
 | apply CW.seq | apply CW.region | apply CW.block | apply CW.ret | apply CW.skip | apply CW.label | apply CW.exit
 | apply W.nil | apply Fin.seq | apply Fin.then_ret | apply Fin.then_exit | apply Fin.blk_ret | apply Fin.blk_normal | apply Fin.blk_here)
 | (with_reducible first | refine S.move ?_ | refine S.assign ?_ | refine S.pickT ?_ | refine S.pickF ?_ | refine S.lss ?_ | refine S.gtr ?_ | refine S.leq ?_ | refine S.geq ?_ | refine S.eqT ?_ | refine S.neF ?_ | refine S.eql ?_ | refine S.neq ?_ | refine S.add ?_ | refine S.sub ?_ | refine S.mul ?_ | refine S.conv ?_ | refine S.shr1 ?_ | refine S.neg ?_ | refine S.not ?_ | refine S.extract ?_ | refine S.len ?_ | refine S.fld ?_ | refine S.index ?_ | refine S.skp ?_ | refine S.sliceTo ?_ | refine S.sliceFrom ?_ | refine S.eqNil ?_ | refine S.eqbT ?_ | refine S.nebF ?_ | refine S.eqb ?_ | refine S.neb ?_)
 | ((with_reducible apply CW.cond_true); exact rfl)
 | ((with_reducible apply CW.cond_false); exact rfl)
 | ((with_reducible apply Fin.blk_far); exact rfl))
  refine S.cl (op_call ent23 (by rfl) (by rfl)) (by rfl) (by rfl) (Sums_calls l L w2 hl1 hf) ?_
  rintro _ w3 ⟨rfl, hx3⟩
  have hX3 := hx1.trans hx3
  repeat (first
 | (with_reducible first
 | apply CW.seq | apply CW.region | apply CW.block | apply CW.ret | apply CW.skip | apply CW.label | apply CW.exit
 | apply W.nil | apply Fin.seq | apply Fin.then_ret | apply Fin.then_exit | apply Fin.blk_ret | apply Fin.blk_normal | apply Fin.blk_here)
 | (with_reducible first | refine S.move ?_ | refine S.assign ?_ | refine S.pickT ?_ | refine S.pickF ?_ | refine S.lss ?_ | refine S.gtr ?_ | refine S.leq ?_ | refine S.geq ?_ | refine S.eqT ?_ | refine S.neF ?_ | refine S.eql ?_ | refine S.neq ?_ | refine S.add ?_ | refine S.sub ?_ | refine S.mul ?_ | refine S.conv ?_ | refine S.shr1 ?_ | refine S.neg ?_ | refine S.not ?_ | refine S.extract ?_ | refine S.len ?_ | refine S.fld ?_ | refine S.index ?_ | refine S.skp ?_ | refine S.sliceTo ?_ | refine S.sliceFrom ?_ | refine S.eqNil ?_ | refine S.eqbT ?_ | refine S.nebF ?_ | refine S.eqb ?_ | refine S.neb ?_)
 | ((with_reducible apply CW.cond_true); exact rfl)
 | ((with_reducible apply CW.cond_false); exact rfl)
 | ((with_reducible apply Fin.blk_far); exact rfl))
  refine S.cl (op_call ent24 (by rfl) (by rfl)) (by rfl) (by rfl) (refSums_calls l L _ w3 (hp w3 hX3) hf) ?_
  rintro _ w4 ⟨rfl, rfl⟩
  repeat (first
 | (with_reducible first
 | apply CW.seq | apply CW.region | apply CW.block | apply CW.ret | apply CW.skip | apply CW.label | apply CW.exit
 | apply W.nil | apply Fin.seq | apply Fin.then_ret | apply Fin.then_exit | apply Fin.blk_ret | apply Fin.blk_normal | apply Fin.blk_here)
 | (with_reducible first | refine S.move ?_ | refine S.assign ?_ | refine S.pickT ?_ | refine S.pickF ?_ | refine S.lss ?_ | refine S.gtr ?_ | refine S.leq ?_ | refine S.geq ?_ | refine S.eqT ?_ | refine S.neF ?_ | refine S.eql ?_ | refine S.neq ?_ | refine S.add ?_ | refine S.sub ?_ | refine S.mul ?_ | refine S.conv ?_ | refine S.shr1 ?_ | refine S.neg ?_ | refine S.not ?_ | refine S.extract ?_ | refine S.len ?_ | refine S.fld ?_ | refine S.index ?_ | refine S.skp ?_ | refine S.sliceTo ?_ | refine S.sliceFrom ?_ | refine S.eqNil ?_ | refine S.eqbT ?_ | refine S.nebF ?_ | refine S.eqb ?_ | refine S.neb ?_)
 | ((with_reducible apply CW.cond_true); exact rfl)
 | ((with_reducible apply CW.cond_false); exact rfl)
 | ((with_reducible apply Fin.blk_far); exact rfl))
  refine S.cl (op_call ent25 (by rfl) (by rfl)) (by rfl) (by rfl) (Lower_calls l L pr w4 (hp w4 hX3) (by omega)) ?_
  rintro v5 w5 ⟨hO5, hx5⟩
  have hX5 := hX3.trans hx5
  repeat (first
 | (with_reducible first
 | apply CW.seq | apply CW.region | apply CW.block | apply CW.ret | apply CW.skip | apply CW.label | apply CW.exit
 | apply W.nil | apply Fin.seq | apply Fin.then_ret | apply Fin.then_exit | apply Fin.blk_ret | apply Fin.blk_normal | apply Fin.blk_here)
 | (with_reducible first | refine S.move ?_ | refine S.assign ?_ | refine S.pickT ?_ | refine S.pickF ?_ | refine S.lss ?_ | refine S.gtr ?_ | refine S.leq ?_ | refine S.geq ?_ | refine S.eqT ?_ | refine S.neF ?_ | refine S.eql ?_ | refine S.neq ?_ | refine S.add ?_ | refine S.sub ?_ | refine S.mul ?_ | refine S.conv ?_ | refine S.shr1 ?_ | refine S.neg ?_ | refine S.not ?_ | refine S.extract ?_ | refine S.len ?_ | refine S.fld ?_ | refine S.index ?_ | refine S.skp ?_ | refine S.sliceTo ?_ | refine S.sliceFrom ?_ | refine S.eqNil ?_ | refine S.eqbT ?_ | refine S.nebF ?_ | refine S.eqb ?_ | refine S.neb ?_)
 | ((with_reducible apply CW.cond_true); exact rfl)
 | ((with_reducible apply CW.cond_false); exact rfl)
 | ((with_reducible apply Fin.blk_far); exact rfl))
  refine S.cl (op_call ent26 (by rfl) (by rfl)) (by rfl) (by rfl) (refLower_calls l L pr w5 (hp w5 hX5) (by omega)) ?_
  rintro v6 w6 ⟨hO6, hx6⟩
  have hX6 := hX5.trans hx6
  have hRl : RQ w6 w6.heap.size f (lowL L pr) := ((hR.below hX6).more hX6.le).sub (lowL_sub L pr).1
  repeat (first
 | (with_reducible first
 | apply CW.seq | apply CW.region | apply CW.block | apply CW.ret | apply CW.skip | apply CW.label | apply CW.exit
 | apply W.nil | apply Fin.seq | apply Fin.then_ret | apply Fin.then_exit | apply Fin.blk_ret | apply Fin.blk_normal | apply Fin.blk_here)
 | (with_reducible first | refine S.move ?_ | refine S.assign ?_ | refine S.pickT ?_ | refine S.pickF ?_ | refine S.lss ?_ | refine S.gtr ?_ | refine S.leq ?_ | refine S.geq ?_ | refine S.eqT ?_ | refine S.neF ?_ | refine S.eql ?_ | refine S.neq ?_ | refine S.add ?_ | refine S.sub ?_ | refine S.mul ?_ | refine S.conv ?_ | refine S.shr1 ?_ | refine S.neg ?_ | refine S.not ?_ | refine S.extract ?_ | refine S.len ?_ | refine S.fld ?_ | refine S.index ?_ | refine S.skp ?_ | refine S.sliceTo ?_ | refine S.sliceFrom ?_ | refine S.eqNil ?_ | refine S.eqbT ?_ | refine S.nebF ?_ | refine S.eqb ?_ | refine S.neb ?_)
 | ((with_reducible apply CW.cond_true); exact rfl)
 | ((with_reducible apply CW.cond_false); exact rfl)
 | ((with_reducible apply Fin.blk_far); exact rfl))
  refine S.cl (op_call ent21 (by rfl) (by rfl)) (by rfl) (by rfl) (Same_true f v5 v6 (lowL L pr) (lowL L pr) w6.heap.size w6 (hO5.x hx6).ps hO6.ps (SmL.refl f _) hRl hRl (by have := (lowL_sub L pr).2; omega) (Nat.le_refl _)) ?_
  rintro _ w7 ⟨rfl, hx7⟩
  repeat (first
 | (with_reducible first
 | apply CW.seq | apply CW.region | apply CW.block | apply CW.ret | apply CW.skip | apply CW.label | apply CW.exit
 | apply W.nil | apply Fin.seq | apply Fin.then_ret | apply Fin.then_exit | apply Fin.blk_ret | apply Fin.blk_normal | apply Fin.blk_here)
 | (with_reducible first | refine S.move ?_ | refine S.assign ?_ | refine S.pickT ?_ | refine S.pickF ?_ | refine S.lss ?_ | refine S.gtr ?_ | refine S.leq ?_ | refine S.geq ?_ | refine S.eqT ?_ | refine S.neF ?_ | refine S.eql ?_ | refine S.neq ?_ | refine S.add ?_ | refine S.sub ?_ | refine S.mul ?_ | refine S.conv ?_ | refine S.shr1 ?_ | refine S.neg ?_ | refine S.not ?_ | refine S.extract ?_ | refine S.len ?_ | refine S.fld ?_ | refine S.index ?_ | refine S.skp ?_ | refine S.sliceTo ?_ | refine S.sliceFrom ?_ | refine S.eqNil ?_ | refine S.eqbT ?_ | refine S.nebF ?_ | refine S.eqb ?_ | refine S.neb ?_)
 | ((with_reducible apply CW.cond_true); exact rfl)
 | ((with_reducible apply CW.cond_false); exact rfl)
 | ((with_reducible apply Fin.blk_far); exact rfl))
  (with_reducible apply R.r1); exact rfl; exact rfl
  exact ⟨rfl, hX6.trans hx7⟩

/-- The others: those whose priority is not less. -/
def highL (L : List PV) (pr : Int) : List PV := L.filter fun p => decide (pr ≤ p.prio)
theorem highL_take {L : List PV} {pr : Int} {k : Nat} (hk : k < L.length) : highL (L.take (k + 1)) pr = if pr ≤ L[k].prio then highL (L.take k) pr ++ [L[k]] else highL (L.take k) pr := by
  unfold highL
  rw [List.take_succ_eq_append_getElem hk, List.filter_append]
  by_cases h : pr ≤ L[k].prio <;> simp [h]
theorem highL_len (L : List PV) (pr : Int) (k : Nat) : (highL (L.take k) pr).length ≤ k := by
  unfold highL
  have := List.length_filter_le (fun p : PV => decide (pr ≤ p.prio)) (L.take k)
  rw [List.length_take] at this
  omega
theorem highL_sub (L : List PV) (pr : Int) : (∀ x ∈ highL L pr, x ∈ L) ∧ (highL L pr).length ≤ L.length := ⟨fun x hx => (List.mem_filter.1 hx).1, List.length_filter_le _ _⟩
theorem low_high_len (L : List PV) (pr : Int) : (lowL L pr).length + (highL L pr).length = L.length := by
  induction L with
  | nil => rfl
  | cons p r ih =>
    unfold lowL highL at *
    by_cases h : p.prio < pr
    · have h2 : ¬ pr ≤ p.prio := by omega
      simp [List.filter_cons, h, h2]; omega
    · have h2 : pr ≤ p.prio := by omega
      simp [List.filter_cons, h, h2]; omega
theorem low_high_sum (L : List PV) (pr : Int) : sumP (lowL L pr) + sumP (highL L pr) = sumP L := by
  induction L with
  | nil => rfl
  | cons p r ih =>
    unfold lowL highL sumP at *
    by_cases h : p.prio < pr
    · have h2 : ¬ pr ≤ p.prio := by omega
      simp [List.filter_cons, h, h2]; omega
    · have h2 : pr ≤ p.prio := by omega
      simp [List.filter_cons, h, h2]; omega
def mx (h : Int) (q : PV) : Int := if h < q.prio then q.prio else h
theorem mx_max (L : List PV) : ∀ h : Int, (∀ q ∈ L, q.prio ≤ L.foldl mx h) ∧ h ≤ L.foldl mx h ∧ (L.foldl mx h = h ∨ ∃ q ∈ L, L.foldl mx h = q.prio) := by
  induction L with
  | nil => intro h; exact ⟨fun q hq => (by cases hq), Int.le_refl _, .inl rfl⟩
  | cons p r ih =>
    intro h
    obtain ⟨h1, h2, h3⟩ := ih (mx h p)
    rw [List.foldl_cons]
    have hm : p.prio ≤ mx h p ∧ h ≤ mx h p ∧ (mx h p = h ∨ mx h p = p.prio) := by unfold mx; split <;> omega
    refine ⟨fun q hq => ?_, by omega, ?_⟩
    · rcases List.mem_cons.1 hq with rfl | hq
      · omega
      · exact h1 q hq
    · rcases h3 with h3 | ⟨q, hq, h3⟩
      · rcases hm.2.2 with h4 | h4
        · exact .inl (by omega)
        · exact .inr ⟨p, List.mem_cons_self, by omega⟩
      · exact .inr ⟨q, List.mem_cons_of_mem _ hq, h3⟩
theorem topP_max {L : List PV} (h : L ≠ []) : (∀ q ∈ L, q.prio ≤ topP L) ∧ ∃ q ∈ L, topP L = q.prio := by
  cases L with
  | nil => exact absurd rfl h
  | cons p r =>
    obtain ⟨h1, h2, h3⟩ := mx_max r p.prio
    have e : topP (p :: r) = r.foldl mx p.prio := rfl
    rw [e]
    refine ⟨fun q hq => ?_, ?_⟩
    · rcases List.mem_cons.1 hq with rfl | hq
      · exact h2
      · exact h1 q hq
    · rcases h3 with h3 | ⟨q, hq, h3⟩
      · exact ⟨p, List.mem_cons_self, h3⟩
      · exact ⟨q, List.mem_cons_of_mem _ hq, h3⟩
theorem top_high {L : List PV} {pr : Int} (h : highL L pr ≠ []) : topP (highL L pr) = topP L := by
  obtain ⟨h1, q, hq, h2⟩ := topP_max h
  have hL : L ≠ [] := by rintro rfl; exact h rfl
  obtain ⟨h3, r, hr, h4⟩ := topP_max hL
  have hq2 := List.mem_filter.1 hq
  have hqp : pr ≤ q.prio := of_decide_eq_true hq2.2
  have h5 := h3 q hq2.1
  have h6 : r ∈ highL L pr := List.mem_filter.2 ⟨hr, decide_eq_true (by omega)⟩
  have := h1 r h6
  omega

end Go.Proofs.Ytmilpjkjcanghaa

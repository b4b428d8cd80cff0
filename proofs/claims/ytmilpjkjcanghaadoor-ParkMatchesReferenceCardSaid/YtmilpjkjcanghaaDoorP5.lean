/- What the lot's laws share; ParkWakes. -/
import Derived.Test.YtmilpjkjcanghaaDoorP4
namespace Go.Proofs.YtmilpjkjcanghaaDoor
open Go.RowKit
set_option linter.unusedVariables false
set_option linter.unusedSimpArgs false

/-- The pods of a lot, as they came in. -/
theorem hasL_map (A : List (AP × Int)) (id : Int) : hasL A id = hasA (A.map (·.1)) id := by
  unfold hasL hasA
  rw [List.any_map]
  rfl
/-- The lot's pods are those of L. -/
def PodsOf (w : World) (A : List (AP × Int)) (L : List PV) : Prop := A.map (·.1) = L.map (ab w)
theorem PodsOf.has {w : World} {A : List (AP × Int)} {L : List PV} (h : PodsOf w A L) (id : Int) : hasL A id = hasR L id := by
  rw [hasL_map, h, hasA_map]
theorem PodsOf.add {w : World} {A : List (AP × Int)} {L : List PV} {p : PV} {r : Int} (h : PodsOf w A L) (h1 : 1 ≤ r) (h2 : r ≤ 4) : PodsOf w (addL A (ab w p) r) (addP L p) := by
  unfold addL okAdd addP
  rw [show (ab w p).1.id = p.id from rfl, h.has, decide_eq_true h1, decide_eq_true h2]
  cases hasR L p.id
  · simp only [Bool.true_and, Bool.not_false, if_true, Bool.false_eq_true, if_false]
    unfold PodsOf
    rw [List.map_append, List.map_append, h]
    rfl
  · simpa using h
theorem PodsOf.len {w : World} {A : List (AP × Int)} {L : List PV} (h : PodsOf w A L) : A.length = L.length := by
  have := congrArg List.length h
  simpa using this
theorem PodsOf.sort {w : World} {A : List (AP × Int)} {L : List PV} (h : PodsOf w A L) : sortAP (A.map (·.1)) = (sortR L).map (ab w) := by
  rw [h, sort_fold]

section
variable {P : Program} {ty : TypeId} {L : Operand → Option Value} {x y : Operand}
theorem and3 (r : Int) : ∃ s : Nat, s < 4 ∧ bits .and .i64 r 3 = (s : Int) := by
  have h : (BitVec.ofInt 64 r &&& BitVec.ofInt 64 3).toNat ≤ 3 := by
    rw [BitVec.toNat_and]
    exact Nat.and_le_right
  refine ⟨(BitVec.ofInt 64 r &&& BitVec.ofInt 64 3).toNat, by omega, ?_⟩
  show IntKind.i64.wrap (((BitVec.ofInt 64 r &&& BitVec.ofInt 64 3).toNat : Nat) : Int) = _
  exact wrapI (by omega)
theorem op_and {t t' : TypeId} {a b : Int} (hx : L x = some (.int .i64 a)) (hy : L y = some (.int .i64 b)) : Pure P (.binOp .and t x y t') ty L (.int .i64 (bits .and .i64 a b)) := fun ev he w d pos aft g => by
  simp [execOp, he x _ hx, he y _ hy, eqGuard, binOp_and, intBits_and]
theorem op_rem4 {t t' : TypeId} {a : Nat} (hx : L x = some (.int .i64 (a : Int))) (hy : L y = some (.int .i64 4)) : Pure P (.binOp .rem t x y t') ty L (.int .i64 ((a % 4 : Nat) : Int)) := fun ev he w d pos aft g => by
  have h1 : IntKind.i64.wrap ((a : Int).tmod 4) = ((a % 4 : Nat) : Int) := by
    rw [Int.tmod_eq_emod_of_nonneg (by omega), wrapI (by omega)]; omega
  simp [execOp, he x _ hx, he y _ hy, eqGuard, binOp, Op.intDiv, h1]
  exact Int.tmod_eq_emod_of_nonneg (by omega)
end

set_option maxHeartbeats 2000000 in
theorem ParkWakes_calls (l : Value) (L : List PV) (r : Int) (f : PV → List Int) (w : World) (hl : PS w w.heap.size l L) (hn : L.length ≤ 9223372036854775807) (hq : fewB L = true → RQ w w.heap.size f L) (hN : NmAt w) :
    CallsR Tryd.prog 3 [l, .int .i64 r] w fun v w' => v = .bool true ∧ X w w' := by
  have hpl : ∀ w', X w w' → PS w' w'.heap.size l L := fun w' hx => (hl.below hx).more hx.le
  obtain ⟨A, c, rfl, hc, hat⟩ := hl.open_
  refine enter2 Tryd.func3 rfl Tryd.ntmps3 rfl ?_
  repeat (first
 | (with_reducible first
 | apply CW.seq | apply CW.region | apply CW.block | apply CW.ret | apply CW.skip | apply CW.label | apply CW.exit
 | apply W.nil | apply Fin.seq | apply Fin.then_ret | apply Fin.then_exit | apply Fin.blk_ret | apply Fin.blk_normal | apply Fin.blk_here)
 | (with_reducible first | refine S.move ?_ | refine S.assign ?_ | refine S.pickT ?_ | refine S.pickF ?_ | refine S.lss ?_ | refine S.gtr ?_ | refine S.leq ?_ | refine S.geq ?_ | refine S.eqT ?_ | refine S.neF ?_ | refine S.eql ?_ | refine S.neq ?_ | refine S.add ?_ | refine S.sub ?_ | refine S.mul ?_ | refine S.conv ?_ | refine S.shr1 ?_ | refine S.neg ?_ | refine S.not ?_ | refine S.extract ?_ | refine S.len ?_ | refine S.fld ?_ | refine S.index ?_ | refine S.skp ?_ | refine S.sliceTo ?_ | refine S.sliceFrom ?_ | refine S.eqNil ?_ | refine S.eqbT ?_ | refine S.nebF ?_ | refine S.eqb ?_ | refine S.neb ?_)
 | (with_reducible first | refine S.nc ?_ | refine S.fld ?_ (h1 := fLotAll) | refine S.eqP ?_ | refine S.neP ?_)
 | ((with_reducible apply CW.cond_true); exact rfl)
 | ((with_reducible apply CW.cond_false); exact rfl)
 | ((with_reducible apply Fin.blk_far); exact rfl))
  refine S.cl (op_call ent8 (by rfl) (by rfl)) (by rfl) (by rfl) (LotNew_calls w) ?_
  rintro _ w1 ⟨b0, O1, rfl, hA1, hx1⟩
  repeat (first
 | (with_reducible first
 | apply CW.seq | apply CW.region | apply CW.block | apply CW.ret | apply CW.skip | apply CW.label | apply CW.exit
 | apply W.nil | apply Fin.seq | apply Fin.then_ret | apply Fin.then_exit | apply Fin.blk_ret | apply Fin.blk_normal | apply Fin.blk_here)
 | (with_reducible first | refine S.move ?_ | refine S.assign ?_ | refine S.pickT ?_ | refine S.pickF ?_ | refine S.lss ?_ | refine S.gtr ?_ | refine S.leq ?_ | refine S.geq ?_ | refine S.eqT ?_ | refine S.neF ?_ | refine S.eql ?_ | refine S.neq ?_ | refine S.add ?_ | refine S.sub ?_ | refine S.mul ?_ | refine S.conv ?_ | refine S.shr1 ?_ | refine S.neg ?_ | refine S.not ?_ | refine S.extract ?_ | refine S.len ?_ | refine S.fld ?_ | refine S.index ?_ | refine S.skp ?_ | refine S.sliceTo ?_ | refine S.sliceFrom ?_ | refine S.eqNil ?_ | refine S.eqbT ?_ | refine S.nebF ?_ | refine S.eqb ?_ | refine S.neb ?_)
 | (with_reducible first | refine S.nc ?_ | refine S.fld ?_ (h1 := fLotAll) | refine S.eqP ?_ | refine S.neP ?_)
 | ((with_reducible apply CW.cond_true); exact rfl)
 | ((with_reducible apply CW.cond_false); exact rfl)
 | ((with_reducible apply Fin.blk_far); exact rfl))
  refine S.cl (op_call ent9 (by rfl) (by rfl)) (by rfl) (by rfl) (awake8_calls w1 (hN.x hx1)) ?_
  rintro _ w2 ⟨rfl, hx2⟩
  have hA2 := hA1.x hx2
  have hX2 := hx1.trans hx2
  repeat (first
 | (with_reducible first
 | apply CW.seq | apply CW.region | apply CW.block | apply CW.ret | apply CW.skip | apply CW.label | apply CW.exit
 | apply W.nil | apply Fin.seq | apply Fin.then_ret | apply Fin.then_exit | apply Fin.blk_ret | apply Fin.blk_normal | apply Fin.blk_here)
 | (with_reducible first | refine S.move ?_ | refine S.assign ?_ | refine S.pickT ?_ | refine S.pickF ?_ | refine S.lss ?_ | refine S.gtr ?_ | refine S.leq ?_ | refine S.geq ?_ | refine S.eqT ?_ | refine S.neF ?_ | refine S.eql ?_ | refine S.neq ?_ | refine S.add ?_ | refine S.sub ?_ | refine S.mul ?_ | refine S.conv ?_ | refine S.shr1 ?_ | refine S.neg ?_ | refine S.not ?_ | refine S.extract ?_ | refine S.len ?_ | refine S.fld ?_ | refine S.index ?_ | refine S.skp ?_ | refine S.sliceTo ?_ | refine S.sliceFrom ?_ | refine S.eqNil ?_ | refine S.eqbT ?_ | refine S.nebF ?_ | refine S.eqb ?_ | refine S.neb ?_)
 | (with_reducible first | refine S.nc ?_ | refine S.fld ?_ (h1 := fLotAll) | refine S.eqP ?_ | refine S.neP ?_)
 | ((with_reducible apply CW.cond_true); exact rfl)
 | ((with_reducible apply CW.cond_false); exact rfl)
 | ((with_reducible apply Fin.blk_far); exact rfl))
  refine S.cl (op_call ent10 (by rfl) (by rfl)) (by rfl) (by rfl) (Few_calls _ L w2.heap.size w2 (hpl w2 hX2) hn) ?_
  rintro _ w3 ⟨rfl, rfl⟩
  repeat (first
 | (with_reducible first
 | apply CW.seq | apply CW.region | apply CW.block | apply CW.ret | apply CW.skip | apply CW.label | apply CW.exit
 | apply W.nil | apply Fin.seq | apply Fin.then_ret | apply Fin.then_exit | apply Fin.blk_ret | apply Fin.blk_normal | apply Fin.blk_here)
 | (with_reducible first | refine S.move ?_ | refine S.assign ?_ | refine S.pickT ?_ | refine S.pickF ?_ | refine S.lss ?_ | refine S.gtr ?_ | refine S.leq ?_ | refine S.geq ?_ | refine S.eqT ?_ | refine S.neF ?_ | refine S.eql ?_ | refine S.neq ?_ | refine S.add ?_ | refine S.sub ?_ | refine S.mul ?_ | refine S.conv ?_ | refine S.shr1 ?_ | refine S.neg ?_ | refine S.not ?_ | refine S.extract ?_ | refine S.len ?_ | refine S.fld ?_ | refine S.index ?_ | refine S.skp ?_ | refine S.sliceTo ?_ | refine S.sliceFrom ?_ | refine S.eqNil ?_ | refine S.eqbT ?_ | refine S.nebF ?_ | refine S.eqb ?_ | refine S.neb ?_)
 | (with_reducible first | refine S.nc ?_ | refine S.fld ?_ (h1 := fLotAll) | refine S.eqP ?_ | refine S.neP ?_)
 | ((with_reducible apply CW.cond_true); exact rfl)
 | ((with_reducible apply CW.cond_false); exact rfl)
 | ((with_reducible apply Fin.blk_far); exact rfl))
  refine CW.cond (by rfl) (fun h => ?_) (fun h => ?_)
  · repeat (first
 | (with_reducible first
 | apply CW.seq | apply CW.region | apply CW.block | apply CW.ret | apply CW.skip | apply CW.label | apply CW.exit
 | apply W.nil | apply Fin.seq | apply Fin.then_ret | apply Fin.then_exit | apply Fin.blk_ret | apply Fin.blk_normal | apply Fin.blk_here)
 | (with_reducible first | refine S.move ?_ | refine S.assign ?_ | refine S.pickT ?_ | refine S.pickF ?_ | refine S.lss ?_ | refine S.gtr ?_ | refine S.leq ?_ | refine S.geq ?_ | refine S.eqT ?_ | refine S.neF ?_ | refine S.eql ?_ | refine S.neq ?_ | refine S.add ?_ | refine S.sub ?_ | refine S.mul ?_ | refine S.conv ?_ | refine S.shr1 ?_ | refine S.neg ?_ | refine S.not ?_ | refine S.extract ?_ | refine S.len ?_ | refine S.fld ?_ | refine S.index ?_ | refine S.skp ?_ | refine S.sliceTo ?_ | refine S.sliceFrom ?_ | refine S.eqNil ?_ | refine S.eqbT ?_ | refine S.nebF ?_ | refine S.eqb ?_ | refine S.neb ?_)
 | (with_reducible first | refine S.nc ?_ | refine S.fld ?_ (h1 := fLotAll) | refine S.eqP ?_ | refine S.neP ?_)
 | ((with_reducible apply CW.cond_true); exact rfl)
 | ((with_reducible apply CW.cond_false); exact rfl)
 | ((with_reducible apply Fin.blk_far); exact rfl))
    refine S.cl (op_call ent9 (by rfl) (by rfl)) (by rfl) (by rfl) (awake8_calls w3 (hN.x hX2)) ?_
    rintro _ w4 ⟨rfl, hx4⟩
    repeat (first
 | (with_reducible first
 | apply CW.seq | apply CW.region | apply CW.block | apply CW.ret | apply CW.skip | apply CW.label | apply CW.exit
 | apply W.nil | apply Fin.seq | apply Fin.then_ret | apply Fin.then_exit | apply Fin.blk_ret | apply Fin.blk_normal | apply Fin.blk_here)
 | (with_reducible first | refine S.move ?_ | refine S.assign ?_ | refine S.pickT ?_ | refine S.pickF ?_ | refine S.lss ?_ | refine S.gtr ?_ | refine S.leq ?_ | refine S.geq ?_ | refine S.eqT ?_ | refine S.neF ?_ | refine S.eql ?_ | refine S.neq ?_ | refine S.add ?_ | refine S.sub ?_ | refine S.mul ?_ | refine S.conv ?_ | refine S.shr1 ?_ | refine S.neg ?_ | refine S.not ?_ | refine S.extract ?_ | refine S.len ?_ | refine S.fld ?_ | refine S.index ?_ | refine S.skp ?_ | refine S.sliceTo ?_ | refine S.sliceFrom ?_ | refine S.eqNil ?_ | refine S.eqbT ?_ | refine S.nebF ?_ | refine S.eqb ?_ | refine S.neb ?_)
 | (with_reducible first | refine S.nc ?_ | refine S.fld ?_ (h1 := fLotAll) | refine S.eqP ?_ | refine S.neP ?_)
 | ((with_reducible apply CW.cond_true); exact rfl)
 | ((with_reducible apply CW.cond_false); exact rfl)
 | ((with_reducible apply Fin.blk_far); exact rfl))
    (with_reducible apply R.r1); exact rfl; exact rfl
    exact ⟨rfl, hX2.trans hx4⟩
  have hf : fewB L = true := by simpa using h
  have hR := hq hf
  have hlen := few_len hf
  have hpr := okPrio_of hf
  clear h hq
  have hrk : ∀ p ∈ L, RK w (· < w.heap.size) p := fun p hp => hR.rk hp
  have hrk' : ∀ p ∈ L, ∀ w', X w w' → RK w' (· < w.heap.size) p ∧ ab w' p = ab w p := fun p hp w' hx => ⟨(hrk p hp).x hx, (hrk p hp).abx hx⟩
  repeat (first
 | (with_reducible first
 | apply CW.seq | apply CW.region | apply CW.block | apply CW.ret | apply CW.skip | apply CW.label | apply CW.exit
 | apply W.nil | apply Fin.seq | apply Fin.then_ret | apply Fin.then_exit | apply Fin.blk_ret | apply Fin.blk_normal | apply Fin.blk_here)
 | (with_reducible first | refine S.move ?_ | refine S.assign ?_ | refine S.pickT ?_ | refine S.pickF ?_ | refine S.lss ?_ | refine S.gtr ?_ | refine S.leq ?_ | refine S.geq ?_ | refine S.eqT ?_ | refine S.neF ?_ | refine S.eql ?_ | refine S.neq ?_ | refine S.add ?_ | refine S.sub ?_ | refine S.mul ?_ | refine S.conv ?_ | refine S.shr1 ?_ | refine S.neg ?_ | refine S.not ?_ | refine S.extract ?_ | refine S.len ?_ | refine S.fld ?_ | refine S.index ?_ | refine S.skp ?_ | refine S.sliceTo ?_ | refine S.sliceFrom ?_ | refine S.eqNil ?_ | refine S.eqbT ?_ | refine S.nebF ?_ | refine S.eqb ?_ | refine S.neb ?_)
 | (with_reducible first | refine S.nc ?_ | refine S.fld ?_ (h1 := fLotAll) | refine S.eqP ?_ | refine S.neP ?_)
 | ((with_reducible apply CW.cond_true); exact rfl)
 | ((with_reducible apply CW.cond_false); exact rfl)
 | ((with_reducible apply Fin.blk_far); exact rfl))
  refine CW.loop (ι := Nat × List (AP × Int) × (Nat → Prop)) (fun k => [(6, .int .i64 (k.1 : Int)), (5, .pointer (some ⟨b0, 0, none⟩)), (0, .slice A L.length c), (1, .int .i64 r)]) (fun k w' => X w w' ∧ k.1 ≤ L.length ∧ LA w' w.heap.size b0 k.2.2 k.2.1 ∧ PodsOf w k.2.1 (addAll [] (L.take k.1))) (fun k => L.length - k.1) ?_ (0, [], O1) (by repeat (first | exact trivial | refine ⟨congrArg (fun z : Int => some (Value.int .i64 z)) (by omega), ?_⟩ | refine ⟨rfl, ?_⟩)) ⟨hX2, Nat.zero_le _, hA2, rfl⟩
  rintro ⟨k, As, O⟩ w4 ⟨hX4, hk, hA4, hp4⟩
  simp only at hk hA4 hp4 ⊢
  clear hA2 hA1
  have hO4 : ∀ b, O b → w.heap.size ≤ b := fun b hb => (hA4.lo b hb).1
  have hasl : As.length ≤ L.length := by
    have h1 := addAll_len (L.take k) []
    have h2 := hp4.len
    rw [List.length_take, List.length_nil] at h1
    omega
  repeat (first
 | (with_reducible first
 | apply CW.seq | apply CW.region | apply CW.block | apply CW.ret | apply CW.skip | apply CW.label | apply CW.exit
 | apply W.nil | apply Fin.seq | apply Fin.then_ret | apply Fin.then_exit | apply Fin.blk_ret | apply Fin.blk_normal | apply Fin.blk_here)
 | (with_reducible first | refine S.move ?_ | refine S.assign ?_ | refine S.pickT ?_ | refine S.pickF ?_ | refine S.lss ?_ | refine S.gtr ?_ | refine S.leq ?_ | refine S.geq ?_ | refine S.eqT ?_ | refine S.neF ?_ | refine S.eql ?_ | refine S.neq ?_ | refine S.add ?_ | refine S.sub ?_ | refine S.mul ?_ | refine S.conv ?_ | refine S.shr1 ?_ | refine S.neg ?_ | refine S.not ?_ | refine S.extract ?_ | refine S.len ?_ | refine S.fld ?_ | refine S.index ?_ | refine S.skp ?_ | refine S.sliceTo ?_ | refine S.sliceFrom ?_ | refine S.eqNil ?_ | refine S.eqbT ?_ | refine S.nebF ?_ | refine S.eqb ?_ | refine S.neb ?_)
 | (with_reducible first | refine S.nc ?_ | refine S.fld ?_ (h1 := fLotAll) | refine S.eqP ?_ | refine S.neP ?_)
 | ((with_reducible apply CW.cond_true); exact rfl)
 | ((with_reducible apply CW.cond_false); exact rfl)
 | ((with_reducible apply Fin.blk_far); exact rfl))
  refine CW.cond (by rfl) (fun h => ?_) (fun h => ?_)
  · have hk' : k < L.length := by have := of_decide_eq_true h; omega
    clear h
    have hpk : L[k]? = some L[k] := List.getElem?_eq_getElem hk'
    have hrkp := hrk' _ (List.getElem_mem hk')
    have hst : addAll [] (L.take (k + 1)) = addP (addAll [] (L.take k)) L[k] := addAll_step [] L hk'
    generalize hpe : L[k] = p at *
    obtain ⟨A', c', e', _, hat4⟩ := (hpl w4 hX4).open_
    cases e'
    obtain ⟨bw, o, rfl, hbw, hcell⟩ := hat4 k hk'
    obtain ⟨s, hs, hse⟩ := and3 r
    repeat (first
 | (with_reducible first
 | apply CW.seq | apply CW.region | apply CW.block | apply CW.ret | apply CW.skip | apply CW.label | apply CW.exit
 | apply W.nil | apply Fin.seq | apply Fin.then_ret | apply Fin.then_exit | apply Fin.blk_ret | apply Fin.blk_normal | apply Fin.blk_here)
 | (with_reducible first | refine S.move ?_ | refine S.assign ?_ | refine S.pickT ?_ | refine S.pickF ?_ | refine S.lss ?_ | refine S.gtr ?_ | refine S.leq ?_ | refine S.geq ?_ | refine S.eqT ?_ | refine S.neF ?_ | refine S.eql ?_ | refine S.neq ?_ | refine S.add ?_ | refine S.sub ?_ | refine S.mul ?_ | refine S.conv ?_ | refine S.shr1 ?_ | refine S.neg ?_ | refine S.not ?_ | refine S.extract ?_ | refine S.len ?_ | refine S.fld ?_ | refine S.index ?_ | refine S.skp ?_ | refine S.sliceTo ?_ | refine S.sliceFrom ?_ | refine S.eqNil ?_ | refine S.eqbT ?_ | refine S.nebF ?_ | refine S.eqb ?_ | refine S.neb ?_)
 | (with_reducible first | refine S.nc ?_ | refine S.fld ?_ (h1 := fLotAll) | refine S.eqP ?_ | refine S.neP ?_)
 | ((with_reducible apply CW.cond_true); exact rfl)
 | ((with_reducible apply CW.cond_false); exact rfl)
 | ((with_reducible apply Fin.blk_far); exact rfl))
    refine S.lds (cs := p.cs) (by rfl) stPod (fun j u hj => hcell k p j u hpk hj) (by rfl) (by rfl) ?_
    repeat (first
 | (with_reducible first
 | apply CW.seq | apply CW.region | apply CW.block | apply CW.ret | apply CW.skip | apply CW.label | apply CW.exit
 | apply W.nil | apply Fin.seq | apply Fin.then_ret | apply Fin.then_exit | apply Fin.blk_ret | apply Fin.blk_normal | apply Fin.blk_here)
 | (with_reducible first | refine S.move ?_ | refine S.assign ?_ | refine S.pickT ?_ | refine S.pickF ?_ | refine S.lss ?_ | refine S.gtr ?_ | refine S.leq ?_ | refine S.geq ?_ | refine S.eqT ?_ | refine S.neF ?_ | refine S.eql ?_ | refine S.neq ?_ | refine S.add ?_ | refine S.sub ?_ | refine S.mul ?_ | refine S.conv ?_ | refine S.shr1 ?_ | refine S.neg ?_ | refine S.not ?_ | refine S.extract ?_ | refine S.len ?_ | refine S.fld ?_ | refine S.index ?_ | refine S.skp ?_ | refine S.sliceTo ?_ | refine S.sliceFrom ?_ | refine S.eqNil ?_ | refine S.eqbT ?_ | refine S.nebF ?_ | refine S.eqb ?_ | refine S.neb ?_)
 | (with_reducible first | refine S.nc ?_ | refine S.fld ?_ (h1 := fLotAll) | refine S.eqP ?_ | refine S.neP ?_)
 | ((with_reducible apply CW.cond_true); exact rfl)
 | ((with_reducible apply CW.cond_false); exact rfl)
 | ((with_reducible apply Fin.blk_far); exact rfl))
    refine W.pure (d := some 36) (op_and (by rfl) (by rfl)) (by rfl) (by rfl) ?_
    rw [hse]
    repeat (first
 | (with_reducible first
 | apply CW.seq | apply CW.region | apply CW.block | apply CW.ret | apply CW.skip | apply CW.label | apply CW.exit
 | apply W.nil | apply Fin.seq | apply Fin.then_ret | apply Fin.then_exit | apply Fin.blk_ret | apply Fin.blk_normal | apply Fin.blk_here)
 | (with_reducible first | refine S.move ?_ | refine S.assign ?_ | refine S.pickT ?_ | refine S.pickF ?_ | refine S.lss ?_ | refine S.gtr ?_ | refine S.leq ?_ | refine S.geq ?_ | refine S.eqT ?_ | refine S.neF ?_ | refine S.eql ?_ | refine S.neq ?_ | refine S.add ?_ | refine S.sub ?_ | refine S.mul ?_ | refine S.conv ?_ | refine S.shr1 ?_ | refine S.neg ?_ | refine S.not ?_ | refine S.extract ?_ | refine S.len ?_ | refine S.fld ?_ | refine S.index ?_ | refine S.skp ?_ | refine S.sliceTo ?_ | refine S.sliceFrom ?_ | refine S.eqNil ?_ | refine S.eqbT ?_ | refine S.nebF ?_ | refine S.eqb ?_ | refine S.neb ?_)
 | (with_reducible first | refine S.nc ?_ | refine S.fld ?_ (h1 := fLotAll) | refine S.eqP ?_ | refine S.neP ?_)
 | ((with_reducible apply CW.cond_true); exact rfl)
 | ((with_reducible apply CW.cond_false); exact rfl)
 | ((with_reducible apply Fin.blk_far); exact rfl))
    refine W.pure (d := some 39) (op_rem4 (a := s + k) (by rfl) (by rfl)) (by rfl) (by rfl) ?_
    have h4 : (s + k) % 4 < 4 := Nat.mod_lt _ (by decide)
    generalize (s + k) % 4 = m at *
    repeat (first
 | (with_reducible first
 | apply CW.seq | apply CW.region | apply CW.block | apply CW.ret | apply CW.skip | apply CW.label | apply CW.exit
 | apply W.nil | apply Fin.seq | apply Fin.then_ret | apply Fin.then_exit | apply Fin.blk_ret | apply Fin.blk_normal | apply Fin.blk_here)
 | (with_reducible first | refine S.move ?_ | refine S.assign ?_ | refine S.pickT ?_ | refine S.pickF ?_ | refine S.lss ?_ | refine S.gtr ?_ | refine S.leq ?_ | refine S.geq ?_ | refine S.eqT ?_ | refine S.neF ?_ | refine S.eql ?_ | refine S.neq ?_ | refine S.add ?_ | refine S.sub ?_ | refine S.mul ?_ | refine S.conv ?_ | refine S.shr1 ?_ | refine S.neg ?_ | refine S.not ?_ | refine S.extract ?_ | refine S.len ?_ | refine S.fld ?_ | refine S.index ?_ | refine S.skp ?_ | refine S.sliceTo ?_ | refine S.sliceFrom ?_ | refine S.eqNil ?_ | refine S.eqbT ?_ | refine S.nebF ?_ | refine S.eqb ?_ | refine S.neb ?_)
 | (with_reducible first | refine S.nc ?_ | refine S.fld ?_ (h1 := fLotAll) | refine S.eqP ?_ | refine S.neP ?_)
 | ((with_reducible apply CW.cond_true); exact rfl)
 | ((with_reducible apply CW.cond_false); exact rfl)
 | ((with_reducible apply Fin.blk_far); exact rfl))
    refine S.cl (op_call ent11 (by rfl) (by rfl)) (by rfl) (by rfl) (lAdd_calls w.heap.size b0 O As p (1 + (m : Int)) w4 hA4 ((hrkp w4 hX4).1.mono fun _ _ _ => trivial)) ?_
    rintro _ w5 ⟨rfl, O5, hA5, hF5⟩
    rw [(hrkp w4 hX4).2] at hA5
    repeat (first
 | (with_reducible first
 | apply CW.seq | apply CW.region | apply CW.block | apply CW.ret | apply CW.skip | apply CW.label | apply CW.exit
 | apply W.nil | apply Fin.seq | apply Fin.then_ret | apply Fin.then_exit | apply Fin.blk_ret | apply Fin.blk_normal | apply Fin.blk_here)
 | (with_reducible first | refine S.move ?_ | refine S.assign ?_ | refine S.pickT ?_ | refine S.pickF ?_ | refine S.lss ?_ | refine S.gtr ?_ | refine S.leq ?_ | refine S.geq ?_ | refine S.eqT ?_ | refine S.neF ?_ | refine S.eql ?_ | refine S.neq ?_ | refine S.add ?_ | refine S.sub ?_ | refine S.mul ?_ | refine S.conv ?_ | refine S.shr1 ?_ | refine S.neg ?_ | refine S.not ?_ | refine S.extract ?_ | refine S.len ?_ | refine S.fld ?_ | refine S.index ?_ | refine S.skp ?_ | refine S.sliceTo ?_ | refine S.sliceFrom ?_ | refine S.eqNil ?_ | refine S.eqbT ?_ | refine S.nebF ?_ | refine S.eqb ?_ | refine S.neb ?_)
 | (with_reducible first | refine S.nc ?_ | refine S.fld ?_ (h1 := fLotAll) | refine S.eqP ?_ | refine S.neP ?_)
 | ((with_reducible apply CW.cond_true); exact rfl)
 | ((with_reducible apply CW.cond_false); exact rfl)
 | ((with_reducible apply Fin.blk_far); exact rfl))
    refine Fin.round (k + 1, _, O5) (by simp only; omega) (by repeat (first | exact trivial | refine ⟨congrArg (fun z : Int => some (Value.int .i64 z)) (by omega), ?_⟩ | refine ⟨rfl, ?_⟩)) ⟨hF5.xx hX4 hO4, hk', hA5, by simp only; rw [hst]; exact hp4.add (by omega) (by omega)⟩
  · have hk2 : k = L.length := by have := of_decide_eq_false h; omega
    subst hk2
    clear h
    rw [List.take_length] at hp4
    have hsa := hp4.sort
    have hLl := addAll_len L []
    have hsl := sortR_len (addAll [] L)
    have hsm := sort_mem (L := L)
    have hal := hp4.len
    have hLWl : (sortR (addAll [] L)).length ≤ 100 := by rw [hsl]; simp only [List.length_nil, Nat.zero_add] at hLl; omega
    repeat (first
 | (with_reducible first
 | apply CW.seq | apply CW.region | apply CW.block | apply CW.ret | apply CW.skip | apply CW.label | apply CW.exit
 | apply W.nil | apply Fin.seq | apply Fin.then_ret | apply Fin.then_exit | apply Fin.blk_ret | apply Fin.blk_normal | apply Fin.blk_here)
 | (with_reducible first | refine S.move ?_ | refine S.assign ?_ | refine S.pickT ?_ | refine S.pickF ?_ | refine S.lss ?_ | refine S.gtr ?_ | refine S.leq ?_ | refine S.geq ?_ | refine S.eqT ?_ | refine S.neF ?_ | refine S.eql ?_ | refine S.neq ?_ | refine S.add ?_ | refine S.sub ?_ | refine S.mul ?_ | refine S.conv ?_ | refine S.shr1 ?_ | refine S.neg ?_ | refine S.not ?_ | refine S.extract ?_ | refine S.len ?_ | refine S.fld ?_ | refine S.index ?_ | refine S.skp ?_ | refine S.sliceTo ?_ | refine S.sliceFrom ?_ | refine S.eqNil ?_ | refine S.eqbT ?_ | refine S.nebF ?_ | refine S.eqb ?_ | refine S.neb ?_)
 | (with_reducible first | refine S.nc ?_ | refine S.fld ?_ (h1 := fLotAll) | refine S.eqP ?_ | refine S.neP ?_)
 | ((with_reducible apply CW.cond_true); exact rfl)
 | ((with_reducible apply CW.cond_false); exact rfl)
 | ((with_reducible apply Fin.blk_far); exact rfl))
    refine S.cl (op_call ent13 (by rfl) (by rfl)) (by rfl) (by rfl) (lWake_calls w.heap.size b0 O As w4 hA4 (by omega)) ?_
    rintro v5 w5 ⟨⟨Ls, hN5, hLs, hLl5, hown⟩, hA5, hF5⟩
    have hX5 := hF5.xx hX4 hO4
    repeat (first
 | (with_reducible first
 | apply CW.seq | apply CW.region | apply CW.block | apply CW.ret | apply CW.skip | apply CW.label | apply CW.exit
 | apply W.nil | apply Fin.seq | apply Fin.then_ret | apply Fin.then_exit | apply Fin.blk_ret | apply Fin.blk_normal | apply Fin.blk_here)
 | (with_reducible first | refine S.move ?_ | refine S.assign ?_ | refine S.pickT ?_ | refine S.pickF ?_ | refine S.lss ?_ | refine S.gtr ?_ | refine S.leq ?_ | refine S.geq ?_ | refine S.eqT ?_ | refine S.neF ?_ | refine S.eql ?_ | refine S.neq ?_ | refine S.add ?_ | refine S.sub ?_ | refine S.mul ?_ | refine S.conv ?_ | refine S.shr1 ?_ | refine S.neg ?_ | refine S.not ?_ | refine S.extract ?_ | refine S.len ?_ | refine S.fld ?_ | refine S.index ?_ | refine S.skp ?_ | refine S.sliceTo ?_ | refine S.sliceFrom ?_ | refine S.eqNil ?_ | refine S.eqbT ?_ | refine S.nebF ?_ | refine S.eqb ?_ | refine S.neb ?_)
 | (with_reducible first | refine S.nc ?_ | refine S.fld ?_ (h1 := fLotAll) | refine S.eqP ?_ | refine S.neP ?_)
 | ((with_reducible apply CW.cond_true); exact rfl)
 | ((with_reducible apply CW.cond_false); exact rfl)
 | ((with_reducible apply Fin.blk_far); exact rfl))
    refine S.cl (op_call ent14 (by rfl) (by rfl)) (by rfl) (by rfl) (refPush_calls _ (.slice A L.length c) [] L w5 (PS.nil _ _) (hpl w5 hX5) (by simp; omega) (fun p hp => by
      rcases hp with hp | hp
      · cases hp
      · exact hpr p hp)) ?_
    rintro v6 w6 ⟨hO6, hx6⟩
    have hX6 := hX5.trans hx6
    have hown6 : ∀ p ∈ Ls, RK w6 (fun _ => True) p ∧ ab w6 p = ab w5 p := fun p hp => ⟨((hown p hp).rk.x hx6).mono fun _ _ _ => trivial, (hown p hp).rk.abx hx6⟩
    have hsame : Ls.map (ab w6) = (sortR (addAll [] L)).map (ab w6) := by
      rw [List.map_congr_left fun p hp => (hown6 p hp).2, hLs, hsa]
      exact List.map_congr_left fun p hp => ((hrk' p (hsm p hp) w6 hX6).2).symm
    refine S.cl (op_call ent12 (by rfl) (by rfl)) (by rfl) (by rfl) (Same_ab v5 v6 Ls _ w6 ((hN5.psk.x hx6).ps) hO6.ps hsame (fun p hp => (hown6 p hp).1) (fun p hp => (hrk' p (hsm p hp) w6 hX6).1.mono fun _ _ _ => trivial) (by omega)) ?_
    rintro _ w7 ⟨rfl, hx7⟩
    have hX7 := hX6.trans hx7
    have hA7 := (hA5.x hx6).x hx7
    repeat (first
 | (with_reducible first
 | apply CW.seq | apply CW.region | apply CW.block | apply CW.ret | apply CW.skip | apply CW.label | apply CW.exit
 | apply W.nil | apply Fin.seq | apply Fin.then_ret | apply Fin.then_exit | apply Fin.blk_ret | apply Fin.blk_normal | apply Fin.blk_here)
 | (with_reducible first | refine S.move ?_ | refine S.assign ?_ | refine S.pickT ?_ | refine S.pickF ?_ | refine S.lss ?_ | refine S.gtr ?_ | refine S.leq ?_ | refine S.geq ?_ | refine S.eqT ?_ | refine S.neF ?_ | refine S.eql ?_ | refine S.neq ?_ | refine S.add ?_ | refine S.sub ?_ | refine S.mul ?_ | refine S.conv ?_ | refine S.shr1 ?_ | refine S.neg ?_ | refine S.not ?_ | refine S.extract ?_ | refine S.len ?_ | refine S.fld ?_ | refine S.index ?_ | refine S.skp ?_ | refine S.sliceTo ?_ | refine S.sliceFrom ?_ | refine S.eqNil ?_ | refine S.eqbT ?_ | refine S.nebF ?_ | refine S.eqb ?_ | refine S.neb ?_)
 | (with_reducible first | refine S.nc ?_ | refine S.fld ?_ (h1 := fLotAll) | refine S.eqP ?_ | refine S.neP ?_)
 | ((with_reducible apply CW.cond_true); exact rfl)
 | ((with_reducible apply CW.cond_false); exact rfl)
 | ((with_reducible apply Fin.blk_far); exact rfl))
    refine S.cl (op_call ent13 (by rfl) (by rfl)) (by rfl) (by rfl) (lWake_calls w.heap.size b0 O [] w7 hA7 (by simp)) ?_
    rintro v8 w8 ⟨⟨Ls8, hN8, _, hL8, _⟩, hA8, hF8⟩
    have hX8 := hF8.xx hX7 hO4
    obtain ⟨A8, c8, g8, rfl, _⟩ := hN8.open_
    rw [show Ls8.length = 0 from hL8]
    repeat (first
 | (with_reducible first
 | apply CW.seq | apply CW.region | apply CW.block | apply CW.ret | apply CW.skip | apply CW.label | apply CW.exit
 | apply W.nil | apply Fin.seq | apply Fin.then_ret | apply Fin.then_exit | apply Fin.blk_ret | apply Fin.blk_normal | apply Fin.blk_here)
 | (with_reducible first | refine S.move ?_ | refine S.assign ?_ | refine S.pickT ?_ | refine S.pickF ?_ | refine S.lss ?_ | refine S.gtr ?_ | refine S.leq ?_ | refine S.geq ?_ | refine S.eqT ?_ | refine S.neF ?_ | refine S.eql ?_ | refine S.neq ?_ | refine S.add ?_ | refine S.sub ?_ | refine S.mul ?_ | refine S.conv ?_ | refine S.shr1 ?_ | refine S.neg ?_ | refine S.not ?_ | refine S.extract ?_ | refine S.len ?_ | refine S.fld ?_ | refine S.index ?_ | refine S.skp ?_ | refine S.sliceTo ?_ | refine S.sliceFrom ?_ | refine S.eqNil ?_ | refine S.eqbT ?_ | refine S.nebF ?_ | refine S.eqb ?_ | refine S.neb ?_)
 | (with_reducible first | refine S.nc ?_ | refine S.fld ?_ (h1 := fLotAll) | refine S.eqP ?_ | refine S.neP ?_)
 | ((with_reducible apply CW.cond_true); exact rfl)
 | ((with_reducible apply CW.cond_false); exact rfl)
 | ((with_reducible apply Fin.blk_far); exact rfl))
    refine S.cl (op_call ent15 (by rfl) (by rfl)) (by rfl) (by rfl) (lAll_calls w.heap.size b0 O [] w8 hA8 (by simp)) ?_
    rintro v9 w9 ⟨⟨Ls9, hN9, _, hL9, _⟩, hx9⟩
    obtain ⟨A9, c9, g9, rfl, _⟩ := hN9.open_
    rw [show Ls9.length = 0 from hL9]
    repeat (first
 | (with_reducible first
 | apply CW.seq | apply CW.region | apply CW.block | apply CW.ret | apply CW.skip | apply CW.label | apply CW.exit
 | apply W.nil | apply Fin.seq | apply Fin.then_ret | apply Fin.then_exit | apply Fin.blk_ret | apply Fin.blk_normal | apply Fin.blk_here)
 | (with_reducible first | refine S.move ?_ | refine S.assign ?_ | refine S.pickT ?_ | refine S.pickF ?_ | refine S.lss ?_ | refine S.gtr ?_ | refine S.leq ?_ | refine S.geq ?_ | refine S.eqT ?_ | refine S.neF ?_ | refine S.eql ?_ | refine S.neq ?_ | refine S.add ?_ | refine S.sub ?_ | refine S.mul ?_ | refine S.conv ?_ | refine S.shr1 ?_ | refine S.neg ?_ | refine S.not ?_ | refine S.extract ?_ | refine S.len ?_ | refine S.fld ?_ | refine S.index ?_ | refine S.skp ?_ | refine S.sliceTo ?_ | refine S.sliceFrom ?_ | refine S.eqNil ?_ | refine S.eqbT ?_ | refine S.nebF ?_ | refine S.eqb ?_ | refine S.neb ?_)
 | (with_reducible first | refine S.nc ?_ | refine S.fld ?_ (h1 := fLotAll) | refine S.eqP ?_ | refine S.neP ?_)
 | ((with_reducible apply CW.cond_true); exact rfl)
 | ((with_reducible apply CW.cond_false); exact rfl)
 | ((with_reducible apply Fin.blk_far); exact rfl))
    refine S.cl (op_call ent16 (by rfl) (by rfl)) (by rfl) (by rfl) (lCount_calls w.heap.size b0 O [] 1 w9 (hA8.x hx9) (by simp)) ?_
    rintro _ w10 ⟨rfl, hx10⟩
    rw [show (cntA [] 1 : Int) = 0 from rfl]
    repeat (first
 | (with_reducible first
 | apply CW.seq | apply CW.region | apply CW.block | apply CW.ret | apply CW.skip | apply CW.label | apply CW.exit
 | apply W.nil | apply Fin.seq | apply Fin.then_ret | apply Fin.then_exit | apply Fin.blk_ret | apply Fin.blk_normal | apply Fin.blk_here)
 | (with_reducible first | refine S.move ?_ | refine S.assign ?_ | refine S.pickT ?_ | refine S.pickF ?_ | refine S.lss ?_ | refine S.gtr ?_ | refine S.leq ?_ | refine S.geq ?_ | refine S.eqT ?_ | refine S.neF ?_ | refine S.eql ?_ | refine S.neq ?_ | refine S.add ?_ | refine S.sub ?_ | refine S.mul ?_ | refine S.conv ?_ | refine S.shr1 ?_ | refine S.neg ?_ | refine S.not ?_ | refine S.extract ?_ | refine S.len ?_ | refine S.fld ?_ | refine S.index ?_ | refine S.skp ?_ | refine S.sliceTo ?_ | refine S.sliceFrom ?_ | refine S.eqNil ?_ | refine S.eqbT ?_ | refine S.nebF ?_ | refine S.eqb ?_ | refine S.neb ?_)
 | (with_reducible first | refine S.nc ?_ | refine S.fld ?_ (h1 := fLotAll) | refine S.eqP ?_ | refine S.neP ?_)
 | ((with_reducible apply CW.cond_true); exact rfl)
 | ((with_reducible apply CW.cond_false); exact rfl)
 | ((with_reducible apply Fin.blk_far); exact rfl))
    (with_reducible apply R.r1); exact rfl; exact rfl
    exact ⟨rfl, (hX8.trans hx9).trans hx10⟩

end Go.Proofs.YtmilpjkjcanghaaDoor

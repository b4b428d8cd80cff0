/- The reference's lot: All, Count, Add. -/
import Derived.Test.YtmilpjkjcanghaaDoorP8
namespace Go.Proofs.YtmilpjkjcanghaaDoor
open Go.RowKit
set_option linter.unusedVariables false
set_option linter.unusedSimpArgs false

theorem szRL : (Tryd.prog.info? 43).map (·.size) = some 2 := by kernel_rfl
theorem zRL : (Tryd.prog.info? 43).map (fun j => (j.size, j.zero)) = some (2, some (.agg #[.slice none 0 0, .slice none 0 0])) := by kernel_rfl
theorem stRL : StOf Tryd.prog 43 2 := ⟨_, Tryd.underlying43, szRL⟩
theorem szPodsS : (Tryd.prog.info? 22).map (·.size) = some (0 + 1) := by kernel_rfl
theorem szIntsS : (Tryd.prog.info? 38).map (·.size) = some (0 + 1) := by kernel_rfl
theorem zInt1 : (Tryd.prog.info? 3).map (fun j => (j.size, j.zero)) = some (1, some (.int .i64 0)) := by kernel_rfl
theorem oneInts : ∃ d, Tryd.prog.underlying 38 = some d ∧ oneDesc d = true := ⟨_, Tryd.underlying38, rfl⟩
theorem fRLP : Fld Tryd.prog 43 0 0 := Fld.of Tryd.underlying43 rfl rfl szPodsS
theorem fRLR : Fld Tryd.prog 43 1 1 := Fld.of Tryd.underlying43 rfl rfl szIntsS
theorem szPod1 : (Tryd.prog.info? 30).map (·.size) = some (8 + 1) := by kernel_rfl
theorem szOp11 : (Tryd.prog.info? 47).map (·.size) = some 11 := by kernel_rfl
theorem slOps : SlOf Tryd.prog 40 47 11 := ⟨Tryd.underlying40, szOp11⟩
theorem stOp : StOf Tryd.prog 47 11 := ⟨_, Tryd.underlying47, szOp11⟩
theorem fOpKind : Fld Tryd.prog 47 0 0 := Fld.of Tryd.underlying47 rfl rfl szInt
theorem fOpPod : Fld Tryd.prog 47 1 1 := Fld.of Tryd.underlying47 rfl rfl szPod1
theorem fOpReason : Fld Tryd.prog 47 2 10 := Fld.of Tryd.underlying47 rfl rfl szInt

/-- The reference's lot, as a value. -/
def lotV (a b : Value) : Value := .agg #[a, b]
structure RLt (w : World) (K : Nat → Prop) (a b : Value) (Z : List (PV × Int)) : Prop where
  ps : PSK w K a (Z.map (·.1))
  is : ISV w K b (Z.map (·.2))
theorem RLt.keep {w w' : World} {K : Nat → Prop} {a b : Value} {Z : List (PV × Int)} (h : RLt w K a b Z) (hs : ∀ k, k < w.heap.size → K k → w'.heap[k]? = w.heap[k]?) : RLt w' K a b Z := ⟨h.ps.keep hs, h.is.keep hs⟩
theorem RLt.x {w w' : World} {K : Nat → Prop} {a b : Value} {Z : List (PV × Int)} (h : RLt w K a b Z) (hx : X w w') : RLt w' K a b Z := h.keep fun k hk _ => hx.block k hk
theorem RLt.mono {w : World} {K K' : Nat → Prop} {a b : Value} {Z : List (PV × Int)} (h : RLt w K a b Z) (hk : ∀ b, b < w.heap.size → K b → K' b) : RLt w K' a b Z := ⟨h.ps.mono hk, h.is.mono hk⟩
theorem RLt.nil (w : World) (K : Nat → Prop) : RLt w K (.slice none 0 0) (.slice none 0 0) [] := ⟨PSK.nil w K, ISV.nil w K⟩
theorem RLt.cells {w : World} {K : Nat → Prop} {a b : Value} {Z : List (PV × Int)} (h : RLt w K a b Z) : a.oneCell' = true ∧ b.oneCell' = true ∧ a.cells = #[a] ∧ b.cells = #[b] := by
  obtain ⟨A, c, rfl, _⟩ := h.ps
  obtain ⟨A', c', rfl, _⟩ := h.is
  exact ⟨rfl, rfl, rfl, rfl⟩

theorem refAll_calls (a b : Value) (Z : List (PV × Int)) (w : World) (h : RLt w (fun _ => True) a b Z) (hn : Z.length ≤ 400) (hp : ∀ p ∈ Z.map (·.1), okPrio p) :
    CallsR Tryd.prog 21 [lotV a b] w fun v w' => OwnP w' w.heap.size v (sortR (Z.map (·.1))) ∧ X w w' := by
  refine enter1 Tryd.func21 rfl Tryd.ntmps21 rfl ?_
  refine CW.seq ?_
  refine CW.region ?_
  refine W.newBlk (d := some 1) (mk := fun b => .pointer (some ⟨b, 0, none⟩)) (cs := [a, b]) (op_box (by rfl) (by rfl)) (by rfl) (by rfl) ?_
  intro b1 w1 hx1 hb1 hB1
  repeat (first
 | (with_reducible first
 | apply CW.seq | apply CW.region | apply CW.block | apply CW.ret | apply CW.skip | apply CW.label | apply CW.exit
 | apply W.nil | apply Fin.seq | apply Fin.then_ret | apply Fin.then_exit | apply Fin.blk_ret | apply Fin.blk_normal | apply Fin.blk_here)
 | (with_reducible first | refine S.move ?_ | refine S.assign ?_ | refine S.pickT ?_ | refine S.pickF ?_ | refine S.lss ?_ | refine S.gtr ?_ | refine S.leq ?_ | refine S.geq ?_ | refine S.eqT ?_ | refine S.neF ?_ | refine S.eql ?_ | refine S.neq ?_ | refine S.add ?_ | refine S.sub ?_ | refine S.mul ?_ | refine S.conv ?_ | refine S.shr1 ?_ | refine S.neg ?_ | refine S.not ?_ | refine S.extract ?_ | refine S.len ?_ | refine S.fld ?_ | refine S.index ?_ | refine S.skp ?_ | refine S.sliceTo ?_ | refine S.sliceFrom ?_ | refine S.eqNil ?_ | refine S.eqbT ?_ | refine S.nebF ?_ | refine S.eqb ?_ | refine S.neb ?_)
 | (with_reducible first | refine S.nc ?_ | refine S.fld ?_ (h1 := fRLP) | refine S.fld ?_ (h1 := fRLR) | refine S.fld ?_ (h1 := fOpKind) | refine S.fld ?_ (h1 := fOpPod) | refine S.fld ?_ (h1 := fOpReason) | refine S.eqP ?_ | refine S.neP ?_)
 | ((with_reducible apply CW.cond_true); exact rfl)
 | ((with_reducible apply CW.cond_false); exact rfl)
 | ((with_reducible apply Fin.blk_far); exact rfl))
  ((with_reducible apply S.ld); exact rfl; (with_reducible first | exact oneInt | exact oneI64s | exact oneBool | exact oneI64 | exact onePods | exact oneMap); (exact hB1.cell rfl); exact rfl; exact rfl)
  refine S.cl (op_call ent27 (by rfl) (by rfl)) (by rfl) (by rfl) (refSort_calls a _ w1 (h.ps.x hx1).ps (by simpa using hn) hp) ?_
  rintro v2 w2 ⟨hO2, hx2⟩
  repeat (first
 | (with_reducible first
 | apply CW.seq | apply CW.region | apply CW.block | apply CW.ret | apply CW.skip | apply CW.label | apply CW.exit
 | apply W.nil | apply Fin.seq | apply Fin.then_ret | apply Fin.then_exit | apply Fin.blk_ret | apply Fin.blk_normal | apply Fin.blk_here)
 | (with_reducible first | refine S.move ?_ | refine S.assign ?_ | refine S.pickT ?_ | refine S.pickF ?_ | refine S.lss ?_ | refine S.gtr ?_ | refine S.leq ?_ | refine S.geq ?_ | refine S.eqT ?_ | refine S.neF ?_ | refine S.eql ?_ | refine S.neq ?_ | refine S.add ?_ | refine S.sub ?_ | refine S.mul ?_ | refine S.conv ?_ | refine S.shr1 ?_ | refine S.neg ?_ | refine S.not ?_ | refine S.extract ?_ | refine S.len ?_ | refine S.fld ?_ | refine S.index ?_ | refine S.skp ?_ | refine S.sliceTo ?_ | refine S.sliceFrom ?_ | refine S.eqNil ?_ | refine S.eqbT ?_ | refine S.nebF ?_ | refine S.eqb ?_ | refine S.neb ?_)
 | (with_reducible first | refine S.nc ?_ | refine S.fld ?_ (h1 := fRLP) | refine S.fld ?_ (h1 := fRLR) | refine S.fld ?_ (h1 := fOpKind) | refine S.fld ?_ (h1 := fOpPod) | refine S.fld ?_ (h1 := fOpReason) | refine S.eqP ?_ | refine S.neP ?_)
 | ((with_reducible apply CW.cond_true); exact rfl)
 | ((with_reducible apply CW.cond_false); exact rfl)
 | ((with_reducible apply Fin.blk_far); exact rfl))
  (with_reducible apply R.r1); exact rfl; exact rfl
  exact ⟨hO2.low hx1.le, hx1.trans hx2⟩

def cntI (l : List Int) (r : Int) : Nat := (l.filter fun x => x == r).length
theorem cntI_take {l : List Int} {r : Int} {k : Nat} (hk : k < l.length) : cntI (l.take (k + 1)) r = cntI (l.take k) r + (if l[k] = r then 1 else 0) := by
  unfold cntI
  rw [List.take_succ_eq_append_getElem hk, List.filter_append, List.length_append]
  by_cases h : l[k] = r <;> simp [h]

theorem refCount_calls (a b : Value) (Z : List (PV × Int)) (r : Int) (w : World) (h : RLt w (fun _ => True) a b Z) (hn : Z.length ≤ 400) :
    CallsR Tryd.prog 24 [lotV a b, .int .i64 r] w fun v w' => v = .int .i64 (cntI (Z.map (·.2)) r : Int) ∧ X w w' := by
  obtain ⟨A, c, rfl, hc, _, hat⟩ := h.is
  have hnl : (Z.map (·.2)).length ≤ 400 := by simpa using hn
  clear h hn
  generalize Z.map (·.2) = l at *
  refine enter2 Tryd.func24 rfl Tryd.ntmps24 rfl ?_
  refine CW.seq ?_
  refine CW.region ?_
  refine W.newBlk (d := some 2) (mk := fun b => .pointer (some ⟨b, 0, none⟩)) (cs := [a, .slice A l.length c]) (op_box (by rfl) (by rfl)) (by rfl) (by rfl) ?_
  intro b1 w1 hx1 hb1 hB1
  repeat (first
 | (with_reducible first
 | apply CW.seq | apply CW.region | apply CW.block | apply CW.ret | apply CW.skip | apply CW.label | apply CW.exit
 | apply W.nil | apply Fin.seq | apply Fin.then_ret | apply Fin.then_exit | apply Fin.blk_ret | apply Fin.blk_normal | apply Fin.blk_here)
 | (with_reducible first | refine S.move ?_ | refine S.assign ?_ | refine S.pickT ?_ | refine S.pickF ?_ | refine S.lss ?_ | refine S.gtr ?_ | refine S.leq ?_ | refine S.geq ?_ | refine S.eqT ?_ | refine S.neF ?_ | refine S.eql ?_ | refine S.neq ?_ | refine S.add ?_ | refine S.sub ?_ | refine S.mul ?_ | refine S.conv ?_ | refine S.shr1 ?_ | refine S.neg ?_ | refine S.not ?_ | refine S.extract ?_ | refine S.len ?_ | refine S.fld ?_ | refine S.index ?_ | refine S.skp ?_ | refine S.sliceTo ?_ | refine S.sliceFrom ?_ | refine S.eqNil ?_ | refine S.eqbT ?_ | refine S.nebF ?_ | refine S.eqb ?_ | refine S.neb ?_)
 | (with_reducible first | refine S.nc ?_ | refine S.fld ?_ (h1 := fRLP) | refine S.fld ?_ (h1 := fRLR) | refine S.fld ?_ (h1 := fOpKind) | refine S.fld ?_ (h1 := fOpPod) | refine S.fld ?_ (h1 := fOpReason) | refine S.eqP ?_ | refine S.neP ?_)
 | ((with_reducible apply CW.cond_true); exact rfl)
 | ((with_reducible apply CW.cond_false); exact rfl)
 | ((with_reducible apply Fin.blk_far); exact rfl))
  refine CW.loop (ι := Nat) (fun k => [(6, .int .i64 (k : Int)), (5, .int .i64 (cntI (l.take k) r : Int)), (2, .pointer (some ⟨b1, 0, none⟩)), (1, .int .i64 r)]) (fun k w' => w' = w1 ∧ k ≤ l.length) (fun k => l.length - k) ?_ 0 (by repeat (first | exact trivial | refine ⟨congrArg (fun z : Int => some (Value.int .i64 z)) (by omega), ?_⟩ | refine ⟨rfl, ?_⟩)) ⟨rfl, Nat.zero_le _⟩
  rintro k w' ⟨rfl, hk⟩
  have hle : cntI (l.take k) r ≤ 400 := by
    have := List.length_filter_le (fun x => x == r) (l.take k)
    rw [List.length_take] at this
    unfold cntI
    omega
  repeat (first
 | (with_reducible first
 | apply CW.seq | apply CW.region | apply CW.block | apply CW.ret | apply CW.skip | apply CW.label | apply CW.exit
 | apply W.nil | apply Fin.seq | apply Fin.then_ret | apply Fin.then_exit | apply Fin.blk_ret | apply Fin.blk_normal | apply Fin.blk_here)
 | (with_reducible first | refine S.move ?_ | refine S.assign ?_ | refine S.pickT ?_ | refine S.pickF ?_ | refine S.lss ?_ | refine S.gtr ?_ | refine S.leq ?_ | refine S.geq ?_ | refine S.eqT ?_ | refine S.neF ?_ | refine S.eql ?_ | refine S.neq ?_ | refine S.add ?_ | refine S.sub ?_ | refine S.mul ?_ | refine S.conv ?_ | refine S.shr1 ?_ | refine S.neg ?_ | refine S.not ?_ | refine S.extract ?_ | refine S.len ?_ | refine S.fld ?_ | refine S.index ?_ | refine S.skp ?_ | refine S.sliceTo ?_ | refine S.sliceFrom ?_ | refine S.eqNil ?_ | refine S.eqbT ?_ | refine S.nebF ?_ | refine S.eqb ?_ | refine S.neb ?_)
 | (with_reducible first | refine S.nc ?_ | refine S.fld ?_ (h1 := fRLP) | refine S.fld ?_ (h1 := fRLR) | refine S.fld ?_ (h1 := fOpKind) | refine S.fld ?_ (h1 := fOpPod) | refine S.fld ?_ (h1 := fOpReason) | refine S.eqP ?_ | refine S.neP ?_)
 | ((with_reducible apply CW.cond_true); exact rfl)
 | ((with_reducible apply CW.cond_false); exact rfl)
 | ((with_reducible apply Fin.blk_far); exact rfl))
  refine S.ld (by rfl) oneInts (hB1.cell rfl) (by rfl) (by rfl) ?_
  repeat (first
 | (with_reducible first
 | apply CW.seq | apply CW.region | apply CW.block | apply CW.ret | apply CW.skip | apply CW.label | apply CW.exit
 | apply W.nil | apply Fin.seq | apply Fin.then_ret | apply Fin.then_exit | apply Fin.blk_ret | apply Fin.blk_normal | apply Fin.blk_here)
 | (with_reducible first | refine S.move ?_ | refine S.assign ?_ | refine S.pickT ?_ | refine S.pickF ?_ | refine S.lss ?_ | refine S.gtr ?_ | refine S.leq ?_ | refine S.geq ?_ | refine S.eqT ?_ | refine S.neF ?_ | refine S.eql ?_ | refine S.neq ?_ | refine S.add ?_ | refine S.sub ?_ | refine S.mul ?_ | refine S.conv ?_ | refine S.shr1 ?_ | refine S.neg ?_ | refine S.not ?_ | refine S.extract ?_ | refine S.len ?_ | refine S.fld ?_ | refine S.index ?_ | refine S.skp ?_ | refine S.sliceTo ?_ | refine S.sliceFrom ?_ | refine S.eqNil ?_ | refine S.eqbT ?_ | refine S.nebF ?_ | refine S.eqb ?_ | refine S.neb ?_)
 | (with_reducible first | refine S.nc ?_ | refine S.fld ?_ (h1 := fRLP) | refine S.fld ?_ (h1 := fRLR) | refine S.fld ?_ (h1 := fOpKind) | refine S.fld ?_ (h1 := fOpPod) | refine S.fld ?_ (h1 := fOpReason) | refine S.eqP ?_ | refine S.neP ?_)
 | ((with_reducible apply CW.cond_true); exact rfl)
 | ((with_reducible apply CW.cond_false); exact rfl)
 | ((with_reducible apply Fin.blk_far); exact rfl))
  refine CW.cond (by rfl) (fun hcd => ?_) (fun hcd => ?_)
  · have hk' : k < l.length := by have := of_decide_eq_true hcd; omega
    clear hcd
    have hst := cntI_take (r := r) hk'
    obtain ⟨bi, oi, rfl, _, hcell⟩ := hat (by rintro rfl; simp at hk')
    have hcr := hcell k _ (List.getElem?_eq_getElem hk')
    generalize l[k] = x at *
    have hcr : w'.cell? ⟨bi, oi + k * 1, none⟩ = some (.int .i64 x) := by rw [Nat.mul_one]; exact (hx1.cell (p := ⟨bi, _, none⟩) (World.block_lt_of_cell? w _ hcr)).trans hcr
    repeat (first
 | (with_reducible first
 | apply CW.seq | apply CW.region | apply CW.block | apply CW.ret | apply CW.skip | apply CW.label | apply CW.exit
 | apply W.nil | apply Fin.seq | apply Fin.then_ret | apply Fin.then_exit | apply Fin.blk_ret | apply Fin.blk_normal | apply Fin.blk_here)
 | (with_reducible first | refine S.move ?_ | refine S.assign ?_ | refine S.pickT ?_ | refine S.pickF ?_ | refine S.lss ?_ | refine S.gtr ?_ | refine S.leq ?_ | refine S.geq ?_ | refine S.eqT ?_ | refine S.neF ?_ | refine S.eql ?_ | refine S.neq ?_ | refine S.add ?_ | refine S.sub ?_ | refine S.mul ?_ | refine S.conv ?_ | refine S.shr1 ?_ | refine S.neg ?_ | refine S.not ?_ | refine S.extract ?_ | refine S.len ?_ | refine S.fld ?_ | refine S.index ?_ | refine S.skp ?_ | refine S.sliceTo ?_ | refine S.sliceFrom ?_ | refine S.eqNil ?_ | refine S.eqbT ?_ | refine S.nebF ?_ | refine S.eqb ?_ | refine S.neb ?_)
 | (with_reducible first | refine S.nc ?_ | refine S.fld ?_ (h1 := fRLP) | refine S.fld ?_ (h1 := fRLR) | refine S.fld ?_ (h1 := fOpKind) | refine S.fld ?_ (h1 := fOpPod) | refine S.fld ?_ (h1 := fOpReason) | refine S.eqP ?_ | refine S.neP ?_)
 | ((with_reducible apply CW.cond_true); exact rfl)
 | ((with_reducible apply CW.cond_false); exact rfl)
 | ((with_reducible apply Fin.blk_far); exact rfl))
    refine S.ld (by rfl) oneInts (hB1.cell rfl) (by rfl) (by rfl) ?_
    repeat (first
 | (with_reducible first
 | apply CW.seq | apply CW.region | apply CW.block | apply CW.ret | apply CW.skip | apply CW.label | apply CW.exit
 | apply W.nil | apply Fin.seq | apply Fin.then_ret | apply Fin.then_exit | apply Fin.blk_ret | apply Fin.blk_normal | apply Fin.blk_here)
 | (with_reducible first | refine S.move ?_ | refine S.assign ?_ | refine S.pickT ?_ | refine S.pickF ?_ | refine S.lss ?_ | refine S.gtr ?_ | refine S.leq ?_ | refine S.geq ?_ | refine S.eqT ?_ | refine S.neF ?_ | refine S.eql ?_ | refine S.neq ?_ | refine S.add ?_ | refine S.sub ?_ | refine S.mul ?_ | refine S.conv ?_ | refine S.shr1 ?_ | refine S.neg ?_ | refine S.not ?_ | refine S.extract ?_ | refine S.len ?_ | refine S.fld ?_ | refine S.index ?_ | refine S.skp ?_ | refine S.sliceTo ?_ | refine S.sliceFrom ?_ | refine S.eqNil ?_ | refine S.eqbT ?_ | refine S.nebF ?_ | refine S.eqb ?_ | refine S.neb ?_)
 | (with_reducible first | refine S.nc ?_ | refine S.fld ?_ (h1 := fRLP) | refine S.fld ?_ (h1 := fRLR) | refine S.fld ?_ (h1 := fOpKind) | refine S.fld ?_ (h1 := fOpPod) | refine S.fld ?_ (h1 := fOpReason) | refine S.eqP ?_ | refine S.neP ?_)
 | ((with_reducible apply CW.cond_true); exact rfl)
 | ((with_reducible apply CW.cond_false); exact rfl)
 | ((with_reducible apply Fin.blk_far); exact rfl))
    ((with_reducible apply S.ld); exact rfl; (with_reducible first | exact oneInt | exact oneI64s | exact oneBool | exact oneI64 | exact onePods | exact oneMap); (exact hcr); exact rfl; exact rfl)
    repeat (first
 | (with_reducible first
 | apply CW.seq | apply CW.region | apply CW.block | apply CW.ret | apply CW.skip | apply CW.label | apply CW.exit
 | apply W.nil | apply Fin.seq | apply Fin.then_ret | apply Fin.then_exit | apply Fin.blk_ret | apply Fin.blk_normal | apply Fin.blk_here)
 | (with_reducible first | refine S.move ?_ | refine S.assign ?_ | refine S.pickT ?_ | refine S.pickF ?_ | refine S.lss ?_ | refine S.gtr ?_ | refine S.leq ?_ | refine S.geq ?_ | refine S.eqT ?_ | refine S.neF ?_ | refine S.eql ?_ | refine S.neq ?_ | refine S.add ?_ | refine S.sub ?_ | refine S.mul ?_ | refine S.conv ?_ | refine S.shr1 ?_ | refine S.neg ?_ | refine S.not ?_ | refine S.extract ?_ | refine S.len ?_ | refine S.fld ?_ | refine S.index ?_ | refine S.skp ?_ | refine S.sliceTo ?_ | refine S.sliceFrom ?_ | refine S.eqNil ?_ | refine S.eqbT ?_ | refine S.nebF ?_ | refine S.eqb ?_ | refine S.neb ?_)
 | (with_reducible first | refine S.nc ?_ | refine S.fld ?_ (h1 := fRLP) | refine S.fld ?_ (h1 := fRLR) | refine S.fld ?_ (h1 := fOpKind) | refine S.fld ?_ (h1 := fOpPod) | refine S.fld ?_ (h1 := fOpReason) | refine S.eqP ?_ | refine S.neP ?_)
 | ((with_reducible apply CW.cond_true); exact rfl)
 | ((with_reducible apply CW.cond_false); exact rfl)
 | ((with_reducible apply Fin.blk_far); exact rfl))
    refine CW.cond (by rfl) (fun hcd => ?_) (fun hcd => ?_)
    · rw [if_pos (of_decide_eq_true hcd)] at hst
      repeat (first
 | (with_reducible first
 | apply CW.seq | apply CW.region | apply CW.block | apply CW.ret | apply CW.skip | apply CW.label | apply CW.exit
 | apply W.nil | apply Fin.seq | apply Fin.then_ret | apply Fin.then_exit | apply Fin.blk_ret | apply Fin.blk_normal | apply Fin.blk_here)
 | (with_reducible first | refine S.move ?_ | refine S.assign ?_ | refine S.pickT ?_ | refine S.pickF ?_ | refine S.lss ?_ | refine S.gtr ?_ | refine S.leq ?_ | refine S.geq ?_ | refine S.eqT ?_ | refine S.neF ?_ | refine S.eql ?_ | refine S.neq ?_ | refine S.add ?_ | refine S.sub ?_ | refine S.mul ?_ | refine S.conv ?_ | refine S.shr1 ?_ | refine S.neg ?_ | refine S.not ?_ | refine S.extract ?_ | refine S.len ?_ | refine S.fld ?_ | refine S.index ?_ | refine S.skp ?_ | refine S.sliceTo ?_ | refine S.sliceFrom ?_ | refine S.eqNil ?_ | refine S.eqbT ?_ | refine S.nebF ?_ | refine S.eqb ?_ | refine S.neb ?_)
 | (with_reducible first | refine S.nc ?_ | refine S.fld ?_ (h1 := fRLP) | refine S.fld ?_ (h1 := fRLR) | refine S.fld ?_ (h1 := fOpKind) | refine S.fld ?_ (h1 := fOpPod) | refine S.fld ?_ (h1 := fOpReason) | refine S.eqP ?_ | refine S.neP ?_)
 | ((with_reducible apply CW.cond_true); exact rfl)
 | ((with_reducible apply CW.cond_false); exact rfl)
 | ((with_reducible apply Fin.blk_far); exact rfl))
      refine Fin.round (k + 1) (by omega) (by rw [hst]; repeat (first | exact trivial | refine ⟨congrArg (fun z : Int => some (Value.int .i64 z)) (by omega), ?_⟩ | refine ⟨rfl, ?_⟩)) ⟨rfl, hk'⟩
    · rw [if_neg (of_decide_eq_false hcd)] at hst
      repeat (first
 | (with_reducible first
 | apply CW.seq | apply CW.region | apply CW.block | apply CW.ret | apply CW.skip | apply CW.label | apply CW.exit
 | apply W.nil | apply Fin.seq | apply Fin.then_ret | apply Fin.then_exit | apply Fin.blk_ret | apply Fin.blk_normal | apply Fin.blk_here)
 | (with_reducible first | refine S.move ?_ | refine S.assign ?_ | refine S.pickT ?_ | refine S.pickF ?_ | refine S.lss ?_ | refine S.gtr ?_ | refine S.leq ?_ | refine S.geq ?_ | refine S.eqT ?_ | refine S.neF ?_ | refine S.eql ?_ | refine S.neq ?_ | refine S.add ?_ | refine S.sub ?_ | refine S.mul ?_ | refine S.conv ?_ | refine S.shr1 ?_ | refine S.neg ?_ | refine S.not ?_ | refine S.extract ?_ | refine S.len ?_ | refine S.fld ?_ | refine S.index ?_ | refine S.skp ?_ | refine S.sliceTo ?_ | refine S.sliceFrom ?_ | refine S.eqNil ?_ | refine S.eqbT ?_ | refine S.nebF ?_ | refine S.eqb ?_ | refine S.neb ?_)
 | (with_reducible first | refine S.nc ?_ | refine S.fld ?_ (h1 := fRLP) | refine S.fld ?_ (h1 := fRLR) | refine S.fld ?_ (h1 := fOpKind) | refine S.fld ?_ (h1 := fOpPod) | refine S.fld ?_ (h1 := fOpReason) | refine S.eqP ?_ | refine S.neP ?_)
 | ((with_reducible apply CW.cond_true); exact rfl)
 | ((with_reducible apply CW.cond_false); exact rfl)
 | ((with_reducible apply Fin.blk_far); exact rfl))
      refine Fin.round (k + 1) (by omega) (by rw [hst]; repeat (first | exact trivial | refine ⟨congrArg (fun z : Int => some (Value.int .i64 z)) (by omega), ?_⟩ | refine ⟨rfl, ?_⟩)) ⟨rfl, hk'⟩
  · have h := of_decide_eq_false hcd
    rw [List.take_of_length_le (by omega)]
    repeat (first
 | (with_reducible first
 | apply CW.seq | apply CW.region | apply CW.block | apply CW.ret | apply CW.skip | apply CW.label | apply CW.exit
 | apply W.nil | apply Fin.seq | apply Fin.then_ret | apply Fin.then_exit | apply Fin.blk_ret | apply Fin.blk_normal | apply Fin.blk_here)
 | (with_reducible first | refine S.move ?_ | refine S.assign ?_ | refine S.pickT ?_ | refine S.pickF ?_ | refine S.lss ?_ | refine S.gtr ?_ | refine S.leq ?_ | refine S.geq ?_ | refine S.eqT ?_ | refine S.neF ?_ | refine S.eql ?_ | refine S.neq ?_ | refine S.add ?_ | refine S.sub ?_ | refine S.mul ?_ | refine S.conv ?_ | refine S.shr1 ?_ | refine S.neg ?_ | refine S.not ?_ | refine S.extract ?_ | refine S.len ?_ | refine S.fld ?_ | refine S.index ?_ | refine S.skp ?_ | refine S.sliceTo ?_ | refine S.sliceFrom ?_ | refine S.eqNil ?_ | refine S.eqbT ?_ | refine S.nebF ?_ | refine S.eqb ?_ | refine S.neb ?_)
 | (with_reducible first | refine S.nc ?_ | refine S.fld ?_ (h1 := fRLP) | refine S.fld ?_ (h1 := fRLR) | refine S.fld ?_ (h1 := fOpKind) | refine S.fld ?_ (h1 := fOpPod) | refine S.fld ?_ (h1 := fOpReason) | refine S.eqP ?_ | refine S.neP ?_)
 | ((with_reducible apply CW.cond_true); exact rfl)
 | ((with_reducible apply CW.cond_false); exact rfl)
 | ((with_reducible apply Fin.blk_far); exact rfl))
    (with_reducible apply R.r1); exact rfl; exact rfl
    exact ⟨rfl, hx1⟩

end Go.Proofs.YtmilpjkjcanghaaDoor

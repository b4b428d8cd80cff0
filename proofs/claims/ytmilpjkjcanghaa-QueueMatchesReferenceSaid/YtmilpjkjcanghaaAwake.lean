/- awake of law 06. -/
import Derived.Test.YtmilpjkjcanghaaSort7
import Derived.Laws.Tables
namespace Go.Proofs.Ytmilpjkjcanghaa
open Go.RowKit
set_option linter.unusedVariables false
set_option linter.unusedSimpArgs false

def evB (L : Operand → Option Value) : List (Nat × Operand) → Option (List (Nat × Value))
  | [] => some []
  | (i, x) :: r => match L x, evB L r with
    | some v, some vs => some ((i, v) :: vs)
    | _, _ => none
theorem evB_map {L : Operand → Option Value} {ev : Operand → Value} (he : EvOk L ev) : ∀ {ps : List (Nat × Operand)} {vs : List (Nat × Value)}, evB L ps = some vs → ps.map (fun p => (p.1, ev p.2)) = vs
  | [], vs, h => by simp [evB] at h; simp [h]
  | (i, x) :: r, vs, h => by
    simp only [evB] at h
    split at h
    · rename_i v vs' hx hr
      cases h
      simp [he x v hx, evB_map he hr]
    · cases h
/-- A struct of parts. -/
theorem op_build {P : Program} {ty : TypeId} {L : Operand → Option Value} {t : TypeId} {parts : Array (Nat × Operand)} {ps : List (Nat × Value)} {cs : Array Value} (hp : evB L parts.toList = some ps) (h : P.built t ps = some cs) : Pure P (.build t parts) ty L (.agg cs) := fun ev he w d pos aft g => by
  have h1 : (parts.map fun x => (x.1, ev x.2)).toList = ps := by
    rw [Array.toList_map]
    exact evB_map he hp
  have h2 := run_build (P := P) w t (parts.map fun x => (x.1, ev x.2)) cs (by rw [h1]; exact h)
  simp only [execOp, Sem.run_bind, h2, Result.andThen_ok]
  simp

def w7 : PV := { PV.zero with id := 7, prio := 1 }
def w8 : PV := { PV.zero with id := 8, prio := 5, arr := 1 }
def w9 : PV := { PV.zero with id := 9, prio := 5, arr := 2 }

set_option maxHeartbeats 1000000 in
theorem awake6_calls (w : World) : CallsR Try.prog 13 [] w fun v w' => v = .bool true ∧ X w w' := by
  refine enter0 Try.func13 rfl Try.ntmps13 ?_
  repeat (first
 | (with_reducible first
 | apply CW.seq | apply CW.region | apply CW.block | apply CW.ret | apply CW.skip | apply CW.label | apply CW.exit
 | apply W.nil | apply Fin.seq | apply Fin.then_ret | apply Fin.then_exit | apply Fin.blk_ret | apply Fin.blk_normal | apply Fin.blk_here)
 | (with_reducible first | refine S.move ?_ | refine S.assign ?_ | refine S.pickT ?_ | refine S.pickF ?_ | refine S.lss ?_ | refine S.gtr ?_ | refine S.leq ?_ | refine S.geq ?_ | refine S.eqT ?_ | refine S.neF ?_ | refine S.eql ?_ | refine S.neq ?_ | refine S.add ?_ | refine S.sub ?_ | refine S.mul ?_ | refine S.conv ?_ | refine S.shr1 ?_ | refine S.neg ?_ | refine S.not ?_ | refine S.extract ?_ | refine S.len ?_ | refine S.fld ?_ | refine S.index ?_ | refine S.skp ?_ | refine S.sliceTo ?_ | refine S.sliceFrom ?_ | refine S.eqNil ?_ | refine S.eqbT ?_ | refine S.nebF ?_ | refine S.eqb ?_ | refine S.neb ?_)
 | ((with_reducible apply CW.cond_true); exact rfl)
 | ((with_reducible apply CW.cond_false); exact rfl)
 | ((with_reducible apply Fin.blk_far); exact rfl))
  refine W.pure (d := some 9) (v := w7.v) (op_build (by rfl) (by kernel_rfl)) (by rfl) (by rfl) ?_
  refine W.pure (d := some 10) (v := w8.v) (op_build (by rfl) (by kernel_rfl)) (by rfl) (by rfl) ?_
  refine W.pure (d := some 11) (v := w9.v) (op_build (by rfl) (by kernel_rfl)) (by rfl) (by rfl) ?_
  refine W.newBlk (d := some 12) (mk := fun b => .slice (some ⟨b, 0, none⟩) 3 3) (cs := flat [w7, w8, w9]) (op_buildSlice Try.underlying22 zPod rfl rfl (by rfl) rfl (by simp [Value.cells, PV.cs, PV.v]) rfl rfl) (by rfl) (by rfl) ?_
  intro b w1 hx1 hb hB
  have hP : ∀ w', X w1 w' → PS w' w'.heap.size (.slice (some ⟨b, 0, none⟩) 3 3) [w7, w8, w9] := fun w' hx => ((hB.x hx).ps (L := [w7, w8, w9]) (Nat.le_refl _))
  repeat (first
 | (with_reducible first
 | apply CW.seq | apply CW.region | apply CW.block | apply CW.ret | apply CW.skip | apply CW.label | apply CW.exit
 | apply W.nil | apply Fin.seq | apply Fin.then_ret | apply Fin.then_exit | apply Fin.blk_ret | apply Fin.blk_normal | apply Fin.blk_here)
 | (with_reducible first | refine S.move ?_ | refine S.assign ?_ | refine S.pickT ?_ | refine S.pickF ?_ | refine S.lss ?_ | refine S.gtr ?_ | refine S.leq ?_ | refine S.geq ?_ | refine S.eqT ?_ | refine S.neF ?_ | refine S.eql ?_ | refine S.neq ?_ | refine S.add ?_ | refine S.sub ?_ | refine S.mul ?_ | refine S.conv ?_ | refine S.shr1 ?_ | refine S.neg ?_ | refine S.not ?_ | refine S.extract ?_ | refine S.len ?_ | refine S.fld ?_ | refine S.index ?_ | refine S.skp ?_ | refine S.sliceTo ?_ | refine S.sliceFrom ?_ | refine S.eqNil ?_ | refine S.eqbT ?_ | refine S.nebF ?_ | refine S.eqb ?_ | refine S.neb ?_)
 | ((with_reducible apply CW.cond_true); exact rfl)
 | ((with_reducible apply CW.cond_false); exact rfl)
 | ((with_reducible apply Fin.blk_far); exact rfl))
  refine S.cl (op_call ent22 (by rfl) (by rfl)) (by rfl) (by rfl) (Sort_calls _ _ w1 (hP w1 (X.refl _)) (by simp)) ?_
  rintro v2 w2 ⟨hN, hx2⟩
  have hs : sortR [w7, w8, w9] = [w8, w9, w7] := by kernel_rfl
  rw [hs] at hN
  rcases hN with ⟨_, h⟩ | ⟨g, c, hv2, hc, _, hG⟩
  · cases h
  rw [show [w8, w9, w7].length = 3 from rfl] at hv2
  subst hv2
  repeat (first
 | (with_reducible first
 | apply CW.seq | apply CW.region | apply CW.block | apply CW.ret | apply CW.skip | apply CW.label | apply CW.exit
 | apply W.nil | apply Fin.seq | apply Fin.then_ret | apply Fin.then_exit | apply Fin.blk_ret | apply Fin.blk_normal | apply Fin.blk_here)
 | (with_reducible first | refine S.move ?_ | refine S.assign ?_ | refine S.pickT ?_ | refine S.pickF ?_ | refine S.lss ?_ | refine S.gtr ?_ | refine S.leq ?_ | refine S.geq ?_ | refine S.eqT ?_ | refine S.neF ?_ | refine S.eql ?_ | refine S.neq ?_ | refine S.add ?_ | refine S.sub ?_ | refine S.mul ?_ | refine S.conv ?_ | refine S.shr1 ?_ | refine S.neg ?_ | refine S.not ?_ | refine S.extract ?_ | refine S.len ?_ | refine S.fld ?_ | refine S.index ?_ | refine S.skp ?_ | refine S.sliceTo ?_ | refine S.sliceFrom ?_ | refine S.eqNil ?_ | refine S.eqbT ?_ | refine S.nebF ?_ | refine S.eqb ?_ | refine S.neb ?_)
 | ((with_reducible apply CW.cond_true); exact rfl)
 | ((with_reducible apply CW.cond_false); exact rfl)
 | ((with_reducible apply Fin.blk_far); exact rfl))
  refine S.cl (op_call ent19 (by rfl) (by rfl)) (by rfl) (by rfl) (Least_calls _ [w7, w8, w9] w2 (hP w2 hx2) (by simp)) ?_
  rintro _ w3 ⟨rfl, hx3⟩
  repeat (first
 | (with_reducible first
 | apply CW.seq | apply CW.region | apply CW.block | apply CW.ret | apply CW.skip | apply CW.label | apply CW.exit
 | apply W.nil | apply Fin.seq | apply Fin.then_ret | apply Fin.then_exit | apply Fin.blk_ret | apply Fin.blk_normal | apply Fin.blk_here)
 | (with_reducible first | refine S.move ?_ | refine S.assign ?_ | refine S.pickT ?_ | refine S.pickF ?_ | refine S.lss ?_ | refine S.gtr ?_ | refine S.leq ?_ | refine S.geq ?_ | refine S.eqT ?_ | refine S.neF ?_ | refine S.eql ?_ | refine S.neq ?_ | refine S.add ?_ | refine S.sub ?_ | refine S.mul ?_ | refine S.conv ?_ | refine S.shr1 ?_ | refine S.neg ?_ | refine S.not ?_ | refine S.extract ?_ | refine S.len ?_ | refine S.fld ?_ | refine S.index ?_ | refine S.skp ?_ | refine S.sliceTo ?_ | refine S.sliceFrom ?_ | refine S.eqNil ?_ | refine S.eqbT ?_ | refine S.nebF ?_ | refine S.eqb ?_ | refine S.neb ?_)
 | ((with_reducible apply CW.cond_true); exact rfl)
 | ((with_reducible apply CW.cond_false); exact rfl)
 | ((with_reducible apply Fin.blk_far); exact rfl))
  refine S.cl (op_call ent19 (by rfl) (by rfl)) (by rfl) (by rfl) (Least_calls _ [] w3 (PS.nil _ _) (by simp)) ?_
  rintro _ w4 ⟨rfl, hx4⟩
  repeat (first
 | (with_reducible first
 | apply CW.seq | apply CW.region | apply CW.block | apply CW.ret | apply CW.skip | apply CW.label | apply CW.exit
 | apply W.nil | apply Fin.seq | apply Fin.then_ret | apply Fin.then_exit | apply Fin.blk_ret | apply Fin.blk_normal | apply Fin.blk_here)
 | (with_reducible first | refine S.move ?_ | refine S.assign ?_ | refine S.pickT ?_ | refine S.pickF ?_ | refine S.lss ?_ | refine S.gtr ?_ | refine S.leq ?_ | refine S.geq ?_ | refine S.eqT ?_ | refine S.neF ?_ | refine S.eql ?_ | refine S.neq ?_ | refine S.add ?_ | refine S.sub ?_ | refine S.mul ?_ | refine S.conv ?_ | refine S.shr1 ?_ | refine S.neg ?_ | refine S.not ?_ | refine S.extract ?_ | refine S.len ?_ | refine S.fld ?_ | refine S.index ?_ | refine S.skp ?_ | refine S.sliceTo ?_ | refine S.sliceFrom ?_ | refine S.eqNil ?_ | refine S.eqbT ?_ | refine S.nebF ?_ | refine S.eqb ?_ | refine S.neb ?_)
 | ((with_reducible apply CW.cond_true); exact rfl)
 | ((with_reducible apply CW.cond_false); exact rfl)
 | ((with_reducible apply Fin.blk_far); exact rfl))
  refine S.cl (op_call ent23 (by rfl) (by rfl)) (by rfl) (by rfl) (Sums_calls _ [w7, w8, w9] w4 (hP w4 ((hx2.trans hx3).trans hx4)) (by kernel_rfl)) ?_
  rintro _ w5 ⟨rfl, hx5⟩
  have hX5 : X w1 w5 := ((hx2.trans hx3).trans hx4).trans hx5
  have hG5 : BL w5 g [w8, w9, w7] := ((hG.x hx3).x hx4).x hx5
  have hB5 := hB.x hX5
  have hW5 : BL w5 b [w7, w8, w9] := ⟨[], by simpa using hB5⟩
  have hP5 : ∀ w', X w5 w' → PS w' w'.heap.size (.slice (some ⟨b, 0, none⟩) 3 3) [w7, w8, w9] := fun w' hx => hP w' (hX5.trans hx)
  have e1 : (leastTo [w7, w8, w9] [w7, w8, w9].length : Int) = 1 := by kernel_rfl
  have e2 : decide (0 < [w7, w8, w9].length) = true := by kernel_rfl
  have e3 : (leastTo [] ([] : List PV).length : Int) = 0 := by kernel_rfl
  have e4 : decide (0 < ([] : List PV).length) = false := by kernel_rfl
  have e5 : topP [w7, w8, w9] = 5 := by kernel_rfl
  have e6 : sumP [w7, w8, w9] = 11 := by kernel_rfl
  rw [e1, e2, e3, e4, e5, e6]
  repeat (first
 | (with_reducible first
 | apply CW.seq | apply CW.region | apply CW.block | apply CW.ret | apply CW.skip | apply CW.label | apply CW.exit
 | apply W.nil | apply Fin.seq | apply Fin.then_ret | apply Fin.then_exit | apply Fin.blk_ret | apply Fin.blk_normal | apply Fin.blk_here)
 | (with_reducible first | refine S.move ?_ | refine S.assign ?_ | refine S.pickT ?_ | refine S.pickF ?_ | refine S.lss ?_ | refine S.gtr ?_ | refine S.leq ?_ | refine S.geq ?_ | refine S.eqT ?_ | refine S.neF ?_ | refine S.eql ?_ | refine S.neq ?_ | refine S.add ?_ | refine S.sub ?_ | refine S.mul ?_ | refine S.conv ?_ | refine S.shr1 ?_ | refine S.neg ?_ | refine S.not ?_ | refine S.extract ?_ | refine S.len ?_ | refine S.fld ?_ | refine S.index ?_ | refine S.skp ?_ | refine S.sliceTo ?_ | refine S.sliceFrom ?_ | refine S.eqNil ?_ | refine S.eqbT ?_ | refine S.nebF ?_ | refine S.eqb ?_ | refine S.neb ?_)
 | ((with_reducible apply CW.cond_true); exact rfl)
 | ((with_reducible apply CW.cond_false); exact rfl)
 | ((with_reducible apply Fin.blk_far); exact rfl))
  have hl1 : decide (cmpP w8 w9 < 0) = true := by kernel_rfl
  have hl2 : cmpP w7 w7 = 0 := by kernel_rfl
  have hl3 : lowL [w7, w8, w9] 5 = [w7] := by kernel_rfl
  refine wp_facts (R := X) (front := [0, 1, 2, 3, 4, 5, 6, 7, 8, 9, 10, 11, 12, 13, 14, 15, 16, 17, 18, 19, 20, 21, 22, 23, 24, 25, 26, 27, 28, 29, 30, 31, 32, 33, 34, 35, 36, 37, 38, 39, 40, 41, 42, 43, 44, 45, 46, 47, 48, 49, 50, 51, 52, 53, 54, 55]) (tail := [56]) mixed (by kernel_rfl) X.refl (fun _ _ _ => X.trans) (X.drew _) ?_
  repeat ((with_reducible refine TC.step ?_); first
    | (with_reducible refine D.indexE (j := 0) ?_)
    | (with_reducible refine D.indexE (j := 1) ?_)
    | (with_reducible refine D.indexE (j := 2) ?_)
    | (with_reducible first | refine D.move ?_ | refine D.assign ?_ | refine D.pickT ?_ | refine D.pickF ?_ | refine D.lss ?_ | refine D.gtr ?_ | refine D.leq ?_ | refine D.geq ?_ | refine D.eqT ?_ | refine D.neF ?_ | refine D.eql ?_ | refine D.neq ?_ | refine D.add ?_ | refine D.sub ?_ | refine D.mul ?_ | refine D.conv ?_ | refine D.shr1 ?_ | refine D.neg ?_ | refine D.not ?_ | refine D.extract ?_ | refine D.len ?_ | refine D.fld ?_ | refine D.index ?_ | refine D.skp ?_ | refine D.sliceTo ?_ | refine D.sliceFrom ?_ | refine D.eqNil ?_ | refine D.eqbT ?_ | refine D.nebF ?_ | refine D.eqb ?_ | refine D.neb ?_)
    | ((with_reducible apply D.ld); exact rfl; (with_reducible first | exact oneInt | exact oneI64s | exact oneBool | exact oneI64 | exact onePods | exact oneMap); (intro w' hx; first | exact (hG5.x hx).cell (i := 0) rfl rfl | exact (hG5.x hx).cell (i := 2) rfl rfl); exact X.refl; exact rfl; exact rfl)
    | refine D.lds (cs := w7.cs) (by rfl) stPod (fun w' hx j u hj => (hW5.x hx).cell (i := 0) rfl hj) X.refl (by rfl) (by rfl) ?_
    | refine D.lds (cs := w8.cs) (by rfl) stPod (fun w' hx j u hj => (hW5.x hx).cell (i := 1) rfl hj) X.refl (by rfl) (by rfl) ?_
    | refine D.lds (cs := w9.cs) (by rfl) stPod (fun w' hx j u hj => (hW5.x hx).cell (i := 2) rfl hj) X.refl (by rfl) (by rfl) ?_
    | refine D.cl (op_call (vs := [w8.v, w9.v]) ent17 (by rfl) (by rfl)) (by rfl) (by rfl) (v := .bool true) (fun w' hx => (Before_calls w8 w9 w').mono fun v w'' h => by rw [hl1] at h; exact h) ?_
    | refine D.cl (op_call (vs := [w7.v, w7.v]) ent15 (by rfl) (by rfl)) (by rfl) (by rfl) (v := .int .i64 0) (fun w' hx => (Compare_calls w7 w7 w').mono fun v w'' h => by rw [hl2] at h; exact h) ?_
    | refine D.clp (pP [w7]) pP.lasts (op_call (vs := [.slice (some ⟨b, 0, none⟩) 3 3, .int .i64 5]) ent25 (by rfl) (by rfl)) (by rfl) (by rfl) (fun w' hx => (Lower_calls _ _ 5 w' (hP5 w' hx) (by simp)).mono fun v w'' h => by rw [hl3] at h; exact ⟨h.1.ps, h.2⟩) ?_
    | refine D.lenp (p := pP [w7]) (n := 1) (by rfl) (fun v w' h => by obtain ⟨A, c, h, _⟩ := h; exact ⟨A, c, h⟩) Try.underlying22 X.refl (by rfl) (by rfl) ?_)
  refine TC.tail1 (by rfl) fun w6 hx6 => ?_
  repeat (first
 | (with_reducible first
 | apply CW.seq | apply CW.region | apply CW.block | apply CW.ret | apply CW.skip | apply CW.label | apply CW.exit
 | apply W.nil | apply Fin.seq | apply Fin.then_ret | apply Fin.then_exit | apply Fin.blk_ret | apply Fin.blk_normal | apply Fin.blk_here)
 | (with_reducible first | refine S.move ?_ | refine S.assign ?_ | refine S.pickT ?_ | refine S.pickF ?_ | refine S.lss ?_ | refine S.gtr ?_ | refine S.leq ?_ | refine S.geq ?_ | refine S.eqT ?_ | refine S.neF ?_ | refine S.eql ?_ | refine S.neq ?_ | refine S.add ?_ | refine S.sub ?_ | refine S.mul ?_ | refine S.conv ?_ | refine S.shr1 ?_ | refine S.neg ?_ | refine S.not ?_ | refine S.extract ?_ | refine S.len ?_ | refine S.fld ?_ | refine S.index ?_ | refine S.skp ?_ | refine S.sliceTo ?_ | refine S.sliceFrom ?_ | refine S.eqNil ?_ | refine S.eqbT ?_ | refine S.nebF ?_ | refine S.eqb ?_ | refine S.neb ?_)
 | ((with_reducible apply CW.cond_true); exact rfl)
 | ((with_reducible apply CW.cond_false); exact rfl)
 | ((with_reducible apply Fin.blk_far); exact rfl))
  (with_reducible apply R.r1); exact rfl; exact rfl
  exact ⟨rfl, (hx1.trans hX5).trans hx6⟩

end Go.Proofs.Ytmilpjkjcanghaa

/- The library's sort: rotate. -/
import Derived.Test.YtmilpjkjcanghaaDoorSort1
namespace Go.Proofs.YtmilpjkjcanghaaDoor
open Go.RowKit
set_option linter.unusedVariables false
set_option linter.unusedSimpArgs false

/-- The swap, with its places told as numbers. -/
theorem swapRange_at (cmp : Value) (c g n x y z : Nat) (A U M V B L : List PV) (w : World) (hB : BL w g L) (hL : L = A ++ (U ++ (M ++ (V ++ B)))) (huv : U.length = V.length) (hc : L.length ≤ c) (hn : L.length ≤ 1000) (h0 : n = L.length) (h1 : x = A.length) (h2 : y = A.length + U.length + M.length) (h3 : z = U.length) {a1 a2 a3 : Int} (e1 : a1 = (x : Int)) (e2 : a2 = (y : Int)) (e3 : a3 = (z : Int)) :
    CallsR Tryd.prog 47 [.slice (some ⟨g, 0, none⟩) n c, .int .i64 a1, .int .i64 a2, .int .i64 a3, cmp] w
      fun _ w' => BL w' g (A ++ (V ++ (M ++ (U ++ B)))) ∧ G g w w' := by
  subst e1; subst e2; subst e3; subst h0; subst h1; subst h2; subst h3; subst hL
  exact swapRange_calls cmp c g A U M V B w hB huv hc hn

/-- Cut a list in four. -/
theorem cut4 (L : List PV) (a i j : Nat) (h : a + i + j ≤ L.length) : ∃ A X Y B, L = A ++ (X ++ (Y ++ B)) ∧ A.length = a ∧ X.length = i ∧ Y.length = j :=
  ⟨L.take a, (L.drop a).take i, (L.drop (a + i)).take j, L.drop (a + i + j), by
    have h1 : L.drop (a + i) = (L.drop a).drop i := by rw [List.drop_drop]
    have h2 : L.drop (a + i + j) = (L.drop (a + i)).drop j := by rw [List.drop_drop]
    rw [h2, List.take_append_drop, h1, List.take_append_drop, List.take_append_drop], by simp; omega, by simp; omega, by simp; omega⟩

theorem cut2 (L : List PV) (a : Nat) (h : a ≤ L.length) : ∃ X Y, L = X ++ Y ∧ X.length = a := ⟨L.take a, L.drop a, (List.take_append_drop _ _).symm, by simp; omega⟩

theorem rotate_calls (cmp : Value) (c g n : Nat) (A X Y B L : List PV) (w : World) (hB : BL w g L) (hL : L = A ++ (X ++ (Y ++ B))) (hX : X ≠ []) (hY : Y ≠ []) (hc : L.length ≤ c) (hn : L.length ≤ 1000) (h0 : n = L.length)
    {a1 a2 a3 : Int} (e1 : a1 = (A.length : Nat)) (e2 : a2 = ((A.length + X.length : Nat) : Int)) (e3 : a3 = ((A.length + X.length + Y.length : Nat) : Int)) :
    CallsR Tryd.prog 46 [.slice (some ⟨g, 0, none⟩) n c, .int .i64 a1, .int .i64 a2, .int .i64 a3, cmp] w
      fun _ w' => BL w' g (A ++ (Y ++ (X ++ B))) ∧ G g w w' := by
  subst e1; subst e2; subst e3; subst h0; subst hL
  have hlen : (A ++ (X ++ (Y ++ B))).length = A.length + X.length + Y.length + B.length := by simp; omega
  have hXl : 0 < X.length := List.length_pos_iff.2 hX
  have hYl : 0 < Y.length := List.length_pos_iff.2 hY
  rw [hlen] at hc hn ⊢
  refine enter5 Tryd.func46 rfl Tryd.ntmps46 rfl ?_
  generalize hT : A.length + X.length + Y.length + B.length = T at *
  generalize hm : A.length + X.length = m at *
  generalize hRes : A ++ (Y ++ (X ++ B)) = Res at *
  repeat (first
 | (with_reducible first
 | apply CW.seq | apply CW.region | apply CW.block | apply CW.ret | apply CW.skip | apply CW.label | apply CW.exit
 | apply W.nil | apply Fin.seq | apply Fin.then_ret | apply Fin.then_exit | apply Fin.blk_ret | apply Fin.blk_normal | apply Fin.blk_here)
 | (with_reducible first | refine S.move ?_ | refine S.assign ?_ | refine S.pickT ?_ | refine S.pickF ?_ | refine S.lss ?_ | refine S.gtr ?_ | refine S.leq ?_ | refine S.geq ?_ | refine S.eqT ?_ | refine S.neF ?_ | refine S.eql ?_ | refine S.neq ?_ | refine S.add ?_ | refine S.sub ?_ | refine S.mul ?_ | refine S.conv ?_ | refine S.shr1 ?_ | refine S.neg ?_ | refine S.not ?_ | refine S.extract ?_ | refine S.len ?_ | refine S.fld ?_ | refine S.index ?_ | refine S.skp ?_ | refine S.sliceTo ?_ | refine S.sliceFrom ?_ | refine S.eqNil ?_ | refine S.eqbT ?_ | refine S.nebF ?_ | refine S.eqb ?_ | refine S.neb ?_)
 | ((with_reducible apply CW.cond_true); exact rfl)
 | ((with_reducible apply CW.cond_false); exact rfl)
 | ((with_reducible apply Fin.blk_far); exact rfl))
  refine CW.loop (ι := Nat × Nat) (fun k => [(10, .int .i64 (k.1 : Int)), (11, .int .i64 (k.2 : Int)), (0, .slice (some ⟨g, 0, none⟩) T c), (2, .int .i64 (m : Int)), (4, cmp)])
    (fun k w' => G g w w' ∧ ∃ P U V Z, BL w' g (P ++ (U ++ (V ++ Z))) ∧ P ++ (V ++ (U ++ Z)) = Res ∧ U.length = k.1 ∧ V.length = k.2 ∧ P.length + k.1 = m ∧ 0 < k.1 ∧ 0 < k.2 ∧ P.length + k.1 + k.2 + Z.length = T) (fun k => k.1 + k.2) ?_ (X.length, Y.length) (by repeat (first | exact trivial | refine ⟨congrArg (fun z : Int => some (Value.int .i64 z)) (by omega), ?_⟩ | refine ⟨rfl, ?_⟩)) ⟨G.refl g w, A, X, Y, B, hB, hRes, rfl, rfl, by omega, hXl, hYl, by omega⟩
  rintro ⟨i, j⟩ w1 ⟨hg1, P, U, V, Z, hB1, hR, hU, hV, hP, hi, hj, hTs⟩
  simp only at hU hV hP hi hj hTs ⊢
  subst hR
  have hl : (P ++ (U ++ (V ++ Z))).length = T := by simp; omega
  have hm2 : P.length + i = m := hP
  repeat (first
 | (with_reducible first
 | apply CW.seq | apply CW.region | apply CW.block | apply CW.ret | apply CW.skip | apply CW.label | apply CW.exit
 | apply W.nil | apply Fin.seq | apply Fin.then_ret | apply Fin.then_exit | apply Fin.blk_ret | apply Fin.blk_normal | apply Fin.blk_here)
 | (with_reducible first | refine S.move ?_ | refine S.assign ?_ | refine S.pickT ?_ | refine S.pickF ?_ | refine S.lss ?_ | refine S.gtr ?_ | refine S.leq ?_ | refine S.geq ?_ | refine S.eqT ?_ | refine S.neF ?_ | refine S.eql ?_ | refine S.neq ?_ | refine S.add ?_ | refine S.sub ?_ | refine S.mul ?_ | refine S.conv ?_ | refine S.shr1 ?_ | refine S.neg ?_ | refine S.not ?_ | refine S.extract ?_ | refine S.len ?_ | refine S.fld ?_ | refine S.index ?_ | refine S.skp ?_ | refine S.sliceTo ?_ | refine S.sliceFrom ?_ | refine S.eqNil ?_ | refine S.eqbT ?_ | refine S.nebF ?_ | refine S.eqb ?_ | refine S.neb ?_)
 | ((with_reducible apply CW.cond_true); exact rfl)
 | ((with_reducible apply CW.cond_false); exact rfl)
 | ((with_reducible apply Fin.blk_far); exact rfl))
  refine CW.cond (by rfl) (fun h => ?_) (fun h => ?_)
  · have h : ¬ ((i : Int) = (j : Int)) := by simpa using h
    repeat (first
 | (with_reducible first
 | apply CW.seq | apply CW.region | apply CW.block | apply CW.ret | apply CW.skip | apply CW.label | apply CW.exit
 | apply W.nil | apply Fin.seq | apply Fin.then_ret | apply Fin.then_exit | apply Fin.blk_ret | apply Fin.blk_normal | apply Fin.blk_here)
 | (with_reducible first | refine S.move ?_ | refine S.assign ?_ | refine S.pickT ?_ | refine S.pickF ?_ | refine S.lss ?_ | refine S.gtr ?_ | refine S.leq ?_ | refine S.geq ?_ | refine S.eqT ?_ | refine S.neF ?_ | refine S.eql ?_ | refine S.neq ?_ | refine S.add ?_ | refine S.sub ?_ | refine S.mul ?_ | refine S.conv ?_ | refine S.shr1 ?_ | refine S.neg ?_ | refine S.not ?_ | refine S.extract ?_ | refine S.len ?_ | refine S.fld ?_ | refine S.index ?_ | refine S.skp ?_ | refine S.sliceTo ?_ | refine S.sliceFrom ?_ | refine S.eqNil ?_ | refine S.eqbT ?_ | refine S.nebF ?_ | refine S.eqb ?_ | refine S.neb ?_)
 | ((with_reducible apply CW.cond_true); exact rfl)
 | ((with_reducible apply CW.cond_false); exact rfl)
 | ((with_reducible apply Fin.blk_far); exact rfl))
    refine CW.cond (by rfl) (fun h2 => ?_) (fun h2 => ?_)
    · have h2 := of_decide_eq_true h2
      repeat (first
 | (with_reducible first
 | apply CW.seq | apply CW.region | apply CW.block | apply CW.ret | apply CW.skip | apply CW.label | apply CW.exit
 | apply W.nil | apply Fin.seq | apply Fin.then_ret | apply Fin.then_exit | apply Fin.blk_ret | apply Fin.blk_normal | apply Fin.blk_here)
 | (with_reducible first | refine S.move ?_ | refine S.assign ?_ | refine S.pickT ?_ | refine S.pickF ?_ | refine S.lss ?_ | refine S.gtr ?_ | refine S.leq ?_ | refine S.geq ?_ | refine S.eqT ?_ | refine S.neF ?_ | refine S.eql ?_ | refine S.neq ?_ | refine S.add ?_ | refine S.sub ?_ | refine S.mul ?_ | refine S.conv ?_ | refine S.shr1 ?_ | refine S.neg ?_ | refine S.not ?_ | refine S.extract ?_ | refine S.len ?_ | refine S.fld ?_ | refine S.index ?_ | refine S.skp ?_ | refine S.sliceTo ?_ | refine S.sliceFrom ?_ | refine S.eqNil ?_ | refine S.eqbT ?_ | refine S.nebF ?_ | refine S.eqb ?_ | refine S.neb ?_)
 | ((with_reducible apply CW.cond_true); exact rfl)
 | ((with_reducible apply CW.cond_false); exact rfl)
 | ((with_reducible apply Fin.blk_far); exact rfl))
      obtain ⟨U1, U2, hU12, hU1⟩ := cut2 U j (by omega)
      have hU2 : U2.length = i - j := by have := congrArg List.length hU12; simp at this; omega
      refine S.cl (op_call ent47 (by rfl) (by rfl)) (by rfl) (by rfl) (swapRange_at cmp c g T (m - i) m j P U1 U2 V Z _ w1 hB1 (by rw [hU12]; simp) (by omega) (by omega) (by omega) hl.symm (by omega) (by omega) (by omega) (by omega) (by omega) (by omega)) ?_
      rintro _ w2 ⟨hB2, hg2⟩
      repeat (first
 | (with_reducible first
 | apply CW.seq | apply CW.region | apply CW.block | apply CW.ret | apply CW.skip | apply CW.label | apply CW.exit
 | apply W.nil | apply Fin.seq | apply Fin.then_ret | apply Fin.then_exit | apply Fin.blk_ret | apply Fin.blk_normal | apply Fin.blk_here)
 | (with_reducible first | refine S.move ?_ | refine S.assign ?_ | refine S.pickT ?_ | refine S.pickF ?_ | refine S.lss ?_ | refine S.gtr ?_ | refine S.leq ?_ | refine S.geq ?_ | refine S.eqT ?_ | refine S.neF ?_ | refine S.eql ?_ | refine S.neq ?_ | refine S.add ?_ | refine S.sub ?_ | refine S.mul ?_ | refine S.conv ?_ | refine S.shr1 ?_ | refine S.neg ?_ | refine S.not ?_ | refine S.extract ?_ | refine S.len ?_ | refine S.fld ?_ | refine S.index ?_ | refine S.skp ?_ | refine S.sliceTo ?_ | refine S.sliceFrom ?_ | refine S.eqNil ?_ | refine S.eqbT ?_ | refine S.nebF ?_ | refine S.eqb ?_ | refine S.neb ?_)
 | ((with_reducible apply CW.cond_true); exact rfl)
 | ((with_reducible apply CW.cond_false); exact rfl)
 | ((with_reducible apply Fin.blk_far); exact rfl))
      refine Fin.round (i - j, j) (by simp only; omega) (by repeat (first | exact trivial | refine ⟨congrArg (fun z : Int => some (Value.int .i64 z)) (by omega), ?_⟩ | refine ⟨rfl, ?_⟩)) ⟨hg1.trans hg2, P ++ V, U2, U1, Z, by simpa using hB2, by rw [hU12]; simp, hU2, hU1, by simp; omega, by simp only; omega, hj, by simp; omega⟩
    · have h2 := of_decide_eq_false h2
      repeat (first
 | (with_reducible first
 | apply CW.seq | apply CW.region | apply CW.block | apply CW.ret | apply CW.skip | apply CW.label | apply CW.exit
 | apply W.nil | apply Fin.seq | apply Fin.then_ret | apply Fin.then_exit | apply Fin.blk_ret | apply Fin.blk_normal | apply Fin.blk_here)
 | (with_reducible first | refine S.move ?_ | refine S.assign ?_ | refine S.pickT ?_ | refine S.pickF ?_ | refine S.lss ?_ | refine S.gtr ?_ | refine S.leq ?_ | refine S.geq ?_ | refine S.eqT ?_ | refine S.neF ?_ | refine S.eql ?_ | refine S.neq ?_ | refine S.add ?_ | refine S.sub ?_ | refine S.mul ?_ | refine S.conv ?_ | refine S.shr1 ?_ | refine S.neg ?_ | refine S.not ?_ | refine S.extract ?_ | refine S.len ?_ | refine S.fld ?_ | refine S.index ?_ | refine S.skp ?_ | refine S.sliceTo ?_ | refine S.sliceFrom ?_ | refine S.eqNil ?_ | refine S.eqbT ?_ | refine S.nebF ?_ | refine S.eqb ?_ | refine S.neb ?_)
 | ((with_reducible apply CW.cond_true); exact rfl)
 | ((with_reducible apply CW.cond_false); exact rfl)
 | ((with_reducible apply Fin.blk_far); exact rfl))
      obtain ⟨V1, V2, hV12, hV1⟩ := cut2 V (j - i) (by omega)
      have hV2 : V2.length = i := by have := congrArg List.length hV12; simp at this; omega
      refine S.cl (op_call ent47 (by rfl) (by rfl)) (by rfl) (by rfl) (swapRange_at cmp c g T (m - i) (m + j - i) i P U V1 V2 Z _ w1 hB1 (by rw [hV12]; simp) (by omega) (by omega) (by omega) hl.symm (by omega) (by omega) (by omega) (by omega) (by omega) (by omega)) ?_
      rintro _ w2 ⟨hB2, hg2⟩
      repeat (first
 | (with_reducible first
 | apply CW.seq | apply CW.region | apply CW.block | apply CW.ret | apply CW.skip | apply CW.label | apply CW.exit
 | apply W.nil | apply Fin.seq | apply Fin.then_ret | apply Fin.then_exit | apply Fin.blk_ret | apply Fin.blk_normal | apply Fin.blk_here)
 | (with_reducible first | refine S.move ?_ | refine S.assign ?_ | refine S.pickT ?_ | refine S.pickF ?_ | refine S.lss ?_ | refine S.gtr ?_ | refine S.leq ?_ | refine S.geq ?_ | refine S.eqT ?_ | refine S.neF ?_ | refine S.eql ?_ | refine S.neq ?_ | refine S.add ?_ | refine S.sub ?_ | refine S.mul ?_ | refine S.conv ?_ | refine S.shr1 ?_ | refine S.neg ?_ | refine S.not ?_ | refine S.extract ?_ | refine S.len ?_ | refine S.fld ?_ | refine S.index ?_ | refine S.skp ?_ | refine S.sliceTo ?_ | refine S.sliceFrom ?_ | refine S.eqNil ?_ | refine S.eqbT ?_ | refine S.nebF ?_ | refine S.eqb ?_ | refine S.neb ?_)
 | ((with_reducible apply CW.cond_true); exact rfl)
 | ((with_reducible apply CW.cond_false); exact rfl)
 | ((with_reducible apply Fin.blk_far); exact rfl))
      refine Fin.round (i, j - i) (by simp only; omega) (by repeat (first | exact trivial | refine ⟨congrArg (fun z : Int => some (Value.int .i64 z)) (by omega), ?_⟩ | refine ⟨rfl, ?_⟩)) ⟨hg1.trans hg2, P, V2, V1, U ++ Z, by simpa using hB2, by rw [hV12]; simp, hV2, hV1, hP, hi, by simp only; omega, by simp; omega⟩
  · have h : (i : Int) = (j : Int) := by simpa using h
    have hij : i = j := by omega
    subst hij
    repeat (first
 | (with_reducible first
 | apply CW.seq | apply CW.region | apply CW.block | apply CW.ret | apply CW.skip | apply CW.label | apply CW.exit
 | apply W.nil | apply Fin.seq | apply Fin.then_ret | apply Fin.then_exit | apply Fin.blk_ret | apply Fin.blk_normal | apply Fin.blk_here)
 | (with_reducible first | refine S.move ?_ | refine S.assign ?_ | refine S.pickT ?_ | refine S.pickF ?_ | refine S.lss ?_ | refine S.gtr ?_ | refine S.leq ?_ | refine S.geq ?_ | refine S.eqT ?_ | refine S.neF ?_ | refine S.eql ?_ | refine S.neq ?_ | refine S.add ?_ | refine S.sub ?_ | refine S.mul ?_ | refine S.conv ?_ | refine S.shr1 ?_ | refine S.neg ?_ | refine S.not ?_ | refine S.extract ?_ | refine S.len ?_ | refine S.fld ?_ | refine S.index ?_ | refine S.skp ?_ | refine S.sliceTo ?_ | refine S.sliceFrom ?_ | refine S.eqNil ?_ | refine S.eqbT ?_ | refine S.nebF ?_ | refine S.eqb ?_ | refine S.neb ?_)
 | ((with_reducible apply CW.cond_true); exact rfl)
 | ((with_reducible apply CW.cond_false); exact rfl)
 | ((with_reducible apply Fin.blk_far); exact rfl))
    refine S.cl (op_call ent47 (by rfl) (by rfl)) (by rfl) (by rfl) (swapRange_at cmp c g T (m - i) m i P U [] V Z _ w1 hB1 (by simp) (by omega) (by omega) (by omega) hl.symm (by omega) (by simp; omega) (by omega) (by omega) (by omega) (by omega)) ?_
    rintro _ w2 ⟨hB2, hg2⟩
    repeat (first
 | (with_reducible first
 | apply CW.seq | apply CW.region | apply CW.block | apply CW.ret | apply CW.skip | apply CW.label | apply CW.exit
 | apply W.nil | apply Fin.seq | apply Fin.then_ret | apply Fin.then_exit | apply Fin.blk_ret | apply Fin.blk_normal | apply Fin.blk_here)
 | (with_reducible first | refine S.move ?_ | refine S.assign ?_ | refine S.pickT ?_ | refine S.pickF ?_ | refine S.lss ?_ | refine S.gtr ?_ | refine S.leq ?_ | refine S.geq ?_ | refine S.eqT ?_ | refine S.neF ?_ | refine S.eql ?_ | refine S.neq ?_ | refine S.add ?_ | refine S.sub ?_ | refine S.mul ?_ | refine S.conv ?_ | refine S.shr1 ?_ | refine S.neg ?_ | refine S.not ?_ | refine S.extract ?_ | refine S.len ?_ | refine S.fld ?_ | refine S.index ?_ | refine S.skp ?_ | refine S.sliceTo ?_ | refine S.sliceFrom ?_ | refine S.eqNil ?_ | refine S.eqbT ?_ | refine S.nebF ?_ | refine S.eqb ?_ | refine S.neb ?_)
 | ((with_reducible apply CW.cond_true); exact rfl)
 | ((with_reducible apply CW.cond_false); exact rfl)
 | ((with_reducible apply Fin.blk_far); exact rfl))
    (with_reducible first | apply R.r0 | apply R.e0); exact rfl
    exact ⟨by simpa using hB2, hg1.trans hg2⟩

end Go.Proofs.YtmilpjkjcanghaaDoor

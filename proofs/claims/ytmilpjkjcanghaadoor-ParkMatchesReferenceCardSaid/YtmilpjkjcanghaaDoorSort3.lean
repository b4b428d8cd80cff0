/- The library's sort: insertion. -/
import Derived.Test.YtmilpjkjcanghaaDoorSort2
import Derived.Test.YtmilpjkjcanghaaDoorOrd
namespace Go.Proofs.YtmilpjkjcanghaaDoor
open Go.RowKit
set_option linter.unusedVariables false
set_option linter.unusedSimpArgs false

theorem swapAt_mid' (A M B : List PV) (x y : PV) : swapAt (A ++ x :: (M ++ y :: B)) (A.length + (M.length + 1)) A.length = A ++ y :: (M ++ x :: B) := by
  have h1 : (A ++ x :: (M ++ y :: B)).getD A.length PV.zero = x := by simp [List.getD_eq_getElem?_getD]
  have h2 : (A ++ x :: (M ++ y :: B)).getD (A.length + (M.length + 1)) PV.zero = y := by
    rw [List.getD_eq_getElem?_getD, List.getElem?_append_right (by omega), Nat.add_sub_cancel_left, List.getElem?_cons_succ, List.getElem?_append_right (by omega), Nat.sub_self]
    rfl
  unfold swapAt
  rw [h1, h2, List.set_append_right _ _ (by omega), Nat.add_sub_cancel_left, List.set_cons_succ, List.set_append_right _ _ (by omega), Nat.sub_self, List.set_cons_zero, List.set_append_right _ _ (by omega), Nat.sub_self, List.set_cons_zero]

/-- Two neighbours. -/
theorem near (A B : List PV) (x y : PV) (i : Nat) (h : A.length = i) : (A ++ x :: y :: B)[i]? = some x ∧ (A ++ x :: y :: B)[i + 1]? = some y ∧ swapAt (A ++ x :: y :: B) i (i + 1) = A ++ y :: x :: B ∧ swapAt (A ++ x :: y :: B) (i + 1) i = A ++ y :: x :: B ∧
    (A ++ x :: y :: B).getD i PV.zero = x ∧ (A ++ x :: y :: B).getD (i + 1) PV.zero = y := by
  subst h
  have h1 : (A ++ x :: y :: B)[A.length]? = some x := by simp
  have h2 : (A ++ x :: y :: B)[A.length + 1]? = some y := by rw [List.getElem?_append_right (by omega), Nat.add_sub_cancel_left]; rfl
  exact ⟨h1, h2, swapAt_mid A [] B x y, swapAt_mid' A [] B x y, by rw [List.getD_eq_getElem?_getD, h1]; rfl, by rw [List.getD_eq_getElem?_getD, h2]; rfl⟩

def cmpV : Value := .func (.func 38) #[] #[]

def sTo (L : List PV) (k : Nat) : List PV := sortTo L (min k L.length)

theorem insertion_calls (c g n : Nat) (A L B D0 : List PV) (w : World) (hB : BL w g D0) (hD : D0 = A ++ (L ++ B)) (hc : D0.length ≤ c) (hn : D0.length ≤ 1000) (h0 : n = D0.length)
    {a1 a2 : Int} (e1 : a1 = (A.length : Nat)) (e2 : a2 = ((A.length + L.length : Nat) : Int)) :
    CallsR Tryd.prog 43 [.slice (some ⟨g, 0, none⟩) n c, .int .i64 a1, .int .i64 a2, cmpV] w
      fun _ w' => BL w' g (A ++ (sortR L ++ B)) ∧ G g w w' := by
  subst e1; subst e2; subst h0; subst hD
  have hlen : (A ++ (L ++ B)).length = A.length + L.length + B.length := by simp; omega
  rw [hlen] at hc hn ⊢
  refine enter4 Tryd.func43 rfl Tryd.ntmps43 rfl ?_
  generalize hT : A.length + L.length + B.length = T at *
  generalize ha : A.length = a at *
  have hinit : sTo L 1 ++ L.drop 1 = L := by
    cases L with
    | nil => rfl
    | cons x r => simp [sTo, sortTo, insR, posOf]
  repeat (first
 | (with_reducible first
 | apply CW.seq | apply CW.region | apply CW.block | apply CW.ret | apply CW.skip | apply CW.label | apply CW.exit
 | apply W.nil | apply Fin.seq | apply Fin.then_ret | apply Fin.then_exit | apply Fin.blk_ret | apply Fin.blk_normal | apply Fin.blk_here)
 | (with_reducible first | refine S.move ?_ | refine S.assign ?_ | refine S.pickT ?_ | refine S.pickF ?_ | refine S.lss ?_ | refine S.gtr ?_ | refine S.leq ?_ | refine S.geq ?_ | refine S.eqT ?_ | refine S.neF ?_ | refine S.eql ?_ | refine S.neq ?_ | refine S.add ?_ | refine S.sub ?_ | refine S.mul ?_ | refine S.conv ?_ | refine S.shr1 ?_ | refine S.neg ?_ | refine S.not ?_ | refine S.extract ?_ | refine S.len ?_ | refine S.fld ?_ | refine S.index ?_ | refine S.skp ?_ | refine S.sliceTo ?_ | refine S.sliceFrom ?_ | refine S.eqNil ?_ | refine S.eqbT ?_ | refine S.nebF ?_ | refine S.eqb ?_ | refine S.neb ?_)
 | ((with_reducible apply CW.cond_true); exact rfl)
 | ((with_reducible apply CW.cond_false); exact rfl)
 | ((with_reducible apply Fin.blk_far); exact rfl))
  refine CW.loop (ι := Nat) (fun k => [(8, .int .i64 ((a + k : Nat) : Int)), (0, .slice (some ⟨g, 0, none⟩) T c), (1, .int .i64 (a : Int)), (2, .int .i64 ((a + L.length : Nat) : Int)), (3, cmpV)])
    (fun k w' => G g w w' ∧ 1 ≤ k ∧ BL w' g (A ++ (sTo L k ++ (L.drop k ++ B)))) (fun k => L.length - k) ?_ 1 (by repeat (first | exact trivial | refine ⟨congrArg (fun z : Int => some (Value.int .i64 z)) (by omega), ?_⟩ | refine ⟨rfl, ?_⟩)) ⟨G.refl g w, Nat.le_refl _, by rw [← List.append_assoc (sTo L 1), hinit]; exact hB⟩
  rintro k w1 ⟨hg1, hk1, hB1⟩
  repeat (first
 | (with_reducible first
 | apply CW.seq | apply CW.region | apply CW.block | apply CW.ret | apply CW.skip | apply CW.label | apply CW.exit
 | apply W.nil | apply Fin.seq | apply Fin.then_ret | apply Fin.then_exit | apply Fin.blk_ret | apply Fin.blk_normal | apply Fin.blk_here)
 | (with_reducible first | refine S.move ?_ | refine S.assign ?_ | refine S.pickT ?_ | refine S.pickF ?_ | refine S.lss ?_ | refine S.gtr ?_ | refine S.leq ?_ | refine S.geq ?_ | refine S.eqT ?_ | refine S.neF ?_ | refine S.eql ?_ | refine S.neq ?_ | refine S.add ?_ | refine S.sub ?_ | refine S.mul ?_ | refine S.conv ?_ | refine S.shr1 ?_ | refine S.neg ?_ | refine S.not ?_ | refine S.extract ?_ | refine S.len ?_ | refine S.fld ?_ | refine S.index ?_ | refine S.skp ?_ | refine S.sliceTo ?_ | refine S.sliceFrom ?_ | refine S.eqNil ?_ | refine S.eqbT ?_ | refine S.nebF ?_ | refine S.eqb ?_ | refine S.neb ?_)
 | ((with_reducible apply CW.cond_true); exact rfl)
 | ((with_reducible apply CW.cond_false); exact rfl)
 | ((with_reducible apply Fin.blk_far); exact rfl))
  refine CW.cond (by rfl) (fun h => ?_) (fun h => ?_)
  · have hk' : k < L.length := by have := of_decide_eq_true h; omega
    clear h
    have q1 : sTo L k = sortTo L k := by unfold sTo; rw [Nat.min_eq_left (by omega)]
    have q2 : sTo L (k + 1) = insR L[k] (sortTo L k) := by unfold sTo; rw [Nat.min_eq_left (by omega), sortTo, getD_at hk']
    have q3 : L.drop k = L[k] :: L.drop (k + 1) := List.drop_eq_getElem_cons hk'
    have hol : (sortTo L k).length = k := sortTo_len L k
    have hdl : (L.drop (k + 1)).length + k + 1 = L.length := by simp; omega
    rw [q1, q3] at hB1
    generalize L[k] = x at *
    generalize sortTo L k = out at *
    rw [List.cons_append] at hB1
    have hrest : a + k + 1 + (L.drop (k + 1) ++ B).length = T := by rw [List.length_append]; omega
    generalize hRe : L.drop (k + 1) ++ B = rest at *
    repeat (first
 | (with_reducible first
 | apply CW.seq | apply CW.region | apply CW.block | apply CW.ret | apply CW.skip | apply CW.label | apply CW.exit
 | apply W.nil | apply Fin.seq | apply Fin.then_ret | apply Fin.then_exit | apply Fin.blk_ret | apply Fin.blk_normal | apply Fin.blk_here)
 | (with_reducible first | refine S.move ?_ | refine S.assign ?_ | refine S.pickT ?_ | refine S.pickF ?_ | refine S.lss ?_ | refine S.gtr ?_ | refine S.leq ?_ | refine S.geq ?_ | refine S.eqT ?_ | refine S.neF ?_ | refine S.eql ?_ | refine S.neq ?_ | refine S.add ?_ | refine S.sub ?_ | refine S.mul ?_ | refine S.conv ?_ | refine S.shr1 ?_ | refine S.neg ?_ | refine S.not ?_ | refine S.extract ?_ | refine S.len ?_ | refine S.fld ?_ | refine S.index ?_ | refine S.skp ?_ | refine S.sliceTo ?_ | refine S.sliceFrom ?_ | refine S.eqNil ?_ | refine S.eqbT ?_ | refine S.nebF ?_ | refine S.eqb ?_ | refine S.neb ?_)
 | ((with_reducible apply CW.cond_true); exact rfl)
 | ((with_reducible apply CW.cond_false); exact rfl)
 | ((with_reducible apply Fin.blk_far); exact rfl))
    refine CW.loop (ι := Nat) (fun t => [(9, .int .i64 ((a + t : Nat) : Int)), (8, .int .i64 ((a + k : Nat) : Int)), (0, .slice (some ⟨g, 0, none⟩) T c), (1, .int .i64 (a : Int)), (2, .int .i64 ((a + L.length : Nat) : Int)), (3, cmpV)])
      (fun t w' => G g w1 w' ∧ t ≤ k ∧ posOf x out out.length = posOf x out t ∧ BL w' g ((A ++ out.take t) ++ x :: (out.drop t ++ rest))) (fun t => t) ?_ k (by repeat (first | exact trivial | refine ⟨congrArg (fun z : Int => some (Value.int .i64 z)) (by omega), ?_⟩ | refine ⟨rfl, ?_⟩)) ⟨G.refl g w1, Nat.le_refl _, by rw [hol], by rw [← hol, List.take_length, List.drop_length]; simpa using hB1⟩
    rintro t w2 ⟨hg2, ht, hpos, hB2⟩
    have hla : (A ++ out.take t).length = a + t := by rw [List.length_append, List.length_take]; omega
    have hdrop : a + t + 1 + (out.drop t ++ rest).length = T := by rw [List.length_append, List.length_drop]; omega
    repeat (first
 | (with_reducible first
 | apply CW.seq | apply CW.region | apply CW.block | apply CW.ret | apply CW.skip | apply CW.label | apply CW.exit
 | apply W.nil | apply Fin.seq | apply Fin.then_ret | apply Fin.then_exit | apply Fin.blk_ret | apply Fin.blk_normal | apply Fin.blk_here)
 | (with_reducible first | refine S.move ?_ | refine S.assign ?_ | refine S.pickT ?_ | refine S.pickF ?_ | refine S.lss ?_ | refine S.gtr ?_ | refine S.leq ?_ | refine S.geq ?_ | refine S.eqT ?_ | refine S.neF ?_ | refine S.eql ?_ | refine S.neq ?_ | refine S.add ?_ | refine S.sub ?_ | refine S.mul ?_ | refine S.conv ?_ | refine S.shr1 ?_ | refine S.neg ?_ | refine S.not ?_ | refine S.extract ?_ | refine S.len ?_ | refine S.fld ?_ | refine S.index ?_ | refine S.skp ?_ | refine S.sliceTo ?_ | refine S.sliceFrom ?_ | refine S.eqNil ?_ | refine S.eqbT ?_ | refine S.nebF ?_ | refine S.eqb ?_ | refine S.neb ?_)
 | ((with_reducible apply CW.cond_true); exact rfl)
 | ((with_reducible apply CW.cond_false); exact rfl)
 | ((with_reducible apply Fin.blk_far); exact rfl))
    refine wp_facts (R := X) (front := [0, 1, 2, 3, 4, 5, 6, 7, 8, 9, 10, 11, 12, 13, 14, 15, 16]) (tail := []) mixed (by kernel_rfl) X.refl (fun _ _ _ => X.trans) (X.drew _) ?_
    repeat ((with_reducible refine TC.step ?_); first
      | (with_reducible first | refine D.move ?_ | refine D.assign ?_ | refine D.pickT ?_ | refine D.pickF ?_ | refine D.lss ?_ | refine D.gtr ?_ | refine D.leq ?_ | refine D.geq ?_ | refine D.eqT ?_ | refine D.neF ?_ | refine D.eql ?_ | refine D.neq ?_ | refine D.add ?_ | refine D.sub ?_ | refine D.mul ?_ | refine D.conv ?_ | refine D.shr1 ?_ | refine D.neg ?_ | refine D.not ?_ | refine D.extract ?_ | refine D.len ?_ | refine D.fld ?_ | refine D.index ?_ | refine D.skp ?_ | refine D.sliceTo ?_ | refine D.sliceFrom ?_ | refine D.eqNil ?_ | refine D.eqbT ?_ | refine D.nebF ?_ | refine D.eqb ?_ | refine D.neb ?_))
    refine TC.bool (fun h => ?_) (fun h => ?_)
    · have h := of_decide_eq_true h
      obtain ⟨m, rfl⟩ : ∃ m, t = m + 1 := ⟨t - 1, by omega⟩
      have hm : m < out.length := by omega
      have hps : posOf x out (m + 1) = if cmpP x out[m] < 0 then posOf x out m else m + 1 := by rw [posOf, getD_at hm]
      have ht1 : out.take (m + 1) = out.take m ++ [out[m]] := (List.take_append_getElem hm).symm
      have hd1 : out.drop m = out[m] :: out.drop (m + 1) := List.drop_eq_getElem_cons hm
      have hlm : (A ++ out.take m).length = a + m := by rw [List.length_append, List.length_take]; omega
      have hB3 : BL w2 g ((A ++ out.take m) ++ out[m] :: x :: (out.drop (m + 1) ++ rest)) := by
        rw [ht1] at hB2
        simpa only [List.append_assoc, List.cons_append, List.nil_append] using hB2
      have hkeep : A ++ ((out.take (m + 1) ++ x :: out.drop (m + 1)) ++ rest) = (A ++ out.take m) ++ out[m] :: x :: (out.drop (m + 1) ++ rest) := by
        rw [ht1]; simp only [List.append_assoc, List.cons_append, List.nil_append]
      have hnx : (A ++ out.take m) ++ x :: out[m] :: (out.drop (m + 1) ++ rest) = (A ++ out.take m) ++ x :: (out.drop m ++ rest) := by rw [hd1]; rfl
      generalize out[m] = y at *
      obtain ⟨n1, n2, n3, n4, n5, n6⟩ := near (A ++ out.take m) (out.drop (m + 1) ++ rest) y x (a + m) hlm
      have hEl : ((A ++ out.take m) ++ y :: x :: (out.drop (m + 1) ++ rest)).length = T := by
        rw [List.length_append, hlm, List.length_cons, List.length_cons]; omega
      rw [hnx] at n4
      clear hB2 n3 hnx ht1 hd1
      generalize (A ++ out.take m) ++ y :: x :: (out.drop (m + 1) ++ rest) = Ls at *
      repeat ((with_reducible refine TC.step ?_); first
        | (with_reducible refine D.indexE (j := a + (m + 1)) ?_)
        | (with_reducible refine D.indexE (j := a + m) ?_)
        | refine D.lds (cs := x.cs) (by rfl) stPod (fun w' hx' j u hj => (hB3.x hx').cell n2 hj) X.refl (by rfl) (by rfl) ?_
        | refine D.lds (cs := y.cs) (by rfl) stPod (fun w' hx' j u hj => (hB3.x hx').cell n1 hj) X.refl (by rfl) (by rfl) ?_
        | refine D.cl (op_callv (vs := [x.v, y.v]) ent38 (by rfl) (by rfl)) (by rfl) (by rfl) (fun w' _ => Compare_calls x y w') ?_
        | (with_reducible first | refine D.move ?_ | refine D.assign ?_ | refine D.pickT ?_ | refine D.pickF ?_ | refine D.lss ?_ | refine D.gtr ?_ | refine D.leq ?_ | refine D.geq ?_ | refine D.eqT ?_ | refine D.neF ?_ | refine D.eql ?_ | refine D.neq ?_ | refine D.add ?_ | refine D.sub ?_ | refine D.mul ?_ | refine D.conv ?_ | refine D.shr1 ?_ | refine D.neg ?_ | refine D.not ?_ | refine D.extract ?_ | refine D.len ?_ | refine D.fld ?_ | refine D.index ?_ | refine D.skp ?_ | refine D.sliceTo ?_ | refine D.sliceFrom ?_ | refine D.eqNil ?_ | refine D.eqbT ?_ | refine D.nebF ?_ | refine D.eqb ?_ | refine D.neb ?_))
      refine TC.done fun w3 hx3 => ?_
      have hB4 := hB3.x hx3
      repeat (first
 | (with_reducible first
 | apply CW.seq | apply CW.region | apply CW.block | apply CW.ret | apply CW.skip | apply CW.label | apply CW.exit
 | apply W.nil | apply Fin.seq | apply Fin.then_ret | apply Fin.then_exit | apply Fin.blk_ret | apply Fin.blk_normal | apply Fin.blk_here)
 | (with_reducible first | refine S.move ?_ | refine S.assign ?_ | refine S.pickT ?_ | refine S.pickF ?_ | refine S.lss ?_ | refine S.gtr ?_ | refine S.leq ?_ | refine S.geq ?_ | refine S.eqT ?_ | refine S.neF ?_ | refine S.eql ?_ | refine S.neq ?_ | refine S.add ?_ | refine S.sub ?_ | refine S.mul ?_ | refine S.conv ?_ | refine S.shr1 ?_ | refine S.neg ?_ | refine S.not ?_ | refine S.extract ?_ | refine S.len ?_ | refine S.fld ?_ | refine S.index ?_ | refine S.skp ?_ | refine S.sliceTo ?_ | refine S.sliceFrom ?_ | refine S.eqNil ?_ | refine S.eqbT ?_ | refine S.nebF ?_ | refine S.eqb ?_ | refine S.neb ?_)
 | ((with_reducible apply CW.cond_true); exact rfl)
 | ((with_reducible apply CW.cond_false); exact rfl)
 | ((with_reducible apply Fin.blk_far); exact rfl))
      refine CW.cond (by rfl) (fun h2 => ?_) (fun h2 => ?_)
      · have h2 := of_decide_eq_true h2
        repeat (first
 | (with_reducible first
 | apply CW.seq | apply CW.region | apply CW.block | apply CW.ret | apply CW.skip | apply CW.label | apply CW.exit
 | apply W.nil | apply Fin.seq | apply Fin.then_ret | apply Fin.then_exit | apply Fin.blk_ret | apply Fin.blk_normal | apply Fin.blk_here)
 | (with_reducible first | refine S.move ?_ | refine S.assign ?_ | refine S.pickT ?_ | refine S.pickF ?_ | refine S.lss ?_ | refine S.gtr ?_ | refine S.leq ?_ | refine S.geq ?_ | refine S.eqT ?_ | refine S.neF ?_ | refine S.eql ?_ | refine S.neq ?_ | refine S.add ?_ | refine S.sub ?_ | refine S.mul ?_ | refine S.conv ?_ | refine S.shr1 ?_ | refine S.neg ?_ | refine S.not ?_ | refine S.extract ?_ | refine S.len ?_ | refine S.fld ?_ | refine S.index ?_ | refine S.skp ?_ | refine S.sliceTo ?_ | refine S.sliceFrom ?_ | refine S.eqNil ?_ | refine S.eqbT ?_ | refine S.nebF ?_ | refine S.eqb ?_ | refine S.neb ?_)
 | ((with_reducible apply CW.cond_true); exact rfl)
 | ((with_reducible apply CW.cond_false); exact rfl)
 | ((with_reducible apply Fin.blk_far); exact rfl))
        refine wp_facts3 (R := X) (pu := [0, 1, 2, 3, 4, 5, 6, 7, 8, 10, 11, 12]) (front := [9, 13]) (tail := [14, 15, 16, 17]) mixed (by kernel_rfl) (by (repeat (first | with_reducible exact NoPanic.post_ | with_reducible apply NoPanic.then_ | with_reducible apply NoPanic.blk))) X.refl (fun _ _ _ => X.trans) (X.drew _) ?_
        repeat ((with_reducible refine TP.step ?_); first
          | (with_reducible refine E.indexE (j := a + (m + 1)) ?_)
          | (with_reducible refine E.indexE (j := a + m) ?_)
          | (with_reducible first | refine E.move ?_ | refine E.assign ?_ | refine E.pickT ?_ | refine E.pickF ?_ | refine E.lss ?_ | refine E.gtr ?_ | refine E.leq ?_ | refine E.geq ?_ | refine E.eqT ?_ | refine E.neF ?_ | refine E.eql ?_ | refine E.neq ?_ | refine E.add ?_ | refine E.sub ?_ | refine E.mul ?_ | refine E.conv ?_ | refine E.shr1 ?_ | refine E.neg ?_ | refine E.not ?_ | refine E.extract ?_ | refine E.len ?_ | refine E.fld ?_ | refine E.index ?_ | refine E.skp ?_ | refine E.sliceTo ?_ | refine E.sliceFrom ?_ | refine E.eqNil ?_ | refine E.eqbT ?_ | refine E.nebF ?_ | refine E.eqb ?_ | refine E.neb ?_))
        refine TP.done ?_
        repeat ((with_reducible refine TC.step ?_); first
          | refine D.lds (cs := x.cs) (by rfl) stPod (fun w' hx' j u hj => (hB4.x hx').cell n2 hj) X.refl (by rfl) (by rfl) ?_
          | refine D.lds (cs := y.cs) (by rfl) stPod (fun w' hx' j u hj => (hB4.x hx').cell n1 hj) X.refl (by rfl) (by rfl) ?_)
        refine TC.tail4 (by rfl) (by rfl) (by rfl) (by rfl) (fun w4 hx4 => ?_)
        (with_reducible refine S.indexE (j := a + (m + 1)) ?_)
        refine S.stP (p := y) (by rfl) (by rfl) (hB4.x hx4) (by omega) szPod9 (by rfl) fun w5 hg5 hB5 => ?_
        (with_reducible refine S.indexE (j := a + m) ?_)
        refine S.stP (p := x) (by rfl) (by rfl) hB5 (by rw [List.length_set]; omega) szPod9 (by rfl) fun w6 hg6 hB6 => ?_
        have hfin : BL w6 g (swapAt Ls (a + m + 1) (a + m)) := by rw [swapAt, n5, n6]; exact hB6
        rw [n4] at hfin
        repeat (first
 | (with_reducible first
 | apply CW.seq | apply CW.region | apply CW.block | apply CW.ret | apply CW.skip | apply CW.label | apply CW.exit
 | apply W.nil | apply Fin.seq | apply Fin.then_ret | apply Fin.then_exit | apply Fin.blk_ret | apply Fin.blk_normal | apply Fin.blk_here)
 | (with_reducible first | refine S.move ?_ | refine S.assign ?_ | refine S.pickT ?_ | refine S.pickF ?_ | refine S.lss ?_ | refine S.gtr ?_ | refine S.leq ?_ | refine S.geq ?_ | refine S.eqT ?_ | refine S.neF ?_ | refine S.eql ?_ | refine S.neq ?_ | refine S.add ?_ | refine S.sub ?_ | refine S.mul ?_ | refine S.conv ?_ | refine S.shr1 ?_ | refine S.neg ?_ | refine S.not ?_ | refine S.extract ?_ | refine S.len ?_ | refine S.fld ?_ | refine S.index ?_ | refine S.skp ?_ | refine S.sliceTo ?_ | refine S.sliceFrom ?_ | refine S.eqNil ?_ | refine S.eqbT ?_ | refine S.nebF ?_ | refine S.eqb ?_ | refine S.neb ?_)
 | ((with_reducible apply CW.cond_true); exact rfl)
 | ((with_reducible apply CW.cond_false); exact rfl)
 | ((with_reducible apply Fin.blk_far); exact rfl))
        refine Fin.round m (by omega) (by repeat (first | exact trivial | refine ⟨congrArg (fun z : Int => some (Value.int .i64 z)) (by omega), ?_⟩ | refine ⟨rfl, ?_⟩)) ⟨hg2.trans ((G.of_x hx3).trans ((G.of_x hx4).trans (hg5.trans hg6))), by omega, by rw [hpos, hps, if_pos h2], hfin⟩
      · have h2 := of_decide_eq_false h2
        repeat (first
 | (with_reducible first
 | apply CW.seq | apply CW.region | apply CW.block | apply CW.ret | apply CW.skip | apply CW.label | apply CW.exit
 | apply W.nil | apply Fin.seq | apply Fin.then_ret | apply Fin.then_exit | apply Fin.blk_ret | apply Fin.blk_normal | apply Fin.blk_here)
 | (with_reducible first | refine S.move ?_ | refine S.assign ?_ | refine S.pickT ?_ | refine S.pickF ?_ | refine S.lss ?_ | refine S.gtr ?_ | refine S.leq ?_ | refine S.geq ?_ | refine S.eqT ?_ | refine S.neF ?_ | refine S.eql ?_ | refine S.neq ?_ | refine S.add ?_ | refine S.sub ?_ | refine S.mul ?_ | refine S.conv ?_ | refine S.shr1 ?_ | refine S.neg ?_ | refine S.not ?_ | refine S.extract ?_ | refine S.len ?_ | refine S.fld ?_ | refine S.index ?_ | refine S.skp ?_ | refine S.sliceTo ?_ | refine S.sliceFrom ?_ | refine S.eqNil ?_ | refine S.eqbT ?_ | refine S.nebF ?_ | refine S.eqb ?_ | refine S.neb ?_)
 | ((with_reducible apply CW.cond_true); exact rfl)
 | ((with_reducible apply CW.cond_false); exact rfl)
 | ((with_reducible apply Fin.blk_far); exact rfl))
        refine Fin.round (k + 1) (by omega) (by repeat (first | exact trivial | refine ⟨congrArg (fun z : Int => some (Value.int .i64 z)) (by omega), ?_⟩ | refine ⟨rfl, ?_⟩)) ⟨hg1.trans (hg2.trans (G.of_x hx3)), by omega, ?_⟩
        rw [hps, if_neg h2] at hpos
        rw [q2, hRe, insR, hpos]
        rw [hkeep]
        exact hB4
    · have h := of_decide_eq_false h
      have ht0 : t = 0 := by omega
      subst ht0
      repeat ((with_reducible refine TC.step ?_); first
        | (with_reducible first | refine D.move ?_ | refine D.assign ?_ | refine D.pickT ?_ | refine D.pickF ?_ | refine D.lss ?_ | refine D.gtr ?_ | refine D.leq ?_ | refine D.geq ?_ | refine D.eqT ?_ | refine D.neF ?_ | refine D.eql ?_ | refine D.neq ?_ | refine D.add ?_ | refine D.sub ?_ | refine D.mul ?_ | refine D.conv ?_ | refine D.shr1 ?_ | refine D.neg ?_ | refine D.not ?_ | refine D.extract ?_ | refine D.len ?_ | refine D.fld ?_ | refine D.index ?_ | refine D.skp ?_ | refine D.sliceTo ?_ | refine D.sliceFrom ?_ | refine D.eqNil ?_ | refine D.eqbT ?_ | refine D.nebF ?_ | refine D.eqb ?_ | refine D.neb ?_))
      refine TC.done fun w3 hx3 => ?_
      repeat (first
 | (with_reducible first
 | apply CW.seq | apply CW.region | apply CW.block | apply CW.ret | apply CW.skip | apply CW.label | apply CW.exit
 | apply W.nil | apply Fin.seq | apply Fin.then_ret | apply Fin.then_exit | apply Fin.blk_ret | apply Fin.blk_normal | apply Fin.blk_here)
 | (with_reducible first | refine S.move ?_ | refine S.assign ?_ | refine S.pickT ?_ | refine S.pickF ?_ | refine S.lss ?_ | refine S.gtr ?_ | refine S.leq ?_ | refine S.geq ?_ | refine S.eqT ?_ | refine S.neF ?_ | refine S.eql ?_ | refine S.neq ?_ | refine S.add ?_ | refine S.sub ?_ | refine S.mul ?_ | refine S.conv ?_ | refine S.shr1 ?_ | refine S.neg ?_ | refine S.not ?_ | refine S.extract ?_ | refine S.len ?_ | refine S.fld ?_ | refine S.index ?_ | refine S.skp ?_ | refine S.sliceTo ?_ | refine S.sliceFrom ?_ | refine S.eqNil ?_ | refine S.eqbT ?_ | refine S.nebF ?_ | refine S.eqb ?_ | refine S.neb ?_)
 | ((with_reducible apply CW.cond_true); exact rfl)
 | ((with_reducible apply CW.cond_false); exact rfl)
 | ((with_reducible apply Fin.blk_far); exact rfl))
      refine Fin.round (k + 1) (by omega) (by repeat (first | exact trivial | refine ⟨congrArg (fun z : Int => some (Value.int .i64 z)) (by omega), ?_⟩ | refine ⟨rfl, ?_⟩)) ⟨hg1.trans (hg2.trans (G.of_x hx3)), by omega, ?_⟩
      rw [q2, hRe, insR, hpos]
      simpa [posOf] using hB2.x hx3
  · have h := of_decide_eq_false h
    have hk2 : L.length ≤ k := by omega
    repeat (first
 | (with_reducible first
 | apply CW.seq | apply CW.region | apply CW.block | apply CW.ret | apply CW.skip | apply CW.label | apply CW.exit
 | apply W.nil | apply Fin.seq | apply Fin.then_ret | apply Fin.then_exit | apply Fin.blk_ret | apply Fin.blk_normal | apply Fin.blk_here)
 | (with_reducible first | refine S.move ?_ | refine S.assign ?_ | refine S.pickT ?_ | refine S.pickF ?_ | refine S.lss ?_ | refine S.gtr ?_ | refine S.leq ?_ | refine S.geq ?_ | refine S.eqT ?_ | refine S.neF ?_ | refine S.eql ?_ | refine S.neq ?_ | refine S.add ?_ | refine S.sub ?_ | refine S.mul ?_ | refine S.conv ?_ | refine S.shr1 ?_ | refine S.neg ?_ | refine S.not ?_ | refine S.extract ?_ | refine S.len ?_ | refine S.fld ?_ | refine S.index ?_ | refine S.skp ?_ | refine S.sliceTo ?_ | refine S.sliceFrom ?_ | refine S.eqNil ?_ | refine S.eqbT ?_ | refine S.nebF ?_ | refine S.eqb ?_ | refine S.neb ?_)
 | ((with_reducible apply CW.cond_true); exact rfl)
 | ((with_reducible apply CW.cond_false); exact rfl)
 | ((with_reducible apply Fin.blk_far); exact rfl))
    (with_reducible first | apply R.r0 | apply R.e0); exact rfl
    refine ⟨?_, hg1⟩
    have q1 : sTo L k = sortR L := by unfold sTo; rw [Nat.min_eq_right hk2]; rfl
    rw [q1, List.drop_eq_nil_of_le hk2] at hB1
    exact hB1

end Go.Proofs.YtmilpjkjcanghaaDoor

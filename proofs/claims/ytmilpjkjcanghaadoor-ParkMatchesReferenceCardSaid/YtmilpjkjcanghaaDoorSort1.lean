/- The library's sort: memory, swaps. -/
import Derived.Test.YtmilpjkjcanghaaDoorRank9
namespace Go.Proofs.YtmilpjkjcanghaaDoor
open Go.RowKit
set_option linter.unusedVariables false
set_option linter.unusedSimpArgs false

/-- The block holds these pods, and perhaps more behind them. -/
def BL (w : World) (g : Nat) (D : List PV) : Prop := ∃ sp, Blk w g 30 (flat D ++ sp)
def G (g : Nat) (w w' : World) : Prop := w.grownBy w' (some g)
theorem G.refl (g : Nat) (w : World) : G g w w := ⟨rfl, rfl, rfl, Nat.le_refl _, fun _ _ _ => rfl⟩
theorem G.trans {g : Nat} {a b c : World} (h : G g a b) (k : G g b c) : G g a c :=
  ⟨k.1.trans h.1, k.2.trans h.2, k.3.trans h.3, Nat.le_trans h.4 k.4, fun i hi hne => (k.5 i (by have := h.4; omega) hne).trans (h.5 i hi hne)⟩
theorem G.of_x {g : Nat} {a b : World} (h : X a b) : G g a b := ⟨h.1, h.2, h.3, h.4, fun i hi _ => h.5 i hi⟩
theorem BL.x {w w' : World} {g : Nat} {D : List PV} (h : BL w g D) (hx : X w w') : BL w' g D := h.imp fun _ h => h.x hx
theorem BL.lt {w : World} {g : Nat} {D : List PV} (h : BL w g D) : g < w.heap.size := h.choose_spec.lt
theorem BL.cell {w : World} {g : Nat} {D : List PV} (h : BL w g D) {i k : Nat} {p : PV} {u : Value} (hi : D[i]? = some p) (hk : p.cs[k]? = some u) : w.cell? ⟨g, 0 + i * 9 + k, none⟩ = some u := by
  obtain ⟨sp, h⟩ := h
  refine h.cell ?_
  have h1 := flat_get hi hk
  rw [Nat.zero_add, List.getElem?_append_left (List.getElem?_eq_some_iff.1 h1).1]
  exact h1
theorem BL.ps {w : World} {g c : Nat} {D : List PV} (h : BL w g D) (hc : D.length ≤ c) : PS w w.heap.size (.slice (some ⟨g, 0, none⟩) D.length c) D :=
  ⟨_, c, rfl, hc, fun _ => ⟨g, 0, rfl, h.lt, fun i p k u hi hk => h.cell hi hk⟩⟩

theorem run_storeVar_pod {P : Program} {t g i : Nat} {w : World} {D : List PV} {sp : List Value} {p : PV} (hB : Blk w g 30 (flat D ++ sp)) (hi : i < D.length) (hsz : (P.info? t).map (·.size) = some 9) :
    (storeVar t ⟨g, 0 + i * 9, none⟩ p.v).run P w = .ok () (w.setRow g (flat (D.set i p) ++ sp).toArray) := by
  cases hinf : P.info? t with
  | none => simp [hinf] at hsz
  | some inf =>
    have hs : inf.size = 9 := by rw [hinf] at hsz; simpa using hsz
    have hlen : i * 9 + 9 ≤ (flat D ++ sp).length := by rw [List.length_append, flat_length]; omega
    have h2 := run_storeCells_at P g (i * 9) 30 p.cs 0 (flat D ++ sp).toArray w hB (by simp [PV.cs_length]; simpa using hlen) p.one
    have h3 : p.v.cells.toList = p.cs := rfl
    have h4 := flat_set D i p hi sp
    rw [PV.cs_length] at h4
    have h5 : (⟨g, 0 + i * 9, none⟩ : Addr) = ⟨g, i * 9, none⟩ := by rw [Nat.zero_add]
    unfold storeVar
    rw [h5]
    simp [sizeOf, typeInfo, hinf, hs, h3, h2, show p.v.cells.size = 9 from rfl]
    congr 1
    apply Array.toList_inj.1
    simpa [PV.cs_length] using h4

section
variable {P : Program} {ops : Array Oper} {Q : Exit → Act → World → Prop} {l : List Oper} {N : Nat} {env : Env} {w : World} {ty : TypeId} {pos : String} {aft : Array Edge} {gd : Option (Nat × Bool)}
/-- A store of a pod. -/
theorem S.stP {t g i : Nat} {x y : Operand} {D : List PV} {p : PV} (hx : opv env x = some (.pointer (some ⟨g, 0 + i * 9, none⟩))) (hy : opv env y = some p.v) (hB : BL w g D) (hi : i < D.length) (hsz : (P.info? t).map (·.size) = some 9)
    (hg : wantE ops env gd = some true) (K : ∀ w', G g w w' → BL w' g (D.set i p) → W P ops Q l N env w') :
    W P ops Q ({ dst := none, op := .store t x y, type := ty, pos, after := aft, guard := gd } :: l) N env w := by
  obtain ⟨sp, hB⟩ := hB
  have hrun := run_storeVar_pod (P := P) (p := p) hB hi hsz
  rw [Nat.zero_add] at hrun hx
  exact W.writes (d := none) (w' := w.setRow g (flat (D.set i p) ++ sp).toArray) (fun ev he d pos aft gd => by
    simp [execOp, he x _ hx, he y _ hy, Instr.storeAt, Instr.sureAddr, hrun]) hg rfl (K _ (grown_setRow w g _) ⟨sp, setRow_heap w g _ _ _ _ hB⟩)
end

def swapAt (D : List PV) (i j : Nat) : List PV := (D.set i (D.getD j PV.zero)).set j (D.getD i PV.zero)
theorem swapAt_mid (A M B : List PV) (x y : PV) : swapAt (A ++ x :: (M ++ y :: B)) A.length (A.length + (M.length + 1)) = A ++ y :: (M ++ x :: B) := by
  have h1 : (A ++ x :: (M ++ y :: B)).getD A.length PV.zero = x := by simp [List.getD_eq_getElem?_getD]
  have h2 : (A ++ x :: (M ++ y :: B)).getD (A.length + (M.length + 1)) PV.zero = y := by
    rw [List.getD_eq_getElem?_getD, List.getElem?_append_right (by omega), Nat.add_sub_cancel_left, List.getElem?_cons_succ, List.getElem?_append_right (by omega), Nat.sub_self]
    rfl
  unfold swapAt
  rw [h1, h2, List.set_append_right _ _ (by omega), Nat.sub_self, List.set_cons_zero, List.set_append_right _ _ (by omega), Nat.add_sub_cancel_left, List.set_cons_succ, List.set_append_right _ _ (by omega), Nat.sub_self, List.set_cons_zero]

theorem swapRange_calls (cmp : Value) (c g : Nat) (A U M V B : List PV) (w : World) (hB : BL w g (A ++ (U ++ (M ++ (V ++ B))))) (huv : U.length = V.length) (hc : (A ++ (U ++ (M ++ (V ++ B)))).length ≤ c) (hn : (A ++ (U ++ (M ++ (V ++ B)))).length ≤ 1000) :
    CallsR Tryd.prog 47 [.slice (some ⟨g, 0, none⟩) (A ++ (U ++ (M ++ (V ++ B)))).length c, .int .i64 (A.length : Int), .int .i64 ((A.length + U.length + M.length : Nat) : Int), .int .i64 (U.length : Int), cmp] w
      fun _ w' => BL w' g (A ++ (V ++ (M ++ (U ++ B)))) ∧ G g w w' := by
  have hlen : (A ++ (U ++ (M ++ (V ++ B)))).length = A.length + U.length + M.length + V.length + B.length := by simp; omega
  rw [hlen] at hc hn ⊢
  refine enter5 Tryd.func47 rfl Tryd.ntmps47 rfl ?_
  generalize hT : A.length + U.length + M.length + V.length + B.length = T at *
  repeat (first
 | (with_reducible first
 | apply CW.seq | apply CW.region | apply CW.block | apply CW.ret | apply CW.skip | apply CW.label | apply CW.exit
 | apply W.nil | apply Fin.seq | apply Fin.then_ret | apply Fin.then_exit | apply Fin.blk_ret | apply Fin.blk_normal | apply Fin.blk_here)
 | (with_reducible first | refine S.move ?_ | refine S.assign ?_ | refine S.pickT ?_ | refine S.pickF ?_ | refine S.lss ?_ | refine S.gtr ?_ | refine S.leq ?_ | refine S.geq ?_ | refine S.eqT ?_ | refine S.neF ?_ | refine S.eql ?_ | refine S.neq ?_ | refine S.add ?_ | refine S.sub ?_ | refine S.mul ?_ | refine S.conv ?_ | refine S.shr1 ?_ | refine S.neg ?_ | refine S.not ?_ | refine S.extract ?_ | refine S.len ?_ | refine S.fld ?_ | refine S.index ?_ | refine S.skp ?_ | refine S.sliceTo ?_ | refine S.sliceFrom ?_ | refine S.eqNil ?_ | refine S.eqbT ?_ | refine S.nebF ?_ | refine S.eqb ?_ | refine S.neb ?_)
 | ((with_reducible apply CW.cond_true); exact rfl)
 | ((with_reducible apply CW.cond_false); exact rfl)
 | ((with_reducible apply Fin.blk_far); exact rfl))
  refine CW.loop (ι := Nat) (fun k => [(10, .int .i64 (k : Int)), (0, .slice (some ⟨g, 0, none⟩) T c), (1, .int .i64 (A.length : Int)), (2, .int .i64 ((A.length + U.length + M.length : Nat) : Int)), (3, .int .i64 (U.length : Int))])
    (fun k w' => G g w w' ∧ k ≤ U.length ∧ BL w' g ((A ++ V.take k) ++ (U.drop k ++ (M ++ (U.take k ++ (V.drop k ++ B)))))) (fun k => U.length - k) ?_ 0 (by repeat (first | exact trivial | refine ⟨rfl, ?_⟩)) ⟨G.refl g w, Nat.zero_le _, by simpa using hB⟩
  rintro k w1 ⟨hg1, hk, hB1⟩
  repeat (first
 | (with_reducible first
 | apply CW.seq | apply CW.region | apply CW.block | apply CW.ret | apply CW.skip | apply CW.label | apply CW.exit
 | apply W.nil | apply Fin.seq | apply Fin.then_ret | apply Fin.then_exit | apply Fin.blk_ret | apply Fin.blk_normal | apply Fin.blk_here)
 | (with_reducible first | refine S.move ?_ | refine S.assign ?_ | refine S.pickT ?_ | refine S.pickF ?_ | refine S.lss ?_ | refine S.gtr ?_ | refine S.leq ?_ | refine S.geq ?_ | refine S.eqT ?_ | refine S.neF ?_ | refine S.eql ?_ | refine S.neq ?_ | refine S.add ?_ | refine S.sub ?_ | refine S.mul ?_ | refine S.conv ?_ | refine S.shr1 ?_ | refine S.neg ?_ | refine S.not ?_ | refine S.extract ?_ | refine S.len ?_ | refine S.fld ?_ | refine S.index ?_ | refine S.skp ?_ | refine S.sliceTo ?_ | refine S.sliceFrom ?_ | refine S.eqNil ?_ | refine S.eqbT ?_ | refine S.nebF ?_ | refine S.eqb ?_ | refine S.neb ?_)
 | ((with_reducible apply CW.cond_true); exact rfl)
 | ((with_reducible apply CW.cond_false); exact rfl)
 | ((with_reducible apply Fin.blk_far); exact rfl))
  refine CW.cond (by rfl) (fun h => ?_) (fun h => ?_)
  · have hk' : k < U.length := by have := of_decide_eq_true h; omega
    clear h
    have hkv : k < V.length := by omega
    have e1 : U.drop k = U[k] :: U.drop (k + 1) := List.drop_eq_getElem_cons hk'
    have e2 : V.drop k = V[k] :: V.drop (k + 1) := List.drop_eq_getElem_cons hkv
    have e3 : U.take (k + 1) = U.take k ++ [U[k]] := (List.take_append_getElem hk').symm
    have e4 : V.take (k + 1) = V.take k ++ [V[k]] := (List.take_append_getElem hkv).symm
    have l1 : (A ++ V.take k).length = A.length + k := by simp; omega
    have l2 : (U.drop (k + 1) ++ (M ++ U.take k)).length = U.length + M.length - 1 := by simp; omega
    have hsw : BL w1 g ((A ++ V.take k) ++ U[k] :: ((U.drop (k + 1) ++ (M ++ U.take k)) ++ V[k] :: (V.drop (k + 1) ++ B))) := by
      rw [e1, e2] at hB1
      simpa only [List.append_assoc, List.cons_append] using hB1
    have hres := swapAt_mid (A ++ V.take k) (U.drop (k + 1) ++ (M ++ U.take k)) (V.drop (k + 1) ++ B) U[k] V[k]
    rw [l1, l2, show A.length + k + (U.length + M.length - 1 + 1) = A.length + U.length + M.length + k from by omega] at hres
    have hx : ((A ++ V.take k) ++ U[k] :: ((U.drop (k + 1) ++ (M ++ U.take k)) ++ V[k] :: (V.drop (k + 1) ++ B)))[A.length + k]? = some U[k] := by
      rw [List.getElem?_append_right (by omega), l1, Nat.sub_self]; rfl
    have hy : ((A ++ V.take k) ++ U[k] :: ((U.drop (k + 1) ++ (M ++ U.take k)) ++ V[k] :: (V.drop (k + 1) ++ B)))[A.length + U.length + M.length + k]? = some V[k] := by
      rw [List.getElem?_append_right (by omega), l1, show A.length + U.length + M.length + k - (A.length + k) = (U.length + M.length - 1) + 1 from by omega, List.getElem?_cons_succ, List.getElem?_append_right (by omega), l2, Nat.sub_self]; rfl
    have hres2 : (A ++ V.take k) ++ V[k] :: ((U.drop (k + 1) ++ (M ++ U.take k)) ++ U[k] :: (V.drop (k + 1) ++ B)) = (A ++ V.take (k + 1)) ++ (U.drop (k + 1) ++ (M ++ (U.take (k + 1) ++ (V.drop (k + 1) ++ B)))) := by
      rw [e3, e4]; simp only [List.append_assoc, List.cons_append, List.nil_append]
    have hDl : ((A ++ V.take k) ++ U[k] :: ((U.drop (k + 1) ++ (M ++ U.take k)) ++ V[k] :: (V.drop (k + 1) ++ B))).length = T := by simp; omega
    rw [hres2] at hres
    clear hres2 e1 e2 e3 e4 l1 l2
    generalize (A ++ V.take k) ++ U[k] :: ((U.drop (k + 1) ++ (M ++ U.take k)) ++ V[k] :: (V.drop (k + 1) ++ B)) = Ls at *
    generalize U[k] = x at *
    generalize V[k] = y at *
    have hxg : Ls.getD (A.length + k) PV.zero = x := by rw [List.getD_eq_getElem?_getD, hx]; rfl
    have hyg : Ls.getD (A.length + U.length + M.length + k) PV.zero = y := by rw [List.getD_eq_getElem?_getD, hy]; rfl
    repeat (first
 | (with_reducible first
 | apply CW.seq | apply CW.region | apply CW.block | apply CW.ret | apply CW.skip | apply CW.label | apply CW.exit
 | apply W.nil | apply Fin.seq | apply Fin.then_ret | apply Fin.then_exit | apply Fin.blk_ret | apply Fin.blk_normal | apply Fin.blk_here)
 | (with_reducible first | refine S.move ?_ | refine S.assign ?_ | refine S.pickT ?_ | refine S.pickF ?_ | refine S.lss ?_ | refine S.gtr ?_ | refine S.leq ?_ | refine S.geq ?_ | refine S.eqT ?_ | refine S.neF ?_ | refine S.eql ?_ | refine S.neq ?_ | refine S.add ?_ | refine S.sub ?_ | refine S.mul ?_ | refine S.conv ?_ | refine S.shr1 ?_ | refine S.neg ?_ | refine S.not ?_ | refine S.extract ?_ | refine S.len ?_ | refine S.fld ?_ | refine S.index ?_ | refine S.skp ?_ | refine S.sliceTo ?_ | refine S.sliceFrom ?_ | refine S.eqNil ?_ | refine S.eqbT ?_ | refine S.nebF ?_ | refine S.eqb ?_ | refine S.neb ?_)
 | ((with_reducible apply CW.cond_true); exact rfl)
 | ((with_reducible apply CW.cond_false); exact rfl)
 | ((with_reducible apply Fin.blk_far); exact rfl))
    refine wp_facts3 (R := X) (pu := [0, 1, 2, 3, 4, 5, 6, 7, 8, 9, 10, 11, 12, 14, 15, 16, 17, 18]) (front := [13, 19]) (tail := [20, 21, 22, 23]) mixed (by kernel_rfl) (by (repeat (first | with_reducible exact NoPanic.post_ | with_reducible apply NoPanic.then_ | with_reducible apply NoPanic.blk))) X.refl (fun _ _ _ => X.trans) (X.drew _) ?_
    repeat ((with_reducible refine TP.step ?_); first
      | (with_reducible refine E.indexE (j := A.length + k) ?_)
      | (with_reducible refine E.indexE (j := A.length + U.length + M.length + k) ?_)
      | (with_reducible first | refine E.move ?_ | refine E.assign ?_ | refine E.pickT ?_ | refine E.pickF ?_ | refine E.lss ?_ | refine E.gtr ?_ | refine E.leq ?_ | refine E.geq ?_ | refine E.eqT ?_ | refine E.neF ?_ | refine E.eql ?_ | refine E.neq ?_ | refine E.add ?_ | refine E.sub ?_ | refine E.mul ?_ | refine E.conv ?_ | refine E.shr1 ?_ | refine E.neg ?_ | refine E.not ?_ | refine E.extract ?_ | refine E.len ?_ | refine E.fld ?_ | refine E.index ?_ | refine E.skp ?_ | refine E.sliceTo ?_ | refine E.sliceFrom ?_ | refine E.eqNil ?_ | refine E.eqbT ?_ | refine E.nebF ?_ | refine E.eqb ?_ | refine E.neb ?_))
    refine TP.done ?_
    repeat ((with_reducible refine TC.step ?_); first
      | refine D.lds (cs := x.cs) (by rfl) stPod (fun w' hx' j u hj => (hsw.x hx').cell hx hj) X.refl (by rfl) (by rfl) ?_
      | refine D.lds (cs := y.cs) (by rfl) stPod (fun w' hx' j u hj => (hsw.x hx').cell hy hj) X.refl (by rfl) (by rfl) ?_)
    refine TC.tail4 (by rfl) (by rfl) (by rfl) (by rfl) (fun w2 hx2 => ?_)
    (with_reducible refine S.indexE (j := A.length + k) ?_)
    refine S.stP (p := y) (by rfl) (by rfl) (hsw.x hx2) (by omega) szPod9 (by rfl) fun w3 hg3 hB3 => ?_
    (with_reducible refine S.indexE (j := A.length + U.length + M.length + k) ?_)
    refine S.stP (p := x) (by rfl) (by rfl) hB3 (by rw [List.length_set]; omega) szPod9 (by rfl) fun w4 hg4 hB4 => ?_
    have hfin : BL w4 g (swapAt Ls (A.length + k) (A.length + U.length + M.length + k)) := by rw [swapAt, hxg, hyg]; exact hB4
    rw [hres] at hfin
    repeat (first
 | (with_reducible first
 | apply CW.seq | apply CW.region | apply CW.block | apply CW.ret | apply CW.skip | apply CW.label | apply CW.exit
 | apply W.nil | apply Fin.seq | apply Fin.then_ret | apply Fin.then_exit | apply Fin.blk_ret | apply Fin.blk_normal | apply Fin.blk_here)
 | (with_reducible first | refine S.move ?_ | refine S.assign ?_ | refine S.pickT ?_ | refine S.pickF ?_ | refine S.lss ?_ | refine S.gtr ?_ | refine S.leq ?_ | refine S.geq ?_ | refine S.eqT ?_ | refine S.neF ?_ | refine S.eql ?_ | refine S.neq ?_ | refine S.add ?_ | refine S.sub ?_ | refine S.mul ?_ | refine S.conv ?_ | refine S.shr1 ?_ | refine S.neg ?_ | refine S.not ?_ | refine S.extract ?_ | refine S.len ?_ | refine S.fld ?_ | refine S.index ?_ | refine S.skp ?_ | refine S.sliceTo ?_ | refine S.sliceFrom ?_ | refine S.eqNil ?_ | refine S.eqbT ?_ | refine S.nebF ?_ | refine S.eqb ?_ | refine S.neb ?_)
 | ((with_reducible apply CW.cond_true); exact rfl)
 | ((with_reducible apply CW.cond_false); exact rfl)
 | ((with_reducible apply Fin.blk_far); exact rfl))
    refine Fin.round (k + 1) (by omega) (by repeat (first | exact trivial | refine ⟨rfl, ?_⟩)) ⟨hg1.trans ((G.of_x hx2).trans (hg3.trans hg4)), hk', hfin⟩
  · have h := of_decide_eq_false h
    repeat (first
 | (with_reducible first
 | apply CW.seq | apply CW.region | apply CW.block | apply CW.ret | apply CW.skip | apply CW.label | apply CW.exit
 | apply W.nil | apply Fin.seq | apply Fin.then_ret | apply Fin.then_exit | apply Fin.blk_ret | apply Fin.blk_normal | apply Fin.blk_here)
 | (with_reducible first | refine S.move ?_ | refine S.assign ?_ | refine S.pickT ?_ | refine S.pickF ?_ | refine S.lss ?_ | refine S.gtr ?_ | refine S.leq ?_ | refine S.geq ?_ | refine S.eqT ?_ | refine S.neF ?_ | refine S.eql ?_ | refine S.neq ?_ | refine S.add ?_ | refine S.sub ?_ | refine S.mul ?_ | refine S.conv ?_ | refine S.shr1 ?_ | refine S.neg ?_ | refine S.not ?_ | refine S.extract ?_ | refine S.len ?_ | refine S.fld ?_ | refine S.index ?_ | refine S.skp ?_ | refine S.sliceTo ?_ | refine S.sliceFrom ?_ | refine S.eqNil ?_ | refine S.eqbT ?_ | refine S.nebF ?_ | refine S.eqb ?_ | refine S.neb ?_)
 | ((with_reducible apply CW.cond_true); exact rfl)
 | ((with_reducible apply CW.cond_false); exact rfl)
 | ((with_reducible apply Fin.blk_far); exact rfl))
    (with_reducible first | apply R.r0 | apply R.e0); exact rfl
    rw [show k = U.length from by omega] at hB1
    rw [List.take_length, List.drop_length, huv, List.take_length, List.drop_length] at hB1
    exact ⟨by simpa using hB1, hg1⟩

end Go.Proofs.YtmilpjkjcanghaaDoor

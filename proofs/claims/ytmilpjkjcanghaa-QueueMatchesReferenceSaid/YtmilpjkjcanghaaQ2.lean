/- The heap's own method Swap. -/
import Derived.Test.YtmilpjkjcanghaaQ1
namespace Go.Proofs.Ytmilpjkjcanghaa
open Go.RowKit
set_option linter.unusedVariables false
set_option linter.unusedSimpArgs false

theorem OwnP.open_ {w : World} {B : Nat} {v : Value} {L : List PV} (h : OwnP w B v L) (hne : L ≠ []) : ∃ g cap sp, v = .slice (some ⟨g, 0, none⟩) L.length cap ∧ B ≤ g ∧ Blk w g 25 (flat L ++ sp) ∧ L.length ≤ cap ∧ cap ≤ maxLen ∧ (flat L ++ sp).length = cap * 9 := by
  obtain ⟨hl, h⟩ := h
  rcases h with ⟨_, h2⟩ | ⟨g, cap, cur, h1, h2, h3, h4, h5, h6, h7⟩
  · exact absurd (List.eq_nil_of_length_eq_zero h2) hne
  · have e : flat L ++ cur.toList.drop (L.length * 9) = cur.toList := by rw [← h7, List.take_append_drop]
    refine ⟨g, cap, cur.toList.drop (L.length * 9), h1, h2, ?_, h4, h5, ?_⟩
    · unfold Blk; rw [e]; exact h3
    · rw [e]; simpa using h6
theorem OwnP.mk_ {w : World} {B g cap : Nat} {L : List PV} {sp : List Value} (hB : B ≤ g) (hb : Blk w g 25 (flat L ++ sp)) (h1 : L.length ≤ cap) (h2 : cap ≤ maxLen) (h3 : (flat L ++ sp).length = cap * 9) : OwnP w B (.slice (some ⟨g, 0, none⟩) L.length cap) L :=
  ⟨flat_length L, .inr ⟨g, cap, (flat L ++ sp).toArray, rfl, hB, hb, h1, h2, by simpa using h3, by
    simp only [List.toList_toArray]
    rw [List.take_append_of_le_length (by rw [flat_length]; omega), List.take_of_length_le (by rw [flat_length]; omega)]⟩⟩

section
variable {P : Program} {ops : Array Oper} {Q : Exit → Act → World → Prop} {l : List Oper} {N : Nat} {env : Env} {w : World} {ty : TypeId} {pos : String} {aft : Array Edge} {gd : Option (Nat × Bool)}
/-- A store of a pod into a slice of the call's own. -/
theorem S.stO {t g i B c : Nat} {x y : Operand} {Ds : List PV} {p : PV} (hx : opv env x = some (.pointer (some ⟨g, 0 + i * 9, none⟩))) (hy : opv env y = some p.v) (hO : OwnP w B (.slice (some ⟨g, 0, none⟩) Ds.length c) Ds) (hi : i < Ds.length) (hsz : (P.info? t).map (·.size) = some 9)
    (hg : wantE ops env gd = some true) (K : ∀ w', G g w w' → OwnP w' B (.slice (some ⟨g, 0, none⟩) Ds.length c) (Ds.set i p) → W P ops Q l N env w') :
    W P ops Q ({ dst := none, op := .store t x y, type := ty, pos, after := aft, guard := gd } :: l) N env w := by
  obtain ⟨g', cap, sp, hv, hB, hb, h1, h2, h3⟩ := hO.open_ (by rintro rfl; simp at hi)
  cases hv
  have hrun := run_storeVar_pod (P := P) (p := p) hb hi hsz
  rw [Nat.zero_add] at hrun hx
  have hb' : Blk (w.setRow g (flat (Ds.set i p) ++ sp).toArray) g 25 (flat (Ds.set i p) ++ sp) := setRow_heap w g _ _ _ _ hb
  have hOw := OwnP.mk_ hB hb' (by rw [List.length_set]; exact h1) h2 (by rw [List.length_append, flat_length, List.length_set, ← flat_length, ← List.length_append]; exact h3)
  rw [List.length_set] at hOw
  exact W.writes (d := none) (w' := w.setRow g (flat (Ds.set i p) ++ sp).toArray) (fun ev he d pos aft gd => by
    simp [execOp, he x _ hx, he y _ hy, Instr.storeAt, Instr.sureAddr, hrun]) hg rfl (K _ (grown_setRow w g _) hOw)

/-- The entry of a key that is there. -/
theorem S.mapEntry {mt kt et r d clock : Nat} {x y : Operand} {dk : IntKind} {M : List Ent} {m : Int → Option Int} {k v : Int} (hm : P.underlying mt = some (.map kt et)) (hk : P.underlying kt = some (.int dk)) (hx : opv env x = some (.map (some r))) (hy : opv env y = some (.int .i64 k)) (hM : MB w r M clock) (ho : MapOk M clock m) (hv : m k = some v)
    (hg : wantE ops env gd = some true) (hd : Nat.blt d N = true) (K : ∀ (w' : World) (i : Nat) (t : Ent), G r w w' → MB w' r M clock → M[i]? = some t → t.k = k → W P ops Q l N ((d, .tuple #[.int .i64 v, .int .i64 (t.b : Int)]) :: env) w') :
    W P ops Q ({ dst := some d, op := .mapEntry mt x y, type := ty, pos, after := aft, guard := gd } :: l) N env w := by
  obtain ⟨i, t, h1, h2, h3⟩ := run_mapEntry' (P := P) hm hk hM ho hv
  exact W.makes (d := some d) (fun ev he dd pos aft gd => by
    simp [execOp, he x _ hx, he y _ hy, h3]) hg hd (K _ i t G.setObj hM.set h1 h2)
theorem S.entryStore {mt r clock i : Nat} {x y z : Operand} {M : List Ent} {t : Ent} {m : Int → Option Int} {v : Int} (hx : opv env x = some (.map (some r))) (hy : opv env y = some (.int .i64 (t.b : Int))) (hz : opv env z = some (.int .i64 v)) (hM : MB w r M clock) (ho : MapOk M clock m) (hi : M[i]? = some t)
    (hg : wantE ops env gd = some true) (K : ∀ (w' : World), G r w w' → MB w' r (M.set i { t with v := v }) clock → MapOk (M.set i { t with v := v }) clock (updM m t.k (some v)) → W P ops Q l N env w') :
    W P ops Q ({ dst := none, op := .entryStore mt x y z, type := ty, pos, after := aft, guard := gd } :: l) N env w := by
  have h := run_entryStore' (P := P) (mt := mt) (v := v) hM ho hi
  exact W.writes (d := none) (fun ev he dd pos aft gd => by
    simp [execOp, he x _ hx, he y _ hy, he z _ hz, h]) hg rfl (K _ G.setObj hM.set (ho.put hi v))
end

theorem G.blk {g k : Nat} {w w' : World} {t : TypeId} {cs : List Value} (h : G g w w') (hB : Blk w k t cs) (hne : k ≠ g) : Blk w' k t cs := (World.grownBy.block h k hB.lt (by simpa using hne)).trans hB
theorem G.own {g B : Nat} {w w' : World} {v : Value} {L : List PV} (h : G g w w') (hO : OwnP w B v L) (hne : v.ownBlock ≠ some g) : OwnP w' B v L := hO.g h hne
theorem G.mb {g r clock : Nat} {w w' : World} {M : List Ent} (h : G g w w') (hM : MB w r M clock) (hne : r ≠ g) : MB w' r M clock := (World.grownBy.block h r hM.lt (by simpa using hne)).trans hM

set_option maxHeartbeats 1000000 in
theorem pSwap_calls (B b0 bm : Nat) (v : Value) (Ds : List PV) (m : Int → Option Int) (w : World) (h : QS w B b0 bm v Ds m) (i k : Nat) (hi : i < Ds.length) (hk : k < Ds.length) (hmi : (m (Ds.getD i PV.zero).id).isSome = true) (hmk : (m (Ds.getD k PV.zero).id).isSome = true) {a1 a2 : Int} (e1 : a1 = (i : Int)) (e2 : a2 = (k : Int)) :
    CallsR Try.prog 84 [.pointer (some ⟨b0, 0, none⟩), .int .i64 a1, .int .i64 a2] w fun _ w' => QS w' B b0 bm v (swapAt Ds i k) (updM (updM m (Ds.getD k PV.zero).id (some (i : Int))) (Ds.getD i PV.zero).id (some (k : Int))) ∧ QF b0 bm v w w' := by
  subst e1; subst e2
  have hne : Ds ≠ [] := by rintro rfl; simp at hi
  have hh := h
  obtain ⟨g, cap, sp, rfl, hgB, hgb, hcap1, hcap2, hsz⟩ := h.own.open_ hne
  have hpi : Ds[i]? = some (Ds.getD i PV.zero) := by rw [getD_at hi]; exact List.getElem?_eq_getElem hi
  have hpk : Ds[k]? = some (Ds.getD k PV.zero) := by rw [getD_at hk]; exact List.getElem?_eq_getElem hk
  have hsw : swapAt Ds i k = (Ds.set i (Ds.getD k PV.zero)).set k (Ds.getD i PV.zero) := rfl
  rw [hsw]
  generalize Ds.getD i PV.zero = p at *
  generalize Ds.getD k PV.zero = q at *
  have hBL : BL w g Ds := ⟨sp, hgb⟩
  have hn0 : g ≠ b0 := fun e => h.n0 (by simp [Value.ownBlock, e])
  have hnm : g ≠ bm := fun e => h.nm (by simp [Value.ownBlock, e])
  refine enter3 Try.func84 rfl Try.ntmps84 rfl ?_
  repeat (first
 | (with_reducible first
 | apply CW.seq | apply CW.region | apply CW.block | apply CW.ret | apply CW.skip | apply CW.label | apply CW.exit
 | apply W.nil | apply Fin.seq | apply Fin.then_ret | apply Fin.then_exit | apply Fin.blk_ret | apply Fin.blk_normal | apply Fin.blk_here)
 | (with_reducible first | refine S.move ?_ | refine S.assign ?_ | refine S.pickT ?_ | refine S.pickF ?_ | refine S.lss ?_ | refine S.gtr ?_ | refine S.leq ?_ | refine S.geq ?_ | refine S.eqT ?_ | refine S.neF ?_ | refine S.eql ?_ | refine S.neq ?_ | refine S.add ?_ | refine S.sub ?_ | refine S.mul ?_ | refine S.conv ?_ | refine S.shr1 ?_ | refine S.neg ?_ | refine S.not ?_ | refine S.extract ?_ | refine S.len ?_ | refine S.fld ?_ | refine S.index ?_ | refine S.skp ?_ | refine S.sliceTo ?_ | refine S.sliceFrom ?_ | refine S.eqNil ?_ | refine S.eqbT ?_ | refine S.nebF ?_ | refine S.eqb ?_ | refine S.neb ?_)
 | (with_reducible first | refine S.nc ?_ | refine S.fld ?_ (h1 := fHeapL) | refine S.fld ?_ (h1 := fHeapM) | refine S.fld ?_ (h1 := fQueueH) | refine S.eqP ?_ | refine S.neP ?_ | refine S.quo ?_ | refine S.mkP ?_)
 | ((with_reducible apply CW.cond_true); exact rfl)
 | ((with_reducible apply CW.cond_false); exact rfl)
 | ((with_reducible apply Fin.blk_far); exact rfl))
  refine wp_facts3 (R := X) (pu := [0, 1, 2, 4, 5, 6, 7, 9, 10, 11, 12, 14, 17, 18, 19, 21]) (front := [3, 8, 13, 15, 16, 20, 22, 23]) (tail := [24, 25, 26, 27]) mixed (by kernel_rfl) (by (repeat (first | with_reducible exact NoPanic.post_ | with_reducible apply NoPanic.then_ | with_reducible apply NoPanic.blk))) X.refl (fun _ _ _ => X.trans) (X.drew _) ?_
  repeat ((with_reducible refine TP.step ?_); first
    | (with_reducible first | refine E.move ?_ | refine E.assign ?_ | refine E.pickT ?_ | refine E.pickF ?_ | refine E.lss ?_ | refine E.gtr ?_ | refine E.leq ?_ | refine E.geq ?_ | refine E.eqT ?_ | refine E.neF ?_ | refine E.eql ?_ | refine E.neq ?_ | refine E.add ?_ | refine E.sub ?_ | refine E.mul ?_ | refine E.conv ?_ | refine E.shr1 ?_ | refine E.neg ?_ | refine E.not ?_ | refine E.extract ?_ | refine E.len ?_ | refine E.fld ?_ | refine E.index ?_ | refine E.skp ?_ | refine E.sliceTo ?_ | refine E.sliceFrom ?_ | refine E.eqNil ?_ | refine E.eqbT ?_ | refine E.nebF ?_ | refine E.eqb ?_ | refine E.neb ?_)
    | (with_reducible first | refine E.nc ?_ | refine E.fld ?_ (h1 := fHeapL) | refine E.fld ?_ (h1 := fHeapM) | refine E.fld ?_ (h1 := fQueueH) | refine E.mkP ?_))
  refine TP.done ?_
  repeat ((with_reducible refine TC.step ?_); first
    | (with_reducible refine D.indexE (j := k) ?_)
    | (with_reducible refine D.indexE (j := i) ?_)
    | ((with_reducible apply D.ld); exact rfl; (with_reducible first | exact oneInt | exact oneI64s | exact oneBool | exact oneI64 | exact onePods | exact oneMap); (intro w' hx; exact (h.x hx).cv); exact X.refl; exact rfl; exact rfl)
    | refine D.lds (cs := p.cs) (by rfl) stPod (fun w' hx' j u hj => (hBL.x hx').cell hpi hj) X.refl (by rfl) (by rfl) ?_
    | refine D.lds (cs := q.cs) (by rfl) stPod (fun w' hx' j u hj => (hBL.x hx').cell hpk hj) X.refl (by rfl) (by rfl) ?_)
  refine TC.tail4 (by rfl) (by rfl) (by rfl) (by rfl) (fun w1 hx1 => ?_)
  have h1 := h.x hx1
  (with_reducible refine S.indexE (j := i) ?_)
  refine S.stO (p := q) (by rfl) (by rfl) h1.own hi szPod9 (by rfl) fun w2 hg2 hO2 => ?_
  (with_reducible refine S.indexE (j := k) ?_)
  refine S.stO (p := p) (by rfl) (by rfl) (by rw [List.length_set]; exact hO2) (by rw [List.length_set]; exact hk) szPod9 (by rfl) fun w3 hg3 hO3 => ?_
  rw [List.length_set] at hO3
  have hg13 := hg2.trans hg3
  have hq3 := hg13.blk h1.blk hn0.symm
  obtain ⟨M, clock, hM1, hMo⟩ := h1.map
  have hM3 := hg13.mb hM1 hnm.symm
  have hlen : ((Ds.set i q).set k p).length = Ds.length := by simp
  have hE : QS w3 B b0 bm (.slice (some ⟨g, 0, none⟩) Ds.length cap) ((Ds.set i q).set k p) m := ⟨h.hb0, h.hbm, hO3, hq3, ⟨M, clock, hM3, hMo⟩, h.n0, h.nm⟩
  have hx3 : QF b0 bm (.slice (some ⟨g, 0, none⟩) Ds.length cap) w w3 := (QF.of_x hx1).trans (QF.gv (v := .slice (some ⟨g, 0, none⟩) Ds.length cap) hg13) (.inl rfl)
  have hpk' : ((Ds.set i q).set k p)[k]? = some p := by rw [List.getElem?_set, if_pos rfl, if_pos (by rw [List.length_set]; exact hk)]
  have hpi' : ((Ds.set i q).set k p)[i]? = some q := by
    rw [List.getElem?_set]
    by_cases e : k = i
    · subst e
      rw [if_pos rfl, if_pos (by rw [List.length_set]; exact hk)]
      rw [hpi] at hpk
      exact hpk
    · rw [if_neg e, List.getElem?_set, if_pos rfl, if_pos hi]
  have hBL3 : BL w3 g ((Ds.set i q).set k p) := by
    obtain ⟨g', c', sp', hv', _, hb', _⟩ := (hO3).open_ (by intro e; rw [e] at hlen; simp at hlen; omega)
    injection hv' with q1 q2 q3
    injection q1 with q1
    injection q1 with q1
    subst q1
    exact ⟨sp', hb'⟩
  rw [← hlen] at hE hO3
  generalize (Ds.set i q).set k p = Es at *
  rw [hlen] at hE hO3
  clear hsw hg13 hg2 hg3 hO2 h1 hM1 hBL hgb
  repeat (first
 | (with_reducible first
 | apply CW.seq | apply CW.region | apply CW.block | apply CW.ret | apply CW.skip | apply CW.label | apply CW.exit
 | apply W.nil | apply Fin.seq | apply Fin.then_ret | apply Fin.then_exit | apply Fin.blk_ret | apply Fin.blk_normal | apply Fin.blk_here)
 | (with_reducible first | refine S.move ?_ | refine S.assign ?_ | refine S.pickT ?_ | refine S.pickF ?_ | refine S.lss ?_ | refine S.gtr ?_ | refine S.leq ?_ | refine S.geq ?_ | refine S.eqT ?_ | refine S.neF ?_ | refine S.eql ?_ | refine S.neq ?_ | refine S.add ?_ | refine S.sub ?_ | refine S.mul ?_ | refine S.conv ?_ | refine S.shr1 ?_ | refine S.neg ?_ | refine S.not ?_ | refine S.extract ?_ | refine S.len ?_ | refine S.fld ?_ | refine S.index ?_ | refine S.skp ?_ | refine S.sliceTo ?_ | refine S.sliceFrom ?_ | refine S.eqNil ?_ | refine S.eqbT ?_ | refine S.nebF ?_ | refine S.eqb ?_ | refine S.neb ?_)
 | (with_reducible first | refine S.nc ?_ | refine S.fld ?_ (h1 := fHeapL) | refine S.fld ?_ (h1 := fHeapM) | refine S.fld ?_ (h1 := fQueueH) | refine S.eqP ?_ | refine S.neP ?_ | refine S.quo ?_ | refine S.mkP ?_)
 | ((with_reducible apply CW.cond_true); exact rfl)
 | ((with_reducible apply CW.cond_false); exact rfl)
 | ((with_reducible apply Fin.blk_far); exact rfl))
  refine wp_facts3 (R := X) (pu := [0, 1, 2, 4, 5, 6, 8, 12, 13, 14, 16, 17, 18, 20, 24, 25]) (front := [3, 7, 9, 10, 11, 15, 19, 21, 22, 23]) (tail := [26, 27, 28, 29, 30, 31]) mixed (by kernel_rfl) (by (repeat (first | with_reducible exact NoPanic.post_ | with_reducible apply NoPanic.then_ | with_reducible apply NoPanic.blk))) X.refl (fun _ _ _ => X.trans) (X.drew _) ?_
  repeat ((with_reducible refine TP.step ?_); first
    | (with_reducible first | refine E.move ?_ | refine E.assign ?_ | refine E.pickT ?_ | refine E.pickF ?_ | refine E.lss ?_ | refine E.gtr ?_ | refine E.leq ?_ | refine E.geq ?_ | refine E.eqT ?_ | refine E.neF ?_ | refine E.eql ?_ | refine E.neq ?_ | refine E.add ?_ | refine E.sub ?_ | refine E.mul ?_ | refine E.conv ?_ | refine E.shr1 ?_ | refine E.neg ?_ | refine E.not ?_ | refine E.extract ?_ | refine E.len ?_ | refine E.fld ?_ | refine E.index ?_ | refine E.skp ?_ | refine E.sliceTo ?_ | refine E.sliceFrom ?_ | refine E.eqNil ?_ | refine E.eqbT ?_ | refine E.nebF ?_ | refine E.eqb ?_ | refine E.neb ?_)
    | (with_reducible first | refine E.nc ?_ | refine E.fld ?_ (h1 := fHeapL) | refine E.fld ?_ (h1 := fHeapM) | refine E.fld ?_ (h1 := fQueueH) | refine E.mkP ?_))
  refine TP.done ?_
  repeat ((with_reducible refine TC.step ?_); first
    | (with_reducible refine D.indexE (j := i) ?_)
    | (with_reducible refine D.indexE (j := k) ?_)
    | (with_reducible first | refine D.move ?_ | refine D.assign ?_ | refine D.pickT ?_ | refine D.pickF ?_ | refine D.lss ?_ | refine D.gtr ?_ | refine D.leq ?_ | refine D.geq ?_ | refine D.eqT ?_ | refine D.neF ?_ | refine D.eql ?_ | refine D.neq ?_ | refine D.add ?_ | refine D.sub ?_ | refine D.mul ?_ | refine D.conv ?_ | refine D.shr1 ?_ | refine D.neg ?_ | refine D.not ?_ | refine D.extract ?_ | refine D.len ?_ | refine D.fld ?_ | refine D.index ?_ | refine D.skp ?_ | refine D.sliceTo ?_ | refine D.sliceFrom ?_ | refine D.eqNil ?_ | refine D.eqbT ?_ | refine D.nebF ?_ | refine D.eqb ?_ | refine D.neb ?_)
    | ((with_reducible apply D.ld); exact rfl; (with_reducible first | exact oneInt | exact oneI64s | exact oneBool | exact oneI64 | exact onePods | exact oneMap); (intro w' hx; first | exact (hE.x hx).cv | exact (hE.x hx).cm); exact X.refl; exact rfl; exact rfl)
    | ((with_reducible apply D.ld); exact rfl; (with_reducible first | exact oneInt | exact oneI64s | exact oneBool | exact oneI64 | exact onePods | exact oneMap); (intro w' hx; first | exact (hBL3.x hx).cell hpi' rfl | exact (hBL3.x hx).cell hpk' rfl); exact X.refl; exact rfl; exact rfl))
  refine TC.tail6 (by rfl) (by rfl) (by rfl) (by rfl) (by rfl) (by rfl) (fun w4 hx4 => ?_)
  have hE4 := hE.x hx4
  have hM4 := hM3.x hx4
  obtain ⟨u1, hu1⟩ := Option.isSome_iff_exists.1 hmk
  obtain ⟨u2, hu2⟩ := Option.isSome_iff_exists.1 hmi
  refine S.mapEntry Try.underlying65 Try.underlying3 (by rfl) (by rfl) hM4 hMo hu1 (by rfl) (by rfl) fun w5 i5 t5 hg5 hM5 hi5 hk5 => ?_
  repeat (first
 | (with_reducible first
 | apply CW.seq | apply CW.region | apply CW.block | apply CW.ret | apply CW.skip | apply CW.label | apply CW.exit
 | apply W.nil | apply Fin.seq | apply Fin.then_ret | apply Fin.then_exit | apply Fin.blk_ret | apply Fin.blk_normal | apply Fin.blk_here)
 | (with_reducible first | refine S.move ?_ | refine S.assign ?_ | refine S.pickT ?_ | refine S.pickF ?_ | refine S.lss ?_ | refine S.gtr ?_ | refine S.leq ?_ | refine S.geq ?_ | refine S.eqT ?_ | refine S.neF ?_ | refine S.eql ?_ | refine S.neq ?_ | refine S.add ?_ | refine S.sub ?_ | refine S.mul ?_ | refine S.conv ?_ | refine S.shr1 ?_ | refine S.neg ?_ | refine S.not ?_ | refine S.extract ?_ | refine S.len ?_ | refine S.fld ?_ | refine S.index ?_ | refine S.skp ?_ | refine S.sliceTo ?_ | refine S.sliceFrom ?_ | refine S.eqNil ?_ | refine S.eqbT ?_ | refine S.nebF ?_ | refine S.eqb ?_ | refine S.neb ?_)
 | (with_reducible first | refine S.nc ?_ | refine S.fld ?_ (h1 := fHeapL) | refine S.fld ?_ (h1 := fHeapM) | refine S.fld ?_ (h1 := fQueueH) | refine S.eqP ?_ | refine S.neP ?_ | refine S.quo ?_ | refine S.mkP ?_)
 | ((with_reducible apply CW.cond_true); exact rfl)
 | ((with_reducible apply CW.cond_false); exact rfl)
 | ((with_reducible apply Fin.blk_far); exact rfl))
  refine S.entryStore (v := (i : Int)) (by rfl) (by rfl) (by rfl) hM5 hMo hi5 (by rfl) fun w6 hg6 hM6 ho6 => ?_
  generalize M.set i5 { t5 with v := (i : Int) } = M6 at *
  rw [hk5] at ho6
  have hu3 : ∃ u3, updM m q.id (some (i : Int)) p.id = some u3 := by
    unfold updM
    split
    · exact ⟨_, rfl⟩
    · exact ⟨_, hu2⟩
  obtain ⟨u3, hu3⟩ := hu3
  refine S.mapEntry Try.underlying65 Try.underlying3 (by rfl) (by rfl) hM6 ho6 hu3 (by rfl) (by rfl) fun w7 i7 t7 hg7 hM7 hi7 hk7 => ?_
  repeat (first
 | (with_reducible first
 | apply CW.seq | apply CW.region | apply CW.block | apply CW.ret | apply CW.skip | apply CW.label | apply CW.exit
 | apply W.nil | apply Fin.seq | apply Fin.then_ret | apply Fin.then_exit | apply Fin.blk_ret | apply Fin.blk_normal | apply Fin.blk_here)
 | (with_reducible first | refine S.move ?_ | refine S.assign ?_ | refine S.pickT ?_ | refine S.pickF ?_ | refine S.lss ?_ | refine S.gtr ?_ | refine S.leq ?_ | refine S.geq ?_ | refine S.eqT ?_ | refine S.neF ?_ | refine S.eql ?_ | refine S.neq ?_ | refine S.add ?_ | refine S.sub ?_ | refine S.mul ?_ | refine S.conv ?_ | refine S.shr1 ?_ | refine S.neg ?_ | refine S.not ?_ | refine S.extract ?_ | refine S.len ?_ | refine S.fld ?_ | refine S.index ?_ | refine S.skp ?_ | refine S.sliceTo ?_ | refine S.sliceFrom ?_ | refine S.eqNil ?_ | refine S.eqbT ?_ | refine S.nebF ?_ | refine S.eqb ?_ | refine S.neb ?_)
 | (with_reducible first | refine S.nc ?_ | refine S.fld ?_ (h1 := fHeapL) | refine S.fld ?_ (h1 := fHeapM) | refine S.fld ?_ (h1 := fQueueH) | refine S.eqP ?_ | refine S.neP ?_ | refine S.quo ?_ | refine S.mkP ?_)
 | ((with_reducible apply CW.cond_true); exact rfl)
 | ((with_reducible apply CW.cond_false); exact rfl)
 | ((with_reducible apply Fin.blk_far); exact rfl))
  refine S.entryStore (v := (k : Int)) (by rfl) (by rfl) (by rfl) hM7 ho6 hi7 (by rfl) fun w8 hg8 hM8 ho8 => ?_
  generalize M6.set i7 { t7 with v := (k : Int) } = M8 at *
  rw [hk7] at ho8
  have hgg : G bm w4 w8 := ((hg5.trans hg6).trans hg7).trans hg8
  have hb0m : b0 ≠ bm := h.ne
  have hfin : QF b0 bm (.slice (some ⟨g, 0, none⟩) Ds.length cap) w w8 := (hx3.trans (QF.of_x (v := .slice (some ⟨g, 0, none⟩) Ds.length cap) hx4) (.inl rfl)).trans (QF.gm (v := .slice (some ⟨g, 0, none⟩) Ds.length cap) hgg) (.inl rfl)
  repeat (first
 | (with_reducible first
 | apply CW.seq | apply CW.region | apply CW.block | apply CW.ret | apply CW.skip | apply CW.label | apply CW.exit
 | apply W.nil | apply Fin.seq | apply Fin.then_ret | apply Fin.then_exit | apply Fin.blk_ret | apply Fin.blk_normal | apply Fin.blk_here)
 | (with_reducible first | refine S.move ?_ | refine S.assign ?_ | refine S.pickT ?_ | refine S.pickF ?_ | refine S.lss ?_ | refine S.gtr ?_ | refine S.leq ?_ | refine S.geq ?_ | refine S.eqT ?_ | refine S.neF ?_ | refine S.eql ?_ | refine S.neq ?_ | refine S.add ?_ | refine S.sub ?_ | refine S.mul ?_ | refine S.conv ?_ | refine S.shr1 ?_ | refine S.neg ?_ | refine S.not ?_ | refine S.extract ?_ | refine S.len ?_ | refine S.fld ?_ | refine S.index ?_ | refine S.skp ?_ | refine S.sliceTo ?_ | refine S.sliceFrom ?_ | refine S.eqNil ?_ | refine S.eqbT ?_ | refine S.nebF ?_ | refine S.eqb ?_ | refine S.neb ?_)
 | (with_reducible first | refine S.nc ?_ | refine S.fld ?_ (h1 := fHeapL) | refine S.fld ?_ (h1 := fHeapM) | refine S.fld ?_ (h1 := fQueueH) | refine S.eqP ?_ | refine S.neP ?_ | refine S.quo ?_ | refine S.mkP ?_)
 | ((with_reducible apply CW.cond_true); exact rfl)
 | ((with_reducible apply CW.cond_false); exact rfl)
 | ((with_reducible apply Fin.blk_far); exact rfl))
  (with_reducible first | apply R.r0 | apply R.e0); exact rfl
  refine ⟨⟨h.hb0, h.hbm, ?_, hgg.blk hE4.blk hb0m, ⟨_, _, hM8, ho8⟩, h.n0, h.nm⟩, hfin⟩
  exact hgg.own hE4.own (by simpa [Value.ownBlock] using hnm)

end Go.Proofs.Ytmilpjkjcanghaa

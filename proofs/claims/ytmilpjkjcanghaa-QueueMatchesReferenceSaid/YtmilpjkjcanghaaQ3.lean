/- The heap's own methods Push and Pop. -/
import Derived.Test.YtmilpjkjcanghaaQ2
import Derived.Test.YtmilpjkjcanghaaLaw4
namespace Go.Proofs.Ytmilpjkjcanghaa
open Go.RowKit
set_option linter.unusedVariables false
set_option linter.unusedSimpArgs false

section
variable {P : Program} {ops : Array Oper} {Q : Exit → Act → World → Prop} {l : List Oper} {N : Nat} {env : Env} {w : World} {ty : TypeId} {pos : String} {aft : Array Edge} {gd : Option (Nat × Bool)}
/-- A store of one cell into a block that is known whole. -/
theorem S.stC {t t' : TypeId} {b o : Nat} {x y : Operand} {cs : List Value} {u : Value} (hx : opv env x = some (.pointer (some ⟨b, o, none⟩))) (hy : opv env y = some u) (hB : Blk w b t' cs) (ho : o < cs.length) (hu : u.cells = #[u]) (h1 : u.oneCell' = true) (hsz : (P.info? t).map (·.size) = some (0 + 1))
    (hg : wantE ops env gd = some true) (K : ∀ w', G b w w' → Blk w' b t' (cs.take o ++ [u] ++ cs.drop (o + 1)) → W P ops Q l N env w') :
    W P ops Q ({ dst := none, op := .store t x y, type := ty, pos, after := aft, guard := gd } :: l) N env w := by
  have hrun := run_storeVar_one (P := P) (t := t) hB ho hu h1 hsz
  exact W.writes (d := none) (w' := w.setRow b (cs.take o ++ [u] ++ cs.drop (o + 1)).toArray) (fun ev he d pos aft gd => by
    simp only [execOp, he x _ hx, he y _ hy, Instr.storeAt, Instr.sureAddr]
    simp [hrun]) hg rfl (K _ (grown_setRow w b _) (setRow_heap w b _ _ _ _ hB))

/-- m[k] = v -/
theorem S.mapUpdate {mt kt et r clock : Nat} {x y z : Operand} {dk : IntKind} {M : List Ent} {m : Int → Option Int} {k v : Int} (hm : P.underlying mt = some (.map kt et)) (hk : P.underlying kt = some (.int dk)) (hx : opv env x = some (.map (some r))) (hy : opv env y = some (.int .i64 k)) (hz : opv env z = some (.int .i64 v)) (hM : MB w r M clock) (ho : MapOk M clock m)
    (hg : wantE ops env gd = some true) (K : ∀ (w' : World) (M' : List Ent) (c' : Nat), G r w w' → MB w' r M' c' → MapOk M' c' (updM m k (some v)) → W P ops Q l N env w') :
    W P ops Q ({ dst := none, op := .mapUpdate mt x y z, type := ty, pos, after := aft, guard := gd } :: l) N env w := by
  obtain ⟨M', c', h1, h2⟩ := run_mapUpdate' (P := P) (w := w) (v := v) (k := k) hm hk hM ho
  exact W.writes (d := none) (fun ev he dd pos aft gd => by
    simp [execOp, he x _ hx, he y _ hy, he z _ hz, h1]) hg rfl (K _ M' c' G.setObj hM.set h2)
/-- delete(m, k) -/
theorem S.delete {mt kt et r clock : Nat} {x y : Operand} {dk : IntKind} {M : List Ent} {m : Int → Option Int} {k : Int} (hm : P.underlying mt = some (.map kt et)) (hk : P.underlying kt = some (.int dk)) (hx : opv env x = some (.map (some r))) (hy : opv env y = some (.int .i64 k)) (hM : MB w r M clock) (ho : MapOk M clock m)
    (hg : wantE ops env gd = some true) (K : ∀ (w' : World) (M' : List Ent), G r w w' → MB w' r M' clock → MapOk M' clock (updM m k none) → W P ops Q l N env w') :
    W P ops Q ({ dst := none, op := .call { callee := .builtin .delete, args := #[x, y], argTypes := #[mt, kt] }, type := ty, pos, after := aft, guard := gd } :: l) N env w := by
  obtain ⟨M', h1, h2⟩ := run_delete' (P := P) (w := w) (k := k) hm hk hM ho ty
  exact W.makes (d := none) (v := .tuple #[]) (fun ev he dd pos aft gd => by
    simp [execOp, resolve, invoke, builtin, he x _ hx, he y _ hy, h1]) hg rfl (K _ M' G.setObj hM.set h2)
end

theorem OwnP.nl {w : World} {B : Nat} {v : Value} {L : List PV} (h : OwnP w B v L) : ∃ A c, v = .slice A L.length c ∧ L.length ≤ c := by
  obtain ⟨A, c, h1, h2, _⟩ := h.ps
  exact ⟨A, c, h1, h2⟩

set_option maxHeartbeats 1000000 in
theorem pPush_calls (B b0 bm : Nat) (v : Value) (Ds : List PV) (m : Int → Option Int) (p : PV) (w : World) (h : QS w B b0 bm v Ds m) (hB : B ≤ w.heap.size) (hn : Ds.length + 1 ≤ 1000) :
    CallsR Try.prog 83 [.pointer (some ⟨b0, 0, none⟩), .iface 25 p.v] w fun _ w' => ∃ v', QS w' B b0 bm v' (Ds ++ [p]) (updM m p.id (some (Ds.length : Int))) ∧ QF b0 bm v w w' ∧ (v'.ownBlock = v.ownBlock ∨ ∀ i, v'.ownBlock = some i → w.heap.size ≤ i) := by
  obtain ⟨A, c, hv, hc⟩ := h.own.nl
  have hbm : b0 ≠ bm := h.ne
  refine enter2 Try.func83 rfl Try.ntmps83 rfl ?_
  repeat (first
 | (with_reducible first
 | apply CW.seq | apply CW.region | apply CW.block | apply CW.ret | apply CW.skip | apply CW.label | apply CW.exit
 | apply W.nil | apply Fin.seq | apply Fin.then_ret | apply Fin.then_exit | apply Fin.blk_ret | apply Fin.blk_normal | apply Fin.blk_here)
 | (with_reducible first | refine S.move ?_ | refine S.assign ?_ | refine S.pickT ?_ | refine S.pickF ?_ | refine S.lss ?_ | refine S.gtr ?_ | refine S.leq ?_ | refine S.geq ?_ | refine S.eqT ?_ | refine S.neF ?_ | refine S.eql ?_ | refine S.neq ?_ | refine S.add ?_ | refine S.sub ?_ | refine S.mul ?_ | refine S.conv ?_ | refine S.shr1 ?_ | refine S.neg ?_ | refine S.not ?_ | refine S.extract ?_ | refine S.len ?_ | refine S.fld ?_ | refine S.index ?_ | refine S.skp ?_ | refine S.sliceTo ?_ | refine S.sliceFrom ?_ | refine S.eqNil ?_ | refine S.eqbT ?_ | refine S.nebF ?_ | refine S.eqb ?_ | refine S.neb ?_)
 | (with_reducible first | refine S.nc ?_ | refine S.fld ?_ (h1 := fHeapL) | refine S.fld ?_ (h1 := fHeapM) | refine S.fld ?_ (h1 := fQueueH) | refine S.eqP ?_ | refine S.neP ?_ | refine S.quo ?_ | refine S.mkP ?_)
 | ((with_reducible apply CW.cond_true); exact rfl)
 | ((with_reducible apply CW.cond_false); exact rfl)
 | ((with_reducible apply Fin.blk_far); exact rfl))
  refine W.pure (d := some 8) (op_typeAssert Try.underlying25 rfl (by rfl)) (by rfl) (by rfl) ?_
  repeat (first
 | (with_reducible first
 | apply CW.seq | apply CW.region | apply CW.block | apply CW.ret | apply CW.skip | apply CW.label | apply CW.exit
 | apply W.nil | apply Fin.seq | apply Fin.then_ret | apply Fin.then_exit | apply Fin.blk_ret | apply Fin.blk_normal | apply Fin.blk_here)
 | (with_reducible first | refine S.move ?_ | refine S.assign ?_ | refine S.pickT ?_ | refine S.pickF ?_ | refine S.lss ?_ | refine S.gtr ?_ | refine S.leq ?_ | refine S.geq ?_ | refine S.eqT ?_ | refine S.neF ?_ | refine S.eql ?_ | refine S.neq ?_ | refine S.add ?_ | refine S.sub ?_ | refine S.mul ?_ | refine S.conv ?_ | refine S.shr1 ?_ | refine S.neg ?_ | refine S.not ?_ | refine S.extract ?_ | refine S.len ?_ | refine S.fld ?_ | refine S.index ?_ | refine S.skp ?_ | refine S.sliceTo ?_ | refine S.sliceFrom ?_ | refine S.eqNil ?_ | refine S.eqbT ?_ | refine S.nebF ?_ | refine S.eqb ?_ | refine S.neb ?_)
 | (with_reducible first | refine S.nc ?_ | refine S.fld ?_ (h1 := fHeapL) | refine S.fld ?_ (h1 := fHeapM) | refine S.fld ?_ (h1 := fQueueH) | refine S.eqP ?_ | refine S.neP ?_ | refine S.quo ?_ | refine S.mkP ?_)
 | ((with_reducible apply CW.cond_true); exact rfl)
 | ((with_reducible apply CW.cond_false); exact rfl)
 | ((with_reducible apply Fin.blk_far); exact rfl))
  refine W.newBlk (d := some 4) (mk := fun b => .pointer (some ⟨b, 0, none⟩)) (cs := PV.zero.cs) (op_alloc' zPod rfl) (by rfl) (by rfl) ?_
  intro b1 w1 hx1 hb1 hB1
  refine S.stB (vs := p.cs) (by rfl) (by rfl) rfl hB1 rfl szPod9 p.one (by rfl) ?_
  intro w2 hg2 hB2
  have h1 := h.x hx1
  have hx2 : X w w2 := below_g hx1 hg2 hx1.le hb1
  have h2 := h.x hx2
  clear h1 hg2 hB1 hx1
  repeat (first
 | (with_reducible first
 | apply CW.seq | apply CW.region | apply CW.block | apply CW.ret | apply CW.skip | apply CW.label | apply CW.exit
 | apply W.nil | apply Fin.seq | apply Fin.then_ret | apply Fin.then_exit | apply Fin.blk_ret | apply Fin.blk_normal | apply Fin.blk_here)
 | (with_reducible first | refine S.move ?_ | refine S.assign ?_ | refine S.pickT ?_ | refine S.pickF ?_ | refine S.lss ?_ | refine S.gtr ?_ | refine S.leq ?_ | refine S.geq ?_ | refine S.eqT ?_ | refine S.neF ?_ | refine S.eql ?_ | refine S.neq ?_ | refine S.add ?_ | refine S.sub ?_ | refine S.mul ?_ | refine S.conv ?_ | refine S.shr1 ?_ | refine S.neg ?_ | refine S.not ?_ | refine S.extract ?_ | refine S.len ?_ | refine S.fld ?_ | refine S.index ?_ | refine S.skp ?_ | refine S.sliceTo ?_ | refine S.sliceFrom ?_ | refine S.eqNil ?_ | refine S.eqbT ?_ | refine S.nebF ?_ | refine S.eqb ?_ | refine S.neb ?_)
 | (with_reducible first | refine S.nc ?_ | refine S.fld ?_ (h1 := fHeapL) | refine S.fld ?_ (h1 := fHeapM) | refine S.fld ?_ (h1 := fQueueH) | refine S.eqP ?_ | refine S.neP ?_ | refine S.quo ?_ | refine S.mkP ?_)
 | ((with_reducible apply CW.cond_true); exact rfl)
 | ((with_reducible apply CW.cond_false); exact rfl)
 | ((with_reducible apply Fin.blk_far); exact rfl))
  refine wp_facts3 (R := X) (pu := [0, 1, 2, 4, 6, 7, 8]) (front := [3, 5, 9, 10]) (tail := [11]) mixed (by kernel_rfl) (by (repeat (first | with_reducible exact NoPanic.post_ | with_reducible apply NoPanic.then_ | with_reducible apply NoPanic.blk))) X.refl (fun _ _ _ => X.trans) (X.drew _) ?_
  repeat ((with_reducible refine TP.step ?_); first
    | (with_reducible first | refine E.move ?_ | refine E.assign ?_ | refine E.pickT ?_ | refine E.pickF ?_ | refine E.lss ?_ | refine E.gtr ?_ | refine E.leq ?_ | refine E.geq ?_ | refine E.eqT ?_ | refine E.neF ?_ | refine E.eql ?_ | refine E.neq ?_ | refine E.add ?_ | refine E.sub ?_ | refine E.mul ?_ | refine E.conv ?_ | refine E.shr1 ?_ | refine E.neg ?_ | refine E.not ?_ | refine E.extract ?_ | refine E.len ?_ | refine E.fld ?_ | refine E.index ?_ | refine E.skp ?_ | refine E.sliceTo ?_ | refine E.sliceFrom ?_ | refine E.eqNil ?_ | refine E.eqbT ?_ | refine E.nebF ?_ | refine E.eqb ?_ | refine E.neb ?_)
    | (with_reducible first | refine E.nc ?_ | refine E.fld ?_ (h1 := fHeapL) | refine E.fld ?_ (h1 := fHeapM) | refine E.fld ?_ (h1 := fQueueH) | refine E.mkP ?_))
  refine TP.done ?_
  rw [hv] at h2 ⊢
  repeat ((with_reducible refine TC.step ?_); first
    | (with_reducible first | refine D.move ?_ | refine D.assign ?_ | refine D.pickT ?_ | refine D.pickF ?_ | refine D.lss ?_ | refine D.gtr ?_ | refine D.leq ?_ | refine D.geq ?_ | refine D.eqT ?_ | refine D.neF ?_ | refine D.eql ?_ | refine D.neq ?_ | refine D.add ?_ | refine D.sub ?_ | refine D.mul ?_ | refine D.conv ?_ | refine D.shr1 ?_ | refine D.neg ?_ | refine D.not ?_ | refine D.extract ?_ | refine D.len ?_ | refine D.fld ?_ | refine D.index ?_ | refine D.skp ?_ | refine D.sliceTo ?_ | refine D.sliceFrom ?_ | refine D.eqNil ?_ | refine D.eqbT ?_ | refine D.nebF ?_ | refine D.eqb ?_ | refine D.neb ?_)
    | ((with_reducible apply D.ld); exact rfl; (with_reducible first | exact oneInt | exact oneI64s | exact oneBool | exact oneI64 | exact onePods | exact oneMap); (intro w' hx; first | exact (h2.x hx).cv | exact (h2.x hx).cm | exact (hB2.x hx).cell rfl); exact X.refl; exact rfl; exact rfl))
  refine TC.tail1 (by rfl) (fun w3 hx3 => ?_)
  have h3 := h2.x hx3
  have hB3 := hB2.x hx3
  obtain ⟨M, clock, hM, hMo⟩ := h3.map
  refine S.mapUpdate Try.underlying65 Try.underlying3 (by rfl) (by rfl) (by rfl) hM hMo (by rfl) fun w4 M4 c4 hg4 hM4 ho4 => ?_
  have hb1m : b1 ≠ bm := by have := hM.lt; have h9 := h.map; obtain ⟨_, _, h9, _⟩ := h9; have := h9.lt; omega
  have h4 : QS w4 B b0 bm (.slice A Ds.length c) Ds (updM m p.id (some (Ds.length : Int))) := ⟨h.hb0, h.hbm, hg4.own h3.own (by rw [← hv]; exact h.nm), hg4.blk h3.blk hbm, ⟨_, _, hM4, ho4⟩, by rw [← hv]; exact h.n0, by rw [← hv]; exact h.nm⟩
  have hB4 := hg4.blk hB3 hb1m
  have hf4 : QF b0 bm v w w4 := (QF.of_x (hx2.trans hx3)).trans (QF.gm (v := v) hg4) (.inl rfl)
  clear hM hM4 hg4 h3 hB3 ho4 hMo h2 hB2
  repeat (first
 | (with_reducible first
 | apply CW.seq | apply CW.region | apply CW.block | apply CW.ret | apply CW.skip | apply CW.label | apply CW.exit
 | apply W.nil | apply Fin.seq | apply Fin.then_ret | apply Fin.then_exit | apply Fin.blk_ret | apply Fin.blk_normal | apply Fin.blk_here)
 | (with_reducible first | refine S.move ?_ | refine S.assign ?_ | refine S.pickT ?_ | refine S.pickF ?_ | refine S.lss ?_ | refine S.gtr ?_ | refine S.leq ?_ | refine S.geq ?_ | refine S.eqT ?_ | refine S.neF ?_ | refine S.eql ?_ | refine S.neq ?_ | refine S.add ?_ | refine S.sub ?_ | refine S.mul ?_ | refine S.conv ?_ | refine S.shr1 ?_ | refine S.neg ?_ | refine S.not ?_ | refine S.extract ?_ | refine S.len ?_ | refine S.fld ?_ | refine S.index ?_ | refine S.skp ?_ | refine S.sliceTo ?_ | refine S.sliceFrom ?_ | refine S.eqNil ?_ | refine S.eqbT ?_ | refine S.nebF ?_ | refine S.eqb ?_ | refine S.neb ?_)
 | (with_reducible first | refine S.nc ?_ | refine S.fld ?_ (h1 := fHeapL) | refine S.fld ?_ (h1 := fHeapM) | refine S.fld ?_ (h1 := fQueueH) | refine S.eqP ?_ | refine S.neP ?_ | refine S.quo ?_ | refine S.mkP ?_)
 | ((with_reducible apply CW.cond_true); exact rfl)
 | ((with_reducible apply CW.cond_false); exact rfl)
 | ((with_reducible apply Fin.blk_far); exact rfl))
  refine wp_facts3 (R := X) (pu := [0, 1, 2, 3]) (front := [4, 5, 6]) (tail := [7, 8, 9, 10]) mixed (by kernel_rfl) (by (repeat (first | with_reducible exact NoPanic.post_ | with_reducible apply NoPanic.then_ | with_reducible apply NoPanic.blk))) X.refl (fun _ _ _ => X.trans) (X.drew _) ?_
  repeat ((with_reducible refine TP.step ?_); first
    | (with_reducible first | refine E.move ?_ | refine E.assign ?_ | refine E.pickT ?_ | refine E.pickF ?_ | refine E.lss ?_ | refine E.gtr ?_ | refine E.leq ?_ | refine E.geq ?_ | refine E.eqT ?_ | refine E.neF ?_ | refine E.eql ?_ | refine E.neq ?_ | refine E.add ?_ | refine E.sub ?_ | refine E.mul ?_ | refine E.conv ?_ | refine E.shr1 ?_ | refine E.neg ?_ | refine E.not ?_ | refine E.extract ?_ | refine E.len ?_ | refine E.fld ?_ | refine E.index ?_ | refine E.skp ?_ | refine E.sliceTo ?_ | refine E.sliceFrom ?_ | refine E.eqNil ?_ | refine E.eqbT ?_ | refine E.nebF ?_ | refine E.eqb ?_ | refine E.neb ?_)
    | (with_reducible first | refine E.nc ?_ | refine E.fld ?_ (h1 := fHeapL) | refine E.fld ?_ (h1 := fHeapM) | refine E.fld ?_ (h1 := fQueueH) | refine E.mkP ?_))
  refine TP.done ?_
  repeat ((with_reducible refine TC.step ?_); first
    | ((with_reducible apply D.onePod (p := p)); exact rfl; exact rfl; exact rfl)
    | ((with_reducible apply D.ld); exact rfl; (with_reducible first | exact oneInt | exact oneI64s | exact oneBool | exact oneI64 | exact onePods | exact oneMap); (intro w' hx; exact (h4.x hx).cv); exact X.refl; exact rfl; exact rfl)
    | refine D.lds (cs := p.cs) (by rfl) stPod (fun w' hx' j u hj => by rw [Nat.zero_add]; exact (hB4.x hx').cell hj) X.refl (by rfl) (by rfl) ?_)
  refine TC.pr 29 (by rfl) fun v5 => TC.tail4 (by rfl) (by rfl) (by rfl) (by rfl) (fun w5 h5 => ?_)
  obtain ⟨hx5, hp5⟩ := h5
  have h5 := h4.x hx5
  have hw5 : w.heap.size ≤ w5.heap.size := by have := hf4.size; have := hx5.le; omega
  refine S.app (L := Ds) (M := [p]) (by rfl) (by rfl) h5.own hp5 (by simp; omega) (by omega) (by rfl) (by rfl) ?_
  intro v6 w6 hO6 hg6 hat6
  have hb6 : Blk w6 b0 69 [.slice A Ds.length c, .map (some bm)] := (hg6.block b0 h5.blk.lt (by rw [← hv]; exact fun e => h.n0 e.symm)).trans h5.blk
  obtain ⟨M5, c5, hM5, ho5⟩ := h5.map
  have hM6 : MB w6 bm M5 c5 := (hg6.block bm hM5.lt (by rw [← hv]; exact fun e => h.nm e.symm)).trans hM5
  rw [← hv] at hat6 hg6
  have hn6 : v6.ownBlock ≠ some b0 := by
    rcases hat6 with e | e
    · rw [e]; exact h.n0
    · rw [e]; intro e2; cases e2; have := h5.blk.lt; omega
  have hm6 : v6.ownBlock ≠ some bm := by
    rcases hat6 with e | e
    · rw [e]; exact h.nm
    · rw [e]; intro e2; cases e2; have := hM5.lt; omega
  repeat (first
 | (with_reducible first
 | apply CW.seq | apply CW.region | apply CW.block | apply CW.ret | apply CW.skip | apply CW.label | apply CW.exit
 | apply W.nil | apply Fin.seq | apply Fin.then_ret | apply Fin.then_exit | apply Fin.blk_ret | apply Fin.blk_normal | apply Fin.blk_here)
 | (with_reducible first | refine S.move ?_ | refine S.assign ?_ | refine S.pickT ?_ | refine S.pickF ?_ | refine S.lss ?_ | refine S.gtr ?_ | refine S.leq ?_ | refine S.geq ?_ | refine S.eqT ?_ | refine S.neF ?_ | refine S.eql ?_ | refine S.neq ?_ | refine S.add ?_ | refine S.sub ?_ | refine S.mul ?_ | refine S.conv ?_ | refine S.shr1 ?_ | refine S.neg ?_ | refine S.not ?_ | refine S.extract ?_ | refine S.len ?_ | refine S.fld ?_ | refine S.index ?_ | refine S.skp ?_ | refine S.sliceTo ?_ | refine S.sliceFrom ?_ | refine S.eqNil ?_ | refine S.eqbT ?_ | refine S.nebF ?_ | refine S.eqb ?_ | refine S.neb ?_)
 | (with_reducible first | refine S.nc ?_ | refine S.fld ?_ (h1 := fHeapL) | refine S.fld ?_ (h1 := fHeapM) | refine S.fld ?_ (h1 := fQueueH) | refine S.eqP ?_ | refine S.neP ?_ | refine S.quo ?_ | refine S.mkP ?_)
 | ((with_reducible apply CW.cond_true); exact rfl)
 | ((with_reducible apply CW.cond_false); exact rfl)
 | ((with_reducible apply Fin.blk_far); exact rfl))
  obtain ⟨A6, cp6, hv6, _⟩ := hO6.nl
  refine S.stC (by rfl) (by rfl) hb6 (by simp) (by rw [hv6]; rfl) (by rw [hv6]; rfl) szPodsS (by rfl) fun w7 hg7 hB7 => ?_
  repeat (first
 | (with_reducible first
 | apply CW.seq | apply CW.region | apply CW.block | apply CW.ret | apply CW.skip | apply CW.label | apply CW.exit
 | apply W.nil | apply Fin.seq | apply Fin.then_ret | apply Fin.then_exit | apply Fin.blk_ret | apply Fin.blk_normal | apply Fin.blk_here)
 | (with_reducible first | refine S.move ?_ | refine S.assign ?_ | refine S.pickT ?_ | refine S.pickF ?_ | refine S.lss ?_ | refine S.gtr ?_ | refine S.leq ?_ | refine S.geq ?_ | refine S.eqT ?_ | refine S.neF ?_ | refine S.eql ?_ | refine S.neq ?_ | refine S.add ?_ | refine S.sub ?_ | refine S.mul ?_ | refine S.conv ?_ | refine S.shr1 ?_ | refine S.neg ?_ | refine S.not ?_ | refine S.extract ?_ | refine S.len ?_ | refine S.fld ?_ | refine S.index ?_ | refine S.skp ?_ | refine S.sliceTo ?_ | refine S.sliceFrom ?_ | refine S.eqNil ?_ | refine S.eqbT ?_ | refine S.nebF ?_ | refine S.eqb ?_ | refine S.neb ?_)
 | (with_reducible first | refine S.nc ?_ | refine S.fld ?_ (h1 := fHeapL) | refine S.fld ?_ (h1 := fHeapM) | refine S.fld ?_ (h1 := fQueueH) | refine S.eqP ?_ | refine S.neP ?_ | refine S.quo ?_ | refine S.mkP ?_)
 | ((with_reducible apply CW.cond_true); exact rfl)
 | ((with_reducible apply CW.cond_false); exact rfl)
 | ((with_reducible apply Fin.blk_far); exact rfl))
  (with_reducible first | apply R.r0 | apply R.e0); exact rfl
  rw [← hv]
  refine ⟨v6, ⟨h.hb0, h.hbm, hg7.own hO6 hn6, hB7, ⟨_, _, hg7.mb hM6 hbm.symm, ho5⟩, hn6, hm6⟩, ?_, ?_⟩
  · exact ((hf4.trans (QF.of_x (v := v) hx5) (.inl rfl)).trans (QF.gv (v := v) hg6) (.inl rfl)).trans (QF.g0 (v := v) hg7) (.inl rfl)
  · rcases hat6 with e | e
    · exact .inl e
    · refine .inr fun i hi => ?_
      rw [e] at hi
      cases hi
      exact hw5

theorem OwnP.pop {w : World} {B : Nat} {v : Value} {L : List PV} {p : PV} (h : OwnP w B v (L ++ [p])) : ∃ g cap, v = .slice (some ⟨g, 0, none⟩) (L.length + 1) cap ∧ L.length ≤ cap ∧ OwnP w B (.slice (some ⟨g, 0, none⟩) L.length cap) L := by
  obtain ⟨g, cap, sp, hv, hB, hb, h1, h2, h3⟩ := h.open_ (by simp)
  rw [List.length_append] at hv h1
  refine ⟨g, cap, hv, by omega, OwnP.mk_ (sp := p.cs ++ sp) hB ?_ (by omega) h2 ?_⟩
  · rw [flat_append, flat_cons, flat_nil, List.append_nil, List.append_assoc] at hb
    exact hb
  · rw [flat_append, flat_cons, flat_nil, List.append_nil, List.append_assoc] at h3
    exact h3

/-- A new variable that holds no pod yet. -/
def pN (B : Nat) (v : Value) (w : World) : Prop := ∃ b, v = .pointer (some ⟨b, 0, none⟩) ∧ Blk w b 25 PV.zero.cs ∧ B ≤ b
theorem pN.lasts {B : Nat} : ∀ v w w', X w w' → pN B v w → pN B v w' := fun v w w' hx ⟨g, h1, h2, h3⟩ => ⟨g, h1, h2.x hx, h3⟩
theorem D.newPod {w0 : World} {ops : Array Oper} {env : Env} {N : Nat} {Post : SEnv → Prop} {rest : List Nat} {Γ : SEnv} {ty : TypeId} {pos : String} {aft : Array Edge} {gd : Option (Nat × Bool)} {d : Nat} (K : TC Try.prog X w0 ops env N Post rest ((d, .pr (pN w0.heap.size)) :: Γ)) (hg : wantS ops Γ env gd = some true := by with_unfolding_all exact rfl) (hd : Nat.blt d N = true := by with_unfolding_all exact rfl) :
    TC1 Try.prog X w0 ops env N Post rest Γ { dst := some d, op := .alloc 25, type := ty, pos, after := aft, guard := gd } :=
  D.mk (pN w0.heap.size) pN.lasts hg hd (fun w hx => ⟨_, _, op_alloc' (cs := PV.zero.cs) zPod rfl, X.alloc _ _, _, rfl, Blk.new w _ _, hx.le⟩) K

set_option maxHeartbeats 1000000 in
theorem pPop_calls (B b0 bm : Nat) (v : Value) (Ds : List PV) (m : Int → Option Int) (p : PV) (w : World) (h : QS w B b0 bm v (Ds ++ [p]) m) (hn : Ds.length ≤ 1000) :
    CallsR Try.prog 82 [.pointer (some ⟨b0, 0, none⟩)] w fun u w' => u = .iface 25 p.v ∧ ∃ v', QS w' B b0 bm v' Ds (updM m p.id none) ∧ QF b0 bm v w w' ∧ v'.ownBlock = v.ownBlock := by
  have hb0m : b0 ≠ bm := h.ne
  obtain ⟨g, cap, rfl, hcap, _⟩ := h.own.pop
  have hBL : BL w g (Ds ++ [p]) := by
    obtain ⟨g', c', sp', hv', _, hb', _⟩ := h.own.open_ (by simp)
    injection hv' with q1 q2 q3
    injection q1 with q1
    injection q1 with q1
    subst q1
    exact ⟨sp', hb'⟩
  have hp : (Ds ++ [p])[Ds.length]? = some p := by simp
  refine enter1 Try.func82 rfl Try.ntmps82 rfl ?_
  repeat (first
 | (with_reducible first
 | apply CW.seq | apply CW.region | apply CW.block | apply CW.ret | apply CW.skip | apply CW.label | apply CW.exit
 | apply W.nil | apply Fin.seq | apply Fin.then_ret | apply Fin.then_exit | apply Fin.blk_ret | apply Fin.blk_normal | apply Fin.blk_here)
 | (with_reducible first | refine S.move ?_ | refine S.assign ?_ | refine S.pickT ?_ | refine S.pickF ?_ | refine S.lss ?_ | refine S.gtr ?_ | refine S.leq ?_ | refine S.geq ?_ | refine S.eqT ?_ | refine S.neF ?_ | refine S.eql ?_ | refine S.neq ?_ | refine S.add ?_ | refine S.sub ?_ | refine S.mul ?_ | refine S.conv ?_ | refine S.shr1 ?_ | refine S.neg ?_ | refine S.not ?_ | refine S.extract ?_ | refine S.len ?_ | refine S.fld ?_ | refine S.index ?_ | refine S.skp ?_ | refine S.sliceTo ?_ | refine S.sliceFrom ?_ | refine S.eqNil ?_ | refine S.eqbT ?_ | refine S.nebF ?_ | refine S.eqb ?_ | refine S.neb ?_)
 | (with_reducible first | refine S.nc ?_ | refine S.fld ?_ (h1 := fHeapL) | refine S.fld ?_ (h1 := fHeapM) | refine S.fld ?_ (h1 := fQueueH) | refine S.eqP ?_ | refine S.neP ?_ | refine S.quo ?_ | refine S.mkP ?_)
 | ((with_reducible apply CW.cond_true); exact rfl)
 | ((with_reducible apply CW.cond_false); exact rfl)
 | ((with_reducible apply Fin.blk_far); exact rfl))
  refine wp_facts3 (R := X) (pu := [0, 1, 2, 4, 5, 6]) (front := [3, 7, 8, 9, 10, 11, 12]) (tail := [13]) mixed (by kernel_rfl) (by (repeat (first | with_reducible exact NoPanic.post_ | with_reducible apply NoPanic.then_ | with_reducible apply NoPanic.blk))) X.refl (fun _ _ _ => X.trans) (X.drew _) ?_
  repeat ((with_reducible refine TP.step ?_); first
    | (with_reducible first | refine E.move ?_ | refine E.assign ?_ | refine E.pickT ?_ | refine E.pickF ?_ | refine E.lss ?_ | refine E.gtr ?_ | refine E.leq ?_ | refine E.geq ?_ | refine E.eqT ?_ | refine E.neF ?_ | refine E.eql ?_ | refine E.neq ?_ | refine E.add ?_ | refine E.sub ?_ | refine E.mul ?_ | refine E.conv ?_ | refine E.shr1 ?_ | refine E.neg ?_ | refine E.not ?_ | refine E.extract ?_ | refine E.len ?_ | refine E.fld ?_ | refine E.index ?_ | refine E.skp ?_ | refine E.sliceTo ?_ | refine E.sliceFrom ?_ | refine E.eqNil ?_ | refine E.eqbT ?_ | refine E.nebF ?_ | refine E.eqb ?_ | refine E.neb ?_)
    | (with_reducible first | refine E.nc ?_ | refine E.fld ?_ (h1 := fHeapL) | refine E.fld ?_ (h1 := fHeapM) | refine E.fld ?_ (h1 := fQueueH) | refine E.mkP ?_))
  refine TP.done ?_
  repeat ((with_reducible refine TC.step ?_); first
    | (with_reducible refine D.indexE (j := Ds.length) ?_)
    | (with_reducible first | refine D.move ?_ | refine D.assign ?_ | refine D.pickT ?_ | refine D.pickF ?_ | refine D.lss ?_ | refine D.gtr ?_ | refine D.leq ?_ | refine D.geq ?_ | refine D.eqT ?_ | refine D.neF ?_ | refine D.eql ?_ | refine D.neq ?_ | refine D.add ?_ | refine D.sub ?_ | refine D.mul ?_ | refine D.conv ?_ | refine D.shr1 ?_ | refine D.neg ?_ | refine D.not ?_ | refine D.extract ?_ | refine D.len ?_ | refine D.fld ?_ | refine D.index ?_ | refine D.skp ?_ | refine D.sliceTo ?_ | refine D.sliceFrom ?_ | refine D.eqNil ?_ | refine D.eqbT ?_ | refine D.nebF ?_ | refine D.eqb ?_ | refine D.neb ?_)
    | ((with_reducible apply D.ld); exact rfl; (with_reducible first | exact oneInt | exact oneI64s | exact oneBool | exact oneI64 | exact onePods | exact oneMap); (intro w' hx; exact (h.x hx).cv); exact X.refl; exact rfl; exact rfl)
    | refine D.lds (cs := p.cs) (by rfl) stPod (fun w' hx' j u hj => (hBL.x hx').cell hp hj) X.refl (by rfl) (by rfl) ?_
    | (with_reducible refine D.newPod ?_))
  refine TC.pr 3 (by rfl) fun v1 => TC.tail1 (by rfl) (fun w1 h1 => ?_)
  obtain ⟨hx1, b1, rfl, hB1, hb1w⟩ := h1
  refine S.stB (vs := p.cs) (by rfl) (by rfl) rfl hB1 rfl szPod9 p.one (by rfl) ?_
  intro w3 hg3 hB3
  have hx3 : X w w3 := below_g hx1 hg3 hx1.le hb1w
  have h3 := h.x hx3
  clear hg3 hB1 hx1
  repeat (first
 | (with_reducible first
 | apply CW.seq | apply CW.region | apply CW.block | apply CW.ret | apply CW.skip | apply CW.label | apply CW.exit
 | apply W.nil | apply Fin.seq | apply Fin.then_ret | apply Fin.then_exit | apply Fin.blk_ret | apply Fin.blk_normal | apply Fin.blk_here)
 | (with_reducible first | refine S.move ?_ | refine S.assign ?_ | refine S.pickT ?_ | refine S.pickF ?_ | refine S.lss ?_ | refine S.gtr ?_ | refine S.leq ?_ | refine S.geq ?_ | refine S.eqT ?_ | refine S.neF ?_ | refine S.eql ?_ | refine S.neq ?_ | refine S.add ?_ | refine S.sub ?_ | refine S.mul ?_ | refine S.conv ?_ | refine S.shr1 ?_ | refine S.neg ?_ | refine S.not ?_ | refine S.extract ?_ | refine S.len ?_ | refine S.fld ?_ | refine S.index ?_ | refine S.skp ?_ | refine S.sliceTo ?_ | refine S.sliceFrom ?_ | refine S.eqNil ?_ | refine S.eqbT ?_ | refine S.nebF ?_ | refine S.eqb ?_ | refine S.neb ?_)
 | (with_reducible first | refine S.nc ?_ | refine S.fld ?_ (h1 := fHeapL) | refine S.fld ?_ (h1 := fHeapM) | refine S.fld ?_ (h1 := fQueueH) | refine S.eqP ?_ | refine S.neP ?_ | refine S.quo ?_ | refine S.mkP ?_)
 | ((with_reducible apply CW.cond_true); exact rfl)
 | ((with_reducible apply CW.cond_false); exact rfl)
 | ((with_reducible apply Fin.blk_far); exact rfl))
  refine wp_facts3 (R := X) (pu := [0, 1, 2, 3, 5, 6, 7]) (front := [4, 8, 9, 10, 11]) (tail := [12, 13, 14]) mixed (by kernel_rfl) (by (repeat (first | with_reducible exact NoPanic.post_ | with_reducible apply NoPanic.then_ | with_reducible apply NoPanic.blk))) X.refl (fun _ _ _ => X.trans) (X.drew _) ?_
  repeat ((with_reducible refine TP.step ?_); first
    | (with_reducible first | refine E.move ?_ | refine E.assign ?_ | refine E.pickT ?_ | refine E.pickF ?_ | refine E.lss ?_ | refine E.gtr ?_ | refine E.leq ?_ | refine E.geq ?_ | refine E.eqT ?_ | refine E.neF ?_ | refine E.eql ?_ | refine E.neq ?_ | refine E.add ?_ | refine E.sub ?_ | refine E.mul ?_ | refine E.conv ?_ | refine E.shr1 ?_ | refine E.neg ?_ | refine E.not ?_ | refine E.extract ?_ | refine E.len ?_ | refine E.fld ?_ | refine E.index ?_ | refine E.skp ?_ | refine E.sliceTo ?_ | refine E.sliceFrom ?_ | refine E.eqNil ?_ | refine E.eqbT ?_ | refine E.nebF ?_ | refine E.eqb ?_ | refine E.neb ?_)
    | (with_reducible first | refine E.nc ?_ | refine E.fld ?_ (h1 := fHeapL) | refine E.fld ?_ (h1 := fHeapM) | refine E.fld ?_ (h1 := fQueueH) | refine E.mkP ?_))
  refine TP.done ?_
  repeat ((with_reducible refine TC.step ?_); first
    | (with_reducible refine D.len ?_)
    | (with_reducible refine D.sub ?_)
    | ((with_reducible apply D.ld); exact rfl; (with_reducible first | exact oneInt | exact oneI64s | exact oneBool | exact oneI64 | exact onePods | exact oneMap); (intro w' hx; exact (h3.x hx).cv); exact X.refl; exact rfl; exact rfl)
    | refine D.pure (op_sliceTo (k := Ds.length) slPods.1 slPods.2 (by rfl) (congrArg (fun z : Int => some (Value.int .i64 z)) (by omega)) hcap) X.refl (by rfl) (by rfl) ?_)
  refine TC.tail3 (by rfl) (by rfl) (by rfl) (fun w4 hx4 => ?_)
  have h4 := h3.x hx4
  have hB4 := hB3.x hx4
  repeat (first
 | (with_reducible first
 | apply CW.seq | apply CW.region | apply CW.block | apply CW.ret | apply CW.skip | apply CW.label | apply CW.exit
 | apply W.nil | apply Fin.seq | apply Fin.then_ret | apply Fin.then_exit | apply Fin.blk_ret | apply Fin.blk_normal | apply Fin.blk_here)
 | (with_reducible first | refine S.move ?_ | refine S.assign ?_ | refine S.pickT ?_ | refine S.pickF ?_ | refine S.lss ?_ | refine S.gtr ?_ | refine S.leq ?_ | refine S.geq ?_ | refine S.eqT ?_ | refine S.neF ?_ | refine S.eql ?_ | refine S.neq ?_ | refine S.add ?_ | refine S.sub ?_ | refine S.mul ?_ | refine S.conv ?_ | refine S.shr1 ?_ | refine S.neg ?_ | refine S.not ?_ | refine S.extract ?_ | refine S.len ?_ | refine S.fld ?_ | refine S.index ?_ | refine S.skp ?_ | refine S.sliceTo ?_ | refine S.sliceFrom ?_ | refine S.eqNil ?_ | refine S.eqbT ?_ | refine S.nebF ?_ | refine S.eqb ?_ | refine S.neb ?_)
 | (with_reducible first | refine S.nc ?_ | refine S.fld ?_ (h1 := fHeapL) | refine S.fld ?_ (h1 := fHeapM) | refine S.fld ?_ (h1 := fQueueH) | refine S.eqP ?_ | refine S.neP ?_ | refine S.quo ?_ | refine S.mkP ?_)
 | ((with_reducible apply CW.cond_true); exact rfl)
 | ((with_reducible apply CW.cond_false); exact rfl)
 | ((with_reducible apply Fin.blk_far); exact rfl))
  refine S.stC (by rfl) (by rfl) h4.blk (by simp) rfl rfl szPodsS (by rfl) fun w5 hg5 hB5 => ?_
  obtain ⟨g', cap', hv', _, hO4⟩ := h4.own.pop
  injection hv' with q1 q2 q3
  injection q1 with q1
  injection q1 with q1
  subst q1
  subst q3
  obtain ⟨M, clock, hM4, hMo⟩ := h4.map
  have hgn0 : g ≠ b0 := fun e => h.n0 (by simp [Value.ownBlock, e])
  have hgnm : g ≠ bm := fun e => h.nm (by simp [Value.ownBlock, e])
  have hO5 := hg5.own hO4 (by simpa [Value.ownBlock] using hgn0)
  have hM5 := hg5.mb hM4 hb0m.symm
  have hb1n : b1 ≠ b0 := by have := h.blk.lt; omega
  have hB5' := hg5.blk hB4 hb1n
  have h5 : QS w5 B b0 bm (.slice (some ⟨g, 0, none⟩) Ds.length cap) Ds m := ⟨h.hb0, h.hbm, hO5, hB5, ⟨_, _, hM5, hMo⟩, by simpa [Value.ownBlock] using hgn0, by simpa [Value.ownBlock] using hgnm⟩
  have hf5 : QF b0 bm (.slice (some ⟨g, 0, none⟩) (Ds.length + 1) cap) w w5 := (QF.of_x (hx3.trans hx4)).trans (QF.g0 (v := .slice (some ⟨g, 0, none⟩) (Ds.length + 1) cap) hg5) (.inl rfl)
  clear hM4 hM5 hMo hO4 hO5 hB5 hg5 hB4 hB3 h4 h3
  repeat (first
 | (with_reducible first
 | apply CW.seq | apply CW.region | apply CW.block | apply CW.ret | apply CW.skip | apply CW.label | apply CW.exit
 | apply W.nil | apply Fin.seq | apply Fin.then_ret | apply Fin.then_exit | apply Fin.blk_ret | apply Fin.blk_normal | apply Fin.blk_here)
 | (with_reducible first | refine S.move ?_ | refine S.assign ?_ | refine S.pickT ?_ | refine S.pickF ?_ | refine S.lss ?_ | refine S.gtr ?_ | refine S.leq ?_ | refine S.geq ?_ | refine S.eqT ?_ | refine S.neF ?_ | refine S.eql ?_ | refine S.neq ?_ | refine S.add ?_ | refine S.sub ?_ | refine S.mul ?_ | refine S.conv ?_ | refine S.shr1 ?_ | refine S.neg ?_ | refine S.not ?_ | refine S.extract ?_ | refine S.len ?_ | refine S.fld ?_ | refine S.index ?_ | refine S.skp ?_ | refine S.sliceTo ?_ | refine S.sliceFrom ?_ | refine S.eqNil ?_ | refine S.eqbT ?_ | refine S.nebF ?_ | refine S.eqb ?_ | refine S.neb ?_)
 | (with_reducible first | refine S.nc ?_ | refine S.fld ?_ (h1 := fHeapL) | refine S.fld ?_ (h1 := fHeapM) | refine S.fld ?_ (h1 := fQueueH) | refine S.eqP ?_ | refine S.neP ?_ | refine S.quo ?_ | refine S.mkP ?_)
 | ((with_reducible apply CW.cond_true); exact rfl)
 | ((with_reducible apply CW.cond_false); exact rfl)
 | ((with_reducible apply Fin.blk_far); exact rfl))
  refine wp_facts3 (R := X) (pu := [0, 1, 2, 4]) (front := [3, 5]) (tail := [6]) mixed (by kernel_rfl) (by (repeat (first | with_reducible exact NoPanic.post_ | with_reducible apply NoPanic.then_ | with_reducible apply NoPanic.blk))) X.refl (fun _ _ _ => X.trans) (X.drew _) ?_
  repeat ((with_reducible refine TP.step ?_); first
    | (with_reducible first | refine E.move ?_ | refine E.assign ?_ | refine E.pickT ?_ | refine E.pickF ?_ | refine E.lss ?_ | refine E.gtr ?_ | refine E.leq ?_ | refine E.geq ?_ | refine E.eqT ?_ | refine E.neF ?_ | refine E.eql ?_ | refine E.neq ?_ | refine E.add ?_ | refine E.sub ?_ | refine E.mul ?_ | refine E.conv ?_ | refine E.shr1 ?_ | refine E.neg ?_ | refine E.not ?_ | refine E.extract ?_ | refine E.len ?_ | refine E.fld ?_ | refine E.index ?_ | refine E.skp ?_ | refine E.sliceTo ?_ | refine E.sliceFrom ?_ | refine E.eqNil ?_ | refine E.eqbT ?_ | refine E.nebF ?_ | refine E.eqb ?_ | refine E.neb ?_)
    | (with_reducible first | refine E.nc ?_ | refine E.fld ?_ (h1 := fHeapL) | refine E.fld ?_ (h1 := fHeapM) | refine E.fld ?_ (h1 := fQueueH) | refine E.mkP ?_))
  refine TP.done ?_
  repeat ((with_reducible refine TC.step ?_); first
    | ((with_reducible apply D.ld); exact rfl; (with_reducible first | exact oneInt | exact oneI64s | exact oneBool | exact oneI64 | exact onePods | exact oneMap); (intro w' hx; first | exact (h5.x hx).cm | exact (hB5'.x hx).cell rfl); exact X.refl; exact rfl; exact rfl))
  refine TC.tail1 (by rfl) (fun w6 hx6 => ?_)
  have h6 := h5.x hx6
  obtain ⟨M, clock, hM6, hMo⟩ := h6.map
  refine S.delete Try.underlying65 Try.underlying3 (by rfl) (by rfl) hM6 hMo (by rfl) fun w7 M7 hg7 hM7 ho7 => ?_
  have hb1m : b1 ≠ bm := by obtain ⟨_, _, h9, _⟩ := h.map; have := h9.lt; omega
  have hB7 := hg7.blk (hB5'.x hx6) hb1m
  repeat (first
 | (with_reducible first
 | apply CW.seq | apply CW.region | apply CW.block | apply CW.ret | apply CW.skip | apply CW.label | apply CW.exit
 | apply W.nil | apply Fin.seq | apply Fin.then_ret | apply Fin.then_exit | apply Fin.blk_ret | apply Fin.blk_normal | apply Fin.blk_here)
 | (with_reducible first | refine S.move ?_ | refine S.assign ?_ | refine S.pickT ?_ | refine S.pickF ?_ | refine S.lss ?_ | refine S.gtr ?_ | refine S.leq ?_ | refine S.geq ?_ | refine S.eqT ?_ | refine S.neF ?_ | refine S.eql ?_ | refine S.neq ?_ | refine S.add ?_ | refine S.sub ?_ | refine S.mul ?_ | refine S.conv ?_ | refine S.shr1 ?_ | refine S.neg ?_ | refine S.not ?_ | refine S.extract ?_ | refine S.len ?_ | refine S.fld ?_ | refine S.index ?_ | refine S.skp ?_ | refine S.sliceTo ?_ | refine S.sliceFrom ?_ | refine S.eqNil ?_ | refine S.eqbT ?_ | refine S.nebF ?_ | refine S.eqb ?_ | refine S.neb ?_)
 | (with_reducible first | refine S.nc ?_ | refine S.fld ?_ (h1 := fHeapL) | refine S.fld ?_ (h1 := fHeapM) | refine S.fld ?_ (h1 := fQueueH) | refine S.eqP ?_ | refine S.neP ?_ | refine S.quo ?_ | refine S.mkP ?_)
 | ((with_reducible apply CW.cond_true); exact rfl)
 | ((with_reducible apply CW.cond_false); exact rfl)
 | ((with_reducible apply Fin.blk_far); exact rfl))
  refine S.lds (cs := p.cs) (by rfl) stPod (fun j u hj => by rw [Nat.zero_add]; exact hB7.cell hj) (by rfl) (by rfl) ?_
  refine W.pure (d := some 37) (op_mkIface Try.underlying25 rfl (by rfl)) (by rfl) (by rfl) ?_
  repeat (first
 | (with_reducible first
 | apply CW.seq | apply CW.region | apply CW.block | apply CW.ret | apply CW.skip | apply CW.label | apply CW.exit
 | apply W.nil | apply Fin.seq | apply Fin.then_ret | apply Fin.then_exit | apply Fin.blk_ret | apply Fin.blk_normal | apply Fin.blk_here)
 | (with_reducible first | refine S.move ?_ | refine S.assign ?_ | refine S.pickT ?_ | refine S.pickF ?_ | refine S.lss ?_ | refine S.gtr ?_ | refine S.leq ?_ | refine S.geq ?_ | refine S.eqT ?_ | refine S.neF ?_ | refine S.eql ?_ | refine S.neq ?_ | refine S.add ?_ | refine S.sub ?_ | refine S.mul ?_ | refine S.conv ?_ | refine S.shr1 ?_ | refine S.neg ?_ | refine S.not ?_ | refine S.extract ?_ | refine S.len ?_ | refine S.fld ?_ | refine S.index ?_ | refine S.skp ?_ | refine S.sliceTo ?_ | refine S.sliceFrom ?_ | refine S.eqNil ?_ | refine S.eqbT ?_ | refine S.nebF ?_ | refine S.eqb ?_ | refine S.neb ?_)
 | (with_reducible first | refine S.nc ?_ | refine S.fld ?_ (h1 := fHeapL) | refine S.fld ?_ (h1 := fHeapM) | refine S.fld ?_ (h1 := fQueueH) | refine S.eqP ?_ | refine S.neP ?_ | refine S.quo ?_ | refine S.mkP ?_)
 | ((with_reducible apply CW.cond_true); exact rfl)
 | ((with_reducible apply CW.cond_false); exact rfl)
 | ((with_reducible apply Fin.blk_far); exact rfl))
  (with_reducible apply R.r1); exact rfl; exact rfl
  refine ⟨rfl, _, ⟨h.hb0, h.hbm, hg7.own h6.own h5.nm, hg7.blk h6.blk hb0m, ⟨_, _, hM7, ho7⟩, h5.n0, h5.nm⟩, ?_, rfl⟩
  exact (hf5.trans (QF.of_x (v := .slice (some ⟨g, 0, none⟩) (Ds.length + 1) cap) hx6) (.inl rfl)).trans (QF.gm (v := .slice (some ⟨g, 0, none⟩) (Ds.length + 1) cap) hg7) (.inl rfl)

end Go.Proofs.Ytmilpjkjcanghaa

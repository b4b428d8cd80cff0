/- The queue's methods: New, Len, Has. -/
import Derived.Test.YtmilpjkjcanghaaQ7
namespace Go.Proofs.Ytmilpjkjcanghaa
open Go.RowKit
set_option linter.unusedVariables false
set_option linter.unusedSimpArgs false

section
variable {P : Program} {ops : Array Oper} {Q : Exit → Act → World → Prop} {l : List Oper} {N : Nat} {env : Env} {w : World} {ty : TypeId} {pos : String} {aft : Array Edge} {gd : Option (Nat × Bool)}
/-- 'm[k]' with 'ok'. -/
theorem S.lookupOk {mt kt et r d clock : Nat} {x y : Operand} {dk : IntKind} {M : List Ent} {m : Int → Option Int} {k : Int} (hm : P.underlying mt = some (.map kt et)) (hk : P.underlying kt = some (.int dk)) (hz : (P.info? et).map (·.zero) = some (some (.int .i64 0))) (hx : opv env x = some (.map (some r))) (hy : opv env y = some (.int .i64 k)) (hM : MB w r M clock) (ho : MapOk M clock m)
    (hg : wantE ops env gd = some true) (hd : Nat.blt d N = true) (K : W P ops Q l N ((d, .tuple #[.int .i64 ((m k).getD 0), .bool (m k).isSome]) :: env) w) :
    W P ops Q ({ dst := some d, op := .lookup mt x y true, type := ty, pos, after := aft, guard := gd } :: l) N env w :=
  W.reads (d := some d) (fun ev he dd pos aft gd => by
    have h := run_lookup' (P := P) (k := k) hm hk hz hM ho true
    simp [execOp, he x _ hx, he y _ hy, h]) hg hd K
/-- 'm[k]'. -/
theorem S.lookup1 {mt kt et r d clock : Nat} {x y : Operand} {dk : IntKind} {M : List Ent} {m : Int → Option Int} {k : Int} (hm : P.underlying mt = some (.map kt et)) (hk : P.underlying kt = some (.int dk)) (hz : (P.info? et).map (·.zero) = some (some (.int .i64 0))) (hx : opv env x = some (.map (some r))) (hy : opv env y = some (.int .i64 k)) (hM : MB w r M clock) (ho : MapOk M clock m)
    (hg : wantE ops env gd = some true) (hd : Nat.blt d N = true) (K : W P ops Q l N ((d, .int .i64 ((m k).getD 0)) :: env) w) :
    W P ops Q ({ dst := some d, op := .lookup mt x y false, type := ty, pos, after := aft, guard := gd } :: l) N env w :=
  W.reads (d := some d) (fun ev he dd pos aft gd => by
    have h := run_lookup' (P := P) (k := k) hm hk hz hM ho false
    simp [execOp, he x _ hx, he y _ hy, h]) hg hd K
/-- 'map[int]int{}' -/
theorem S.newMap {t d : Nat} (hg : wantE ops env gd = some true) (hd : Nat.blt d N = true) (K : ∀ b w', X w w' → w.heap.size ≤ b → MB w' b [] 0 → W P ops Q l N ((d, .map (some b)) :: env) w') :
    W P ops Q ({ dst := some d, op := .makeMap t none, type := ty, pos, after := aft, guard := gd } :: l) N env w :=
  W.makes (d := some d) (fun ev he dd pos aft gd => by
    simp [execOp, Instr.makeMap, newObj, Sem.run]) hg hd (K _ (w.alloc (.map #[] 0)) (X.alloc _ _) (Nat.le_refl _) (heap_alloc_new w _))
end

theorem built_heap (b : Nat) : Try.prog.built 67 [(1, .map (some b))] = some #[.slice none 0 0, .map (some b)] := by kernel_rfl
theorem built_queue (b : Nat) : Try.prog.built 69 [(0, .agg #[.slice none 0 0, .map (some b)])] = some #[.slice none 0 0, .map (some b)] := by kernel_rfl

theorem QA.new {w : World} {B b0 bm : Nat} (h0 : B ≤ b0) (hm : B ≤ bm) (hB : Blk w b0 69 [.slice none 0 0, .map (some bm)]) (hM : MB w bm [] 0) : QA w B b0 (fun b => b = b0 ∨ b = bm) [] := by
  refine ⟨bm, .slice none 0 0, [], fun _ => none, ⟨⟨h0, hm, OwnP.nil _ _, hB, ⟨[], 0, hM, MapOk.nil⟩, by simp [Value.ownBlock], by simp [Value.ownBlock]⟩, POk.nil, (fun k _ h => by simp at h), .inl rfl, .inr rfl, (fun i h => by cases h), (fun p hp => by cases hp), fun b hb => ?_⟩, rfl⟩
  have := hB.lt
  have := hM.lt
  rcases hb with rfl | rfl
  · exact ⟨h0, by omega⟩
  · exact ⟨hm, by omega⟩

theorem New_calls (w : World) : CallsR Try.prog 27 [] w fun u w' => ∃ b0 O, u = .pointer (some ⟨b0, 0, none⟩) ∧ QA w' w.heap.size b0 O [] ∧ X w w' := by
  refine enter0 Try.func27 rfl Try.ntmps27 ?_
  repeat (first
 | (with_reducible first
 | apply CW.seq | apply CW.region | apply CW.block | apply CW.ret | apply CW.skip | apply CW.label | apply CW.exit
 | apply W.nil | apply Fin.seq | apply Fin.then_ret | apply Fin.then_exit | apply Fin.blk_ret | apply Fin.blk_normal | apply Fin.blk_here)
 | (with_reducible first | refine S.move ?_ | refine S.assign ?_ | refine S.pickT ?_ | refine S.pickF ?_ | refine S.lss ?_ | refine S.gtr ?_ | refine S.leq ?_ | refine S.geq ?_ | refine S.eqT ?_ | refine S.neF ?_ | refine S.eql ?_ | refine S.neq ?_ | refine S.add ?_ | refine S.sub ?_ | refine S.mul ?_ | refine S.conv ?_ | refine S.shr1 ?_ | refine S.neg ?_ | refine S.not ?_ | refine S.extract ?_ | refine S.len ?_ | refine S.fld ?_ | refine S.index ?_ | refine S.skp ?_ | refine S.sliceTo ?_ | refine S.sliceFrom ?_ | refine S.eqNil ?_ | refine S.eqbT ?_ | refine S.nebF ?_ | refine S.eqb ?_ | refine S.neb ?_)
 | (with_reducible first | refine S.nc ?_ | refine S.fld ?_ (h1 := fHeapL) | refine S.fld ?_ (h1 := fHeapM) | refine S.fld ?_ (h1 := fQueueH) | refine S.eqP ?_ | refine S.neP ?_ | refine S.quo ?_ | refine S.mkP ?_)
 | ((with_reducible apply CW.cond_true); exact rfl)
 | ((with_reducible apply CW.cond_false); exact rfl)
 | ((with_reducible apply Fin.blk_far); exact rfl))
  refine S.newMap (by rfl) (by rfl) fun bm w1 hx1 hb1 hM => ?_
  refine W.pure (d := some 2) (v := .agg #[.slice none 0 0, .map (some bm)]) (op_build (by rfl) (built_heap bm)) (by rfl) (by rfl) ?_
  refine W.pure (d := some 3) (v := .agg #[.slice none 0 0, .map (some bm)]) (op_build (by rfl) (built_queue bm)) (by rfl) (by rfl) ?_
  refine W.newBlk (d := some 4) (mk := fun b => .pointer (some ⟨b, 0, none⟩)) (cs := [.slice none 0 0, .map (some bm)]) (op_box (by rfl) (by rfl)) (by rfl) (by rfl) ?_
  intro b0 w2 hx2 hb2 hB
  repeat (first
 | (with_reducible first
 | apply CW.seq | apply CW.region | apply CW.block | apply CW.ret | apply CW.skip | apply CW.label | apply CW.exit
 | apply W.nil | apply Fin.seq | apply Fin.then_ret | apply Fin.then_exit | apply Fin.blk_ret | apply Fin.blk_normal | apply Fin.blk_here)
 | (with_reducible first | refine S.move ?_ | refine S.assign ?_ | refine S.pickT ?_ | refine S.pickF ?_ | refine S.lss ?_ | refine S.gtr ?_ | refine S.leq ?_ | refine S.geq ?_ | refine S.eqT ?_ | refine S.neF ?_ | refine S.eql ?_ | refine S.neq ?_ | refine S.add ?_ | refine S.sub ?_ | refine S.mul ?_ | refine S.conv ?_ | refine S.shr1 ?_ | refine S.neg ?_ | refine S.not ?_ | refine S.extract ?_ | refine S.len ?_ | refine S.fld ?_ | refine S.index ?_ | refine S.skp ?_ | refine S.sliceTo ?_ | refine S.sliceFrom ?_ | refine S.eqNil ?_ | refine S.eqbT ?_ | refine S.nebF ?_ | refine S.eqb ?_ | refine S.neb ?_)
 | (with_reducible first | refine S.nc ?_ | refine S.fld ?_ (h1 := fHeapL) | refine S.fld ?_ (h1 := fHeapM) | refine S.fld ?_ (h1 := fQueueH) | refine S.eqP ?_ | refine S.neP ?_ | refine S.quo ?_ | refine S.mkP ?_)
 | ((with_reducible apply CW.cond_true); exact rfl)
 | ((with_reducible apply CW.cond_false); exact rfl)
 | ((with_reducible apply Fin.blk_far); exact rfl))
  (with_reducible apply R.r1); exact rfl; exact rfl
  have := hx1.le
  exact ⟨b0, _, rfl, QA.new (by omega) hb1 hB (hM.x hx2), hx1.trans hx2⟩

theorem qLen_calls (B b0 : Nat) (O : Nat → Prop) (A : List AP) (w : World) (h : QA w B b0 O A) :
    CallsR Try.prog 32 [.pointer (some ⟨b0, 0, none⟩)] w fun u w' => u = .int .i64 (A.length : Int) ∧ w' = w := by
  obtain ⟨bm, v, Ds, m, hI, hA⟩ := h
  refine enter1 Try.func32 rfl Try.ntmps32 rfl ?_
  repeat (first
 | (with_reducible first
 | apply CW.seq | apply CW.region | apply CW.block | apply CW.ret | apply CW.skip | apply CW.label | apply CW.exit
 | apply W.nil | apply Fin.seq | apply Fin.then_ret | apply Fin.then_exit | apply Fin.blk_ret | apply Fin.blk_normal | apply Fin.blk_here)
 | (with_reducible first | refine S.move ?_ | refine S.assign ?_ | refine S.pickT ?_ | refine S.pickF ?_ | refine S.lss ?_ | refine S.gtr ?_ | refine S.leq ?_ | refine S.geq ?_ | refine S.eqT ?_ | refine S.neF ?_ | refine S.eql ?_ | refine S.neq ?_ | refine S.add ?_ | refine S.sub ?_ | refine S.mul ?_ | refine S.conv ?_ | refine S.shr1 ?_ | refine S.neg ?_ | refine S.not ?_ | refine S.extract ?_ | refine S.len ?_ | refine S.fld ?_ | refine S.index ?_ | refine S.skp ?_ | refine S.sliceTo ?_ | refine S.sliceFrom ?_ | refine S.eqNil ?_ | refine S.eqbT ?_ | refine S.nebF ?_ | refine S.eqb ?_ | refine S.neb ?_)
 | (with_reducible first | refine S.nc ?_ | refine S.fld ?_ (h1 := fHeapL) | refine S.fld ?_ (h1 := fHeapM) | refine S.fld ?_ (h1 := fQueueH) | refine S.eqP ?_ | refine S.neP ?_ | refine S.quo ?_ | refine S.mkP ?_)
 | ((with_reducible apply CW.cond_true); exact rfl)
 | ((with_reducible apply CW.cond_false); exact rfl)
 | ((with_reducible apply Fin.blk_far); exact rfl))
  refine S.cl (op_call ent52 (by rfl) (by rfl)) (by rfl) (by rfl) (pLen_calls B b0 bm v Ds m w hI.qs) ?_
  rintro _ w1 ⟨rfl, rfl⟩
  repeat (first
 | (with_reducible first
 | apply CW.seq | apply CW.region | apply CW.block | apply CW.ret | apply CW.skip | apply CW.label | apply CW.exit
 | apply W.nil | apply Fin.seq | apply Fin.then_ret | apply Fin.then_exit | apply Fin.blk_ret | apply Fin.blk_normal | apply Fin.blk_here)
 | (with_reducible first | refine S.move ?_ | refine S.assign ?_ | refine S.pickT ?_ | refine S.pickF ?_ | refine S.lss ?_ | refine S.gtr ?_ | refine S.leq ?_ | refine S.geq ?_ | refine S.eqT ?_ | refine S.neF ?_ | refine S.eql ?_ | refine S.neq ?_ | refine S.add ?_ | refine S.sub ?_ | refine S.mul ?_ | refine S.conv ?_ | refine S.shr1 ?_ | refine S.neg ?_ | refine S.not ?_ | refine S.extract ?_ | refine S.len ?_ | refine S.fld ?_ | refine S.index ?_ | refine S.skp ?_ | refine S.sliceTo ?_ | refine S.sliceFrom ?_ | refine S.eqNil ?_ | refine S.eqbT ?_ | refine S.nebF ?_ | refine S.eqb ?_ | refine S.neb ?_)
 | (with_reducible first | refine S.nc ?_ | refine S.fld ?_ (h1 := fHeapL) | refine S.fld ?_ (h1 := fHeapM) | refine S.fld ?_ (h1 := fQueueH) | refine S.eqP ?_ | refine S.neP ?_ | refine S.quo ?_ | refine S.mkP ?_)
 | ((with_reducible apply CW.cond_true); exact rfl)
 | ((with_reducible apply CW.cond_false); exact rfl)
 | ((with_reducible apply Fin.blk_far); exact rfl))
  (with_reducible apply R.r1); exact rfl; exact rfl
  exact ⟨by rw [hI.len hA], rfl⟩
theorem qLen_nil (w : World) : CallsR Try.prog 32 [.pointer none] w fun u w' => u = .int .i64 0 ∧ w' = w := by
  refine enter1 Try.func32 rfl Try.ntmps32 rfl ?_
  repeat (first
 | (with_reducible first
 | apply CW.seq | apply CW.region | apply CW.block | apply CW.ret | apply CW.skip | apply CW.label | apply CW.exit
 | apply W.nil | apply Fin.seq | apply Fin.then_ret | apply Fin.then_exit | apply Fin.blk_ret | apply Fin.blk_normal | apply Fin.blk_here)
 | (with_reducible first | refine S.move ?_ | refine S.assign ?_ | refine S.pickT ?_ | refine S.pickF ?_ | refine S.lss ?_ | refine S.gtr ?_ | refine S.leq ?_ | refine S.geq ?_ | refine S.eqT ?_ | refine S.neF ?_ | refine S.eql ?_ | refine S.neq ?_ | refine S.add ?_ | refine S.sub ?_ | refine S.mul ?_ | refine S.conv ?_ | refine S.shr1 ?_ | refine S.neg ?_ | refine S.not ?_ | refine S.extract ?_ | refine S.len ?_ | refine S.fld ?_ | refine S.index ?_ | refine S.skp ?_ | refine S.sliceTo ?_ | refine S.sliceFrom ?_ | refine S.eqNil ?_ | refine S.eqbT ?_ | refine S.nebF ?_ | refine S.eqb ?_ | refine S.neb ?_)
 | (with_reducible first | refine S.nc ?_ | refine S.fld ?_ (h1 := fHeapL) | refine S.fld ?_ (h1 := fHeapM) | refine S.fld ?_ (h1 := fQueueH) | refine S.eqP ?_ | refine S.neP ?_ | refine S.quo ?_ | refine S.mkP ?_)
 | ((with_reducible apply CW.cond_true); exact rfl)
 | ((with_reducible apply CW.cond_false); exact rfl)
 | ((with_reducible apply Fin.blk_far); exact rfl))
  (with_reducible apply R.r1); exact rfl; exact rfl
  exact ⟨rfl, rfl⟩

/-- Is there a pod with the id? -/
def hasA (A : List AP) (id : Int) : Bool := A.any fun a => a.1.id == id

theorem qHas_calls (B b0 : Nat) (O : Nat → Prop) (A : List AP) (id : Int) (w : World) (h : QA w B b0 O A) :
    CallsR Try.prog 38 [.pointer (some ⟨b0, 0, none⟩), .int .i64 id] w fun u w' => u = .bool (hasA A id) ∧ w' = w := by
  obtain ⟨bm, v, Ds, m, hI, hA⟩ := h
  refine enter2 Try.func38 rfl Try.ntmps38 rfl ?_
  repeat (first
 | (with_reducible first
 | apply CW.seq | apply CW.region | apply CW.block | apply CW.ret | apply CW.skip | apply CW.label | apply CW.exit
 | apply W.nil | apply Fin.seq | apply Fin.then_ret | apply Fin.then_exit | apply Fin.blk_ret | apply Fin.blk_normal | apply Fin.blk_here)
 | (with_reducible first | refine S.move ?_ | refine S.assign ?_ | refine S.pickT ?_ | refine S.pickF ?_ | refine S.lss ?_ | refine S.gtr ?_ | refine S.leq ?_ | refine S.geq ?_ | refine S.eqT ?_ | refine S.neF ?_ | refine S.eql ?_ | refine S.neq ?_ | refine S.add ?_ | refine S.sub ?_ | refine S.mul ?_ | refine S.conv ?_ | refine S.shr1 ?_ | refine S.neg ?_ | refine S.not ?_ | refine S.extract ?_ | refine S.len ?_ | refine S.fld ?_ | refine S.index ?_ | refine S.skp ?_ | refine S.sliceTo ?_ | refine S.sliceFrom ?_ | refine S.eqNil ?_ | refine S.eqbT ?_ | refine S.nebF ?_ | refine S.eqb ?_ | refine S.neb ?_)
 | (with_reducible first | refine S.nc ?_ | refine S.fld ?_ (h1 := fHeapL) | refine S.fld ?_ (h1 := fHeapM) | refine S.fld ?_ (h1 := fQueueH) | refine S.eqP ?_ | refine S.neP ?_ | refine S.quo ?_ | refine S.mkP ?_)
 | ((with_reducible apply CW.cond_true); exact rfl)
 | ((with_reducible apply CW.cond_false); exact rfl)
 | ((with_reducible apply Fin.blk_far); exact rfl))
  ((with_reducible apply S.ld); exact rfl; (with_reducible first | exact oneInt | exact oneI64s | exact oneBool | exact oneI64 | exact onePods | exact oneMap); (exact hI.qs.cm); exact rfl; exact rfl)
  repeat (first
 | (with_reducible first
 | apply CW.seq | apply CW.region | apply CW.block | apply CW.ret | apply CW.skip | apply CW.label | apply CW.exit
 | apply W.nil | apply Fin.seq | apply Fin.then_ret | apply Fin.then_exit | apply Fin.blk_ret | apply Fin.blk_normal | apply Fin.blk_here)
 | (with_reducible first | refine S.move ?_ | refine S.assign ?_ | refine S.pickT ?_ | refine S.pickF ?_ | refine S.lss ?_ | refine S.gtr ?_ | refine S.leq ?_ | refine S.geq ?_ | refine S.eqT ?_ | refine S.neF ?_ | refine S.eql ?_ | refine S.neq ?_ | refine S.add ?_ | refine S.sub ?_ | refine S.mul ?_ | refine S.conv ?_ | refine S.shr1 ?_ | refine S.neg ?_ | refine S.not ?_ | refine S.extract ?_ | refine S.len ?_ | refine S.fld ?_ | refine S.index ?_ | refine S.skp ?_ | refine S.sliceTo ?_ | refine S.sliceFrom ?_ | refine S.eqNil ?_ | refine S.eqbT ?_ | refine S.nebF ?_ | refine S.eqb ?_ | refine S.neb ?_)
 | (with_reducible first | refine S.nc ?_ | refine S.fld ?_ (h1 := fHeapL) | refine S.fld ?_ (h1 := fHeapM) | refine S.fld ?_ (h1 := fQueueH) | refine S.eqP ?_ | refine S.neP ?_ | refine S.quo ?_ | refine S.mkP ?_)
 | ((with_reducible apply CW.cond_true); exact rfl)
 | ((with_reducible apply CW.cond_false); exact rfl)
 | ((with_reducible apply Fin.blk_far); exact rfl))
  obtain ⟨M, clock, hM, hMo⟩ := hI.qs.map
  refine S.lookupOk Try.underlying65 Try.underlying3 zeroInt (by rfl) (by rfl) hM hMo (by rfl) (by rfl) ?_
  repeat (first
 | (with_reducible first
 | apply CW.seq | apply CW.region | apply CW.block | apply CW.ret | apply CW.skip | apply CW.label | apply CW.exit
 | apply W.nil | apply Fin.seq | apply Fin.then_ret | apply Fin.then_exit | apply Fin.blk_ret | apply Fin.blk_normal | apply Fin.blk_here)
 | (with_reducible first | refine S.move ?_ | refine S.assign ?_ | refine S.pickT ?_ | refine S.pickF ?_ | refine S.lss ?_ | refine S.gtr ?_ | refine S.leq ?_ | refine S.geq ?_ | refine S.eqT ?_ | refine S.neF ?_ | refine S.eql ?_ | refine S.neq ?_ | refine S.add ?_ | refine S.sub ?_ | refine S.mul ?_ | refine S.conv ?_ | refine S.shr1 ?_ | refine S.neg ?_ | refine S.not ?_ | refine S.extract ?_ | refine S.len ?_ | refine S.fld ?_ | refine S.index ?_ | refine S.skp ?_ | refine S.sliceTo ?_ | refine S.sliceFrom ?_ | refine S.eqNil ?_ | refine S.eqbT ?_ | refine S.nebF ?_ | refine S.eqb ?_ | refine S.neb ?_)
 | (with_reducible first | refine S.nc ?_ | refine S.fld ?_ (h1 := fHeapL) | refine S.fld ?_ (h1 := fHeapM) | refine S.fld ?_ (h1 := fQueueH) | refine S.eqP ?_ | refine S.neP ?_ | refine S.quo ?_ | refine S.mkP ?_)
 | ((with_reducible apply CW.cond_true); exact rfl)
 | ((with_reducible apply CW.cond_false); exact rfl)
 | ((with_reducible apply Fin.blk_far); exact rfl))
  (with_reducible apply R.r1); exact rfl; exact rfl
  refine ⟨?_, rfl⟩
  unfold hasA
  rw [← hA, QV_any hI.pok]
  rfl

end Go.Proofs.Ytmilpjkjcanghaa

/- QueueMatchesReference. -/
import Derived.Test.YtmilpjkjcanghaaQ17
namespace Go.Proofs.Ytmilpjkjcanghaa
open Go.ChangeShapes Go.WideShapes Go.ChangeAt Go.RowKit Go.Deep
set_option linter.unusedVariables false
set_option linter.unusedSimpArgs false

theorem cells_op : Try.prog.cellsOf 54 = 10 := by kernel_rfl
theorem cells_int : Try.prog.cellsOf 3 = 1 := by kernel_rfl

section
variable {H : Type} {enc : TypeId × Value → H} {w : World} {base : Nat} {spare : Nat → Bool} {held : Bool}
/-- Nine cells that read as a pod. -/
theorem pod_cells {D : DataW H × List MemPlace} {cs : List Value} {n : Nat} (hl : cs.length = 9) (ht : DataW.trod enc Try.prog w base spare held n 25 cs = some D) :
    ∃ p : PV, p.cs = cs ∧ IS w w.heap.size p.rA p.rn (readI w p.rA p.rn) := by
  obtain ⟨xs, n', _, hx, _, hlen, hg⟩ := DataW.trod_struct Try.underlying25 ht
  obtain ⟨p, hp, hi⟩ := pod_of_fields (enc := enc) (w := w) (base := base) (spare := spare) (held := held) (n := n') (g := fun j => cs.getD j undef) fun j f hj => by
    obtain ⟨ho, hk⟩ := hone_of one_pod j f hj
    have hj9 : j < 9 := (Array.getElem?_eq_some_iff.1 hj).1
    have h1 := hg j f hj
    have h2 : xs[j]? = some (xs[j]'(by rw [hlen]; exact hj9)) := List.getElem?_eq_getElem _
    rw [ho, hk, h2] at h1
    have h3 : (cs.drop j).take 1 = [cs.getD j undef] := by
      have h4 : j < cs.length := by rw [hl]; exact hj9
      rw [List.drop_eq_getElem_cons h4, List.getD_eq_getElem?_getD, List.getElem?_eq_getElem h4]
      rfl
    rw [h3] at h1
    exact ⟨_, h1⟩
  refine ⟨p, (cells_nine hl (fun j hj => ?_) hp).symm, hi⟩
  have h4 : j < cs.length := by omega
  rw [List.getD_eq_getElem?_getD, List.getElem?_eq_getElem h4]; rfl

/-- An element of a slice of operations. -/
theorem op_at {D : DataW H} {Pl : List MemPlace} {cs : List Value} {a : Addr} {n : Nat} (hc : w.cells? base a 10 = some cs) (ht : DataW.trod enc Try.prog w base spare held n 54 cs = some (D, Pl)) :
    ∃ o : OV, (∀ k u, o.cs[k]? = some u → w.cell? (a.add k) = some u) ∧ IS w w.heap.size o.pod.rA o.pod.rn (readI w o.pod.rA o.pod.rn) := by
  obtain ⟨_, hcl, hat⟩ := World.cells?_some hc
  obtain ⟨xs, n', _, hx, _, hlen, hg⟩ := DataW.trod_struct Try.underlying54 ht
  have h0 : DataW.trod enc Try.prog w base spare held n' 3 ((cs.drop 0).take (Try.prog.cellsOf 3)) = xs[0]? := hg 0 _ rfl
  have h1 : DataW.trod enc Try.prog w base spare held n' 25 ((cs.drop 1).take (Try.prog.cellsOf 25)) = xs[1]? := hg 1 _ rfl
  rw [cells_int, List.drop_zero] at h0
  rw [cells_pod] at h1
  have hx0 : xs[0]? = some (xs[0]'(by rw [hlen]; decide)) := List.getElem?_eq_getElem _
  have hx1 : xs[1]? = some (xs[1]'(by rw [hlen]; decide)) := List.getElem?_eq_getElem _
  rw [hx0] at h0
  rw [hx1] at h1
  match cs, hcl with
  | c0 :: r, hcl =>
    have hr : r.length = 9 := by simpa using hcl
    simp only [List.take_succ_cons, List.take_zero, List.drop_succ_cons, List.drop_zero] at h0 h1
    rw [List.take_of_length_le (by omega)] at h1
    obtain ⟨x0, e0, _⟩ := DataW.trod_int Try.underlying3 h0
    injection e0 with e0 _
    obtain ⟨p, hp, hi⟩ := pod_cells hr h1
    refine ⟨⟨x0, p⟩, fun k u hu => ?_, hi⟩
    have hk : k < 10 := by have := (List.getElem?_eq_some_iff.1 hu).1; rw [OV.cs_length] at this; exact this
    have h5 := hat k hk
    rw [h5]
    have h6 : (OV.mk x0 p).cs = c0 :: r := by unfold OV.cs; rw [hp, e0]
    rw [← h6]
    exact hu

/-- A slice of operations. -/
theorem open_ops {r : Reach} {b0 : Nat} {v : Value} {d : DataW H} {ps : List MemPlace} (hv : Value.okWide Try.prog w r b0 49 v) (h : DataW.Trod enc Try.prog w base spare held 49 v d ps) :
    ∃ L : List OV, OL w w.heap.size v L ∧ L.length ≤ 9223372036854775807 ∧ ∀ o ∈ L, IS w w.heap.size o.pod.rA o.pod.rn (readI w o.pod.rA o.pod.rn) := by
  obtain ⟨a0, len0, cap0, rfl⟩ := okWide_slice Try.underlying49 hv
  obtain ⟨fuel, hf⟩ := h
  rcases open_slice Try.underlying49 hf with ⟨hcs, _⟩ | ⟨a, len, cap, m, n, D, Pl, hcs, _, hl, hm, hmm, _, hi⟩
  · have e : Value.slice a0 len0 cap0 = .slice none 0 0 := by simpa [Value.cells] using hcs
    rw [e]
    exact ⟨[], ⟨none, 0, rfl, Nat.le_refl _, fun h => absurd rfl h⟩, by simp, fun p hp => by cases hp⟩
  · have e : Value.slice a0 len0 cap0 = .slice (some a) len cap := by simpa [Value.cells] using hcs
    rw [e]
    have hlm : len ≤ m := by rw [hmm]; split <;> omega
    have hx : ∀ i, ∃ p : OV, i < len → (∀ k u, p.cs[k]? = some u → w.cell? ((a.add (i * 10)).add k) = some u) ∧ IS w w.heap.size p.pod.rA p.pod.rn (readI w p.pod.rA p.pod.rn) := fun i => by
      by_cases hil : i < len
      · obtain ⟨cs', hc, ht⟩ := hi i (by omega)
        rw [cells_op] at hc
        obtain ⟨p, hp⟩ := op_at hc ht
        exact ⟨p, fun _ => hp⟩
      · exact ⟨OV.zero, fun h => absurd h hil⟩
    obtain ⟨p, hp⟩ := Classical.axiomOfChoice hx
    have hlen : ((List.range len).map p).length = len := by simp
    refine ⟨(List.range len).map p, ⟨some a, cap, by rw [hlen], by rw [hlen]; exact hl, fun hne => ?_⟩, ?_, fun q hq => ?_⟩
    · have h0 : 0 < len := by
        rcases Nat.eq_zero_or_pos len with h | h
        · rw [h] at hne; simp at hne
        · exact h
      have h1 := (hp 0 h0).1 0 _ (show (p 0).cs[0]? = some (.int .i64 (p 0).kind) from rfl)
      have hs := World.cell?_spot h1
      have hb := World.block_lt_of_cell? w _ h1
      obtain ⟨b, o, spot⟩ := a
      have hspot : spot = none := by simpa [Addr.add] using hs
      subst hspot
      refine ⟨b, o, rfl, by simpa [add_plain] using hb, fun i q k u hq hk => ?_⟩
      have hil : i < len := by have := (List.getElem?_eq_some_iff.1 hq).1; rw [hlen] at this; exact this
      have hqe : q = p i := by simpa [List.getElem?_map, List.getElem?_range hil] using hq.symm
      subst hqe
      have h2 := (hp i hil).1 k u hk
      rwa [add_plain, add_plain] at h2
    · rw [hlen]
      have h63 : maxLen = 9223372036854775807 := by unfold maxLen; rfl
      omega
    · obtain ⟨i, hil, rfl⟩ := List.mem_map.1 hq
      exact (hp i (List.mem_range.1 hil)).2
end

/-! ## The law -/

/-- A list that reads as A. -/
def pAll (A : List AP) (v : Value) (w : World) : Prop := ∃ Ls, PSK w (fun _ => True) v Ls ∧ (∀ p ∈ Ls, RK w (fun _ => True) p) ∧ Ls.map (ab w) = A
theorem pAll.lasts {A : List AP} : ∀ v w w', X w w' → pAll A v w → pAll A v w' := fun v w w' hx ⟨Ls, h1, h2, h3⟩ => ⟨Ls, h1.x hx, fun p hp => (h2 p hp).x hx, by rw [← h3]; exact List.map_congr_left fun p hp => (h2 p hp).abx hx⟩

theorem D.clq {w0 : World} {ops : Array Oper} {env : Env} {N : Nat} {Post : SEnv → Prop} {rest : List Nat} {Γ : SEnv} {ty : TypeId} {pos : String} {aft : Array Edge} {gd : Option (Nat × Bool)} {d s f : Nat} {y : Operand} {p : Value → World → Prop} {v r : Value} {ats : Array TypeId}
    (hs : lookS Γ env s = some (.pr p)) (hf : Go.Proofs.Enters Try.prog f) (hy : opL Γ env y = some v) (hc : ∀ u w, X w0 w → p u w → CallsR Try.prog f [u, v] w fun z w' => z = r ∧ X w w') (hg : wantS ops Γ env gd = some true) (hd : Nat.blt d N = true)
    (K : TC Try.prog X w0 ops env N Post rest ((d, .det r) :: Γ)) : TC1 Try.prog X w0 ops env N Post rest Γ { dst := some d, op := .call { callee := .value (.func f), args := #[.tmp s, y], argTypes := ats }, type := ty, pos, after := aft, guard := gd } :=
  ⟨.det r, hd, Sl.lasts_det X r, .inl ⟨hg, fun ev w hr he hp => by
    have h1 := hp s _ (by simp [Op.operands, Call.operands]) hs
    have h2 : EvOk (fun x => some (ev x)) ev := fun x v h => by injection h
    have h3 := op_call (P := Try.prog) (ty := ty) (L := fun x => some (ev x)) (xs := #[.tmp s, y]) (vs := [ev (.tmp s), v]) (ats := ats) hf (by rw [he (.func f) _ rfl]) (by simp [evL, he y _ hy])
    unfold OpT
    rw [h3 ev h2]
    exact (hc _ w hr h1).mono fun z w' h => ⟨h.2, h.1⟩⟩, K⟩

set_option maxHeartbeats 4000000 in
theorem QueueMatches_calls (l : Value) (L : List OV) (w : World) (hl : OL w w.heap.size l L) (hn : L.length ≤ 9223372036854775807) (hq : ∀ o ∈ L, IS w w.heap.size o.pod.rA o.pod.rn (readI w o.pod.rA o.pod.rn)) :
    CallsR Try.prog 10 [l] w fun v w' => v = .bool true ∧ X w w' := by
  have hpl : ∀ w', X w w' → OL w' w'.heap.size l L := fun w' hx => by
    obtain ⟨A, c, h1, h2, h3⟩ := hl.below hx
    exact ⟨A, c, h1, h2, fun hne => by obtain ⟨b, o, e1, e2, e3⟩ := h3 hne; exact ⟨b, o, e1, by have := hx.le; omega, e3⟩⟩
  obtain ⟨A, c, rfl, hc, hat⟩ := hl.open_
  refine enter1 Try.func10 rfl Try.ntmps10 rfl ?_
  repeat (first
 | (with_reducible first
 | apply CW.seq | apply CW.region | apply CW.block | apply CW.ret | apply CW.skip | apply CW.label | apply CW.exit
 | apply W.nil | apply Fin.seq | apply Fin.then_ret | apply Fin.then_exit | apply Fin.blk_ret | apply Fin.blk_normal | apply Fin.blk_here)
 | (with_reducible first | refine S.move ?_ | refine S.assign ?_ | refine S.pickT ?_ | refine S.pickF ?_ | refine S.lss ?_ | refine S.gtr ?_ | refine S.leq ?_ | refine S.geq ?_ | refine S.eqT ?_ | refine S.neF ?_ | refine S.eql ?_ | refine S.neq ?_ | refine S.add ?_ | refine S.sub ?_ | refine S.mul ?_ | refine S.conv ?_ | refine S.shr1 ?_ | refine S.neg ?_ | refine S.not ?_ | refine S.extract ?_ | refine S.len ?_ | refine S.fld ?_ | refine S.index ?_ | refine S.skp ?_ | refine S.sliceTo ?_ | refine S.sliceFrom ?_ | refine S.eqNil ?_ | refine S.eqbT ?_ | refine S.nebF ?_ | refine S.eqb ?_ | refine S.neb ?_)
 | (with_reducible first | refine S.nc ?_ | refine S.fld ?_ (h1 := fHeapL) | refine S.fld ?_ (h1 := fHeapM) | refine S.fld ?_ (h1 := fQueueH) | refine S.eqP ?_ | refine S.neP ?_ | refine S.quo ?_ | refine S.mkP ?_)
 | ((with_reducible apply CW.cond_true); exact rfl)
 | ((with_reducible apply CW.cond_false); exact rfl)
 | ((with_reducible apply Fin.blk_far); exact rfl))
  refine S.cl (op_call ent27 (by rfl) (by rfl)) (by rfl) (by rfl) (New_calls w) ?_
  rintro _ w1 ⟨b0, O1, rfl, hA1, hx1⟩
  repeat (first
 | (with_reducible first
 | apply CW.seq | apply CW.region | apply CW.block | apply CW.ret | apply CW.skip | apply CW.label | apply CW.exit
 | apply W.nil | apply Fin.seq | apply Fin.then_ret | apply Fin.then_exit | apply Fin.blk_ret | apply Fin.blk_normal | apply Fin.blk_here)
 | (with_reducible first | refine S.move ?_ | refine S.assign ?_ | refine S.pickT ?_ | refine S.pickF ?_ | refine S.lss ?_ | refine S.gtr ?_ | refine S.leq ?_ | refine S.geq ?_ | refine S.eqT ?_ | refine S.neF ?_ | refine S.eql ?_ | refine S.neq ?_ | refine S.add ?_ | refine S.sub ?_ | refine S.mul ?_ | refine S.conv ?_ | refine S.shr1 ?_ | refine S.neg ?_ | refine S.not ?_ | refine S.extract ?_ | refine S.len ?_ | refine S.fld ?_ | refine S.index ?_ | refine S.skp ?_ | refine S.sliceTo ?_ | refine S.sliceFrom ?_ | refine S.eqNil ?_ | refine S.eqbT ?_ | refine S.nebF ?_ | refine S.eqb ?_ | refine S.neb ?_)
 | (with_reducible first | refine S.nc ?_ | refine S.fld ?_ (h1 := fHeapL) | refine S.fld ?_ (h1 := fHeapM) | refine S.fld ?_ (h1 := fQueueH) | refine S.eqP ?_ | refine S.neP ?_ | refine S.quo ?_ | refine S.mkP ?_)
 | ((with_reducible apply CW.cond_true); exact rfl)
 | ((with_reducible apply CW.cond_false); exact rfl)
 | ((with_reducible apply Fin.blk_far); exact rfl))
  refine S.cl (op_call ent28 (by rfl) (by rfl)) (by rfl) (by rfl) (awake7_calls w1) ?_
  rintro _ w2 ⟨rfl, hx2⟩
  have hA2 := hA1.x hx2
  have hX2 := hx1.trans hx2
  repeat (first
 | (with_reducible first
 | apply CW.seq | apply CW.region | apply CW.block | apply CW.ret | apply CW.skip | apply CW.label | apply CW.exit
 | apply W.nil | apply Fin.seq | apply Fin.then_ret | apply Fin.then_exit | apply Fin.blk_ret | apply Fin.blk_normal | apply Fin.blk_here)
 | (with_reducible first | refine S.move ?_ | refine S.assign ?_ | refine S.pickT ?_ | refine S.pickF ?_ | refine S.lss ?_ | refine S.gtr ?_ | refine S.leq ?_ | refine S.geq ?_ | refine S.eqT ?_ | refine S.neF ?_ | refine S.eql ?_ | refine S.neq ?_ | refine S.add ?_ | refine S.sub ?_ | refine S.mul ?_ | refine S.conv ?_ | refine S.shr1 ?_ | refine S.neg ?_ | refine S.not ?_ | refine S.extract ?_ | refine S.len ?_ | refine S.fld ?_ | refine S.index ?_ | refine S.skp ?_ | refine S.sliceTo ?_ | refine S.sliceFrom ?_ | refine S.eqNil ?_ | refine S.eqbT ?_ | refine S.nebF ?_ | refine S.eqb ?_ | refine S.neb ?_)
 | (with_reducible first | refine S.nc ?_ | refine S.fld ?_ (h1 := fHeapL) | refine S.fld ?_ (h1 := fHeapM) | refine S.fld ?_ (h1 := fQueueH) | refine S.eqP ?_ | refine S.neP ?_ | refine S.quo ?_ | refine S.mkP ?_)
 | ((with_reducible apply CW.cond_true); exact rfl)
 | ((with_reducible apply CW.cond_false); exact rfl)
 | ((with_reducible apply Fin.blk_far); exact rfl))
  refine S.cl (op_call ent36 (by rfl) (by rfl)) (by rfl) (by rfl) (few7_calls _ L w2 (hpl w2 hX2) hn) ?_
  rintro _ w3 ⟨rfl, hx3⟩
  have hX3 := hX2.trans hx3
  have hA3 := hA2.x hx3
  repeat (first
 | (with_reducible first
 | apply CW.seq | apply CW.region | apply CW.block | apply CW.ret | apply CW.skip | apply CW.label | apply CW.exit
 | apply W.nil | apply Fin.seq | apply Fin.then_ret | apply Fin.then_exit | apply Fin.blk_ret | apply Fin.blk_normal | apply Fin.blk_here)
 | (with_reducible first | refine S.move ?_ | refine S.assign ?_ | refine S.pickT ?_ | refine S.pickF ?_ | refine S.lss ?_ | refine S.gtr ?_ | refine S.leq ?_ | refine S.geq ?_ | refine S.eqT ?_ | refine S.neF ?_ | refine S.eql ?_ | refine S.neq ?_ | refine S.add ?_ | refine S.sub ?_ | refine S.mul ?_ | refine S.conv ?_ | refine S.shr1 ?_ | refine S.neg ?_ | refine S.not ?_ | refine S.extract ?_ | refine S.len ?_ | refine S.fld ?_ | refine S.index ?_ | refine S.skp ?_ | refine S.sliceTo ?_ | refine S.sliceFrom ?_ | refine S.eqNil ?_ | refine S.eqbT ?_ | refine S.nebF ?_ | refine S.eqb ?_ | refine S.neb ?_)
 | (with_reducible first | refine S.nc ?_ | refine S.fld ?_ (h1 := fHeapL) | refine S.fld ?_ (h1 := fHeapM) | refine S.fld ?_ (h1 := fQueueH) | refine S.eqP ?_ | refine S.neP ?_ | refine S.quo ?_ | refine S.mkP ?_)
 | ((with_reducible apply CW.cond_true); exact rfl)
 | ((with_reducible apply CW.cond_false); exact rfl)
 | ((with_reducible apply Fin.blk_far); exact rfl))
  refine CW.cond (by rfl) (fun h => ?_) (fun h => ?_)
  · repeat (first
 | (with_reducible first
 | apply CW.seq | apply CW.region | apply CW.block | apply CW.ret | apply CW.skip | apply CW.label | apply CW.exit
 | apply W.nil | apply Fin.seq | apply Fin.then_ret | apply Fin.then_exit | apply Fin.blk_ret | apply Fin.blk_normal | apply Fin.blk_here)
 | (with_reducible first | refine S.move ?_ | refine S.assign ?_ | refine S.pickT ?_ | refine S.pickF ?_ | refine S.lss ?_ | refine S.gtr ?_ | refine S.leq ?_ | refine S.geq ?_ | refine S.eqT ?_ | refine S.neF ?_ | refine S.eql ?_ | refine S.neq ?_ | refine S.add ?_ | refine S.sub ?_ | refine S.mul ?_ | refine S.conv ?_ | refine S.shr1 ?_ | refine S.neg ?_ | refine S.not ?_ | refine S.extract ?_ | refine S.len ?_ | refine S.fld ?_ | refine S.index ?_ | refine S.skp ?_ | refine S.sliceTo ?_ | refine S.sliceFrom ?_ | refine S.eqNil ?_ | refine S.eqbT ?_ | refine S.nebF ?_ | refine S.eqb ?_ | refine S.neb ?_)
 | (with_reducible first | refine S.nc ?_ | refine S.fld ?_ (h1 := fHeapL) | refine S.fld ?_ (h1 := fHeapM) | refine S.fld ?_ (h1 := fQueueH) | refine S.eqP ?_ | refine S.neP ?_ | refine S.quo ?_ | refine S.mkP ?_)
 | ((with_reducible apply CW.cond_true); exact rfl)
 | ((with_reducible apply CW.cond_false); exact rfl)
 | ((with_reducible apply Fin.blk_far); exact rfl))
    refine S.cl (op_call ent28 (by rfl) (by rfl)) (by rfl) (by rfl) (awake7_calls w3) ?_
    rintro _ w4 ⟨rfl, hx4⟩
    repeat (first
 | (with_reducible first
 | apply CW.seq | apply CW.region | apply CW.block | apply CW.ret | apply CW.skip | apply CW.label | apply CW.exit
 | apply W.nil | apply Fin.seq | apply Fin.then_ret | apply Fin.then_exit | apply Fin.blk_ret | apply Fin.blk_normal | apply Fin.blk_here)
 | (with_reducible first | refine S.move ?_ | refine S.assign ?_ | refine S.pickT ?_ | refine S.pickF ?_ | refine S.lss ?_ | refine S.gtr ?_ | refine S.leq ?_ | refine S.geq ?_ | refine S.eqT ?_ | refine S.neF ?_ | refine S.eql ?_ | refine S.neq ?_ | refine S.add ?_ | refine S.sub ?_ | refine S.mul ?_ | refine S.conv ?_ | refine S.shr1 ?_ | refine S.neg ?_ | refine S.not ?_ | refine S.extract ?_ | refine S.len ?_ | refine S.fld ?_ | refine S.index ?_ | refine S.skp ?_ | refine S.sliceTo ?_ | refine S.sliceFrom ?_ | refine S.eqNil ?_ | refine S.eqbT ?_ | refine S.nebF ?_ | refine S.eqb ?_ | refine S.neb ?_)
 | (with_reducible first | refine S.nc ?_ | refine S.fld ?_ (h1 := fHeapL) | refine S.fld ?_ (h1 := fHeapM) | refine S.fld ?_ (h1 := fQueueH) | refine S.eqP ?_ | refine S.neP ?_ | refine S.quo ?_ | refine S.mkP ?_)
 | ((with_reducible apply CW.cond_true); exact rfl)
 | ((with_reducible apply CW.cond_false); exact rfl)
 | ((with_reducible apply Fin.blk_far); exact rfl))
    (with_reducible apply R.r1); exact rfl; exact rfl
    exact ⟨rfl, hX3.trans hx4⟩
  have hf : few7 L = true := by simpa using h
  have hlen : L.length ≤ 60 := by
    simp only [few7, Bool.and_eq_true, decide_eq_true_eq] at hf
    exact hf.2
  have hfo : ∀ o ∈ L, fewB [o.pod] = true := fun o ho => by
    simp only [few7, Bool.and_eq_true] at hf
    exact List.all_eq_true.1 hf.1 o ho
  have hrk : ∀ o ∈ L, RK w (· < w.heap.size) o.pod := fun o ho => by
    have h1 := hq o ho
    have h2 := few_at (hfo o ho) (k := 0) (by simp)
    have h3 := h1.1
    exact ⟨_, by simp only [List.getElem_cons_zero] at h2; omega, h1⟩
  have hok : ∀ o ∈ L, okPrio o.pod := fun o ho => okPrio_of (hfo o ho) _ (by simp)
  clear h hq
  repeat (first
 | (with_reducible first
 | apply CW.seq | apply CW.region | apply CW.block | apply CW.ret | apply CW.skip | apply CW.label | apply CW.exit
 | apply W.nil | apply Fin.seq | apply Fin.then_ret | apply Fin.then_exit | apply Fin.blk_ret | apply Fin.blk_normal | apply Fin.blk_here)
 | (with_reducible first | refine S.move ?_ | refine S.assign ?_ | refine S.pickT ?_ | refine S.pickF ?_ | refine S.lss ?_ | refine S.gtr ?_ | refine S.leq ?_ | refine S.geq ?_ | refine S.eqT ?_ | refine S.neF ?_ | refine S.eql ?_ | refine S.neq ?_ | refine S.add ?_ | refine S.sub ?_ | refine S.mul ?_ | refine S.conv ?_ | refine S.shr1 ?_ | refine S.neg ?_ | refine S.not ?_ | refine S.extract ?_ | refine S.len ?_ | refine S.fld ?_ | refine S.index ?_ | refine S.skp ?_ | refine S.sliceTo ?_ | refine S.sliceFrom ?_ | refine S.eqNil ?_ | refine S.eqbT ?_ | refine S.nebF ?_ | refine S.eqb ?_ | refine S.neb ?_)
 | (with_reducible first | refine S.nc ?_ | refine S.fld ?_ (h1 := fHeapL) | refine S.fld ?_ (h1 := fHeapM) | refine S.fld ?_ (h1 := fQueueH) | refine S.eqP ?_ | refine S.neP ?_ | refine S.quo ?_ | refine S.mkP ?_)
 | ((with_reducible apply CW.cond_true); exact rfl)
 | ((with_reducible apply CW.cond_false); exact rfl)
 | ((with_reducible apply Fin.blk_far); exact rfl))
  refine CW.loop (ι := Nat × Value) (fun k => [(6, .int .i64 (k.1 : Int)), (0, .slice A L.length c), (3, .pointer (some ⟨b0, 0, none⟩)), (4, k.2)]) (fun k w' => k.1 ≤ L.length ∧ ∃ O LW, QA w' w.heap.size b0 O (LW.map (ab w)) ∧ RW w w' O k.2 LW ∧ LW.length ≤ k.1) (fun k => L.length - k.1) ?_ (0, .slice none 0 0) (by repeat (first | exact trivial | refine ⟨congrArg (fun z : Int => some (Value.int .i64 z)) (by omega), ?_⟩ | refine ⟨rfl, ?_⟩)) ⟨Nat.zero_le _, O1, [], hA3, ⟨hX3, PSK.nil _ _, .nil, (fun p hp => by cases hp), (fun p hp => by cases hp)⟩, Nat.le_refl _⟩
  clear hA1 hx1 hx2 hx3 hX2 hX3 hA2 hA3
  rintro ⟨k, vk⟩ w4 ⟨hk, O4, LW, hA4, hW4, hLW⟩
  simp only at hk hW4 hLW ⊢
  repeat (first
 | (with_reducible first
 | apply CW.seq | apply CW.region | apply CW.block | apply CW.ret | apply CW.skip | apply CW.label | apply CW.exit
 | apply W.nil | apply Fin.seq | apply Fin.then_ret | apply Fin.then_exit | apply Fin.blk_ret | apply Fin.blk_normal | apply Fin.blk_here)
 | (with_reducible first | refine S.move ?_ | refine S.assign ?_ | refine S.pickT ?_ | refine S.pickF ?_ | refine S.lss ?_ | refine S.gtr ?_ | refine S.leq ?_ | refine S.geq ?_ | refine S.eqT ?_ | refine S.neF ?_ | refine S.eql ?_ | refine S.neq ?_ | refine S.add ?_ | refine S.sub ?_ | refine S.mul ?_ | refine S.conv ?_ | refine S.shr1 ?_ | refine S.neg ?_ | refine S.not ?_ | refine S.extract ?_ | refine S.len ?_ | refine S.fld ?_ | refine S.index ?_ | refine S.skp ?_ | refine S.sliceTo ?_ | refine S.sliceFrom ?_ | refine S.eqNil ?_ | refine S.eqbT ?_ | refine S.nebF ?_ | refine S.eqb ?_ | refine S.neb ?_)
 | (with_reducible first | refine S.nc ?_ | refine S.fld ?_ (h1 := fHeapL) | refine S.fld ?_ (h1 := fHeapM) | refine S.fld ?_ (h1 := fQueueH) | refine S.eqP ?_ | refine S.neP ?_ | refine S.quo ?_ | refine S.mkP ?_)
 | ((with_reducible apply CW.cond_true); exact rfl)
 | ((with_reducible apply CW.cond_false); exact rfl)
 | ((with_reducible apply Fin.blk_far); exact rfl))
  refine S.len (h1 := Try.underlying49) ?_
  repeat (first
 | (with_reducible first
 | apply CW.seq | apply CW.region | apply CW.block | apply CW.ret | apply CW.skip | apply CW.label | apply CW.exit
 | apply W.nil | apply Fin.seq | apply Fin.then_ret | apply Fin.then_exit | apply Fin.blk_ret | apply Fin.blk_normal | apply Fin.blk_here)
 | (with_reducible first | refine S.move ?_ | refine S.assign ?_ | refine S.pickT ?_ | refine S.pickF ?_ | refine S.lss ?_ | refine S.gtr ?_ | refine S.leq ?_ | refine S.geq ?_ | refine S.eqT ?_ | refine S.neF ?_ | refine S.eql ?_ | refine S.neq ?_ | refine S.add ?_ | refine S.sub ?_ | refine S.mul ?_ | refine S.conv ?_ | refine S.shr1 ?_ | refine S.neg ?_ | refine S.not ?_ | refine S.extract ?_ | refine S.len ?_ | refine S.fld ?_ | refine S.index ?_ | refine S.skp ?_ | refine S.sliceTo ?_ | refine S.sliceFrom ?_ | refine S.eqNil ?_ | refine S.eqbT ?_ | refine S.nebF ?_ | refine S.eqb ?_ | refine S.neb ?_)
 | (with_reducible first | refine S.nc ?_ | refine S.fld ?_ (h1 := fHeapL) | refine S.fld ?_ (h1 := fHeapM) | refine S.fld ?_ (h1 := fQueueH) | refine S.eqP ?_ | refine S.neP ?_ | refine S.quo ?_ | refine S.mkP ?_)
 | ((with_reducible apply CW.cond_true); exact rfl)
 | ((with_reducible apply CW.cond_false); exact rfl)
 | ((with_reducible apply Fin.blk_far); exact rfl))
  refine CW.cond (by rfl) (fun h => ?_) (fun h => ?_)
  · have hk' : k < L.length := by have := of_decide_eq_true h; omega
    clear h
    obtain ⟨b, o, rfl, hbB, hcell⟩ := hat k hk'
    have hp : L[k]? = some L[k] := List.getElem?_eq_getElem hk'
    have hm : L[k] ∈ L := List.getElem_mem hk'
    have hrko := hrk _ hm
    have hoko := hok _ hm
    generalize L[k] = x at *
    have hcx : ∀ w', X w w' → ∀ j u, x.cs[j]? = some u → w'.cell? ⟨b, o + k * 10 + j, none⟩ = some u := fun w' hx j u hj => (hx.cell (p := ⟨b, _, none⟩) hbB).trans (hcell k x j u hp hj)
    repeat (first
 | (with_reducible first
 | apply CW.seq | apply CW.region | apply CW.block | apply CW.ret | apply CW.skip | apply CW.label | apply CW.exit
 | apply W.nil | apply Fin.seq | apply Fin.then_ret | apply Fin.then_exit | apply Fin.blk_ret | apply Fin.blk_normal | apply Fin.blk_here)
 | (with_reducible first | refine S.move ?_ | refine S.assign ?_ | refine S.pickT ?_ | refine S.pickF ?_ | refine S.lss ?_ | refine S.gtr ?_ | refine S.leq ?_ | refine S.geq ?_ | refine S.eqT ?_ | refine S.neF ?_ | refine S.eql ?_ | refine S.neq ?_ | refine S.add ?_ | refine S.sub ?_ | refine S.mul ?_ | refine S.conv ?_ | refine S.shr1 ?_ | refine S.neg ?_ | refine S.not ?_ | refine S.extract ?_ | refine S.len ?_ | refine S.fld ?_ | refine S.index ?_ | refine S.skp ?_ | refine S.sliceTo ?_ | refine S.sliceFrom ?_ | refine S.eqNil ?_ | refine S.eqbT ?_ | refine S.nebF ?_ | refine S.eqb ?_ | refine S.neb ?_)
 | (with_reducible first | refine S.nc ?_ | refine S.fld ?_ (h1 := fHeapL) | refine S.fld ?_ (h1 := fHeapM) | refine S.fld ?_ (h1 := fQueueH) | refine S.eqP ?_ | refine S.neP ?_ | refine S.quo ?_ | refine S.mkP ?_)
 | ((with_reducible apply CW.cond_true); exact rfl)
 | ((with_reducible apply CW.cond_false); exact rfl)
 | ((with_reducible apply Fin.blk_far); exact rfl))
    refine S.index (h2 := slOps) ?_
    refine S.lds (cs := x.cs) (by rfl) stOp (hcx w4 hW4.x) (by rfl) (by rfl) ?_
    refine S.cl (op_call ent37 (by rfl) (by rfl)) (by rfl) (by rfl) (play7_calls w b0 O4 vk LW x w4 hA4 hW4 (by omega) hrko hoko) ?_
    rintro _ w5 ⟨v5, O5, LV, rfl, hA5, hW5, hLV⟩
    have hX5 := hW5.x
    obtain ⟨A5, c5, rfl, hc5, _⟩ := hW5.ps.ps.open_
    clear hA4 hW4
    repeat (first
 | (with_reducible first
 | apply CW.seq | apply CW.region | apply CW.block | apply CW.ret | apply CW.skip | apply CW.label | apply CW.exit
 | apply W.nil | apply Fin.seq | apply Fin.then_ret | apply Fin.then_exit | apply Fin.blk_ret | apply Fin.blk_normal | apply Fin.blk_here)
 | (with_reducible first | refine S.move ?_ | refine S.assign ?_ | refine S.pickT ?_ | refine S.pickF ?_ | refine S.lss ?_ | refine S.gtr ?_ | refine S.leq ?_ | refine S.geq ?_ | refine S.eqT ?_ | refine S.neF ?_ | refine S.eql ?_ | refine S.neq ?_ | refine S.add ?_ | refine S.sub ?_ | refine S.mul ?_ | refine S.conv ?_ | refine S.shr1 ?_ | refine S.neg ?_ | refine S.not ?_ | refine S.extract ?_ | refine S.len ?_ | refine S.fld ?_ | refine S.index ?_ | refine S.skp ?_ | refine S.sliceTo ?_ | refine S.sliceFrom ?_ | refine S.eqNil ?_ | refine S.eqbT ?_ | refine S.nebF ?_ | refine S.eqb ?_ | refine S.neb ?_)
 | (with_reducible first | refine S.nc ?_ | refine S.fld ?_ (h1 := fHeapL) | refine S.fld ?_ (h1 := fHeapM) | refine S.fld ?_ (h1 := fQueueH) | refine S.eqP ?_ | refine S.neP ?_ | refine S.quo ?_ | refine S.mkP ?_)
 | ((with_reducible apply CW.cond_true); exact rfl)
 | ((with_reducible apply CW.cond_false); exact rfl)
 | ((with_reducible apply Fin.blk_far); exact rfl))
    refine wp_facts (R := X) (front := [0, 1, 2, 3, 4, 5, 6, 7, 8, 9, 10, 11, 12, 13, 14, 15, 16, 17, 18, 19, 20, 21, 22, 23, 24, 25, 26, 27, 28, 29, 30, 31, 32, 33, 34, 35]) (tail := []) mixed (by kernel_rfl) X.refl (fun _ _ _ => X.trans) (X.drew _) ?_
    repeat ((with_reducible refine TC.step ?_); first
      | refine D.index (h2 := slOps) ?_
      | refine D.fld (h1 := fOpPod) ?_
      | (with_reducible first | refine D.move ?_ | refine D.assign ?_ | refine D.pickT ?_ | refine D.pickF ?_ | refine D.lss ?_ | refine D.gtr ?_ | refine D.leq ?_ | refine D.geq ?_ | refine D.eqT ?_ | refine D.neF ?_ | refine D.eql ?_ | refine D.neq ?_ | refine D.add ?_ | refine D.sub ?_ | refine D.mul ?_ | refine D.conv ?_ | refine D.shr1 ?_ | refine D.neg ?_ | refine D.not ?_ | refine D.extract ?_ | refine D.len ?_ | refine D.fld ?_ | refine D.index ?_ | refine D.skp ?_ | refine D.sliceTo ?_ | refine D.sliceFrom ?_ | refine D.eqNil ?_ | refine D.eqbT ?_ | refine D.nebF ?_ | refine D.eqb ?_ | refine D.neb ?_)
      | ((with_reducible apply D.ld); exact rfl; (with_reducible first | exact oneInt | exact oneI64s | exact oneBool | exact oneI64 | exact onePods | exact oneMap); (intro w' hx'; have := hcx w' (hX5.trans hx') 1 _ rfl; exact this); exact X.refl; exact rfl; exact rfl)
      | refine D.cl (op_call ent32 (by rfl) (by rfl)) (by rfl) (by rfl) (v := .int .i64 (LV.length : Int)) (fun w' hx' => (qLen_calls w.heap.size b0 O5 _ w' (hA5.x hx')).mono fun v w'' h => ⟨by rw [h.1, List.length_map], h.2 ▸ X.refl _⟩) ?_
      | refine D.clp (pAll (LV.map (ab w))) pAll.lasts (op_call ent34 (by rfl) (by rfl)) (by rfl) (by rfl) (fun w' hx' => (qAll_calls w.heap.size b0 O5 _ w' (hA5.x hx') (by rw [List.length_map]; omega)).mono fun v w'' h => ⟨by
          obtain ⟨⟨Ls, h1, h2, h3⟩, _⟩ := h
          exact ⟨Ls, h1.psk.mono fun _ _ _ => trivial, fun p hp => (h3 p hp).rk.mono fun _ _ _ => trivial, h2⟩, h.2⟩) ?_
      | refine D.clq (p := pAll (LV.map (ab w))) (r := .bool true) (by rfl) ent21 (by rfl) (fun u w' hx' ⟨Ls, h1, h2, h3⟩ => Same_ab u _ Ls LV w' h1.ps (hW5.tx hx').ps.ps (by rw [h3, (hW5.tx hx').map (hX5.trans hx')]) h2 (fun p hp => (hW5.at_ (hX5.trans hx') hp).1) (by have := congrArg List.length h3; simp only [List.length_map] at this; omega)) (by rfl) (by rfl) ?_
      | refine D.cl (op_call ent38 (by rfl) (by rfl)) (by rfl) (by rfl) (v := .bool (decide (0 ≤ findR LV x.pod.id))) (fun w' hx' => (qHas_calls w.heap.size b0 O5 _ x.pod.id w' (hA5.x hx')).mono fun v w'' h => ⟨by rw [h.1, hasA_map, findR_ge], h.2 ▸ X.refl _⟩) ?_
      | refine D.cl (op_call ent39 (by rfl) (by rfl)) (by rfl) (by rfl) (v := .int .i64 (findR LV x.pod.id)) (fun w' hx' => (Find_calls _ LV x.pod.id w' (hW5.tx hx').ps.ps (by omega)).mono fun v w'' h => ⟨h.1, h.2 ▸ X.refl _⟩) ?_)
    refine TC.done fun w6 hx6 => ?_
    repeat (first
 | (with_reducible first
 | apply CW.seq | apply CW.region | apply CW.block | apply CW.ret | apply CW.skip | apply CW.label | apply CW.exit
 | apply W.nil | apply Fin.seq | apply Fin.then_ret | apply Fin.then_exit | apply Fin.blk_ret | apply Fin.blk_normal | apply Fin.blk_here)
 | (with_reducible first | refine S.move ?_ | refine S.assign ?_ | refine S.pickT ?_ | refine S.pickF ?_ | refine S.lss ?_ | refine S.gtr ?_ | refine S.leq ?_ | refine S.geq ?_ | refine S.eqT ?_ | refine S.neF ?_ | refine S.eql ?_ | refine S.neq ?_ | refine S.add ?_ | refine S.sub ?_ | refine S.mul ?_ | refine S.conv ?_ | refine S.shr1 ?_ | refine S.neg ?_ | refine S.not ?_ | refine S.extract ?_ | refine S.len ?_ | refine S.fld ?_ | refine S.index ?_ | refine S.skp ?_ | refine S.sliceTo ?_ | refine S.sliceFrom ?_ | refine S.eqNil ?_ | refine S.eqbT ?_ | refine S.nebF ?_ | refine S.eqb ?_ | refine S.neb ?_)
 | (with_reducible first | refine S.nc ?_ | refine S.fld ?_ (h1 := fHeapL) | refine S.fld ?_ (h1 := fHeapM) | refine S.fld ?_ (h1 := fQueueH) | refine S.eqP ?_ | refine S.neP ?_ | refine S.quo ?_ | refine S.mkP ?_)
 | ((with_reducible apply CW.cond_true); exact rfl)
 | ((with_reducible apply CW.cond_false); exact rfl)
 | ((with_reducible apply Fin.blk_far); exact rfl))
    refine Fin.round (k + 1, _) (by simp only; omega) (by repeat (first | exact trivial | refine ⟨congrArg (fun z : Int => some (Value.int .i64 z)) (by omega), ?_⟩ | refine ⟨rfl, ?_⟩)) ⟨hk', O5, LV, hA5.x hx6, hW5.tx hx6, by simp only; omega⟩
  · repeat (first
 | (with_reducible first
 | apply CW.seq | apply CW.region | apply CW.block | apply CW.ret | apply CW.skip | apply CW.label | apply CW.exit
 | apply W.nil | apply Fin.seq | apply Fin.then_ret | apply Fin.then_exit | apply Fin.blk_ret | apply Fin.blk_normal | apply Fin.blk_here)
 | (with_reducible first | refine S.move ?_ | refine S.assign ?_ | refine S.pickT ?_ | refine S.pickF ?_ | refine S.lss ?_ | refine S.gtr ?_ | refine S.leq ?_ | refine S.geq ?_ | refine S.eqT ?_ | refine S.neF ?_ | refine S.eql ?_ | refine S.neq ?_ | refine S.add ?_ | refine S.sub ?_ | refine S.mul ?_ | refine S.conv ?_ | refine S.shr1 ?_ | refine S.neg ?_ | refine S.not ?_ | refine S.extract ?_ | refine S.len ?_ | refine S.fld ?_ | refine S.index ?_ | refine S.skp ?_ | refine S.sliceTo ?_ | refine S.sliceFrom ?_ | refine S.eqNil ?_ | refine S.eqbT ?_ | refine S.nebF ?_ | refine S.eqb ?_ | refine S.neb ?_)
 | (with_reducible first | refine S.nc ?_ | refine S.fld ?_ (h1 := fHeapL) | refine S.fld ?_ (h1 := fHeapM) | refine S.fld ?_ (h1 := fQueueH) | refine S.eqP ?_ | refine S.neP ?_ | refine S.quo ?_ | refine S.mkP ?_)
 | ((with_reducible apply CW.cond_true); exact rfl)
 | ((with_reducible apply CW.cond_false); exact rfl)
 | ((with_reducible apply Fin.blk_far); exact rfl))
    (with_reducible apply R.r1); exact rfl; exact rfl
    exact ⟨rfl, hW4.x⟩

end Go.Proofs.Ytmilpjkjcanghaa

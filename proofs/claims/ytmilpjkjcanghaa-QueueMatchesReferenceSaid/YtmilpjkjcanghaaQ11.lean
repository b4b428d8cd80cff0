/- The queue's methods: All; spoil. -/
import Derived.Test.YtmilpjkjcanghaaQ10
namespace Go.Proofs.Ytmilpjkjcanghaa
open Go.RowKit
set_option linter.unusedVariables false
set_option linter.unusedSimpArgs false

theorem RqB.g {w w' : World} {B g n : Nat} {A : Option Addr} {l : List Int} (h : RqB w B A n l) (hg : w.grownBy w' (some g)) (hlt : g < B) : RqB w' B A n l :=
  ⟨h.1, fun hne => by obtain ⟨b, sp, h1, h2, h3⟩ := h.2 hne; exact ⟨b, sp, h1, h2, (show G g w w' from hg).blk h3 (by omega)⟩⟩
theorem RqB.low {w : World} {B B' n : Nat} {A : Option Addr} {l : List Int} (h : RqB w B A n l) (hB : B' ≤ B) : RqB w B' A n l :=
  ⟨h.1, fun hne => by obtain ⟨b, sp, h1, h2, h3⟩ := h.2 hne; exact ⟨b, sp, h1, by omega, h3⟩⟩
theorem RqB.rk' {w : World} {p : PV} {l : List Int} {B : Nat} (hR : RqB w B p.rA p.rn l) (hl : l.length ≤ 1000) : RK w (B ≤ ·) p := ⟨l, hl, hR.isk⟩

/-- The pod's request is its own. -/
def OwnR (w : World) (B : Nat) (p : PV) : Prop := ∃ l : List Int, l.length ≤ 1000 ∧ RqB w B p.rA p.rn l
theorem OwnR.rk {w : World} {B : Nat} {p : PV} (h : OwnR w B p) : RK w (B ≤ ·) p := h.imp fun l h => ⟨h.1, h.2.isk⟩

set_option maxHeartbeats 1000000 in
theorem qAll_calls (B b0 : Nat) (O : Nat → Prop) (A : List AP) (w : World) (h : QA w B b0 O A) (hn : A.length ≤ 1000) :
    CallsR Try.prog 34 [.pointer (some ⟨b0, 0, none⟩)] w fun u w' => (∃ Ls, NewS w' w.heap.size u Ls ∧ Ls.map (ab w') = A ∧ ∀ p ∈ Ls, OwnR w' w.heap.size p) ∧ X w w' := by
  obtain ⟨bm, v, Ds, m, hI, hV⟩ := h
  have hDl := hI.len hV
  refine enter1 Try.func34 rfl Try.ntmps34 rfl ?_
  repeat (first
 | (with_reducible first
 | apply CW.seq | apply CW.region | apply CW.block | apply CW.ret | apply CW.skip | apply CW.label | apply CW.exit
 | apply W.nil | apply Fin.seq | apply Fin.then_ret | apply Fin.then_exit | apply Fin.blk_ret | apply Fin.blk_normal | apply Fin.blk_here)
 | (with_reducible first | refine S.move ?_ | refine S.assign ?_ | refine S.pickT ?_ | refine S.pickF ?_ | refine S.lss ?_ | refine S.gtr ?_ | refine S.leq ?_ | refine S.geq ?_ | refine S.eqT ?_ | refine S.neF ?_ | refine S.eql ?_ | refine S.neq ?_ | refine S.add ?_ | refine S.sub ?_ | refine S.mul ?_ | refine S.conv ?_ | refine S.shr1 ?_ | refine S.neg ?_ | refine S.not ?_ | refine S.extract ?_ | refine S.len ?_ | refine S.fld ?_ | refine S.index ?_ | refine S.skp ?_ | refine S.sliceTo ?_ | refine S.sliceFrom ?_ | refine S.eqNil ?_ | refine S.eqbT ?_ | refine S.nebF ?_ | refine S.eqb ?_ | refine S.neb ?_)
 | (with_reducible first | refine S.nc ?_ | refine S.fld ?_ (h1 := fHeapL) | refine S.fld ?_ (h1 := fHeapM) | refine S.fld ?_ (h1 := fQueueH) | refine S.eqP ?_ | refine S.neP ?_ | refine S.quo ?_ | refine S.mkP ?_)
 | ((with_reducible apply CW.cond_true); exact rfl)
 | ((with_reducible apply CW.cond_false); exact rfl)
 | ((with_reducible apply Fin.blk_far); exact rfl))
  ((with_reducible apply S.ld); exact rfl; (with_reducible first | exact oneInt | exact oneI64s | exact oneBool | exact oneI64 | exact onePods | exact oneMap); (exact hI.qs.cv); exact rfl; exact rfl)
  refine S.cl (op_call ent22 (by rfl) (by rfl)) (by rfl) (by rfl) (Sort_calls v Ds w hI.qs.own.ps (by omega)) ?_
  rintro vs w1 ⟨hN, hx1⟩
  have hM : ∀ p ∈ sortR Ds, RK w (fun _ => True) p := fun p hp => (hI.rq p (((sortR_srt Ds).2.mem p).2 hp)).mono fun _ _ _ => trivial
  have hMl := sortR_len Ds
  have hA : (sortR Ds).map (ab w) = A := hV
  generalize sortR Ds = M at *
  obtain ⟨A5, c5, g, rfl, hc5, hg5, hbl⟩ := hN.open_
  repeat (first
 | (with_reducible first
 | apply CW.seq | apply CW.region | apply CW.block | apply CW.ret | apply CW.skip | apply CW.label | apply CW.exit
 | apply W.nil | apply Fin.seq | apply Fin.then_ret | apply Fin.then_exit | apply Fin.blk_ret | apply Fin.blk_normal | apply Fin.blk_here)
 | (with_reducible first | refine S.move ?_ | refine S.assign ?_ | refine S.pickT ?_ | refine S.pickF ?_ | refine S.lss ?_ | refine S.gtr ?_ | refine S.leq ?_ | refine S.geq ?_ | refine S.eqT ?_ | refine S.neF ?_ | refine S.eql ?_ | refine S.neq ?_ | refine S.add ?_ | refine S.sub ?_ | refine S.mul ?_ | refine S.conv ?_ | refine S.shr1 ?_ | refine S.neg ?_ | refine S.not ?_ | refine S.extract ?_ | refine S.len ?_ | refine S.fld ?_ | refine S.index ?_ | refine S.skp ?_ | refine S.sliceTo ?_ | refine S.sliceFrom ?_ | refine S.eqNil ?_ | refine S.eqbT ?_ | refine S.nebF ?_ | refine S.eqb ?_ | refine S.neb ?_)
 | (with_reducible first | refine S.nc ?_ | refine S.fld ?_ (h1 := fHeapL) | refine S.fld ?_ (h1 := fHeapM) | refine S.fld ?_ (h1 := fQueueH) | refine S.eqP ?_ | refine S.neP ?_ | refine S.quo ?_ | refine S.mkP ?_)
 | ((with_reducible apply CW.cond_true); exact rfl)
 | ((with_reducible apply CW.cond_false); exact rfl)
 | ((with_reducible apply Fin.blk_far); exact rfl))
  refine CW.loop (ι := Nat × List PV) (fun k => [(15, .int .i64 (k.1 : Int)), (14, .int .i64 (M.length : Int)), (3, .slice A5 M.length c5)])
    (fun k w' => (M = [] → X w1 w') ∧ X w w' ∧ k.1 ≤ M.length ∧ k.2.length = M.length ∧ (M ≠ [] → BL w' g k.2) ∧ (∀ i p q, i < k.1 → k.2[i]? = some p → M[i]? = some q → OwnR w' (g + 1) p ∧ ab w' p = ab w q) ∧ (∀ i, k.1 ≤ i → k.2[i]? = M[i]?))
    (fun k => M.length - k.1) ?_ (0, M) (by repeat (first | exact trivial | refine ⟨congrArg (fun z : Int => some (Value.int .i64 z)) (by omega), ?_⟩ | refine ⟨rfl, ?_⟩)) ⟨fun _ => X.refl _, hx1, Nat.zero_le _, rfl, fun hne => (hbl hne).2, fun i p q hi => absurd hi (Nat.not_lt_zero _), fun i _ => rfl⟩
  rintro ⟨k, D1⟩ w2 ⟨hx12, hx2, hk, hD, hb2, hlo, hhi⟩
  simp only at hk hD hb2 hlo hhi ⊢
  repeat (first
 | (with_reducible first
 | apply CW.seq | apply CW.region | apply CW.block | apply CW.ret | apply CW.skip | apply CW.label | apply CW.exit
 | apply W.nil | apply Fin.seq | apply Fin.then_ret | apply Fin.then_exit | apply Fin.blk_ret | apply Fin.blk_normal | apply Fin.blk_here)
 | (with_reducible first | refine S.move ?_ | refine S.assign ?_ | refine S.pickT ?_ | refine S.pickF ?_ | refine S.lss ?_ | refine S.gtr ?_ | refine S.leq ?_ | refine S.geq ?_ | refine S.eqT ?_ | refine S.neF ?_ | refine S.eql ?_ | refine S.neq ?_ | refine S.add ?_ | refine S.sub ?_ | refine S.mul ?_ | refine S.conv ?_ | refine S.shr1 ?_ | refine S.neg ?_ | refine S.not ?_ | refine S.extract ?_ | refine S.len ?_ | refine S.fld ?_ | refine S.index ?_ | refine S.skp ?_ | refine S.sliceTo ?_ | refine S.sliceFrom ?_ | refine S.eqNil ?_ | refine S.eqbT ?_ | refine S.nebF ?_ | refine S.eqb ?_ | refine S.neb ?_)
 | (with_reducible first | refine S.nc ?_ | refine S.fld ?_ (h1 := fHeapL) | refine S.fld ?_ (h1 := fHeapM) | refine S.fld ?_ (h1 := fQueueH) | refine S.eqP ?_ | refine S.neP ?_ | refine S.quo ?_ | refine S.mkP ?_)
 | ((with_reducible apply CW.cond_true); exact rfl)
 | ((with_reducible apply CW.cond_false); exact rfl)
 | ((with_reducible apply Fin.blk_far); exact rfl))
  refine CW.cond (by rfl) (fun hc => ?_) (fun hc => ?_)
  · have hk' : k < M.length := by have := of_decide_eq_true hc; omega
    clear hc
    have hne : M ≠ [] := by rintro rfl; simp at hk'
    obtain ⟨rfl, _⟩ := hbl hne
    have hB2 := hb2 hne
    have hp : D1[k]? = some M[k] := (hhi k (Nat.le_refl _)).trans (List.getElem?_eq_getElem hk')
    have hpM : M[k]? = some M[k] := List.getElem?_eq_getElem hk'
    obtain ⟨lr, hlr, hisk⟩ := hM M[k] (List.getElem_mem hk')
    generalize M[k] = p at *
    have hisk2 := hisk.x hx2
    have hab2 : ab w2 p = ab w p := (show RK w _ p from ⟨lr, hlr, hisk⟩).abx hx2
    repeat (first
 | (with_reducible first
 | apply CW.seq | apply CW.region | apply CW.block | apply CW.ret | apply CW.skip | apply CW.label | apply CW.exit
 | apply W.nil | apply Fin.seq | apply Fin.then_ret | apply Fin.then_exit | apply Fin.blk_ret | apply Fin.blk_normal | apply Fin.blk_here)
 | (with_reducible first | refine S.move ?_ | refine S.assign ?_ | refine S.pickT ?_ | refine S.pickF ?_ | refine S.lss ?_ | refine S.gtr ?_ | refine S.leq ?_ | refine S.geq ?_ | refine S.eqT ?_ | refine S.neF ?_ | refine S.eql ?_ | refine S.neq ?_ | refine S.add ?_ | refine S.sub ?_ | refine S.mul ?_ | refine S.conv ?_ | refine S.shr1 ?_ | refine S.neg ?_ | refine S.not ?_ | refine S.extract ?_ | refine S.len ?_ | refine S.fld ?_ | refine S.index ?_ | refine S.skp ?_ | refine S.sliceTo ?_ | refine S.sliceFrom ?_ | refine S.eqNil ?_ | refine S.eqbT ?_ | refine S.nebF ?_ | refine S.eqb ?_ | refine S.neb ?_)
 | (with_reducible first | refine S.nc ?_ | refine S.fld ?_ (h1 := fHeapL) | refine S.fld ?_ (h1 := fHeapM) | refine S.fld ?_ (h1 := fQueueH) | refine S.eqP ?_ | refine S.neP ?_ | refine S.quo ?_ | refine S.mkP ?_)
 | ((with_reducible apply CW.cond_true); exact rfl)
 | ((with_reducible apply CW.cond_false); exact rfl)
 | ((with_reducible apply Fin.blk_far); exact rfl))
    refine S.lds (cs := p.cs) (by rfl) stPod (fun j u hj => hB2.cell hp hj) (by rfl) (by rfl) ?_
    refine S.cl (op_call ent50 (by rfl) (by rfl)) (by rfl) (by rfl) (copied_calls p lr w2 hisk2.is (by have := hisk.1; omega)) ?_
    rintro _ w3 ⟨A', c', rfl, hRq, hx3⟩
    have hab3 : ab w3 (p.with A' p.rn c') = ab w p := (ab_with hisk2 hRq).trans hab2
    have hgl := hB2.lt
    have hown : OwnR w3 (g + 1) (p.with A' p.rn c') := ⟨lr, hlr, hRq.low (by omega)⟩
    generalize p.with A' p.rn c' = p' at *
    have hB3 := hB2.x hx3
    have hkD : k < D1.length := by omega
    repeat (first
 | (with_reducible first
 | apply CW.seq | apply CW.region | apply CW.block | apply CW.ret | apply CW.skip | apply CW.label | apply CW.exit
 | apply W.nil | apply Fin.seq | apply Fin.then_ret | apply Fin.then_exit | apply Fin.blk_ret | apply Fin.blk_normal | apply Fin.blk_here)
 | (with_reducible first | refine S.move ?_ | refine S.assign ?_ | refine S.pickT ?_ | refine S.pickF ?_ | refine S.lss ?_ | refine S.gtr ?_ | refine S.leq ?_ | refine S.geq ?_ | refine S.eqT ?_ | refine S.neF ?_ | refine S.eql ?_ | refine S.neq ?_ | refine S.add ?_ | refine S.sub ?_ | refine S.mul ?_ | refine S.conv ?_ | refine S.shr1 ?_ | refine S.neg ?_ | refine S.not ?_ | refine S.extract ?_ | refine S.len ?_ | refine S.fld ?_ | refine S.index ?_ | refine S.skp ?_ | refine S.sliceTo ?_ | refine S.sliceFrom ?_ | refine S.eqNil ?_ | refine S.eqbT ?_ | refine S.nebF ?_ | refine S.eqb ?_ | refine S.neb ?_)
 | (with_reducible first | refine S.nc ?_ | refine S.fld ?_ (h1 := fHeapL) | refine S.fld ?_ (h1 := fHeapM) | refine S.fld ?_ (h1 := fQueueH) | refine S.eqP ?_ | refine S.neP ?_ | refine S.quo ?_ | refine S.mkP ?_)
 | ((with_reducible apply CW.cond_true); exact rfl)
 | ((with_reducible apply CW.cond_false); exact rfl)
 | ((with_reducible apply Fin.blk_far); exact rfl))
    refine S.stP (p := p') (by rfl) (by rfl) hB3 hkD szPod9 (by rfl) fun w4 hg4 hB4 => ?_
    have hX4 : X w w4 := below_g (hx2.trans hx3) hg4 (hx2.trans hx3).le hg5
    repeat (first
 | (with_reducible first
 | apply CW.seq | apply CW.region | apply CW.block | apply CW.ret | apply CW.skip | apply CW.label | apply CW.exit
 | apply W.nil | apply Fin.seq | apply Fin.then_ret | apply Fin.then_exit | apply Fin.blk_ret | apply Fin.blk_normal | apply Fin.blk_here)
 | (with_reducible first | refine S.move ?_ | refine S.assign ?_ | refine S.pickT ?_ | refine S.pickF ?_ | refine S.lss ?_ | refine S.gtr ?_ | refine S.leq ?_ | refine S.geq ?_ | refine S.eqT ?_ | refine S.neF ?_ | refine S.eql ?_ | refine S.neq ?_ | refine S.add ?_ | refine S.sub ?_ | refine S.mul ?_ | refine S.conv ?_ | refine S.shr1 ?_ | refine S.neg ?_ | refine S.not ?_ | refine S.extract ?_ | refine S.len ?_ | refine S.fld ?_ | refine S.index ?_ | refine S.skp ?_ | refine S.sliceTo ?_ | refine S.sliceFrom ?_ | refine S.eqNil ?_ | refine S.eqbT ?_ | refine S.nebF ?_ | refine S.eqb ?_ | refine S.neb ?_)
 | (with_reducible first | refine S.nc ?_ | refine S.fld ?_ (h1 := fHeapL) | refine S.fld ?_ (h1 := fHeapM) | refine S.fld ?_ (h1 := fQueueH) | refine S.eqP ?_ | refine S.neP ?_ | refine S.quo ?_ | refine S.mkP ?_)
 | ((with_reducible apply CW.cond_true); exact rfl)
 | ((with_reducible apply CW.cond_false); exact rfl)
 | ((with_reducible apply Fin.blk_far); exact rfl))
    refine Fin.round (k + 1, D1.set k p') (by simp only; omega) (by repeat (first | exact trivial | refine ⟨congrArg (fun z : Int => some (Value.int .i64 z)) (by omega), ?_⟩ | refine ⟨rfl, ?_⟩)) ⟨fun e => absurd e hne, hX4, hk', by simp only [List.length_set]; exact hD, fun _ => hB4, fun i q r hi hq hr => ?_, fun i hi => ?_⟩
    · simp only at hi hq
      rw [List.getElem?_set] at hq
      by_cases e : k = i
      · subst e
        rw [if_pos rfl, if_pos hkD] at hq
        injection hq with hq
        subst hq
        rw [hpM] at hr
        injection hr with hr
        subst hr
        obtain ⟨l2, e1, e2⟩ := hown
        exact ⟨⟨l2, e1, e2.g hg4 (by omega)⟩, ((e2.rk' e1).g hg4 (by omega)).2.trans hab3⟩
      · rw [if_neg e] at hq
        obtain ⟨⟨l2, e1, e2⟩, h2⟩ := hlo i q r (by omega) hq hr
        have e3 := e2.x hx3
        exact ⟨⟨l2, e1, e3.g hg4 (by omega)⟩, (((e3.rk' e1).g hg4 (by omega)).2.trans ((e2.rk' e1).abx hx3)).trans h2⟩
    · simp only at hi ⊢
      rw [List.getElem?_set, if_neg (by omega)]
      exact hhi i (by omega)
  · have hk2 : k = M.length := by have := of_decide_eq_false hc; omega
    subst hk2
    repeat (first
 | (with_reducible first
 | apply CW.seq | apply CW.region | apply CW.block | apply CW.ret | apply CW.skip | apply CW.label | apply CW.exit
 | apply W.nil | apply Fin.seq | apply Fin.then_ret | apply Fin.then_exit | apply Fin.blk_ret | apply Fin.blk_normal | apply Fin.blk_here)
 | (with_reducible first | refine S.move ?_ | refine S.assign ?_ | refine S.pickT ?_ | refine S.pickF ?_ | refine S.lss ?_ | refine S.gtr ?_ | refine S.leq ?_ | refine S.geq ?_ | refine S.eqT ?_ | refine S.neF ?_ | refine S.eql ?_ | refine S.neq ?_ | refine S.add ?_ | refine S.sub ?_ | refine S.mul ?_ | refine S.conv ?_ | refine S.shr1 ?_ | refine S.neg ?_ | refine S.not ?_ | refine S.extract ?_ | refine S.len ?_ | refine S.fld ?_ | refine S.index ?_ | refine S.skp ?_ | refine S.sliceTo ?_ | refine S.sliceFrom ?_ | refine S.eqNil ?_ | refine S.eqbT ?_ | refine S.nebF ?_ | refine S.eqb ?_ | refine S.neb ?_)
 | (with_reducible first | refine S.nc ?_ | refine S.fld ?_ (h1 := fHeapL) | refine S.fld ?_ (h1 := fHeapM) | refine S.fld ?_ (h1 := fQueueH) | refine S.eqP ?_ | refine S.neP ?_ | refine S.quo ?_ | refine S.mkP ?_)
 | ((with_reducible apply CW.cond_true); exact rfl)
 | ((with_reducible apply CW.cond_false); exact rfl)
 | ((with_reducible apply Fin.blk_far); exact rfl))
    (with_reducible apply R.r1); exact rfl; exact rfl
    refine ⟨⟨D1, ?_, ?_, fun p hp => ?_⟩, hx2⟩
    · by_cases hne : M = []
      · subst hne
        have hD1 : D1 = [] := List.eq_nil_of_length_eq_zero hD
        subst hD1
        rcases hN with ⟨e, _⟩ | ⟨g', c', e, h1, h2, h3⟩
        · exact .inl ⟨e, rfl⟩
        · refine .inr ⟨g', c', e, h1, h2, h3.x (hx12 rfl)⟩
      · rw [(hbl hne).1, ← hD]
        exact .inr ⟨g, c5, rfl, by omega, hg5, hb2 hne⟩
    · rw [← hA]
      apply List.ext_getElem?
      intro i
      rw [List.getElem?_map, List.getElem?_map]
      by_cases hi : i < M.length
      · have h1 : D1[i]? = some D1[i] := List.getElem?_eq_getElem (by omega)
        have h2 : M[i]? = some M[i] := List.getElem?_eq_getElem hi
        rw [h1, h2, Option.map_some, Option.map_some, (hlo i _ _ hi h1 h2).2]
      · rw [List.getElem?_eq_none (by omega), List.getElem?_eq_none (by omega)]; rfl
    · obtain ⟨i, hi, rfl⟩ := List.getElem_of_mem hp
      obtain ⟨l2, e1, e2⟩ := (hlo i _ _ (by omega) (List.getElem?_eq_getElem hi) (List.getElem?_eq_getElem (by omega))).1
      exact ⟨l2, e1, e2.low (by omega)⟩


/-! ## spoil -/

/-- A request that can be written, in a block of S. -/
def SpP (w : World) (S : Nat → Prop) (p : PV) : Prop := p.rn ≤ 1000 ∧ (0 < p.rn → ∃ (b : Nat) (cs : List Value), p.rA = some ⟨b, 0, none⟩ ∧ S b ∧ Blk w b 2 cs ∧ p.rn ≤ cs.length ∧ ∀ j, j < p.rn → ∃ x, cs[j]? = some (.int .i64 x))
theorem OwnR.sp {w : World} {B : Nat} {p : PV} (h : OwnR w B p) : SpP w (B ≤ ·) p := by
  obtain ⟨l, h1, h2, h3⟩ := h
  refine ⟨by omega, fun h0 => ?_⟩
  obtain ⟨b, sp, e1, e2, e3⟩ := h3 (by rintro rfl; simp at h2; omega)
  refine ⟨b, _, e1, e2, e3, by simp; omega, fun j hj => ⟨l[j]'(by omega), ?_⟩⟩
  have hjl : j < l.length := by omega
  rw [List.getElem?_append_left (by simpa using hjl), List.getElem?_map, List.getElem?_eq_getElem hjl]
  rfl
theorem SpP.x {w w' : World} {S : Nat → Prop} {p : PV} (h : SpP w S p) (hx : X w w') : SpP w' S p := ⟨h.1, fun h0 => by obtain ⟨b, cs, e1, e2, e3, e4⟩ := h.2 h0; exact ⟨b, cs, e1, e2, e3.x hx, e4⟩⟩
theorem SpP.mono {w : World} {S S' : Nat → Prop} {p : PV} (h : SpP w S p) (hS : ∀ b, b < w.heap.size → S b → S' b) : SpP w S' p := ⟨h.1, fun h0 => by obtain ⟨b, cs, e1, e2, e3, e4⟩ := h.2 h0; exact ⟨b, cs, e1, hS b e3.lt e2, e3, e4⟩⟩
theorem Blk.one {w : World} {b : Nat} {t t' : TypeId} {cs cs' : List Value} (h : Blk w b t cs) (k : Blk w b t' cs') : t = t' := by
  unfold Blk at h k
  rw [h] at k
  injection k with k
  injection k

/-- Only blocks of S have turned. -/
structure SF (S : Nat → Prop) (w w' : World) : Prop where
  os : w'.os = w.os
  tape : w'.tape = w.tape
  output : w'.output = w.output
  size : w.heap.size ≤ w'.heap.size
  block : ∀ k, k < w.heap.size → ¬ S k → w'.heap[k]? = w.heap[k]?
theorem SF.refl (S : Nat → Prop) (w : World) : SF S w w := ⟨rfl, rfl, rfl, Nat.le_refl _, fun _ _ _ => rfl⟩
theorem SF.g {S : Nat → Prop} {a w w' : World} {b : Nat} (h : SF S a w) (hg : w.grownBy w' (some b)) (hb : S b) : SF S a w' :=
  ⟨hg.os.trans h.os, hg.tape.trans h.tape, hg.output.trans h.output, Nat.le_trans h.size hg.size, fun k hk hn => (hg.block k (Nat.lt_of_lt_of_le hk h.size) (by intro e; injection e with e; exact hn (e ▸ hb))).trans (h.block k hk hn)⟩
theorem SF.fo {S O : Nat → Prop} {w w' : World} (h : SF S w w') (hS : ∀ b, S b → ¬ O b) : ∀ k, k < w.heap.size → O k → w'.heap[k]? = w.heap[k]? := fun k hk ho => h.block k hk fun hs => hS k hs ho
theorem SF.below {S : Nat → Prop} {B : Nat} {a w w' : World} (h : SF S w w') (ha : Below B a w) (hB : B ≤ w.heap.size) (hS : ∀ k, S k → B ≤ k) : Below B a w' :=
  ha.trans ⟨h.os, h.tape, h.output, h.size, fun k hk => h.block k (by omega) fun ho => by have := hS k ho; omega⟩

theorem put_set (cs : List Value) {k : Nat} (x : Value) (hk : k < cs.length) : cs.take k ++ [x] ++ cs.drop (k + 1) = cs.set k x := by
  rw [List.set_eq_take_append_cons_drop, if_pos hk]
  simp

set_option maxHeartbeats 1000000 in
theorem spoil_calls (Sb : Nat → Prop) (L : List PV) (A : Option Addr) (g c : Nat) (w : World) (hA : L ≠ [] → A = some ⟨g, 0, none⟩ ∧ BL w g L ∧ Sb g) (hl : L.length ≤ 1000) (hq : ∀ p ∈ L, SpP w Sb p) :
    CallsR Try.prog 33 [.slice A L.length c] w fun _ w' => SF Sb w w' := by
  refine enter1 Try.func33 rfl Try.ntmps33 rfl ?_
  repeat (first
 | (with_reducible first
 | apply CW.seq | apply CW.region | apply CW.block | apply CW.ret | apply CW.skip | apply CW.label | apply CW.exit
 | apply W.nil | apply Fin.seq | apply Fin.then_ret | apply Fin.then_exit | apply Fin.blk_ret | apply Fin.blk_normal | apply Fin.blk_here)
 | (with_reducible first | refine S.move ?_ | refine S.assign ?_ | refine S.pickT ?_ | refine S.pickF ?_ | refine S.lss ?_ | refine S.gtr ?_ | refine S.leq ?_ | refine S.geq ?_ | refine S.eqT ?_ | refine S.neF ?_ | refine S.eql ?_ | refine S.neq ?_ | refine S.add ?_ | refine S.sub ?_ | refine S.mul ?_ | refine S.conv ?_ | refine S.shr1 ?_ | refine S.neg ?_ | refine S.not ?_ | refine S.extract ?_ | refine S.len ?_ | refine S.fld ?_ | refine S.index ?_ | refine S.skp ?_ | refine S.sliceTo ?_ | refine S.sliceFrom ?_ | refine S.eqNil ?_ | refine S.eqbT ?_ | refine S.nebF ?_ | refine S.eqb ?_ | refine S.neb ?_)
 | (with_reducible first | refine S.nc ?_ | refine S.fld ?_ (h1 := fHeapL) | refine S.fld ?_ (h1 := fHeapM) | refine S.fld ?_ (h1 := fQueueH) | refine S.eqP ?_ | refine S.neP ?_ | refine S.quo ?_ | refine S.mkP ?_)
 | ((with_reducible apply CW.cond_true); exact rfl)
 | ((with_reducible apply CW.cond_false); exact rfl)
 | ((with_reducible apply Fin.blk_far); exact rfl))
  refine CW.loop (ι := Nat × List PV) (fun k => [(2, .int .i64 (k.1 : Int)), (0, .slice A L.length c)]) (fun k w' => SF Sb w w' ∧ k.2.length = L.length ∧ (L ≠ [] → BL w' g k.2) ∧ ∀ p ∈ k.2, SpP w' Sb p) (fun k => L.length - k.1) ?_ (0, L) (by repeat (first | exact trivial | refine ⟨congrArg (fun z : Int => some (Value.int .i64 z)) (by omega), ?_⟩ | refine ⟨rfl, ?_⟩)) ⟨SF.refl _ _, rfl, fun hne => (hA hne).2.1, hq⟩
  rintro ⟨i, D1⟩ w1 ⟨hs1, hD, hb1, hq1⟩
  simp only at hD hb1 hq1 ⊢
  repeat (first
 | (with_reducible first
 | apply CW.seq | apply CW.region | apply CW.block | apply CW.ret | apply CW.skip | apply CW.label | apply CW.exit
 | apply W.nil | apply Fin.seq | apply Fin.then_ret | apply Fin.then_exit | apply Fin.blk_ret | apply Fin.blk_normal | apply Fin.blk_here)
 | (with_reducible first | refine S.move ?_ | refine S.assign ?_ | refine S.pickT ?_ | refine S.pickF ?_ | refine S.lss ?_ | refine S.gtr ?_ | refine S.leq ?_ | refine S.geq ?_ | refine S.eqT ?_ | refine S.neF ?_ | refine S.eql ?_ | refine S.neq ?_ | refine S.add ?_ | refine S.sub ?_ | refine S.mul ?_ | refine S.conv ?_ | refine S.shr1 ?_ | refine S.neg ?_ | refine S.not ?_ | refine S.extract ?_ | refine S.len ?_ | refine S.fld ?_ | refine S.index ?_ | refine S.skp ?_ | refine S.sliceTo ?_ | refine S.sliceFrom ?_ | refine S.eqNil ?_ | refine S.eqbT ?_ | refine S.nebF ?_ | refine S.eqb ?_ | refine S.neb ?_)
 | (with_reducible first | refine S.nc ?_ | refine S.fld ?_ (h1 := fHeapL) | refine S.fld ?_ (h1 := fHeapM) | refine S.fld ?_ (h1 := fQueueH) | refine S.eqP ?_ | refine S.neP ?_ | refine S.quo ?_ | refine S.mkP ?_)
 | ((with_reducible apply CW.cond_true); exact rfl)
 | ((with_reducible apply CW.cond_false); exact rfl)
 | ((with_reducible apply Fin.blk_far); exact rfl))
  refine CW.cond (by rfl) (fun hc => ?_) (fun hc => ?_)
  · have hi : i < L.length := by have := of_decide_eq_true hc; omega
    clear hc
    have hne : L ≠ [] := by rintro rfl; simp at hi
    obtain ⟨rfl, _, hSg⟩ := hA hne
    have hB1 := hb1 hne
    have hiD : i < D1.length := by omega
    have hp : D1[i]? = some D1[i] := List.getElem?_eq_getElem hiD
    repeat (first
 | (with_reducible first
 | apply CW.seq | apply CW.region | apply CW.block | apply CW.ret | apply CW.skip | apply CW.label | apply CW.exit
 | apply W.nil | apply Fin.seq | apply Fin.then_ret | apply Fin.then_exit | apply Fin.blk_ret | apply Fin.blk_normal | apply Fin.blk_here)
 | (with_reducible first | refine S.move ?_ | refine S.assign ?_ | refine S.pickT ?_ | refine S.pickF ?_ | refine S.lss ?_ | refine S.gtr ?_ | refine S.leq ?_ | refine S.geq ?_ | refine S.eqT ?_ | refine S.neF ?_ | refine S.eql ?_ | refine S.neq ?_ | refine S.add ?_ | refine S.sub ?_ | refine S.mul ?_ | refine S.conv ?_ | refine S.shr1 ?_ | refine S.neg ?_ | refine S.not ?_ | refine S.extract ?_ | refine S.len ?_ | refine S.fld ?_ | refine S.index ?_ | refine S.skp ?_ | refine S.sliceTo ?_ | refine S.sliceFrom ?_ | refine S.eqNil ?_ | refine S.eqbT ?_ | refine S.nebF ?_ | refine S.eqb ?_ | refine S.neb ?_)
 | (with_reducible first | refine S.nc ?_ | refine S.fld ?_ (h1 := fHeapL) | refine S.fld ?_ (h1 := fHeapM) | refine S.fld ?_ (h1 := fQueueH) | refine S.eqP ?_ | refine S.neP ?_ | refine S.quo ?_ | refine S.mkP ?_)
 | ((with_reducible apply CW.cond_true); exact rfl)
 | ((with_reducible apply CW.cond_false); exact rfl)
 | ((with_reducible apply Fin.blk_far); exact rfl))
    ((with_reducible apply S.ld); exact rfl; (with_reducible first | exact oneInt | exact oneI64s | exact oneBool | exact oneI64 | exact onePods | exact oneMap); (exact hB1.cell hp rfl); exact rfl; exact rfl)
    refine W.pure (d := some 15) (op_addw (by rfl) (by rfl)) (by rfl) (by rfl) ?_
    repeat (first
 | (with_reducible first
 | apply CW.seq | apply CW.region | apply CW.block | apply CW.ret | apply CW.skip | apply CW.label | apply CW.exit
 | apply W.nil | apply Fin.seq | apply Fin.then_ret | apply Fin.then_exit | apply Fin.blk_ret | apply Fin.blk_normal | apply Fin.blk_here)
 | (with_reducible first | refine S.move ?_ | refine S.assign ?_ | refine S.pickT ?_ | refine S.pickF ?_ | refine S.lss ?_ | refine S.gtr ?_ | refine S.leq ?_ | refine S.geq ?_ | refine S.eqT ?_ | refine S.neF ?_ | refine S.eql ?_ | refine S.neq ?_ | refine S.add ?_ | refine S.sub ?_ | refine S.mul ?_ | refine S.conv ?_ | refine S.shr1 ?_ | refine S.neg ?_ | refine S.not ?_ | refine S.extract ?_ | refine S.len ?_ | refine S.fld ?_ | refine S.index ?_ | refine S.skp ?_ | refine S.sliceTo ?_ | refine S.sliceFrom ?_ | refine S.eqNil ?_ | refine S.eqbT ?_ | refine S.nebF ?_ | refine S.eqb ?_ | refine S.neb ?_)
 | (with_reducible first | refine S.nc ?_ | refine S.fld ?_ (h1 := fHeapL) | refine S.fld ?_ (h1 := fHeapM) | refine S.fld ?_ (h1 := fQueueH) | refine S.eqP ?_ | refine S.neP ?_ | refine S.quo ?_ | refine S.mkP ?_)
 | ((with_reducible apply CW.cond_true); exact rfl)
 | ((with_reducible apply CW.cond_false); exact rfl)
 | ((with_reducible apply Fin.blk_far); exact rfl))
    refine S.stF (p := { D1[i] with id := wrap64 (D1[i].id + 1) }) (by rfl) (by rfl) hB1 hiD (by omega) rfl rfl rfl szInt (by rfl) fun w2 hg2 hB2 => ?_
    have hs2 := hs1.g hg2 hSg
    have hq2 : ∀ p ∈ D1.set i { D1[i] with id := wrap64 (D1[i].id + 1) }, SpP w2 Sb p := by
      have hk : ∀ p ∈ D1, SpP w2 Sb p := fun p hp => ⟨(hq1 p hp).1, fun h0 => by
        obtain ⟨b, cs, e1, e2, e3, e4⟩ := (hq1 p hp).2 h0
        refine ⟨b, cs, e1, e2, (show G g w1 w2 from hg2).blk e3 ?_, e4⟩
        rintro rfl
        obtain ⟨sp', hB⟩ := hB1
        have := hB.one e3
        exact absurd this (by decide)⟩
      intro p hp
      rcases List.mem_or_eq_of_mem_set hp with h | h
      · exact hk p h
      · rw [h]
        exact hk D1[i] (List.getElem_mem hiD)
    have hD2 : (D1.set i { D1[i] with id := wrap64 (D1[i].id + 1) }).length = L.length := by simp only [List.length_set]; exact hD
    generalize D1.set i { D1[i] with id := wrap64 (D1[i].id + 1) } = D2 at *
    have hiD2 : i < D2.length := by omega
    have hp2 : D2[i]? = some D2[i] := List.getElem?_eq_getElem hiD2
    have hqi : ∀ w', (∀ p ∈ D2, SpP w' Sb p) → SpP w' Sb D2[i] := fun w' h => h _ (List.getElem_mem hiD2)
    generalize D2[i] = q at *
    clear hp hq1 hb1 hB1 hg2
    repeat (first
 | (with_reducible first
 | apply CW.seq | apply CW.region | apply CW.block | apply CW.ret | apply CW.skip | apply CW.label | apply CW.exit
 | apply W.nil | apply Fin.seq | apply Fin.then_ret | apply Fin.then_exit | apply Fin.blk_ret | apply Fin.blk_normal | apply Fin.blk_here)
 | (with_reducible first | refine S.move ?_ | refine S.assign ?_ | refine S.pickT ?_ | refine S.pickF ?_ | refine S.lss ?_ | refine S.gtr ?_ | refine S.leq ?_ | refine S.geq ?_ | refine S.eqT ?_ | refine S.neF ?_ | refine S.eql ?_ | refine S.neq ?_ | refine S.add ?_ | refine S.sub ?_ | refine S.mul ?_ | refine S.conv ?_ | refine S.shr1 ?_ | refine S.neg ?_ | refine S.not ?_ | refine S.extract ?_ | refine S.len ?_ | refine S.fld ?_ | refine S.index ?_ | refine S.skp ?_ | refine S.sliceTo ?_ | refine S.sliceFrom ?_ | refine S.eqNil ?_ | refine S.eqbT ?_ | refine S.nebF ?_ | refine S.eqb ?_ | refine S.neb ?_)
 | (with_reducible first | refine S.nc ?_ | refine S.fld ?_ (h1 := fHeapL) | refine S.fld ?_ (h1 := fHeapM) | refine S.fld ?_ (h1 := fQueueH) | refine S.eqP ?_ | refine S.neP ?_ | refine S.quo ?_ | refine S.mkP ?_)
 | ((with_reducible apply CW.cond_true); exact rfl)
 | ((with_reducible apply CW.cond_false); exact rfl)
 | ((with_reducible apply Fin.blk_far); exact rfl))
    refine CW.loop (ι := Nat) (fun j => [(3, .int .i64 (j : Int)), (2, .int .i64 (i : Int)), (0, .slice (some ⟨g, 0, none⟩) L.length c)]) (fun j w' => SF Sb w w' ∧ BL w' g D2 ∧ ∀ p ∈ D2, SpP w' Sb p) (fun j => q.rn - j) ?_ 0 (by repeat (first | exact trivial | refine ⟨congrArg (fun z : Int => some (Value.int .i64 z)) (by omega), ?_⟩ | refine ⟨rfl, ?_⟩)) ⟨hs2, hB2, hq2⟩
    rintro j w3 ⟨hs3, hB3, hq3⟩
    have hqn := (hqi w3 hq3).1
    repeat (first
 | (with_reducible first
 | apply CW.seq | apply CW.region | apply CW.block | apply CW.ret | apply CW.skip | apply CW.label | apply CW.exit
 | apply W.nil | apply Fin.seq | apply Fin.then_ret | apply Fin.then_exit | apply Fin.blk_ret | apply Fin.blk_normal | apply Fin.blk_here)
 | (with_reducible first | refine S.move ?_ | refine S.assign ?_ | refine S.pickT ?_ | refine S.pickF ?_ | refine S.lss ?_ | refine S.gtr ?_ | refine S.leq ?_ | refine S.geq ?_ | refine S.eqT ?_ | refine S.neF ?_ | refine S.eql ?_ | refine S.neq ?_ | refine S.add ?_ | refine S.sub ?_ | refine S.mul ?_ | refine S.conv ?_ | refine S.shr1 ?_ | refine S.neg ?_ | refine S.not ?_ | refine S.extract ?_ | refine S.len ?_ | refine S.fld ?_ | refine S.index ?_ | refine S.skp ?_ | refine S.sliceTo ?_ | refine S.sliceFrom ?_ | refine S.eqNil ?_ | refine S.eqbT ?_ | refine S.nebF ?_ | refine S.eqb ?_ | refine S.neb ?_)
 | (with_reducible first | refine S.nc ?_ | refine S.fld ?_ (h1 := fHeapL) | refine S.fld ?_ (h1 := fHeapM) | refine S.fld ?_ (h1 := fQueueH) | refine S.eqP ?_ | refine S.neP ?_ | refine S.quo ?_ | refine S.mkP ?_)
 | ((with_reducible apply CW.cond_true); exact rfl)
 | ((with_reducible apply CW.cond_false); exact rfl)
 | ((with_reducible apply Fin.blk_far); exact rfl))
    ((with_reducible apply S.ld); exact rfl; (with_reducible first | exact oneInt | exact oneI64s | exact oneBool | exact oneI64 | exact onePods | exact oneMap); (exact hB3.cell hp2 rfl); exact rfl; exact rfl)
    repeat (first
 | (with_reducible first
 | apply CW.seq | apply CW.region | apply CW.block | apply CW.ret | apply CW.skip | apply CW.label | apply CW.exit
 | apply W.nil | apply Fin.seq | apply Fin.then_ret | apply Fin.then_exit | apply Fin.blk_ret | apply Fin.blk_normal | apply Fin.blk_here)
 | (with_reducible first | refine S.move ?_ | refine S.assign ?_ | refine S.pickT ?_ | refine S.pickF ?_ | refine S.lss ?_ | refine S.gtr ?_ | refine S.leq ?_ | refine S.geq ?_ | refine S.eqT ?_ | refine S.neF ?_ | refine S.eql ?_ | refine S.neq ?_ | refine S.add ?_ | refine S.sub ?_ | refine S.mul ?_ | refine S.conv ?_ | refine S.shr1 ?_ | refine S.neg ?_ | refine S.not ?_ | refine S.extract ?_ | refine S.len ?_ | refine S.fld ?_ | refine S.index ?_ | refine S.skp ?_ | refine S.sliceTo ?_ | refine S.sliceFrom ?_ | refine S.eqNil ?_ | refine S.eqbT ?_ | refine S.nebF ?_ | refine S.eqb ?_ | refine S.neb ?_)
 | (with_reducible first | refine S.nc ?_ | refine S.fld ?_ (h1 := fHeapL) | refine S.fld ?_ (h1 := fHeapM) | refine S.fld ?_ (h1 := fQueueH) | refine S.eqP ?_ | refine S.neP ?_ | refine S.quo ?_ | refine S.mkP ?_)
 | ((with_reducible apply CW.cond_true); exact rfl)
 | ((with_reducible apply CW.cond_false); exact rfl)
 | ((with_reducible apply Fin.blk_far); exact rfl))
    refine CW.cond (by rfl) (fun hc => ?_) (fun hc => ?_)
    · have hj : j < q.rn := by have := of_decide_eq_true hc; omega
      clear hc
      obtain ⟨b, cs, e1, e2, e3, e4, e5⟩ := (hqi w3 hq3).2 (by omega)
      have hjl : j < cs.length := by omega
      obtain ⟨x, hx⟩ := e5 j hj
      repeat (first
 | (with_reducible first
 | apply CW.seq | apply CW.region | apply CW.block | apply CW.ret | apply CW.skip | apply CW.label | apply CW.exit
 | apply W.nil | apply Fin.seq | apply Fin.then_ret | apply Fin.then_exit | apply Fin.blk_ret | apply Fin.blk_normal | apply Fin.blk_here)
 | (with_reducible first | refine S.move ?_ | refine S.assign ?_ | refine S.pickT ?_ | refine S.pickF ?_ | refine S.lss ?_ | refine S.gtr ?_ | refine S.leq ?_ | refine S.geq ?_ | refine S.eqT ?_ | refine S.neF ?_ | refine S.eql ?_ | refine S.neq ?_ | refine S.add ?_ | refine S.sub ?_ | refine S.mul ?_ | refine S.conv ?_ | refine S.shr1 ?_ | refine S.neg ?_ | refine S.not ?_ | refine S.extract ?_ | refine S.len ?_ | refine S.fld ?_ | refine S.index ?_ | refine S.skp ?_ | refine S.sliceTo ?_ | refine S.sliceFrom ?_ | refine S.eqNil ?_ | refine S.eqbT ?_ | refine S.nebF ?_ | refine S.eqb ?_ | refine S.neb ?_)
 | (with_reducible first | refine S.nc ?_ | refine S.fld ?_ (h1 := fHeapL) | refine S.fld ?_ (h1 := fHeapM) | refine S.fld ?_ (h1 := fQueueH) | refine S.eqP ?_ | refine S.neP ?_ | refine S.quo ?_ | refine S.mkP ?_)
 | ((with_reducible apply CW.cond_true); exact rfl)
 | ((with_reducible apply CW.cond_false); exact rfl)
 | ((with_reducible apply Fin.blk_far); exact rfl))
      ((with_reducible apply S.ld); exact rfl; (with_reducible first | exact oneInt | exact oneI64s | exact oneBool | exact oneI64 | exact onePods | exact oneMap); (exact hB3.cell hp2 rfl); exact rfl; exact rfl)
      simp only [e1]
      have hcell : w3.cell? ⟨b, 0 + j * 1, none⟩ = some (.int .i64 x) := by
        rw [Nat.zero_add, Nat.mul_one]
        exact e3.cell hx
      repeat (first
 | (with_reducible first
 | apply CW.seq | apply CW.region | apply CW.block | apply CW.ret | apply CW.skip | apply CW.label | apply CW.exit
 | apply W.nil | apply Fin.seq | apply Fin.then_ret | apply Fin.then_exit | apply Fin.blk_ret | apply Fin.blk_normal | apply Fin.blk_here)
 | (with_reducible first | refine S.move ?_ | refine S.assign ?_ | refine S.pickT ?_ | refine S.pickF ?_ | refine S.lss ?_ | refine S.gtr ?_ | refine S.leq ?_ | refine S.geq ?_ | refine S.eqT ?_ | refine S.neF ?_ | refine S.eql ?_ | refine S.neq ?_ | refine S.add ?_ | refine S.sub ?_ | refine S.mul ?_ | refine S.conv ?_ | refine S.shr1 ?_ | refine S.neg ?_ | refine S.not ?_ | refine S.extract ?_ | refine S.len ?_ | refine S.fld ?_ | refine S.index ?_ | refine S.skp ?_ | refine S.sliceTo ?_ | refine S.sliceFrom ?_ | refine S.eqNil ?_ | refine S.eqbT ?_ | refine S.nebF ?_ | refine S.eqb ?_ | refine S.neb ?_)
 | (with_reducible first | refine S.nc ?_ | refine S.fld ?_ (h1 := fHeapL) | refine S.fld ?_ (h1 := fHeapM) | refine S.fld ?_ (h1 := fQueueH) | refine S.eqP ?_ | refine S.neP ?_ | refine S.quo ?_ | refine S.mkP ?_)
 | ((with_reducible apply CW.cond_true); exact rfl)
 | ((with_reducible apply CW.cond_false); exact rfl)
 | ((with_reducible apply Fin.blk_far); exact rfl))
      ((with_reducible apply S.ld); exact rfl; (with_reducible first | exact oneInt | exact oneI64s | exact oneBool | exact oneI64 | exact onePods | exact oneMap); (exact hcell); exact rfl; exact rfl)
      refine W.pure (d := some 36) (op_addw (by rfl) (by rfl)) (by rfl) (by rfl) ?_
      repeat (first
 | (with_reducible first
 | apply CW.seq | apply CW.region | apply CW.block | apply CW.ret | apply CW.skip | apply CW.label | apply CW.exit
 | apply W.nil | apply Fin.seq | apply Fin.then_ret | apply Fin.then_exit | apply Fin.blk_ret | apply Fin.blk_normal | apply Fin.blk_here)
 | (with_reducible first | refine S.move ?_ | refine S.assign ?_ | refine S.pickT ?_ | refine S.pickF ?_ | refine S.lss ?_ | refine S.gtr ?_ | refine S.leq ?_ | refine S.geq ?_ | refine S.eqT ?_ | refine S.neF ?_ | refine S.eql ?_ | refine S.neq ?_ | refine S.add ?_ | refine S.sub ?_ | refine S.mul ?_ | refine S.conv ?_ | refine S.shr1 ?_ | refine S.neg ?_ | refine S.not ?_ | refine S.extract ?_ | refine S.len ?_ | refine S.fld ?_ | refine S.index ?_ | refine S.skp ?_ | refine S.sliceTo ?_ | refine S.sliceFrom ?_ | refine S.eqNil ?_ | refine S.eqbT ?_ | refine S.nebF ?_ | refine S.eqb ?_ | refine S.neb ?_)
 | (with_reducible first | refine S.nc ?_ | refine S.fld ?_ (h1 := fHeapL) | refine S.fld ?_ (h1 := fHeapM) | refine S.fld ?_ (h1 := fQueueH) | refine S.eqP ?_ | refine S.neP ?_ | refine S.quo ?_ | refine S.mkP ?_)
 | ((with_reducible apply CW.cond_true); exact rfl)
 | ((with_reducible apply CW.cond_false); exact rfl)
 | ((with_reducible apply Fin.blk_far); exact rfl))
      refine S.stC (o := 0 + j * 1) (by rfl) (by rfl) e3 (by simp; omega) rfl rfl szI64 (by rfl) fun w4 hg4 hB4 => ?_
      rw [Nat.zero_add, Nat.mul_one, put_set cs _ hjl] at hB4
      have hs4 := hs3.g hg4 e2
      obtain ⟨spg, hBg⟩ := hB3
      have hgb : g ≠ b := by
        rintro rfl
        have := hBg.one e3
        exact absurd this (by decide)
      have hq4 : ∀ p ∈ D2, SpP w4 Sb p := fun p hp => ⟨(hq3 p hp).1, fun h0 => by
        obtain ⟨b', cs', f1, f2, f3, f4, f5⟩ := (hq3 p hp).2 h0
        by_cases hbb : b' = b
        · subst hbb
          have hcs : cs' = cs := by
            have f6 := f3
            unfold Blk at f6 e3
            rw [f6] at e3
            injection e3 with e3
            injection e3 with e3
            simpa using e3
          subst hcs
          refine ⟨b', _, f1, f2, hB4, by rw [List.length_set]; exact f4, fun k hk => ?_⟩
          rw [List.getElem?_set]
          by_cases hjk : j = k
          · rw [if_pos hjk, if_pos hjl]
            exact ⟨_, rfl⟩
          · rw [if_neg hjk]
            exact f5 k hk
        · exact ⟨b', cs', f1, f2, hg4.blk f3 hbb, f4, f5⟩⟩
      repeat (first
 | (with_reducible first
 | apply CW.seq | apply CW.region | apply CW.block | apply CW.ret | apply CW.skip | apply CW.label | apply CW.exit
 | apply W.nil | apply Fin.seq | apply Fin.then_ret | apply Fin.then_exit | apply Fin.blk_ret | apply Fin.blk_normal | apply Fin.blk_here)
 | (with_reducible first | refine S.move ?_ | refine S.assign ?_ | refine S.pickT ?_ | refine S.pickF ?_ | refine S.lss ?_ | refine S.gtr ?_ | refine S.leq ?_ | refine S.geq ?_ | refine S.eqT ?_ | refine S.neF ?_ | refine S.eql ?_ | refine S.neq ?_ | refine S.add ?_ | refine S.sub ?_ | refine S.mul ?_ | refine S.conv ?_ | refine S.shr1 ?_ | refine S.neg ?_ | refine S.not ?_ | refine S.extract ?_ | refine S.len ?_ | refine S.fld ?_ | refine S.index ?_ | refine S.skp ?_ | refine S.sliceTo ?_ | refine S.sliceFrom ?_ | refine S.eqNil ?_ | refine S.eqbT ?_ | refine S.nebF ?_ | refine S.eqb ?_ | refine S.neb ?_)
 | (with_reducible first | refine S.nc ?_ | refine S.fld ?_ (h1 := fHeapL) | refine S.fld ?_ (h1 := fHeapM) | refine S.fld ?_ (h1 := fQueueH) | refine S.eqP ?_ | refine S.neP ?_ | refine S.quo ?_ | refine S.mkP ?_)
 | ((with_reducible apply CW.cond_true); exact rfl)
 | ((with_reducible apply CW.cond_false); exact rfl)
 | ((with_reducible apply Fin.blk_far); exact rfl))
      refine Fin.round (j + 1) (by omega) (by repeat (first | exact trivial | refine ⟨congrArg (fun z : Int => some (Value.int .i64 z)) (by omega), ?_⟩ | refine ⟨rfl, ?_⟩)) ⟨hs4, ⟨spg, hg4.blk hBg hgb⟩, hq4⟩
    · repeat (first
 | (with_reducible first
 | apply CW.seq | apply CW.region | apply CW.block | apply CW.ret | apply CW.skip | apply CW.label | apply CW.exit
 | apply W.nil | apply Fin.seq | apply Fin.then_ret | apply Fin.then_exit | apply Fin.blk_ret | apply Fin.blk_normal | apply Fin.blk_here)
 | (with_reducible first | refine S.move ?_ | refine S.assign ?_ | refine S.pickT ?_ | refine S.pickF ?_ | refine S.lss ?_ | refine S.gtr ?_ | refine S.leq ?_ | refine S.geq ?_ | refine S.eqT ?_ | refine S.neF ?_ | refine S.eql ?_ | refine S.neq ?_ | refine S.add ?_ | refine S.sub ?_ | refine S.mul ?_ | refine S.conv ?_ | refine S.shr1 ?_ | refine S.neg ?_ | refine S.not ?_ | refine S.extract ?_ | refine S.len ?_ | refine S.fld ?_ | refine S.index ?_ | refine S.skp ?_ | refine S.sliceTo ?_ | refine S.sliceFrom ?_ | refine S.eqNil ?_ | refine S.eqbT ?_ | refine S.nebF ?_ | refine S.eqb ?_ | refine S.neb ?_)
 | (with_reducible first | refine S.nc ?_ | refine S.fld ?_ (h1 := fHeapL) | refine S.fld ?_ (h1 := fHeapM) | refine S.fld ?_ (h1 := fQueueH) | refine S.eqP ?_ | refine S.neP ?_ | refine S.quo ?_ | refine S.mkP ?_)
 | ((with_reducible apply CW.cond_true); exact rfl)
 | ((with_reducible apply CW.cond_false); exact rfl)
 | ((with_reducible apply Fin.blk_far); exact rfl))
      refine Fin.round (i + 1, D2) (by simp only; omega) (by repeat (first | exact trivial | refine ⟨congrArg (fun z : Int => some (Value.int .i64 z)) (by omega), ?_⟩ | refine ⟨rfl, ?_⟩)) ⟨hs3, hD2, fun _ => hB3, hq3⟩
  · repeat (first
 | (with_reducible first
 | apply CW.seq | apply CW.region | apply CW.block | apply CW.ret | apply CW.skip | apply CW.label | apply CW.exit
 | apply W.nil | apply Fin.seq | apply Fin.then_ret | apply Fin.then_exit | apply Fin.blk_ret | apply Fin.blk_normal | apply Fin.blk_here)
 | (with_reducible first | refine S.move ?_ | refine S.assign ?_ | refine S.pickT ?_ | refine S.pickF ?_ | refine S.lss ?_ | refine S.gtr ?_ | refine S.leq ?_ | refine S.geq ?_ | refine S.eqT ?_ | refine S.neF ?_ | refine S.eql ?_ | refine S.neq ?_ | refine S.add ?_ | refine S.sub ?_ | refine S.mul ?_ | refine S.conv ?_ | refine S.shr1 ?_ | refine S.neg ?_ | refine S.not ?_ | refine S.extract ?_ | refine S.len ?_ | refine S.fld ?_ | refine S.index ?_ | refine S.skp ?_ | refine S.sliceTo ?_ | refine S.sliceFrom ?_ | refine S.eqNil ?_ | refine S.eqbT ?_ | refine S.nebF ?_ | refine S.eqb ?_ | refine S.neb ?_)
 | (with_reducible first | refine S.nc ?_ | refine S.fld ?_ (h1 := fHeapL) | refine S.fld ?_ (h1 := fHeapM) | refine S.fld ?_ (h1 := fQueueH) | refine S.eqP ?_ | refine S.neP ?_ | refine S.quo ?_ | refine S.mkP ?_)
 | ((with_reducible apply CW.cond_true); exact rfl)
 | ((with_reducible apply CW.cond_false); exact rfl)
 | ((with_reducible apply Fin.blk_far); exact rfl))
    (with_reducible first | apply R.r0 | apply R.e0); exact rfl
    exact hs1

end Go.Proofs.Ytmilpjkjcanghaa

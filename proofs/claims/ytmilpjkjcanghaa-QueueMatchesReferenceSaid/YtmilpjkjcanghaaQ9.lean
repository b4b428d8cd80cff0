/- The queue's methods: Push. -/
import Derived.Test.YtmilpjkjcanghaaQ8
namespace Go.Proofs.Ytmilpjkjcanghaa
open Go.RowKit
set_option linter.unusedVariables false
set_option linter.unusedSimpArgs false

theorem FO.psk {O O' : Nat → Prop} {w w' : World} {v : Value} {L : List PV} (h : FO O O' w w') (hp : PSK w (fun b => ¬ O b) v L) : PSK w' (fun b => ¬ O' b) v L :=
  (hp.lt.keep fun k hk hK => h.block k hk hK.1).mono fun b _ hb ho => hb.1 (h.own b hb.2 ho)
theorem FO.rk {O O' : Nat → Prop} {w w' : World} {p : PV} (h : FO O O' w w') (hp : RK w (fun b => ¬ O b) p) : RK w' (fun b => ¬ O' b) p ∧ ab w' p = ab w p :=
  ⟨((hp.lt.keep fun k hk hK => h.block k hk hK.1).1).mono fun b _ hb ho => hb.1 (h.own b hb.2 ho), (hp.keep fun k hk hK => h.block k hk hK).2⟩

theorem QI.push {w0 w1 w2 : World} {B b0 bm : Nat} {v v' : Value} {Ds Es : List PV} {m m' : Int → Option Int} {O : Nat → Prop} {p : PV} (hI : QI w0 B b0 bm v Ds m O) (hx : X w0 w1) (hp : RK w1 (fun b => w0.heap.size ≤ b) p)
    (h3 : QS w2 B b0 bm v' Es m') (hf : QF b0 bm v w1 w2) (hv : v'.ownBlock = v.ownBlock ∨ ∀ i, v'.ownBlock = some i → w1.heap.size ≤ i) (hP : POk Es m') (hH : Heap Es.length Es) (hl : Es.length = Ds.length + 1) (hm : ∀ x, x ∈ Es ↔ x ∈ Ds ++ [p]) (hn : m p.id = none) :
    QI w2 B b0 bm v' Es m' (fun b => O b ∨ (w0.heap.size ≤ b ∧ b < w2.heap.size)) ∧ FO O (fun b => O b ∨ (w0.heap.size ≤ b ∧ b < w2.heap.size)) w0 w2 ∧ QV w2 Es = insA (ab w1 p) (QV w0 Ds) := by
  have hI1 := hI.x hx
  have hb0 := (hI.lo b0 hI.o0).2
  have hbm := (hI.lo bm hI.om).2
  have hown : ∀ i, v.ownBlock = some i → i < w0.heap.size := fun i hi => (hI.lo i (hI.ov i hi)).2
  have hsz := hx.le
  have hsz2 := hf.size
  have k1 : ∀ k, k < w1.heap.size → (O k ∧ k ≠ b0 ∧ k ≠ bm ∧ v.ownBlock ≠ some k) → w2.heap[k]? = w1.heap[k]? := fun k hk hK => hf.block k hk hK.2.1 hK.2.2.1 hK.2.2.2
  have k2 : ∀ k, k < w1.heap.size → w0.heap.size ≤ k → w2.heap[k]? = w1.heap[k]? := fun k hk hK => hf.block k hk (by omega) (by omega) fun e => by have := hown k e; omega
  refine ⟨⟨h3, hP, hH, .inl hI.o0, .inl hI.om, fun i hi => ?_, fun x hx' => ?_, fun b hb => ?_⟩, ⟨hf.os.trans hx.os, hf.tape.trans hx.tape, hf.output.trans hx.output, by omega, fun k hk hn => ?_, fun k hk hK => ?_⟩, ?_⟩
  · have hlt := (h3.own.lt i hi).2
    rcases hv with e | e
    · exact .inl (hI.ov i (e ▸ hi))
    · have := e i hi
      exact .inr ⟨by omega, hlt⟩
  · rcases List.mem_append.1 ((hm x).1 hx') with hd | hd
    · refine (((hI1.rq x hd).lt.keep fun k hk hK => k1 k hk hK.1).1).mono fun b _ hb => ⟨.inl hb.1.1, hb.1.2.1, hb.1.2.2.1, fun e => ?_⟩
      rcases hv with e2 | e2
      · exact hb.1.2.2.2 (e2 ▸ e)
      · have := e2 b e
        omega
    · rw [List.mem_singleton.1 hd]
      refine ((hp.lt.keep fun k hk hK => k2 k hk hK.1).1).mono fun b hb2 hb => ⟨.inr ⟨hb.1, hb2⟩, by omega, by omega, fun e => ?_⟩
      rcases hv with e2 | e2
      · have := hown b (e2 ▸ e); omega
      · have := e2 b e
        omega
  · rcases hb with hb | hb
    · have := hI.lo b hb
      exact ⟨this.1, by omega⟩
    · have := (hI.lo b0 hI.o0).1
      exact ⟨by omega, hb.2⟩
  · refine (hf.block k (by omega) ?_ ?_ ?_).trans (hx.block k hk)
    · rintro rfl; exact hn hI.o0
    · rintro rfl; exact hn hI.om
    · intro e; exact hn (hI.ov k e)
  · rcases hK with h | h
    · exact h
    · omega
  · rw [QV_push hI.pok hP hn hl hm, (hp.keep k2).2, QV_keep (K := fun _ k => O k ∧ k ≠ b0 ∧ k ≠ bm ∧ v.ownBlock ≠ some k) hI1.rq (fun _ _ k hk hK => k1 k hk hK), QV_keep (w := w0) hI.rq fun _ _ k hk _ => hx.block k hk]

def pushAll (A N : List AP) : List AP := N.foldl pushA A
theorem insA_len (x : AP) (A : List AP) : (insA x A).length = A.length + 1 := by
  have : ∀ k, posA x.1 A k ≤ k := fun k => by
    induction k with
    | zero => exact Nat.le_refl _
    | succ k ih => unfold posA; split <;> omega
  have := this A.length
  unfold insA
  simp only [List.length_append, List.length_take, List.length_cons, List.length_drop]
  omega
theorem pushA_len (A : List AP) (x : AP) : A.length ≤ (pushA A x).length ∧ (pushA A x).length ≤ A.length + 1 := by
  unfold pushA
  split
  · omega
  · rw [insA_len]; omega
theorem pushAll_len (N A : List AP) : A.length ≤ (pushAll A N).length ∧ (pushAll A N).length ≤ A.length + N.length := by
  unfold pushAll
  induction N generalizing A with
  | nil => simp
  | cons x N ih =>
    have h1 := pushA_len A x
    have h2 := ih (pushA A x)
    simp only [List.foldl_cons, List.length_cons]
    omega
theorem pushAll_step {L : List PV} (w : World) (A : List AP) {k : Nat} (hk : k < L.length) : pushAll A ((L.take (k + 1)).map (ab w)) = pushA (pushAll A ((L.take k).map (ab w))) (ab w L[k]) := by
  unfold pushAll
  rw [List.take_succ_eq_append_getElem hk, List.map_append, List.foldl_append]
  rfl

theorem ab_with {w w' : World} {p : PV} {l : List Int} {A' : Option Addr} {c' : Nat} {K : Nat → Prop} {B : Nat} (h : ISK w K p.rA p.rn l) (hR : RqB w' B A' p.rn l) : ab w' (p.with A' p.rn c') = ab w p := by
  unfold ab
  rw [h.read]
  have := hR.isk.read
  simp only [PV.with]
  rw [this]
  rfl
theorem RqB.rk {w : World} {p : PV} {l : List Int} {A' : Option Addr} {c' B : Nat} (hR : RqB w B A' p.rn l) (hl : l.length ≤ 1000) : RK w (B ≤ ·) (p.with A' p.rn c') := ⟨l, hl, hR.isk⟩

set_option maxHeartbeats 1000000 in
theorem qPush_calls (B b0 : Nat) (O : Nat → Prop) (A : List AP) (l : Value) (L : List PV) (w : World) (h : QA w B b0 O A) (hl : PSK w (fun b => ¬ O b) l L) (hq : ∀ i p, L[i]? = some p → RK w (fun b => i = 0 ∨ ¬ O b) p) (hn : A.length + L.length ≤ 999) :
    CallsR Try.prog 30 [.pointer (some ⟨b0, 0, none⟩), l] w fun u w' => u = .int .i64 (((pushAll A (L.map (ab w))).length : Int) - A.length) ∧ ∃ O', QA w' B b0 O' (pushAll A (L.map (ab w))) ∧ FO O O' w w' := by
  obtain ⟨Ad, c, rfl, hc, _⟩ := hl.ps.open_
  refine enter2 Try.func30 rfl Try.ntmps30 rfl ?_
  repeat (first
 | (with_reducible first
 | apply CW.seq | apply CW.region | apply CW.block | apply CW.ret | apply CW.skip | apply CW.label | apply CW.exit
 | apply W.nil | apply Fin.seq | apply Fin.then_ret | apply Fin.then_exit | apply Fin.blk_ret | apply Fin.blk_normal | apply Fin.blk_here)
 | (with_reducible first | refine S.move ?_ | refine S.assign ?_ | refine S.pickT ?_ | refine S.pickF ?_ | refine S.lss ?_ | refine S.gtr ?_ | refine S.leq ?_ | refine S.geq ?_ | refine S.eqT ?_ | refine S.neF ?_ | refine S.eql ?_ | refine S.neq ?_ | refine S.add ?_ | refine S.sub ?_ | refine S.mul ?_ | refine S.conv ?_ | refine S.shr1 ?_ | refine S.neg ?_ | refine S.not ?_ | refine S.extract ?_ | refine S.len ?_ | refine S.fld ?_ | refine S.index ?_ | refine S.skp ?_ | refine S.sliceTo ?_ | refine S.sliceFrom ?_ | refine S.eqNil ?_ | refine S.eqbT ?_ | refine S.nebF ?_ | refine S.eqb ?_ | refine S.neb ?_)
 | (with_reducible first | refine S.nc ?_ | refine S.fld ?_ (h1 := fHeapL) | refine S.fld ?_ (h1 := fHeapM) | refine S.fld ?_ (h1 := fQueueH) | refine S.eqP ?_ | refine S.neP ?_ | refine S.quo ?_ | refine S.mkP ?_)
 | ((with_reducible apply CW.cond_true); exact rfl)
 | ((with_reducible apply CW.cond_false); exact rfl)
 | ((with_reducible apply Fin.blk_far); exact rfl))
  refine CW.loop (ι := Nat) (fun k => [(10, .int .i64 (k : Int)), (9, .int .i64 (L.length : Int)), (8, .slice Ad L.length c), (0, .pointer (some ⟨b0, 0, none⟩)), (5, .int .i64 (((pushAll A ((L.take k).map (ab w))).length : Int) - A.length))])
    (fun k w' => k ≤ L.length ∧ ∃ O', QA w' B b0 O' (pushAll A ((L.take k).map (ab w))) ∧ FO O O' w w' ∧ PSK w' (fun b => ¬ O' b) (.slice Ad L.length c) L ∧ ∀ i p, k ≤ i → L[i]? = some p → RK w' (fun b => i = 0 ∨ ¬ O' b) p ∧ ab w' p = ab w p)
    (fun k => L.length - k) ?_ 0 (by simp only [show pushAll A ((L.take 0).map (ab w)) = A from rfl]; repeat (first | exact trivial | refine ⟨congrArg (fun z : Int => some (Value.int .i64 z)) (by omega), ?_⟩ | refine ⟨rfl, ?_⟩)) ⟨Nat.zero_le _, O, h, FO.of_x (X.refl w), hl, fun i p _ hp => ⟨hq i p hp, rfl⟩⟩
  rintro k w1 ⟨hk, O1, hA1, hF1, hL1, hR1⟩
  repeat (first
 | (with_reducible first
 | apply CW.seq | apply CW.region | apply CW.block | apply CW.ret | apply CW.skip | apply CW.label | apply CW.exit
 | apply W.nil | apply Fin.seq | apply Fin.then_ret | apply Fin.then_exit | apply Fin.blk_ret | apply Fin.blk_normal | apply Fin.blk_here)
 | (with_reducible first | refine S.move ?_ | refine S.assign ?_ | refine S.pickT ?_ | refine S.pickF ?_ | refine S.lss ?_ | refine S.gtr ?_ | refine S.leq ?_ | refine S.geq ?_ | refine S.eqT ?_ | refine S.neF ?_ | refine S.eql ?_ | refine S.neq ?_ | refine S.add ?_ | refine S.sub ?_ | refine S.mul ?_ | refine S.conv ?_ | refine S.shr1 ?_ | refine S.neg ?_ | refine S.not ?_ | refine S.extract ?_ | refine S.len ?_ | refine S.fld ?_ | refine S.index ?_ | refine S.skp ?_ | refine S.sliceTo ?_ | refine S.sliceFrom ?_ | refine S.eqNil ?_ | refine S.eqbT ?_ | refine S.nebF ?_ | refine S.eqb ?_ | refine S.neb ?_)
 | (with_reducible first | refine S.nc ?_ | refine S.fld ?_ (h1 := fHeapL) | refine S.fld ?_ (h1 := fHeapM) | refine S.fld ?_ (h1 := fQueueH) | refine S.eqP ?_ | refine S.neP ?_ | refine S.quo ?_ | refine S.mkP ?_)
 | ((with_reducible apply CW.cond_true); exact rfl)
 | ((with_reducible apply CW.cond_false); exact rfl)
 | ((with_reducible apply Fin.blk_far); exact rfl))
  refine CW.cond (by rfl) (fun hc => ?_) (fun hc => ?_)
  · have hk' : k < L.length := by have := of_decide_eq_true hc; omega
    clear hc
    have hps := hL1.ps
    obtain ⟨Ad', c', hv', _, hat⟩ := hps.open_
    injection hv' with q1 _ q3
    subst q1; subst q3
    obtain ⟨bl, o, rfl, hbl, hcell⟩ := hat k hk'
    have hp : L[k]? = some L[k] := List.getElem?_eq_getElem hk'
    obtain ⟨hRk, habk⟩ := hR1 k _ (Nat.le_refl _) hp
    have hstep := pushAll_step w A hk'
    have hlen1 := pushAll_len ((L.take k).map (ab w)) A
    rw [List.length_map, List.length_take, Nat.min_eq_left (by omega)] at hlen1
    generalize pushAll A ((L.take k).map (ab w)) = A1 at *
    generalize hA2 : pushAll A ((L.take (k + 1)).map (ab w)) = A2 at *
    generalize L[k] = p at *
    have hnext : ∀ {w' : World} {O' : Nat → Prop}, FO O1 O' w1 w' → ∀ i q, k + 1 ≤ i → L[i]? = some q → RK w' (fun b => i = 0 ∨ ¬ O' b) q ∧ ab w' q = ab w q := fun {w' O'} hF i q hi hiq => by
      obtain ⟨h1, h2⟩ := hR1 i q (by omega) hiq
      have h3 : RK w1 (fun b => ¬ O1 b) q := h1.mono fun b _ hb => hb.elim (fun e => by omega) id
      obtain ⟨h4, h5⟩ := hF.rk h3
      exact ⟨h4.mono fun b _ hb => .inr hb, h5.trans h2⟩
    repeat (first
 | (with_reducible first
 | apply CW.seq | apply CW.region | apply CW.block | apply CW.ret | apply CW.skip | apply CW.label | apply CW.exit
 | apply W.nil | apply Fin.seq | apply Fin.then_ret | apply Fin.then_exit | apply Fin.blk_ret | apply Fin.blk_normal | apply Fin.blk_here)
 | (with_reducible first | refine S.move ?_ | refine S.assign ?_ | refine S.pickT ?_ | refine S.pickF ?_ | refine S.lss ?_ | refine S.gtr ?_ | refine S.leq ?_ | refine S.geq ?_ | refine S.eqT ?_ | refine S.neF ?_ | refine S.eql ?_ | refine S.neq ?_ | refine S.add ?_ | refine S.sub ?_ | refine S.mul ?_ | refine S.conv ?_ | refine S.shr1 ?_ | refine S.neg ?_ | refine S.not ?_ | refine S.extract ?_ | refine S.len ?_ | refine S.fld ?_ | refine S.index ?_ | refine S.skp ?_ | refine S.sliceTo ?_ | refine S.sliceFrom ?_ | refine S.eqNil ?_ | refine S.eqbT ?_ | refine S.nebF ?_ | refine S.eqb ?_ | refine S.neb ?_)
 | (with_reducible first | refine S.nc ?_ | refine S.fld ?_ (h1 := fHeapL) | refine S.fld ?_ (h1 := fHeapM) | refine S.fld ?_ (h1 := fQueueH) | refine S.eqP ?_ | refine S.neP ?_ | refine S.quo ?_ | refine S.mkP ?_)
 | ((with_reducible apply CW.cond_true); exact rfl)
 | ((with_reducible apply CW.cond_false); exact rfl)
 | ((with_reducible apply Fin.blk_far); exact rfl))
    refine S.lds (cs := p.cs) (by rfl) stPod (fun j u hj => hcell k p j u hp hj) (by rfl) (by rfl) ?_
    refine W.newBlk (d := some 7) (mk := fun b => .pointer (some ⟨b, 0, none⟩)) (cs := PV.zero.cs) (op_alloc' zPod rfl) (by rfl) (by rfl) ?_
    intro b7 w2 hx2 hb2 hB2
    refine S.stB (vs := p.cs) (by rfl) (by rfl) rfl hB2 rfl szPod9 p.one (by rfl) ?_
    intro w3 hg3 hB3
    have hx3 : X w1 w3 := below_g hx2 hg3 hx2.le hb2
    clear hB2 hg3 hx2
    have hA3 := hA1.x hx3
    repeat (first
 | (with_reducible first
 | apply CW.seq | apply CW.region | apply CW.block | apply CW.ret | apply CW.skip | apply CW.label | apply CW.exit
 | apply W.nil | apply Fin.seq | apply Fin.then_ret | apply Fin.then_exit | apply Fin.blk_ret | apply Fin.blk_normal | apply Fin.blk_here)
 | (with_reducible first | refine S.move ?_ | refine S.assign ?_ | refine S.pickT ?_ | refine S.pickF ?_ | refine S.lss ?_ | refine S.gtr ?_ | refine S.leq ?_ | refine S.geq ?_ | refine S.eqT ?_ | refine S.neF ?_ | refine S.eql ?_ | refine S.neq ?_ | refine S.add ?_ | refine S.sub ?_ | refine S.mul ?_ | refine S.conv ?_ | refine S.shr1 ?_ | refine S.neg ?_ | refine S.not ?_ | refine S.extract ?_ | refine S.len ?_ | refine S.fld ?_ | refine S.index ?_ | refine S.skp ?_ | refine S.sliceTo ?_ | refine S.sliceFrom ?_ | refine S.eqNil ?_ | refine S.eqbT ?_ | refine S.nebF ?_ | refine S.eqb ?_ | refine S.neb ?_)
 | (with_reducible first | refine S.nc ?_ | refine S.fld ?_ (h1 := fHeapL) | refine S.fld ?_ (h1 := fHeapM) | refine S.fld ?_ (h1 := fQueueH) | refine S.eqP ?_ | refine S.neP ?_ | refine S.quo ?_ | refine S.mkP ?_)
 | ((with_reducible apply CW.cond_true); exact rfl)
 | ((with_reducible apply CW.cond_false); exact rfl)
 | ((with_reducible apply Fin.blk_far); exact rfl))
    ((with_reducible apply S.ld); exact rfl; (with_reducible first | exact oneInt | exact oneI64s | exact oneBool | exact oneI64 | exact onePods | exact oneMap); (exact hB3.cell rfl); exact rfl; exact rfl)
    refine S.cl (op_call ent38 (by rfl) (by rfl)) (by rfl) (by rfl) (qHas_calls B b0 O1 A1 p.id w3 hA3) ?_
    rintro _ w4 ⟨rfl, rfl⟩
    repeat (first
 | (with_reducible first
 | apply CW.seq | apply CW.region | apply CW.block | apply CW.ret | apply CW.skip | apply CW.label | apply CW.exit
 | apply W.nil | apply Fin.seq | apply Fin.then_ret | apply Fin.then_exit | apply Fin.blk_ret | apply Fin.blk_normal | apply Fin.blk_here)
 | (with_reducible first | refine S.move ?_ | refine S.assign ?_ | refine S.pickT ?_ | refine S.pickF ?_ | refine S.lss ?_ | refine S.gtr ?_ | refine S.leq ?_ | refine S.geq ?_ | refine S.eqT ?_ | refine S.neF ?_ | refine S.eql ?_ | refine S.neq ?_ | refine S.add ?_ | refine S.sub ?_ | refine S.mul ?_ | refine S.conv ?_ | refine S.shr1 ?_ | refine S.neg ?_ | refine S.not ?_ | refine S.extract ?_ | refine S.len ?_ | refine S.fld ?_ | refine S.index ?_ | refine S.skp ?_ | refine S.sliceTo ?_ | refine S.sliceFrom ?_ | refine S.eqNil ?_ | refine S.eqbT ?_ | refine S.nebF ?_ | refine S.eqb ?_ | refine S.neb ?_)
 | (with_reducible first | refine S.nc ?_ | refine S.fld ?_ (h1 := fHeapL) | refine S.fld ?_ (h1 := fHeapM) | refine S.fld ?_ (h1 := fQueueH) | refine S.eqP ?_ | refine S.neP ?_ | refine S.quo ?_ | refine S.mkP ?_)
 | ((with_reducible apply CW.cond_true); exact rfl)
 | ((with_reducible apply CW.cond_false); exact rfl)
 | ((with_reducible apply Fin.blk_far); exact rfl))
    refine CW.cond (by rfl) (fun hc => ?_) (fun hc => ?_)
    · have hno : hasA A1 p.id = false := by simpa using hc
      have hA2' : A2 = insA (ab w p) A1 := by
        rw [hstep]
        unfold pushA
        rw [if_neg (by show ¬ hasA A1 p.id = true; rw [hno]; simp)]
      obtain ⟨bm, v, Ds, m, hI, hV⟩ := hA3
      have hmn : m p.id = none := by
        unfold hasA at hno
        rw [← hV, QV_any hI.pok] at hno
        simpa using hno
      repeat (first
 | (with_reducible first
 | apply CW.seq | apply CW.region | apply CW.block | apply CW.ret | apply CW.skip | apply CW.label | apply CW.exit
 | apply W.nil | apply Fin.seq | apply Fin.then_ret | apply Fin.then_exit | apply Fin.blk_ret | apply Fin.blk_normal | apply Fin.blk_here)
 | (with_reducible first | refine S.move ?_ | refine S.assign ?_ | refine S.pickT ?_ | refine S.pickF ?_ | refine S.lss ?_ | refine S.gtr ?_ | refine S.leq ?_ | refine S.geq ?_ | refine S.eqT ?_ | refine S.neF ?_ | refine S.eql ?_ | refine S.neq ?_ | refine S.add ?_ | refine S.sub ?_ | refine S.mul ?_ | refine S.conv ?_ | refine S.shr1 ?_ | refine S.neg ?_ | refine S.not ?_ | refine S.extract ?_ | refine S.len ?_ | refine S.fld ?_ | refine S.index ?_ | refine S.skp ?_ | refine S.sliceTo ?_ | refine S.sliceFrom ?_ | refine S.eqNil ?_ | refine S.eqbT ?_ | refine S.nebF ?_ | refine S.eqb ?_ | refine S.neb ?_)
 | (with_reducible first | refine S.nc ?_ | refine S.fld ?_ (h1 := fHeapL) | refine S.fld ?_ (h1 := fHeapM) | refine S.fld ?_ (h1 := fQueueH) | refine S.eqP ?_ | refine S.neP ?_ | refine S.quo ?_ | refine S.mkP ?_)
 | ((with_reducible apply CW.cond_true); exact rfl)
 | ((with_reducible apply CW.cond_false); exact rfl)
 | ((with_reducible apply Fin.blk_far); exact rfl))
      refine wp_facts3 (R := X) (pu := [0, 1, 2, 3]) (front := [4]) (tail := [5, 6, 7]) mixed (by kernel_rfl) (by (repeat (first | with_reducible exact NoPanic.post_ | with_reducible apply NoPanic.then_ | with_reducible apply NoPanic.blk))) X.refl (fun _ _ _ => X.trans) (X.drew _) ?_
      repeat ((with_reducible refine TP.step ?_); first
        | (with_reducible first | refine E.move ?_ | refine E.assign ?_ | refine E.pickT ?_ | refine E.pickF ?_ | refine E.lss ?_ | refine E.gtr ?_ | refine E.leq ?_ | refine E.geq ?_ | refine E.eqT ?_ | refine E.neF ?_ | refine E.eql ?_ | refine E.neq ?_ | refine E.add ?_ | refine E.sub ?_ | refine E.mul ?_ | refine E.conv ?_ | refine E.shr1 ?_ | refine E.neg ?_ | refine E.not ?_ | refine E.extract ?_ | refine E.len ?_ | refine E.fld ?_ | refine E.index ?_ | refine E.skp ?_ | refine E.sliceTo ?_ | refine E.sliceFrom ?_ | refine E.eqNil ?_ | refine E.eqbT ?_ | refine E.nebF ?_ | refine E.eqb ?_ | refine E.neb ?_)
        | (with_reducible first | refine E.nc ?_ | refine E.fld ?_ (h1 := fHeapL) | refine E.fld ?_ (h1 := fHeapM) | refine E.fld ?_ (h1 := fQueueH) | refine E.mkP ?_))
      refine TP.done ?_
      repeat ((with_reducible refine TC.step ?_); first
        | refine D.lds (cs := p.cs) (by rfl) stPod (fun w' hx' j u hj => by rw [Nat.zero_add]; exact (hB3.x hx').cell hj) X.refl (by rfl) (by rfl) ?_)
      refine TC.tail3 (by rfl) (by rfl) (by rfl) (fun w5 hx5 => ?_)
      have hI5 := hI.x hx5
      have hV5 : QV w5 Ds = A1 := (QV_keep hI.rq fun _ _ k hk _ => hx5.block k hk).trans hV
      obtain ⟨lr, hlr, hisk⟩ := hRk
      have hisk5 := hisk.x (hx3.trans hx5)
      refine S.cl (op_call ent50 (by rfl) (by rfl)) (by rfl) (by rfl) (copied_calls p lr w5 hisk5.is (by have := hisk.1; omega)) ?_
      rintro _ w6 ⟨A', c', rfl, hRq, hx6⟩
      have hab6 : ab w6 (p.with A' p.rn c') = ab w p := (ab_with hisk hRq).trans habk
      have hrk6 := hRq.rk (c' := c') hlr
      have hpid : (p.with A' p.rn c').id = p.id := rfl
      rw [← hpid] at hmn
      generalize p.with A' p.rn c' = p' at *
      refine W.pure (d := some 29) (op_mkIface Try.underlying25 rfl (by rfl)) (by rfl) (by rfl) ?_
      have hI6 := hI5.x hx6
      have hDl : Ds.length = A1.length := hI.len hV
      refine S.cl (op_call ent49 (by rfl) (by rfl)) (by rfl) (by rfl) (heapPush_calls B b0 bm v Ds m p' w6 hI6.qs hI6.pok hI6.heap hmn (by have := (hI6.lo b0 hI6.o0); omega) (by omega)) ?_
      rintro _ w7 ⟨v', Es, m', h7, hf7, hv7, hP7, hH7, hl7, hm7⟩
      obtain ⟨hI7, hF7, hV7⟩ := hI5.push hx6 hrk6 h7 hf7 hv7 hP7 hH7 hl7 hm7 hmn
      rw [hab6, hV5, ← hA2'] at hV7
      have hF17 : FO O1 _ w1 w7 := (FO.of_x (hx3.trans hx5)).trans hF7
      have hl2 : A2.length = A1.length + 1 := by rw [hA2', insA_len]
      repeat (first
 | (with_reducible first
 | apply CW.seq | apply CW.region | apply CW.block | apply CW.ret | apply CW.skip | apply CW.label | apply CW.exit
 | apply W.nil | apply Fin.seq | apply Fin.then_ret | apply Fin.then_exit | apply Fin.blk_ret | apply Fin.blk_normal | apply Fin.blk_here)
 | (with_reducible first | refine S.move ?_ | refine S.assign ?_ | refine S.pickT ?_ | refine S.pickF ?_ | refine S.lss ?_ | refine S.gtr ?_ | refine S.leq ?_ | refine S.geq ?_ | refine S.eqT ?_ | refine S.neF ?_ | refine S.eql ?_ | refine S.neq ?_ | refine S.add ?_ | refine S.sub ?_ | refine S.mul ?_ | refine S.conv ?_ | refine S.shr1 ?_ | refine S.neg ?_ | refine S.not ?_ | refine S.extract ?_ | refine S.len ?_ | refine S.fld ?_ | refine S.index ?_ | refine S.skp ?_ | refine S.sliceTo ?_ | refine S.sliceFrom ?_ | refine S.eqNil ?_ | refine S.eqbT ?_ | refine S.nebF ?_ | refine S.eqb ?_ | refine S.neb ?_)
 | (with_reducible first | refine S.nc ?_ | refine S.fld ?_ (h1 := fHeapL) | refine S.fld ?_ (h1 := fHeapM) | refine S.fld ?_ (h1 := fQueueH) | refine S.eqP ?_ | refine S.neP ?_ | refine S.quo ?_ | refine S.mkP ?_)
 | ((with_reducible apply CW.cond_true); exact rfl)
 | ((with_reducible apply CW.cond_false); exact rfl)
 | ((with_reducible apply Fin.blk_far); exact rfl))
      refine Fin.round (k + 1) (by omega) (by rw [hA2]; repeat (first | exact trivial | refine ⟨congrArg (fun z : Int => some (Value.int .i64 z)) (by omega), ?_⟩ | refine ⟨rfl, ?_⟩)) ⟨by omega, ?_⟩
      rw [hA2]
      exact ⟨_, ⟨bm, v', Es, m', hI7, hV7⟩, hF1.trans hF17, hF17.psk hL1, hnext hF17⟩
    · have hyes : hasA A1 p.id = true := by simpa using hc
      have hA2' : A2 = A1 := by
        rw [hstep]
        unfold pushA
        exact if_pos hyes
      have hF3 : FO O1 O1 w1 w4 := FO.of_x hx3
      repeat (first
 | (with_reducible first
 | apply CW.seq | apply CW.region | apply CW.block | apply CW.ret | apply CW.skip | apply CW.label | apply CW.exit
 | apply W.nil | apply Fin.seq | apply Fin.then_ret | apply Fin.then_exit | apply Fin.blk_ret | apply Fin.blk_normal | apply Fin.blk_here)
 | (with_reducible first | refine S.move ?_ | refine S.assign ?_ | refine S.pickT ?_ | refine S.pickF ?_ | refine S.lss ?_ | refine S.gtr ?_ | refine S.leq ?_ | refine S.geq ?_ | refine S.eqT ?_ | refine S.neF ?_ | refine S.eql ?_ | refine S.neq ?_ | refine S.add ?_ | refine S.sub ?_ | refine S.mul ?_ | refine S.conv ?_ | refine S.shr1 ?_ | refine S.neg ?_ | refine S.not ?_ | refine S.extract ?_ | refine S.len ?_ | refine S.fld ?_ | refine S.index ?_ | refine S.skp ?_ | refine S.sliceTo ?_ | refine S.sliceFrom ?_ | refine S.eqNil ?_ | refine S.eqbT ?_ | refine S.nebF ?_ | refine S.eqb ?_ | refine S.neb ?_)
 | (with_reducible first | refine S.nc ?_ | refine S.fld ?_ (h1 := fHeapL) | refine S.fld ?_ (h1 := fHeapM) | refine S.fld ?_ (h1 := fQueueH) | refine S.eqP ?_ | refine S.neP ?_ | refine S.quo ?_ | refine S.mkP ?_)
 | ((with_reducible apply CW.cond_true); exact rfl)
 | ((with_reducible apply CW.cond_false); exact rfl)
 | ((with_reducible apply Fin.blk_far); exact rfl))
      refine Fin.round (k + 1) (by omega) (by rw [hA2, hA2']; repeat (first | exact trivial | refine ⟨congrArg (fun z : Int => some (Value.int .i64 z)) (by omega), ?_⟩ | refine ⟨rfl, ?_⟩)) ⟨by omega, ?_⟩
      rw [hA2, hA2']
      exact ⟨_, hA3, hF1.trans hF3, hF3.psk hL1, hnext hF3⟩
  · have hk2 : k = L.length := by have := of_decide_eq_false hc; omega
    subst hk2
    rw [List.take_length] at hA1
    repeat (first
 | (with_reducible first
 | apply CW.seq | apply CW.region | apply CW.block | apply CW.ret | apply CW.skip | apply CW.label | apply CW.exit
 | apply W.nil | apply Fin.seq | apply Fin.then_ret | apply Fin.then_exit | apply Fin.blk_ret | apply Fin.blk_normal | apply Fin.blk_here)
 | (with_reducible first | refine S.move ?_ | refine S.assign ?_ | refine S.pickT ?_ | refine S.pickF ?_ | refine S.lss ?_ | refine S.gtr ?_ | refine S.leq ?_ | refine S.geq ?_ | refine S.eqT ?_ | refine S.neF ?_ | refine S.eql ?_ | refine S.neq ?_ | refine S.add ?_ | refine S.sub ?_ | refine S.mul ?_ | refine S.conv ?_ | refine S.shr1 ?_ | refine S.neg ?_ | refine S.not ?_ | refine S.extract ?_ | refine S.len ?_ | refine S.fld ?_ | refine S.index ?_ | refine S.skp ?_ | refine S.sliceTo ?_ | refine S.sliceFrom ?_ | refine S.eqNil ?_ | refine S.eqbT ?_ | refine S.nebF ?_ | refine S.eqb ?_ | refine S.neb ?_)
 | (with_reducible first | refine S.nc ?_ | refine S.fld ?_ (h1 := fHeapL) | refine S.fld ?_ (h1 := fHeapM) | refine S.fld ?_ (h1 := fQueueH) | refine S.eqP ?_ | refine S.neP ?_ | refine S.quo ?_ | refine S.mkP ?_)
 | ((with_reducible apply CW.cond_true); exact rfl)
 | ((with_reducible apply CW.cond_false); exact rfl)
 | ((with_reducible apply Fin.blk_far); exact rfl))
    (with_reducible apply R.r1); exact rfl; exact rfl
    rw [List.take_length]
    exact ⟨rfl, O1, hA1, hF1⟩

end Go.Proofs.Ytmilpjkjcanghaa

/- The reference's sort. -/
import Derived.Test.YtmilpjkjcanghaaDoorRank8
namespace Go.Proofs.YtmilpjkjcanghaaDoor
open Go.RowKit
set_option linter.unusedVariables false
set_option linter.unusedSimpArgs false

def posOf (x : PV) (out : List PV) : Nat → Nat
  | 0 => 0
  | k + 1 => if cmpP x (out.getD k PV.zero) < 0 then posOf x out k else k + 1
def insR (x : PV) (out : List PV) : List PV := out.take (posOf x out out.length) ++ x :: out.drop (posOf x out out.length)
def sortTo (L : List PV) : Nat → List PV
  | 0 => []
  | k + 1 => insR (L.getD k PV.zero) (sortTo L k)
def sortR (L : List PV) : List PV := sortTo L L.length

theorem posOf_le (x : PV) (out : List PV) : ∀ k, posOf x out k ≤ k
  | 0 => Nat.le_refl _
  | k + 1 => by
    have := posOf_le x out k
    unfold posOf
    split <;> omega
theorem insR_len (x : PV) (out : List PV) : (insR x out).length = out.length + 1 := by
  have := posOf_le x out out.length
  simp [insR]; omega
theorem sortTo_len (L : List PV) : ∀ k, (sortTo L k).length = k
  | 0 => rfl
  | k + 1 => by rw [sortTo, insR_len, sortTo_len L k]

theorem insR_mem (x : PV) (out : List PV) (y : PV) : y ∈ insR x out ↔ y = x ∨ y ∈ out := by
  unfold insR
  rw [List.mem_append, List.mem_cons]
  conv => rhs; rw [← List.take_append_drop (posOf x out out.length) out, List.mem_append]
  constructor
  · rintro (h | h | h)
    · exact .inr (.inl h)
    · exact .inl h
    · exact .inr (.inr h)
  · rintro (h | h | h)
    · exact .inr (.inl h)
    · exact .inl h
    · exact .inr (.inr h)
theorem sortTo_mem (L : List PV) : ∀ k, k ≤ L.length → ∀ y ∈ sortTo L k, y ∈ L
  | 0, _, y, h => by simp [sortTo] at h
  | k + 1, hk, y, h => by
    rw [sortTo, insR_mem] at h
    rcases h with rfl | h
    · rw [getD_at (by omega : k < L.length)]; exact List.getElem_mem _
    · exact sortTo_mem L k (by omega) y h

theorem okPrio_of {L : List PV} (h : fewB L = true) : ∀ p ∈ L, okPrio p := by
  intro p hp
  simp only [fewB, Bool.and_eq_true] at h
  have := List.all_eq_true.1 h.1 p hp
  simp only [fewP, Bool.and_eq_true, decide_eq_true_eq] at this
  exact ⟨this.1.1, this.1.2⟩

theorem refSort_calls (l : Value) (L : List PV) (w : World) (hl : PS w w.heap.size l L) (hn : L.length ≤ 400) (hp : ∀ p ∈ L, okPrio p) :
    CallsR Tryd.prog 27 [l] w fun v w' => OwnP w' w.heap.size v (sortR L) ∧ X w w' := by
  obtain ⟨A, c, rfl, hc, hat⟩ := hl.open_
  refine enter1 Tryd.func27 rfl Tryd.ntmps27 rfl ?_
  repeat (first
 | (with_reducible first
 | apply CW.seq | apply CW.region | apply CW.block | apply CW.ret | apply CW.skip | apply CW.label | apply CW.exit
 | apply W.nil | apply Fin.seq | apply Fin.then_ret | apply Fin.then_exit | apply Fin.blk_ret | apply Fin.blk_normal | apply Fin.blk_here)
 | (with_reducible first | refine S.move ?_ | refine S.assign ?_ | refine S.pickT ?_ | refine S.pickF ?_ | refine S.lss ?_ | refine S.gtr ?_ | refine S.leq ?_ | refine S.geq ?_ | refine S.eqT ?_ | refine S.neF ?_ | refine S.eql ?_ | refine S.neq ?_ | refine S.add ?_ | refine S.sub ?_ | refine S.mul ?_ | refine S.conv ?_ | refine S.shr1 ?_ | refine S.neg ?_ | refine S.not ?_ | refine S.extract ?_ | refine S.len ?_ | refine S.fld ?_ | refine S.index ?_ | refine S.skp ?_ | refine S.sliceTo ?_ | refine S.sliceFrom ?_ | refine S.eqNil ?_ | refine S.eqbT ?_ | refine S.nebF ?_ | refine S.eqb ?_ | refine S.neb ?_)
 | ((with_reducible apply CW.cond_true); exact rfl)
 | ((with_reducible apply CW.cond_false); exact rfl)
 | ((with_reducible apply Fin.blk_far); exact rfl))
  refine CW.loop (ι := Nat × Value) (fun k => [(4, .int .i64 (k.1 : Int)), (0, .slice A L.length c), (3, k.2)]) (fun k w' => X w w' ∧ k.1 ≤ L.length ∧ OwnP w' w.heap.size k.2 (sortTo L k.1)) (fun k => L.length - k.1) ?_ (0, _) (by repeat (first | exact trivial | refine ⟨rfl, ?_⟩)) ⟨X.refl _, Nat.zero_le _, OwnP.nil _ _⟩
  rintro ⟨k, ov⟩ w1 ⟨hx1, hk, hO⟩
  simp only at hk hO ⊢
  repeat (first
 | (with_reducible first
 | apply CW.seq | apply CW.region | apply CW.block | apply CW.ret | apply CW.skip | apply CW.label | apply CW.exit
 | apply W.nil | apply Fin.seq | apply Fin.then_ret | apply Fin.then_exit | apply Fin.blk_ret | apply Fin.blk_normal | apply Fin.blk_here)
 | (with_reducible first | refine S.move ?_ | refine S.assign ?_ | refine S.pickT ?_ | refine S.pickF ?_ | refine S.lss ?_ | refine S.gtr ?_ | refine S.leq ?_ | refine S.geq ?_ | refine S.eqT ?_ | refine S.neF ?_ | refine S.eql ?_ | refine S.neq ?_ | refine S.add ?_ | refine S.sub ?_ | refine S.mul ?_ | refine S.conv ?_ | refine S.shr1 ?_ | refine S.neg ?_ | refine S.not ?_ | refine S.extract ?_ | refine S.len ?_ | refine S.fld ?_ | refine S.index ?_ | refine S.skp ?_ | refine S.sliceTo ?_ | refine S.sliceFrom ?_ | refine S.eqNil ?_ | refine S.eqbT ?_ | refine S.nebF ?_ | refine S.eqb ?_ | refine S.neb ?_)
 | ((with_reducible apply CW.cond_true); exact rfl)
 | ((with_reducible apply CW.cond_false); exact rfl)
 | ((with_reducible apply Fin.blk_far); exact rfl))
  refine CW.cond (by rfl) (fun h => ?_) (fun h => ?_)
  · have hk' : k < L.length := by have := of_decide_eq_true h; omega
    clear h
    obtain ⟨b, o, rfl, hbB, hcell⟩ := hat k hk'
    have hpk : L[k]? = some L[k] := List.getElem?_eq_getElem hk'
    have hpx : okPrio L[k] := hp _ (List.getElem_mem hk')
    have hst : sortTo L (k + 1) = insR L[k] (sortTo L k) := by rw [sortTo, getD_at hk']
    have hso : ∀ p ∈ sortTo L k, okPrio p := fun p hm => hp p (sortTo_mem L k hk p hm)
    have hlen := sortTo_len L k
    generalize L[k] = x at *
    generalize sortTo L k = out at *
    obtain ⟨A', c', rfl, hc', hat'⟩ := hO.ps.open_
    repeat (first
 | (with_reducible first
 | apply CW.seq | apply CW.region | apply CW.block | apply CW.ret | apply CW.skip | apply CW.label | apply CW.exit
 | apply W.nil | apply Fin.seq | apply Fin.then_ret | apply Fin.then_exit | apply Fin.blk_ret | apply Fin.blk_normal | apply Fin.blk_here)
 | (with_reducible first | refine S.move ?_ | refine S.assign ?_ | refine S.pickT ?_ | refine S.pickF ?_ | refine S.lss ?_ | refine S.gtr ?_ | refine S.leq ?_ | refine S.geq ?_ | refine S.eqT ?_ | refine S.neF ?_ | refine S.eql ?_ | refine S.neq ?_ | refine S.add ?_ | refine S.sub ?_ | refine S.mul ?_ | refine S.conv ?_ | refine S.shr1 ?_ | refine S.neg ?_ | refine S.not ?_ | refine S.extract ?_ | refine S.len ?_ | refine S.fld ?_ | refine S.index ?_ | refine S.skp ?_ | refine S.sliceTo ?_ | refine S.sliceFrom ?_ | refine S.eqNil ?_ | refine S.eqbT ?_ | refine S.nebF ?_ | refine S.eqb ?_ | refine S.neb ?_)
 | ((with_reducible apply CW.cond_true); exact rfl)
 | ((with_reducible apply CW.cond_false); exact rfl)
 | ((with_reducible apply Fin.blk_far); exact rfl))
    refine CW.midB (ι := Nat) (fun a => [(5, .int .i64 (a : Int)), (4, .int .i64 (k : Int)), (0, .slice (some ⟨b, o, none⟩) L.length c), (3, .slice A' out.length c')]) (fun a w' => X w1 w' ∧ a ≤ out.length ∧ posOf x out out.length = a) ?_ ?_
    refine CW.loop (ι := Nat) (fun a => [(5, .int .i64 (a : Int)), (4, .int .i64 (k : Int)), (0, .slice (some ⟨b, o, none⟩) L.length c), (3, .slice A' out.length c')]) (fun a w' => X w1 w' ∧ a ≤ out.length ∧ posOf x out out.length = posOf x out a) (fun a => a) ?_ out.length (by repeat (first | exact trivial | refine ⟨rfl, ?_⟩)) ⟨X.refl _, Nat.le_refl _, rfl⟩
    rintro a w2 ⟨hx2, ha, hpos⟩
    have hwx : ∀ w', X w2 w' → ∀ j u, x.cs[j]? = some u → w'.cell? ⟨b, o + k * 9 + j, none⟩ = some u := fun w' hx j u hj =>
      (((hx1.trans hx2).trans hx).cell (p := ⟨b, _, none⟩) hbB).trans (hcell k _ j u hpk hj)
    repeat (first
 | (with_reducible first
 | apply CW.seq | apply CW.region | apply CW.block | apply CW.ret | apply CW.skip | apply CW.label | apply CW.exit
 | apply W.nil | apply Fin.seq | apply Fin.then_ret | apply Fin.then_exit | apply Fin.blk_ret | apply Fin.blk_normal | apply Fin.blk_here)
 | (with_reducible first | refine S.move ?_ | refine S.assign ?_ | refine S.pickT ?_ | refine S.pickF ?_ | refine S.lss ?_ | refine S.gtr ?_ | refine S.leq ?_ | refine S.geq ?_ | refine S.eqT ?_ | refine S.neF ?_ | refine S.eql ?_ | refine S.neq ?_ | refine S.add ?_ | refine S.sub ?_ | refine S.mul ?_ | refine S.conv ?_ | refine S.shr1 ?_ | refine S.neg ?_ | refine S.not ?_ | refine S.extract ?_ | refine S.len ?_ | refine S.fld ?_ | refine S.index ?_ | refine S.skp ?_ | refine S.sliceTo ?_ | refine S.sliceFrom ?_ | refine S.eqNil ?_ | refine S.eqbT ?_ | refine S.nebF ?_ | refine S.eqb ?_ | refine S.neb ?_)
 | ((with_reducible apply CW.cond_true); exact rfl)
 | ((with_reducible apply CW.cond_false); exact rfl)
 | ((with_reducible apply Fin.blk_far); exact rfl))
    refine wp_facts (R := X) (front := [0, 1, 2, 3, 4, 5, 6, 7, 8, 9, 10, 11, 12, 13, 14]) (tail := []) mixed (by kernel_rfl) X.refl (fun _ _ _ => X.trans) (X.drew _) ?_
    repeat ((with_reducible refine TC.step ?_); first
      | (with_reducible first | refine D.move ?_ | refine D.assign ?_ | refine D.pickT ?_ | refine D.pickF ?_ | refine D.lss ?_ | refine D.gtr ?_ | refine D.leq ?_ | refine D.geq ?_ | refine D.eqT ?_ | refine D.neF ?_ | refine D.eql ?_ | refine D.neq ?_ | refine D.add ?_ | refine D.sub ?_ | refine D.mul ?_ | refine D.conv ?_ | refine D.shr1 ?_ | refine D.neg ?_ | refine D.not ?_ | refine D.extract ?_ | refine D.len ?_ | refine D.fld ?_ | refine D.index ?_ | refine D.skp ?_ | refine D.sliceTo ?_ | refine D.sliceFrom ?_ | refine D.eqNil ?_ | refine D.eqbT ?_ | refine D.nebF ?_ | refine D.eqb ?_ | refine D.neb ?_))
    refine TC.bool (fun h => ?_) (fun h => ?_)
    · have h := of_decide_eq_true h
      obtain ⟨m, rfl⟩ : ∃ m, a = m + 1 := ⟨a - 1, by omega⟩
      have hm : m < out.length := by omega
      obtain ⟨b', o', rfl, hb', hcell'⟩ := hat' m hm
      have hpm : out[m]? = some out[m] := List.getElem?_eq_getElem hm
      have hpy : okPrio out[m] := hso _ (List.getElem_mem hm)
      have hps : posOf x out (m + 1) = if cmpP x out[m] < 0 then posOf x out m else m + 1 := by rw [posOf, getD_at hm]
      generalize out[m] = y at *
      have hwy : ∀ w', X w2 w' → ∀ j u, y.cs[j]? = some u → w'.cell? ⟨b', o' + m * 9 + j, none⟩ = some u := fun w' hx j u hj =>
        ((hx2.trans hx).cell (p := ⟨b', _, none⟩) hb').trans (hcell' m _ j u hpm hj)
      have hcall : ∀ w', X w2 w' → CallsR Tryd.prog 35 [x.v, y.v] w' fun v w'' => v = .int .i64 (cmpP x y) ∧ X w' w'' := fun w' hx => refCompare_calls x y w' hpx hpy
      repeat ((with_reducible refine TC.step ?_); first
        | (with_reducible refine D.indexE (j := m) ?_)
        | refine D.lds (cs := x.cs) (by rfl) stPod hwx X.refl (by rfl) (by rfl) ?_
        | refine D.lds (cs := y.cs) (by rfl) stPod hwy X.refl (by rfl) (by rfl) ?_
        | refine D.cl (op_call ent35 (by rfl) (by rfl)) (by rfl) (by rfl) hcall ?_
        | (with_reducible first | refine D.move ?_ | refine D.assign ?_ | refine D.pickT ?_ | refine D.pickF ?_ | refine D.lss ?_ | refine D.gtr ?_ | refine D.leq ?_ | refine D.geq ?_ | refine D.eqT ?_ | refine D.neF ?_ | refine D.eql ?_ | refine D.neq ?_ | refine D.add ?_ | refine D.sub ?_ | refine D.mul ?_ | refine D.conv ?_ | refine D.shr1 ?_ | refine D.neg ?_ | refine D.not ?_ | refine D.extract ?_ | refine D.len ?_ | refine D.fld ?_ | refine D.index ?_ | refine D.skp ?_ | refine D.sliceTo ?_ | refine D.sliceFrom ?_ | refine D.eqNil ?_ | refine D.eqbT ?_ | refine D.nebF ?_ | refine D.eqb ?_ | refine D.neb ?_))
      refine TC.done fun w3 hx3 => ?_
      repeat (first
 | (with_reducible first
 | apply CW.seq | apply CW.region | apply CW.block | apply CW.ret | apply CW.skip | apply CW.label | apply CW.exit
 | apply W.nil | apply Fin.seq | apply Fin.then_ret | apply Fin.then_exit | apply Fin.blk_ret | apply Fin.blk_normal | apply Fin.blk_here)
 | (with_reducible first | refine S.move ?_ | refine S.assign ?_ | refine S.pickT ?_ | refine S.pickF ?_ | refine S.lss ?_ | refine S.gtr ?_ | refine S.leq ?_ | refine S.geq ?_ | refine S.eqT ?_ | refine S.neF ?_ | refine S.eql ?_ | refine S.neq ?_ | refine S.add ?_ | refine S.sub ?_ | refine S.mul ?_ | refine S.conv ?_ | refine S.shr1 ?_ | refine S.neg ?_ | refine S.not ?_ | refine S.extract ?_ | refine S.len ?_ | refine S.fld ?_ | refine S.index ?_ | refine S.skp ?_ | refine S.sliceTo ?_ | refine S.sliceFrom ?_ | refine S.eqNil ?_ | refine S.eqbT ?_ | refine S.nebF ?_ | refine S.eqb ?_ | refine S.neb ?_)
 | ((with_reducible apply CW.cond_true); exact rfl)
 | ((with_reducible apply CW.cond_false); exact rfl)
 | ((with_reducible apply Fin.blk_far); exact rfl))
      refine CW.cond (by rfl) (fun h2 => ?_) (fun h2 => ?_)
      · have h2 := of_decide_eq_true h2
        repeat (first
 | (with_reducible first
 | apply CW.seq | apply CW.region | apply CW.block | apply CW.ret | apply CW.skip | apply CW.label | apply CW.exit
 | apply W.nil | apply Fin.seq | apply Fin.then_ret | apply Fin.then_exit | apply Fin.blk_ret | apply Fin.blk_normal | apply Fin.blk_here)
 | (with_reducible first | refine S.move ?_ | refine S.assign ?_ | refine S.pickT ?_ | refine S.pickF ?_ | refine S.lss ?_ | refine S.gtr ?_ | refine S.leq ?_ | refine S.geq ?_ | refine S.eqT ?_ | refine S.neF ?_ | refine S.eql ?_ | refine S.neq ?_ | refine S.add ?_ | refine S.sub ?_ | refine S.mul ?_ | refine S.conv ?_ | refine S.shr1 ?_ | refine S.neg ?_ | refine S.not ?_ | refine S.extract ?_ | refine S.len ?_ | refine S.fld ?_ | refine S.index ?_ | refine S.skp ?_ | refine S.sliceTo ?_ | refine S.sliceFrom ?_ | refine S.eqNil ?_ | refine S.eqbT ?_ | refine S.nebF ?_ | refine S.eqb ?_ | refine S.neb ?_)
 | ((with_reducible apply CW.cond_true); exact rfl)
 | ((with_reducible apply CW.cond_false); exact rfl)
 | ((with_reducible apply Fin.blk_far); exact rfl))
        refine Fin.round m (by omega) (by repeat (first | exact trivial | refine ⟨congrArg (fun z : Int => some (Value.int .i64 z)) (by omega), ?_⟩ | refine ⟨rfl, ?_⟩)) ⟨hx2.trans hx3, by omega, ?_⟩
        rw [hpos, hps, if_pos h2]
      · have h2 := of_decide_eq_false h2
        repeat (first
 | (with_reducible first
 | apply CW.seq | apply CW.region | apply CW.block | apply CW.ret | apply CW.skip | apply CW.label | apply CW.exit
 | apply W.nil | apply Fin.seq | apply Fin.then_ret | apply Fin.then_exit | apply Fin.blk_ret | apply Fin.blk_normal | apply Fin.blk_here)
 | (with_reducible first | refine S.move ?_ | refine S.assign ?_ | refine S.pickT ?_ | refine S.pickF ?_ | refine S.lss ?_ | refine S.gtr ?_ | refine S.leq ?_ | refine S.geq ?_ | refine S.eqT ?_ | refine S.neF ?_ | refine S.eql ?_ | refine S.neq ?_ | refine S.add ?_ | refine S.sub ?_ | refine S.mul ?_ | refine S.conv ?_ | refine S.shr1 ?_ | refine S.neg ?_ | refine S.not ?_ | refine S.extract ?_ | refine S.len ?_ | refine S.fld ?_ | refine S.index ?_ | refine S.skp ?_ | refine S.sliceTo ?_ | refine S.sliceFrom ?_ | refine S.eqNil ?_ | refine S.eqbT ?_ | refine S.nebF ?_ | refine S.eqb ?_ | refine S.neb ?_)
 | ((with_reducible apply CW.cond_true); exact rfl)
 | ((with_reducible apply CW.cond_false); exact rfl)
 | ((with_reducible apply Fin.blk_far); exact rfl))
        refine Fin.mid (m + 1) (by repeat (first | exact trivial | refine ⟨rfl, ?_⟩)) ⟨hx2.trans hx3, ha, ?_⟩
        rw [hpos, hps, if_neg h2]
    · have h := of_decide_eq_false h
      have ha0 : a = 0 := by omega
      subst ha0
      repeat ((with_reducible refine TC.step ?_); first
        | (with_reducible first | refine D.move ?_ | refine D.assign ?_ | refine D.pickT ?_ | refine D.pickF ?_ | refine D.lss ?_ | refine D.gtr ?_ | refine D.leq ?_ | refine D.geq ?_ | refine D.eqT ?_ | refine D.neF ?_ | refine D.eql ?_ | refine D.neq ?_ | refine D.add ?_ | refine D.sub ?_ | refine D.mul ?_ | refine D.conv ?_ | refine D.shr1 ?_ | refine D.neg ?_ | refine D.not ?_ | refine D.extract ?_ | refine D.len ?_ | refine D.fld ?_ | refine D.index ?_ | refine D.skp ?_ | refine D.sliceTo ?_ | refine D.sliceFrom ?_ | refine D.eqNil ?_ | refine D.eqbT ?_ | refine D.nebF ?_ | refine D.eqb ?_ | refine D.neb ?_))
      refine TC.done fun w3 hx3 => ?_
      repeat (first
 | (with_reducible first
 | apply CW.seq | apply CW.region | apply CW.block | apply CW.ret | apply CW.skip | apply CW.label | apply CW.exit
 | apply W.nil | apply Fin.seq | apply Fin.then_ret | apply Fin.then_exit | apply Fin.blk_ret | apply Fin.blk_normal | apply Fin.blk_here)
 | (with_reducible first | refine S.move ?_ | refine S.assign ?_ | refine S.pickT ?_ | refine S.pickF ?_ | refine S.lss ?_ | refine S.gtr ?_ | refine S.leq ?_ | refine S.geq ?_ | refine S.eqT ?_ | refine S.neF ?_ | refine S.eql ?_ | refine S.neq ?_ | refine S.add ?_ | refine S.sub ?_ | refine S.mul ?_ | refine S.conv ?_ | refine S.shr1 ?_ | refine S.neg ?_ | refine S.not ?_ | refine S.extract ?_ | refine S.len ?_ | refine S.fld ?_ | refine S.index ?_ | refine S.skp ?_ | refine S.sliceTo ?_ | refine S.sliceFrom ?_ | refine S.eqNil ?_ | refine S.eqbT ?_ | refine S.nebF ?_ | refine S.eqb ?_ | refine S.neb ?_)
 | ((with_reducible apply CW.cond_true); exact rfl)
 | ((with_reducible apply CW.cond_false); exact rfl)
 | ((with_reducible apply Fin.blk_far); exact rfl))
      refine Fin.mid 0 (by repeat (first | exact trivial | refine ⟨rfl, ?_⟩)) ⟨hx2.trans hx3, ha, hpos⟩
    -- the place is found
    rintro a w3 ⟨hx3, ha, hpos⟩
    have hwx : ∀ w', X w3 w' → ∀ j u, x.cs[j]? = some u → w'.cell? ⟨b, o + k * 9 + j, none⟩ = some u := fun w' hx j u hj =>
      (((hx1.trans hx3).trans hx).cell (p := ⟨b, _, none⟩) hbB).trans (hcell k _ j u hpk hj)
    repeat (first
 | (with_reducible first
 | apply CW.seq | apply CW.region | apply CW.block | apply CW.ret | apply CW.skip | apply CW.label | apply CW.exit
 | apply W.nil | apply Fin.seq | apply Fin.then_ret | apply Fin.then_exit | apply Fin.blk_ret | apply Fin.blk_normal | apply Fin.blk_here)
 | (with_reducible first | refine S.move ?_ | refine S.assign ?_ | refine S.pickT ?_ | refine S.pickF ?_ | refine S.lss ?_ | refine S.gtr ?_ | refine S.leq ?_ | refine S.geq ?_ | refine S.eqT ?_ | refine S.neF ?_ | refine S.eql ?_ | refine S.neq ?_ | refine S.add ?_ | refine S.sub ?_ | refine S.mul ?_ | refine S.conv ?_ | refine S.shr1 ?_ | refine S.neg ?_ | refine S.not ?_ | refine S.extract ?_ | refine S.len ?_ | refine S.fld ?_ | refine S.index ?_ | refine S.skp ?_ | refine S.sliceTo ?_ | refine S.sliceFrom ?_ | refine S.eqNil ?_ | refine S.eqbT ?_ | refine S.nebF ?_ | refine S.eqb ?_ | refine S.neb ?_)
 | ((with_reducible apply CW.cond_true); exact rfl)
 | ((with_reducible apply CW.cond_false); exact rfl)
 | ((with_reducible apply Fin.blk_far); exact rfl))
    refine wp_facts3 (R := X) (pu := [1, 2, 3, 5, 6, 7, 11, 12, 13]) (front := [8, 0, 4, 9]) (tail := [10, 14, 15]) mixed (by kernel_rfl) (by (repeat (first | with_reducible exact NoPanic.post_ | with_reducible apply NoPanic.then_ | with_reducible apply NoPanic.blk))) X.refl (fun _ _ _ => X.trans) (X.drew _) ?_
    repeat ((with_reducible refine TP.step ?_); first
      | (with_reducible first | refine E.move ?_ | refine E.assign ?_ | refine E.pickT ?_ | refine E.pickF ?_ | refine E.lss ?_ | refine E.gtr ?_ | refine E.leq ?_ | refine E.geq ?_ | refine E.eqT ?_ | refine E.neF ?_ | refine E.eql ?_ | refine E.neq ?_ | refine E.add ?_ | refine E.sub ?_ | refine E.mul ?_ | refine E.conv ?_ | refine E.shr1 ?_ | refine E.neg ?_ | refine E.not ?_ | refine E.extract ?_ | refine E.len ?_ | refine E.fld ?_ | refine E.index ?_ | refine E.skp ?_ | refine E.sliceTo ?_ | refine E.sliceFrom ?_ | refine E.eqNil ?_ | refine E.eqbT ?_ | refine E.nebF ?_ | refine E.eqb ?_ | refine E.neb ?_))
    refine TP.done ?_
    repeat ((with_reducible refine TC.step ?_); first
      | refine D.lds (cs := x.cs) (by rfl) stPod hwx X.refl (by rfl) (by rfl) ?_
      | ((with_reducible apply D.nilPods (B := w3.heap.size)); exact Nat.le_refl _; exact rfl; exact rfl)
      | ((with_reducible apply D.appE (M := out.take a)); exact rfl; exact rfl; exact (fun w' hx => ((hO.ps.below (hx3.trans hx)).more (hx3.trans hx).le).take ha); (rw [List.length_take]; omega); exact rfl; exact rfl)
      | ((with_reducible apply D.onePod (p := x)); exact rfl; exact rfl; exact rfl)
      | (with_reducible first | refine D.move ?_ | refine D.assign ?_ | refine D.pickT ?_ | refine D.pickF ?_ | refine D.lss ?_ | refine D.gtr ?_ | refine D.leq ?_ | refine D.geq ?_ | refine D.eqT ?_ | refine D.neF ?_ | refine D.eql ?_ | refine D.neq ?_ | refine D.add ?_ | refine D.sub ?_ | refine D.mul ?_ | refine D.conv ?_ | refine D.shr1 ?_ | refine D.neg ?_ | refine D.not ?_ | refine D.extract ?_ | refine D.len ?_ | refine D.fld ?_ | refine D.index ?_ | refine D.skp ?_ | refine D.sliceTo ?_ | refine D.sliceFrom ?_ | refine D.eqNil ?_ | refine D.eqbT ?_ | refine D.nebF ?_ | refine D.eqb ?_ | refine D.neb ?_))
    refine TC.pr 35 (by rfl) fun v1 => TC.pr 40 (by rfl) fun v2 => TC.tail3 (by rfl) (by rfl) (by rfl) fun w4 h4 => ?_
    obtain ⟨⟨hx4, h1⟩, h2⟩ := h4
    have hX3 := hx1.trans hx3
    refine S.app (L := out.take a) (M := [x]) (by rfl) (by rfl) h1 h2 (by rw [List.length_take]; simp; omega) hx4.le (by rfl) (by rfl) ?_
    intro v3 w5 hO5 hg5 hat5
    have hX5 := below_own hx4 h1 hg5 hx4.le
    have hd : PS w5 w3.heap.size (.slice (if c' = a then A' else A'.map (·.add (a * 9))) (out.length - a) (c' - a)) (out.drop a) :=
      (((hO.ps.below hx3).more hx3.le).below hX5).drop ha
    refine S.app (L := out.take a ++ [x]) (M := out.drop a) (by rfl) (by rfl) hO5 hd (by rw [List.length_append, List.length_take, List.length_drop]; simp; omega) hX5.size (by rfl) (by rfl) ?_
    intro v6 w6 hO6 hg6 hat6
    have hX6 : X w3 w6 := below_own hX5 hO5 hg6 hX5.size
    have hO7 := hO6.low hX3.le
    repeat (first
 | (with_reducible first
 | apply CW.seq | apply CW.region | apply CW.block | apply CW.ret | apply CW.skip | apply CW.label | apply CW.exit
 | apply W.nil | apply Fin.seq | apply Fin.then_ret | apply Fin.then_exit | apply Fin.blk_ret | apply Fin.blk_normal | apply Fin.blk_here)
 | (with_reducible first | refine S.move ?_ | refine S.assign ?_ | refine S.pickT ?_ | refine S.pickF ?_ | refine S.lss ?_ | refine S.gtr ?_ | refine S.leq ?_ | refine S.geq ?_ | refine S.eqT ?_ | refine S.neF ?_ | refine S.eql ?_ | refine S.neq ?_ | refine S.add ?_ | refine S.sub ?_ | refine S.mul ?_ | refine S.conv ?_ | refine S.shr1 ?_ | refine S.neg ?_ | refine S.not ?_ | refine S.extract ?_ | refine S.len ?_ | refine S.fld ?_ | refine S.index ?_ | refine S.skp ?_ | refine S.sliceTo ?_ | refine S.sliceFrom ?_ | refine S.eqNil ?_ | refine S.eqbT ?_ | refine S.nebF ?_ | refine S.eqb ?_ | refine S.neb ?_)
 | ((with_reducible apply CW.cond_true); exact rfl)
 | ((with_reducible apply CW.cond_false); exact rfl)
 | ((with_reducible apply Fin.blk_far); exact rfl))
    refine Fin.round (k + 1, v6) (by simp only; omega) (by repeat (first | exact trivial | refine ⟨rfl, ?_⟩)) ⟨hX3.trans hX6, hk', ?_⟩
    simp only
    rw [hst, insR, hpos]
    simpa using hO7
  · have h := of_decide_eq_false h
    have hk2 : k = L.length := by omega
    subst hk2
    repeat (first
 | (with_reducible first
 | apply CW.seq | apply CW.region | apply CW.block | apply CW.ret | apply CW.skip | apply CW.label | apply CW.exit
 | apply W.nil | apply Fin.seq | apply Fin.then_ret | apply Fin.then_exit | apply Fin.blk_ret | apply Fin.blk_normal | apply Fin.blk_here)
 | (with_reducible first | refine S.move ?_ | refine S.assign ?_ | refine S.pickT ?_ | refine S.pickF ?_ | refine S.lss ?_ | refine S.gtr ?_ | refine S.leq ?_ | refine S.geq ?_ | refine S.eqT ?_ | refine S.neF ?_ | refine S.eql ?_ | refine S.neq ?_ | refine S.add ?_ | refine S.sub ?_ | refine S.mul ?_ | refine S.conv ?_ | refine S.shr1 ?_ | refine S.neg ?_ | refine S.not ?_ | refine S.extract ?_ | refine S.len ?_ | refine S.fld ?_ | refine S.index ?_ | refine S.skp ?_ | refine S.sliceTo ?_ | refine S.sliceFrom ?_ | refine S.eqNil ?_ | refine S.eqbT ?_ | refine S.nebF ?_ | refine S.eqb ?_ | refine S.neb ?_)
 | ((with_reducible apply CW.cond_true); exact rfl)
 | ((with_reducible apply CW.cond_false); exact rfl)
 | ((with_reducible apply Fin.blk_far); exact rfl))
    (with_reducible apply R.r1); exact rfl; exact rfl
    exact ⟨hO, hx1⟩

end Go.Proofs.YtmilpjkjcanghaaDoor

/- Clone; the pods with a lesser priority. -/
import Derived.Test.YtmilpjkjcanghaaDoorRank6
namespace Go.Proofs.YtmilpjkjcanghaaDoor
open Go.RowKit
set_option linter.unusedVariables false
set_option linter.unusedSimpArgs false

theorem Blk.ps {w : World} {b c : Nat} {L : List PV} (h : Blk w b 30 (flat L)) (hc : L.length ≤ c) : PS w w.heap.size (.slice (some ⟨b, 0, none⟩) L.length c) L :=
  ⟨_, c, rfl, hc, fun _ => ⟨b, 0, rfl, h.lt, fun i p k u hi hk => by rw [Nat.zero_add]; exact h.cell (flat_get hi hk)⟩⟩

theorem ownP_new (w : World) (B : Nat) (L : List PV) (hB : B ≤ w.heap.size) (hn : L.length ≤ 1000) : OwnP (w.alloc (.cells (flat L).toArray 30)) B (.slice (some ⟨w.heap.size, 0, none⟩) L.length L.length) L := by
  refine ⟨flat_length L, .inr ⟨w.heap.size, L.length, (flat L).toArray, rfl, hB, heap_alloc_new w _, Nat.le_refl _, ?_, ?_, ?_⟩⟩
  · unfold maxLen; omega
  · simp [flat_length]
  · simp only [List.toList_toArray]
    exact List.take_of_length_le (by rw [flat_length]; omega)

/-- Slices of pods, as facts that last. -/
def pE (B : Nat) (v : Value) (w : World) : Prop := ∃ g, v = .slice (some ⟨g, 0, none⟩) 0 0 ∧ Blk w g 30 [] ∧ B ≤ g
def pO (B : Nat) (L : List PV) (v : Value) (w : World) : Prop := OwnP w B v L
def pP (L : List PV) (v : Value) (w : World) : Prop := PS w w.heap.size v L
theorem pE.lasts {B : Nat} : ∀ v w w', X w w' → pE B v w → pE B v w' := fun v w w' hx ⟨g, h1, h2, h3⟩ => ⟨g, h1, h2.x hx, h3⟩
theorem pO.lasts {B : Nat} {L : List PV} : ∀ v w w', X w w' → pO B L v w → pO B L v w' := fun v w w' hx h => OwnP.x h hx
theorem pP.lasts {L : List PV} : ∀ v w w', X w w' → pP L v w → pP L v w' := fun v w w' hx h => (PS.below h hx).more hx.le

section
variable {w0 : World} {ops : Array Oper} {env : Env} {N : Nat} {Post : SEnv → Prop} {rest : List Nat} {Γ : SEnv} {ty : TypeId} {pos : String} {aft : Array Edge} {g : Option (Nat × Bool)} {d : Nat}

/-- '[]Pod{}' -/
theorem D.nilPods {B : Nat} (hB : B ≤ w0.heap.size) (hg : wantS ops Γ env g = some true) (hd : Nat.blt d N = true) (K : TC Tryd.prog X w0 ops env N Post rest ((d, .pr (pE B)) :: Γ)) :
    TC1 Tryd.prog X w0 ops env N Post rest Γ { dst := some d, op := .buildSlice 22 0 #[], type := ty, pos, after := aft, guard := g } :=
  D.mk (pE B) pE.lasts hg hd (fun w hx => ⟨_, _, op_buildSlice (cs := []) Tryd.underlying22 zPod rfl rfl (by rfl) rfl (by simp) rfl rfl, X.alloc _ _, _, rfl, Blk.new w _ _, by have := hx.le; omega⟩) K

/-- '[]Pod{x}' -/
theorem D.onePod {p : PV} {t : Nat} (ht : opL Γ env (.tmp t) = some p.v) (hg : wantS ops Γ env g = some true) (hd : Nat.blt d N = true) (K : TC Tryd.prog X w0 ops env N Post rest ((d, .pr (pP [p])) :: Γ)) :
    TC1 Tryd.prog X w0 ops env N Post rest Γ { dst := some d, op := .buildSlice 22 1 #[(0, .tmp t)], type := ty, pos, after := aft, guard := g } :=
  D.mk (pP [p]) pP.lasts hg hd (fun w hx => ⟨_, _, op_buildSlice (cs := flat [p]) Tryd.underlying22 zPod rfl rfl (by simp [evP, ht]; rfl) rfl (by simp [Value.cells, PV.cs, PV.v]) rfl rfl, X.alloc _ _, by
    exact (Blk.new w _ _).ps (L := [p]) (Nat.le_refl _)⟩) K

/-- 'append([]Pod{}, l...)' -/
theorem D.appE {B : Nat} {s : Nat} {x : Operand} {u : Value} {M : List PV} (hs : lookS Γ env s = some (.pr (pE B))) (hx : opL Γ env x = some u) (hm : ∀ w, X w0 w → pP M u w) (hn : M.length ≤ 1000) (hg : wantS ops Γ env g = some true) (hd : Nat.blt d N = true)
    (K : TC Tryd.prog X w0 ops env N Post rest ((d, .pr (pO B M)) :: Γ)) :
    TC1 Tryd.prog X w0 ops env N Post rest Γ { dst := some d, op := .call { callee := .builtin .append, args := #[.tmp s, x], argTypes := #[22, 22] }, type := ty, pos, after := aft, guard := g } :=
  D.one (pO B M) pO.lasts hg hd (fun ev w hr he hp => by
    obtain ⟨gb, e1, h2, h3⟩ := hp s _ (by simp [Op.operands, Call.operands]) hs
    obtain ⟨v', w', hrun, h4, h5⟩ := run_append_E h2 h3 (hm w hr) hn ty
    unfold OpT
    simp [execOp, resolve, invoke, builtin, he x _ hx, e1, hrun]
    exact ⟨h5, h4⟩) K
end

theorem Clone_calls (l : Value) (L : List PV) (w : World) (hl : PS w w.heap.size l L) (hn : L.length ≤ 1000) :
    CallsR Tryd.prog 36 [l] w fun v w' => OwnP w' w.heap.size v L ∧ X w w' := by
  have hl0 := hl
  obtain ⟨A, c, rfl, hc, hat⟩ := hl.open_
  refine enter1 Tryd.func36 rfl Tryd.ntmps36 rfl ?_
  repeat (first
 | (with_reducible first
 | apply CW.seq | apply CW.region | apply CW.block | apply CW.ret | apply CW.skip | apply CW.label | apply CW.exit
 | apply W.nil | apply Fin.seq | apply Fin.then_ret | apply Fin.then_exit | apply Fin.blk_ret | apply Fin.blk_normal | apply Fin.blk_here)
 | (with_reducible first | refine S.move ?_ | refine S.assign ?_ | refine S.pickT ?_ | refine S.pickF ?_ | refine S.lss ?_ | refine S.gtr ?_ | refine S.leq ?_ | refine S.geq ?_ | refine S.eqT ?_ | refine S.neF ?_ | refine S.eql ?_ | refine S.neq ?_ | refine S.add ?_ | refine S.sub ?_ | refine S.mul ?_ | refine S.conv ?_ | refine S.shr1 ?_ | refine S.neg ?_ | refine S.not ?_ | refine S.extract ?_ | refine S.len ?_ | refine S.fld ?_ | refine S.index ?_ | refine S.skp ?_ | refine S.sliceTo ?_ | refine S.sliceFrom ?_ | refine S.eqNil ?_ | refine S.eqbT ?_ | refine S.nebF ?_ | refine S.eqb ?_ | refine S.neb ?_)
 | ((with_reducible apply CW.cond_true); exact rfl)
 | ((with_reducible apply CW.cond_false); exact rfl)
 | ((with_reducible apply Fin.blk_far); exact rfl))
  refine CW.cond (by rfl) (fun h => ?_) (fun h => ?_)
  · repeat (first
 | (with_reducible first
 | apply CW.seq | apply CW.region | apply CW.block | apply CW.ret | apply CW.skip | apply CW.label | apply CW.exit
 | apply W.nil | apply Fin.seq | apply Fin.then_ret | apply Fin.then_exit | apply Fin.blk_ret | apply Fin.blk_normal | apply Fin.blk_here)
 | (with_reducible first | refine S.move ?_ | refine S.assign ?_ | refine S.pickT ?_ | refine S.pickF ?_ | refine S.lss ?_ | refine S.gtr ?_ | refine S.leq ?_ | refine S.geq ?_ | refine S.eqT ?_ | refine S.neF ?_ | refine S.eql ?_ | refine S.neq ?_ | refine S.add ?_ | refine S.sub ?_ | refine S.mul ?_ | refine S.conv ?_ | refine S.shr1 ?_ | refine S.neg ?_ | refine S.not ?_ | refine S.extract ?_ | refine S.len ?_ | refine S.fld ?_ | refine S.index ?_ | refine S.skp ?_ | refine S.sliceTo ?_ | refine S.sliceFrom ?_ | refine S.eqNil ?_ | refine S.eqbT ?_ | refine S.nebF ?_ | refine S.eqb ?_ | refine S.neb ?_)
 | ((with_reducible apply CW.cond_true); exact rfl)
 | ((with_reducible apply CW.cond_false); exact rfl)
 | ((with_reducible apply Fin.blk_far); exact rfl))
    (with_reducible apply R.r1); exact rfl; exact rfl
    have hA : A = none := by simpa using h
    subst hA
    have hL : L = [] := by
      cases L with
      | nil => rfl
      | cons p r => obtain ⟨b, o, e, _⟩ := hat 0 (by simp); cases e
    subst hL
    exact ⟨OwnP.nil _ _, X.refl _⟩
  · repeat (first
 | (with_reducible first
 | apply CW.seq | apply CW.region | apply CW.block | apply CW.ret | apply CW.skip | apply CW.label | apply CW.exit
 | apply W.nil | apply Fin.seq | apply Fin.then_ret | apply Fin.then_exit | apply Fin.blk_ret | apply Fin.blk_normal | apply Fin.blk_here)
 | (with_reducible first | refine S.move ?_ | refine S.assign ?_ | refine S.pickT ?_ | refine S.pickF ?_ | refine S.lss ?_ | refine S.gtr ?_ | refine S.leq ?_ | refine S.geq ?_ | refine S.eqT ?_ | refine S.neF ?_ | refine S.eql ?_ | refine S.neq ?_ | refine S.add ?_ | refine S.sub ?_ | refine S.mul ?_ | refine S.conv ?_ | refine S.shr1 ?_ | refine S.neg ?_ | refine S.not ?_ | refine S.extract ?_ | refine S.len ?_ | refine S.fld ?_ | refine S.index ?_ | refine S.skp ?_ | refine S.sliceTo ?_ | refine S.sliceFrom ?_ | refine S.eqNil ?_ | refine S.eqbT ?_ | refine S.nebF ?_ | refine S.eqb ?_ | refine S.neb ?_)
 | ((with_reducible apply CW.cond_true); exact rfl)
 | ((with_reducible apply CW.cond_false); exact rfl)
 | ((with_reducible apply Fin.blk_far); exact rfl))
    refine W.makes (d := some 5) (op_buildSlice (cs := []) Tryd.underlying22 zPod rfl rfl (by rfl) rfl (by simp) rfl rfl) (by rfl) (by rfl) ?_
    have hO := ownP_new w w.heap.size [] (Nat.le_refl _) (by simp)
    have hX := X.alloc w (.cells (flat []).toArray 30)
    simp only [flat_nil] at hO hX
    generalize w.alloc (.cells [].toArray 30) = w1 at *
    repeat (first
 | (with_reducible first
 | apply CW.seq | apply CW.region | apply CW.block | apply CW.ret | apply CW.skip | apply CW.label | apply CW.exit
 | apply W.nil | apply Fin.seq | apply Fin.then_ret | apply Fin.then_exit | apply Fin.blk_ret | apply Fin.blk_normal | apply Fin.blk_here)
 | (with_reducible first | refine S.move ?_ | refine S.assign ?_ | refine S.pickT ?_ | refine S.pickF ?_ | refine S.lss ?_ | refine S.gtr ?_ | refine S.leq ?_ | refine S.geq ?_ | refine S.eqT ?_ | refine S.neF ?_ | refine S.eql ?_ | refine S.neq ?_ | refine S.add ?_ | refine S.sub ?_ | refine S.mul ?_ | refine S.conv ?_ | refine S.shr1 ?_ | refine S.neg ?_ | refine S.not ?_ | refine S.extract ?_ | refine S.len ?_ | refine S.fld ?_ | refine S.index ?_ | refine S.skp ?_ | refine S.sliceTo ?_ | refine S.sliceFrom ?_ | refine S.eqNil ?_ | refine S.eqbT ?_ | refine S.nebF ?_ | refine S.eqb ?_ | refine S.neb ?_)
 | ((with_reducible apply CW.cond_true); exact rfl)
 | ((with_reducible apply CW.cond_false); exact rfl)
 | ((with_reducible apply Fin.blk_far); exact rfl))
    refine S.app (by rfl) (by rfl) hO (hl0.below hX) (by simp; omega) hX.le (by rfl) (by rfl) ?_
    intro v' w2 hO2 hg hat2
    repeat (first
 | (with_reducible first
 | apply CW.seq | apply CW.region | apply CW.block | apply CW.ret | apply CW.skip | apply CW.label | apply CW.exit
 | apply W.nil | apply Fin.seq | apply Fin.then_ret | apply Fin.then_exit | apply Fin.blk_ret | apply Fin.blk_normal | apply Fin.blk_here)
 | (with_reducible first | refine S.move ?_ | refine S.assign ?_ | refine S.pickT ?_ | refine S.pickF ?_ | refine S.lss ?_ | refine S.gtr ?_ | refine S.leq ?_ | refine S.geq ?_ | refine S.eqT ?_ | refine S.neF ?_ | refine S.eql ?_ | refine S.neq ?_ | refine S.add ?_ | refine S.sub ?_ | refine S.mul ?_ | refine S.conv ?_ | refine S.shr1 ?_ | refine S.neg ?_ | refine S.not ?_ | refine S.extract ?_ | refine S.len ?_ | refine S.fld ?_ | refine S.index ?_ | refine S.skp ?_ | refine S.sliceTo ?_ | refine S.sliceFrom ?_ | refine S.eqNil ?_ | refine S.eqbT ?_ | refine S.nebF ?_ | refine S.eqb ?_ | refine S.neb ?_)
 | ((with_reducible apply CW.cond_true); exact rfl)
 | ((with_reducible apply CW.cond_false); exact rfl)
 | ((with_reducible apply Fin.blk_far); exact rfl))
    (with_reducible apply R.r1); exact rfl; exact rfl
    exact ⟨by simpa using hO2, below_own hX hO hg hX.le⟩

end Go.Proofs.YtmilpjkjcanghaaDoor

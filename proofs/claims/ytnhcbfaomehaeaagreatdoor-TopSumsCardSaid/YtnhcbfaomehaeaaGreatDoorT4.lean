/- slices.ContainsFunc over many vectors; slices that are made; one cell that is stored. -/
import Derived.Test.YtnhcbfaomehaeaaGreatDoorT3
namespace Go.Proofs.YtnhcbfaomehaeaaGreatDoor
open Go.RowKit
set_option linter.unusedVariables false
set_option linter.unusedSimpArgs false
set_option maxRecDepth 100000

/-- k vectors of two numbers. -/
def VC (w : World) (Bl k a : Nat) : Prop := ∀ j, j < k → ∃ b, w.cell? ⟨Bl, 0 + j * 1, none⟩ = some (.slice (some ⟨b, 0, none⟩) 2 2) ∧ w.cell? ⟨b, 0 + 0 * 1, none⟩ = some (.int .i64 (a : Int)) ∧ w.cell? ⟨b, 0 + 1 * 1, none⟩ = some (.int .i64 ((1099511627776 : Nat) : Int))

theorem VC.x {w w' : World} {Bl k a : Nat} (h : VC w Bl k a) (hx : X w w') : VC w' Bl k a := fun j hj => by
  obtain ⟨b, h1, h2, h3⟩ := h j hj
  exact ⟨b, (hx.cell (p := ⟨Bl, 0 + j * 1, none⟩) (World.block_lt_of_cell? w _ h1)).trans h1, (hx.cell (p := ⟨b, 0 + 0 * 1, none⟩) (World.block_lt_of_cell? w _ h2)).trans h2, (hx.cell (p := ⟨b, 0 + 1 * 1, none⟩) (World.block_lt_of_cell? w _ h3)).trans h3⟩

theorem oneVs : ∃ d, Tryz.prog.underlying 24 = some d ∧ oneDesc d = true := ⟨_, Tryz.underlying24, rfl⟩
theorem ent9 : Go.Proofs.Enters Tryz.prog 9 := Go.Proofs.enters_of Tryz.func9 (by kernel_rfl) rfl
theorem ent18 : Go.Proofs.Enters Tryz.prog 18 := Go.Proofs.enters_of Tryz.func18 (by kernel_rfl) rfl
theorem ent8 : Go.Proofs.Enters Tryz.prog 8 := Go.Proofs.enters_of Tryz.func8 (by kernel_rfl) rfl
theorem ent10 : Go.Proofs.Enters Tryz.prog 10 := Go.Proofs.enters_of Tryz.func10 (by kernel_rfl) rfl

theorem Add1_calls (w : World) {bx Bl k a b : Nat} (hb : w.cell? ⟨bx, 0, none⟩ = some (.slice (some ⟨Bl, 0, none⟩) k k)) (hv : VC w Bl k a) (hk : 0 < k) :
    CallsR Tryz.prog 9 [.slice (some ⟨b, 0, none⟩) 2 2, .pointer (some ⟨bx, 0, none⟩)] w fun v w' => v = .bool false ∧ w' = w := by
  obtain ⟨b0, h1, _, _⟩ := hv 0 hk
  refine enter2 Tryz.func9 rfl Tryz.ntmps9 rfl ?_
  repeat (first
 | (with_reducible first
 | apply CW.seq | apply CW.region | apply CW.block | apply CW.ret | apply CW.skip | apply CW.label | apply CW.exit
 | apply W.nil | apply Fin.seq | apply Fin.then_ret | apply Fin.then_exit | apply Fin.blk_ret | apply Fin.blk_normal | apply Fin.blk_here)
 | (with_reducible first | refine S.move ?_ | refine S.assign ?_ | refine S.pickT ?_ | refine S.pickF ?_ | refine S.lss ?_ | refine S.gtr ?_ | refine S.leq ?_ | refine S.geq ?_ | refine S.eqT ?_ | refine S.neF ?_ | refine S.eql ?_ | refine S.neq ?_ | refine S.add ?_ | refine S.sub ?_ | refine S.mul ?_ | refine S.conv ?_ | refine S.shr1 ?_ | refine S.neg ?_ | refine S.not ?_ | refine S.extract ?_ | refine S.len ?_ | refine S.fld ?_ | refine S.index ?_ | refine S.skp ?_ | refine S.sliceTo ?_ | refine S.sliceFrom ?_ | refine S.eqNil ?_ | refine S.eqbT ?_ | refine S.nebF ?_ | refine S.eqb ?_ | refine S.neb ?_)
 | ((with_reducible apply CW.cond_true); exact rfl)
 | ((with_reducible apply CW.cond_false); exact rfl)
 | ((with_reducible apply Fin.blk_far); exact rfl))
  refine S.ld (by rfl) oneVs hb (by rfl) (by rfl) ?_
  refine W.pure (op_index' (i := 0) Tryz.underlying24 slVecs.2 (by rfl) (by rfl) hk) (by rfl) (by rfl) ?_
  refine S.ld (by rfl) oneSl h1 (by rfl) (by rfl) ?_
  repeat (first
 | (with_reducible first
 | apply CW.seq | apply CW.region | apply CW.block | apply CW.ret | apply CW.skip | apply CW.label | apply CW.exit
 | apply W.nil | apply Fin.seq | apply Fin.then_ret | apply Fin.then_exit | apply Fin.blk_ret | apply Fin.blk_normal | apply Fin.blk_here)
 | (with_reducible first | refine S.move ?_ | refine S.assign ?_ | refine S.pickT ?_ | refine S.pickF ?_ | refine S.lss ?_ | refine S.gtr ?_ | refine S.leq ?_ | refine S.geq ?_ | refine S.eqT ?_ | refine S.neF ?_ | refine S.eql ?_ | refine S.neq ?_ | refine S.add ?_ | refine S.sub ?_ | refine S.mul ?_ | refine S.conv ?_ | refine S.shr1 ?_ | refine S.neg ?_ | refine S.not ?_ | refine S.extract ?_ | refine S.len ?_ | refine S.fld ?_ | refine S.index ?_ | refine S.skp ?_ | refine S.sliceTo ?_ | refine S.sliceFrom ?_ | refine S.eqNil ?_ | refine S.eqbT ?_ | refine S.nebF ?_ | refine S.eqb ?_ | refine S.neb ?_)
 | ((with_reducible apply CW.cond_true); exact rfl)
 | ((with_reducible apply CW.cond_false); exact rfl)
 | ((with_reducible apply Fin.blk_far); exact rfl))
  (with_reducible apply R.r1); exact rfl; exact rfl
  exact ⟨rfl, rfl⟩

theorem Index_calls (w : World) {bx Bl k a : Nat} (hb : w.cell? ⟨bx, 0, none⟩ = some (.slice (some ⟨Bl, 0, none⟩) k k)) (hv : VC w Bl k a) (hk : k ≤ 65536) :
    CallsR Tryz.prog 18 [.slice (some ⟨Bl, 0, none⟩) k k, .func (.func 9) #[] #[.pointer (some ⟨bx, 0, none⟩)]] w fun v w' => v = .int .i64 (-1) ∧ w' = w := by
  refine enter2 Tryz.func18 rfl Tryz.ntmps18 rfl ?_
  repeat (first
 | (with_reducible first
 | apply CW.seq | apply CW.region | apply CW.block | apply CW.ret | apply CW.skip | apply CW.label | apply CW.exit
 | apply W.nil | apply Fin.seq | apply Fin.then_ret | apply Fin.then_exit | apply Fin.blk_ret | apply Fin.blk_normal | apply Fin.blk_here)
 | (with_reducible first | refine S.move ?_ | refine S.assign ?_ | refine S.pickT ?_ | refine S.pickF ?_ | refine S.lss ?_ | refine S.gtr ?_ | refine S.leq ?_ | refine S.geq ?_ | refine S.eqT ?_ | refine S.neF ?_ | refine S.eql ?_ | refine S.neq ?_ | refine S.add ?_ | refine S.sub ?_ | refine S.mul ?_ | refine S.conv ?_ | refine S.shr1 ?_ | refine S.neg ?_ | refine S.not ?_ | refine S.extract ?_ | refine S.len ?_ | refine S.fld ?_ | refine S.index ?_ | refine S.skp ?_ | refine S.sliceTo ?_ | refine S.sliceFrom ?_ | refine S.eqNil ?_ | refine S.eqbT ?_ | refine S.nebF ?_ | refine S.eqb ?_ | refine S.neb ?_)
 | ((with_reducible apply CW.cond_true); exact rfl)
 | ((with_reducible apply CW.cond_false); exact rfl)
 | ((with_reducible apply Fin.blk_far); exact rfl))
  refine S.len ?_ (h1 := Tryz.underlying24)
  repeat (first
 | (with_reducible first
 | apply CW.seq | apply CW.region | apply CW.block | apply CW.ret | apply CW.skip | apply CW.label | apply CW.exit
 | apply W.nil | apply Fin.seq | apply Fin.then_ret | apply Fin.then_exit | apply Fin.blk_ret | apply Fin.blk_normal | apply Fin.blk_here)
 | (with_reducible first | refine S.move ?_ | refine S.assign ?_ | refine S.pickT ?_ | refine S.pickF ?_ | refine S.lss ?_ | refine S.gtr ?_ | refine S.leq ?_ | refine S.geq ?_ | refine S.eqT ?_ | refine S.neF ?_ | refine S.eql ?_ | refine S.neq ?_ | refine S.add ?_ | refine S.sub ?_ | refine S.mul ?_ | refine S.conv ?_ | refine S.shr1 ?_ | refine S.neg ?_ | refine S.not ?_ | refine S.extract ?_ | refine S.len ?_ | refine S.fld ?_ | refine S.index ?_ | refine S.skp ?_ | refine S.sliceTo ?_ | refine S.sliceFrom ?_ | refine S.eqNil ?_ | refine S.eqbT ?_ | refine S.nebF ?_ | refine S.eqb ?_ | refine S.neb ?_)
 | ((with_reducible apply CW.cond_true); exact rfl)
 | ((with_reducible apply CW.cond_false); exact rfl)
 | ((with_reducible apply Fin.blk_far); exact rfl))
  refine CW.loop (ι := Nat) (fun j => [(8, .int .i64 (j : Int)), (7, .int .i64 (k : Int)), (0, .slice (some ⟨Bl, 0, none⟩) k k), (1, .func (.func 9) #[] #[.pointer (some ⟨bx, 0, none⟩)])]) (fun j w' => w' = w ∧ j ≤ k) (fun j => k - j) ?_ 0 (by repeat (first | exact trivial | refine ⟨rfl, ?_⟩)) ⟨rfl, Nat.zero_le _⟩
  rintro j w' ⟨rfl, hj⟩
  repeat (first
 | (with_reducible first
 | apply CW.seq | apply CW.region | apply CW.block | apply CW.ret | apply CW.skip | apply CW.label | apply CW.exit
 | apply W.nil | apply Fin.seq | apply Fin.then_ret | apply Fin.then_exit | apply Fin.blk_ret | apply Fin.blk_normal | apply Fin.blk_here)
 | (with_reducible first | refine S.move ?_ | refine S.assign ?_ | refine S.pickT ?_ | refine S.pickF ?_ | refine S.lss ?_ | refine S.gtr ?_ | refine S.leq ?_ | refine S.geq ?_ | refine S.eqT ?_ | refine S.neF ?_ | refine S.eql ?_ | refine S.neq ?_ | refine S.add ?_ | refine S.sub ?_ | refine S.mul ?_ | refine S.conv ?_ | refine S.shr1 ?_ | refine S.neg ?_ | refine S.not ?_ | refine S.extract ?_ | refine S.len ?_ | refine S.fld ?_ | refine S.index ?_ | refine S.skp ?_ | refine S.sliceTo ?_ | refine S.sliceFrom ?_ | refine S.eqNil ?_ | refine S.eqbT ?_ | refine S.nebF ?_ | refine S.eqb ?_ | refine S.neb ?_)
 | ((with_reducible apply CW.cond_true); exact rfl)
 | ((with_reducible apply CW.cond_false); exact rfl)
 | ((with_reducible apply Fin.blk_far); exact rfl))
  refine CW.cond (by rfl) (fun h1 => ?_) (fun h1 => ?_)
  · have h1 := of_decide_eq_true h1
    have h1 : j < k := by omega
    obtain ⟨b, hb1, hb2⟩ := hv j h1
    repeat (first
 | (with_reducible first
 | apply CW.seq | apply CW.region | apply CW.block | apply CW.ret | apply CW.skip | apply CW.label | apply CW.exit
 | apply W.nil | apply Fin.seq | apply Fin.then_ret | apply Fin.then_exit | apply Fin.blk_ret | apply Fin.blk_normal | apply Fin.blk_here)
 | (with_reducible first | refine S.move ?_ | refine S.assign ?_ | refine S.pickT ?_ | refine S.pickF ?_ | refine S.lss ?_ | refine S.gtr ?_ | refine S.leq ?_ | refine S.geq ?_ | refine S.eqT ?_ | refine S.neF ?_ | refine S.eql ?_ | refine S.neq ?_ | refine S.add ?_ | refine S.sub ?_ | refine S.mul ?_ | refine S.conv ?_ | refine S.shr1 ?_ | refine S.neg ?_ | refine S.not ?_ | refine S.extract ?_ | refine S.len ?_ | refine S.fld ?_ | refine S.index ?_ | refine S.skp ?_ | refine S.sliceTo ?_ | refine S.sliceFrom ?_ | refine S.eqNil ?_ | refine S.eqbT ?_ | refine S.nebF ?_ | refine S.eqb ?_ | refine S.neb ?_)
 | ((with_reducible apply CW.cond_true); exact rfl)
 | ((with_reducible apply CW.cond_false); exact rfl)
 | ((with_reducible apply Fin.blk_far); exact rfl))
    refine W.pure (op_index' Tryz.underlying24 slVecs.2 (by rfl) (by rfl) h1) (by rfl) (by rfl) ?_
    refine S.ld (by rfl) oneSl hb1 (by rfl) (by rfl) ?_
    refine S.cl (op_callc (vs := [.slice (some ⟨b, 0, none⟩) 2 2]) (cap := [.pointer (some ⟨bx, 0, none⟩)]) ent9 (by rfl) (by rfl) rfl) (by rfl) (by rfl) (Add1_calls w' hb hv (by omega)) ?_
    rintro v w2 ⟨rfl, rfl⟩
    repeat (first
 | (with_reducible first
 | apply CW.seq | apply CW.region | apply CW.block | apply CW.ret | apply CW.skip | apply CW.label | apply CW.exit
 | apply W.nil | apply Fin.seq | apply Fin.then_ret | apply Fin.then_exit | apply Fin.blk_ret | apply Fin.blk_normal | apply Fin.blk_here)
 | (with_reducible first | refine S.move ?_ | refine S.assign ?_ | refine S.pickT ?_ | refine S.pickF ?_ | refine S.lss ?_ | refine S.gtr ?_ | refine S.leq ?_ | refine S.geq ?_ | refine S.eqT ?_ | refine S.neF ?_ | refine S.eql ?_ | refine S.neq ?_ | refine S.add ?_ | refine S.sub ?_ | refine S.mul ?_ | refine S.conv ?_ | refine S.shr1 ?_ | refine S.neg ?_ | refine S.not ?_ | refine S.extract ?_ | refine S.len ?_ | refine S.fld ?_ | refine S.index ?_ | refine S.skp ?_ | refine S.sliceTo ?_ | refine S.sliceFrom ?_ | refine S.eqNil ?_ | refine S.eqbT ?_ | refine S.nebF ?_ | refine S.eqb ?_ | refine S.neb ?_)
 | ((with_reducible apply CW.cond_true); exact rfl)
 | ((with_reducible apply CW.cond_false); exact rfl)
 | ((with_reducible apply Fin.blk_far); exact rfl))
    refine Fin.round (j + 1) ?_ (by repeat (first | exact trivial | refine ⟨rfl, ?_⟩)) ⟨rfl, by omega⟩
    omega
  · have h1 := of_decide_eq_false h1
    repeat (first
 | (with_reducible first
 | apply CW.seq | apply CW.region | apply CW.block | apply CW.ret | apply CW.skip | apply CW.label | apply CW.exit
 | apply W.nil | apply Fin.seq | apply Fin.then_ret | apply Fin.then_exit | apply Fin.blk_ret | apply Fin.blk_normal | apply Fin.blk_here)
 | (with_reducible first | refine S.move ?_ | refine S.assign ?_ | refine S.pickT ?_ | refine S.pickF ?_ | refine S.lss ?_ | refine S.gtr ?_ | refine S.leq ?_ | refine S.geq ?_ | refine S.eqT ?_ | refine S.neF ?_ | refine S.eql ?_ | refine S.neq ?_ | refine S.add ?_ | refine S.sub ?_ | refine S.mul ?_ | refine S.conv ?_ | refine S.shr1 ?_ | refine S.neg ?_ | refine S.not ?_ | refine S.extract ?_ | refine S.len ?_ | refine S.fld ?_ | refine S.index ?_ | refine S.skp ?_ | refine S.sliceTo ?_ | refine S.sliceFrom ?_ | refine S.eqNil ?_ | refine S.eqbT ?_ | refine S.nebF ?_ | refine S.eqb ?_ | refine S.neb ?_)
 | ((with_reducible apply CW.cond_true); exact rfl)
 | ((with_reducible apply CW.cond_false); exact rfl)
 | ((with_reducible apply Fin.blk_far); exact rfl))
    (with_reducible apply R.r1); exact rfl; exact rfl
    exact ⟨rfl, rfl⟩

theorem Contains_calls (w : World) {bx Bl k a : Nat} (hb : w.cell? ⟨bx, 0, none⟩ = some (.slice (some ⟨Bl, 0, none⟩) k k)) (hv : VC w Bl k a) (hk : k ≤ 65536) :
    CallsR Tryz.prog 8 [.slice (some ⟨Bl, 0, none⟩) k k, .func (.func 9) #[] #[.pointer (some ⟨bx, 0, none⟩)]] w fun v w' => v = .bool false ∧ w' = w := by
  refine enter2 Tryz.func8 rfl Tryz.ntmps8 rfl ?_
  repeat (first
 | (with_reducible first
 | apply CW.seq | apply CW.region | apply CW.block | apply CW.ret | apply CW.skip | apply CW.label | apply CW.exit
 | apply W.nil | apply Fin.seq | apply Fin.then_ret | apply Fin.then_exit | apply Fin.blk_ret | apply Fin.blk_normal | apply Fin.blk_here)
 | (with_reducible first | refine S.move ?_ | refine S.assign ?_ | refine S.pickT ?_ | refine S.pickF ?_ | refine S.lss ?_ | refine S.gtr ?_ | refine S.leq ?_ | refine S.geq ?_ | refine S.eqT ?_ | refine S.neF ?_ | refine S.eql ?_ | refine S.neq ?_ | refine S.add ?_ | refine S.sub ?_ | refine S.mul ?_ | refine S.conv ?_ | refine S.shr1 ?_ | refine S.neg ?_ | refine S.not ?_ | refine S.extract ?_ | refine S.len ?_ | refine S.fld ?_ | refine S.index ?_ | refine S.skp ?_ | refine S.sliceTo ?_ | refine S.sliceFrom ?_ | refine S.eqNil ?_ | refine S.eqbT ?_ | refine S.nebF ?_ | refine S.eqb ?_ | refine S.neb ?_)
 | ((with_reducible apply CW.cond_true); exact rfl)
 | ((with_reducible apply CW.cond_false); exact rfl)
 | ((with_reducible apply Fin.blk_far); exact rfl))
  refine S.cl (op_call ent18 (by rfl) (by rfl)) (by rfl) (by rfl) (Index_calls w hb hv hk) ?_
  rintro v w2 ⟨rfl, rfl⟩
  repeat (first
 | (with_reducible first
 | apply CW.seq | apply CW.region | apply CW.block | apply CW.ret | apply CW.skip | apply CW.label | apply CW.exit
 | apply W.nil | apply Fin.seq | apply Fin.then_ret | apply Fin.then_exit | apply Fin.blk_ret | apply Fin.blk_normal | apply Fin.blk_here)
 | (with_reducible first | refine S.move ?_ | refine S.assign ?_ | refine S.pickT ?_ | refine S.pickF ?_ | refine S.lss ?_ | refine S.gtr ?_ | refine S.leq ?_ | refine S.geq ?_ | refine S.eqT ?_ | refine S.neF ?_ | refine S.eql ?_ | refine S.neq ?_ | refine S.add ?_ | refine S.sub ?_ | refine S.mul ?_ | refine S.conv ?_ | refine S.shr1 ?_ | refine S.neg ?_ | refine S.not ?_ | refine S.extract ?_ | refine S.len ?_ | refine S.fld ?_ | refine S.index ?_ | refine S.skp ?_ | refine S.sliceTo ?_ | refine S.sliceFrom ?_ | refine S.eqNil ?_ | refine S.eqbT ?_ | refine S.nebF ?_ | refine S.eqb ?_ | refine S.neb ?_)
 | ((with_reducible apply CW.cond_true); exact rfl)
 | ((with_reducible apply CW.cond_false); exact rfl)
 | ((with_reducible apply Fin.blk_far); exact rfl))
  (with_reducible apply R.r1); exact rfl; exact rfl
  exact ⟨rfl, rfl⟩

section
variable {P : Program} {ops : Array Oper} {Q : Exit → Act → World → Prop} {l : List Oper} {N : Nat} {env : Env} {w : World} {ty : TypeId} {pos : String} {aft : Array Edge} {gd : Option (Nat × Bool)}
theorem run_storeVar_one {t : TypeId} {g o : Nat} {t' : TypeId} {cs : List Value} {u : Value} (hB : Blk w g t' cs) (ho : o < cs.length) (hu : u.cells = #[u]) (h1 : u.oneCell' = true) (hsz : (P.info? t).map (·.size) = some (0 + 1)) :
    (storeVar t ⟨g, o, none⟩ u).run P w = .ok () (w.setRow g (cs.take o ++ [u] ++ cs.drop (o + 1)).toArray) := by
  cases hinf : P.info? t with
  | none => simp [hinf] at hsz
  | some inf =>
    have hs : inf.size = 1 := by rw [hinf] at hsz; simpa using hsz
    have h2 := run_storeCells_at P g o t' [u] 0 cs.toArray w hB (by simp; omega) (by simpa using h1)
    unfold storeVar
    simp [sizeOf, typeInfo, hinf, hs, hu, h2]
/-- A store of one cell into a block that is known whole. -/
theorem S.stC {t t' : TypeId} {b o : Nat} {x y : Operand} {cs : List Value} {u : Value} (hx : opv env x = some (.pointer (some ⟨b, o, none⟩))) (hy : opv env y = some u) (hB : Blk w b t' cs) (ho : o < cs.length) (hu : u.cells = #[u]) (h1 : u.oneCell' = true) (hsz : (P.info? t).map (·.size) = some (0 + 1))
    (hg : wantE ops env gd = some true) (K : ∀ w', w.grownBy w' (some b) → Blk w' b t' (cs.take o ++ [u] ++ cs.drop (o + 1)) → W P ops Q l N env w') :
    W P ops Q ({ dst := none, op := .store t x y, type := ty, pos, after := aft, guard := gd } :: l) N env w := by
  have hrun := run_storeVar_one (P := P) (t := t) hB ho hu h1 hsz
  exact W.writes (d := none) (w' := w.setRow b (cs.take o ++ [u] ++ cs.drop (o + 1)).toArray) (fun ev he d pos aft gd => by
    simp only [execOp, he x _ hx, he y _ hy, Instr.storeAt, Instr.sureAddr]
    simp [hrun]) hg rfl (K _ (grown_setRow w b _) (setRow_heap w b _ _ _ _ hB))

/-- A slice is made, of values of one cell. -/
theorem op_mk {L : Operand → Option Value} {x y : Operand} {t e n by_ : Nat} {z : Value} (ht : P.underlying t = some (.slice e)) (hi : (P.info? e).map (fun i => (i.size, i.bytes, i.zero)) = some (1, by_, some z)) (hz : z.cells = #[z])
    (hb : by_ ≤ 24) (hn : n ≤ 65536) (hx : L x = some (.int .i64 (n : Int))) (hy : L y = some (.int .i64 (n : Int))) :
    Makes P (.makeSlice t x y) ty L w (.value (.slice (some ⟨w.heap.size, 0, none⟩) n n)) (w.alloc (.cells (List.replicate n z).toArray e)) := fun ev he d pos aft g => by
  cases hinf : P.info? e with
  | none => simp [hinf] at hi
  | some i =>
    rw [hinf] at hi
    simp only [Option.map_some, Option.some.injEq, Prod.mk.injEq] at hi
    obtain ⟨h1, h2, h3⟩ := hi
    have hbc : i.bytes * n ≤ 24 * 65536 := Nat.mul_le_mul (by omega) hn
    have hbc' : (i.bytes : Int) * n ≤ 281474976710656 := by
      have : ((i.bytes * n : Nat) : Int) ≤ 281474976710656 := by omega
      rwa [Int.natCast_mul] at this
    have hrun := run_make (P := P) w t e i z ht hinf h3 .i64 .i64 n n (by omega) (by omega) hbc' (by omega)
    have hcells : madeCells z.cells (n * i.size) = Array.replicate n z := by
      rw [hz, h1, Nat.mul_one]
      unfold madeCells
      apply Array.ext
      · simp
      · intro k hk1 hk2
        simp [Nat.mod_one]
    simp only [Int.toNat_natCast, hcells] at hrun
    simp [execOp, he x _ hx, he y _ hy, hrun]
end

end Go.Proofs.YtnhcbfaomehaeaaGreatDoor

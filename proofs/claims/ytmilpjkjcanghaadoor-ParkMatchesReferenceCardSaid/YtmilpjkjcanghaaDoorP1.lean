/- The lot in memory; New, Add. -/
import Derived.Test.YtmilpjkjcanghaaDoorPStep
import Derived.Test.YtmilpjkjcanghaaDoorDraw2
namespace Go.Proofs.YtmilpjkjcanghaaDoor
open Go.RowKit
set_option linter.unusedVariables false
set_option linter.unusedSimpArgs false

theorem G.pb {g r clock : Nat} {w w' : World} {M : List PE} (h : G g w w') (hM : PB w r M clock) (hne : r ≠ g) : PB w' r M clock := (World.grownBy.block h r hM.lt (by simpa using hne)).trans hM

structure LI (w : World) (B b0 bm : Nat) (M : List PE) (O : Nat → Prop) : Prop where
  blk : Blk w b0 55 [.map (some bm)]
  map : ∃ clock, PB w bm M clock ∧ LM M clock
  o0 : O b0
  om : O bm
  rq : ∀ t ∈ M, RK w (fun b => O b ∧ b ≠ b0 ∧ b ≠ bm) t.p
  lo : ∀ b, O b → B ≤ b ∧ b < w.heap.size
theorem LI.ne {w : World} {B b0 bm : Nat} {M : List PE} {O : Nat → Prop} (h : LI w B b0 bm M O) : b0 ≠ bm := by
  intro e
  obtain ⟨c, h1, _⟩ := h.map
  have h2 := h.blk
  unfold Blk at h2
  unfold PB at h1
  rw [e, h1] at h2
  cases h2
theorem LI.cm {w : World} {B b0 bm : Nat} {M : List PE} {O : Nat → Prop} (h : LI w B b0 bm M O) : w.cell? ⟨b0, 0 + 0, none⟩ = some (.map (some bm)) := h.blk.cell rfl
/-- A parked pod as data. -/
def abE (w : World) (t : PE) : AP × Int := (ab w t.p, t.r)
/-- The lot holds A. -/
def LA (w : World) (B b0 : Nat) (O : Nat → Prop) (A : List (AP × Int)) : Prop := ∃ bm M, LI w B b0 bm M O ∧ M.map (abE w) = A
theorem LI.keep {w w' : World} {B b0 bm : Nat} {M : List PE} {O : Nat → Prop} (h : LI w B b0 bm M O) (hsz : w.heap.size ≤ w'.heap.size) (hs : ∀ k, k < w.heap.size → O k → w'.heap[k]? = w.heap[k]?) : LI w' B b0 bm M O := by
  obtain ⟨c, hM, hL⟩ := h.map
  exact ⟨(hs b0 h.blk.lt h.o0).trans h.blk, ⟨c, (hs bm hM.lt h.om).trans hM, hL⟩, h.o0, h.om, fun t ht => ((h.rq t ht).keep fun k hk hK => hs k hk hK.1).1, fun b hb => ⟨(h.lo b hb).1, Nat.lt_of_lt_of_le (h.lo b hb).2 hsz⟩⟩
theorem abE_keep {w w' : World} {K : PE → Nat → Prop} {M : List PE} (h : ∀ t ∈ M, RK w (K t) t.p) (hs : ∀ t ∈ M, ∀ k, k < w.heap.size → K t k → w'.heap[k]? = w.heap[k]?) : M.map (abE w') = M.map (abE w) :=
  List.map_congr_left fun t ht => by unfold abE; rw [((h t ht).keep (hs t ht)).2]
theorem LA.keep {w w' : World} {B b0 : Nat} {O : Nat → Prop} {A : List (AP × Int)} (h : LA w B b0 O A) (hsz : w.heap.size ≤ w'.heap.size) (hs : ∀ k, k < w.heap.size → O k → w'.heap[k]? = w.heap[k]?) : LA w' B b0 O A := by
  obtain ⟨bm, M, h1, h2⟩ := h
  exact ⟨bm, M, h1.keep hsz hs, (abE_keep h1.rq fun _ _ k hk hK => hs k hk hK.1).trans h2⟩
theorem LI.x {w w' : World} {B b0 bm : Nat} {M : List PE} {O : Nat → Prop} (h : LI w B b0 bm M O) (hx : X w w') : LI w' B b0 bm M O := h.keep hx.size fun k hk _ => hx.block k hk
theorem LA.x {w w' : World} {B b0 : Nat} {O : Nat → Prop} {A : List (AP × Int)} (h : LA w B b0 O A) (hx : X w w') : LA w' B b0 O A := h.keep hx.size fun k hk _ => hx.block k hk
theorem LA.lo {w : World} {B b0 : Nat} {O : Nat → Prop} {A : List (AP × Int)} (h : LA w B b0 O A) : ∀ b, O b → B ≤ b ∧ b < w.heap.size := by
  obtain ⟨bm, M, h1, _⟩ := h
  exact h1.lo
theorem LA.g {w w' : World} {B b0 b : Nat} {O : Nat → Prop} {A : List (AP × Int)} (h : LA w B b0 O A) (hg : w.grownBy w' (some b)) (hb : ¬ O b) : LA w' B b0 O A :=
  h.keep hg.size fun k hk hO => hg.block k hk (by intro e; injection e with e; exact hb (e ▸ hO))
theorem LA.sf {Sb O : Nat → Prop} {w w' : World} {B b0 : Nat} {A : List (AP × Int)} (h : LA w B b0 O A) (hs : SF Sb w w') (hS : ∀ b, Sb b → ¬ O b) : LA w' B b0 O A := h.keep hs.size (hs.fo hS)

/-- Is the id parked? -/
def hasL (A : List (AP × Int)) (id : Int) : Bool := A.any fun a => a.1.1.id == id
theorem hasE_map (w : World) (M : List PE) (id : Int) : hasL (M.map (abE w)) id = hasE M id := by
  unfold hasL hasE
  rw [List.any_map]
  rfl
/-- Is the pod taken in? -/
def okAdd (A : List (AP × Int)) (id r : Int) : Bool := decide (1 ≤ r) && decide (r ≤ 4) && !hasL A id
def addL (A : List (AP × Int)) (x : AP) (r : Int) : List (AP × Int) := if okAdd A x.1.id r then A ++ [(x, r)] else A

theorem built_lot (b : Nat) : Tryd.prog.built 55 [(0, .map (some b))] = some #[.map (some b)] := by kernel_rfl

theorem LotNew_calls (w : World) : CallsR Tryd.prog 8 [] w fun u w' => ∃ b0 O, u = .pointer (some ⟨b0, 0, none⟩) ∧ LA w' w.heap.size b0 O [] ∧ X w w' := by
  refine enter0 Tryd.func8 rfl Tryd.ntmps8 ?_
  repeat (first
 | (with_reducible first
 | apply CW.seq | apply CW.region | apply CW.block | apply CW.ret | apply CW.skip | apply CW.label | apply CW.exit
 | apply W.nil | apply Fin.seq | apply Fin.then_ret | apply Fin.then_exit | apply Fin.blk_ret | apply Fin.blk_normal | apply Fin.blk_here)
 | (with_reducible first | refine S.move ?_ | refine S.assign ?_ | refine S.pickT ?_ | refine S.pickF ?_ | refine S.lss ?_ | refine S.gtr ?_ | refine S.leq ?_ | refine S.geq ?_ | refine S.eqT ?_ | refine S.neF ?_ | refine S.eql ?_ | refine S.neq ?_ | refine S.add ?_ | refine S.sub ?_ | refine S.mul ?_ | refine S.conv ?_ | refine S.shr1 ?_ | refine S.neg ?_ | refine S.not ?_ | refine S.extract ?_ | refine S.len ?_ | refine S.fld ?_ | refine S.index ?_ | refine S.skp ?_ | refine S.sliceTo ?_ | refine S.sliceFrom ?_ | refine S.eqNil ?_ | refine S.eqbT ?_ | refine S.nebF ?_ | refine S.eqb ?_ | refine S.neb ?_)
 | (with_reducible first | refine S.nc ?_ | refine S.fld ?_ (h1 := fLotAll) | refine S.eqP ?_ | refine S.neP ?_)
 | ((with_reducible apply CW.cond_true); exact rfl)
 | ((with_reducible apply CW.cond_false); exact rfl)
 | ((with_reducible apply Fin.blk_far); exact rfl))
  refine S.newMapE (by rfl) (by rfl) fun bm w1 hx1 hb1 hM => ?_
  refine W.pure (d := some 2) (v := .agg #[.map (some bm)]) (op_build (by rfl) (built_lot bm)) (by rfl) (by rfl) ?_
  refine W.newBlk (d := some 3) (mk := fun b => .pointer (some ⟨b, 0, none⟩)) (cs := [.map (some bm)]) (op_box (by rfl) (by rfl)) (by rfl) (by rfl) ?_
  intro b0 w2 hx2 hb2 hB
  repeat (first
 | (with_reducible first
 | apply CW.seq | apply CW.region | apply CW.block | apply CW.ret | apply CW.skip | apply CW.label | apply CW.exit
 | apply W.nil | apply Fin.seq | apply Fin.then_ret | apply Fin.then_exit | apply Fin.blk_ret | apply Fin.blk_normal | apply Fin.blk_here)
 | (with_reducible first | refine S.move ?_ | refine S.assign ?_ | refine S.pickT ?_ | refine S.pickF ?_ | refine S.lss ?_ | refine S.gtr ?_ | refine S.leq ?_ | refine S.geq ?_ | refine S.eqT ?_ | refine S.neF ?_ | refine S.eql ?_ | refine S.neq ?_ | refine S.add ?_ | refine S.sub ?_ | refine S.mul ?_ | refine S.conv ?_ | refine S.shr1 ?_ | refine S.neg ?_ | refine S.not ?_ | refine S.extract ?_ | refine S.len ?_ | refine S.fld ?_ | refine S.index ?_ | refine S.skp ?_ | refine S.sliceTo ?_ | refine S.sliceFrom ?_ | refine S.eqNil ?_ | refine S.eqbT ?_ | refine S.nebF ?_ | refine S.eqb ?_ | refine S.neb ?_)
 | (with_reducible first | refine S.nc ?_ | refine S.fld ?_ (h1 := fLotAll) | refine S.eqP ?_ | refine S.neP ?_)
 | ((with_reducible apply CW.cond_true); exact rfl)
 | ((with_reducible apply CW.cond_false); exact rfl)
 | ((with_reducible apply Fin.blk_far); exact rfl))
  (with_reducible apply R.r1); exact rfl; exact rfl
  have hle := hx1.le
  have hM2 := hM.x hx2
  refine ⟨b0, fun b => b = b0 ∨ b = bm, rfl, ⟨bm, [], (⟨hB, ⟨0, hM2, LM.nil 0⟩, .inl rfl, .inr rfl, (fun t ht => by cases ht), fun b hb => ?_⟩ : LI w2 w.heap.size b0 bm [] (fun b => b = b0 ∨ b = bm)), rfl⟩, hx1.trans hx2⟩
  have h1 := hB.lt
  have h2 := hM2.lt
  rcases hb with rfl | rfl
  · exact ⟨by omega, h1⟩
  · exact ⟨hb1, h2⟩

/-- A new variable that holds no parked pod yet. -/
def pK (B : Nat) (v : Value) (w : World) : Prop := ∃ b, v = .pointer (some ⟨b, 0, none⟩) ∧ Blk w b 57 PE.zero.cs ∧ B ≤ b
theorem pK.lasts {B : Nat} : ∀ v w w', X w w' → pK B v w → pK B v w' := fun v w w' hx ⟨g, h1, h2, h3⟩ => ⟨g, h1, h2.x hx, h3⟩
theorem D.newPk {w0 : World} {ops : Array Oper} {env : Env} {N : Nat} {Post : SEnv → Prop} {rest : List Nat} {Γ : SEnv} {ty : TypeId} {pos : String} {aft : Array Edge} {gd : Option (Nat × Bool)} {d : Nat} (K : TC Tryd.prog X w0 ops env N Post rest ((d, .pr (pK w0.heap.size)) :: Γ)) (hg : wantS ops Γ env gd = some true := by with_unfolding_all exact rfl) (hd : Nat.blt d N = true := by with_unfolding_all exact rfl) :
    TC1 Tryd.prog X w0 ops env N Post rest Γ { dst := some d, op := .alloc 57, type := ty, pos, after := aft, guard := gd } :=
  D.mk (pK w0.heap.size) pK.lasts hg hd (fun w hx => ⟨_, _, op_alloc' (cs := PE.zero.cs) zPk' rfl, X.alloc _ _, _, rfl, Blk.new w _ _, hx.le⟩) K
/-- 'm[k]' with 'ok', in any order. -/
theorem D.lookE {w0 : World} {ops : Array Oper} {env : Env} {N : Nat} {Post : SEnv → Prop} {rest : List Nat} {Γ : SEnv} {ty : TypeId} {pos : String} {aft : Array Edge} {gd : Option (Nat × Bool)} {d : Nat} {P : Program} {mt kt et r clock : Nat} {x y : Operand} {dk : IntKind} {M : List PE} {k : Int} (hm : P.underlying mt = some (.map kt et)) (hk : P.underlying kt = some (.int dk)) (hz : (P.info? et).map (·.zero) = some (some zeroPk)) (hx : opL Γ env x = some (.map (some r))) (hy : opL Γ env y = some (.int .i64 k)) (hM : PB w0 r M clock)
    (hg : wantS ops Γ env gd = some true) (hd : Nat.blt d N = true) (K : TC P X w0 ops env N Post rest ((d, .det (.tuple #[((atE M k).getD PE.zero).v, .bool (hasE M k)])) :: Γ)) :
    TC1 P X w0 ops env N Post rest Γ { dst := some d, op := .lookup mt x y true, type := ty, pos, after := aft, guard := gd } :=
  D.rd (fun w hr ev he dd pos aft gd => by
    have h := run_lookupE (P := P) (k := k) hm hk hz (hM.x hr)
    have e : ((atE M k).map PE.v).getD zeroPk = ((atE M k).getD PE.zero).v := by cases atE M k <;> rfl
    rw [e] at h
    simp [execOp, he x _ hx, he y _ hy, h]) X.refl hg hd K

theorem LI.add {w0 w1 w2 : World} {B b0 bm : Nat} {M : List PE} {O : Nat → Prop} {p : PV} {r : Int} {clock : Nat} (hI : LI w0 B b0 bm M O) (hx : X w0 w1) (hp : RK w1 (fun b => w0.heap.size ≤ b) p) (hP : PB w1 bm M clock) (hL : LM M clock) (hg : G bm w1 w2) (h2 : PB w2 bm (M ++ [⟨p, r, clock⟩]) (clock + 1)) (hn : hasE M p.id = false) :
    LI w2 B b0 bm (M ++ [⟨p, r, clock⟩]) (fun b => O b ∨ (w0.heap.size ≤ b ∧ b < w2.heap.size)) ∧ FO O (fun b => O b ∨ (w0.heap.size ≤ b ∧ b < w2.heap.size)) w0 w2 ∧ (M ++ [(⟨p, r, clock⟩ : PE)]).map (abE w2) = M.map (abE w0) ++ [(ab w1 p, r)] := by
  have hb0 := (hI.lo b0 hI.o0).2
  have hbm := (hI.lo bm hI.om).2
  have hsz := hx.le
  have hsz2 := hg.size
  have hI1 := hI.x hx
  have k1 : ∀ k, k < w1.heap.size → k ≠ bm → w2.heap[k]? = w1.heap[k]? := fun k hk hne => hg.block k hk (by simpa using hne)
  refine ⟨⟨hg.blk hI1.blk hI.ne, ⟨clock + 1, h2, hL.add hn r⟩, .inl hI.o0, .inl hI.om, fun t ht => ?_, fun b hb => ?_⟩, ⟨hg.os.trans hx.os, hg.tape.trans hx.tape, hg.output.trans hx.output, by omega, fun k hk hno => ?_, fun k hk hK => ?_⟩, ?_⟩
  · rcases List.mem_append.1 ht with h | h
    · exact (((hI1.rq t h).keep fun k hk hK => k1 k hk hK.2.2).1).mono fun b _ hb => ⟨.inl hb.1, hb.2.1, hb.2.2⟩
    · rw [List.mem_singleton.1 h]
      exact ((hp.lt.keep fun k hk hK => k1 k hk (by omega)).1).mono fun b hb2 hb => ⟨.inr ⟨hb.1, hb2⟩, by omega, by omega⟩
  · rcases hb with hb | hb
    · have := hI.lo b hb; exact ⟨this.1, by omega⟩
    · have := (hI.lo b0 hI.o0).1; exact ⟨by omega, hb.2⟩
  · exact (k1 k (by omega) (by rintro rfl; exact hno hI.om)).trans (hx.block k hk)
  · rcases hK with h | h
    · exact h
    · omega
  · rw [List.map_append, List.map_singleton, abE_keep (w := w1) hI1.rq fun _ _ k hk hK => k1 k hk hK.2.2, abE_keep (w := w0) hI.rq fun _ _ k hk _ => hx.block k hk]
    show _ ++ [(ab w2 p, r)] = _
    rw [(hp.keep fun k hk hK => k1 k hk (by omega)).2]

/-- A pod with a request of its own, that reads as a. -/
def pCp (B : Nat) (a : AP) (id : Int) (v : Value) (w : World) : Prop := ∃ p, v = p.v ∧ RK w (fun b => B ≤ b) p ∧ ab w p = a ∧ p.id = id
theorem pCp.lasts {B : Nat} {a : AP} {id : Int} : ∀ v w w', X w w' → pCp B a id v w → pCp B a id v w' := fun v w w' hx ⟨p, h1, h2, h3, h4⟩ => ⟨p, h1, h2.x hx, (h2.abx hx).trans h3, h4⟩
def pCk (B : Nat) (a : AP) (id r : Int) (v : Value) (w : World) : Prop := ∃ p, v = PE.v ⟨p, r, 0⟩ ∧ RK w (fun b => B ≤ b) p ∧ ab w p = a ∧ p.id = id
theorem pCk.lasts {B : Nat} {a : AP} {id r : Int} : ∀ v w w', X w w' → pCk B a id r v w → pCk B a id r v w' := fun v w w' hx ⟨p, h1, h2, h3, h4⟩ => ⟨p, h1, h2.x hx, (h2.abx hx).trans h3, h4⟩
theorem built_pk (p : PV) (r : Int) : Tryd.prog.built 57 [(0, p.v), (1, .int .i64 r)] = some (PE.cs ⟨p, r, 0⟩).toArray := by kernel_rfl
theorem D.buildPk {w0 : World} {ops : Array Oper} {env : Env} {N : Nat} {Post : SEnv → Prop} {rest : List Nat} {Γ : SEnv} {ty : TypeId} {pos : String} {aft : Array Edge} {gd : Option (Nat × Bool)} {d s : Nat} {y : Operand} {B : Nat} {a : AP} {id r : Int}
    (hs : lookS Γ env s = some (.pr (pCp B a id))) (hy : opL Γ env y = some (.int .i64 r)) (hg : wantS ops Γ env gd = some true) (hd : Nat.blt d N = true) (K : TC Tryd.prog X w0 ops env N Post rest ((d, .pr (pCk B a id r)) :: Γ)) :
    TC1 Tryd.prog X w0 ops env N Post rest Γ { dst := some d, op := .build 57 #[(0, .tmp s), (1, y)], type := ty, pos, after := aft, guard := gd } :=
  D.one (pCk B a id r) pCk.lasts hg hd (fun ev w hr he hp => by
    obtain ⟨p, e1, h2, h3, h4⟩ := hp s _ (by simp [Op.operands]) hs
    have h5 := op_build (P := Tryd.prog) (ty := ty) (L := fun x => some (ev x)) (t := 57) (parts := #[(0, .tmp s), (1, y)]) (ps := [(0, p.v), (1, .int .i64 r)]) (by simp [evB, e1, he y _ hy]) (built_pk p r)
    unfold OpT
    rw [h5 ev (fun x v h => by injection h)]
    exact ⟨X.refl w, p, rfl, h2, h3, h4⟩) K

set_option maxHeartbeats 1000000 in
theorem lAdd_calls (B b0 : Nat) (O : Nat → Prop) (A : List (AP × Int)) (p : PV) (r : Int) (w : World) (h : LA w B b0 O A) (hp : RK w (fun _ => True) p) :
    CallsR Tryd.prog 11 [.pointer (some ⟨b0, 0, none⟩), p.v, .int .i64 r] w fun u w' => u = .bool (okAdd A p.id r) ∧ ∃ O', LA w' B b0 O' (addL A (ab w p) r) ∧ FO O O' w w' := by
  refine enter3 Tryd.func11 rfl Tryd.ntmps11 rfl ?_
  repeat (first
 | (with_reducible first
 | apply CW.seq | apply CW.region | apply CW.block | apply CW.ret | apply CW.skip | apply CW.label | apply CW.exit
 | apply W.nil | apply Fin.seq | apply Fin.then_ret | apply Fin.then_exit | apply Fin.blk_ret | apply Fin.blk_normal | apply Fin.blk_here)
 | (with_reducible first | refine S.move ?_ | refine S.assign ?_ | refine S.pickT ?_ | refine S.pickF ?_ | refine S.lss ?_ | refine S.gtr ?_ | refine S.leq ?_ | refine S.geq ?_ | refine S.eqT ?_ | refine S.neF ?_ | refine S.eql ?_ | refine S.neq ?_ | refine S.add ?_ | refine S.sub ?_ | refine S.mul ?_ | refine S.conv ?_ | refine S.shr1 ?_ | refine S.neg ?_ | refine S.not ?_ | refine S.extract ?_ | refine S.len ?_ | refine S.fld ?_ | refine S.index ?_ | refine S.skp ?_ | refine S.sliceTo ?_ | refine S.sliceFrom ?_ | refine S.eqNil ?_ | refine S.eqbT ?_ | refine S.nebF ?_ | refine S.eqb ?_ | refine S.neb ?_)
 | (with_reducible first | refine S.nc ?_ | refine S.fld ?_ (h1 := fLotAll) | refine S.eqP ?_ | refine S.neP ?_)
 | ((with_reducible apply CW.cond_true); exact rfl)
 | ((with_reducible apply CW.cond_false); exact rfl)
 | ((with_reducible apply Fin.blk_far); exact rfl))
  refine W.newBlk (d := some 4) (mk := fun b => .pointer (some ⟨b, 0, none⟩)) (cs := p.cs) (op_box (by rfl) (by rfl)) (by rfl) (by rfl) ?_
  intro b4 w1 hx1 hb4 hB4
  have hno : okAdd A p.id r = false → X w w1 → ∃ O', LA w1 B b0 O' (addL A (ab w p) r) ∧ FO O O' w w1 := fun e hx => ⟨O, by unfold addL; rw [show (ab w p).1.id = p.id from rfl, e]; exact h.x hx, FO.of_x hx⟩
  repeat (first
 | (with_reducible first
 | apply CW.seq | apply CW.region | apply CW.block | apply CW.ret | apply CW.skip | apply CW.label | apply CW.exit
 | apply W.nil | apply Fin.seq | apply Fin.then_ret | apply Fin.then_exit | apply Fin.blk_ret | apply Fin.blk_normal | apply Fin.blk_here)
 | (with_reducible first | refine S.move ?_ | refine S.assign ?_ | refine S.pickT ?_ | refine S.pickF ?_ | refine S.lss ?_ | refine S.gtr ?_ | refine S.leq ?_ | refine S.geq ?_ | refine S.eqT ?_ | refine S.neF ?_ | refine S.eql ?_ | refine S.neq ?_ | refine S.add ?_ | refine S.sub ?_ | refine S.mul ?_ | refine S.conv ?_ | refine S.shr1 ?_ | refine S.neg ?_ | refine S.not ?_ | refine S.extract ?_ | refine S.len ?_ | refine S.fld ?_ | refine S.index ?_ | refine S.skp ?_ | refine S.sliceTo ?_ | refine S.sliceFrom ?_ | refine S.eqNil ?_ | refine S.eqbT ?_ | refine S.nebF ?_ | refine S.eqb ?_ | refine S.neb ?_)
 | (with_reducible first | refine S.nc ?_ | refine S.fld ?_ (h1 := fLotAll) | refine S.eqP ?_ | refine S.neP ?_)
 | ((with_reducible apply CW.cond_true); exact rfl)
 | ((with_reducible apply CW.cond_false); exact rfl)
 | ((with_reducible apply Fin.blk_far); exact rfl))
  refine W.bool (fun h1 => ?_) (fun h1 => ?_)
  · have h1 := of_decide_eq_true h1
    have e : okAdd A p.id r = false := by unfold okAdd; rw [decide_eq_false (by omega)]; rfl
    repeat (first
 | (with_reducible first
 | apply CW.seq | apply CW.region | apply CW.block | apply CW.ret | apply CW.skip | apply CW.label | apply CW.exit
 | apply W.nil | apply Fin.seq | apply Fin.then_ret | apply Fin.then_exit | apply Fin.blk_ret | apply Fin.blk_normal | apply Fin.blk_here)
 | (with_reducible first | refine S.move ?_ | refine S.assign ?_ | refine S.pickT ?_ | refine S.pickF ?_ | refine S.lss ?_ | refine S.gtr ?_ | refine S.leq ?_ | refine S.geq ?_ | refine S.eqT ?_ | refine S.neF ?_ | refine S.eql ?_ | refine S.neq ?_ | refine S.add ?_ | refine S.sub ?_ | refine S.mul ?_ | refine S.conv ?_ | refine S.shr1 ?_ | refine S.neg ?_ | refine S.not ?_ | refine S.extract ?_ | refine S.len ?_ | refine S.fld ?_ | refine S.index ?_ | refine S.skp ?_ | refine S.sliceTo ?_ | refine S.sliceFrom ?_ | refine S.eqNil ?_ | refine S.eqbT ?_ | refine S.nebF ?_ | refine S.eqb ?_ | refine S.neb ?_)
 | (with_reducible first | refine S.nc ?_ | refine S.fld ?_ (h1 := fLotAll) | refine S.eqP ?_ | refine S.neP ?_)
 | ((with_reducible apply CW.cond_true); exact rfl)
 | ((with_reducible apply CW.cond_false); exact rfl)
 | ((with_reducible apply Fin.blk_far); exact rfl))
    (with_reducible apply R.r1); exact rfl; exact rfl
    rw [e]
    exact ⟨rfl, hno e hx1⟩
  have h1 := of_decide_eq_false h1
  repeat (first
 | (with_reducible first
 | apply CW.seq | apply CW.region | apply CW.block | apply CW.ret | apply CW.skip | apply CW.label | apply CW.exit
 | apply W.nil | apply Fin.seq | apply Fin.then_ret | apply Fin.then_exit | apply Fin.blk_ret | apply Fin.blk_normal | apply Fin.blk_here)
 | (with_reducible first | refine S.move ?_ | refine S.assign ?_ | refine S.pickT ?_ | refine S.pickF ?_ | refine S.lss ?_ | refine S.gtr ?_ | refine S.leq ?_ | refine S.geq ?_ | refine S.eqT ?_ | refine S.neF ?_ | refine S.eql ?_ | refine S.neq ?_ | refine S.add ?_ | refine S.sub ?_ | refine S.mul ?_ | refine S.conv ?_ | refine S.shr1 ?_ | refine S.neg ?_ | refine S.not ?_ | refine S.extract ?_ | refine S.len ?_ | refine S.fld ?_ | refine S.index ?_ | refine S.skp ?_ | refine S.sliceTo ?_ | refine S.sliceFrom ?_ | refine S.eqNil ?_ | refine S.eqbT ?_ | refine S.nebF ?_ | refine S.eqb ?_ | refine S.neb ?_)
 | (with_reducible first | refine S.nc ?_ | refine S.fld ?_ (h1 := fLotAll) | refine S.eqP ?_ | refine S.neP ?_)
 | ((with_reducible apply CW.cond_true); exact rfl)
 | ((with_reducible apply CW.cond_false); exact rfl)
 | ((with_reducible apply Fin.blk_far); exact rfl))
  refine CW.cond (by rfl) (fun h2 => ?_) (fun h2 => ?_)
  · have h2 := of_decide_eq_true h2
    have e : okAdd A p.id r = false := by unfold okAdd; rw [decide_eq_false (by omega : ¬ r ≤ 4)]; simp
    repeat (first
 | (with_reducible first
 | apply CW.seq | apply CW.region | apply CW.block | apply CW.ret | apply CW.skip | apply CW.label | apply CW.exit
 | apply W.nil | apply Fin.seq | apply Fin.then_ret | apply Fin.then_exit | apply Fin.blk_ret | apply Fin.blk_normal | apply Fin.blk_here)
 | (with_reducible first | refine S.move ?_ | refine S.assign ?_ | refine S.pickT ?_ | refine S.pickF ?_ | refine S.lss ?_ | refine S.gtr ?_ | refine S.leq ?_ | refine S.geq ?_ | refine S.eqT ?_ | refine S.neF ?_ | refine S.eql ?_ | refine S.neq ?_ | refine S.add ?_ | refine S.sub ?_ | refine S.mul ?_ | refine S.conv ?_ | refine S.shr1 ?_ | refine S.neg ?_ | refine S.not ?_ | refine S.extract ?_ | refine S.len ?_ | refine S.fld ?_ | refine S.index ?_ | refine S.skp ?_ | refine S.sliceTo ?_ | refine S.sliceFrom ?_ | refine S.eqNil ?_ | refine S.eqbT ?_ | refine S.nebF ?_ | refine S.eqb ?_ | refine S.neb ?_)
 | (with_reducible first | refine S.nc ?_ | refine S.fld ?_ (h1 := fLotAll) | refine S.eqP ?_ | refine S.neP ?_)
 | ((with_reducible apply CW.cond_true); exact rfl)
 | ((with_reducible apply CW.cond_false); exact rfl)
 | ((with_reducible apply Fin.blk_far); exact rfl))
    (with_reducible apply R.r1); exact rfl; exact rfl
    rw [e]
    exact ⟨rfl, hno e hx1⟩
  have h2 := of_decide_eq_false h2
  obtain ⟨bm, M, hI, hA⟩ := h
  have hI1 := hI.x hx1
  obtain ⟨clock, hP1, hL⟩ := hI1.map
  have hok : okAdd A p.id r = !hasE M p.id := by
    unfold okAdd
    rw [decide_eq_true (by omega : 1 ≤ r), decide_eq_true (by omega : r ≤ 4), ← hA, hasE_map]
    rfl
  repeat (first
 | (with_reducible first
 | apply CW.seq | apply CW.region | apply CW.block | apply CW.ret | apply CW.skip | apply CW.label | apply CW.exit
 | apply W.nil | apply Fin.seq | apply Fin.then_ret | apply Fin.then_exit | apply Fin.blk_ret | apply Fin.blk_normal | apply Fin.blk_here)
 | (with_reducible first | refine S.move ?_ | refine S.assign ?_ | refine S.pickT ?_ | refine S.pickF ?_ | refine S.lss ?_ | refine S.gtr ?_ | refine S.leq ?_ | refine S.geq ?_ | refine S.eqT ?_ | refine S.neF ?_ | refine S.eql ?_ | refine S.neq ?_ | refine S.add ?_ | refine S.sub ?_ | refine S.mul ?_ | refine S.conv ?_ | refine S.shr1 ?_ | refine S.neg ?_ | refine S.not ?_ | refine S.extract ?_ | refine S.len ?_ | refine S.fld ?_ | refine S.index ?_ | refine S.skp ?_ | refine S.sliceTo ?_ | refine S.sliceFrom ?_ | refine S.eqNil ?_ | refine S.eqbT ?_ | refine S.nebF ?_ | refine S.eqb ?_ | refine S.neb ?_)
 | (with_reducible first | refine S.nc ?_ | refine S.fld ?_ (h1 := fLotAll) | refine S.eqP ?_ | refine S.neP ?_)
 | ((with_reducible apply CW.cond_true); exact rfl)
 | ((with_reducible apply CW.cond_false); exact rfl)
 | ((with_reducible apply Fin.blk_far); exact rfl))
  refine wp_factsL (R := X) (pu := [0, 1, 2, 4]) (front := [3, 5, 6, 7, 8, 9, 10]) (lp := [7, 8, 9]) (tail := [11, 12]) mixed (by kernel_rfl) (by (repeat (first | with_reducible exact NoPanic.post_ | with_reducible apply NoPanic.then_ | with_reducible apply NoPanic.blk))) X.refl (fun _ _ _ => X.trans) (X.drew _) ?_
  repeat ((with_reducible refine TP.step ?_); first
    | (with_reducible first | refine E.move ?_ | refine E.assign ?_ | refine E.pickT ?_ | refine E.pickF ?_ | refine E.lss ?_ | refine E.gtr ?_ | refine E.leq ?_ | refine E.geq ?_ | refine E.eqT ?_ | refine E.neF ?_ | refine E.eql ?_ | refine E.neq ?_ | refine E.add ?_ | refine E.sub ?_ | refine E.mul ?_ | refine E.conv ?_ | refine E.shr1 ?_ | refine E.neg ?_ | refine E.not ?_ | refine E.extract ?_ | refine E.len ?_ | refine E.fld ?_ | refine E.index ?_ | refine E.skp ?_ | refine E.sliceTo ?_ | refine E.sliceFrom ?_ | refine E.eqNil ?_ | refine E.eqbT ?_ | refine E.nebF ?_ | refine E.eqb ?_ | refine E.neb ?_)
    | (with_reducible first | refine E.nc ?_ | refine E.fld ?_ (h1 := fLotAll)))
  refine TP.done (TCL.begin ?_)
  repeat (first
    | ((refine TCL.step ?_); first
      | (with_reducible refine D.newPk ?_)
      | ((with_reducible apply D.ld); exact rfl; (with_reducible first | exact oneInt | exact oneI64s | exact oneBool | exact oneI64 | exact onePods | exact oneMap); (intro w' hx; first | exact (hI1.x hx).cm | exact (hB4.x hx).cell rfl); exact X.refl; exact rfl; exact rfl)
      | refine D.lookE Tryd.underlying53 Tryd.underlying3 zPk (by rfl) (by rfl) hP1 (by rfl) (by rfl) ?_)
    | ((refine TCL.stepP ?_ X.refl); (first | (with_reducible first | refine E.move ?_ | refine E.assign ?_ | refine E.pickT ?_ | refine E.pickF ?_ | refine E.lss ?_ | refine E.gtr ?_ | refine E.leq ?_ | refine E.geq ?_ | refine E.eqT ?_ | refine E.neF ?_ | refine E.eql ?_ | refine E.neq ?_ | refine E.add ?_ | refine E.sub ?_ | refine E.mul ?_ | refine E.conv ?_ | refine E.shr1 ?_ | refine E.neg ?_ | refine E.not ?_ | refine E.extract ?_ | refine E.len ?_ | refine E.fld ?_ | refine E.index ?_ | refine E.skp ?_ | refine E.sliceTo ?_ | refine E.sliceFrom ?_ | refine E.eqNil ?_ | refine E.eqbT ?_ | refine E.nebF ?_ | refine E.eqb ?_ | refine E.neb ?_) | (with_reducible first | refine E.nc ?_ | refine E.fld ?_ (h1 := fLotAll))); refine TPL.back ?_))
  refine TCL.back ?_
  refine TC.pr 7 (by rfl) fun v7 => TC.tail2 (by rfl) (by rfl) fun w2 h7 => ?_
  obtain ⟨hx2, b7, rfl, hB7, hb7⟩ := h7
  refine S.stB (vs := ((atE M p.id).getD PE.zero).cs) (by rfl) (by rfl) rfl hB7 rfl szPk (PE.one _) (by rfl) ?_
  intro w3 hg3 hB7'
  have hx3 : X w1 w3 := below_g hx2 hg3 hx2.le hb7
  have hI3 := hI1.x hx3
  have hB4 := hB4.x hx3
  have hP3 := hP1.x hx3
  clear hB7 hB7' hg3 hx2
  repeat (first
 | (with_reducible first
 | apply CW.seq | apply CW.region | apply CW.block | apply CW.ret | apply CW.skip | apply CW.label | apply CW.exit
 | apply W.nil | apply Fin.seq | apply Fin.then_ret | apply Fin.then_exit | apply Fin.blk_ret | apply Fin.blk_normal | apply Fin.blk_here)
 | (with_reducible first | refine S.move ?_ | refine S.assign ?_ | refine S.pickT ?_ | refine S.pickF ?_ | refine S.lss ?_ | refine S.gtr ?_ | refine S.leq ?_ | refine S.geq ?_ | refine S.eqT ?_ | refine S.neF ?_ | refine S.eql ?_ | refine S.neq ?_ | refine S.add ?_ | refine S.sub ?_ | refine S.mul ?_ | refine S.conv ?_ | refine S.shr1 ?_ | refine S.neg ?_ | refine S.not ?_ | refine S.extract ?_ | refine S.len ?_ | refine S.fld ?_ | refine S.index ?_ | refine S.skp ?_ | refine S.sliceTo ?_ | refine S.sliceFrom ?_ | refine S.eqNil ?_ | refine S.eqbT ?_ | refine S.nebF ?_ | refine S.eqb ?_ | refine S.neb ?_)
 | (with_reducible first | refine S.nc ?_ | refine S.fld ?_ (h1 := fLotAll) | refine S.eqP ?_ | refine S.neP ?_)
 | ((with_reducible apply CW.cond_true); exact rfl)
 | ((with_reducible apply CW.cond_false); exact rfl)
 | ((with_reducible apply Fin.blk_far); exact rfl))
  refine CW.cond (by rfl) (fun hc => ?_) (fun hc => ?_)
  · have e : okAdd A p.id r = false := by rw [hok]; simpa using hc
    repeat (first
 | (with_reducible first
 | apply CW.seq | apply CW.region | apply CW.block | apply CW.ret | apply CW.skip | apply CW.label | apply CW.exit
 | apply W.nil | apply Fin.seq | apply Fin.then_ret | apply Fin.then_exit | apply Fin.blk_ret | apply Fin.blk_normal | apply Fin.blk_here)
 | (with_reducible first | refine S.move ?_ | refine S.assign ?_ | refine S.pickT ?_ | refine S.pickF ?_ | refine S.lss ?_ | refine S.gtr ?_ | refine S.leq ?_ | refine S.geq ?_ | refine S.eqT ?_ | refine S.neF ?_ | refine S.eql ?_ | refine S.neq ?_ | refine S.add ?_ | refine S.sub ?_ | refine S.mul ?_ | refine S.conv ?_ | refine S.shr1 ?_ | refine S.neg ?_ | refine S.not ?_ | refine S.extract ?_ | refine S.len ?_ | refine S.fld ?_ | refine S.index ?_ | refine S.skp ?_ | refine S.sliceTo ?_ | refine S.sliceFrom ?_ | refine S.eqNil ?_ | refine S.eqbT ?_ | refine S.nebF ?_ | refine S.eqb ?_ | refine S.neb ?_)
 | (with_reducible first | refine S.nc ?_ | refine S.fld ?_ (h1 := fLotAll) | refine S.eqP ?_ | refine S.neP ?_)
 | ((with_reducible apply CW.cond_true); exact rfl)
 | ((with_reducible apply CW.cond_false); exact rfl)
 | ((with_reducible apply Fin.blk_far); exact rfl))
    (with_reducible apply R.r1); exact rfl; exact rfl
    rw [e]
    refine ⟨rfl, O, ?_, FO.of_x (hx1.trans hx3)⟩
    unfold addL
    rw [show (ab w p).1.id = p.id from rfl, e]
    exact (show LA w B b0 O A from ⟨bm, M, hI, hA⟩).x (hx1.trans hx3)
  · have hnE : hasE M p.id = false := by simpa using hc
    have e : okAdd A p.id r = true := by rw [hok, hnE]; rfl
    obtain ⟨lr, hlr, hisk⟩ := hp
    have hX3 := hx1.trans hx3
    repeat (first
 | (with_reducible first
 | apply CW.seq | apply CW.region | apply CW.block | apply CW.ret | apply CW.skip | apply CW.label | apply CW.exit
 | apply W.nil | apply Fin.seq | apply Fin.then_ret | apply Fin.then_exit | apply Fin.blk_ret | apply Fin.blk_normal | apply Fin.blk_here)
 | (with_reducible first | refine S.move ?_ | refine S.assign ?_ | refine S.pickT ?_ | refine S.pickF ?_ | refine S.lss ?_ | refine S.gtr ?_ | refine S.leq ?_ | refine S.geq ?_ | refine S.eqT ?_ | refine S.neF ?_ | refine S.eql ?_ | refine S.neq ?_ | refine S.add ?_ | refine S.sub ?_ | refine S.mul ?_ | refine S.conv ?_ | refine S.shr1 ?_ | refine S.neg ?_ | refine S.not ?_ | refine S.extract ?_ | refine S.len ?_ | refine S.fld ?_ | refine S.index ?_ | refine S.skp ?_ | refine S.sliceTo ?_ | refine S.sliceFrom ?_ | refine S.eqNil ?_ | refine S.eqbT ?_ | refine S.nebF ?_ | refine S.eqb ?_ | refine S.neb ?_)
 | (with_reducible first | refine S.nc ?_ | refine S.fld ?_ (h1 := fLotAll) | refine S.eqP ?_ | refine S.neP ?_)
 | ((with_reducible apply CW.cond_true); exact rfl)
 | ((with_reducible apply CW.cond_false); exact rfl)
 | ((with_reducible apply Fin.blk_far); exact rfl))
    refine wp_facts3 (R := X) (pu := [0, 1, 2, 4, 8]) (front := [3, 5, 6, 7, 9]) (tail := [10]) mixed (by kernel_rfl) (by (repeat (first | with_reducible exact NoPanic.post_ | with_reducible apply NoPanic.then_ | with_reducible apply NoPanic.blk))) X.refl (fun _ _ _ => X.trans) (X.drew _) ?_
    repeat ((with_reducible refine TP.step ?_); first
      | (with_reducible first | refine E.move ?_ | refine E.assign ?_ | refine E.pickT ?_ | refine E.pickF ?_ | refine E.lss ?_ | refine E.gtr ?_ | refine E.leq ?_ | refine E.geq ?_ | refine E.eqT ?_ | refine E.neF ?_ | refine E.eql ?_ | refine E.neq ?_ | refine E.add ?_ | refine E.sub ?_ | refine E.mul ?_ | refine E.conv ?_ | refine E.shr1 ?_ | refine E.neg ?_ | refine E.not ?_ | refine E.extract ?_ | refine E.len ?_ | refine E.fld ?_ | refine E.index ?_ | refine E.skp ?_ | refine E.sliceTo ?_ | refine E.sliceFrom ?_ | refine E.eqNil ?_ | refine E.eqbT ?_ | refine E.nebF ?_ | refine E.eqb ?_ | refine E.neb ?_)
      | (with_reducible first | refine E.nc ?_ | refine E.fld ?_ (h1 := fLotAll)))
    refine TP.done ?_
    repeat ((with_reducible refine TC.step ?_); first
      | ((with_reducible apply D.ld); exact rfl; (with_reducible first | exact oneInt | exact oneI64s | exact oneBool | exact oneI64 | exact onePods | exact oneMap); (intro w' hx; first | exact (hI3.x hx).cm | exact (hB4.x hx).cell rfl); exact X.refl; exact rfl; exact rfl)
      | refine D.lds (cs := p.cs) (by rfl) stPod (fun w' hx' j u hj => by rw [Nat.zero_add]; exact (hB4.x hx').cell hj) X.refl (by rfl) (by rfl) ?_
      | refine D.buildPk (by rfl) (by rfl) (by rfl) (by rfl) ?_
      | refine D.clp (pCp w3.heap.size (ab w p) p.id) pCp.lasts (op_call ent25 (by rfl) (by rfl)) (by rfl) (by rfl) (fun w' hx' => (copied_calls p lr w' (hisk.x (hX3.trans hx')).is (by have := hisk.1; omega)).mono fun v w'' h => by
          obtain ⟨A', c', h1, h2, h3⟩ := h
          have := hx'.le
          exact ⟨⟨p.with A' p.rn c', h1, (h2.rk (c' := c') hlr).mono fun b _ hb => by omega, (ab_with (hisk.x (hX3.trans hx')) h2).trans ((show RK w _ p from ⟨lr, hlr, hisk⟩).abx (hX3.trans hx')), rfl⟩, h3⟩) ?_)
    refine TC.pr 39 (by rfl) fun v8 => TC.tail1 (by rfl) (fun w8 h8 => ?_)
    obtain ⟨hx8, p', rfl, hrk8, hab8, hid8⟩ := h8
    have hP8 := hP3.x hx8
    refine S.addE (p := p') (q := r) Tryd.underlying53 Tryd.underlying3 (by rfl) (by rfl) hid8 (by rfl) hP8 hnE (by rfl) fun w9 hg9 hP9 => ?_
    rw [← hid8] at hnE
    obtain ⟨hI9, hF9, hM9⟩ := hI3.add hx8 hrk8 hP8 hL hg9 hP9 hnE
    repeat (first
 | (with_reducible first
 | apply CW.seq | apply CW.region | apply CW.block | apply CW.ret | apply CW.skip | apply CW.label | apply CW.exit
 | apply W.nil | apply Fin.seq | apply Fin.then_ret | apply Fin.then_exit | apply Fin.blk_ret | apply Fin.blk_normal | apply Fin.blk_here)
 | (with_reducible first | refine S.move ?_ | refine S.assign ?_ | refine S.pickT ?_ | refine S.pickF ?_ | refine S.lss ?_ | refine S.gtr ?_ | refine S.leq ?_ | refine S.geq ?_ | refine S.eqT ?_ | refine S.neF ?_ | refine S.eql ?_ | refine S.neq ?_ | refine S.add ?_ | refine S.sub ?_ | refine S.mul ?_ | refine S.conv ?_ | refine S.shr1 ?_ | refine S.neg ?_ | refine S.not ?_ | refine S.extract ?_ | refine S.len ?_ | refine S.fld ?_ | refine S.index ?_ | refine S.skp ?_ | refine S.sliceTo ?_ | refine S.sliceFrom ?_ | refine S.eqNil ?_ | refine S.eqbT ?_ | refine S.nebF ?_ | refine S.eqb ?_ | refine S.neb ?_)
 | (with_reducible first | refine S.nc ?_ | refine S.fld ?_ (h1 := fLotAll) | refine S.eqP ?_ | refine S.neP ?_)
 | ((with_reducible apply CW.cond_true); exact rfl)
 | ((with_reducible apply CW.cond_false); exact rfl)
 | ((with_reducible apply Fin.blk_far); exact rfl))
    (with_reducible apply R.r1); exact rfl; exact rfl
    rw [e]
    refine ⟨rfl, _, ⟨bm, _, hI9, ?_⟩, (FO.of_x hX3).trans hF9⟩
    unfold addL
    rw [show (ab w p).1.id = p.id from rfl, e, if_pos rfl, hM9, hab8, abE_keep (w := w) hI.rq fun _ _ k hk _ => hX3.block k hk, hA]

end Go.Proofs.YtmilpjkjcanghaaDoor

/- Lists of pods that are the same; appending. -/
import Derived.Test.YtmilpjkjcanghaaDoorRank5
namespace Go.Proofs.YtmilpjkjcanghaaDoor
open Go.RowKit
set_option linter.unusedVariables false
set_option linter.unusedSimpArgs false

def SmP (f : PV → List Int) (p q : PV) : Prop :=
  q.id = p.id ∧ q.prio = p.prio ∧ q.pre = p.pre ∧ q.grace = p.grace ∧ q.arr = p.arr ∧ q.ph = p.ph ∧ q.node = p.node ∧ q.dead = p.dead ∧ f q = f p
theorem SmP.refl (f : PV → List Int) (p : PV) : SmP f p p := ⟨rfl, rfl, rfl, rfl, rfl, rfl, rfl, rfl, rfl⟩
theorem SmP.with_ {f : PV → List Int} {p q : PV} (h : SmP f p q) : q = p.with q.rA q.rn q.rc := by
  obtain ⟨h1, h2, h3, h4, h5, h6, h7, h8, _⟩ := h
  cases p; cases q
  simp only at h1 h2 h3 h4 h5 h6 h7 h8
  subst h1 h2 h3 h4 h5 h6 h7 h8
  rfl

def SmL (f : PV → List Int) (L M : List PV) : Prop := L.length = M.length ∧ ∀ (i : Nat) (p q : PV), L[i]? = some p → M[i]? = some q → SmP f p q
theorem SmL.refl (f : PV → List Int) (L : List PV) : SmL f L L := ⟨rfl, fun i p q h1 h2 => by rw [h1] at h2; cases h2; exact SmP.refl f p⟩

/-- The requests of some pods, as they read. -/
def RQ (w : World) (B : Nat) (f : PV → List Int) (L : List PV) : Prop := ∀ p ∈ L, IS w B p.rA p.rn (f p) ∧ (f p).length ≤ 1000
theorem RQ.below {w w' : World} {B : Nat} {f : PV → List Int} {L : List PV} (h : RQ w B f L) (hb : Below B w w') : RQ w' B f L := fun p hp => ⟨(h p hp).1.below hb, (h p hp).2⟩
theorem RQ.more {w : World} {B B' : Nat} {f : PV → List Int} {L : List PV} (h : RQ w B f L) (hB : B ≤ B') : RQ w B' f L := fun p hp => ⟨(h p hp).1.more hB, (h p hp).2⟩

theorem SamePod_sm (f : PV → List Int) (p q : PV) (B : Nat) (w : World) (h : SmP f p q) (h1 : IS w B p.rA p.rn (f p)) (h2 : IS w B q.rA q.rn (f q)) (hn : (f p).length ≤ 1000) (hB : B ≤ w.heap.size) :
    CallsR Tryd.prog 26 [p.v, q.v] w fun v w' => v = .bool true ∧ X w w' := by
  have e := h.with_
  have hf : f q = f p := h.2.2.2.2.2.2.2.2
  have hq : q.rn = (f p).length := h2.1.trans (by rw [hf])
  have h2' : IS w B q.rA (f p).length (f p) := by rw [← hq, ← hf]; exact h2
  have := SamePod_true p q.rA q.rc B (f p) w h1 h2' (by omega) hB
  rw [← hq, ← e] at this
  exact this

set_option maxRecDepth 8000 in
theorem Same_true (f : PV → List Int) (l m : Value) (L M : List PV) (B : Nat) (w : World) (hl : PS w B l L) (hm : PS w B m M) (hS : SmL f L M) (hL : RQ w B f L) (hM : RQ w B f M) (hn : L.length ≤ 1000) (hB : B ≤ w.heap.size) :
    CallsR Tryd.prog 12 [l, m] w fun v w' => v = .bool true ∧ X w w' := by
  obtain ⟨A, c, rfl, hc, hat⟩ := hl.open_
  obtain ⟨A', c', rfl, hc', hat'⟩ := hm.open_
  obtain ⟨hlen, hS⟩ := hS
  rw [← hlen]
  refine enter2 Tryd.func12 rfl Tryd.ntmps12 rfl ?_
  repeat (first
 | (with_reducible first
 | apply CW.seq | apply CW.region | apply CW.block | apply CW.ret | apply CW.skip | apply CW.label | apply CW.exit
 | apply W.nil | apply Fin.seq | apply Fin.then_ret | apply Fin.then_exit | apply Fin.blk_ret | apply Fin.blk_normal | apply Fin.blk_here)
 | (with_reducible first | refine S.move ?_ | refine S.assign ?_ | refine S.pickT ?_ | refine S.pickF ?_ | refine S.lss ?_ | refine S.gtr ?_ | refine S.leq ?_ | refine S.geq ?_ | refine S.eqT ?_ | refine S.neF ?_ | refine S.eql ?_ | refine S.neq ?_ | refine S.add ?_ | refine S.sub ?_ | refine S.mul ?_ | refine S.conv ?_ | refine S.shr1 ?_ | refine S.neg ?_ | refine S.not ?_ | refine S.extract ?_ | refine S.len ?_ | refine S.fld ?_ | refine S.index ?_ | refine S.skp ?_ | refine S.sliceTo ?_ | refine S.sliceFrom ?_ | refine S.eqNil ?_ | refine S.eqbT ?_ | refine S.nebF ?_ | refine S.eqb ?_ | refine S.neb ?_)
 | ((with_reducible apply CW.cond_true); exact rfl)
 | ((with_reducible apply CW.cond_false); exact rfl)
 | ((with_reducible apply Fin.blk_far); exact rfl))
  refine CW.loop (ι := Nat) (fun k => [(5, .int .i64 (k : Int)), (0, .slice A L.length c), (1, .slice A' L.length c')]) (fun k w' => X w w' ∧ k ≤ L.length) (fun k => L.length - k) ?_ 0 (by repeat (first | exact trivial | refine ⟨rfl, ?_⟩)) ⟨X.refl _, Nat.zero_le _⟩
  rintro k w1 ⟨hx1, hk⟩
  repeat (first
 | (with_reducible first
 | apply CW.seq | apply CW.region | apply CW.block | apply CW.ret | apply CW.skip | apply CW.label | apply CW.exit
 | apply W.nil | apply Fin.seq | apply Fin.then_ret | apply Fin.then_exit | apply Fin.blk_ret | apply Fin.blk_normal | apply Fin.blk_here)
 | (with_reducible first | refine S.move ?_ | refine S.assign ?_ | refine S.pickT ?_ | refine S.pickF ?_ | refine S.lss ?_ | refine S.gtr ?_ | refine S.leq ?_ | refine S.geq ?_ | refine S.eqT ?_ | refine S.neF ?_ | refine S.eql ?_ | refine S.neq ?_ | refine S.add ?_ | refine S.sub ?_ | refine S.mul ?_ | refine S.conv ?_ | refine S.shr1 ?_ | refine S.neg ?_ | refine S.not ?_ | refine S.extract ?_ | refine S.len ?_ | refine S.fld ?_ | refine S.index ?_ | refine S.skp ?_ | refine S.sliceTo ?_ | refine S.sliceFrom ?_ | refine S.eqNil ?_ | refine S.eqbT ?_ | refine S.nebF ?_ | refine S.eqb ?_ | refine S.neb ?_)
 | ((with_reducible apply CW.cond_true); exact rfl)
 | ((with_reducible apply CW.cond_false); exact rfl)
 | ((with_reducible apply Fin.blk_far); exact rfl))
  refine CW.cond (by rfl) (fun h => ?_) (fun h => ?_)
  · have hk' : k < L.length := by have := of_decide_eq_true h; omega
    have hk'' : k < M.length := by omega
    clear h
    obtain ⟨b, o, rfl, hb, hcell⟩ := hat k hk'
    obtain ⟨b', o', rfl, hb', hcell'⟩ := hat' k hk''
    have hp : L[k]? = some L[k] := List.getElem?_eq_getElem hk'
    have hq : M[k]? = some M[k] := List.getElem?_eq_getElem hk''
    have hsm := hS k _ _ hp hq
    obtain ⟨hr1, hr2⟩ := hL L[k] (List.getElem_mem hk')
    obtain ⟨hr3, _⟩ := hM M[k] (List.getElem_mem hk'')
    have hbw : ∀ w', X w1 w' → Below B w w' := fun w' hx => (hx1.trans hx).at_ hB
    have hcall : ∀ w', X w1 w' → CallsR Tryd.prog 26 [L[k].v, M[k].v] w' fun v w'' => v = .bool true ∧ X w' w'' := by
      intro w' hx
      have h5 := (hbw w' hx).size
      exact SamePod_sm f L[k] M[k] B w' hsm (hr1.below (hbw w' hx)) (hr3.below (hbw w' hx)) hr2 (by omega)
    generalize L[k] = p1 at *
    generalize M[k] = p2 at *
    repeat (first
 | (with_reducible first
 | apply CW.seq | apply CW.region | apply CW.block | apply CW.ret | apply CW.skip | apply CW.label | apply CW.exit
 | apply W.nil | apply Fin.seq | apply Fin.then_ret | apply Fin.then_exit | apply Fin.blk_ret | apply Fin.blk_normal | apply Fin.blk_here)
 | (with_reducible first | refine S.move ?_ | refine S.assign ?_ | refine S.pickT ?_ | refine S.pickF ?_ | refine S.lss ?_ | refine S.gtr ?_ | refine S.leq ?_ | refine S.geq ?_ | refine S.eqT ?_ | refine S.neF ?_ | refine S.eql ?_ | refine S.neq ?_ | refine S.add ?_ | refine S.sub ?_ | refine S.mul ?_ | refine S.conv ?_ | refine S.shr1 ?_ | refine S.neg ?_ | refine S.not ?_ | refine S.extract ?_ | refine S.len ?_ | refine S.fld ?_ | refine S.index ?_ | refine S.skp ?_ | refine S.sliceTo ?_ | refine S.sliceFrom ?_ | refine S.eqNil ?_ | refine S.eqbT ?_ | refine S.nebF ?_ | refine S.eqb ?_ | refine S.neb ?_)
 | ((with_reducible apply CW.cond_true); exact rfl)
 | ((with_reducible apply CW.cond_false); exact rfl)
 | ((with_reducible apply Fin.blk_far); exact rfl))
    refine wp_facts (R := X) (front := [0, 1, 2, 3, 4, 5, 6, 7, 8, 9]) (tail := []) mixed (by kernel_rfl) X.refl (fun _ _ _ => X.trans) (X.drew _) ?_
    repeat ((with_reducible refine TC.step ?_); first
      | (with_reducible first | refine D.move ?_ | refine D.assign ?_ | refine D.pickT ?_ | refine D.pickF ?_ | refine D.lss ?_ | refine D.gtr ?_ | refine D.leq ?_ | refine D.geq ?_ | refine D.eqT ?_ | refine D.neF ?_ | refine D.eql ?_ | refine D.neq ?_ | refine D.add ?_ | refine D.sub ?_ | refine D.mul ?_ | refine D.conv ?_ | refine D.shr1 ?_ | refine D.neg ?_ | refine D.not ?_ | refine D.extract ?_ | refine D.len ?_ | refine D.fld ?_ | refine D.index ?_ | refine D.skp ?_ | refine D.sliceTo ?_ | refine D.sliceFrom ?_ | refine D.eqNil ?_ | refine D.eqbT ?_ | refine D.nebF ?_ | refine D.eqb ?_ | refine D.neb ?_)
      | refine D.lds (cs := p1.cs) (by rfl) stPod (fun w' hx j u hj => ((hbw w' hx).cell (p := ⟨b, _, none⟩) hb).trans (hcell k _ j u hp hj)) X.refl (by rfl) (by rfl) ?_
      | refine D.lds (cs := p2.cs) (by rfl) stPod (fun w' hx j u hj => ((hbw w' hx).cell (p := ⟨b', _, none⟩) hb').trans (hcell' k _ j u hq hj)) X.refl (by rfl) (by rfl) ?_
      | refine D.cl (op_call ent26 (by rfl) (by rfl)) (by rfl) (by rfl) hcall ?_)
    refine TC.done fun w2 hx2 => ?_
    repeat (first
 | (with_reducible first
 | apply CW.seq | apply CW.region | apply CW.block | apply CW.ret | apply CW.skip | apply CW.label | apply CW.exit
 | apply W.nil | apply Fin.seq | apply Fin.then_ret | apply Fin.then_exit | apply Fin.blk_ret | apply Fin.blk_normal | apply Fin.blk_here)
 | (with_reducible first | refine S.move ?_ | refine S.assign ?_ | refine S.pickT ?_ | refine S.pickF ?_ | refine S.lss ?_ | refine S.gtr ?_ | refine S.leq ?_ | refine S.geq ?_ | refine S.eqT ?_ | refine S.neF ?_ | refine S.eql ?_ | refine S.neq ?_ | refine S.add ?_ | refine S.sub ?_ | refine S.mul ?_ | refine S.conv ?_ | refine S.shr1 ?_ | refine S.neg ?_ | refine S.not ?_ | refine S.extract ?_ | refine S.len ?_ | refine S.fld ?_ | refine S.index ?_ | refine S.skp ?_ | refine S.sliceTo ?_ | refine S.sliceFrom ?_ | refine S.eqNil ?_ | refine S.eqbT ?_ | refine S.nebF ?_ | refine S.eqb ?_ | refine S.neb ?_)
 | ((with_reducible apply CW.cond_true); exact rfl)
 | ((with_reducible apply CW.cond_false); exact rfl)
 | ((with_reducible apply Fin.blk_far); exact rfl))
    refine Fin.round (k + 1) (by omega) (by repeat (first | exact trivial | refine ⟨rfl, ?_⟩)) ⟨hx1.trans hx2, by omega⟩
  · have h := of_decide_eq_false h
    repeat (first
 | (with_reducible first
 | apply CW.seq | apply CW.region | apply CW.block | apply CW.ret | apply CW.skip | apply CW.label | apply CW.exit
 | apply W.nil | apply Fin.seq | apply Fin.then_ret | apply Fin.then_exit | apply Fin.blk_ret | apply Fin.blk_normal | apply Fin.blk_here)
 | (with_reducible first | refine S.move ?_ | refine S.assign ?_ | refine S.pickT ?_ | refine S.pickF ?_ | refine S.lss ?_ | refine S.gtr ?_ | refine S.leq ?_ | refine S.geq ?_ | refine S.eqT ?_ | refine S.neF ?_ | refine S.eql ?_ | refine S.neq ?_ | refine S.add ?_ | refine S.sub ?_ | refine S.mul ?_ | refine S.conv ?_ | refine S.shr1 ?_ | refine S.neg ?_ | refine S.not ?_ | refine S.extract ?_ | refine S.len ?_ | refine S.fld ?_ | refine S.index ?_ | refine S.skp ?_ | refine S.sliceTo ?_ | refine S.sliceFrom ?_ | refine S.eqNil ?_ | refine S.eqbT ?_ | refine S.nebF ?_ | refine S.eqb ?_ | refine S.neb ?_)
 | ((with_reducible apply CW.cond_true); exact rfl)
 | ((with_reducible apply CW.cond_false); exact rfl)
 | ((with_reducible apply Fin.blk_far); exact rfl))
    (with_reducible apply R.r1); exact rfl; exact rfl
    exact ⟨rfl, hx1⟩

/-! ## Appending -/

/-- A slice of pods of the call's own. -/
def OwnP (w : World) (B : Nat) (v : Value) (L : List PV) : Prop := w.ownsRow B 30 9 v L.length (flat L)

theorem OwnP.nil (w : World) (B : Nat) : OwnP w B (.slice none 0 0) [] := World.ownsRow_nil w B _ _
theorem OwnP.ps {w : World} {B : Nat} {v : Value} {L : List PV} (h : OwnP w B v L) : PS w w.heap.size v L := by
  obtain ⟨hl, h⟩ := h
  rcases h with ⟨rfl, hn⟩ | ⟨g, cap, cur, rfl, hg, hh, hnc, hcm, hcs, htake⟩
  · have : L = [] := List.eq_nil_of_length_eq_zero hn
    subst this
    exact PS.nil w _
  · refine ⟨_, cap, rfl, hnc, fun _ => ⟨g, 0, rfl, (Array.getElem?_eq_some_iff.1 hh).1, fun i p k u hi hk => ?_⟩⟩
    have h1 := flat_get hi hk
    rw [← htake] at h1
    have hlt : i * 9 + k < L.length * 9 := by
      have := (List.getElem?_eq_some_iff.1 h1).1
      rw [List.length_take] at this
      omega
    rw [List.getElem?_take_of_lt hlt] at h1
    simp only [World.cell?, hh, Nat.zero_add]
    simpa using h1
theorem OwnP.x {w w' : World} {B : Nat} {v : Value} {L : List PV} (h : OwnP w B v L) (hx : X w w') : OwnP w' B v L := by
  obtain ⟨hl, h⟩ := h
  refine ⟨hl, ?_⟩
  rcases h with h | ⟨g, cap, cur, rfl, hg, hh, r⟩
  · exact .inl h
  · exact .inr ⟨g, cap, cur, rfl, hg, (hx.block g (Array.getElem?_eq_some_iff.1 hh).1).trans hh, r⟩
theorem OwnP.lt {w : World} {B : Nat} {v : Value} {L : List PV} (h : OwnP w B v L) : ∀ k, v.ownBlock = some k → B ≤ k ∧ k < w.heap.size := World.ownsRow.lt h
theorem OwnP.low {w : World} {B B' : Nat} {v : Value} {L : List PV} (h : OwnP w B v L) (hB : B' ≤ B) : OwnP w B' v L := by
  obtain ⟨h1, h2⟩ := h
  refine ⟨h1, ?_⟩
  rcases h2 with h2 | ⟨g, cap, cur, e1, e2, r⟩
  · exact .inl h2
  · exact .inr ⟨g, cap, cur, e1, by omega, r⟩
theorem OwnP.g {w w' : World} {B b : Nat} {v : Value} {L : List PV} (h : OwnP w B v L) (hg : w.grownBy w' (some b)) (hne : v.ownBlock ≠ some b) : OwnP w' B v L := by
  obtain ⟨hl, h⟩ := h
  refine ⟨hl, ?_⟩
  rcases h with h | ⟨g, cap, cur, rfl, hgB, hh, r⟩
  · exact .inl h
  · exact .inr ⟨g, cap, cur, rfl, hgB, (hg.block g (Array.getElem?_eq_some_iff.1 hh).1 (by simpa [Value.ownBlock] using hne)).trans hh, r⟩

theorem zPodB : (Tryd.prog.info? 30).map (fun i => (i.zero, i.size, i.bytes)) = some (some PV.zero.v, 9, 88) := by kernel_rfl

theorem cells_of_open {w : World} {a : Addr} {Bm : Nat} {M : List PV} (hat : M ≠ [] → ∃ b o, some a = some (⟨b, o, none⟩ : Addr) ∧ b < Bm ∧ ∀ i p k u, M[i]? = some p → p.cs[k]? = some u → w.cell? ⟨b, o + i * 9 + k, none⟩ = some u) :
    ∀ j u, (flat M)[j]? = some u → w.cell? (a.add j) = some u := by
  intro j u hu
  rcases M with _ | ⟨p, r⟩
  · simp [flat] at hu
  · obtain ⟨b, o, e, _, hcell⟩ := hat (by simp)
    cases e
    have hj : j < (p :: r).length * 9 := by rw [← flat_length]; exact (List.getElem?_eq_some_iff.1 hu).1
    have hd : j / 9 < (p :: r).length := by omega
    have hk9 : j % 9 < (p :: r)[j / 9].cs.length := by rw [PV.cs_length]; omega
    have h1 := flat_get (L := p :: r) (i := j / 9) (List.getElem?_eq_getElem hd) (k := j % 9) (List.getElem?_eq_getElem hk9)
    rw [show j / 9 * 9 + j % 9 = j from by omega, hu] at h1
    have h2 := hcell (j / 9) _ (j % 9) u (List.getElem?_eq_getElem hd) (by rw [List.getElem?_eq_getElem hk9, ← h1])
    rw [show o + j / 9 * 9 + j % 9 = o + j from by omega] at h2
    rw [add_plain]
    exact h2

/-- append onto an empty slice without room. -/
theorem run_append_E {w : World} {B Bm g : Nat} {x : Value} {M : List PV} (hg : Blk w g 30 []) (hgB : B ≤ g) (hm : PS w Bm x M) (hn : M.length ≤ 1000) (ty : TypeId) :
    ∃ v' w', (Builtin.append_ #[22, 22] ty #[.slice (some ⟨g, 0, none⟩) 0 0, x]).run Tryd.prog w = .ok v' w' ∧ OwnP w' B v' M ∧ X w w' := by
  obtain ⟨A, c, rfl, hc, hat⟩ := hm
  cases hi : Tryd.prog.info? 30 with
  | none => have := zPodB; rw [hi] at this; cases this
  | some i =>
    have hz := zPodB
    rw [hi] at hz
    simp only [Option.map_some, Option.some.injEq, Prod.mk.injEq] at hz
    obtain ⟨hz0, hz1, hz2⟩ := hz
    by_cases hM : M = []
    · subst hM
      refine ⟨.slice (some ⟨g, 0, none⟩) 0 0, w, ?_, ⟨rfl, .inr ⟨g, 0, #[], rfl, hgB, hg, Nat.le_refl _, by unfold maxLen; omega, rfl, rfl⟩⟩, X.refl _⟩
      cases A <;> simp [Builtin.append_, run_underlying Tryd.underlying22, sizeOf, typeInfo, hi, Builtin.lenOf, Builtin.firstCells, loadCells, loadCellsFrom, storeCells]
    · cases A with
      | none => obtain ⟨b, o, e, _⟩ := hat hM; cases e
      | some a =>
        have hpos : 0 < M.length := List.length_pos_iff.2 hM
        have hr := run_append_grow (P := Tryd.prog) w 22 ty 30 i PV.zero.v Tryd.underlying22 hi hz0 ⟨g, 0, none⟩ 0 0 [] (by simp) (by simp) a M.length c (flat M) (by rw [flat_length, hz1]) (cells_of_open hat) (by omega) (by omega) (by
          unfold Builtin.nextslicecap
          rw [if_pos (by omega), hz2]; omega)
        simp only [Nat.zero_add] at hr
        refine ⟨_, _, hr, ⟨flat_length M, .inr ⟨w.heap.size, _, _, rfl, by have := hg.lt; omega, heap_alloc_new w.drew _, grownCap_ge w M.length 0 30, grownCap_le_maxLen w M.length 0 30 (by unfold maxLen; omega), ?_, ?_⟩⟩, ?_⟩
        · have hge := grownCap_ge w M.length 0 30
          have hzs : PV.zero.v.cells.size = 9 := rfl
          simp only [Array.size_append, List.size_toArray, size_zeroCells, hzs, flat_length, List.length_nil, Nat.zero_add, ← Nat.add_mul]
          congr 1
          omega
        · simp only [Array.toList_append, List.nil_append, List.append_assoc]
          rw [← flat_length]
          exact List.take_left
        · exact X.trans (X.drew w) (X.alloc _ _)

theorem run_append_P {w : World} {B Bm : Nat} {v x : Value} {L M : List PV} (ho : OwnP w B v L) (hm : PS w Bm x M) (hn : L.length + M.length ≤ 1000) (hB : B ≤ w.heap.size) (ty : TypeId) :
    ∃ v' w', (Builtin.append_ #[22, 22] ty #[v, x]).run Tryd.prog w = .ok v' w' ∧ OwnP w' B v' (L ++ M) ∧ w.grownBy w' v.ownBlock ∧ (v'.ownBlock = v.ownBlock ∨ v'.ownBlock = some w.heap.size) := by
  obtain ⟨A, c, rfl, hc, hat⟩ := hm
  cases hi : Tryd.prog.info? 30 with
  | none => have := zPodB; rw [hi] at this; cases this
  | some i =>
    have hz := zPodB
    rw [hi] at hz
    simp only [Option.map_some, Option.some.injEq, Prod.mk.injEq] at hz
    obtain ⟨hz0, hz1, hz2⟩ := hz
    cases A with
    | none =>
      have hM : M = [] := by
        rcases M with _ | ⟨p, r⟩
        · rfl
        · obtain ⟨b, o, e, _⟩ := hat (by simp)
          cases e
      subst hM
      refine ⟨v, w, ?_, by simpa using ho, ⟨rfl, rfl, rfl, Nat.le_refl _, fun _ _ _ => rfl⟩, .inl rfl⟩
      rcases ho.2 with ⟨rfl, hl⟩ | ⟨g, cap, cur, rfl, _, _, hnc, _⟩
      · simp [Builtin.append_, run_underlying Tryd.underlying22, sizeOf, typeInfo, hi, Builtin.lenOf, Builtin.firstCells]
      · simp [Builtin.append_, run_underlying Tryd.underlying22, sizeOf, typeInfo, hi, Builtin.lenOf, Builtin.firstCells, hnc, storeCells]
    | some a =>
      have hcells := cells_of_open hat
      obtain ⟨v', w', hrun, h2, h3, _, h5⟩ := run_append_own_at (P := Tryd.prog) w B 22 ty 30 i PV.zero.v 9 88 Tryd.underlying22 hi hz0 hz1 hz2 rfl (by omega) v L.length (flat L) ho a M.length c (flat M) (flat_length M) hcells (flat_one M)
        (by unfold maxLen; omega) (by omega) hB
      refine ⟨v', w', hrun, ?_, h3, h5⟩
      unfold OwnP
      rw [List.length_append, flat_append]
      exact h2

theorem S.app {ops : Array Oper} {Q : Exit → Act → World → Prop} {l : List Oper} {N : Nat} {env : Env} {w : World} {ty : TypeId} {pos : String} {aft : Array Edge} {g : Option (Nat × Bool)} {d B Bm : Nat} {s x : Operand} {v u : Value} {L M : List PV}
    (hs : opv env s = some v) (hx : opv env x = some u) (ho : OwnP w B v L) (hm : PS w Bm u M) (hn : L.length + M.length ≤ 1000) (hB : B ≤ w.heap.size) (hg : wantE ops env g = some true) (hd : Nat.blt d N = true)
    (K : ∀ v' w', OwnP w' B v' (L ++ M) → w.grownBy w' v.ownBlock → (v'.ownBlock = v.ownBlock ∨ v'.ownBlock = some w.heap.size) → W Tryd.prog ops Q l N ((d, v') :: env) w') :
    W Tryd.prog ops Q ({ dst := some d, op := .call { callee := .builtin .append, args := #[s, x], argTypes := #[22, 22] }, type := ty, pos, after := aft, guard := g } :: l) N env w := by
  obtain ⟨v', w', hrun, h2, h3, h4⟩ := run_append_P ho hm hn hB ty
  refine W.makes (d := some d) (v := v') (w' := w') (fun ev he d pos aft g => ?_) hg hd (K v' w' h2 h3 h4)
  simp [execOp, resolve, invoke, builtin, he s _ hs, he x _ hx, hrun]

theorem below_own {B : Nat} {a w w' : World} {v : Value} {L : List PV} (h : Below B a w) (ho : OwnP w B v L) (hg : w.grownBy w' v.ownBlock) (hB : B ≤ w.heap.size) : Below B a w' := h.grown hg hB (fun k e => (ho.lt k e).1)

end Go.Proofs.YtmilpjkjcanghaaDoor

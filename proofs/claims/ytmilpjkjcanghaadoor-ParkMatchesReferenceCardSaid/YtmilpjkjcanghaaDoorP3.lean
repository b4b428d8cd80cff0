/- The lot: All, Wake, Count. -/
import Derived.Test.YtmilpjkjcanghaaDoorP2
namespace Go.Proofs.YtmilpjkjcanghaaDoor
open Go.RowKit
set_option linter.unusedVariables false
set_option linter.unusedSimpArgs false

def sortAP (L : List AP) : List AP := L.foldl (fun o x => insA x o) []
theorem sort_fold (w : World) (L : List PV) : (sortR L).map (ab w) = sortAP (L.map (ab w)) := by
  have h : ∀ n, ∀ L : List PV, L.length = n → (sortR L).map (ab w) = sortAP (L.map (ab w)) := by
    intro n
    induction n with
    | zero => intro L hL; rw [List.eq_nil_of_length_eq_zero hL]; rfl
    | succ n ih =>
      intro L hL
      rcases List.eq_nil_or_concat L with rfl | ⟨M, p, rfl⟩
      · simp at hL
      · rw [List.concat_eq_append] at hL ⊢
        rw [sortR_snoc, insA_map, ih M (by simpa using hL)]
        unfold sortAP
        rw [List.map_append, List.foldl_append]
        rfl
  exact h L.length L rfl

theorem perm_out {T : List PE} {t : PE} (h : T.Pairwise fun s t => s.b ≠ t.b) (ht : t ∈ T) : T.Perm (t :: T.filter fun x => !(x.b == t.b)) := by
  induction T with
  | nil => cases ht
  | cons x T ih =>
    obtain ⟨h1, h2⟩ := List.pairwise_cons.1 h
    rcases List.mem_cons.1 ht with rfl | ht
    · rw [List.filter_cons_of_neg (by simp)]
      refine List.Perm.cons t ?_
      rw [List.filter_eq_self.2 fun a ha => by
        have := h1 a ha
        simpa using fun e => this e.symm]
    · rw [List.filter_cons_of_pos (by simpa using h1 t ht)]
      exact ((ih h2 ht).cons x).trans (List.Perm.swap t x _)

theorem idd_map {M : List PE} (h : M.Pairwise fun s t => s.p.id ≠ t.p.id) : IdD (M.map (·.p)) := List.pairwise_map.2 h
theorem sort_perm {M D : List PE} (h : M.Pairwise fun s t => s.p.id ≠ t.p.id) (hp : D.Perm M) : sortR (D.map (·.p)) = sortR (M.map (·.p)) := by
  have hD : D.Pairwise fun s t => s.p.id ≠ t.p.id := (hp.pairwise_iff fun h => Ne.symm h).2 h
  refine sortR_same (idd_map hD) (idd_map h) (by simp [hp.length_eq]) fun x => ?_
  rw [List.mem_map, List.mem_map]
  exact ⟨fun ⟨t, h1, h2⟩ => ⟨t, hp.mem_iff.1 h1, h2⟩, fun ⟨t, h1, h2⟩ => ⟨t, hp.mem_iff.2 h1, h2⟩⟩

theorem OwnP.row {w : World} {B : Nat} {v : Value} {L : List PV} (h : OwnP w B v L) {g : Nat} (hg : v.ownBlock = some g) : ∃ cs, Blk w g 30 cs := by
  obtain ⟨_, h⟩ := h
  rcases h with ⟨rfl, _⟩ | ⟨g', cap, cur, rfl, _, hh, _⟩
  · cases hg
  · cases hg
    exact ⟨cur.toList, by unfold Blk; simpa using hh⟩
theorem IterB.g {w w' : World} {it r g clock : Nat} {M T : List PE} (h : IterB w it r M clock T) (hg : G g w w') (hne : it ≠ g) : IterB w' it r M clock T := by
  have hl := h.lt
  obtain ⟨s, c, h1, h2⟩ := h
  exact ⟨s, c, (World.grownBy.block hg it hl (by simpa using hne)).trans h1, h2⟩
theorem IterB.own {w w' : World} {it r clock B : Nat} {M T : List PE} {v : Value} {L : List PV} (h : IterB w it r M clock T) (hO : OwnP w B v L) (hg : w.grownBy w' v.ownBlock) : IterB w' it r M clock T := by
  have hl := h.lt
  obtain ⟨s, c, h1, h2⟩ := h
  refine ⟨s, c, (hg.block it hl fun e => ?_).trans h1, h2⟩
  obtain ⟨cs, hB⟩ := hO.row e.symm
  unfold Blk at hB
  rw [h1] at hB
  cases hB
theorem OwnP.it {w w' : World} {it r clock B : Nat} {M T : List PE} {v : Value} {L : List PV} (hO : OwnP w B v L) (h : IterB w it r M clock T) (hg : G it w w') : OwnP w' B v L := by
  refine hO.g hg fun e => ?_
  obtain ⟨s, c, h1, h2⟩ := h
  obtain ⟨cs, hB⟩ := hO.row e
  unfold Blk at hB
  rw [h1] at hB
  cases hB
theorem OwnR.it {w w' : World} {it r clock B : Nat} {M T : List PE} {p : PV} (hO : OwnR w B p) (h : IterB w it r M clock T) (hg : G it w w') : OwnR w' B p := by
  obtain ⟨l, h1, h2, h3⟩ := hO
  refine ⟨l, h1, h2, fun hne => ?_⟩
  obtain ⟨b, sp, e1, e2, e3⟩ := h3 hne
  refine ⟨b, sp, e1, e2, hg.blk e3 fun e => ?_⟩
  subst e
  obtain ⟨s, c, h4, _⟩ := h
  unfold Blk at e3
  rw [h4] at e3
  cases e3
theorem OwnR.own {w w' : World} {B B' : Nat} {p : PV} {v : Value} {L : List PV} (hR : OwnR w B p) (hO : OwnP w B' v L) (hg : w.grownBy w' v.ownBlock) : OwnR w' B p := by
  obtain ⟨l, h1, h2, h3⟩ := hR
  refine ⟨l, h1, h2, fun hne => ?_⟩
  obtain ⟨b, sp, e1, e2, e3⟩ := h3 hne
  refine ⟨b, sp, e1, e2, (hg.block b e3.lt fun e => ?_).trans e3⟩
  obtain ⟨cs, hB⟩ := hO.row e.symm
  have := hB.one e3
  exact absurd this (by decide)
theorem OwnR.read {w w' : World} {B : Nat} {p : PV} {l : List Int} (h1 : RqB w B p.rA p.rn l) (h2 : RqB w' B p.rA p.rn l) : ab w' p = ab w p := by
  unfold ab
  rw [h1.isk.read, h2.isk.read]

/-- Copies of entries: each reads as its own. -/
def CpL (w wb : World) (Ds : List PV) (Dn : List PE) : Prop := Ds.length = Dn.length ∧ ∀ (i : Nat) (p : PV) (t : PE), Ds[i]? = some p → Dn[i]? = some t → ∃ l : List Int, l.length ≤ 1000 ∧ RqB w wb.heap.size p.rA p.rn l ∧ (nrm p, l) = ab wb t.p
theorem CpL.nil (w wb : World) : CpL w wb [] [] := ⟨rfl, fun i p t h => by simp at h⟩
theorem CpL.map {w wb : World} {Ds : List PV} {Dn : List PE} (h : CpL w wb Ds Dn) : Ds.map (ab w) = Dn.map fun t => ab wb t.p := by
  apply List.ext_getElem?
  intro i
  rw [List.getElem?_map, List.getElem?_map]
  by_cases hi : i < Ds.length
  · have h1 : Ds[i]? = some Ds[i] := List.getElem?_eq_getElem hi
    have h2 : Dn[i]? = some (Dn[i]'(h.1 ▸ hi)) := List.getElem?_eq_getElem _
    obtain ⟨l, _, h4, h5⟩ := h.2 i _ _ h1 h2
    rw [h1, h2, Option.map_some, Option.map_some, ← h5]
    unfold ab
    rw [h4.isk.read]
  · rw [List.getElem?_eq_none (by omega), List.getElem?_eq_none (by rw [← h.1]; omega)]; rfl
theorem CpL.own {w wb : World} {Ds : List PV} {Dn : List PE} (h : CpL w wb Ds Dn) : ∀ p ∈ Ds, OwnR w wb.heap.size p := fun p hp => by
  obtain ⟨i, hi, rfl⟩ := List.getElem_of_mem hp
  obtain ⟨l, h3, h4, h5⟩ := h.2 i _ _ (List.getElem?_eq_getElem hi) (List.getElem?_eq_getElem (h.1 ▸ hi))
  exact ⟨l, h3, h4⟩
theorem CpL.keep {w w' wb : World} {Ds : List PV} {Dn : List PE} (h : CpL w wb Ds Dn) (hk : ∀ (p : PV) (l : List Int), RqB w wb.heap.size p.rA p.rn l → RqB w' wb.heap.size p.rA p.rn l) : CpL w' wb Ds Dn :=
  ⟨h.1, fun i p t h1 h2 => by obtain ⟨l, h3, h4, h5⟩ := h.2 i p t h1 h2; exact ⟨l, h3, hk p l h4, h5⟩⟩
theorem CpL.snoc {w wb : World} {Ds : List PV} {Dn : List PE} (h : CpL w wb Ds Dn) {p : PV} {t : PE} {l : List Int} (h1 : l.length ≤ 1000) (h2 : RqB w wb.heap.size p.rA p.rn l) (h3 : (nrm p, l) = ab wb t.p) : CpL w wb (Ds ++ [p]) (Dn ++ [t]) := by
  refine ⟨by simp [h.1], fun i q s hq hs => ?_⟩
  rcases Nat.lt_trichotomy i Ds.length with hi | hi | hi
  · rw [List.getElem?_append_left hi] at hq
    rw [List.getElem?_append_left (h.1 ▸ hi)] at hs
    exact h.2 i q s hq hs
  · subst hi
    rw [List.getElem?_append_right (Nat.le_refl _), Nat.sub_self] at hq
    rw [h.1, List.getElem?_append_right (Nat.le_refl _), Nat.sub_self] at hs
    cases hq; cases hs
    exact ⟨l, h1, h2, h3⟩
  · rw [List.getElem?_eq_none (by simp; omega)] at hq
    cases hq

theorem RqB.it {w w' : World} {it r clock B n : Nat} {M T : List PE} {A : Option Addr} {l : List Int} (hR : RqB w B A n l) (h : IterB w it r M clock T) (hg : G it w w') : RqB w' B A n l :=
  ⟨hR.1, fun hne => by
    obtain ⟨b, sp, e1, e2, e3⟩ := hR.2 hne
    refine ⟨b, sp, e1, e2, hg.blk e3 fun e => ?_⟩
    subst e
    obtain ⟨s, c, h4, _⟩ := h
    unfold Blk at e3
    rw [h4] at e3
    cases e3⟩
theorem RqB.own {w w' : World} {B B' n : Nat} {A : Option Addr} {l : List Int} {v : Value} {L : List PV} (hR : RqB w B A n l) (hO : OwnP w B' v L) (hg : w.grownBy w' v.ownBlock) : RqB w' B A n l :=
  ⟨hR.1, fun hne => by
    obtain ⟨b, sp, e1, e2, e3⟩ := hR.2 hne
    refine ⟨b, sp, e1, e2, (hg.block b e3.lt fun e => ?_).trans e3⟩
    obtain ⟨cs, hB⟩ := hO.row e.symm
    have := hB.one e3
    exact absurd this (by decide)⟩

theorem lAll_none (w : World) : CallsR Tryd.prog 15 [.pointer none] w fun u w' => u = .slice none 0 0 ∧ w' = w := by
  refine enter1 Tryd.func15 rfl Tryd.ntmps15 rfl ?_
  repeat (first
 | (with_reducible first
 | apply CW.seq | apply CW.region | apply CW.block | apply CW.ret | apply CW.skip | apply CW.label | apply CW.exit
 | apply W.nil | apply Fin.seq | apply Fin.then_ret | apply Fin.then_exit | apply Fin.blk_ret | apply Fin.blk_normal | apply Fin.blk_here)
 | (with_reducible first | refine S.move ?_ | refine S.assign ?_ | refine S.pickT ?_ | refine S.pickF ?_ | refine S.lss ?_ | refine S.gtr ?_ | refine S.leq ?_ | refine S.geq ?_ | refine S.eqT ?_ | refine S.neF ?_ | refine S.eql ?_ | refine S.neq ?_ | refine S.add ?_ | refine S.sub ?_ | refine S.mul ?_ | refine S.conv ?_ | refine S.shr1 ?_ | refine S.neg ?_ | refine S.not ?_ | refine S.extract ?_ | refine S.len ?_ | refine S.fld ?_ | refine S.index ?_ | refine S.skp ?_ | refine S.sliceTo ?_ | refine S.sliceFrom ?_ | refine S.eqNil ?_ | refine S.eqbT ?_ | refine S.nebF ?_ | refine S.eqb ?_ | refine S.neb ?_)
 | (with_reducible first | refine S.nc ?_ | refine S.fld ?_ (h1 := fLotAll) | refine S.eqP ?_ | refine S.neP ?_)
 | ((with_reducible apply CW.cond_true); exact rfl)
 | ((with_reducible apply CW.cond_false); exact rfl)
 | ((with_reducible apply Fin.blk_far); exact rfl))
  (with_reducible apply R.r1); exact rfl; exact rfl
  exact ⟨rfl, rfl⟩

set_option maxHeartbeats 2000000 in
theorem lAll_calls (B b0 : Nat) (O : Nat → Prop) (A : List (AP × Int)) (w : World) (h : LA w B b0 O A) (hn : A.length ≤ 900) :
    CallsR Tryd.prog 15 [.pointer (some ⟨b0, 0, none⟩)] w fun u w' => (∃ Ls, NewS w' w.heap.size u Ls ∧ Ls.map (ab w') = sortAP (A.map (·.1)) ∧ Ls.length = A.length ∧ ∀ p ∈ Ls, OwnR w' w.heap.size p) ∧ X w w' := by
  obtain ⟨bm, M, hI, rfl⟩ := h
  rw [List.length_map] at hn ⊢
  obtain ⟨clock, hP, hL⟩ := hI.map
  have hbm : bm < w.heap.size := hP.lt
  refine enter1 Tryd.func15 rfl Tryd.ntmps15 rfl ?_
  repeat (first
 | (with_reducible first
 | apply CW.seq | apply CW.region | apply CW.block | apply CW.ret | apply CW.skip | apply CW.label | apply CW.exit
 | apply W.nil | apply Fin.seq | apply Fin.then_ret | apply Fin.then_exit | apply Fin.blk_ret | apply Fin.blk_normal | apply Fin.blk_here)
 | (with_reducible first | refine S.move ?_ | refine S.assign ?_ | refine S.pickT ?_ | refine S.pickF ?_ | refine S.lss ?_ | refine S.gtr ?_ | refine S.leq ?_ | refine S.geq ?_ | refine S.eqT ?_ | refine S.neF ?_ | refine S.eql ?_ | refine S.neq ?_ | refine S.add ?_ | refine S.sub ?_ | refine S.mul ?_ | refine S.conv ?_ | refine S.shr1 ?_ | refine S.neg ?_ | refine S.not ?_ | refine S.extract ?_ | refine S.len ?_ | refine S.fld ?_ | refine S.index ?_ | refine S.skp ?_ | refine S.sliceTo ?_ | refine S.sliceFrom ?_ | refine S.eqNil ?_ | refine S.eqbT ?_ | refine S.nebF ?_ | refine S.eqb ?_ | refine S.neb ?_)
 | (with_reducible first | refine S.nc ?_ | refine S.fld ?_ (h1 := fLotAll) | refine S.eqP ?_ | refine S.neP ?_)
 | ((with_reducible apply CW.cond_true); exact rfl)
 | ((with_reducible apply CW.cond_false); exact rfl)
 | ((with_reducible apply Fin.blk_far); exact rfl))
  ((with_reducible apply S.ld); exact rfl; (with_reducible first | exact oneInt | exact oneI64s | exact oneBool | exact oneI64 | exact onePods | exact oneMap); (exact hI.cm); exact rfl; exact rfl)
  refine S.rangeE Tryd.underlying53 (by rfl) hP (by rfl) (by rfl) fun it w1 hx1 hit hIt1 => ?_
  repeat (first
 | (with_reducible first
 | apply CW.seq | apply CW.region | apply CW.block | apply CW.ret | apply CW.skip | apply CW.label | apply CW.exit
 | apply W.nil | apply Fin.seq | apply Fin.then_ret | apply Fin.then_exit | apply Fin.blk_ret | apply Fin.blk_normal | apply Fin.blk_here)
 | (with_reducible first | refine S.move ?_ | refine S.assign ?_ | refine S.pickT ?_ | refine S.pickF ?_ | refine S.lss ?_ | refine S.gtr ?_ | refine S.leq ?_ | refine S.geq ?_ | refine S.eqT ?_ | refine S.neF ?_ | refine S.eql ?_ | refine S.neq ?_ | refine S.add ?_ | refine S.sub ?_ | refine S.mul ?_ | refine S.conv ?_ | refine S.shr1 ?_ | refine S.neg ?_ | refine S.not ?_ | refine S.extract ?_ | refine S.len ?_ | refine S.fld ?_ | refine S.index ?_ | refine S.skp ?_ | refine S.sliceTo ?_ | refine S.sliceFrom ?_ | refine S.eqNil ?_ | refine S.eqbT ?_ | refine S.nebF ?_ | refine S.eqb ?_ | refine S.neb ?_)
 | (with_reducible first | refine S.nc ?_ | refine S.fld ?_ (h1 := fLotAll) | refine S.eqP ?_ | refine S.neP ?_)
 | ((with_reducible apply CW.cond_true); exact rfl)
 | ((with_reducible apply CW.cond_false); exact rfl)
 | ((with_reducible apply Fin.blk_far); exact rfl))
  refine CW.loop (ι := Value × List PE × List PE × List PV) (fun k => [(3, k.1), (12, .pointer (some ⟨it, 0, none⟩))]) (fun k w' => X w w' ∧ IterB w' it bm M clock k.2.1 ∧ OwnP w' w.heap.size k.1 k.2.2.2 ∧ CpL w' w k.2.2.2 k.2.2.1 ∧ (k.2.2.1 ++ k.2.1).Perm M) (fun k => k.2.1.length) ?_ (.slice none 0 0, M, [], []) (by repeat (first | exact trivial | refine ⟨congrArg (fun z : Int => some (Value.int .i64 z)) (by omega), ?_⟩ | refine ⟨rfl, ?_⟩)) ⟨hx1, hIt1, OwnP.nil _ _, CpL.nil _ _, List.Perm.refl _⟩
  rintro ⟨vo, T, Dn, Ds⟩ w2 ⟨hx2, hIt2, hO2, hC2, hperm⟩
  simp only at hIt2 hO2 hC2 hperm ⊢
  have hP2 := hP.x hx2
  have hTb : T.Pairwise fun s t => s.b ≠ t.b := ((hperm.pairwise_iff (R := fun s t : PE => s.b ≠ t.b) fun h => Ne.symm h).2 hL.births).sublist (List.sublist_append_right Dn T)
  have hlen : Dn.length + T.length = M.length := by have := hperm.length_eq; rwa [List.length_append] at this
  repeat (first
 | (with_reducible first
 | apply CW.seq | apply CW.region | apply CW.block | apply CW.ret | apply CW.skip | apply CW.label | apply CW.exit
 | apply W.nil | apply Fin.seq | apply Fin.then_ret | apply Fin.then_exit | apply Fin.blk_ret | apply Fin.blk_normal | apply Fin.blk_here)
 | (with_reducible first | refine S.move ?_ | refine S.assign ?_ | refine S.pickT ?_ | refine S.pickF ?_ | refine S.lss ?_ | refine S.gtr ?_ | refine S.leq ?_ | refine S.geq ?_ | refine S.eqT ?_ | refine S.neF ?_ | refine S.eql ?_ | refine S.neq ?_ | refine S.add ?_ | refine S.sub ?_ | refine S.mul ?_ | refine S.conv ?_ | refine S.shr1 ?_ | refine S.neg ?_ | refine S.not ?_ | refine S.extract ?_ | refine S.len ?_ | refine S.fld ?_ | refine S.index ?_ | refine S.skp ?_ | refine S.sliceTo ?_ | refine S.sliceFrom ?_ | refine S.eqNil ?_ | refine S.eqbT ?_ | refine S.nebF ?_ | refine S.eqb ?_ | refine S.neb ?_)
 | (with_reducible first | refine S.nc ?_ | refine S.fld ?_ (h1 := fLotAll) | refine S.eqP ?_ | refine S.neP ?_)
 | ((with_reducible apply CW.cond_true); exact rfl)
 | ((with_reducible apply CW.cond_false); exact rfl)
 | ((with_reducible apply Fin.blk_far); exact rfl))
  refine S.nextE (by rfl) hP2 hL hIt2 (by rfl) (by rfl) (fun hT => ?_) (fun t ht w3 hg3 hIt3 hen => ?_)
  · subst hT
    rw [List.append_nil] at hperm
    have hDl : Ds.length = M.length := hC2.1.trans hperm.length_eq
    repeat (first
 | (with_reducible first
 | apply CW.seq | apply CW.region | apply CW.block | apply CW.ret | apply CW.skip | apply CW.label | apply CW.exit
 | apply W.nil | apply Fin.seq | apply Fin.then_ret | apply Fin.then_exit | apply Fin.blk_ret | apply Fin.blk_normal | apply Fin.blk_here)
 | (with_reducible first | refine S.move ?_ | refine S.assign ?_ | refine S.pickT ?_ | refine S.pickF ?_ | refine S.lss ?_ | refine S.gtr ?_ | refine S.leq ?_ | refine S.geq ?_ | refine S.eqT ?_ | refine S.neF ?_ | refine S.eql ?_ | refine S.neq ?_ | refine S.add ?_ | refine S.sub ?_ | refine S.mul ?_ | refine S.conv ?_ | refine S.shr1 ?_ | refine S.neg ?_ | refine S.not ?_ | refine S.extract ?_ | refine S.len ?_ | refine S.fld ?_ | refine S.index ?_ | refine S.skp ?_ | refine S.sliceTo ?_ | refine S.sliceFrom ?_ | refine S.eqNil ?_ | refine S.eqbT ?_ | refine S.nebF ?_ | refine S.eqb ?_ | refine S.neb ?_)
 | (with_reducible first | refine S.nc ?_ | refine S.fld ?_ (h1 := fLotAll) | refine S.eqP ?_ | refine S.neP ?_)
 | ((with_reducible apply CW.cond_true); exact rfl)
 | ((with_reducible apply CW.cond_false); exact rfl)
 | ((with_reducible apply Fin.blk_far); exact rfl))
    refine S.cl (op_call ent28 (by rfl) (by rfl)) (by rfl) (by rfl) (Sort_calls vo Ds w2 hO2.ps (by omega)) ?_
    rintro vs w3 ⟨hN, hx3⟩
    have hC3 := hC2.keep fun p l h => h.x hx3
    repeat (first
 | (with_reducible first
 | apply CW.seq | apply CW.region | apply CW.block | apply CW.ret | apply CW.skip | apply CW.label | apply CW.exit
 | apply W.nil | apply Fin.seq | apply Fin.then_ret | apply Fin.then_exit | apply Fin.blk_ret | apply Fin.blk_normal | apply Fin.blk_here)
 | (with_reducible first | refine S.move ?_ | refine S.assign ?_ | refine S.pickT ?_ | refine S.pickF ?_ | refine S.lss ?_ | refine S.gtr ?_ | refine S.leq ?_ | refine S.geq ?_ | refine S.eqT ?_ | refine S.neF ?_ | refine S.eql ?_ | refine S.neq ?_ | refine S.add ?_ | refine S.sub ?_ | refine S.mul ?_ | refine S.conv ?_ | refine S.shr1 ?_ | refine S.neg ?_ | refine S.not ?_ | refine S.extract ?_ | refine S.len ?_ | refine S.fld ?_ | refine S.index ?_ | refine S.skp ?_ | refine S.sliceTo ?_ | refine S.sliceFrom ?_ | refine S.eqNil ?_ | refine S.eqbT ?_ | refine S.nebF ?_ | refine S.eqb ?_ | refine S.neb ?_)
 | (with_reducible first | refine S.nc ?_ | refine S.fld ?_ (h1 := fLotAll) | refine S.eqP ?_ | refine S.neP ?_)
 | ((with_reducible apply CW.cond_true); exact rfl)
 | ((with_reducible apply CW.cond_false); exact rfl)
 | ((with_reducible apply Fin.blk_far); exact rfl))
    (with_reducible apply R.r1); exact rfl; exact rfl
    refine ⟨⟨sortR Ds, hN.low hx2.le, ?_, by rw [sortR_len]; exact hDl, fun p hp => hC3.own p (((sortR_srt Ds).2.mem p).2 hp)⟩, hx2.trans hx3⟩
    rw [sort_fold, hC3.map, List.map_map]
    have e1 : Dn.map (fun t => ab w t.p) = (Dn.map (·.p)).map (ab w) := by rw [List.map_map]; rfl
    have e2 : M.map ((fun x : AP × Int => x.1) ∘ abE w) = (M.map (·.p)).map (ab w) := by rw [List.map_map]; rfl
    rw [e1, e2, ← sort_fold, ← sort_fold, sort_perm hL.keys hperm]
  · have htM : t ∈ M := hperm.mem_iff.1 (List.mem_append_right _ ht)
    have hx3 : X w w3 := below_g hx2 hg3 hx2.le hit
    have hO3 := hO2.it hIt2 hg3
    have hC3 := hC2.keep fun p l h => h.it hIt2 hg3
    have hP3 := hP.x hx3
    have hperm3 : ((Dn ++ [t]) ++ T.filter fun x => !(x.b == t.b)).Perm M := by
      refine List.Perm.trans ?_ hperm
      rw [List.append_assoc]
      exact List.Perm.append_left Dn (perm_out hTb ht).symm
    obtain ⟨lr, hlr, hisk⟩ := hI.rq t htM
    have hfl : (T.filter fun x => !(x.b == t.b)).length < T.length := by have := (perm_out hTb ht).length_eq; rw [List.length_cons] at this; omega
    repeat (first
 | (with_reducible first
 | apply CW.seq | apply CW.region | apply CW.block | apply CW.ret | apply CW.skip | apply CW.label | apply CW.exit
 | apply W.nil | apply Fin.seq | apply Fin.then_ret | apply Fin.then_exit | apply Fin.blk_ret | apply Fin.blk_normal | apply Fin.blk_here)
 | (with_reducible first | refine S.move ?_ | refine S.assign ?_ | refine S.pickT ?_ | refine S.pickF ?_ | refine S.lss ?_ | refine S.gtr ?_ | refine S.leq ?_ | refine S.geq ?_ | refine S.eqT ?_ | refine S.neF ?_ | refine S.eql ?_ | refine S.neq ?_ | refine S.add ?_ | refine S.sub ?_ | refine S.mul ?_ | refine S.conv ?_ | refine S.shr1 ?_ | refine S.neg ?_ | refine S.not ?_ | refine S.extract ?_ | refine S.len ?_ | refine S.fld ?_ | refine S.index ?_ | refine S.skp ?_ | refine S.sliceTo ?_ | refine S.sliceFrom ?_ | refine S.eqNil ?_ | refine S.eqbT ?_ | refine S.nebF ?_ | refine S.eqb ?_ | refine S.neb ?_)
 | (with_reducible first | refine S.nc ?_ | refine S.fld ?_ (h1 := fLotAll) | refine S.eqP ?_ | refine S.neP ?_)
 | ((with_reducible apply CW.cond_true); exact rfl)
 | ((with_reducible apply CW.cond_false); exact rfl)
 | ((with_reducible apply Fin.blk_far); exact rfl))
    refine S.entryE (by rfl) (hen w3 rfl hP3) (by rfl) (by rfl) ?_
    repeat (first
 | (with_reducible first
 | apply CW.seq | apply CW.region | apply CW.block | apply CW.ret | apply CW.skip | apply CW.label | apply CW.exit
 | apply W.nil | apply Fin.seq | apply Fin.then_ret | apply Fin.then_exit | apply Fin.blk_ret | apply Fin.blk_normal | apply Fin.blk_here)
 | (with_reducible first | refine S.move ?_ | refine S.assign ?_ | refine S.pickT ?_ | refine S.pickF ?_ | refine S.lss ?_ | refine S.gtr ?_ | refine S.leq ?_ | refine S.geq ?_ | refine S.eqT ?_ | refine S.neF ?_ | refine S.eql ?_ | refine S.neq ?_ | refine S.add ?_ | refine S.sub ?_ | refine S.mul ?_ | refine S.conv ?_ | refine S.shr1 ?_ | refine S.neg ?_ | refine S.not ?_ | refine S.extract ?_ | refine S.len ?_ | refine S.fld ?_ | refine S.index ?_ | refine S.skp ?_ | refine S.sliceTo ?_ | refine S.sliceFrom ?_ | refine S.eqNil ?_ | refine S.eqbT ?_ | refine S.nebF ?_ | refine S.eqb ?_ | refine S.neb ?_)
 | (with_reducible first | refine S.nc ?_ | refine S.fld ?_ (h1 := fLotAll) | refine S.eqP ?_ | refine S.neP ?_)
 | ((with_reducible apply CW.cond_true); exact rfl)
 | ((with_reducible apply CW.cond_false); exact rfl)
 | ((with_reducible apply Fin.blk_far); exact rfl))
    refine W.newBlk (d := some 5) (mk := fun b => .pointer (some ⟨b, 0, none⟩)) (cs := PE.zero.cs) (op_alloc' zPk' rfl) (by rfl) (by rfl) ?_
    intro b5 w4 hx4 hb5 hB5
    refine S.stB (vs := t.cs) (by rfl) (by rfl) rfl hB5 rfl szPk t.one (by rfl) ?_
    intro w5 hg5 hB5
    have hx35 : X w3 w5 := below_g hx4 hg5 hx4.le hb5
    have hX5 := hx3.trans hx35
    have hO5 := hO3.x hx35
    have hIt5 := hIt3.x hx35
    have hC5 := hC3.keep fun p l h => h.x hx35
    clear hg5 hx4 hg3 hen hC3 hO3 hIt3 hC2 hO2 hIt2
    repeat (first
 | (with_reducible first
 | apply CW.seq | apply CW.region | apply CW.block | apply CW.ret | apply CW.skip | apply CW.label | apply CW.exit
 | apply W.nil | apply Fin.seq | apply Fin.then_ret | apply Fin.then_exit | apply Fin.blk_ret | apply Fin.blk_normal | apply Fin.blk_here)
 | (with_reducible first | refine S.move ?_ | refine S.assign ?_ | refine S.pickT ?_ | refine S.pickF ?_ | refine S.lss ?_ | refine S.gtr ?_ | refine S.leq ?_ | refine S.geq ?_ | refine S.eqT ?_ | refine S.neF ?_ | refine S.eql ?_ | refine S.neq ?_ | refine S.add ?_ | refine S.sub ?_ | refine S.mul ?_ | refine S.conv ?_ | refine S.shr1 ?_ | refine S.neg ?_ | refine S.not ?_ | refine S.extract ?_ | refine S.len ?_ | refine S.fld ?_ | refine S.index ?_ | refine S.skp ?_ | refine S.sliceTo ?_ | refine S.sliceFrom ?_ | refine S.eqNil ?_ | refine S.eqbT ?_ | refine S.nebF ?_ | refine S.eqb ?_ | refine S.neb ?_)
 | (with_reducible first | refine S.nc ?_ | refine S.fld ?_ (h1 := fLotAll) | refine S.eqP ?_ | refine S.neP ?_)
 | ((with_reducible apply CW.cond_true); exact rfl)
 | ((with_reducible apply CW.cond_false); exact rfl)
 | ((with_reducible apply Fin.blk_far); exact rfl))
    refine S.fld (h1 := fPkPod) ?_
    refine S.lds (cs := t.p.cs) (by rfl) stPod (fun k u hk => by simpa using hB5.cell (pk_pod t k u hk)) (by rfl) (by rfl) ?_
    have hisk5 := hisk.x hX5
    refine S.cl (op_call ent25 (by rfl) (by rfl)) (by rfl) (by rfl) (copied_calls t.p lr w5 hisk5.is (by have := hisk.1; omega)) ?_
    rintro _ w6 ⟨A', c', rfl, hRq, hx6⟩
    have hnrm : (nrm (t.p.with A' t.p.rn c'), lr) = ab w t.p := by unfold ab; rw [hisk.read]; rfl
    have hRq' : RqB w6 w.heap.size (t.p.with A' t.p.rn c').rA (t.p.with A' t.p.rn c').rn lr := hRq.low hX5.le
    generalize t.p.with A' t.p.rn c' = p' at *
    refine W.newBlk (d := some 21) (mk := fun b => .slice (some ⟨b, 0, none⟩) 1 1) (cs := flat [p']) (op_buildSlice Tryd.underlying22 zPod rfl rfl (by rfl) rfl (by simp [Value.cells, PV.cs, PV.v]) rfl rfl) (by rfl) (by rfl) ?_
    intro b7 w7 hx7 hb7 hB7
    have hx57 := hx6.trans hx7
    have hP7 : PS w7 w7.heap.size (.slice (some ⟨b7, 0, none⟩) 1 1) [p'] := hB7.ps (L := [p']) (Nat.le_refl _)
    have hX7 := hX5.trans hx57
    have hO7 := hO5.x hx57
    have hC7 := hC5.keep fun p l h => h.x hx57
    refine S.app (by rfl) (by rfl) hO7 hP7 (by have := hC7.1; simp; omega) hX7.le (by rfl) (by rfl) ?_
    intro v8 w8 hO8 hg8 hat8
    have hX8 : X w w8 := below_own hX7 hO7 hg8 hX7.le
    repeat (first
 | (with_reducible first
 | apply CW.seq | apply CW.region | apply CW.block | apply CW.ret | apply CW.skip | apply CW.label | apply CW.exit
 | apply W.nil | apply Fin.seq | apply Fin.then_ret | apply Fin.then_exit | apply Fin.blk_ret | apply Fin.blk_normal | apply Fin.blk_here)
 | (with_reducible first | refine S.move ?_ | refine S.assign ?_ | refine S.pickT ?_ | refine S.pickF ?_ | refine S.lss ?_ | refine S.gtr ?_ | refine S.leq ?_ | refine S.geq ?_ | refine S.eqT ?_ | refine S.neF ?_ | refine S.eql ?_ | refine S.neq ?_ | refine S.add ?_ | refine S.sub ?_ | refine S.mul ?_ | refine S.conv ?_ | refine S.shr1 ?_ | refine S.neg ?_ | refine S.not ?_ | refine S.extract ?_ | refine S.len ?_ | refine S.fld ?_ | refine S.index ?_ | refine S.skp ?_ | refine S.sliceTo ?_ | refine S.sliceFrom ?_ | refine S.eqNil ?_ | refine S.eqbT ?_ | refine S.nebF ?_ | refine S.eqb ?_ | refine S.neb ?_)
 | (with_reducible first | refine S.nc ?_ | refine S.fld ?_ (h1 := fLotAll) | refine S.eqP ?_ | refine S.neP ?_)
 | ((with_reducible apply CW.cond_true); exact rfl)
 | ((with_reducible apply CW.cond_false); exact rfl)
 | ((with_reducible apply Fin.blk_far); exact rfl))
    refine Fin.round (v8, _, Dn ++ [t], Ds ++ [p']) hfl (by repeat (first | exact trivial | refine ⟨congrArg (fun z : Int => some (Value.int .i64 z)) (by omega), ?_⟩ | refine ⟨rfl, ?_⟩)) ⟨hX8, (hIt5.x hx57).own hO7 hg8, hO8, (hC7.keep fun p l h => h.own hO7 hg8).snoc hlr ((hRq'.x hx7).own hO7 hg8) hnrm, hperm3⟩

theorem lWake_none (w : World) : CallsR Tryd.prog 13 [.pointer none] w fun u w' => u = .slice none 0 0 ∧ w' = w := by
  refine enter1 Tryd.func13 rfl Tryd.ntmps13 rfl ?_
  repeat (first
 | (with_reducible first
 | apply CW.seq | apply CW.region | apply CW.block | apply CW.ret | apply CW.skip | apply CW.label | apply CW.exit
 | apply W.nil | apply Fin.seq | apply Fin.then_ret | apply Fin.then_exit | apply Fin.blk_ret | apply Fin.blk_normal | apply Fin.blk_here)
 | (with_reducible first | refine S.move ?_ | refine S.assign ?_ | refine S.pickT ?_ | refine S.pickF ?_ | refine S.lss ?_ | refine S.gtr ?_ | refine S.leq ?_ | refine S.geq ?_ | refine S.eqT ?_ | refine S.neF ?_ | refine S.eql ?_ | refine S.neq ?_ | refine S.add ?_ | refine S.sub ?_ | refine S.mul ?_ | refine S.conv ?_ | refine S.shr1 ?_ | refine S.neg ?_ | refine S.not ?_ | refine S.extract ?_ | refine S.len ?_ | refine S.fld ?_ | refine S.index ?_ | refine S.skp ?_ | refine S.sliceTo ?_ | refine S.sliceFrom ?_ | refine S.eqNil ?_ | refine S.eqbT ?_ | refine S.nebF ?_ | refine S.eqb ?_ | refine S.neb ?_)
 | (with_reducible first | refine S.nc ?_ | refine S.fld ?_ (h1 := fLotAll) | refine S.eqP ?_ | refine S.neP ?_)
 | ((with_reducible apply CW.cond_true); exact rfl)
 | ((with_reducible apply CW.cond_false); exact rfl)
 | ((with_reducible apply Fin.blk_far); exact rfl))
  refine S.cl (op_call ent15 (by rfl) (by rfl)) (by rfl) (by rfl) (lAll_none w) ?_
  rintro _ w1 ⟨rfl, rfl⟩
  repeat (first
 | (with_reducible first
 | apply CW.seq | apply CW.region | apply CW.block | apply CW.ret | apply CW.skip | apply CW.label | apply CW.exit
 | apply W.nil | apply Fin.seq | apply Fin.then_ret | apply Fin.then_exit | apply Fin.blk_ret | apply Fin.blk_normal | apply Fin.blk_here)
 | (with_reducible first | refine S.move ?_ | refine S.assign ?_ | refine S.pickT ?_ | refine S.pickF ?_ | refine S.lss ?_ | refine S.gtr ?_ | refine S.leq ?_ | refine S.geq ?_ | refine S.eqT ?_ | refine S.neF ?_ | refine S.eql ?_ | refine S.neq ?_ | refine S.add ?_ | refine S.sub ?_ | refine S.mul ?_ | refine S.conv ?_ | refine S.shr1 ?_ | refine S.neg ?_ | refine S.not ?_ | refine S.extract ?_ | refine S.len ?_ | refine S.fld ?_ | refine S.index ?_ | refine S.skp ?_ | refine S.sliceTo ?_ | refine S.sliceFrom ?_ | refine S.eqNil ?_ | refine S.eqbT ?_ | refine S.nebF ?_ | refine S.eqb ?_ | refine S.neb ?_)
 | (with_reducible first | refine S.nc ?_ | refine S.fld ?_ (h1 := fLotAll) | refine S.eqP ?_ | refine S.neP ?_)
 | ((with_reducible apply CW.cond_true); exact rfl)
 | ((with_reducible apply CW.cond_false); exact rfl)
 | ((with_reducible apply Fin.blk_far); exact rfl))
  (with_reducible apply R.r1); exact rfl; exact rfl
  exact ⟨rfl, rfl⟩

theorem lWake_calls (B b0 : Nat) (O : Nat → Prop) (A : List (AP × Int)) (w : World) (h : LA w B b0 O A) (hn : A.length ≤ 900) :
    CallsR Tryd.prog 13 [.pointer (some ⟨b0, 0, none⟩)] w fun u w' => (∃ Ls, NewS w' w.heap.size u Ls ∧ Ls.map (ab w') = sortAP (A.map (·.1)) ∧ Ls.length = A.length ∧ ∀ p ∈ Ls, OwnR w' w.heap.size p) ∧ LA w' B b0 O [] ∧ FO O O w w' := by
  refine enter1 Tryd.func13 rfl Tryd.ntmps13 rfl ?_
  repeat (first
 | (with_reducible first
 | apply CW.seq | apply CW.region | apply CW.block | apply CW.ret | apply CW.skip | apply CW.label | apply CW.exit
 | apply W.nil | apply Fin.seq | apply Fin.then_ret | apply Fin.then_exit | apply Fin.blk_ret | apply Fin.blk_normal | apply Fin.blk_here)
 | (with_reducible first | refine S.move ?_ | refine S.assign ?_ | refine S.pickT ?_ | refine S.pickF ?_ | refine S.lss ?_ | refine S.gtr ?_ | refine S.leq ?_ | refine S.geq ?_ | refine S.eqT ?_ | refine S.neF ?_ | refine S.eql ?_ | refine S.neq ?_ | refine S.add ?_ | refine S.sub ?_ | refine S.mul ?_ | refine S.conv ?_ | refine S.shr1 ?_ | refine S.neg ?_ | refine S.not ?_ | refine S.extract ?_ | refine S.len ?_ | refine S.fld ?_ | refine S.index ?_ | refine S.skp ?_ | refine S.sliceTo ?_ | refine S.sliceFrom ?_ | refine S.eqNil ?_ | refine S.eqbT ?_ | refine S.nebF ?_ | refine S.eqb ?_ | refine S.neb ?_)
 | (with_reducible first | refine S.nc ?_ | refine S.fld ?_ (h1 := fLotAll) | refine S.eqP ?_ | refine S.neP ?_)
 | ((with_reducible apply CW.cond_true); exact rfl)
 | ((with_reducible apply CW.cond_false); exact rfl)
 | ((with_reducible apply Fin.blk_far); exact rfl))
  refine S.cl (op_call ent15 (by rfl) (by rfl)) (by rfl) (by rfl) (lAll_calls B b0 O A w h hn) ?_
  rintro v1 w1 ⟨⟨Ls, hN, hLs, hLl, hown⟩, hx1⟩
  obtain ⟨bm, M, hI, hM⟩ := h.x hx1
  have hbm : bm < w.heap.size := (h.lo bm hI.om).2
  obtain ⟨clock, hP, hL⟩ := hI.map
  repeat (first
 | (with_reducible first
 | apply CW.seq | apply CW.region | apply CW.block | apply CW.ret | apply CW.skip | apply CW.label | apply CW.exit
 | apply W.nil | apply Fin.seq | apply Fin.then_ret | apply Fin.then_exit | apply Fin.blk_ret | apply Fin.blk_normal | apply Fin.blk_here)
 | (with_reducible first | refine S.move ?_ | refine S.assign ?_ | refine S.pickT ?_ | refine S.pickF ?_ | refine S.lss ?_ | refine S.gtr ?_ | refine S.leq ?_ | refine S.geq ?_ | refine S.eqT ?_ | refine S.neF ?_ | refine S.eql ?_ | refine S.neq ?_ | refine S.add ?_ | refine S.sub ?_ | refine S.mul ?_ | refine S.conv ?_ | refine S.shr1 ?_ | refine S.neg ?_ | refine S.not ?_ | refine S.extract ?_ | refine S.len ?_ | refine S.fld ?_ | refine S.index ?_ | refine S.skp ?_ | refine S.sliceTo ?_ | refine S.sliceFrom ?_ | refine S.eqNil ?_ | refine S.eqbT ?_ | refine S.nebF ?_ | refine S.eqb ?_ | refine S.neb ?_)
 | (with_reducible first | refine S.nc ?_ | refine S.fld ?_ (h1 := fLotAll) | refine S.eqP ?_ | refine S.neP ?_)
 | ((with_reducible apply CW.cond_true); exact rfl)
 | ((with_reducible apply CW.cond_false); exact rfl)
 | ((with_reducible apply Fin.blk_far); exact rfl))
  ((with_reducible apply S.ld); exact rfl; (with_reducible first | exact oneInt | exact oneI64s | exact oneBool | exact oneI64 | exact onePods | exact oneMap); (exact hI.cm); exact rfl; exact rfl)
  refine S.clrE Tryd.underlying53 (by rfl) hP (by rfl) fun w2 hg2 hP2 => ?_
  repeat (first
 | (with_reducible first
 | apply CW.seq | apply CW.region | apply CW.block | apply CW.ret | apply CW.skip | apply CW.label | apply CW.exit
 | apply W.nil | apply Fin.seq | apply Fin.then_ret | apply Fin.then_exit | apply Fin.blk_ret | apply Fin.blk_normal | apply Fin.blk_here)
 | (with_reducible first | refine S.move ?_ | refine S.assign ?_ | refine S.pickT ?_ | refine S.pickF ?_ | refine S.lss ?_ | refine S.gtr ?_ | refine S.leq ?_ | refine S.geq ?_ | refine S.eqT ?_ | refine S.neF ?_ | refine S.eql ?_ | refine S.neq ?_ | refine S.add ?_ | refine S.sub ?_ | refine S.mul ?_ | refine S.conv ?_ | refine S.shr1 ?_ | refine S.neg ?_ | refine S.not ?_ | refine S.extract ?_ | refine S.len ?_ | refine S.fld ?_ | refine S.index ?_ | refine S.skp ?_ | refine S.sliceTo ?_ | refine S.sliceFrom ?_ | refine S.eqNil ?_ | refine S.eqbT ?_ | refine S.nebF ?_ | refine S.eqb ?_ | refine S.neb ?_)
 | (with_reducible first | refine S.nc ?_ | refine S.fld ?_ (h1 := fLotAll) | refine S.eqP ?_ | refine S.neP ?_)
 | ((with_reducible apply CW.cond_true); exact rfl)
 | ((with_reducible apply CW.cond_false); exact rfl)
 | ((with_reducible apply Fin.blk_far); exact rfl))
  (with_reducible apply R.r1); exact rfl; exact rfl
  have hne : ∀ b, w.heap.size ≤ b → b ≠ bm := fun b hb e => by omega
  have hown2 : ∀ p ∈ Ls, OwnR w2 w.heap.size p ∧ ab w2 p = ab w1 p := fun p hp => by
    obtain ⟨l, h1, h2⟩ := hown p hp
    exact ⟨⟨l, h1, h2.1, fun hnl => by obtain ⟨b, sp, e1, e2, e3⟩ := h2.2 hnl; exact ⟨b, sp, e1, e2, hg2.blk e3 (hne b e2)⟩⟩, ((hown p hp).rk.keep fun k hk hK => hg2.block k hk (by simpa using hne k hK)).2⟩
  refine ⟨⟨Ls, ?_, ?_, hLl, fun p hp => (hown2 p hp).1⟩, ⟨bm, [], ⟨hg2.blk hI.blk hI.ne, ⟨clock, hP2, LM.nil clock⟩, hI.o0, hI.om, (fun t ht => by cases ht), fun b hb => ⟨(hI.lo b hb).1, Nat.lt_of_lt_of_le (hI.lo b hb).2 hg2.size⟩⟩, rfl⟩, (FO.of_x hx1).gm hg2 hI.om⟩
  · rcases hN with h | ⟨g, c, h1, h2, h3, sp, h4⟩
    · exact .inl h
    · exact .inr ⟨g, c, h1, h2, h3, sp, hg2.blk h4 (hne g h3)⟩
  · rw [← hLs]
    exact List.map_congr_left fun p hp => (hown2 p hp).2

def cntA (A : List (AP × Int)) (r : Int) : Nat := (A.filter fun a => a.2 == r).length

set_option maxHeartbeats 1000000 in
theorem lCount_calls (B b0 : Nat) (O : Nat → Prop) (A : List (AP × Int)) (r : Int) (w : World) (h : LA w B b0 O A) (hn : A.length ≤ 900) :
    CallsR Tryd.prog 16 [.pointer (some ⟨b0, 0, none⟩), .int .i64 r] w fun u w' => u = .int .i64 (cntA A r : Int) ∧ X w w' := by
  obtain ⟨bm, M, hI, rfl⟩ := h
  rw [List.length_map] at hn
  have hcnt : cntA (M.map (abE w)) r = (M.filter fun t => t.r == r).length := by
    unfold cntA
    rw [List.filter_map, List.length_map]; rfl
  rw [hcnt]
  obtain ⟨clock, hP, hL⟩ := hI.map
  refine enter2 Tryd.func16 rfl Tryd.ntmps16 rfl ?_
  repeat (first
 | (with_reducible first
 | apply CW.seq | apply CW.region | apply CW.block | apply CW.ret | apply CW.skip | apply CW.label | apply CW.exit
 | apply W.nil | apply Fin.seq | apply Fin.then_ret | apply Fin.then_exit | apply Fin.blk_ret | apply Fin.blk_normal | apply Fin.blk_here)
 | (with_reducible first | refine S.move ?_ | refine S.assign ?_ | refine S.pickT ?_ | refine S.pickF ?_ | refine S.lss ?_ | refine S.gtr ?_ | refine S.leq ?_ | refine S.geq ?_ | refine S.eqT ?_ | refine S.neF ?_ | refine S.eql ?_ | refine S.neq ?_ | refine S.add ?_ | refine S.sub ?_ | refine S.mul ?_ | refine S.conv ?_ | refine S.shr1 ?_ | refine S.neg ?_ | refine S.not ?_ | refine S.extract ?_ | refine S.len ?_ | refine S.fld ?_ | refine S.index ?_ | refine S.skp ?_ | refine S.sliceTo ?_ | refine S.sliceFrom ?_ | refine S.eqNil ?_ | refine S.eqbT ?_ | refine S.nebF ?_ | refine S.eqb ?_ | refine S.neb ?_)
 | (with_reducible first | refine S.nc ?_ | refine S.fld ?_ (h1 := fLotAll) | refine S.eqP ?_ | refine S.neP ?_)
 | ((with_reducible apply CW.cond_true); exact rfl)
 | ((with_reducible apply CW.cond_false); exact rfl)
 | ((with_reducible apply Fin.blk_far); exact rfl))
  ((with_reducible apply S.ld); exact rfl; (with_reducible first | exact oneInt | exact oneI64s | exact oneBool | exact oneI64 | exact onePods | exact oneMap); (exact hI.cm); exact rfl; exact rfl)
  refine S.rangeE Tryd.underlying53 (by rfl) hP (by rfl) (by rfl) fun it w1 hx1 hit hIt1 => ?_
  repeat (first
 | (with_reducible first
 | apply CW.seq | apply CW.region | apply CW.block | apply CW.ret | apply CW.skip | apply CW.label | apply CW.exit
 | apply W.nil | apply Fin.seq | apply Fin.then_ret | apply Fin.then_exit | apply Fin.blk_ret | apply Fin.blk_normal | apply Fin.blk_here)
 | (with_reducible first | refine S.move ?_ | refine S.assign ?_ | refine S.pickT ?_ | refine S.pickF ?_ | refine S.lss ?_ | refine S.gtr ?_ | refine S.leq ?_ | refine S.geq ?_ | refine S.eqT ?_ | refine S.neF ?_ | refine S.eql ?_ | refine S.neq ?_ | refine S.add ?_ | refine S.sub ?_ | refine S.mul ?_ | refine S.conv ?_ | refine S.shr1 ?_ | refine S.neg ?_ | refine S.not ?_ | refine S.extract ?_ | refine S.len ?_ | refine S.fld ?_ | refine S.index ?_ | refine S.skp ?_ | refine S.sliceTo ?_ | refine S.sliceFrom ?_ | refine S.eqNil ?_ | refine S.eqbT ?_ | refine S.nebF ?_ | refine S.eqb ?_ | refine S.neb ?_)
 | (with_reducible first | refine S.nc ?_ | refine S.fld ?_ (h1 := fLotAll) | refine S.eqP ?_ | refine S.neP ?_)
 | ((with_reducible apply CW.cond_true); exact rfl)
 | ((with_reducible apply CW.cond_false); exact rfl)
 | ((with_reducible apply Fin.blk_far); exact rfl))
  refine CW.loop (ι := List PE × List PE) (fun k => [(5, .int .i64 ((k.2.filter fun t => t.r == r).length : Int)), (14, .pointer (some ⟨it, 0, none⟩)), (1, .int .i64 r)]) (fun k w' => X w w' ∧ IterB w' it bm M clock k.1 ∧ (k.2 ++ k.1).Perm M) (fun k => k.1.length) ?_ (M, []) (by repeat (first | exact trivial | refine ⟨congrArg (fun z : Int => some (Value.int .i64 z)) (by omega), ?_⟩ | refine ⟨rfl, ?_⟩)) ⟨hx1, hIt1, List.Perm.refl _⟩
  rintro ⟨T, Dn⟩ w2 ⟨hx2, hIt2, hperm⟩
  simp only at hIt2 hperm ⊢
  have hP2 := hP.x hx2
  have hTb : T.Pairwise fun s t => s.b ≠ t.b := ((hperm.pairwise_iff (R := fun s t : PE => s.b ≠ t.b) fun h => Ne.symm h).2 hL.births).sublist (List.sublist_append_right Dn T)
  have hlen : Dn.length + T.length = M.length := by have := hperm.length_eq; rwa [List.length_append] at this
  have hfl0 := List.length_filter_le (fun t : PE => t.r == r) Dn
  repeat (first
 | (with_reducible first
 | apply CW.seq | apply CW.region | apply CW.block | apply CW.ret | apply CW.skip | apply CW.label | apply CW.exit
 | apply W.nil | apply Fin.seq | apply Fin.then_ret | apply Fin.then_exit | apply Fin.blk_ret | apply Fin.blk_normal | apply Fin.blk_here)
 | (with_reducible first | refine S.move ?_ | refine S.assign ?_ | refine S.pickT ?_ | refine S.pickF ?_ | refine S.lss ?_ | refine S.gtr ?_ | refine S.leq ?_ | refine S.geq ?_ | refine S.eqT ?_ | refine S.neF ?_ | refine S.eql ?_ | refine S.neq ?_ | refine S.add ?_ | refine S.sub ?_ | refine S.mul ?_ | refine S.conv ?_ | refine S.shr1 ?_ | refine S.neg ?_ | refine S.not ?_ | refine S.extract ?_ | refine S.len ?_ | refine S.fld ?_ | refine S.index ?_ | refine S.skp ?_ | refine S.sliceTo ?_ | refine S.sliceFrom ?_ | refine S.eqNil ?_ | refine S.eqbT ?_ | refine S.nebF ?_ | refine S.eqb ?_ | refine S.neb ?_)
 | (with_reducible first | refine S.nc ?_ | refine S.fld ?_ (h1 := fLotAll) | refine S.eqP ?_ | refine S.neP ?_)
 | ((with_reducible apply CW.cond_true); exact rfl)
 | ((with_reducible apply CW.cond_false); exact rfl)
 | ((with_reducible apply Fin.blk_far); exact rfl))
  refine S.nextE (by rfl) hP2 hL hIt2 (by rfl) (by rfl) (fun hT => ?_) (fun t ht w3 hg3 hIt3 hen => ?_)
  · subst hT
    rw [List.append_nil] at hperm
    repeat (first
 | (with_reducible first
 | apply CW.seq | apply CW.region | apply CW.block | apply CW.ret | apply CW.skip | apply CW.label | apply CW.exit
 | apply W.nil | apply Fin.seq | apply Fin.then_ret | apply Fin.then_exit | apply Fin.blk_ret | apply Fin.blk_normal | apply Fin.blk_here)
 | (with_reducible first | refine S.move ?_ | refine S.assign ?_ | refine S.pickT ?_ | refine S.pickF ?_ | refine S.lss ?_ | refine S.gtr ?_ | refine S.leq ?_ | refine S.geq ?_ | refine S.eqT ?_ | refine S.neF ?_ | refine S.eql ?_ | refine S.neq ?_ | refine S.add ?_ | refine S.sub ?_ | refine S.mul ?_ | refine S.conv ?_ | refine S.shr1 ?_ | refine S.neg ?_ | refine S.not ?_ | refine S.extract ?_ | refine S.len ?_ | refine S.fld ?_ | refine S.index ?_ | refine S.skp ?_ | refine S.sliceTo ?_ | refine S.sliceFrom ?_ | refine S.eqNil ?_ | refine S.eqbT ?_ | refine S.nebF ?_ | refine S.eqb ?_ | refine S.neb ?_)
 | (with_reducible first | refine S.nc ?_ | refine S.fld ?_ (h1 := fLotAll) | refine S.eqP ?_ | refine S.neP ?_)
 | ((with_reducible apply CW.cond_true); exact rfl)
 | ((with_reducible apply CW.cond_false); exact rfl)
 | ((with_reducible apply Fin.blk_far); exact rfl))
    (with_reducible apply R.r1); exact rfl; exact rfl
    rw [(hperm.filter _).length_eq]
    exact ⟨rfl, hx2⟩
  · have htM : t ∈ M := hperm.mem_iff.1 (List.mem_append_right _ ht)
    have hx3 : X w w3 := below_g hx2 hg3 hx2.le hit
    have hP3 := hP.x hx3
    have hperm3 : ((Dn ++ [t]) ++ T.filter fun x => !(x.b == t.b)).Perm M := by
      refine List.Perm.trans ?_ hperm
      rw [List.append_assoc]
      exact List.Perm.append_left Dn (perm_out hTb ht).symm
    have hfl : (T.filter fun x => !(x.b == t.b)).length < T.length := by have := (perm_out hTb ht).length_eq; rw [List.length_cons] at this; omega
    have hstep : ((Dn ++ [t]).filter fun t => t.r == r).length = (Dn.filter fun t => t.r == r).length + (if t.r = r then 1 else 0) := by
      rw [List.filter_append, List.length_append]
      by_cases h : t.r = r <;> simp [h]
    repeat (first
 | (with_reducible first
 | apply CW.seq | apply CW.region | apply CW.block | apply CW.ret | apply CW.skip | apply CW.label | apply CW.exit
 | apply W.nil | apply Fin.seq | apply Fin.then_ret | apply Fin.then_exit | apply Fin.blk_ret | apply Fin.blk_normal | apply Fin.blk_here)
 | (with_reducible first | refine S.move ?_ | refine S.assign ?_ | refine S.pickT ?_ | refine S.pickF ?_ | refine S.lss ?_ | refine S.gtr ?_ | refine S.leq ?_ | refine S.geq ?_ | refine S.eqT ?_ | refine S.neF ?_ | refine S.eql ?_ | refine S.neq ?_ | refine S.add ?_ | refine S.sub ?_ | refine S.mul ?_ | refine S.conv ?_ | refine S.shr1 ?_ | refine S.neg ?_ | refine S.not ?_ | refine S.extract ?_ | refine S.len ?_ | refine S.fld ?_ | refine S.index ?_ | refine S.skp ?_ | refine S.sliceTo ?_ | refine S.sliceFrom ?_ | refine S.eqNil ?_ | refine S.eqbT ?_ | refine S.nebF ?_ | refine S.eqb ?_ | refine S.neb ?_)
 | (with_reducible first | refine S.nc ?_ | refine S.fld ?_ (h1 := fLotAll) | refine S.eqP ?_ | refine S.neP ?_)
 | ((with_reducible apply CW.cond_true); exact rfl)
 | ((with_reducible apply CW.cond_false); exact rfl)
 | ((with_reducible apply Fin.blk_far); exact rfl))
    refine S.entryE (by rfl) (hen w3 rfl hP3) (by rfl) (by rfl) ?_
    repeat (first
 | (with_reducible first
 | apply CW.seq | apply CW.region | apply CW.block | apply CW.ret | apply CW.skip | apply CW.label | apply CW.exit
 | apply W.nil | apply Fin.seq | apply Fin.then_ret | apply Fin.then_exit | apply Fin.blk_ret | apply Fin.blk_normal | apply Fin.blk_here)
 | (with_reducible first | refine S.move ?_ | refine S.assign ?_ | refine S.pickT ?_ | refine S.pickF ?_ | refine S.lss ?_ | refine S.gtr ?_ | refine S.leq ?_ | refine S.geq ?_ | refine S.eqT ?_ | refine S.neF ?_ | refine S.eql ?_ | refine S.neq ?_ | refine S.add ?_ | refine S.sub ?_ | refine S.mul ?_ | refine S.conv ?_ | refine S.shr1 ?_ | refine S.neg ?_ | refine S.not ?_ | refine S.extract ?_ | refine S.len ?_ | refine S.fld ?_ | refine S.index ?_ | refine S.skp ?_ | refine S.sliceTo ?_ | refine S.sliceFrom ?_ | refine S.eqNil ?_ | refine S.eqbT ?_ | refine S.nebF ?_ | refine S.eqb ?_ | refine S.neb ?_)
 | (with_reducible first | refine S.nc ?_ | refine S.fld ?_ (h1 := fLotAll) | refine S.eqP ?_ | refine S.neP ?_)
 | ((with_reducible apply CW.cond_true); exact rfl)
 | ((with_reducible apply CW.cond_false); exact rfl)
 | ((with_reducible apply Fin.blk_far); exact rfl))
    refine W.newBlk (d := some 7) (mk := fun b => .pointer (some ⟨b, 0, none⟩)) (cs := PE.zero.cs) (op_alloc' zPk' rfl) (by rfl) (by rfl) ?_
    intro b5 w4 hx4 hb5 hB5
    refine S.stB (vs := t.cs) (by rfl) (by rfl) rfl hB5 rfl szPk t.one (by rfl) ?_
    intro w5 hg5 hB5
    have hx35 : X w3 w5 := below_g hx4 hg5 hx4.le hb5
    have hX5 := hx3.trans hx35
    have hIt5 := hIt3.x hx35
    repeat (first
 | (with_reducible first
 | apply CW.seq | apply CW.region | apply CW.block | apply CW.ret | apply CW.skip | apply CW.label | apply CW.exit
 | apply W.nil | apply Fin.seq | apply Fin.then_ret | apply Fin.then_exit | apply Fin.blk_ret | apply Fin.blk_normal | apply Fin.blk_here)
 | (with_reducible first | refine S.move ?_ | refine S.assign ?_ | refine S.pickT ?_ | refine S.pickF ?_ | refine S.lss ?_ | refine S.gtr ?_ | refine S.leq ?_ | refine S.geq ?_ | refine S.eqT ?_ | refine S.neF ?_ | refine S.eql ?_ | refine S.neq ?_ | refine S.add ?_ | refine S.sub ?_ | refine S.mul ?_ | refine S.conv ?_ | refine S.shr1 ?_ | refine S.neg ?_ | refine S.not ?_ | refine S.extract ?_ | refine S.len ?_ | refine S.fld ?_ | refine S.index ?_ | refine S.skp ?_ | refine S.sliceTo ?_ | refine S.sliceFrom ?_ | refine S.eqNil ?_ | refine S.eqbT ?_ | refine S.nebF ?_ | refine S.eqb ?_ | refine S.neb ?_)
 | (with_reducible first | refine S.nc ?_ | refine S.fld ?_ (h1 := fLotAll) | refine S.eqP ?_ | refine S.neP ?_)
 | ((with_reducible apply CW.cond_true); exact rfl)
 | ((with_reducible apply CW.cond_false); exact rfl)
 | ((with_reducible apply Fin.blk_far); exact rfl))
    refine S.fld (h1 := fPkReason) ?_
    ((with_reducible apply S.ld); exact rfl; (with_reducible first | exact oneInt | exact oneI64s | exact oneBool | exact oneI64 | exact onePods | exact oneMap); (exact hB5.cell (pk_reason t)); exact rfl; exact rfl)
    repeat (first
 | (with_reducible first
 | apply CW.seq | apply CW.region | apply CW.block | apply CW.ret | apply CW.skip | apply CW.label | apply CW.exit
 | apply W.nil | apply Fin.seq | apply Fin.then_ret | apply Fin.then_exit | apply Fin.blk_ret | apply Fin.blk_normal | apply Fin.blk_here)
 | (with_reducible first | refine S.move ?_ | refine S.assign ?_ | refine S.pickT ?_ | refine S.pickF ?_ | refine S.lss ?_ | refine S.gtr ?_ | refine S.leq ?_ | refine S.geq ?_ | refine S.eqT ?_ | refine S.neF ?_ | refine S.eql ?_ | refine S.neq ?_ | refine S.add ?_ | refine S.sub ?_ | refine S.mul ?_ | refine S.conv ?_ | refine S.shr1 ?_ | refine S.neg ?_ | refine S.not ?_ | refine S.extract ?_ | refine S.len ?_ | refine S.fld ?_ | refine S.index ?_ | refine S.skp ?_ | refine S.sliceTo ?_ | refine S.sliceFrom ?_ | refine S.eqNil ?_ | refine S.eqbT ?_ | refine S.nebF ?_ | refine S.eqb ?_ | refine S.neb ?_)
 | (with_reducible first | refine S.nc ?_ | refine S.fld ?_ (h1 := fLotAll) | refine S.eqP ?_ | refine S.neP ?_)
 | ((with_reducible apply CW.cond_true); exact rfl)
 | ((with_reducible apply CW.cond_false); exact rfl)
 | ((with_reducible apply Fin.blk_far); exact rfl))
    refine CW.cond (by rfl) (fun hc => ?_) (fun hc => ?_)
    · have hc := of_decide_eq_true hc
      rw [if_pos hc] at hstep
      repeat (first
 | (with_reducible first
 | apply CW.seq | apply CW.region | apply CW.block | apply CW.ret | apply CW.skip | apply CW.label | apply CW.exit
 | apply W.nil | apply Fin.seq | apply Fin.then_ret | apply Fin.then_exit | apply Fin.blk_ret | apply Fin.blk_normal | apply Fin.blk_here)
 | (with_reducible first | refine S.move ?_ | refine S.assign ?_ | refine S.pickT ?_ | refine S.pickF ?_ | refine S.lss ?_ | refine S.gtr ?_ | refine S.leq ?_ | refine S.geq ?_ | refine S.eqT ?_ | refine S.neF ?_ | refine S.eql ?_ | refine S.neq ?_ | refine S.add ?_ | refine S.sub ?_ | refine S.mul ?_ | refine S.conv ?_ | refine S.shr1 ?_ | refine S.neg ?_ | refine S.not ?_ | refine S.extract ?_ | refine S.len ?_ | refine S.fld ?_ | refine S.index ?_ | refine S.skp ?_ | refine S.sliceTo ?_ | refine S.sliceFrom ?_ | refine S.eqNil ?_ | refine S.eqbT ?_ | refine S.nebF ?_ | refine S.eqb ?_ | refine S.neb ?_)
 | (with_reducible first | refine S.nc ?_ | refine S.fld ?_ (h1 := fLotAll) | refine S.eqP ?_ | refine S.neP ?_)
 | ((with_reducible apply CW.cond_true); exact rfl)
 | ((with_reducible apply CW.cond_false); exact rfl)
 | ((with_reducible apply Fin.blk_far); exact rfl))
      refine Fin.round (T.filter fun x => !(x.b == t.b), Dn ++ [t]) hfl (by simp only [hstep]; repeat (first | exact trivial | refine ⟨congrArg (fun z : Int => some (Value.int .i64 z)) (by omega), ?_⟩ | refine ⟨rfl, ?_⟩)) ⟨hX5, hIt5, hperm3⟩
    · have hc := of_decide_eq_false hc
      rw [if_neg hc] at hstep
      repeat (first
 | (with_reducible first
 | apply CW.seq | apply CW.region | apply CW.block | apply CW.ret | apply CW.skip | apply CW.label | apply CW.exit
 | apply W.nil | apply Fin.seq | apply Fin.then_ret | apply Fin.then_exit | apply Fin.blk_ret | apply Fin.blk_normal | apply Fin.blk_here)
 | (with_reducible first | refine S.move ?_ | refine S.assign ?_ | refine S.pickT ?_ | refine S.pickF ?_ | refine S.lss ?_ | refine S.gtr ?_ | refine S.leq ?_ | refine S.geq ?_ | refine S.eqT ?_ | refine S.neF ?_ | refine S.eql ?_ | refine S.neq ?_ | refine S.add ?_ | refine S.sub ?_ | refine S.mul ?_ | refine S.conv ?_ | refine S.shr1 ?_ | refine S.neg ?_ | refine S.not ?_ | refine S.extract ?_ | refine S.len ?_ | refine S.fld ?_ | refine S.index ?_ | refine S.skp ?_ | refine S.sliceTo ?_ | refine S.sliceFrom ?_ | refine S.eqNil ?_ | refine S.eqbT ?_ | refine S.nebF ?_ | refine S.eqb ?_ | refine S.neb ?_)
 | (with_reducible first | refine S.nc ?_ | refine S.fld ?_ (h1 := fLotAll) | refine S.eqP ?_ | refine S.neP ?_)
 | ((with_reducible apply CW.cond_true); exact rfl)
 | ((with_reducible apply CW.cond_false); exact rfl)
 | ((with_reducible apply Fin.blk_far); exact rfl))
      refine Fin.round (T.filter fun x => !(x.b == t.b), Dn ++ [t]) hfl (by simp only [hstep]; repeat (first | exact trivial | refine ⟨congrArg (fun z : Int => some (Value.int .i64 z)) (by omega), ?_⟩ | refine ⟨rfl, ?_⟩)) ⟨hX5, hIt5, hperm3⟩

end Go.Proofs.YtmilpjkjcanghaaDoor

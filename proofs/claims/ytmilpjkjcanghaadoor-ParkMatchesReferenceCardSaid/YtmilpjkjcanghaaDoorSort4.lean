/- The library's sort: symMerge. -/
import Derived.Test.YtmilpjkjcanghaaDoorSort3
namespace Go.Proofs.YtmilpjkjcanghaaDoor
open Go.RowKit
set_option linter.unusedVariables false
set_option linter.unusedSimpArgs false

theorem srt_le_at {L : List PV} (h : Srt L) {i j : Nat} (hj : j < L.length) (hij : i ≤ j) : leP (L.getD i PV.zero) (L.getD j PV.zero) := by
  have hi : i < L.length := by omega
  rw [getD_at hi, getD_at hj]
  rcases Nat.lt_or_ge i j with hlt | hge
  · exact List.pairwise_iff_getElem.1 h i j hi hj hlt
  · have : i = j := by omega
    subst this
    exact leP_refl _
theorem mem_take_at {L : List PV} {k : Nat} {x : PV} (h : x ∈ L.take k) : ∃ i, i < k ∧ i < L.length ∧ x = L.getD i PV.zero := by
  obtain ⟨i, hi, rfl⟩ := List.getElem_of_mem h
  rw [List.length_take] at hi
  exact ⟨i, by omega, by omega, by rw [getD_at (by omega)]; simp⟩
theorem mem_drop_at {L : List PV} {k : Nat} {x : PV} (h : x ∈ L.drop k) : ∃ i, k ≤ i ∧ i < L.length ∧ x = L.getD i PV.zero := by
  obtain ⟨i, hi, rfl⟩ := List.getElem_of_mem h
  rw [List.length_drop] at hi
  exact ⟨k + i, by omega, by omega, by rw [getD_at (by omega)]; simp⟩
theorem lt_le {x y z : PV} (h : cmpP x y < 0) (k : leP y z) : cmpP x z < 0 := by rw [cmpP_lt] at *; rw [leP_iff] at k; omega
theorem le_lt {x y z : PV} (h : leP x y) (k : cmpP y z < 0) : cmpP x z < 0 := by rw [cmpP_lt] at *; rw [leP_iff] at h; omega

/-- The place of x in V, told by its two neighbours. -/
theorem place_left {x : PV} {V : List PV} {p : Nat} (h : Srt V) (hp : p ≤ V.length) (h1 : 0 < p → cmpP (V.getD (p - 1) PV.zero) x < 0) (h2 : p < V.length → ¬ cmpP (V.getD p PV.zero) x < 0) : Mrg [x] V (V.take p ++ x :: V.drop p) := by
  have hs : Srt (V.take p ++ V.drop p) := by rwa [List.take_append_drop]
  have := Mrg.one_left (x := x) hs (fun y hy => by
    obtain ⟨i, hi, hil, rfl⟩ := mem_take_at hy
    exact le_lt (srt_le_at h (by omega) (by omega : i ≤ p - 1)) (h1 (by omega))) (fun y hy => by
    obtain ⟨i, hi, hil, rfl⟩ := mem_drop_at hy
    exact leP.trans (h2 (by omega)) (srt_le_at h hil hi))
  rwa [List.take_append_drop] at this
theorem place_right {y : PV} {U : List PV} {p : Nat} (h : Srt U) (hp : p ≤ U.length) (h1 : 0 < p → ¬ cmpP y (U.getD (p - 1) PV.zero) < 0) (h2 : p < U.length → cmpP y (U.getD p PV.zero) < 0) : Mrg U [y] (U.take p ++ y :: U.drop p) := by
  have hs : Srt (U.take p ++ U.drop p) := by rwa [List.take_append_drop]
  have := Mrg.one_right (y := y) hs (fun x hx => by
    obtain ⟨i, hi, hil, rfl⟩ := mem_take_at hx
    exact leP.trans (srt_le_at h (by omega) (by omega : i ≤ p - 1)) (h1 (by omega))) (fun x hx => by
    obtain ⟨i, hi, hil, rfl⟩ := mem_drop_at hx
    exact lt_le (h2 (by omega)) (srt_le_at h hil hi))
  rwa [List.take_append_drop] at this

theorem at_mid {A X Y : List PV} {i k : Nat} (h : A.length = i) (hk : k < X.length) : (A ++ (X ++ Y))[i + k]? = some (X.getD k PV.zero) := by
  rw [List.getElem?_append_right (by omega), show i + k - A.length = k from by omega, List.getElem?_append_left hk, getD_at hk, List.getElem?_eq_getElem hk]

theorem symMerge_one (c g n : Nat) (A V B D0 : List PV) (x : PV) (w : World) (hB : BL w g D0) (hD : D0 = A ++ ([x] ++ (V ++ B))) (hV : Srt V) (hc : D0.length ≤ c) (hn : D0.length ≤ 1000) (h0 : n = D0.length)
    {a1 a2 a3 : Int} (e1 : a1 = (A.length : Nat)) (e2 : a2 = ((A.length + 1 : Nat) : Int)) (e3 : a3 = ((A.length + 1 + V.length : Nat) : Int)) :
    CallsR Tryd.prog 44 [.slice (some ⟨g, 0, none⟩) n c, .int .i64 a1, .int .i64 a2, .int .i64 a3, cmpV] w
      fun _ w' => ∃ M, Mrg [x] V M ∧ BL w' g (A ++ (M ++ B)) ∧ G g w w' := by
  subst e1; subst e2; subst e3; subst h0; subst hD
  have hlen : (A ++ ([x] ++ (V ++ B))).length = A.length + 1 + V.length + B.length := by simp; omega
  rw [hlen] at hc hn ⊢
  refine enter5 Tryd.func44 rfl Tryd.ntmps44 rfl ?_
  generalize hT : A.length + 1 + V.length + B.length = T at *
  have hax : (A ++ ([x] ++ (V ++ B)))[A.length]? = some x := by simp
  have hav : ∀ k, k < V.length → (A ++ ([x] ++ (V ++ B)))[A.length + 1 + k]? = some (V.getD k PV.zero) := fun k hk => by
    rw [← List.append_assoc]; exact at_mid (by simp) hk
  generalize ha : A.length = a at *
  repeat (first
 | (with_reducible first
 | apply CW.seq | apply CW.region | apply CW.block | apply CW.ret | apply CW.skip | apply CW.label | apply CW.exit
 | apply W.nil | apply Fin.seq | apply Fin.then_ret | apply Fin.then_exit | apply Fin.blk_ret | apply Fin.blk_normal | apply Fin.blk_here)
 | (with_reducible first | refine S.move ?_ | refine S.assign ?_ | refine S.pickT ?_ | refine S.pickF ?_ | refine S.lss ?_ | refine S.gtr ?_ | refine S.leq ?_ | refine S.geq ?_ | refine S.eqT ?_ | refine S.neF ?_ | refine S.eql ?_ | refine S.neq ?_ | refine S.add ?_ | refine S.sub ?_ | refine S.mul ?_ | refine S.conv ?_ | refine S.shr1 ?_ | refine S.neg ?_ | refine S.not ?_ | refine S.extract ?_ | refine S.len ?_ | refine S.fld ?_ | refine S.index ?_ | refine S.skp ?_ | refine S.sliceTo ?_ | refine S.sliceFrom ?_ | refine S.eqNil ?_ | refine S.eqbT ?_ | refine S.nebF ?_ | refine S.eqb ?_ | refine S.neb ?_)
 | ((with_reducible apply CW.cond_true); exact rfl)
 | ((with_reducible apply CW.cond_false); exact rfl)
 | ((with_reducible apply Fin.blk_far); exact rfl))
  refine CW.cond (by rfl) (fun h => ?_) (fun h => ?_)
  · clear h
    repeat (first
 | (with_reducible first
 | apply CW.seq | apply CW.region | apply CW.block | apply CW.ret | apply CW.skip | apply CW.label | apply CW.exit
 | apply W.nil | apply Fin.seq | apply Fin.then_ret | apply Fin.then_exit | apply Fin.blk_ret | apply Fin.blk_normal | apply Fin.blk_here)
 | (with_reducible first | refine S.move ?_ | refine S.assign ?_ | refine S.pickT ?_ | refine S.pickF ?_ | refine S.lss ?_ | refine S.gtr ?_ | refine S.leq ?_ | refine S.geq ?_ | refine S.eqT ?_ | refine S.neF ?_ | refine S.eql ?_ | refine S.neq ?_ | refine S.add ?_ | refine S.sub ?_ | refine S.mul ?_ | refine S.conv ?_ | refine S.shr1 ?_ | refine S.neg ?_ | refine S.not ?_ | refine S.extract ?_ | refine S.len ?_ | refine S.fld ?_ | refine S.index ?_ | refine S.skp ?_ | refine S.sliceTo ?_ | refine S.sliceFrom ?_ | refine S.eqNil ?_ | refine S.eqbT ?_ | refine S.nebF ?_ | refine S.eqb ?_ | refine S.neb ?_)
 | ((with_reducible apply CW.cond_true); exact rfl)
 | ((with_reducible apply CW.cond_false); exact rfl)
 | ((with_reducible apply Fin.blk_far); exact rfl))
    refine CW.loop (ι := Nat × Nat) (fun k => [(10, .int .i64 ((a + 1 + k.1 : Nat) : Int)), (11, .int .i64 ((a + 1 + k.2 : Nat) : Int)), (0, .slice (some ⟨g, 0, none⟩) T c), (1, .int .i64 (a : Int)), (4, cmpV)])
      (fun k w' => G g w w' ∧ BL w' g (A ++ ([x] ++ (V ++ B))) ∧ k.1 ≤ k.2 ∧ k.2 ≤ V.length ∧ (0 < k.1 → cmpP (V.getD (k.1 - 1) PV.zero) x < 0) ∧ (k.2 < V.length → ¬ cmpP (V.getD k.2 PV.zero) x < 0)) (fun k => k.2 - k.1) ?_ (0, V.length) (by repeat (first | exact trivial | refine ⟨congrArg (fun z : Int => some (Value.int .i64 z)) (by omega), ?_⟩ | refine ⟨rfl, ?_⟩)) ⟨G.refl g w, hB, Nat.zero_le _, Nat.le_refl _, fun h => absurd h (Nat.lt_irrefl _), fun h => absurd h (Nat.lt_irrefl _)⟩
    rintro ⟨p, q⟩ w1 ⟨hg1, hB1, hpq, hq, hlo, hhi⟩
    simp only at hpq hq hlo hhi ⊢
    repeat (first
 | (with_reducible first
 | apply CW.seq | apply CW.region | apply CW.block | apply CW.ret | apply CW.skip | apply CW.label | apply CW.exit
 | apply W.nil | apply Fin.seq | apply Fin.then_ret | apply Fin.then_exit | apply Fin.blk_ret | apply Fin.blk_normal | apply Fin.blk_here)
 | (with_reducible first | refine S.move ?_ | refine S.assign ?_ | refine S.pickT ?_ | refine S.pickF ?_ | refine S.lss ?_ | refine S.gtr ?_ | refine S.leq ?_ | refine S.geq ?_ | refine S.eqT ?_ | refine S.neF ?_ | refine S.eql ?_ | refine S.neq ?_ | refine S.add ?_ | refine S.sub ?_ | refine S.mul ?_ | refine S.conv ?_ | refine S.shr1 ?_ | refine S.neg ?_ | refine S.not ?_ | refine S.extract ?_ | refine S.len ?_ | refine S.fld ?_ | refine S.index ?_ | refine S.skp ?_ | refine S.sliceTo ?_ | refine S.sliceFrom ?_ | refine S.eqNil ?_ | refine S.eqbT ?_ | refine S.nebF ?_ | refine S.eqb ?_ | refine S.neb ?_)
 | ((with_reducible apply CW.cond_true); exact rfl)
 | ((with_reducible apply CW.cond_false); exact rfl)
 | ((with_reducible apply Fin.blk_far); exact rfl))
    refine CW.cond (by rfl) (fun h => ?_) (fun h => ?_)
    · have h : p < q := by have := of_decide_eq_true h; omega
      have hh1 : p ≤ (p + q) / 2 := by omega
      have hh2 : (p + q) / 2 < q := by omega
      have hy := hav ((p + q) / 2) (by omega)
      generalize hhd : (p + q) / 2 = hh at *
      generalize hyd : V.getD hh PV.zero = y at *
      repeat (first
 | (with_reducible first
 | apply CW.seq | apply CW.region | apply CW.block | apply CW.ret | apply CW.skip | apply CW.label | apply CW.exit
 | apply W.nil | apply Fin.seq | apply Fin.then_ret | apply Fin.then_exit | apply Fin.blk_ret | apply Fin.blk_normal | apply Fin.blk_here)
 | (with_reducible first | refine S.move ?_ | refine S.assign ?_ | refine S.pickT ?_ | refine S.pickF ?_ | refine S.lss ?_ | refine S.gtr ?_ | refine S.leq ?_ | refine S.geq ?_ | refine S.eqT ?_ | refine S.neF ?_ | refine S.eql ?_ | refine S.neq ?_ | refine S.add ?_ | refine S.sub ?_ | refine S.mul ?_ | refine S.conv ?_ | refine S.shr1 ?_ | refine S.neg ?_ | refine S.not ?_ | refine S.extract ?_ | refine S.len ?_ | refine S.fld ?_ | refine S.index ?_ | refine S.skp ?_ | refine S.sliceTo ?_ | refine S.sliceFrom ?_ | refine S.eqNil ?_ | refine S.eqbT ?_ | refine S.nebF ?_ | refine S.eqb ?_ | refine S.neb ?_)
 | ((with_reducible apply CW.cond_true); exact rfl)
 | ((with_reducible apply CW.cond_false); exact rfl)
 | ((with_reducible apply Fin.blk_far); exact rfl))
      refine wp_facts (R := X) (front := [0, 1, 2, 3, 4, 5, 6, 7, 8, 9, 10]) (tail := []) mixed (by kernel_rfl) X.refl (fun _ _ _ => X.trans) (X.drew _) ?_
      repeat ((with_reducible refine TC.step ?_); first
        | (with_reducible refine D.indexE (j := a + 1 + hh) ?_)
        | (with_reducible refine D.indexE (j := a) ?_)
        | refine D.lds (cs := x.cs) (by rfl) stPod (fun w' hx' j u hj => (hB1.x hx').cell hax hj) X.refl (by rfl) (by rfl) ?_
        | refine D.lds (cs := y.cs) (by rfl) stPod (fun w' hx' j u hj => (hB1.x hx').cell hy hj) X.refl (by rfl) (by rfl) ?_
        | refine D.cl (op_callv (vs := [y.v, x.v]) ent38 (by rfl) (by rfl)) (by rfl) (by rfl) (fun w' _ => Compare_calls y x w') ?_
        | (with_reducible first | refine D.move ?_ | refine D.assign ?_ | refine D.pickT ?_ | refine D.pickF ?_ | refine D.lss ?_ | refine D.gtr ?_ | refine D.leq ?_ | refine D.geq ?_ | refine D.eqT ?_ | refine D.neF ?_ | refine D.eql ?_ | refine D.neq ?_ | refine D.add ?_ | refine D.sub ?_ | refine D.mul ?_ | refine D.conv ?_ | refine D.shr1 ?_ | refine D.neg ?_ | refine D.not ?_ | refine D.extract ?_ | refine D.len ?_ | refine D.fld ?_ | refine D.index ?_ | refine D.skp ?_ | refine D.sliceTo ?_ | refine D.sliceFrom ?_ | refine D.eqNil ?_ | refine D.eqbT ?_ | refine D.nebF ?_ | refine D.eqb ?_ | refine D.neb ?_))
      refine TC.done fun w3 hx3 => ?_
      repeat (first
 | (with_reducible first
 | apply CW.seq | apply CW.region | apply CW.block | apply CW.ret | apply CW.skip | apply CW.label | apply CW.exit
 | apply W.nil | apply Fin.seq | apply Fin.then_ret | apply Fin.then_exit | apply Fin.blk_ret | apply Fin.blk_normal | apply Fin.blk_here)
 | (with_reducible first | refine S.move ?_ | refine S.assign ?_ | refine S.pickT ?_ | refine S.pickF ?_ | refine S.lss ?_ | refine S.gtr ?_ | refine S.leq ?_ | refine S.geq ?_ | refine S.eqT ?_ | refine S.neF ?_ | refine S.eql ?_ | refine S.neq ?_ | refine S.add ?_ | refine S.sub ?_ | refine S.mul ?_ | refine S.conv ?_ | refine S.shr1 ?_ | refine S.neg ?_ | refine S.not ?_ | refine S.extract ?_ | refine S.len ?_ | refine S.fld ?_ | refine S.index ?_ | refine S.skp ?_ | refine S.sliceTo ?_ | refine S.sliceFrom ?_ | refine S.eqNil ?_ | refine S.eqbT ?_ | refine S.nebF ?_ | refine S.eqb ?_ | refine S.neb ?_)
 | ((with_reducible apply CW.cond_true); exact rfl)
 | ((with_reducible apply CW.cond_false); exact rfl)
 | ((with_reducible apply Fin.blk_far); exact rfl))
      refine CW.cond (by rfl) (fun h2 => ?_) (fun h2 => ?_)
      · have h2 := of_decide_eq_true h2
        repeat (first
 | (with_reducible first
 | apply CW.seq | apply CW.region | apply CW.block | apply CW.ret | apply CW.skip | apply CW.label | apply CW.exit
 | apply W.nil | apply Fin.seq | apply Fin.then_ret | apply Fin.then_exit | apply Fin.blk_ret | apply Fin.blk_normal | apply Fin.blk_here)
 | (with_reducible first | refine S.move ?_ | refine S.assign ?_ | refine S.pickT ?_ | refine S.pickF ?_ | refine S.lss ?_ | refine S.gtr ?_ | refine S.leq ?_ | refine S.geq ?_ | refine S.eqT ?_ | refine S.neF ?_ | refine S.eql ?_ | refine S.neq ?_ | refine S.add ?_ | refine S.sub ?_ | refine S.mul ?_ | refine S.conv ?_ | refine S.shr1 ?_ | refine S.neg ?_ | refine S.not ?_ | refine S.extract ?_ | refine S.len ?_ | refine S.fld ?_ | refine S.index ?_ | refine S.skp ?_ | refine S.sliceTo ?_ | refine S.sliceFrom ?_ | refine S.eqNil ?_ | refine S.eqbT ?_ | refine S.nebF ?_ | refine S.eqb ?_ | refine S.neb ?_)
 | ((with_reducible apply CW.cond_true); exact rfl)
 | ((with_reducible apply CW.cond_false); exact rfl)
 | ((with_reducible apply Fin.blk_far); exact rfl))
        refine Fin.round (hh + 1, q) (by simp only; omega) (by repeat (first | exact trivial | refine ⟨congrArg (fun z : Int => some (Value.int .i64 z)) (by omega), ?_⟩ | refine ⟨rfl, ?_⟩)) ⟨hg1.trans (G.of_x hx3), hB1.x hx3, hh2, hq, fun _ => by simp only [Nat.add_sub_cancel]; rw [hyd]; exact h2, hhi⟩
      · have h2 := of_decide_eq_false h2
        repeat (first
 | (with_reducible first
 | apply CW.seq | apply CW.region | apply CW.block | apply CW.ret | apply CW.skip | apply CW.label | apply CW.exit
 | apply W.nil | apply Fin.seq | apply Fin.then_ret | apply Fin.then_exit | apply Fin.blk_ret | apply Fin.blk_normal | apply Fin.blk_here)
 | (with_reducible first | refine S.move ?_ | refine S.assign ?_ | refine S.pickT ?_ | refine S.pickF ?_ | refine S.lss ?_ | refine S.gtr ?_ | refine S.leq ?_ | refine S.geq ?_ | refine S.eqT ?_ | refine S.neF ?_ | refine S.eql ?_ | refine S.neq ?_ | refine S.add ?_ | refine S.sub ?_ | refine S.mul ?_ | refine S.conv ?_ | refine S.shr1 ?_ | refine S.neg ?_ | refine S.not ?_ | refine S.extract ?_ | refine S.len ?_ | refine S.fld ?_ | refine S.index ?_ | refine S.skp ?_ | refine S.sliceTo ?_ | refine S.sliceFrom ?_ | refine S.eqNil ?_ | refine S.eqbT ?_ | refine S.nebF ?_ | refine S.eqb ?_ | refine S.neb ?_)
 | ((with_reducible apply CW.cond_true); exact rfl)
 | ((with_reducible apply CW.cond_false); exact rfl)
 | ((with_reducible apply Fin.blk_far); exact rfl))
        refine Fin.round (p, hh) (by simp only; omega) (by repeat (first | exact trivial | refine ⟨congrArg (fun z : Int => some (Value.int .i64 z)) (by omega), ?_⟩ | refine ⟨rfl, ?_⟩)) ⟨hg1.trans (G.of_x hx3), hB1.x hx3, hh1, by simp only; omega, hlo, fun _ => by simp only; rw [hyd]; exact h2⟩
    · have h := of_decide_eq_false h
      have hpq2 : p = q := by omega
      subst hpq2
      repeat (first
 | (with_reducible first
 | apply CW.seq | apply CW.region | apply CW.block | apply CW.ret | apply CW.skip | apply CW.label | apply CW.exit
 | apply W.nil | apply Fin.seq | apply Fin.then_ret | apply Fin.then_exit | apply Fin.blk_ret | apply Fin.blk_normal | apply Fin.blk_here)
 | (with_reducible first | refine S.move ?_ | refine S.assign ?_ | refine S.pickT ?_ | refine S.pickF ?_ | refine S.lss ?_ | refine S.gtr ?_ | refine S.leq ?_ | refine S.geq ?_ | refine S.eqT ?_ | refine S.neF ?_ | refine S.eql ?_ | refine S.neq ?_ | refine S.add ?_ | refine S.sub ?_ | refine S.mul ?_ | refine S.conv ?_ | refine S.shr1 ?_ | refine S.neg ?_ | refine S.not ?_ | refine S.extract ?_ | refine S.len ?_ | refine S.fld ?_ | refine S.index ?_ | refine S.skp ?_ | refine S.sliceTo ?_ | refine S.sliceFrom ?_ | refine S.eqNil ?_ | refine S.eqbT ?_ | refine S.nebF ?_ | refine S.eqb ?_ | refine S.neb ?_)
 | ((with_reducible apply CW.cond_true); exact rfl)
 | ((with_reducible apply CW.cond_false); exact rfl)
 | ((with_reducible apply Fin.blk_far); exact rfl))
      have hM := place_left hV hq hlo hhi
      refine CW.loop (ι := Nat) (fun t => [(13, .int .i64 ((a + t : Nat) : Int)), (10, .int .i64 ((a + 1 + p : Nat) : Int)), (0, .slice (some ⟨g, 0, none⟩) T c)])
        (fun t w' => G g w w' ∧ t ≤ p ∧ BL w' g ((A ++ V.take t) ++ x :: (V.drop t ++ B))) (fun t => p - t) ?_ 0 (by repeat (first | exact trivial | refine ⟨congrArg (fun z : Int => some (Value.int .i64 z)) (by omega), ?_⟩ | refine ⟨rfl, ?_⟩)) ⟨hg1, Nat.zero_le _, by simpa using hB1⟩
      rintro t w2 ⟨hg2, ht, hB2⟩
      repeat (first
 | (with_reducible first
 | apply CW.seq | apply CW.region | apply CW.block | apply CW.ret | apply CW.skip | apply CW.label | apply CW.exit
 | apply W.nil | apply Fin.seq | apply Fin.then_ret | apply Fin.then_exit | apply Fin.blk_ret | apply Fin.blk_normal | apply Fin.blk_here)
 | (with_reducible first | refine S.move ?_ | refine S.assign ?_ | refine S.pickT ?_ | refine S.pickF ?_ | refine S.lss ?_ | refine S.gtr ?_ | refine S.leq ?_ | refine S.geq ?_ | refine S.eqT ?_ | refine S.neF ?_ | refine S.eql ?_ | refine S.neq ?_ | refine S.add ?_ | refine S.sub ?_ | refine S.mul ?_ | refine S.conv ?_ | refine S.shr1 ?_ | refine S.neg ?_ | refine S.not ?_ | refine S.extract ?_ | refine S.len ?_ | refine S.fld ?_ | refine S.index ?_ | refine S.skp ?_ | refine S.sliceTo ?_ | refine S.sliceFrom ?_ | refine S.eqNil ?_ | refine S.eqbT ?_ | refine S.nebF ?_ | refine S.eqb ?_ | refine S.neb ?_)
 | ((with_reducible apply CW.cond_true); exact rfl)
 | ((with_reducible apply CW.cond_false); exact rfl)
 | ((with_reducible apply Fin.blk_far); exact rfl))
      refine CW.cond (by rfl) (fun h => ?_) (fun h => ?_)
      · have h : t < p := by have := of_decide_eq_true h; omega
        have htv : t < V.length := by omega
        have ht1 : V.take (t + 1) = V.take t ++ [V[t]] := (List.take_append_getElem htv).symm
        have hd1 : V.drop t = V[t] :: V.drop (t + 1) := List.drop_eq_getElem_cons htv
        have hla : (A ++ V.take t).length = a + t := by rw [List.length_append, List.length_take]; omega
        rw [hd1, List.cons_append] at hB2
        have hnx : (A ++ V.take t) ++ V[t] :: x :: (V.drop (t + 1) ++ B) = (A ++ V.take (t + 1)) ++ x :: (V.drop (t + 1) ++ B) := by
          rw [ht1]; simp only [List.append_assoc, List.cons_append, List.nil_append]
        have hEl : ((A ++ V.take t) ++ x :: V[t] :: (V.drop (t + 1) ++ B)).length = T := by
          rw [List.length_append, hla, List.length_cons, List.length_cons, List.length_append, List.length_drop]; omega
        generalize V[t] = y at *
        obtain ⟨n1, n2, n3, n4, n5, n6⟩ := near (A ++ V.take t) (V.drop (t + 1) ++ B) x y (a + t) hla
        rw [hnx] at n3
        clear n4 hnx ht1 hd1
        generalize (A ++ V.take t) ++ x :: y :: (V.drop (t + 1) ++ B) = Ls at *
        repeat (first
 | (with_reducible first
 | apply CW.seq | apply CW.region | apply CW.block | apply CW.ret | apply CW.skip | apply CW.label | apply CW.exit
 | apply W.nil | apply Fin.seq | apply Fin.then_ret | apply Fin.then_exit | apply Fin.blk_ret | apply Fin.blk_normal | apply Fin.blk_here)
 | (with_reducible first | refine S.move ?_ | refine S.assign ?_ | refine S.pickT ?_ | refine S.pickF ?_ | refine S.lss ?_ | refine S.gtr ?_ | refine S.leq ?_ | refine S.geq ?_ | refine S.eqT ?_ | refine S.neF ?_ | refine S.eql ?_ | refine S.neq ?_ | refine S.add ?_ | refine S.sub ?_ | refine S.mul ?_ | refine S.conv ?_ | refine S.shr1 ?_ | refine S.neg ?_ | refine S.not ?_ | refine S.extract ?_ | refine S.len ?_ | refine S.fld ?_ | refine S.index ?_ | refine S.skp ?_ | refine S.sliceTo ?_ | refine S.sliceFrom ?_ | refine S.eqNil ?_ | refine S.eqbT ?_ | refine S.nebF ?_ | refine S.eqb ?_ | refine S.neb ?_)
 | ((with_reducible apply CW.cond_true); exact rfl)
 | ((with_reducible apply CW.cond_false); exact rfl)
 | ((with_reducible apply Fin.blk_far); exact rfl))
        refine wp_facts3 (R := X) (pu := [0, 1, 2, 3, 4, 5, 6, 7, 8, 10, 11, 12]) (front := [9, 13]) (tail := [14, 15, 16, 17]) mixed (by kernel_rfl) (by (repeat (first | with_reducible exact NoPanic.post_ | with_reducible apply NoPanic.then_ | with_reducible apply NoPanic.blk))) X.refl (fun _ _ _ => X.trans) (X.drew _) ?_
        repeat ((with_reducible refine TP.step ?_); first
          | (with_reducible refine E.indexE (j := a + t + 1) ?_)
          | (with_reducible refine E.indexE (j := a + t) ?_)
          | (with_reducible first | refine E.move ?_ | refine E.assign ?_ | refine E.pickT ?_ | refine E.pickF ?_ | refine E.lss ?_ | refine E.gtr ?_ | refine E.leq ?_ | refine E.geq ?_ | refine E.eqT ?_ | refine E.neF ?_ | refine E.eql ?_ | refine E.neq ?_ | refine E.add ?_ | refine E.sub ?_ | refine E.mul ?_ | refine E.conv ?_ | refine E.shr1 ?_ | refine E.neg ?_ | refine E.not ?_ | refine E.extract ?_ | refine E.len ?_ | refine E.fld ?_ | refine E.index ?_ | refine E.skp ?_ | refine E.sliceTo ?_ | refine E.sliceFrom ?_ | refine E.eqNil ?_ | refine E.eqbT ?_ | refine E.nebF ?_ | refine E.eqb ?_ | refine E.neb ?_))
        refine TP.done ?_
        repeat ((with_reducible refine TC.step ?_); first
          | refine D.lds (cs := x.cs) (by rfl) stPod (fun w' hx' j u hj => (hB2.x hx').cell n1 hj) X.refl (by rfl) (by rfl) ?_
          | refine D.lds (cs := y.cs) (by rfl) stPod (fun w' hx' j u hj => (hB2.x hx').cell n2 hj) X.refl (by rfl) (by rfl) ?_)
        refine TC.tail4 (by rfl) (by rfl) (by rfl) (by rfl) (fun w4 hx4 => ?_)
        (with_reducible refine S.indexE (j := a + t) ?_)
        refine S.stP (p := y) (by rfl) (by rfl) (hB2.x hx4) (by omega) szPod9 (by rfl) fun w5 hg5 hB5 => ?_
        (with_reducible refine S.indexE (j := a + t + 1) ?_)
        refine S.stP (p := x) (by rfl) (by rfl) hB5 (by rw [List.length_set]; omega) szPod9 (by rfl) fun w6 hg6 hB6 => ?_
        have hfin : BL w6 g (swapAt Ls (a + t) (a + t + 1)) := by rw [swapAt, n5, n6]; exact hB6
        rw [n3] at hfin
        repeat (first
 | (with_reducible first
 | apply CW.seq | apply CW.region | apply CW.block | apply CW.ret | apply CW.skip | apply CW.label | apply CW.exit
 | apply W.nil | apply Fin.seq | apply Fin.then_ret | apply Fin.then_exit | apply Fin.blk_ret | apply Fin.blk_normal | apply Fin.blk_here)
 | (with_reducible first | refine S.move ?_ | refine S.assign ?_ | refine S.pickT ?_ | refine S.pickF ?_ | refine S.lss ?_ | refine S.gtr ?_ | refine S.leq ?_ | refine S.geq ?_ | refine S.eqT ?_ | refine S.neF ?_ | refine S.eql ?_ | refine S.neq ?_ | refine S.add ?_ | refine S.sub ?_ | refine S.mul ?_ | refine S.conv ?_ | refine S.shr1 ?_ | refine S.neg ?_ | refine S.not ?_ | refine S.extract ?_ | refine S.len ?_ | refine S.fld ?_ | refine S.index ?_ | refine S.skp ?_ | refine S.sliceTo ?_ | refine S.sliceFrom ?_ | refine S.eqNil ?_ | refine S.eqbT ?_ | refine S.nebF ?_ | refine S.eqb ?_ | refine S.neb ?_)
 | ((with_reducible apply CW.cond_true); exact rfl)
 | ((with_reducible apply CW.cond_false); exact rfl)
 | ((with_reducible apply Fin.blk_far); exact rfl))
        refine Fin.round (t + 1) (by omega) (by repeat (first | exact trivial | refine ⟨congrArg (fun z : Int => some (Value.int .i64 z)) (by omega), ?_⟩ | refine ⟨rfl, ?_⟩)) ⟨hg2.trans ((G.of_x hx4).trans (hg5.trans hg6)), h, hfin⟩
      · have h := of_decide_eq_false h
        have htp : t = p := by omega
        subst htp
        repeat (first
 | (with_reducible first
 | apply CW.seq | apply CW.region | apply CW.block | apply CW.ret | apply CW.skip | apply CW.label | apply CW.exit
 | apply W.nil | apply Fin.seq | apply Fin.then_ret | apply Fin.then_exit | apply Fin.blk_ret | apply Fin.blk_normal | apply Fin.blk_here)
 | (with_reducible first | refine S.move ?_ | refine S.assign ?_ | refine S.pickT ?_ | refine S.pickF ?_ | refine S.lss ?_ | refine S.gtr ?_ | refine S.leq ?_ | refine S.geq ?_ | refine S.eqT ?_ | refine S.neF ?_ | refine S.eql ?_ | refine S.neq ?_ | refine S.add ?_ | refine S.sub ?_ | refine S.mul ?_ | refine S.conv ?_ | refine S.shr1 ?_ | refine S.neg ?_ | refine S.not ?_ | refine S.extract ?_ | refine S.len ?_ | refine S.fld ?_ | refine S.index ?_ | refine S.skp ?_ | refine S.sliceTo ?_ | refine S.sliceFrom ?_ | refine S.eqNil ?_ | refine S.eqbT ?_ | refine S.nebF ?_ | refine S.eqb ?_ | refine S.neb ?_)
 | ((with_reducible apply CW.cond_true); exact rfl)
 | ((with_reducible apply CW.cond_false); exact rfl)
 | ((with_reducible apply Fin.blk_far); exact rfl))
        (with_reducible first | apply R.r0 | apply R.e0); exact rfl
        exact ⟨_, hM, by simpa using hB2, hg2⟩
  · exfalso
    have h := of_decide_eq_false h
    omega

end Go.Proofs.YtmilpjkjcanghaaDoor

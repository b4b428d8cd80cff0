/- Steps and slices. TAKEN OUT OF THE QUEUE'S TEXTS by pbase.py. -/
import Derived.Test.YtmilpjkjcanghaaDoorOpen
import Derived.Laws.Pointers
namespace Go.Proofs.YtmilpjkjcanghaaDoor
open Go.RowKit
set_option linter.unusedVariables false
set_option linter.unusedSimpArgs false

theorem ent33 : Go.Proofs.Enters Tryd.prog 33 := Go.Proofs.enters_of Tryd.func33 (by kernel_rfl) rfl
theorem ent25 : Go.Proofs.Enters Tryd.prog 25 := Go.Proofs.enters_of Tryd.func25 (by kernel_rfl) rfl
theorem ent14 : Go.Proofs.Enters Tryd.prog 14 := Go.Proofs.enters_of Tryd.func14 (by kernel_rfl) rfl
theorem ent23 : Go.Proofs.Enters Tryd.prog 23 := Go.Proofs.enters_of Tryd.func23 (by kernel_rfl) rfl

section
variable {P : Program} {ty : TypeId} {L : Operand → Option Value} {x y : Operand}
theorem op_nilCheck {a : Addr} (hx : L x = some (.pointer (some a))) : Pure P (.nilCheck x) ty L (.pointer (some a)) := fun ev he w d pos aft g => by
  simp [execOp, he x _ hx]
theorem op_eqPtr {t t' : TypeId} {A : Option Addr} (ht : P.underlying t = some (.pointer (P.pointee t))) (hx : L x = some (.pointer A)) (hy : L y = some (.pointer none)) : Pure P (.binOp .eql t x y t') ty L (.bool A.isNone) := fun ev he w d pos aft g => by
  have h := run_eql_pointer_nil (P := P) w t A ht
  simp [execOp, he x _ hx, he y _ hy, eqGuard, h]
theorem op_nePtr {t t' : TypeId} {A : Option Addr} (ht : P.underlying t = some (.pointer (P.pointee t))) (hx : L x = some (.pointer A)) (hy : L y = some (.pointer none)) : Pure P (.binOp .neq t x y t') ty L (.bool (!A.isNone)) := fun ev he w d pos aft g => by
  have h := run_neq_pointer_nil (P := P) w t A ht
  simp [execOp, he x _ hx, he y _ hy, eqGuard, h]
end

section
variable {P : Program} {fn : Func} {N : Nat} {env : Env} {w : World} {R : Value → World → Prop}
/-- A named result that lives in memory. -/
theorem results_one {ty p : Nat} {tmps : Array Value} {g : Nat} {cs : List Value} {t : TypeId} (hr : fn.results = #[.cell p ty]) (hp : tmps.getD p undef = .pointer (some ⟨g, 0, none⟩)) (hB : Blk w g t cs) (hS : StOf P ty cs.length) : (results fn tmps).run P w = .ok (.agg cs.toArray) w := by
  have hl := run_load_struct (P := P) (w := w) (b := g) (o := 0) (cs := cs) hS.choose_spec.1 hS.choose_spec.2 rfl (fun k u hk => by rw [Nat.zero_add]; exact hB.cell hk)
  have hp' : tmps[p]?.getD undef = .pointer (some ⟨g, 0, none⟩) := by simpa using hp
  simp [results, hr, hp', asAddr, hl]
theorem results_two {ty p s : Nat} {tmps : Array Value} {g : Nat} {cs : List Value} {t : TypeId} (hr : fn.results = #[.cell p ty, .tmp s]) (hp : tmps.getD p undef = .pointer (some ⟨g, 0, none⟩)) (hB : Blk w g t cs) (hS : StOf P ty cs.length) : (results fn tmps).run P w = .ok (.tuple #[.agg cs.toArray, tmps.getD s undef]) w := by
  have hl := run_load_struct (P := P) (w := w) (b := g) (o := 0) (cs := cs) hS.choose_spec.1 hS.choose_spec.2 rfl (fun k u hk => by rw [Nat.zero_add]; exact hB.cell hk)
  have hp' : tmps[p]?.getD undef = .pointer (some ⟨g, 0, none⟩) := by simpa using hp
  simp [results, hr, hp', asAddr, hl]
theorem R.c1 {ty p g : Nat} {cs : List Value} {t : TypeId} (hr : fn.results = #[.cell p ty]) (hp : getE env p = some (.pointer (some ⟨g, 0, none⟩))) (hB : Blk w g t cs) (hS : StOf P ty cs.length) (h : R (.agg cs.toArray) w) : Fin (PostR P fn R) .ret N env w := fun a ha =>
  bodyPost_ret (results_one hr (ha.val p _ hp) hB hS) ha.defers h
theorem R.c2 {ty p s g : Nat} {cs : List Value} {t : TypeId} {u : Value} (hr : fn.results = #[.cell p ty, .tmp s]) (hp : getE env p = some (.pointer (some ⟨g, 0, none⟩))) (hs : getE env s = some u) (hB : Blk w g t cs) (hS : StOf P ty cs.length) (h : R (.tuple #[.agg cs.toArray, u]) w) : Fin (PostR P fn R) .ret N env w := fun a ha =>
  bodyPost_ret (results_two hr (ha.val p _ hp) hB hS) ha.defers (by rw [ha.val s u hs]; exact h)
end

theorem OwnP.open_ {w : World} {B : Nat} {v : Value} {L : List PV} (h : OwnP w B v L) (hne : L ≠ []) : ∃ g cap sp, v = .slice (some ⟨g, 0, none⟩) L.length cap ∧ B ≤ g ∧ Blk w g 30 (flat L ++ sp) ∧ L.length ≤ cap ∧ cap ≤ maxLen ∧ (flat L ++ sp).length = cap * 9 := by
  obtain ⟨hl, h⟩ := h
  rcases h with ⟨_, h2⟩ | ⟨g, cap, cur, h1, h2, h3, h4, h5, h6, h7⟩
  · exact absurd (List.eq_nil_of_length_eq_zero h2) hne
  · have e : flat L ++ cur.toList.drop (L.length * 9) = cur.toList := by rw [← h7, List.take_append_drop]
    refine ⟨g, cap, cur.toList.drop (L.length * 9), h1, h2, ?_, h4, h5, ?_⟩
    · unfold Blk; rw [e]; exact h3
    · rw [e]; simpa using h6
theorem OwnP.mk_ {w : World} {B g cap : Nat} {L : List PV} {sp : List Value} (hB : B ≤ g) (hb : Blk w g 30 (flat L ++ sp)) (h1 : L.length ≤ cap) (h2 : cap ≤ maxLen) (h3 : (flat L ++ sp).length = cap * 9) : OwnP w B (.slice (some ⟨g, 0, none⟩) L.length cap) L :=
  ⟨flat_length L, .inr ⟨g, cap, (flat L ++ sp).toArray, rfl, hB, hb, h1, h2, by simpa using h3, by
    simp only [List.toList_toArray]
    rw [List.take_append_of_le_length (by rw [flat_length]; omega), List.take_of_length_le (by rw [flat_length]; omega)]⟩⟩
theorem G.blk {g k : Nat} {w w' : World} {t : TypeId} {cs : List Value} (h : G g w w') (hB : Blk w k t cs) (hne : k ≠ g) : Blk w' k t cs := (World.grownBy.block h k hB.lt (by simpa using hne)).trans hB
theorem G.own {g B : Nat} {w w' : World} {v : Value} {L : List PV} (h : G g w w') (hO : OwnP w B v L) (hne : v.ownBlock ≠ some g) : OwnP w' B v L := hO.g h hne

theorem NewS.open_ {w : World} {B : Nat} {v : Value} {M : List PV} (h : NewS w B v M) : ∃ A c g, v = .slice A M.length c ∧ M.length ≤ c ∧ B ≤ g ∧ (M ≠ [] → A = some ⟨g, 0, none⟩ ∧ BL w g M) := by
  rcases h with ⟨rfl, rfl⟩ | ⟨g, c, rfl, hc, hg, hb⟩
  · exact ⟨none, 0, B, rfl, Nat.le_refl _, Nat.le_refl _, fun h => absurd rfl h⟩
  · exact ⟨_, c, g, rfl, hc, hg, fun _ => ⟨rfl, hb⟩⟩
theorem flat_set1 (D : List PV) (i k : Nat) (p : PV) (u : Value) (h : i < D.length) (hk : k < 9) (hp : p.cs = D[i].cs.set k u) (sp : List Value) :
    (flat D ++ sp).take (i * 9 + k) ++ [u] ++ (flat D ++ sp).drop (i * 9 + k + 1) = flat (D.set i p) ++ sp := by
  have h0 := flat_set D i D[i] h sp
  rw [List.set_getElem_self] at h0
  have h1 := flat_set D i p h sp
  rw [hp] at h1
  rw [PV.cs_length] at h0
  rw [List.length_set, PV.cs_length] at h1
  rw [← h1]
  have hlt : i * 9 + 9 ≤ (flat D ++ sp).length := by rw [List.length_append, flat_length]; omega
  have e1 : (flat D ++ sp).take (i * 9 + k) ++ [u] ++ (flat D ++ sp).drop (i * 9 + k + 1) = (flat D ++ sp).set (i * 9 + k) u := by
    rw [List.set_eq_take_append_cons_drop, if_pos (by omega)]
    simp
  rw [e1]
  conv => lhs; rw [← h0]
  have hl : ((flat D ++ sp).take (i * 9)).length = i * 9 := by rw [List.length_take]; omega
  rw [List.append_assoc, List.set_append_right _ _ (by omega), hl, Nat.add_sub_cancel_left, List.set_append_left _ _ (by rw [PV.cs_length]; exact hk), List.append_assoc]
theorem run_storeVar_one {P : Program} {t : TypeId} {g o : Nat} {t' : TypeId} {w : World} {cs : List Value} {u : Value} (hB : Blk w g t' cs) (ho : o < cs.length) (hu : u.cells = #[u]) (h1 : u.oneCell' = true) (hsz : (P.info? t).map (·.size) = some (0 + 1)) :
    (storeVar t ⟨g, o, none⟩ u).run P w = .ok () (w.setRow g (cs.take o ++ [u] ++ cs.drop (o + 1)).toArray) := by
  cases hinf : P.info? t with
  | none => simp [hinf] at hsz
  | some inf =>
    have hs : inf.size = 1 := by rw [hinf] at hsz; simpa using hsz
    have h2 := run_storeCells_at P g o t' [u] 0 cs.toArray w hB (by simp; omega) (by simpa using h1)
    unfold storeVar
    simp [sizeOf, typeInfo, hinf, hs, hu, h2]

section
variable {P : Program} {ops : Array Oper} {Q : Exit → Act → World → Prop} {l : List Oper} {N : Nat} {env : Env} {w : World} {ty : TypeId} {pos : String} {aft : Array Edge} {gd : Option (Nat × Bool)}
/-- A store of one cell of a pod. -/
theorem S.stF {t g i k : Nat} {x y : Operand} {D : List PV} {p : PV} {u : Value} (hx : opv env x = some (.pointer (some ⟨g, 0 + i * 9 + k, none⟩))) (hy : opv env y = some u) (hB : BL w g D) (hi : i < D.length) (hk : k < 9) (hp : p.cs = D[i].cs.set k u) (hu : u.cells = #[u]) (h1 : u.oneCell' = true) (hsz : (P.info? t).map (·.size) = some (0 + 1))
    (hg : wantE ops env gd = some true) (K : ∀ w', G g w w' → BL w' g (D.set i p) → W P ops Q l N env w') :
    W P ops Q ({ dst := none, op := .store t x y, type := ty, pos, after := aft, guard := gd } :: l) N env w := by
  obtain ⟨sp, hB⟩ := hB
  have hrun := run_storeVar_one (P := P) (t := t) (o := i * 9 + k) hB (by rw [List.length_append, flat_length]; omega) hu h1 hsz
  rw [flat_set1 D i k p u hi hk hp sp] at hrun
  rw [Nat.zero_add] at hx
  exact W.writes (d := none) (w' := w.setRow g (flat (D.set i p) ++ sp).toArray) (fun ev he d pos aft gd => by
    simp [execOp, he x _ hx, he y _ hy, Instr.storeAt, Instr.sureAddr, hrun]) hg rfl (K _ (grown_setRow w g _) ⟨sp, setRow_heap w g _ _ _ _ hB⟩)
end

section
variable {P : Program} {ops : Array Oper} {Q : Exit → Act → World → Prop} {l : List Oper} {N : Nat} {env : Env} {w : World} {ty : TypeId} {pos : String} {aft : Array Edge} {gd : Option (Nat × Bool)}
/-- A store of one cell into a block that is known whole. -/
theorem S.stC {t t' : TypeId} {b o : Nat} {x y : Operand} {cs : List Value} {u : Value} (hx : opv env x = some (.pointer (some ⟨b, o, none⟩))) (hy : opv env y = some u) (hB : Blk w b t' cs) (ho : o < cs.length) (hu : u.cells = #[u]) (h1 : u.oneCell' = true) (hsz : (P.info? t).map (·.size) = some (0 + 1))
    (hg : wantE ops env gd = some true) (K : ∀ w', G b w w' → Blk w' b t' (cs.take o ++ [u] ++ cs.drop (o + 1)) → W P ops Q l N env w') :
    W P ops Q ({ dst := none, op := .store t x y, type := ty, pos, after := aft, guard := gd } :: l) N env w := by
  have hrun := run_storeVar_one (P := P) (t := t) hB ho hu h1 hsz
  exact W.writes (d := none) (w' := w.setRow b (cs.take o ++ [u] ++ cs.drop (o + 1)).toArray) (fun ev he d pos aft gd => by
    simp only [execOp, he x _ hx, he y _ hy, Instr.storeAt, Instr.sureAddr]
    simp [hrun]) hg rfl (K _ (grown_setRow w b _) (setRow_heap w b _ _ _ _ hB))
end

theorem OwnP.nl {w : World} {B : Nat} {v : Value} {L : List PV} (h : OwnP w B v L) : ∃ A c, v = .slice A L.length c ∧ L.length ≤ c := by
  obtain ⟨A, c, h1, h2, _⟩ := h.ps
  exact ⟨A, c, h1, h2⟩

/-- A slice of int64 that reads as l, in a block of K. -/
def ISK (w : World) (K : Nat → Prop) (A : Option Addr) (n : Nat) (l : List Int) : Prop :=
  n = l.length ∧ (l ≠ [] → ∃ b o, A = some ⟨b, o, none⟩ ∧ K b ∧ ∀ (i : Nat) (x : Int), l[i]? = some x → w.cell? ⟨b, o + i, none⟩ = some (.int .i64 x))
theorem ISK.mono {w : World} {K K' : Nat → Prop} {A : Option Addr} {n : Nat} {l : List Int} (h : ISK w K A n l) (hk : ∀ b, b < w.heap.size → K b → K' b) : ISK w K' A n l :=
  ⟨h.1, fun hne => by
    obtain ⟨b, o, h1, h2, h3⟩ := h.2 hne
    have hl : 0 < l.length := List.length_pos_iff.2 hne
    have hb := World.block_lt_of_cell? w _ (h3 0 l[0] (List.getElem?_eq_getElem hl))
    exact ⟨b, o, h1, hk b hb h2, h3⟩⟩
theorem ISK.is {w : World} {K : Nat → Prop} {A : Option Addr} {n : Nat} {l : List Int} (h : ISK w K A n l) : IS w w.heap.size A n l :=
  ⟨h.1, fun hne => by
    obtain ⟨b, o, h1, h2, h3⟩ := h.2 hne
    have hl : 0 < l.length := List.length_pos_iff.2 hne
    have hb := World.block_lt_of_cell? w _ (h3 0 l[0] (List.getElem?_eq_getElem hl))
    exact ⟨b, o, h1, hb, h3⟩⟩
theorem IS.isk {w : World} {B : Nat} {A : Option Addr} {n : Nat} {l : List Int} (h : IS w B A n l) : ISK w (· < B) A n l := h
theorem ISK.keep {w w' : World} {K : Nat → Prop} {A : Option Addr} {n : Nat} {l : List Int} (h : ISK w K A n l) (hs : ∀ k, k < w.heap.size → K k → w'.heap[k]? = w.heap[k]?) : ISK w' K A n l :=
  ⟨h.1, fun hne => by
    obtain ⟨b, o, h1, h2, h3⟩ := h.2 hne
    refine ⟨b, o, h1, h2, fun i x hi => ?_⟩
    have hc := h3 i x hi
    have hb := World.block_lt_of_cell? w _ hc
    have he := hs b hb h2
    unfold World.cell? at hc ⊢
    simp only at hc ⊢
    rw [he]
    exact hc⟩
theorem ISK.x {w w' : World} {K : Nat → Prop} {A : Option Addr} {n : Nat} {l : List Int} (h : ISK w K A n l) (hx : X w w') : ISK w' K A n l := h.keep fun k hk _ => hx.block k hk
theorem ISK.read {w : World} {K : Nat → Prop} {A : Option Addr} {n : Nat} {l : List Int} (h : ISK w K A n l) : readI w A n = l := h.is.read
/-- A slice of int64 in a block of its own. -/
def RqB (w : World) (B : Nat) (A : Option Addr) (n : Nat) (l : List Int) : Prop :=
  n = l.length ∧ (l ≠ [] → ∃ b sp, A = some ⟨b, 0, none⟩ ∧ B ≤ b ∧ Blk w b 2 (l.map (Value.int .i64) ++ sp))
theorem RqB.isk {w : World} {B : Nat} {A : Option Addr} {n : Nat} {l : List Int} (h : RqB w B A n l) : ISK w (B ≤ ·) A n l :=
  ⟨h.1, fun hne => by
    obtain ⟨b, sp, h1, h2, h3⟩ := h.2 hne
    refine ⟨b, 0, h1, h2, fun i x hi => ?_⟩
    rw [Nat.zero_add]
    refine h3.cell ?_
    have hil := (List.getElem?_eq_some_iff.1 hi).1
    rw [List.getElem?_append_left (by simpa using hil), List.getElem?_map, hi]
    rfl⟩
theorem RqB.x {w w' : World} {B : Nat} {A : Option Addr} {n : Nat} {l : List Int} (h : RqB w B A n l) (hx : X w w') : RqB w' B A n l :=
  ⟨h.1, fun hne => by obtain ⟨b, sp, h1, h2, h3⟩ := h.2 hne; exact ⟨b, sp, h1, h2, h3.x hx⟩⟩
theorem zI64 : (Tryd.prog.info? 2).map (fun i => (i.zero, i.size, i.bytes)) = some (some (.int .i64 0), 1, 8) := by kernel_rfl
theorem zI64' : (Tryd.prog.info? 2).map (fun j => (j.size, j.zero)) = some (1, some (.int .i64 0)) := by kernel_rfl
theorem run_append_I {w : World} {B g c n : Nat} {A : Option Addr} {l : List Int} (hg : Blk w g 2 []) (hgB : B ≤ g) (hm : IS w w.heap.size A n l) (hn : n ≤ 1000) (ty : TypeId) :
    ∃ A' c' w', (Builtin.append_ #[28, 28] ty #[.slice (some ⟨g, 0, none⟩) 0 0, .slice A n c]).run Tryd.prog w = .ok (.slice A' n c') w' ∧ RqB w' B A' n l ∧ X w w' ∧ n ≤ c' := by
  obtain ⟨rfl, hc⟩ := hm
  cases hi : Tryd.prog.info? 2 with
  | none => have := zI64; rw [hi] at this; cases this
  | some i =>
    have hz := zI64
    rw [hi] at hz
    simp only [Option.map_some, Option.some.injEq, Prod.mk.injEq] at hz
    obtain ⟨hz0, hz1, hz2⟩ := hz
    by_cases hM : l = []
    · subst hM
      refine ⟨some ⟨g, 0, none⟩, 0, w, ?_, ⟨rfl, fun h => absurd rfl h⟩, X.refl _, Nat.le_refl _⟩
      cases A <;> simp [Builtin.append_, run_underlying Tryd.underlying28, sizeOf, typeInfo, hi, Builtin.lenOf, Builtin.firstCells, loadCells, loadCellsFrom, storeCells]
    · obtain ⟨b, o, rfl, hb, hcell⟩ := hc hM
      have hpos : 0 < l.length := List.length_pos_iff.2 hM
      have hr := run_append_grow (P := Tryd.prog) w 28 ty 2 i (.int .i64 0) Tryd.underlying28 hi hz0 ⟨g, 0, none⟩ 0 0 [] (by simp) (by simp) ⟨b, o, none⟩ l.length c (l.map (Value.int .i64)) (by simp [hz1]) (fun j u hj => by
        rw [add_plain]
        rw [List.getElem?_map] at hj
        cases hx : l[j]? with
        | none => rw [hx] at hj; cases hj
        | some x => rw [hx] at hj; cases hj; exact hcell j x hx) (by omega) (by omega) (by
        unfold Builtin.nextslicecap
        rw [if_pos (by omega), hz2]; omega)
      simp only [Nat.zero_add] at hr
      have ha := heap_alloc_new w.drew (.cells (#[] ++ (List.map (Value.int .i64) l).toArray ++ Builtin.zeroCells (Value.int IntKind.i64 0).cells (grownCap w l.length 0 2 - l.length)) 2)
      have he : (#[] ++ (List.map (Value.int .i64) l).toArray ++ Builtin.zeroCells (Value.int IntKind.i64 0).cells (grownCap w l.length 0 2 - l.length)) = (List.map (Value.int .i64) l ++ (Builtin.zeroCells (Value.int IntKind.i64 0).cells (grownCap w l.length 0 2 - l.length)).toList).toArray := by
        apply Array.toList_inj.1
        simp
      refine ⟨_, _, _, hr, ⟨rfl, fun _ => ⟨w.heap.size, (Builtin.zeroCells (Value.int IntKind.i64 0).cells (grownCap w l.length 0 2 - l.length)).toList, rfl, by have := hg.lt; omega, ?_⟩⟩, X.trans (X.drew w) (X.alloc _ _), grownCap_ge w l.length 0 2⟩
      unfold Blk
      rw [← he]
      exact ha
theorem CloneI_calls (A : Option Addr) (n c : Nat) (l : List Int) (w : World) (h : IS w w.heap.size A n l) (hn : n ≤ 1000) :
    CallsR Tryd.prog 33 [.slice A n c] w fun v w' => ∃ A' c', v = .slice A' n c' ∧ RqB w' w.heap.size A' n l ∧ X w w' ∧ n ≤ c' := by
  refine enter1 Tryd.func33 rfl Tryd.ntmps33 rfl ?_
  repeat (first
 | (with_reducible first
 | apply CW.seq | apply CW.region | apply CW.block | apply CW.ret | apply CW.skip | apply CW.label | apply CW.exit
 | apply W.nil | apply Fin.seq | apply Fin.then_ret | apply Fin.then_exit | apply Fin.blk_ret | apply Fin.blk_normal | apply Fin.blk_here)
 | (with_reducible first | refine S.move ?_ | refine S.assign ?_ | refine S.pickT ?_ | refine S.pickF ?_ | refine S.lss ?_ | refine S.gtr ?_ | refine S.leq ?_ | refine S.geq ?_ | refine S.eqT ?_ | refine S.neF ?_ | refine S.eql ?_ | refine S.neq ?_ | refine S.add ?_ | refine S.sub ?_ | refine S.mul ?_ | refine S.conv ?_ | refine S.shr1 ?_ | refine S.neg ?_ | refine S.not ?_ | refine S.extract ?_ | refine S.len ?_ | refine S.fld ?_ | refine S.index ?_ | refine S.skp ?_ | refine S.sliceTo ?_ | refine S.sliceFrom ?_ | refine S.eqNil ?_ | refine S.eqbT ?_ | refine S.nebF ?_ | refine S.eqb ?_ | refine S.neb ?_)
 | (with_reducible first | refine S.nc ?_ | refine S.fld ?_ (h1 := fHeapL) | refine S.fld ?_ (h1 := fHeapM) | refine S.fld ?_ (h1 := fQueueH) | refine S.eqP ?_ | refine S.neP ?_ | refine S.quo ?_ | refine S.mkP ?_)
 | ((with_reducible apply CW.cond_true); exact rfl)
 | ((with_reducible apply CW.cond_false); exact rfl)
 | ((with_reducible apply Fin.blk_far); exact rfl))
  refine CW.cond (by rfl) (fun hA => ?_) (fun hA => ?_)
  · repeat (first
 | (with_reducible first
 | apply CW.seq | apply CW.region | apply CW.block | apply CW.ret | apply CW.skip | apply CW.label | apply CW.exit
 | apply W.nil | apply Fin.seq | apply Fin.then_ret | apply Fin.then_exit | apply Fin.blk_ret | apply Fin.blk_normal | apply Fin.blk_here)
 | (with_reducible first | refine S.move ?_ | refine S.assign ?_ | refine S.pickT ?_ | refine S.pickF ?_ | refine S.lss ?_ | refine S.gtr ?_ | refine S.leq ?_ | refine S.geq ?_ | refine S.eqT ?_ | refine S.neF ?_ | refine S.eql ?_ | refine S.neq ?_ | refine S.add ?_ | refine S.sub ?_ | refine S.mul ?_ | refine S.conv ?_ | refine S.shr1 ?_ | refine S.neg ?_ | refine S.not ?_ | refine S.extract ?_ | refine S.len ?_ | refine S.fld ?_ | refine S.index ?_ | refine S.skp ?_ | refine S.sliceTo ?_ | refine S.sliceFrom ?_ | refine S.eqNil ?_ | refine S.eqbT ?_ | refine S.nebF ?_ | refine S.eqb ?_ | refine S.neb ?_)
 | (with_reducible first | refine S.nc ?_ | refine S.fld ?_ (h1 := fHeapL) | refine S.fld ?_ (h1 := fHeapM) | refine S.fld ?_ (h1 := fQueueH) | refine S.eqP ?_ | refine S.neP ?_ | refine S.quo ?_ | refine S.mkP ?_)
 | ((with_reducible apply CW.cond_true); exact rfl)
 | ((with_reducible apply CW.cond_false); exact rfl)
 | ((with_reducible apply Fin.blk_far); exact rfl))
    (with_reducible apply R.r1); exact rfl; exact rfl
    have hA : A = none := by simpa using hA
    subst hA
    have hl : l = [] := by
      cases l with
      | nil => rfl
      | cons x r => obtain ⟨b, o, e, _⟩ := h.2 (by simp); cases e
    subst hl
    have hn0 : n = 0 := h.1
    subst hn0
    exact ⟨none, 0, rfl, ⟨rfl, fun h => absurd rfl h⟩, X.refl _, Nat.le_refl _⟩
  · repeat (first
 | (with_reducible first
 | apply CW.seq | apply CW.region | apply CW.block | apply CW.ret | apply CW.skip | apply CW.label | apply CW.exit
 | apply W.nil | apply Fin.seq | apply Fin.then_ret | apply Fin.then_exit | apply Fin.blk_ret | apply Fin.blk_normal | apply Fin.blk_here)
 | (with_reducible first | refine S.move ?_ | refine S.assign ?_ | refine S.pickT ?_ | refine S.pickF ?_ | refine S.lss ?_ | refine S.gtr ?_ | refine S.leq ?_ | refine S.geq ?_ | refine S.eqT ?_ | refine S.neF ?_ | refine S.eql ?_ | refine S.neq ?_ | refine S.add ?_ | refine S.sub ?_ | refine S.mul ?_ | refine S.conv ?_ | refine S.shr1 ?_ | refine S.neg ?_ | refine S.not ?_ | refine S.extract ?_ | refine S.len ?_ | refine S.fld ?_ | refine S.index ?_ | refine S.skp ?_ | refine S.sliceTo ?_ | refine S.sliceFrom ?_ | refine S.eqNil ?_ | refine S.eqbT ?_ | refine S.nebF ?_ | refine S.eqb ?_ | refine S.neb ?_)
 | (with_reducible first | refine S.nc ?_ | refine S.fld ?_ (h1 := fHeapL) | refine S.fld ?_ (h1 := fHeapM) | refine S.fld ?_ (h1 := fQueueH) | refine S.eqP ?_ | refine S.neP ?_ | refine S.quo ?_ | refine S.mkP ?_)
 | ((with_reducible apply CW.cond_true); exact rfl)
 | ((with_reducible apply CW.cond_false); exact rfl)
 | ((with_reducible apply Fin.blk_far); exact rfl))
    refine W.newBlk (d := some 5) (mk := fun b => .slice (some ⟨b, 0, none⟩) 0 0) (cs := []) (op_buildSlice Tryd.underlying28 zI64' rfl rfl (by rfl) rfl (by simp) rfl rfl) (by rfl) (by rfl) ?_
    intro b w1 hx1 hb hB
    repeat (first
 | (with_reducible first
 | apply CW.seq | apply CW.region | apply CW.block | apply CW.ret | apply CW.skip | apply CW.label | apply CW.exit
 | apply W.nil | apply Fin.seq | apply Fin.then_ret | apply Fin.then_exit | apply Fin.blk_ret | apply Fin.blk_normal | apply Fin.blk_here)
 | (with_reducible first | refine S.move ?_ | refine S.assign ?_ | refine S.pickT ?_ | refine S.pickF ?_ | refine S.lss ?_ | refine S.gtr ?_ | refine S.leq ?_ | refine S.geq ?_ | refine S.eqT ?_ | refine S.neF ?_ | refine S.eql ?_ | refine S.neq ?_ | refine S.add ?_ | refine S.sub ?_ | refine S.mul ?_ | refine S.conv ?_ | refine S.shr1 ?_ | refine S.neg ?_ | refine S.not ?_ | refine S.extract ?_ | refine S.len ?_ | refine S.fld ?_ | refine S.index ?_ | refine S.skp ?_ | refine S.sliceTo ?_ | refine S.sliceFrom ?_ | refine S.eqNil ?_ | refine S.eqbT ?_ | refine S.nebF ?_ | refine S.eqb ?_ | refine S.neb ?_)
 | (with_reducible first | refine S.nc ?_ | refine S.fld ?_ (h1 := fHeapL) | refine S.fld ?_ (h1 := fHeapM) | refine S.fld ?_ (h1 := fQueueH) | refine S.eqP ?_ | refine S.neP ?_ | refine S.quo ?_ | refine S.mkP ?_)
 | ((with_reducible apply CW.cond_true); exact rfl)
 | ((with_reducible apply CW.cond_false); exact rfl)
 | ((with_reducible apply Fin.blk_far); exact rfl))
    have h1 : IS w1 w1.heap.size A n l := (h.below hx1).more hx1.le
    obtain ⟨A', c', w2, hrun, hR, hx2, hc'⟩ := run_append_I hB hb h1 hn (c := c) 28
    refine W.makes (d := some 7) (v := .slice A' n c') (w' := w2) (fun ev he d pos aft g => by
      have he1 := he (.tmp 5) _ (by rfl : opv _ _ = some (.slice (some ⟨b, 0, none⟩) 0 0))
      have he2 := he (.tmp 6) _ (by rfl : opv _ _ = some (.slice A n c))
      simp [execOp, resolve, invoke, builtin, he1, he2, hrun]) (by rfl) (by rfl) ?_
    repeat (first
 | (with_reducible first
 | apply CW.seq | apply CW.region | apply CW.block | apply CW.ret | apply CW.skip | apply CW.label | apply CW.exit
 | apply W.nil | apply Fin.seq | apply Fin.then_ret | apply Fin.then_exit | apply Fin.blk_ret | apply Fin.blk_normal | apply Fin.blk_here)
 | (with_reducible first | refine S.move ?_ | refine S.assign ?_ | refine S.pickT ?_ | refine S.pickF ?_ | refine S.lss ?_ | refine S.gtr ?_ | refine S.leq ?_ | refine S.geq ?_ | refine S.eqT ?_ | refine S.neF ?_ | refine S.eql ?_ | refine S.neq ?_ | refine S.add ?_ | refine S.sub ?_ | refine S.mul ?_ | refine S.conv ?_ | refine S.shr1 ?_ | refine S.neg ?_ | refine S.not ?_ | refine S.extract ?_ | refine S.len ?_ | refine S.fld ?_ | refine S.index ?_ | refine S.skp ?_ | refine S.sliceTo ?_ | refine S.sliceFrom ?_ | refine S.eqNil ?_ | refine S.eqbT ?_ | refine S.nebF ?_ | refine S.eqb ?_ | refine S.neb ?_)
 | (with_reducible first | refine S.nc ?_ | refine S.fld ?_ (h1 := fHeapL) | refine S.fld ?_ (h1 := fHeapM) | refine S.fld ?_ (h1 := fQueueH) | refine S.eqP ?_ | refine S.neP ?_ | refine S.quo ?_ | refine S.mkP ?_)
 | ((with_reducible apply CW.cond_true); exact rfl)
 | ((with_reducible apply CW.cond_false); exact rfl)
 | ((with_reducible apply Fin.blk_far); exact rfl))
    (with_reducible apply R.r1); exact rfl; exact rfl
    exact ⟨A', c', rfl, hR, hx1.trans hx2, hc'⟩
theorem szI64s : (Tryd.prog.info? 28).map (·.size) = some (0 + 1) := by kernel_rfl
theorem copied_calls (p : PV) (l : List Int) (w : World) (h : IS w w.heap.size p.rA p.rn l) (hn : p.rn ≤ 1000) :
    CallsR Tryd.prog 25 [p.v] w fun v w' => ∃ A' c', v = (p.with A' p.rn c').v ∧ RqB w' w.heap.size A' p.rn l ∧ X w w' := by
  refine enter1 Tryd.func25 rfl Tryd.ntmps25 rfl ?_
  repeat (first
 | (with_reducible first
 | apply CW.seq | apply CW.region | apply CW.block | apply CW.ret | apply CW.skip | apply CW.label | apply CW.exit
 | apply W.nil | apply Fin.seq | apply Fin.then_ret | apply Fin.then_exit | apply Fin.blk_ret | apply Fin.blk_normal | apply Fin.blk_here)
 | (with_reducible first | refine S.move ?_ | refine S.assign ?_ | refine S.pickT ?_ | refine S.pickF ?_ | refine S.lss ?_ | refine S.gtr ?_ | refine S.leq ?_ | refine S.geq ?_ | refine S.eqT ?_ | refine S.neF ?_ | refine S.eql ?_ | refine S.neq ?_ | refine S.add ?_ | refine S.sub ?_ | refine S.mul ?_ | refine S.conv ?_ | refine S.shr1 ?_ | refine S.neg ?_ | refine S.not ?_ | refine S.extract ?_ | refine S.len ?_ | refine S.fld ?_ | refine S.index ?_ | refine S.skp ?_ | refine S.sliceTo ?_ | refine S.sliceFrom ?_ | refine S.eqNil ?_ | refine S.eqbT ?_ | refine S.nebF ?_ | refine S.eqb ?_ | refine S.neb ?_)
 | (with_reducible first | refine S.nc ?_ | refine S.fld ?_ (h1 := fHeapL) | refine S.fld ?_ (h1 := fHeapM) | refine S.fld ?_ (h1 := fQueueH) | refine S.eqP ?_ | refine S.neP ?_ | refine S.quo ?_ | refine S.mkP ?_)
 | ((with_reducible apply CW.cond_true); exact rfl)
 | ((with_reducible apply CW.cond_false); exact rfl)
 | ((with_reducible apply Fin.blk_far); exact rfl))
  refine W.newBlk (d := some 1) (mk := fun b => .pointer (some ⟨b, 0, none⟩)) (cs := p.cs) (op_box (by rfl) (by rfl)) (by rfl) (by rfl) ?_
  intro b1 w1 hx1 hb1 hB1
  refine W.newBlk (d := some 2) (mk := fun b => .pointer (some ⟨b, 0, none⟩)) (cs := PV.zero.cs) (op_alloc' zPod rfl) (by rfl) (by rfl) ?_
  intro b2 w2 hx2 hb2 hB2
  have hne : b1 ≠ b2 := by have := hB1.lt; omega
  have hB1 := hB1.x hx2
  have hx := hx1.trans hx2
  have hl1 := hB1.lt
  have hl2 := hB2.lt
  repeat (first
 | (with_reducible first
 | apply CW.seq | apply CW.region | apply CW.block | apply CW.ret | apply CW.skip | apply CW.label | apply CW.exit
 | apply W.nil | apply Fin.seq | apply Fin.then_ret | apply Fin.then_exit | apply Fin.blk_ret | apply Fin.blk_normal | apply Fin.blk_here)
 | (with_reducible first | refine S.move ?_ | refine S.assign ?_ | refine S.pickT ?_ | refine S.pickF ?_ | refine S.lss ?_ | refine S.gtr ?_ | refine S.leq ?_ | refine S.geq ?_ | refine S.eqT ?_ | refine S.neF ?_ | refine S.eql ?_ | refine S.neq ?_ | refine S.add ?_ | refine S.sub ?_ | refine S.mul ?_ | refine S.conv ?_ | refine S.shr1 ?_ | refine S.neg ?_ | refine S.not ?_ | refine S.extract ?_ | refine S.len ?_ | refine S.fld ?_ | refine S.index ?_ | refine S.skp ?_ | refine S.sliceTo ?_ | refine S.sliceFrom ?_ | refine S.eqNil ?_ | refine S.eqbT ?_ | refine S.nebF ?_ | refine S.eqb ?_ | refine S.neb ?_)
 | (with_reducible first | refine S.nc ?_ | refine S.fld ?_ (h1 := fHeapL) | refine S.fld ?_ (h1 := fHeapM) | refine S.fld ?_ (h1 := fQueueH) | refine S.eqP ?_ | refine S.neP ?_ | refine S.quo ?_ | refine S.mkP ?_)
 | ((with_reducible apply CW.cond_true); exact rfl)
 | ((with_reducible apply CW.cond_false); exact rfl)
 | ((with_reducible apply Fin.blk_far); exact rfl))
  ((with_reducible apply S.ld); exact rfl; (with_reducible first | exact oneInt | exact oneI64s | exact oneBool | exact oneI64 | exact onePods | exact oneMap); (exact hB1.cell rfl); exact rfl; exact rfl)
  refine S.cl (op_call ent33 (by rfl) (by rfl)) (by rfl) (by rfl) (CloneI_calls p.rA p.rn p.rc l w2 ((h.below hx).more hx.le) hn) ?_
  rintro _ w3 ⟨A', c', rfl, hR, hx3, hc'⟩
  have hB1 := hB1.x hx3
  have hB2 := hB2.x hx3
  have hX3 := hx.trans hx3
  repeat (first
 | (with_reducible first
 | apply CW.seq | apply CW.region | apply CW.block | apply CW.ret | apply CW.skip | apply CW.label | apply CW.exit
 | apply W.nil | apply Fin.seq | apply Fin.then_ret | apply Fin.then_exit | apply Fin.blk_ret | apply Fin.blk_normal | apply Fin.blk_here)
 | (with_reducible first | refine S.move ?_ | refine S.assign ?_ | refine S.pickT ?_ | refine S.pickF ?_ | refine S.lss ?_ | refine S.gtr ?_ | refine S.leq ?_ | refine S.geq ?_ | refine S.eqT ?_ | refine S.neF ?_ | refine S.eql ?_ | refine S.neq ?_ | refine S.add ?_ | refine S.sub ?_ | refine S.mul ?_ | refine S.conv ?_ | refine S.shr1 ?_ | refine S.neg ?_ | refine S.not ?_ | refine S.extract ?_ | refine S.len ?_ | refine S.fld ?_ | refine S.index ?_ | refine S.skp ?_ | refine S.sliceTo ?_ | refine S.sliceFrom ?_ | refine S.eqNil ?_ | refine S.eqbT ?_ | refine S.nebF ?_ | refine S.eqb ?_ | refine S.neb ?_)
 | (with_reducible first | refine S.nc ?_ | refine S.fld ?_ (h1 := fHeapL) | refine S.fld ?_ (h1 := fHeapM) | refine S.fld ?_ (h1 := fQueueH) | refine S.eqP ?_ | refine S.neP ?_ | refine S.quo ?_ | refine S.mkP ?_)
 | ((with_reducible apply CW.cond_true); exact rfl)
 | ((with_reducible apply CW.cond_false); exact rfl)
 | ((with_reducible apply Fin.blk_far); exact rfl))
  refine S.stC (by rfl) (by rfl) hB1 (by simp [PV.cs]) rfl rfl szI64s (by rfl) fun w4 hg4 hB4 => ?_
  have hB2 := hg4.blk hB2 hne.symm
  have hB4 : Blk w4 b1 30 (p.with A' p.rn c').cs := hB4
  have hb1l : w.heap.size ≤ b1 := hb1
  have hX4 : X w w4 := below_g hX3 hg4 hX3.le hb1l
  repeat (first
 | (with_reducible first
 | apply CW.seq | apply CW.region | apply CW.block | apply CW.ret | apply CW.skip | apply CW.label | apply CW.exit
 | apply W.nil | apply Fin.seq | apply Fin.then_ret | apply Fin.then_exit | apply Fin.blk_ret | apply Fin.blk_normal | apply Fin.blk_here)
 | (with_reducible first | refine S.move ?_ | refine S.assign ?_ | refine S.pickT ?_ | refine S.pickF ?_ | refine S.lss ?_ | refine S.gtr ?_ | refine S.leq ?_ | refine S.geq ?_ | refine S.eqT ?_ | refine S.neF ?_ | refine S.eql ?_ | refine S.neq ?_ | refine S.add ?_ | refine S.sub ?_ | refine S.mul ?_ | refine S.conv ?_ | refine S.shr1 ?_ | refine S.neg ?_ | refine S.not ?_ | refine S.extract ?_ | refine S.len ?_ | refine S.fld ?_ | refine S.index ?_ | refine S.skp ?_ | refine S.sliceTo ?_ | refine S.sliceFrom ?_ | refine S.eqNil ?_ | refine S.eqbT ?_ | refine S.nebF ?_ | refine S.eqb ?_ | refine S.neb ?_)
 | (with_reducible first | refine S.nc ?_ | refine S.fld ?_ (h1 := fHeapL) | refine S.fld ?_ (h1 := fHeapM) | refine S.fld ?_ (h1 := fQueueH) | refine S.eqP ?_ | refine S.neP ?_ | refine S.quo ?_ | refine S.mkP ?_)
 | ((with_reducible apply CW.cond_true); exact rfl)
 | ((with_reducible apply CW.cond_false); exact rfl)
 | ((with_reducible apply Fin.blk_far); exact rfl))
  refine S.lds (cs := (p.with A' p.rn c').cs) (by rfl) stPod (fun k u hk => by rw [Nat.zero_add]; exact hB4.cell hk) (by rfl) (by rfl) ?_
  refine S.stB (vs := (p.with A' p.rn c').cs) (by rfl) (by rfl) rfl hB2 rfl szPod9 (PV.one _) (by rfl) ?_
  intro w5 hg5 hB5
  have hb2l : w.heap.size ≤ b2 := by have := hx1.le; omega
  have hX5 : X w w5 := below_g hX4 hg5 hX4.le hb2l
  repeat (first
 | (with_reducible first
 | apply CW.seq | apply CW.region | apply CW.block | apply CW.ret | apply CW.skip | apply CW.label | apply CW.exit
 | apply W.nil | apply Fin.seq | apply Fin.then_ret | apply Fin.then_exit | apply Fin.blk_ret | apply Fin.blk_normal | apply Fin.blk_here)
 | (with_reducible first | refine S.move ?_ | refine S.assign ?_ | refine S.pickT ?_ | refine S.pickF ?_ | refine S.lss ?_ | refine S.gtr ?_ | refine S.leq ?_ | refine S.geq ?_ | refine S.eqT ?_ | refine S.neF ?_ | refine S.eql ?_ | refine S.neq ?_ | refine S.add ?_ | refine S.sub ?_ | refine S.mul ?_ | refine S.conv ?_ | refine S.shr1 ?_ | refine S.neg ?_ | refine S.not ?_ | refine S.extract ?_ | refine S.len ?_ | refine S.fld ?_ | refine S.index ?_ | refine S.skp ?_ | refine S.sliceTo ?_ | refine S.sliceFrom ?_ | refine S.eqNil ?_ | refine S.eqbT ?_ | refine S.nebF ?_ | refine S.eqb ?_ | refine S.neb ?_)
 | (with_reducible first | refine S.nc ?_ | refine S.fld ?_ (h1 := fHeapL) | refine S.fld ?_ (h1 := fHeapM) | refine S.fld ?_ (h1 := fQueueH) | refine S.eqP ?_ | refine S.neP ?_ | refine S.quo ?_ | refine S.mkP ?_)
 | ((with_reducible apply CW.cond_true); exact rfl)
 | ((with_reducible apply CW.cond_false); exact rfl)
 | ((with_reducible apply Fin.blk_far); exact rfl))
  refine R.c1 rfl (by rfl) hB5 stPod ⟨A', c', rfl, ⟨hR.1, fun hne2 => ?_⟩, hX5⟩
  obtain ⟨b, sp, e1, e2, e3⟩ := hR.2 hne2
  exact ⟨b, sp, e1, by have := hx.le; omega, (show G b2 w4 w5 from hg5).blk (hg4.blk e3 (by omega)) (by omega)⟩

end Go.Proofs.YtmilpjkjcanghaaDoor

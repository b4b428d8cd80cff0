/- A map from int to a parked pod, of the call's own: its entries in the order of their births. -/
import Derived.Test.YtmilpjkjcanghaaDoorPB2
import Derived.MapKept
import Derived.Maps.RangeRun
namespace Go.Proofs.YtmilpjkjcanghaaDoor
open Go.RowKit
set_option linter.unusedVariables false
set_option linter.unusedSimpArgs false

/-- An entry: the pod, its reason, its birth. -/
structure PE where
  p : PV
  r : Int
  b : Nat
def PE.cs (t : PE) : List Value := t.p.cs ++ [.int .i64 t.r]
def PE.v (t : PE) : Value := .agg t.cs.toArray
def PE.e (t : PE) : MapEntry := ⟨.int .i64 t.p.id, t.v, t.b⟩
def pents (M : List PE) : Array MapEntry := (M.map PE.e).toArray
def zeroPk : Value := .agg (PV.zero.cs ++ [Value.int .i64 0]).toArray

def findE (k : Int) : List PE → Nat → Option (Nat × Value)
  | [], _ => none
  | t :: r, i => if k = t.p.id then some (i, t.v) else findE k r (i + 1)
theorem findE_some {k : Int} : ∀ {M : List PE} {j i : Nat} {v : Value}, findE k M j = some (i, v) → ∃ t, j ≤ i ∧ M[i - j]? = some t ∧ t.p.id = k ∧ v = t.v
  | [], j, i, v, h => by simp [findE] at h
  | t :: r, j, i, v, h => by
    simp only [findE] at h
    split at h
    · rename_i hk
      cases h
      exact ⟨t, Nat.le_refl _, by simp, hk.symm, rfl⟩
    · obtain ⟨u, h1, h2, h3, h4⟩ := findE_some h
      refine ⟨u, by omega, ?_, h3, h4⟩
      rw [show i - j = (i - (j + 1)) + 1 from by omega]
      simpa using h2
theorem findE_none {k : Int} : ∀ {M : List PE} {j : Nat}, findE k M j = none → ∀ t ∈ M, t.p.id ≠ k
  | [], j, h, t, ht => by cases ht
  | u :: r, j, h, t, ht => by
    simp only [findE] at h
    split at h
    · cases h
    · rename_i hk
      rcases List.mem_cons.1 ht with rfl | ht
      · exact fun e => hk e.symm
      · exact findE_none h t ht
theorem findNow_pents (k : Int) (d : IntKind) : ∀ (M : List PE) (i : Nat), Instr.findNow (.int d) (.int .i64 k) (M.map PE.e) i = some (findE k M i)
  | [], i => rfl
  | t :: r, i => by
    simp only [List.map_cons, Instr.findNow, PE.e, Instr.sameNow, if_true]
    by_cases h : k = t.p.id
    · simp [h, findE]
    · have : (k == t.p.id) = false := by simpa using h
      simp only [this, findE, if_neg h]
      exact findNow_pents k d r (i + 1)

/-- The map's entries. -/
structure LM (M : List PE) (clock : Nat) : Prop where
  keys : M.Pairwise fun s t => s.p.id ≠ t.p.id
  births : M.Pairwise fun s t => s.b ≠ t.b
  clock : ∀ t ∈ M, t.b < clock
theorem LM.nil (c : Nat) : LM [] c := ⟨List.Pairwise.nil, List.Pairwise.nil, fun t ht => by cases ht⟩
def hasE (M : List PE) (k : Int) : Bool := M.any fun t => t.p.id == k
def dropE (M : List PE) (k : Int) : List PE := M.filter fun t => !(t.p.id == k)
theorem LM.add {M : List PE} {c : Nat} (h : LM M c) {p : PV} (hp : hasE M p.id = false) (r : Int) : LM (M ++ [⟨p, r, c⟩]) (c + 1) := by
  have hno : ∀ t ∈ M, t.p.id ≠ p.id := fun t ht e => by
    unfold hasE at hp
    rw [List.any_eq_false] at hp
    exact hp t ht (by simpa using e)
  refine ⟨List.pairwise_append.2 ⟨h.keys, List.pairwise_singleton _ _, fun x hx y hy => by rw [List.mem_singleton.1 hy]; exact hno x hx⟩,
    List.pairwise_append.2 ⟨h.births, List.pairwise_singleton _ _, fun x hx y hy => by rw [List.mem_singleton.1 hy]; have := h.clock x hx; simp only; omega⟩, fun x hx => ?_⟩
  rcases List.mem_append.1 hx with hx | hx
  · have := h.clock x hx; omega
  · rw [List.mem_singleton.1 hx]; simp
theorem LM.del {M : List PE} {c : Nat} (h : LM M c) (k : Int) : LM (dropE M k) c :=
  ⟨h.keys.sublist List.filter_sublist, h.births.sublist List.filter_sublist, fun t ht => h.clock t (List.mem_filter.1 ht).1⟩
theorem erase_drop {k : Int} : ∀ {M : List PE} {i : Nat} {t : PE}, M.Pairwise (fun s t => s.p.id ≠ t.p.id) → M[i]? = some t → t.p.id = k → M.eraseIdx i = dropE M k
  | [], i, t, _, h, _ => by simp at h
  | u :: r, 0, t, hM, h, hk => by
    simp at h
    subst h
    obtain ⟨h1, h2⟩ := List.pairwise_cons.1 hM
    have : dropE (u :: r) k = r := by
      unfold dropE
      rw [List.filter_cons_of_neg (by simpa using hk)]
      exact List.filter_eq_self.2 fun a ha => by
        have := h1 a ha
        rw [hk] at this
        simpa using fun e => this e.symm
    rw [this]; rfl
  | u :: r, i + 1, t, hM, h, hk => by
    obtain ⟨h1, h2⟩ := List.pairwise_cons.1 hM
    have ht : r[i]? = some t := by simpa using h
    have hne := h1 t (List.mem_of_getElem? ht)
    rw [hk] at hne
    have : dropE (u :: r) k = u :: dropE r k := by
      unfold dropE
      rw [List.filter_cons_of_pos (by simpa using hne)]
    rw [this, List.eraseIdx_cons_succ, erase_drop h2 ht hk]
theorem drop_no {M : List PE} {k : Int} (h : hasE M k = false) : dropE M k = M := by
  unfold dropE
  refine List.filter_eq_self.2 fun a ha => ?_
  unfold hasE at h
  rw [List.any_eq_false] at h
  have := h a ha
  simpa using this
theorem findE_has {M : List PE} {k : Int} : (findE k M 0).isSome = hasE M k := by
  unfold hasE
  cases hF : findE k M 0 with
  | none =>
    symm
    rw [Option.isSome_none, List.any_eq_false]
    intro t ht
    simpa using findE_none hF t ht
  | some p =>
    obtain ⟨i, u⟩ := p
    obtain ⟨t, _, h2, h3, _⟩ := findE_some hF
    symm
    rw [Option.isSome_some, List.any_eq_true]
    exact ⟨t, List.mem_of_getElem? h2, by simpa using h3⟩
/-- What is at a key. -/
def atE (M : List PE) (k : Int) : Option PE := M.find? fun t => t.p.id == k
theorem findE_at : ∀ (M : List PE) (k : Int) (i : Nat), (findE k M i).map (·.2) = (atE M k).map PE.v
  | [], k, i => rfl
  | t :: r, k, i => by
    unfold findE atE
    by_cases h : k = t.p.id
    · subst h; simp
    · rw [if_neg h, List.find?_cons_of_neg (by simpa using fun e => h e.symm)]
      exact findE_at r k (i + 1)
theorem atE_has {M : List PE} {k : Int} : (atE M k).isSome = hasE M k := by
  unfold atE hasE
  rw [Bool.eq_iff_iff, List.find?_isSome, List.any_eq_true]
/-- Block r is the map. -/
def PB (w : World) (r : Nat) (M : List PE) (clock : Nat) : Prop := w.heap[r]? = some (.map (pents M) clock)
theorem PB.lt {w : World} {r clock : Nat} {M : List PE} (h : PB w r M clock) : r < w.heap.size := (Array.getElem?_eq_some_iff.1 h).1
theorem PB.x {w w' : World} {r clock : Nat} {M : List PE} (h : PB w r M clock) (hx : X w w') : PB w' r M clock := (hx.block r h.lt).trans h
def putObj (w : World) (r : Nat) (o : Obj) : World := { w with heap := w.heap.setIfInBounds r o }
theorem PB.set {w : World} {r clock c' : Nat} {M M' : List PE} (h : PB w r M clock) : PB (putObj w r (.map (pents M') c')) r M' c' := by
  have := h.lt
  simp [PB, putObj, this]
theorem G.putObj {w : World} {r : Nat} {o : Obj} : G r w (putObj w r o) :=
  ⟨rfl, rfl, rfl, by simp [Go.Proofs.YtmilpjkjcanghaaDoor.putObj], fun k hk hne => by
    have : r ≠ k := by intro e; subst e; exact hne rfl
    simp [Go.Proofs.YtmilpjkjcanghaaDoor.putObj, Array.getElem?_setIfInBounds, this]⟩

section
variable {P : Program} {ty mt kt et : TypeId} {w : World} {r clock : Nat} {M : List PE} {k : Int} {v : Value} {dk : IntKind}

theorem run_findKeyE (hk : P.underlying kt = some (.int dk)) : (Instr.findKey kt (.int .i64 k) (pents M).toList).run P w = .ok (findE k M 0) w := by
  have h : (pents M).toList = M.map PE.e := by simp [pents]
  unfold Instr.findKey
  rw [h]
  simp [run_underlying hk, findNow_pents k dk M 0]
theorem run_checkKeyE (e : Bool) (hk : P.underlying kt = some (.int dk)) : (Instr.checkKey e 10000 kt (.int .i64 k)).run P w = .ok () w := by
  unfold Instr.checkKey
  simp [run_underlying hk]
theorem run_getPB (h : PB w r M clock) : (getObj r).run P w = .ok (.map (pents M) clock) w := by simp [getObj, Sem.run, show w.heap[r]? = _ from h]
theorem run_putObj {es : Array MapEntry} {cl : Nat} (h : w.heap[r]? = some (.map es cl)) (o : Obj) : (setObj r o).run P w = .ok () (putObj w r o) := by
  simp [setObj, Sem.run, h, putObj]

theorem run_lookupE (hm : P.underlying mt = some (.map kt et)) (hk : P.underlying kt = some (.int dk)) (hz : (P.info? et).map (·.zero) = some (some zeroPk)) (h : PB w r M clock) :
    (Instr.lookup mt (.map (some r)) (.int .i64 k) true).run P w = .ok (.tuple #[((atE M k).map PE.v).getD zeroPk, .bool (hasE M k)]) w := by
  have hf := findE_at M k 0
  have hh := findE_has (M := M) (k := k)
  unfold Instr.lookup
  simp only [Sem.run_bind, run_underlying hm, Result.andThen_ok, run_getPB h, Sem.run_pure, run_checkKeyE (kt := kt) (dk := dk) _ hk, run_findKeyE (M := M) hk]
  cases hF : findE k M 0 with
  | none =>
    rw [hF] at hf hh
    cases hi : P.info? et with
    | none => simp [hi] at hz
    | some i =>
      have hz' : i.zero = some zeroPk := by rw [hi] at hz; simpa using hz
      simp only [Option.map_none] at hf
      simp only [Option.isSome_none] at hh
      simp [zeroValue, typeInfo, hi, hz', ← hf, ← hh]
  | some p =>
    obtain ⟨i, u⟩ := p
    rw [hF] at hf hh
    simp only [Option.map_some] at hf
    simp only [Option.isSome_some] at hh
    simp [← hf, ← hh]

theorem pents_push (t : PE) : (pents M).push t.e = pents (M ++ [t]) := by simp [pents]
theorem map_eraseE (f : PE → MapEntry) : ∀ (M : List PE) (i : Nat), (M.map f).eraseIdx i = (M.eraseIdx i).map f
  | [], i => by simp
  | t :: r, 0 => by simp
  | t :: r, i + 1 => by simp [map_eraseE f r i]
theorem pents_erase (i : Nat) : (pents M).eraseIdxIfInBounds i = pents (M.eraseIdx i) := by
  simp [pents, map_eraseE]

/-- m[p.id] = v, where there is none yet -/
theorem run_mapAddE {p : PV} {q : Int} (hm : P.underlying mt = some (.map kt et)) (hk : P.underlying kt = some (.int dk)) (h : PB w r M clock) (hn : hasE M p.id = false) :
    (Instr.mapUpdate mt (.map (some r)) (.int .i64 p.id) (PE.v ⟨p, q, clock⟩)).run P w = .ok () (putObj w r (.map (pents (M ++ [⟨p, q, clock⟩])) (clock + 1))) := by
  have hh := findE_has (M := M) (k := p.id)
  rw [hn] at hh
  have hF : findE p.id M 0 = none := by
    cases hF : findE p.id M 0 with
    | none => rfl
    | some x => rw [hF] at hh; cases hh
  unfold Instr.mapUpdate
  simp only [Sem.run_bind, run_underlying hm, Result.andThen_ok, run_getPB h, run_checkKeyE (kt := kt) (dk := dk) _ hk, run_findKeyE (M := M) hk, hF]
  simp only [run_putObj h]
  rw [show ({ key := .int .i64 p.id, val := PE.v ⟨p, q, clock⟩, born := clock } : MapEntry) = (⟨p, q, clock⟩ : PE).e from rfl, pents_push]

/-- delete -/
theorem run_deleteE (hm : P.underlying mt = some (.map kt et)) (hk : P.underlying kt = some (.int dk)) (h : PB w r M clock) (hM : LM M clock) (ty : TypeId) :
    (Builtin.delete_ #[mt, kt] ty #[.map (some r), .int .i64 k]).run P w = .ok (.tuple #[]) (putObj w r (.map (pents (dropE M k)) clock)) := by
  have hh := findE_has (M := M) (k := k)
  unfold Builtin.delete_
  simp only [List.getElem?_toArray, List.getElem?_cons_zero, List.getElem?_cons_succ, Sem.run_bind, run_underlying hm, Result.andThen_ok, run_getPB h, run_checkKeyE (kt := kt) (dk := dk) _ hk, run_findKeyE (M := M) hk]
  cases hF : findE k M 0 with
  | none =>
    rw [hF] at hh
    rw [drop_no hh.symm]
    simp only [Sem.run_bind, run_putObj h, Result.andThen_ok]; rfl
  | some p =>
    obtain ⟨i, u⟩ := p
    obtain ⟨t, _, h2, h3, h4⟩ := findE_some hF
    rw [Nat.sub_zero] at h2
    rw [← erase_drop hM.keys h2 h3]
    simp only [Sem.run_bind, run_putObj h, Result.andThen_ok, pents_erase]; rfl

/-- clear -/
theorem run_clearE (hm : P.underlying mt = some (.map kt et)) (h : PB w r M clock) (ty : TypeId) :
    (Builtin.clear_ #[mt] ty #[.map (some r)]).run P w = .ok (.tuple #[]) (putObj w r (.map (pents []) clock)) := by
  unfold Builtin.clear_
  simp only [List.getElem?_toArray, List.getElem?_cons_zero, Sem.run_bind, run_underlying hm, Result.andThen_ok, run_getPB h, run_putObj h]
  rfl

/-! ## Ranging -/

/-- Block it is an iterator over map r, whose entries are M; those of T are still to come. -/
def IterB (w : World) (it r : Nat) (M : List PE) (clock : Nat) (T : List PE) : Prop :=
  ∃ seen c0, w.heap[it]? = some (.mapIter (some r) clock seen c0) ∧ clock ≤ c0 ∧ T = M.filter fun t => !seen.contains t.b
theorem IterB.lt {w : World} {it r clock : Nat} {M T : List PE} (h : IterB w it r M clock T) : it < w.heap.size := by
  obtain ⟨_, _, h, _⟩ := h
  exact (Array.getElem?_eq_some_iff.1 h).1
theorem IterB.x {w w' : World} {it r clock : Nat} {M T : List PE} (h : IterB w it r M clock T) (hx : X w w') : IterB w' it r M clock T := by
  have hl := h.lt
  obtain ⟨s, c, h1, h2⟩ := h
  exact ⟨s, c, (hx.block it hl).trans h1, h2⟩
theorem run_rangeE (hm : P.underlying mt = some (.map kt et)) (h : PB w r M clock) :
    (Instr.range mt (.map (some r))).run P w = .ok (.pointer (some ⟨w.heap.size, 0, none⟩)) (w.alloc (.mapIter (some r) clock #[] clock)) ∧ IterB (w.alloc (.mapIter (some r) clock #[] clock)) w.heap.size r M clock M := by
  refine ⟨?_, #[], clock, heap_alloc_new w _, Nat.le_refl _, ?_⟩
  · unfold Instr.range
    simp [Sem.run_bind, run_underlying hm, run_getPB h, newObj, Sem.run]
  · symm
    exact List.filter_eq_self.2 fun t _ => by simp

theorem leftOf_pents (seen : Array Nat) : (leftOf (pents M) seen).toList = (M.filter fun t => !seen.contains t.b).map PE.e := by
  unfold leftOf pents
  simp only [Array.toList_filter, List.toList_toArray, List.filter_map]
  rfl

theorem run_nextE {it : Nat} {T : List PE} (h : PB w r M clock) (hM : LM M clock) (hI : IterB w it r M clock T) :
    (T = [] ∧ (Instr.next (.pointer (some ⟨it, 0, none⟩)) false ty).run P w = .ok (.tuple #[.bool false]) w) ∨
    ∃ t ∈ T, ∃ w', (Instr.next (.pointer (some ⟨it, 0, none⟩)) false ty).run P w = .ok (.tuple #[.bool true, .int .i64 t.p.id, t.v]) w' ∧ G it w w' ∧ IterB w' it r M clock (T.filter fun x => !(x.b == t.b)) ∧
      (∀ w'', w''.heap[it]? = w'.heap[it]? → PB w'' r M clock → (Instr.entry (.pointer (some ⟨it, 0, none⟩))).run P w'' = .ok (.tuple #[.int .i64 t.p.id, t.v]) w'') := by
  obtain ⟨seen, c0, h1, h2, rfl⟩ := hI
  have hold : ∀ x ∈ (pents M).toList, x.born < clock := fun x hx => by
    have hx' : x ∈ M.map PE.e := by simpa [pents] using hx
    obtain ⟨t, ht, rfl⟩ := List.mem_map.1 hx'
    exact hM.clock t ht
  have hnd : ((pents M).toList.map (·.born)).Nodup := by
    have : (pents M).toList.map (·.born) = M.map (·.b) := by simp [pents, PE.e]
    rw [this]
    exact List.pairwise_map.2 hM.births
  rcases run_next_at (P := P) w ty it r clock c0 seen (pents M) clock h1 h hold h2 with ⟨hs, hrun⟩ | ⟨e, he, w1, hw1, hrun⟩
  · left
    refine ⟨?_, hrun⟩
    have := leftOf_pents (M := M) seen
    have h3 : (leftOf (pents M) seen).toList = [] := List.eq_nil_of_length_eq_zero (by simpa using hs)
    rw [h3] at this
    exact List.map_eq_nil_iff.1 this.symm
  · right
    rw [leftOf_pents] at he
    obtain ⟨t, ht, rfl⟩ := List.mem_map.1 he
    have hd : w1.heap = w.heap ∧ w1.os = w.os ∧ w1.tape = w.tape ∧ w1.output = w.output := by rcases hw1 with rfl | rfl <;> exact ⟨rfl, rfl, rfl, rfl⟩
    have hit : it < w.heap.size := (Array.getElem?_eq_some_iff.1 h1).1
    refine ⟨t, ht, _, hrun, ⟨hd.2.1, hd.2.2.1, hd.2.2.2, ?_, fun k hk hne => ?_⟩, ⟨seen.push t.b, clock, ?_, Nat.le_refl _, ?_⟩, fun w'' hit'' hPB => ?_⟩
    · simp [ChangeMaps.setBlock, hd.1]
    · have : it ≠ k := by intro e; subst e; exact hne rfl
      simp [ChangeMaps.setBlock, hd.1, Array.getElem?_setIfInBounds, this]
    · simp [ChangeMaps.setBlock, hd.1, hit]; rfl
    · rw [List.filter_filter]
      refine List.filter_congr fun x _ => ?_
      simp only [Array.contains_push, Bool.not_or]
      rw [Bool.and_comm]
    · have hmem : t ∈ M := (List.mem_filter.1 ht).1
      have hr' : w''.heap[it]? = some (.mapIter (some r) clock (seen.push t.e.born) clock) := by
        rw [hit'']
        simp [ChangeMaps.setBlock, hd.1, hit]
      exact run_entry_at w'' it r clock seen (pents M) clock t.e hr' hPB (by simp [pents]; exact ⟨t, hmem, rfl⟩) hnd
end

end Go.Proofs.YtmilpjkjcanghaaDoor

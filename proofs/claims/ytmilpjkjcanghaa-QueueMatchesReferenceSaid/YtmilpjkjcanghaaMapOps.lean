/- The operations on a map from int to int. -/
import Derived.Test.YtmilpjkjcanghaaMap
namespace Go.Proofs.Ytmilpjkjcanghaa
open Go.RowKit
set_option linter.unusedVariables false
set_option linter.unusedSimpArgs false

/-- Block r is the map. -/
def MB (w : World) (r : Nat) (M : List Ent) (clock : Nat) : Prop := w.heap[r]? = some (.map (entsOf M) clock)
theorem MB.lt {w : World} {r clock : Nat} {M : List Ent} (h : MB w r M clock) : r < w.heap.size := (Array.getElem?_eq_some_iff.1 h).1
theorem MB.x {w w' : World} {r clock : Nat} {M : List Ent} (h : MB w r M clock) (hx : X w w') : MB w' r M clock := (hx.block r h.lt).trans h

def setObj' (w : World) (r : Nat) (o : Obj) : World := { w with heap := w.heap.setIfInBounds r o }
theorem MB.set {w : World} {r clock c' : Nat} {M M' : List Ent} (h : MB w r M clock) : MB (setObj' w r (.map (entsOf M') c')) r M' c' := by
  have := h.lt
  simp [MB, setObj', this]
theorem G.setObj {w : World} {r : Nat} {o : Obj} : G r w (setObj' w r o) :=
  ⟨rfl, rfl, rfl, by simp [setObj'], fun k hk hne => by
    have : r ≠ k := by intro e; subst e; exact hne rfl
    simp [setObj', Array.getElem?_setIfInBounds, this]⟩

section
variable {P : Program} {ty mt kt et : TypeId} {L : Operand → Option Value} {w : World} {r clock : Nat} {M : List Ent} {k v : Int} {dk : IntKind}

theorem run_findKey' (hk : P.underlying kt = some (.int dk)) : (Instr.findKey kt (.int .i64 k) (entsOf M).toList).run P w = .ok (findM k M 0) w := by
  have h : (entsOf M).toList = M.map Ent.e := by simp [entsOf]
  unfold Instr.findKey
  rw [h]
  simp [run_underlying hk, findNow_ents k dk M 0]
theorem run_checkKey' (e : Bool) (hk : P.underlying kt = some (.int dk)) : (Instr.checkKey e 10000 kt (.int .i64 k)).run P w = .ok () w := by
  unfold Instr.checkKey
  simp [run_underlying hk]
theorem run_getMap (h : MB w r M clock) : (getObj r).run P w = .ok (.map (entsOf M) clock) w := by simp [getObj, Sem.run, show w.heap[r]? = _ from h]
theorem run_setMap (h : MB w r M clock) (o : Obj) : (setObj r o).run P w = .ok () (setObj' w r o) := by
  have := h.lt
  simp [setObj, Sem.run, show w.heap[r]? = _ from h, setObj']

theorem run_lookup' (hm : P.underlying mt = some (.map kt et)) (hk : P.underlying kt = some (.int dk)) (hz : (P.info? et).map (·.zero) = some (some (.int .i64 0))) (h : MB w r M clock) {m : Int → Option Int} (ho : MapOk M clock m) (c : Bool) :
    (Instr.lookup mt (.map (some r)) (.int .i64 k) c).run P w = .ok (if c then .tuple #[.int .i64 ((m k).getD 0), .bool (m k).isSome] else .int .i64 ((m k).getD 0)) w := by
  have hf := ho.find k
  unfold Instr.lookup
  simp only [Sem.run_bind, run_underlying hm, Result.andThen_ok, run_getMap h, Sem.run_pure, run_checkKey' (kt := kt) (dk := dk) _ hk, run_findKey' (M := M) hk]
  cases hF : findM k M 0 with
  | none =>
    rw [hF] at hf
    have hn : m k = none := by cases hm' : m k with
      | none => rfl
      | some v => rw [hm'] at hf; cases hf
    cases hi : P.info? et with
    | none => simp [hi] at hz
    | some i =>
      have hz' : i.zero = some (.int .i64 0) := by rw [hi] at hz; simpa using hz
      simp [zeroValue, typeInfo, hi, hz', hn]
  | some p =>
    obtain ⟨i, u⟩ := p
    rw [hF] at hf
    cases hm' : m k with
    | none => rw [hm'] at hf; cases hf
    | some v =>
      rw [hm'] at hf
      simp only [Option.map_some, Option.some.injEq] at hf
      subst hf
      simp

theorem keyStays (k : Int) : (Instr.keyThatStays (.int .i64 k) (.int .i64 k)).run P w = .ok (.int .i64 k) w := by
  simp [Instr.keyThatStays, Instr.sameBits]

theorem ents_get (i : Nat) (t : Ent) (h : M[i]? = some t) : (entsOf M)[i]? = some t.e := by
  simp [entsOf, h]
theorem ents_modify (i : Nat) (t : Ent) (h : M[i]? = some t) (f : MapEntry → MapEntry) (u : Ent) (hf : f t.e = u.e) : (entsOf M).modify i f = entsOf (M.set i u) := by
  apply Array.ext_getElem?
  intro j
  rw [Array.getElem?_modify]
  simp only [entsOf, List.getElem?_toArray, List.getElem?_map, List.getElem?_set]
  have hil : i < M.length := (List.getElem?_eq_some_iff.1 h).1
  by_cases e : i = j
  · subst e
    have hg : M[i] = t := (List.getElem?_eq_some_iff.1 h).2
    simp [h, hf, hil, hg]
  · simp [e]
theorem ents_push (t : Ent) : (entsOf M).push t.e = entsOf (M ++ [t]) := by simp [entsOf]
theorem map_erase (f : Ent → MapEntry) : ∀ (M : List Ent) (i : Nat), (M.map f).eraseIdx i = (M.eraseIdx i).map f
  | [], i => by simp
  | t :: r, 0 => by simp
  | t :: r, i + 1 => by simp [map_erase f r i]
theorem ents_erase (i : Nat) : (entsOf M).eraseIdxIfInBounds i = entsOf (M.eraseIdx i) := by
  simp [entsOf, map_erase]

/-- m[k] = v -/
theorem run_mapUpdate' (hm : P.underlying mt = some (.map kt et)) (hk : P.underlying kt = some (.int dk)) (h : MB w r M clock) {m : Int → Option Int} (ho : MapOk M clock m) :
    ∃ M' c', (Instr.mapUpdate mt (.map (some r)) (.int .i64 k) (.int .i64 v)).run P w = .ok () (setObj' w r (.map (entsOf M') c')) ∧ MapOk M' c' (updM m k (some v)) := by
  have hf := ho.find k
  unfold Instr.mapUpdate
  simp only [Sem.run_bind, run_underlying hm, Result.andThen_ok, run_getMap h, run_checkKey' (kt := kt) (dk := dk) _ hk, run_findKey' (M := M) hk]
  cases hF : findM k M 0 with
  | none =>
    rw [hF] at hf
    have hn : m k = none := by cases hm' : m k with
      | none => rfl
      | some v => rw [hm'] at hf; cases hf
    refine ⟨M ++ [⟨k, v, clock⟩], clock + 1, ?_, ho.add hn v⟩
    simp only [run_setMap h]
    rw [show ({ key := .int .i64 k, val := .int .i64 v, born := clock } : MapEntry) = (⟨k, v, clock⟩ : Ent).e from rfl, ents_push]
  | some p =>
    obtain ⟨i, u⟩ := p
    obtain ⟨t, _, h2, h3, h4⟩ := findM_some hF
    rw [Nat.sub_zero] at h2
    refine ⟨M.set i { t with v := v }, clock, ?_, h3 ▸ ho.put h2 v⟩
    have h5 := ents_get i t h2
    have h6 : ((Option.map (fun x => x.key) (entsOf M)[i]?).getD (.int .i64 k)) = .int .i64 k := by rw [h5]; simp [Ent.e, h3]
    simp only [Sem.run_bind, h6, keyStays, Result.andThen_ok, run_setMap h]
    rw [ents_modify i t h2 _ { t with v := v } (by simp [Ent.e, h3])]

/-- delete -/
theorem run_delete' (hm : P.underlying mt = some (.map kt et)) (hk : P.underlying kt = some (.int dk)) (h : MB w r M clock) {m : Int → Option Int} (ho : MapOk M clock m) (ty : TypeId) :
    ∃ M', (Builtin.delete_ #[mt, kt] ty #[.map (some r), .int .i64 k]).run P w = .ok (.tuple #[]) (setObj' w r (.map (entsOf M') clock)) ∧ MapOk M' clock (updM m k none) := by
  have hf := ho.find k
  unfold Builtin.delete_
  simp only [List.getElem?_toArray, List.getElem?_cons_zero, List.getElem?_cons_succ, Sem.run_bind, run_underlying hm, Result.andThen_ok, run_getMap h, run_checkKey' (kt := kt) (dk := dk) _ hk, run_findKey' (M := M) hk]
  cases hF : findM k M 0 with
  | none =>
    rw [hF] at hf
    have hn : m k = none := by cases hm' : m k with
      | none => rfl
      | some v => rw [hm'] at hf; cases hf
    refine ⟨M, ?_, ?_⟩
    · simp only [Sem.run_bind, run_setMap h, Result.andThen_ok]; rfl
    · have e : updM m k none = m := by
        funext x
        unfold updM
        by_cases hx : x = k
        · rw [if_pos hx, hx, hn]
        · rw [if_neg hx]
      rw [e]; exact ho
  | some p =>
    obtain ⟨i, u⟩ := p
    obtain ⟨t, _, h2, h3, h4⟩ := findM_some hF
    rw [Nat.sub_zero] at h2
    refine ⟨M.eraseIdx i, ?_, h3 ▸ ho.del h2⟩
    simp only [Sem.run_bind, run_setMap h, Result.andThen_ok, ents_erase]; rfl

/-- The entry of a key that is there: its birth. -/
theorem run_mapEntry' (hm : P.underlying mt = some (.map kt et)) (hk : P.underlying kt = some (.int dk)) (h : MB w r M clock) {m : Int → Option Int} (ho : MapOk M clock m) (hv : m k = some v) :
    ∃ (i : Nat) (t : Ent), M[i]? = some t ∧ t.k = k ∧ (Instr.mapEntry mt (.map (some r)) (.int .i64 k)).run P w = .ok (.tuple #[.int .i64 v, .int .i64 (t.b : Int)]) (setObj' w r (.map (entsOf M) clock)) := by
  have hf := ho.find k
  unfold Instr.mapEntry
  simp only [Sem.run_bind, run_underlying hm, Result.andThen_ok, run_getMap h, run_checkKey' (kt := kt) (dk := dk) _ hk, run_findKey' (M := M) hk]
  cases hF : findM k M 0 with
  | none => rw [hF, hv] at hf; cases hf
  | some p =>
    obtain ⟨i, u⟩ := p
    obtain ⟨t, _, h2, h3, h4⟩ := findM_some hF
    rw [Nat.sub_zero] at h2
    refine ⟨i, t, h2, h3, ?_⟩
    have h5 := ents_get i t h2
    have h6 : ((Option.map (fun x => x.key) (entsOf M)[i]?).getD (.int .i64 k)) = .int .i64 k := by rw [h5]; simp [Ent.e, h3]
    have h7 : ((Option.map (fun x : MapEntry => (x.born : Int)) (entsOf M)[i]?).getD 0) = (t.b : Int) := by rw [h5]; simp [Ent.e]
    rw [hF, hv] at hf
    simp only [Option.map_some, Option.some.injEq] at hf
    subst hf
    simp only [Sem.run_bind, h6, h7, keyStays, Result.andThen_ok, run_setMap h]
    rw [ents_modify i t h2 _ t (by simp [Ent.e, h3])]
    have e : M.set i t = M := by
      obtain ⟨hl, rfl⟩ := List.getElem?_eq_some_iff.1 h2
      exact List.set_getElem_self hl
    rw [e]
    rfl

/-- A store into an entry. -/
theorem run_entryStore' (h : MB w r M clock) {m : Int → Option Int} (ho : MapOk M clock m) {i : Nat} {t : Ent} (hi : M[i]? = some t) :
    (Instr.entryStore mt (.map (some r)) (.int .i64 (t.b : Int)) (.int .i64 v)).run P w = .ok () (setObj' w r (.map (entsOf (M.set i { t with v := v })) clock)) := by
  have hfi : (entsOf M).findIdx? (fun e => (e.born : Int) == (t.b : Int)) = some i := by
    rw [Array.findIdx?_eq_some_iff_getElem]
    have hil : i < M.length := (List.getElem?_eq_some_iff.1 hi).1
    have hg : M[i] = t := (List.getElem?_eq_some_iff.1 hi).2
    refine ⟨by simp [entsOf]; exact hil, by simp [entsOf, Ent.e, hg], fun j hj => ?_⟩
    have hjl : j < M.length := by omega
    simp only [entsOf, List.getElem_toArray, List.getElem_map, Ent.e, beq_iff_eq]
    intro e
    have := birth_one ho.births (List.getElem?_eq_getElem hjl) hi (by omega)
    omega
  have hset := run_setMap (P := P) h (.map ((entsOf M).modify i fun e => { e with val := .int .i64 v }) clock)
  rw [ents_modify i t hi _ { t with v := v } (by simp [Ent.e])] at hset
  unfold Instr.entryStore
  rw [Sem.run_bind, run_getMap h]
  simp only [Result.andThen_ok]
  rw [Sem.run_bind]
  have ha : (asInt (.int .i64 (t.b : Int))).run P w = .ok (t.b : Int) w := by simp [asInt, asIntOf]
  rw [ha]
  simp only [Result.andThen_ok, hfi]
  rw [ents_modify i t hi _ { t with v := v } (by simp [Ent.e])]
  exact hset
end

end Go.Proofs.Ytmilpjkjcanghaa

/- The table of phases, whatever order its entries come in: the plain part. -/
import Derived.Test.YtnhcbfaomehaeaaGreatDoorC4
import Derived.WideKeyRuns
import Derived.Laws.StructEq
namespace Go.Proofs.YtnhcbfaomehaeaaGreatDoor.R1
open Go
set_option linter.unusedVariables false
set_option linter.unusedSimpArgs false
set_option maxRecDepth 100000

noncomputable def phL : List (Int × Int × Int) := [(1, 1, 3), (2, 1, 3), (1, 2, 2), (2, 2, 2), (2, 3, 1), (3, 4, 4), (1, 5, 5), (2, 5, 5), (3, 5, 5), (4, 5, 5)]
noncomputable def pKey (p e : Int) : Value := .agg #[.int .i64 p, .int .i64 e]

theorem phaseX_in {p e q : Int} (h : phaseX p e = some q) : (p, e, q) ∈ phL := by
  unfold phaseX at h
  by_cases e1 : e = 1
  · by_cases p1 : p = 1
    · subst e1; subst p1; cases h; decide
    · by_cases p2 : p = 2
      · subst e1; subst p2; cases h; decide
      · simp [e1, p1, p2] at h
  · by_cases e2 : e = 2
    · by_cases p1 : p = 1
      · subst e2; subst p1; cases h; decide
      · by_cases p2 : p = 2
        · subst e2; subst p2; cases h; decide
        · simp [e2, p1, p2] at h
    · by_cases e3 : e = 3
      · by_cases p2 : p = 2
        · subst e3; subst p2; cases h; decide
        · simp [e3, p2] at h
      · by_cases e4 : e = 4
        · by_cases p3 : p = 3
          · subst e4; subst p3; cases h; decide
          · simp [e4, p3] at h
        · by_cases e5 : e = 5
          · by_cases p1 : p = 1
            · subst e5; subst p1; cases h; decide
            · by_cases p2 : p = 2
              · subst e5; subst p2; cases h; decide
              · by_cases p3 : p = 3
                · subst e5; subst p3; cases h; decide
                · by_cases p4 : p = 4
                  · subst e5; subst p4; cases h; decide
                  · simp [e5, p1, p2, p3, p4] at h
          · simp [e1, e2, e3, e4, e5] at h

theorem phaseX_of : ∀ x ∈ phL, phaseX x.1 x.2.1 = some x.2.2 := by decide

noncomputable def hit (p e : Int) (x : Int × Int × Int) : Bool := decide (p = x.1) && decide (e = x.2.1)

/-- The list holds the table's entries, in some order. -/
theorem find_all {l : List (Int × Int × Int)} (h1 : ∀ x ∈ l, x ∈ phL) (h2 : ∀ x ∈ phL, x ∈ l) (p e : Int) : (l.find? (hit p e)).map (·.2.2) = phaseX p e := by
  cases hf : l.find? (hit p e) with
  | some x =>
    have hm := List.mem_of_find?_eq_some hf
    have hp := List.find?_some hf
    simp only [hit, Bool.and_eq_true, decide_eq_true_eq] at hp
    rw [hp.1, hp.2, phaseX_of x (h1 x hm)]
    rfl
  | none =>
    cases hx : phaseX p e with
    | none => rfl
    | some q =>
      have hm := h2 _ (phaseX_in hx)
      have := List.find?_eq_none.1 hf _ hm
      simp [hit] at this

theorem stood372 : Tryz.prog.stoodInHeld 372 = false := by kernel_rfl
theorem fields372 : Tryz.prog.fieldsOf 372 = #[{ name := "phase", type := 3, offset := 0, embedded := false, tag := "", pkgPath := "hammock/phase", byteOffset := 0 }, { name := "event", type := 3, offset := 1, embedded := false, tag := "", pkgPath := "hammock/phase", byteOffset := 8 }] := by kernel_rfl

theorem eq3 (d : Nat) (a b : Int) (w : World) : (Op.equalIn (d + 1) 3 (.int .i64 a) (.int .i64 b)).run Tryz.prog w = .ok (a == b) w := by
  have h3 : Tryz.prog.underlying 3 = some (.int .i64) := Tryz.underlying3
  simp [Op.equalIn, run_underlying h3]

theorem eqK (a b c d : Int) (w : World) : (Op.equal 372 (pKey a b) (pKey c d)).run Tryz.prog w = .ok (hit a b (c, d, 0)) w := by
  have i3 : ∀ a b w, (part 3 #[.int .i64 a, .int .i64 b] 0).run Tryz.prog w = .ok (.int .i64 a) w := fun a b w => by kernel_rfl
  have i4 : ∀ a b w, (part 3 #[.int .i64 a, .int .i64 b] 1).run Tryz.prog w = .ok (.int .i64 b) w := fun a b w => by kernel_rfl
  have e3 : ∀ a b w, (Op.equalIn 9999 3 (.int .i64 a) (.int .i64 b)).run Tryz.prog w = .ok (a == b) w := eq3 9998
  have h := run_equalIn_struct (P := Tryz.prog) w 9999 372 #[.int .i64 a, .int .i64 b] #[.int .i64 c, .int .i64 d] (by rw [fields372]; exact Tryz.underlying372) stood372
  refine Eq.trans h ?_
  rw [fields372]
  unfold hit
  by_cases h1 : a = c <;> by_cases h2 : b = d <;> simp [Op.eqFields, i3, i4, e3, h1, h2]

theorem check372 (em : Bool) (p e : Int) (w : World) : (Instr.checkKey em 10000 372 (pKey p e)).run Tryz.prog w = .ok () w := by kernel_rfl

/-- The entries of a map are a list's. -/
noncomputable def MapIs (es : List MapEntry) (l : List (Int × Int × Int)) : Prop := es.map (fun x => (x.key, x.val)) = l.map fun x => (pKey x.1 x.2.1, .int .i64 x.2.2)

theorem find_run (p e : Int) (w : World) : ∀ (es : List MapEntry) (l : List (Int × Int × Int)) (i : Nat), MapIs es l → ∃ o, (Instr.findAsking 372 (pKey p e) es i).run Tryz.prog w = .ok o w ∧ o.map (·.2) = (l.find? (hit p e)).map fun x => .int .i64 x.2.2
  | [], [], i, _ => ⟨none, by simp [Instr.findAsking], rfl⟩
  | x :: es, y :: l, i, h => by
    simp only [MapIs, List.map_cons, List.cons.injEq, Prod.mk.injEq] at h
    obtain ⟨⟨h1, h2⟩, h3⟩ := h
    obtain ⟨o, q1, q2⟩ := find_run p e w es l (i + 1) h3
    have hh : hit p e (y.1, y.2.1, 0) = hit p e y := rfl
    rw [List.find?_cons]
    cases hy : hit p e y with
    | true =>
      refine ⟨some (i, x.val), ?_, by simp [h2]⟩
      simp [Instr.findAsking, h1, eqK, hh, hy]
    | false =>
      refine ⟨o, ?_, q2⟩
      simp [Instr.findAsking, h1, eqK, hh, hy, q1]
  | [], _ :: _, _, h => by simp [MapIs] at h
  | _ :: _, [], _, h => by simp [MapIs] at h

theorem findKey_run372 (p e : Int) (w : World) {es : List MapEntry} {l : List (Int × Int × Int)} (h : MapIs es l) : ∃ o, (Instr.findKey 372 (pKey p e) es).run Tryz.prog w = .ok o w ∧ o.map (·.2) = (l.find? (hit p e)).map fun x => .int .i64 x.2.2 := by
  obtain ⟨o, h1, h2⟩ := find_run p e w es l 0 h
  refine ⟨o, ?_, h2⟩
  rw [run_findKey_eq w (by rw [Tryz.underlying372])]
  exact h1

theorem insert_run (p e q : Int) (w : World) {B clock : Nat} {es : List MapEntry} {l : List (Int × Int × Int)} (hb : w.heap[B]? = some (.map ⟨es⟩ clock)) (h : MapIs es l) (hn : l.find? (hit p e) = none) :
    ∃ es', (Instr.mapUpdate 369 (.map (some B)) (pKey p e) (.int .i64 q)).run Tryz.prog w = .ok () (w.putObj B (.map ⟨es'⟩ (clock + 1))) ∧ MapIs es' (l ++ [(p, e, q)]) := by
  obtain ⟨o, h1, h2⟩ := findKey_run372 p e w h
  rw [hn] at h2
  have ho : o = none := by cases o with | none => rfl | some x => cases h2
  subst ho
  refine ⟨es ++ [{ key := pKey p e, val := .int .i64 q, born := clock }], ?_, ?_⟩
  · have hg : (getObj B).run Tryz.prog w = .ok (.map ⟨es⟩ clock) w := by simp [getObj, Sem.run, hb]
    have hs := setObj_run (P := Tryz.prog) hb (.map ⟨es ++ [{ key := pKey p e, val := .int .i64 q, born := clock }]⟩ (clock + 1))
    simp [Instr.mapUpdate, run_underlying Tryz.underlying369, hg, check372, h1, hs]
  · simp only [MapIs, List.map_append, List.map_cons, List.map_nil]
    rw [show es.map (fun x => (x.key, x.val)) = _ from h]

end Go.Proofs.YtnhcbfaomehaeaaGreatDoor.R1

/- Ranging over a map; conversions. -/
import Derived.Test.YtnhcbfaomehaeaaGreatDoorA13
namespace Go.Proofs.YtnhcbfaomehaeaaGreatDoor.R1
open Go
set_option linter.unusedVariables false
set_option linter.unusedSimpArgs false

section
variable {P : Program} {tb : Tab} {G : Nat} {ev : Ev} {s s' : St} {r : R} {d : Option Nat} {ty : TypeId} {pos : String} {aft : Array Edge} {g : Option (Nat × Bool)}

theorem memN_eq (x : Nat) : ∀ l : List Nat, memN x l = l.contains x
  | [] => rfl
  | y :: l => by
    rw [memN, List.contains_cons, memN_eq x l]
    cases h : Nat.beq x y with
    | true => have := beq_iff.1 h; subst this; simp
    | false =>
      have := beq_false h
      have h2 : (x == y) = false := by simpa using this
      rw [h2]; rfl

theorem leftX_ok {ρ : Ren} {seen : List Nat} {since : Nat} : ∀ {es es' : List MapEntry} {o : Option MapEntry}, ER ρ es es' → leftX seen since es = some o →
    match o with
    | none => es'.filter (fun e => !seen.contains e.born) = []
    | some e => ∃ e', es'.filter (fun e => !seen.contains e.born) = [e'] ∧ VR ρ e.key e'.key ∧ VR ρ e.val e'.val ∧ e'.born = e.born ∧ e.born < since
  | _, _, o, .nil, h => by simp only [leftX, Option.some.injEq] at h; subst h; rfl
  | e :: es, e' :: es', o, .cons hk hv hb hr, h => by
    simp only [leftX] at h
    split at h
    · rename_i hm
      have ih := leftX_ok hr h
      rw [memN_eq] at hm
      have : (!seen.contains e'.born) = false := by rw [hb, hm]; rfl
      simp only [List.filter_cons, this]
      exact ih
    · rename_i hm hs hl
      cases h
      have ih := leftX_ok hr hl
      rw [memN_eq] at hm
      have : (!seen.contains e'.born) = true := by rw [hb, hm]; rfl
      simp only [List.filter_cons, this, if_true]
      refine ⟨e', ?_, hk, hv, hb, blt_iff.1 hs⟩
      simp only at ih
      rw [ih]
    · cases h

theorem ER.all_lt {ρ : Ren} {n : Nat} : ∀ {es es' : List MapEntry}, ER ρ es es' → allL (fun e : MapEntry => Nat.blt e.born n) es = true → ∀ e' ∈ es', e'.born < n
  | _, _, .nil, _, e', h => by cases h
  | _, _, .cons hk hv hb hr, h, e', he => by
    rw [allL] at h
    split at h
    · rename_i h1
      cases he with
      | head => rw [hb]; exact blt_iff.1 h1
      | tail _ hm => exact ER.all_lt hr h e' hm
    · cases h

theorem op_next_ok {x : Operand} (h : op_next tb ev x s = some (r, s')) : OpOk P G ev ⟨d, .next x false, ty, pos, aft, g⟩ s r s' := by
  unfold op_next at h
  split at h
  · rename_i v hx
    obtain ⟨u, hu, rfl⟩ := valsX_eq h
    unfold nextX at hu
    split at hu
    · rename_i a
      split at hu
      · rename_i m since seen stepped s1 hao hlk
        have hao := beq_iff.1 hao
        have hlk := look_ok hlk
        split at hu
        · rename_i es clock s2 hlk2
          have hlk2 := look_ok hlk2
          -- what lies there
          have lies : ∀ (V : Nat → Bool) (ρ : Ren) (w : World) (ev' : Operand → Value) (s3 : St), Tr s2 s3 → Wf s → vis V s s3 → Rel G ρ (res V s.h.get) w → EvR ρ ev ev' →
              ∃ k km es', ρ a.block = some k ∧ ev' x = .pointer (some ⟨k, 0, none⟩) ∧ w.heap[k]? = some (.mapIter (some km) since ⟨seen⟩ stepped) ∧ ρ m = some km ∧ w.heap[km]? = some (.map ⟨es'⟩ clock) ∧ ER ρ es es' ∧ V a.block = true := by
            intro V ρ w ev' s3 tr hw hvis hr he
            obtain ⟨k, e1, e2, e3⟩ := (he x _ hx).ptr_inv
            have hV := ((hvis.fst tr).fst hlk2.tr).rd hw (by rw [hlk.get]; rfl) hlk.touch
            obtain ⟨k', o', f1, f2, f3⟩ := hlk.rel hV hr
            rw [e1] at f1; cases f1
            cases f3 with
            | iter hm =>
              have hV2 := (hvis.fst tr).rd hw (by rw [← hlk.h, hlk2.get]; rfl) hlk2.touch
              have hr1 : Rel G ρ (res V s1.h.get) w := by rw [hlk.h]; exact hr
              obtain ⟨km, es', g1, g2, g3, _⟩ := map_rel (P := P) hlk2 hV2 hr1
              rw [hm] at g1; cases g1
              exact ⟨k, _, es', e1, by rw [e3, hao], f2, hm, g2, g3, hV⟩
          split at hu
          · rename_i hleft hall
            cases hu
            refine ⟨hlk.tr.trans hlk2.tr, fun V ρ w ev' hw hG hvis hf hr he => ?_⟩
            obtain ⟨k, km, es', e1, e2, e3, e4, e5, e6, _⟩ := lies V ρ w ev' s' (Tr.refl _) hw hvis hr he
            have hl := leftX_ok e6 hleft
            simp only at hl
            have hla := e6.all_lt hall
            have g1 : (getObj k).run P w = .ok (.mapIter (some km) since ⟨seen⟩ stepped) w := by simp [getObj, Sem.run, e3]
            have g2 : (getObj km).run P w = .ok (.map ⟨es'⟩ clock) w := by simp [getObj, Sem.run, e5]
            have hchk : (!(⟨seen⟩ : Array Nat).isEmpty && !(⟨es'⟩ : Array MapEntry).isEmpty && (⟨es'⟩ : Array MapEntry).all (fun e => decide (e.born ≥ stepped))) = false := by
              cases es' with
              | nil => simp
              | cons e rest =>
                have h1 : ¬ (stepped ≤ e.born) := by have := hla e (List.mem_cons_self); omega
                simp [h1]
            have hfil : (⟨es'⟩ : Array MapEntry).filter (fun e => !(⟨seen⟩ : Array Nat).contains e.born) = #[] := by
              apply Array.toList_inj.1
              simp only [Array.toList_filter, List.contains_toArray]
              exact hl
            refine ⟨.tuple ⟨[.bool false]⟩, w, ρ, ?_, .tuple (.cons (.bool false) .nil), Out.after hlk.h hlk.nx (Out.idle hlk2.h hlk2.nx (by rw [hlk.h]; exact hr))⟩
            have hq : (Question.mapNext 1).forced = true := rfl
            simp only [execOp, e2, Instr.next, Sem.run_bind, g1, g2, Result.andThen_ok, hchk, hfil]
            simp [hq]
          · rename_i e hleft hall
            split at hu
            · rename_i s3 htn
              cases hu
              have htn := turn_ok htn
              refine ⟨(hlk.tr.trans hlk2.tr).trans htn.tr, fun V ρ w ev' hw hG hvis hf hr he => ?_⟩
              obtain ⟨k, km, es', e1, e2, e3, e4, e5, e6, hVa⟩ := lies V ρ w ev' s' htn.tr hw hvis hr he
              obtain ⟨e', hl, hkr, hvr, hbr, hsince⟩ := leftX_ok e6 hleft
              have hla := e6.all_lt hall
              have g1 : (getObj k).run P w = .ok (.mapIter (some km) since ⟨seen⟩ stepped) w := by simp [getObj, Sem.run, e3]
              have g2 : (getObj km).run P w = .ok (.map ⟨es'⟩ clock) w := by simp [getObj, Sem.run, e5]
              have hchk : (!(⟨seen⟩ : Array Nat).isEmpty && !(⟨es'⟩ : Array MapEntry).isEmpty && (⟨es'⟩ : Array MapEntry).all (fun e => decide (e.born ≥ stepped))) = false := by
                cases es' with
                | nil => simp
                | cons e rest =>
                  have h1 : ¬ (stepped ≤ e.born) := by have := hla e (List.mem_cons_self); omega
                  simp [h1]
              have hfil : (⟨es'⟩ : Array MapEntry).filter (fun e => !(⟨seen⟩ : Array Nat).contains e.born) = #[e'] := by
                apply Array.toList_inj.1
                simp only [Array.toList_filter, List.contains_toArray]
                exact hl
              have hold : (#[e'] : Array MapEntry).filter (fun e => decide (e.born < since)) = #[e'] := by
                apply Array.toList_inj.1
                have : decide (e'.born < since) = true := by rw [hbr]; exact decide_eq_true hsince
                simp [this]
              have hnew : (#[e'] : Array MapEntry).filter (fun e => decide (e.born ≥ since)) = #[] := by
                apply Array.toList_inj.1
                have : decide (e'.born ≥ since) = false := by rw [hbr]; exact decide_eq_false (by omega)
                simp [this]
              have hlt : k < w.heap.size := (Array.getElem?_eq_some_iff.1 e3).1
              have hr2 : Rel G ρ (res V s2.h.get) w := by rw [hlk2.h, hlk.h]; exact hr
              have hO := Out.turn (G := G) (w := w) (w' := w.putObj k (.mapIter (some km) since ⟨seen ++ [e.born]⟩ clock)) htn hVa e1 hr2 (World.putObj_heap_same hlt) (fun j hj => World.putObj_heap_other hj) World.putObj_size ⟨rfl, rfl, rfl⟩ (fun y hy => by cases hy; exact .iter e4)
              refine ⟨.tuple ⟨[.bool true, e'.key, e'.val]⟩, _, ρ, ?_, .tuple (.cons (.bool true) (.cons hkr (.cons hvr .nil))), Out.after hlk.h hlk.nx (Out.after hlk2.h hlk2.nx hO)⟩
              have hset : (setObj k (.mapIter (some km) since (seen ++ [e'.born]).toArray clock)).run P w = .ok () (w.putObj k (.mapIter (some km) since ⟨seen ++ [e.born]⟩ clock)) := by
                rw [hbr]; simp [setObj, Sem.run, e3, World.putObj]
              have hq : (Question.mapNext 1).forced = true := rfl
              simp only [execOp, e2, Instr.next, Sem.run_bind, g1, g2, Result.andThen_ok, hchk, hfil, hold, hnew]
              simp [hq]
              rw [hset]
              simp
            · cases hu
          · cases hu
        · cases hu
      · cases hu
    · cases hu
  · cases h

theorem lastN_eq : ∀ l : List Nat, lastN l = l.getLast?
  | [] => rfl
  | [x] => rfl
  | x :: y :: l => by
    rw [lastN, lastN_eq (y :: l)]
    · simp
    · intro h; cases h

theorem entOf_ok {ρ : Ren} {n : Nat} : ∀ {es es' : List MapEntry} {e : MapEntry}, ER ρ es es' → entOf n es = some e → ∃ e', es'.find? (fun e => e.born == n) = some e' ∧ VR ρ e.key e'.key ∧ VR ρ e.val e'.val
  | _, _, e, .nil, h => by cases h
  | f :: es, f' :: es', e, .cons hk hv hb hr, h => by
    simp only [entOf] at h
    split at h
    · rename_i h1
      cases h
      have h1 := beq_iff.1 h1
      refine ⟨f', ?_, hk, hv⟩
      rw [List.find?_cons, hb, h1]
      simp
    · rename_i h1
      have h1 := beq_false h1
      obtain ⟨e', g1, g2⟩ := entOf_ok hr h
      refine ⟨e', ?_, g2⟩
      have : (f'.born == n) = false := by rw [hb]; simpa using h1
      rw [List.find?_cons, this]
      exact g1

theorem op_entry_ok {x : Operand} (h : op_entry tb ev x s = some (r, s')) : OpOk P G ev ⟨d, .entry x, ty, pos, aft, g⟩ s r s' := by
  unfold op_entry at h
  split at h
  · rename_i v hx
    obtain ⟨u, hu, rfl⟩ := valsX_eq h
    unfold entryX at hu
    split at hu
    · rename_i a
      split at hu
      · rename_i m since seen stepped s1 hao hlk
        have hao := beq_iff.1 hao
        have hlk := look_ok hlk
        split at hu
        · rename_i es clock s2 n hlk2 hlast
          have hlk2 := look_ok hlk2
          split at hu
          · rename_i e hcl hent
            cases hu
            have hcl := beq_iff.1 hcl
            refine ⟨hlk.tr.trans hlk2.tr, fun V ρ w ev' hw hG hvis hf hr he => ?_⟩
            obtain ⟨k, e1, e2, e3⟩ := (he x _ hx).ptr_inv
            have hV := (hvis.fst hlk2.tr).rd hw (by rw [hlk.get]; rfl) hlk.touch
            obtain ⟨k', o', f1, f2, f3⟩ := hlk.rel hV hr
            rw [e1] at f1; cases f1
            cases f3 with
            | iter hm =>
              rename_i mm'
              have hV2 := hvis.rd hw (by rw [← hlk.h, hlk2.get]; rfl) hlk2.touch
              have hr1 : Rel G ρ (res V s1.h.get) w := by rw [hlk.h]; exact hr
              obtain ⟨km, es', g1, g2, g3, g4⟩ := map_rel (P := P) hlk2 hV2 hr1
              rw [hm] at g1; cases g1
              obtain ⟨e', q1, q2, q3⟩ := entOf_ok g3 hent
              have h1 : (getObj k).run P w = .ok (.mapIter (some mm') since ⟨seen⟩ stepped) w := by simp [getObj, Sem.run, f2]
              have hb : (⟨seen⟩ : Array Nat).back? = some n := by
                rw [lastN_eq] at hlast
                simpa [Array.back?_eq_getElem?, List.getLast?_eq_getElem?] using hlast
              have hfind : (⟨es'⟩ : Array MapEntry).find? (fun e => e.born == n) = some e' := by simpa using q1
              refine ⟨.tuple ⟨[e'.key, e'.val]⟩, w, ρ, ?_, .tuple (.cons q2 (.cons q3 .nil)), Out.after hlk.h hlk.nx (Out.idle hlk2.h hlk2.nx hr1)⟩
              have e3' : ev' x = .pointer (some ⟨k, 0, none⟩) := by rw [e3, hao]
              have hne : (clock != stepped) = false := by simpa using hcl
              simp only [execOp, e3', Instr.entry, Sem.run_bind, h1, g4, Result.andThen_ok, hb, hne, hfind]
              simp
          · cases hu
        · cases hu
      · cases hu
    · cases hu
  · cases h

theorem op_range_ok (hT : TabOk P tb) {t : TypeId} {x : Operand} (h : op_range tb ev t x s = some (r, s')) : OpOk P G ev ⟨d, .range t x, ty, pos, aft, g⟩ s r s' := by
  unfold op_range at h
  split at h
  · rename_i ti m ht hx
    have hk := (hT.ty _ _ ht).kind
    split at h
    · rename_i kt et es clock s1 hki hlk
      rw [hki] at hk
      have hk' : P.underlying t = some (.map kt et) := hk
      have hlk := look_ok hlk
      split at h
      · rename_i b s2 hn
        cases h
        have hn := new_ok hn
        refine ⟨hlk.tr.trans hn.tr, fun V ρ w ev' hw hG hvis hf hr he => ?_⟩
        obtain ⟨mm, e1, e2⟩ := (he x _ hx).map_inv
        have hV := (hvis.fst hn.tr).rd hw (by rw [hlk.get]; rfl) hlk.touch
        obtain ⟨kk, es', f1, f2, f3, f4⟩ := map_rel (P := P) hlk hV hr
        rw [e1] at f1; cases f1
        have hr1 : Rel G ρ (res V s1.h.get) w := by rw [hlk.h]; exact hr
        have hf1 : fresh ρ s1 s' := fun q h1 h2 => hf q (by rw [← hlk.nx]; exact h1) h2
        obtain ⟨g1, g2, g3⟩ := new_out hn hf1 (by rw [hlk.nx]; exact hG) hr1 (o' := .mapIter (some mm) clock #[] clock) (.iter e1)
        exact ⟨_, _, _, by simp [execOp, e2, Instr.range, run_underlying hk', f4], .ptr g1, Out.after hlk.h hlk.nx g2⟩
      · cases h
    · cases h
  · cases h

end
end Go.Proofs.YtnhcbfaomehaeaaGreatDoor.R1

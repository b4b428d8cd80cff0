/- Conversions, externs, calls; every operation. -/
import Derived.Test.YtnhcbfaomehaeaaGreatDoorA14
import Derived.Lib.Bytealg
namespace Go.Proofs.YtnhcbfaomehaeaaGreatDoor.R1
open Go
set_option linter.unusedVariables false
set_option linter.unusedSimpArgs false

section
variable {P : Program} {tb : Tab} {G : Nat} {ev : Ev} {s s' : St} {r : R} {d : Option Nat} {ty : TypeId} {pos : String} {aft : Array Edge} {g : Option (Nat × Bool)}

theorem shape_of {w : World} {k : Nat} {c' : List Value} {e : TypeId} {fz : Nat × Nat} (h : w.heap[k]? = some (.cells ⟨c'⟩ e fz)) : w.shape? k = some (e, c'.length) := by
  unfold World.shape?; rw [h]; rfl

theorem seenAt_run {w : World} {k o : Nat} {x : TypeId × Nat} (h : w.shape? k = some x) : (Conv.seenAt ⟨k, o, none⟩).run P w = .ok ⟨k, o, none⟩ w := by
  simp [Conv.seenAt, viewAt, h]

theorem op_convert_ok (hT : TabOk P tb) {a b : TypeId} {x : Operand} (h : op_convert tb ev a b x s = some (r, s')) : OpOk P G ev ⟨d, .convert a b x, ty, pos, aft, g⟩ s r s' := by
  unfold op_convert at h
  split at h
  · rename_i v hx
    obtain ⟨u, hu, rfl⟩ := valsX_eq h
    unfold convX at hu
    split at hu
    · rename_i si di hsi hdi
      have hk1 := (hT.ty _ _ hsi).kind
      have hk2 := (hT.ty _ _ hdi).kind
      split at hu
      · rename_i k1 k2 k3 n q1 q2
        rw [q1] at hk1; rw [q2] at hk2
        have hk1' : P.underlying a = some (.int k1) := hk1
        have hk2' : P.underlying b = some (.int k2) := hk2
        cases hu
        refine OpOk.pure fun ρ w ev' he => ⟨_, ?_, .int _ _⟩
        have e1 := (he x _ hx).ground rfl
        simp [execOp, e1, convert, run_underlying hk1', run_underlying hk2', Conv.intToInt]
      · rename_i e bs q1 q2
        rw [q1] at hk1; rw [q2] at hk2
        have hk1' : P.underlying a = some .string := hk1
        have hk2' : P.underlying b = some (.slice e) := hk2
        split at hu
        · rename_i ei hei
          have hk3 := (hT.ty _ _ hei).kind
          split at hu
          · rename_i q3 hlen
            rw [q3] at hk3
            have hk3' : P.underlying e = some (.int .u8) := hk3
            have hlen := blt_iff.1 hlen
            split at hu
            · rename_i b0 s1 hn
              cases hu
              have hn := new2_ok hn
              have hsz : bs.data.toList.length = bs.size := by rw [Array.length_toList]; rfl
              refine ⟨hn.tr, fun V ρ w ev' hw hG hvis hf hr he => ?_⟩
              have e1 := (he x _ hx).ground rfl
              -- the world behind it
              let cap := grownCap w bs.size 0 e
              have hcap : bs.size ≤ cap := grownCap_ge w _ _ _
              let cs : List Value := bs.data.toList.map (fun x => .int .u8 x.toNat) ++ List.replicate (cap - bs.size) (.int .u8 0)
              have hcl : cs.length = cap := by simp [cs]; have := hsz; simp at this; omega
              let w1 := w.drew.alloc (.cells ⟨cs⟩ e)
              have hnone : ρ s.nx = none := hf s.nx (Nat.le_refl _) (by rw [hn.nx]; omega)
              have hnone2 : ρ (s.nx + 1) = none := hf (s.nx + 1) (by omega) (by rw [hn.nx]; omega)
              have hsub := upd2_sub w.heap.size cap hnone hnone2
              have hnewcell : w1.heap[w.heap.size]? = some (.cells ⟨cs⟩ e (0, 0)) := heap_alloc_new w.drew _
              have hfz : ∀ j, (w1.freeze ⟨w.heap.size, cap, none⟩ 1).heap[j]? = if w.heap.size = j then (w1.heap[j]?).map (fun o => match o with
                    | .cells c elem (lo, hi) => .cells c elem (if lo == hi then (cap, cap + 1) else (min lo cap, max hi (cap + 1)))
                    | o => o) else w1.heap[j]? := by
                intro j
                unfold World.freeze
                rw [if_neg (by omega)]
                simp only [Array.getElem?_modify]
                rfl
              have hO := Out.new2 (G := G) (C := cap) (w := w) (w' := w1.freeze ⟨w.heap.size, cap, none⟩ 1) hn hnone hnone2 hG hw hr
                (fun k hk => by rw [hfz, if_neg (by omega)]; exact heap_alloc_old w.drew _ hk)
                (o' := .cells ⟨cs⟩ e (cap, cap + 1)) (by rw [hfz, if_pos rfl, hnewcell]; rfl) (by unfold World.freeze; split <;> exact ⟨rfl, rfl, rfl⟩)
                (.ro (LR.of_ground (allL_bytes _)))
              refine ⟨.slice (some ⟨w.heap.size, 0, none⟩) bs.size cap, _, _, ?_, ?_, hO⟩
              · have hel : (bs.data.map fun b => Value.int .u8 b.toNat) ++ Array.replicate (cap - bs.size) (.int .u8 0) = (⟨cs⟩ : Array Value) := by
                  apply Array.toList_inj.1; simp [cs]
                have hsh := shape_of hnewcell
                have hfo : (Question.appendCap bs.size 0 e).forced = false := rfl
                have hcap' : (Question.appendCap bs.size 0 e).cut (w.tape w.drawn (Question.appendCap bs.size 0 e)) = cap := rfl
                simp only [execOp, e1, convert, Sem.run_bind, run_underlying hk1', run_underlying hk2', run_underlying hk3', Result.andThen_ok, Conv.stringToBytes, run_choose_drew, hfo, hcap']
                simp only [Bool.false_eq_true, if_false, Result.andThen_ok, newRow, Sem.run_bind, run_newObj_alloc, Sem.run_pure, hel, markStringish]
                have hsh' : (shape w.heap.size).run P w1 = .ok (some (e, cs.length)) w1 := by simp [shape, Sem.run, hsh]
                have hdh : w.drew.heap.size = w.heap.size := rfl
                rw [hdh]
                rw [show (w.drew.alloc (.cells ⟨cs⟩ e)) = w1 from rfl, hsh']
                simp [hcl]
              · rw [hn.eq, hsz]
                exact .slice (upd2_same _ _ _ _) (.inr ⟨Nat.le_refl _, hcap, cap, upd2_cap _ _ _ _, Nat.le_refl _⟩)
            · cases hu
          · cases hu
        · cases hu
      · rename_i t aa q1 q2
        rw [q1] at hk1; rw [q2] at hk2
        have hk1' : P.underlying a = some (.pointer t) := hk1
        have hk2' : P.underlying b = some .unsafePointer := hk2
        split at hu
        · rename_i c e s1 ti hlk hti
          have hlk := look_ok hlk
          split at hu
          · rename_i ho hz
            cases hu
            have ho := blt_iff.1 ho
            have hz := blt_iff.1 hz
            obtain ⟨i, z, hi, hs, _⟩ := (hT.ty _ _ hti).info
            refine ⟨hlk.tr, fun V ρ w ev' hw hG hvis hf hr he => ?_⟩
            obtain ⟨b', e1, e2, e3⟩ := (he x _ hx).ptr_inv
            have hV := hvis.rd hw (by rw [hlk.get]; rfl) hlk.touch
            obtain ⟨k, o', f1, f2, f3⟩ := hlk.rel hV hr
            rw [e1] at f1; cases f1
            cases f3 with
            | row hc =>
              rename_i c'
              have hsh := shape_of f2
              have hcl := hc.length
              refine ⟨_, w, ρ, ?_, he x _ hx, Out.idle hlk.h hlk.nx hr⟩
              have h1 : ¬ (i.size = 0) := by omega
              have h2 := seenAt_run (P := P) (o := aa.off) hsh
              have h4 : ¬ (c'.length ≤ aa.off) := by omega
              rw [e3]
              simp [execOp, e3, convert, run_underlying hk1', run_underlying hk2', Conv.unsafePointer, h2, cellsIn, shape, Sem.run, hsh, sizeOf, typeInfo, hi, h1, h4]
          · cases hu
        · cases hu
      · rename_i u0 aa q1 q2
        rw [q1] at hk1; rw [q2] at hk2
        have hk1' : P.underlying a = some .unsafePointer := hk1
        have hk2' : P.underlying b = some (.pointer u0) := hk2
        split at hu
        · rename_i c e s1 ui hlk hui
          have hlk := look_ok hlk
          split at hu
          · rename_i ho hee hcl hz
            cases hu
            have ho := beq_iff.1 ho
            have hee := beq_iff.1 hee
            have hcl := beq_iff.1 hcl
            have hz := blt_iff.1 hz
            subst hee
            obtain ⟨i, z, hi, hs, _⟩ := (hT.ty _ _ hui).info
            refine ⟨hlk.tr, fun V ρ w ev' hw hG hvis hf hr he => ?_⟩
            obtain ⟨b', e1, e2, e3⟩ := (he x _ hx).ptr_inv
            have hV := hvis.rd hw (by rw [hlk.get]; rfl) hlk.touch
            obtain ⟨k, o', f1, f2, f3⟩ := hlk.rel hV hr
            rw [e1] at f1; cases f1
            cases f3 with
            | row hc =>
              rename_i c'
              have hsh := shape_of f2
              have hcl2 := hc.length
              refine ⟨_, w, ρ, ?_, he x _ hx, Out.idle hlk.h hlk.nx hr⟩
              have h1 : ¬ (i.size = 0) := by omega
              have h2 := seenAt_run (P := P) (o := 0) hsh
              have hce : P.cellsOf e = i.size := by unfold Program.cellsOf; simp [hi]
              have hlies : liesAt P P.depth e (c'.length / P.cellsOf e) 0 e 1 = true := by
                have hd : P.depth = (2 * (P.types.size + Made.depth) + 1) + 1 := rfl
                rw [hd]
                simp only [liesAt, Bool.or_eq_true]
                left
                rw [hd, hce, show c'.length = i.size from by omega, Nat.div_self (by omega)]
                simp [rowAt, hce, h1, sameLayout]
              rw [ho] at e3
              rw [e3]
              simp [execOp, e3, convert, run_underlying hk1', run_underlying hk2', Conv.unsafePointer, h2, variablesAt, shape, Sem.run, hsh, sizeOf, typeInfo, hi, h1, hlies]
          · cases hu
        · cases hu
      · cases hu
    · cases hu
  · cases h

theorem indexOf_find (L : List UInt8) (c : UInt8) : ∀ (l : List UInt8) (k : Nat), (∀ i, l[i]? = L[k + i]?) →
    (match (List.range' k l.length).find? fun i => L[i]! == c with
      | some i => (i : Int)
      | none => -1) = indexOfX c l k
  | [], k, h => rfl
  | x :: l, k, h => by
    have h0 : L[k]? = some x := by have := h 0; simpa using this.symm
    have ih := indexOf_find L c l (k + 1) (fun i => by have := h (i + 1); simpa [Nat.add_assoc, Nat.add_comm 1 i] using this)
    rw [List.length_cons, List.range'_succ, List.find?_cons, indexOfX]
    have hx : L[k]! = x := by simp [List.getElem!_eq_getElem?_getD, h0]
    rw [hx]
    cases hb : Nat.beq x.toNat c.toNat with
    | true =>
      have : x = c := UInt8.toNat_inj.1 (beq_iff.1 hb)
      have : (x == c) = true := by simpa using this
      rw [this]; rfl
    | false =>
      have h1 := beq_false hb
      have : (x == c) = false := by
        have : x ≠ c := fun e => h1 (by rw [e])
        simpa using this
      rw [this]
      exact ih

theorem countX_foldl (c : UInt8) : ∀ (l : List UInt8) (n : Nat), l.foldl (fun (n : Int) x => if x == c then n + 1 else n) (n : Int) = (countX c l n : Int)
  | [], n => rfl
  | x :: l, n => by
    rw [List.foldl_cons, countX]
    cases hb : Nat.beq x.toNat c.toNat with
    | true =>
      have : x = c := UInt8.toNat_inj.1 (beq_iff.1 hb)
      have : (x == c) = true := by simpa using this
      rw [this]
      exact countX_foldl c l (n + 1)
    | false =>
      have h1 := beq_false hb
      have : (x == c) = false := by
        have : x ≠ c := fun e => h1 (by rw [e])
        simpa using this
      rw [this]
      exact countX_foldl c l n

theorem byteOfX_eq {v : Value} {c : UInt8} (h : byteOfX v = some c) : ∃ n : Nat, v = .int .u8 (Int.ofNat n) ∧ c = UInt8.ofNat n := by
  unfold byteOfX at h
  split at h
  · split at h
    · cases h; exact ⟨_, rfl, rfl⟩
    · cases h
  · cases h

/-- An extern. -/
theorem extX_ok {f : FuncId} {x : Xt} {e : TypeId} (hx : XtOk P f x e) {args : List Value} {v : Value} (h : extX x e args s = some (v, s')) :
    Tr s s' ∧ ∀ V ρ w args', Wf s → G ≤ s.nx → vis V s s' → fresh ρ s s' → Rel G ρ (res V s.h.get) w → LR ρ args args' → ∃ v' w' ρ', (callFunc f ⟨args'⟩).run P w = .ok (.value v') w' ∧ VR ρ' v v' ∧ Out G V ρ s w ρ' s' w' := by
  unfold extX at h
  split at h
  · rename_i k1 a k2 b k3 c
    split at h
    · rename_i hc
      cases h
      have hc := ble_iff.1 hc
      refine ⟨Tr.refl _, fun V ρ w args' hw hG hv hf hr hl => ⟨_, w, ρ, ?_, .tuple (.cons (.int _ _) (.cons (.int _ _) .nil)), Out.idle rfl rfl hr⟩⟩
      have hg := hl.ground rfl
      subst hg
      have hc' : ¬ (1 < c) := by omega
      have := hx (.int k1 (.ofNat a)) (.int k2 (.ofNat b)) (.int k3 (.ofNat c)) w
      refine this.trans ?_
      have hdef : Extern.MathBitsCarry.three "Add64" #[.int k1 (.ofNat a), .int k2 (.ofNat b), .int k3 (.ofNat c)] = (do
        let c ← (do pure (← asInt (.int k3 (.ofNat c))).toNat)
        if c > 1 then unsupported (.noEntry ("extern/math/bits." ++ "Add64" ++ ": a carry that is neither 0 nor 1"))
        pure ((← asInt (.int k1 (.ofNat a))).toNat, (← asInt (.int k2 (.ofNat b))).toNat, c)) := rfl
      rw [hdef]
      have ht : ∀ q : Nat, (Int.ofNat q).toNat = q := fun _ => rfl
      simp only [asInt, asIntOf, Sem.run_bind, Sem.run_pure, Result.andThen_ok, ht, if_neg hc', gt_iff_lt]
      rfl
    · cases h
  · rename_i b c
    split at h
    · rename_i cb hcb
      cases h
      refine ⟨Tr.refl _, fun V ρ w args' hw hG hv hf hr hl => ⟨_, w, ρ, ?_, .int _ _, Out.idle rfl rfl hr⟩⟩
      obtain ⟨n, rfl, rfl⟩ := byteOfX_eq hcb
      have hg := hl.ground rfl
      subst hg
      refine (hx (.string b) (.int .u8 (Int.ofNat n)) w).trans ?_
      have hfi := indexOf_find b.data.toList (UInt8.ofNat n) b.data.toList 0 (fun i => by simp)
      have hsz : b.data.toList.length = b.size := by rw [Array.length_toList]; rfl
      rw [hsz, ← List.range_eq_range'] at hfi
      have hget : ∀ i, i < b.size → b[i]! = b.data.toList[i]! := fun i hi => by
        have h1 : b[i]! = b[i] := getElem!_pos b i hi
        rw [h1]
        have h2 : b.data.toList[i]! = b.data.toList[i]'(by rw [hsz]; exact hi) := getElem!_pos _ _ _
        rw [h2]
        rfl
      have hfeq : (List.range b.size).find? (fun i => b[i]! == UInt8.ofNat n) = (List.range b.size).find? (fun i => b.data.toList[i]! == UInt8.ofNat n) := by
        have : ∀ (l : List Nat), (∀ i ∈ l, i < b.size) → l.find? (fun i => b[i]! == UInt8.ofNat n) = l.find? (fun i => b.data.toList[i]! == UInt8.ofNat n) := by
          intro l
          induction l with
          | nil => intro _; rfl
          | cons i l ih =>
            intro hl
            rw [List.find?_cons, List.find?_cons, hget i (hl i List.mem_cons_self), ih fun j hj => hl j (List.mem_cons_of_mem _ hj)]
        exact this _ fun i hi => List.mem_range.1 hi
      have hdef : Extern.BytealgIndexByte.indexByte #[.string b, .int .u8 (Int.ofNat n)] = (do
        let b ← Extern.Bytes.bytesOf (.string b)
        let c ← Extern.Bytes.asByte (.int .u8 (Int.ofNat n))
        match (List.range b.size).find? fun i => b[i]! == c with
        | some i => pure (goInt i)
        | none => pure (goInt (-1))) := rfl
      rw [hdef]
      have hu : (Int.ofNat n).toNat.toUInt8 = UInt8.ofNat n := rfl
      simp only [Sem.run_bind, Extern.Bytes.bytesOf, Extern.Bytes.asByte, Sem.run_pure, Result.andThen_ok, hu, hfeq]
      rw [← hfi]
      split <;> simp [goInt]
    · cases h
  · rename_i b c
    split at h
    · rename_i cb hcb
      cases h
      refine ⟨Tr.refl _, fun V ρ w args' hw hG hv hf hr hl => ⟨_, w, ρ, ?_, .int _ _, Out.idle rfl rfl hr⟩⟩
      obtain ⟨n, rfl, rfl⟩ := byteOfX_eq hcb
      have hg := hl.ground rfl
      subst hg
      refine (hx (.string b) (.int .u8 (Int.ofNat n)) w).trans ?_
      have hcf := countX_foldl (UInt8.ofNat n) b.data.toList 0
      have := Lib.foldl_data (fun (n' : Int) x => if x == UInt8.ofNat n then n' + 1 else n') ((0 : Nat) : Int) b
      rw [hcf] at this
      have hdef : Extern.BytealgCount.count #[.string b, .int .u8 (Int.ofNat n)] = (do
        let b ← Extern.Bytes.bytesOf (.string b)
        let c ← Extern.Bytes.asByte (.int .u8 (Int.ofNat n))
        pure (goInt (b.foldl (fun n x => if x == c then n + 1 else n) (0 : Nat)))) := rfl
      rw [hdef]
      have hu : (Int.ofNat n).toNat.toUInt8 = UInt8.ofNat n := rfl
      simp only [Sem.run_bind, Extern.Bytes.bytesOf, Extern.Bytes.asByte, Sem.run_pure, Result.andThen_ok, hu, this]
      rfl
    · cases h
  · rename_i v0
    cases h
    refine ⟨Tr.refl _, fun V ρ w args' hw hG hv hf hr hl => ?_⟩
    obtain ⟨v', rfl, hv'⟩ := hl.one_inv
    exact ⟨v', w, ρ, hx v' w, hv', Out.idle rfl rfl hr⟩
  · rename_i n
    split at h
    · rename_i hn0 hnb
      have hnb := blt_iff.1 hnb
      split at h
      · rename_i b s1 hn
        cases h
        have hn := new2_ok hn
        obtain ⟨hu8, rs, t, hrs, ht, hx⟩ := hx
        refine ⟨hn.tr, fun V ρ w args' hw hG hv hf hr hl => ?_⟩
        have hg := hl.ground rfl
        subst hg
        let cap := grownCap w n 0 e
        have hcap : n ≤ cap := grownCap_ge w _ _ _
        have hsize : ∀ (m k : Nat) (acc : Array Value), (Extern.BytealgMakeNoZero.digits m k acc).size = acc.size + m := by
          intro m
          induction m with
          | zero => intro k acc; simp [Extern.BytealgMakeNoZero.digits]
          | succ m ih => intro k acc; rw [Extern.BytealgMakeNoZero.digits, ih]; simp; omega
        let by_ := (Question.extern "internal/bytealg.MakeNoZero.bytes" 0).cut (w.drew.tape w.drew.drawn (.extern "internal/bytealg.MakeNoZero.bytes" 0))
        obtain ⟨ρ', g1, gc, g2, g3⟩ := new2_out (C := cap) hn hf hG hw hr (w0 := w.drew.drew) ⟨rfl, rfl, rfl, rfl⟩ (o' := .cells (Extern.BytealgMakeNoZero.digits cap by_ #[]) e) (fun ρ' hsub hC => by
          have := OR.opn (ρ := ρ') (b := s.nx) (c := []) (d := []) (rest := (Extern.BytealgMakeNoZero.digits cap by_ #[]).toList) (e := e) (z := 1) (C := cap) .nil hC (by simp [hsize])
          simpa using this)
        refine ⟨.slice (some ⟨w.heap.size, 0, none⟩) n cap, _, ρ', (hx _ w).trans ?_, .slice g1 (.inr ⟨Nat.le_refl _, hcap, cap, gc, Nat.le_refl _⟩), g2⟩
        have hdef : Extern.BytealgMakeNoZero.makeNoZero #[] rs #[.int .i64 (Int.ofNat n)] = (do
          let some t := rs[0]? | stuck "bytealg.MakeNoZero: no result type"
          let .slice elem ← underlying t | stuck "bytealg.MakeNoZero: slice type expected"
          if (Int.ofNat n) < 0 || (Int.ofNat n) > 2 ^ 48 then runtimePanic (.error "makeslice: len out of range")
          let cap ← choose (.appendCap (Int.ofNat n).toNat 0 elem)
          askRoom cap
          let bytes ← choose (.extern "internal/bytealg.MakeNoZero.bytes" 0)
          let a ← newRow elem (Extern.BytealgMakeNoZero.digits cap bytes #[])
          pure (.slice (some a) (Int.ofNat n).toNat cap)) := rfl
        rw [hdef]
        have h1 : ¬ ((281474976710656 : Int) < n) := by omega
        have hfo : (Question.appendCap n 0 e).forced = false := rfl
        have hfo2 : (Question.extern "internal/bytealg.MakeNoZero.bytes" 0).forced = false := rfl
        have hcap' : (Question.appendCap n 0 e).cut (w.tape w.drawn (Question.appendCap n 0 e)) = cap := rfl
        simp [hrs, run_underlying ht, h1, hfo, hfo2, hcap', run_askRoom, newRow]
        rfl
      · cases h
    · cases h
  · cases h

end
end Go.Proofs.YtnhcbfaomehaeaaGreatDoor.R1

/- Appending. -/
import Derived.Test.YtnhcbfaomehaeaaGreatDoorA8
namespace Go.Proofs.YtnhcbfaomehaeaaGreatDoor.R1
open Go
set_option linter.unusedVariables false
set_option linter.unusedSimpArgs false

theorem growBy_le (n : Nat) : ∀ (r c : Nat), Builtin.growBy n r c ≤ max c (n + (n + 768) / 4)
  | 0, c => by simp only [Builtin.growBy]; omega
  | r + 1, c => by
    simp only [Builtin.growBy]
    split
    · omega
    · have := growBy_le n r (c + (c + 768) / 4)
      have h1 : (c + 768) / 4 ≤ (n + 768) / 4 := Nat.div_le_div_right (by omega)
      omega
theorem nextslicecap_le {n c : Nat} (h : c < n) : Builtin.nextslicecap n c ≤ 2 * n + 1000 := by
  unfold Builtin.nextslicecap
  split
  · omega
  · split
    · omega
    · have := growBy_le n 4 c
      omega

section
variable {P : Program} {tb : Tab} {G : Nat} {ev : Ev} {s s' : St} {r : R}

theorem run_askRoom (n : Nat) (w : World) : (askRoom n).run P w = .ok () w := by
  unfold askRoom
  split <;> simp [mark, Sem.run]

theorem run_append_in {t t' e ty : TypeId} {i : TypeInfo} {dd : TypeDesc} {w w2 : World} (ht : P.underlying t = some (.slice e)) (ht' : P.underlying t' = some dd) (hdd : ∀ k, dd ≠ .int k) (hi : P.info? e = some i) {a : Addr} {n c m : Nat} {x : Value} {new : List Value}
    (hm : (Builtin.lenOf x).run P w = .ok m w) (hnew : (Builtin.firstCells i.size m x).run P w = .ok ⟨new⟩ w) (hneed : n + m ≤ c) (hst : (storeCells (a.add (n * i.size)) new).run P w = .ok () w2) :
    (Builtin.append_ #[t, t'] ty #[.slice (some a) n c, x]).run P w = .ok (.slice (some a) (n + m) c) w2 := by
  have hz : (dd matches .int _) = false := by cases dd <;> first | rfl | exact absurd rfl (hdd _)
  unfold Builtin.append_
  simp [run_underlying ht, run_underlying ht', hz, sizeOf, typeInfo, hi, hm, hneed, hnew, hst]

theorem run_append_grow {t t' e ty : TypeId} {i : TypeInfo} {z : Value} {dd : TypeDesc} {w : World} (ht : P.underlying t = some (.slice e)) (ht' : P.underlying t' = some dd) (hdd : ∀ k, dd ≠ .int k) (hi : P.info? e = some i) (hz0 : i.zero = some z) {base : Option Addr} {n c m : Nat} {x : Value} {old new : List Value}
    (hm : (Builtin.lenOf x).run P w = .ok m w) (hold : (Builtin.firstCells i.size n (.slice base n c)).run P (w.drew) = .ok ⟨old⟩ (w.drew)) (hnew : (Builtin.firstCells i.size m x).run P (w.drew) = .ok ⟨new⟩ (w.drew))
    (hneed : c < n + m) (hsm : n + m < 200000) (hb : i.bytes < 1000) :
    ∃ cap rest, n + m ≤ cap ∧ rest.length = (cap - (n + m)) * z.cells.size ∧ (Builtin.append_ #[t, t'] ty #[.slice base n c, x]).run P w = .ok (.slice (some ⟨w.heap.size, 0, none⟩) (n + m) cap) ((w.drew).alloc (.cells ⟨old ++ new ++ rest⟩ e)) := by
  have hz : (dd matches .int _) = false := by cases dd <;> first | rfl | exact absurd rfl (hdd _)
  have h1 := nextslicecap_le hneed
  have h2 : ¬ (281474976710656 < Builtin.nextslicecap (n + m) c * i.bytes) := by
    have : Builtin.nextslicecap (n + m) c * i.bytes ≤ 401000 * 1000 := Nat.mul_le_mul (by omega) (by omega)
    omega
  have h3 : ¬ (n + m ≤ c) := by omega
  have h4 : ¬ (9223372036854775807 < (n : Int) + (m : Int)) := by omega
  refine ⟨grownCap w (n + m) c e, (Builtin.zeroCells z.cells (grownCap w (n + m) c e - (n + m))).toList, grownCap_ge w _ _ _, by simp [Builtin.zeroCells], ?_⟩
  have hfo : (Question.appendCap (n + m) c e).forced = false := rfl
  unfold Builtin.append_ grownCap
  simp [run_underlying ht, run_underlying ht', hz, sizeOf, typeInfo, hi, hm, h3, h2, h4, hfo, run_askRoom, hold, hnew, zeroValue, hz0, newRow]
  congr 2
  apply Array.toList_inj.1
  simp

theorem run_append_growZ {t t' e ty : TypeId} {i : TypeInfo} {z : Value} {k : IntKind} {w : World} (ht : P.underlying t = some (.slice e)) (ht' : P.underlying t' = some (.int k)) (hi : P.info? e = some i) (hz0 : i.zero = some z) (hzs : z.cells.size = i.size) {m : Nat}
    (hm0 : 0 < m) (hsm : m < 200000) (hb : i.bytes < 1000) (hs0 : 0 < i.size) :
    ∃ cap rest, m ≤ cap ∧ rest.length = (cap - m) * z.cells.size ∧ (Builtin.append_ #[t, t'] ty #[.slice none 0 0, .int .i64 (m : Int)]).run P w = .ok (.slice (some ⟨w.heap.size, 0, none⟩) m cap) ((w.drew).alloc (.cells ⟨rep z.cells.toList m ++ rest⟩ e)) := by
  have h1 := nextslicecap_le hm0
  have h2 : ¬ (281474976710656 < Builtin.nextslicecap m 0 * i.bytes) := by
    have : Builtin.nextslicecap m 0 * i.bytes ≤ 401000 * 1000 := Nat.mul_le_mul (by omega) (by omega)
    omega
  have h3 : ¬ m = 0 := by omega
  have w1 : IntKind.i64.wrap (m : Int) = m := by rw [IntKind.wrap_i64]; omega
  have h5 : ¬ ((m : Int) < 0) := by omega
  have h6 : ¬ (281474976710656 < (m : Int) * i.bytes) := by
    have hbc' : m * i.bytes ≤ 200000 * 1000 := Nat.mul_le_mul (by omega) (by omega)
    have : ((m * i.bytes : Nat) : Int) ≤ 281474976710656 := by omega
    rw [Int.natCast_mul] at this
    omega
  have hrep : Builtin.zeroCells z.cells m = ⟨rep z.cells.toList m⟩ := range_rep z.cells m
  have h7 : ¬ (9223372036854775807 < (m : Int)) := by omega
  refine ⟨grownCap w m 0 e, (Builtin.zeroCells z.cells (grownCap w m 0 e - m)).toList, grownCap_ge w _ _ _, by simp [Builtin.zeroCells], ?_⟩
  have hfo : (Question.appendCap m 0 e).forced = false := rfl
  unfold Builtin.append_ grownCap
  have hs1 : ¬ m * i.size = 0 := Nat.ne_of_gt (Nat.mul_pos hm0 hs0)
  simp [run_underlying ht, run_underlying ht', sizeOf, typeInfo, hi, asInt, asIntOf, w1, h5, h6, h7, h3, h2, hfo, run_askRoom, Builtin.firstCells, hs1, zeroValue, hz0, newRow, hrep]
  congr 2
  apply Array.toList_inj.1
  simp

theorem cell_heap {w w1 : World} (h : w1.heap = w.heap) (a : Addr) : w1.cell? a = w.cell? a := by unfold World.cell?; rw [h]

structure Src (P : Program) (w : World) (x' : Value) (m sz : Nat) (new' : List Value) : Prop where
  len : (Builtin.lenOf x').run P w = .ok m w
  cells : ∀ w1 : World, w1.heap = w.heap → (Builtin.firstCells sz m x').run P w1 = .ok ⟨new'⟩ w1

structure ElemsOk (s : St) (z : Nat) (v : Value) (n : Nat) (vs : List Value) (s' : St) : Prop where
  tr : Tr s s'
  h : s'.h = s.h
  nx : s'.nx = s.nx
  wr : s'.wr = s.wr
  len : vs.length = n * z
  run : ∀ (P : Program) (G : Nat) (V : Nat → Bool) (ρ : Ren) (w : World) (v' : Value), Wf s → vis V s s' → Rel G ρ (res V s.h.get) w → VR ρ v v' → ∃ vs', LR ρ vs vs' ∧ Src P w v' n z vs'

theorem elems_ok {z n : Nat} {v : Value} {vs : List Value} (h : elems s z v = some (n, vs, s')) : ElemsOk s z v n vs s' := by
  unfold elems at h
  split at h
  · split at h
    · rename_i hn
      cases h
      have hn := beq_iff.1 hn
      subst hn
      refine ⟨Tr.refl _, rfl, rfl, rfl, by simp, fun P G V ρ w v' hw hv hr hvr => ⟨[], .nil, ?_⟩⟩
      cases hvr
      exact ⟨by simp [Builtin.lenOf], fun w1 _ => by simp [Builtin.firstCells]⟩
    · cases h
  · split at h
    · rename_i a n0 c hn
      cases h
      have hn := beq_iff.1 hn
      subst hn
      refine ⟨Tr.refl _, rfl, rfl, rfl, by simp, fun P G V ρ w v' hw hv hr hvr => ⟨[], .nil, ?_⟩⟩
      rcases hvr.slice_inv with ⟨b', c', _, _, _, rfl⟩ | ⟨_, _, _, a', c', rfl⟩ <;>
        exact ⟨by simp [Builtin.lenOf], fun w1 _ => by simp [Builtin.firstCells, loadCells, loadCellsFrom]⟩
    · rename_i a n0 c hn
      split at h
      · rename_i vs0 s1 hl
        cases h
        have hl := loadX_ok hl
        refine ⟨hl.tr, hl.h, hl.nx, hl.wr, hl.len, fun P G V ρ w v' hw hv hr hvr => ?_⟩
        have hV := hv.rd hw hl.is hl.touch
        obtain ⟨k, vs', f1, f2, f3⟩ := hl.run G V ρ w hV hr
        refine ⟨vs', f2, ?_⟩
        rcases hvr.slice_inv with ⟨b', c', e1, e2, _, hv'⟩ | ⟨_, hn0, _⟩
        · have hk : b' = k := by rw [e1] at f1; exact Option.some.inj f1
          subst hk
          subst hv'
          refine ⟨by simp [Builtin.lenOf], fun w1 hw1 => ?_⟩
          have h1 := run_loadCells_list (P := P) (w := w1) ⟨b', _, none⟩ vs' (fun j u hj => by rw [add_plain, cell_heap hw1]; exact f3 j u hj)
          rw [f2.length, hl.len] at h1
          simp only [Builtin.firstCells, h1]
        · exact absurd hn0 (beq_false hn)
      · cases h
  · rename_i b
    split at h
    · rename_i hz
      cases h
      have hz := beq_iff.1 hz
      refine ⟨Tr.refl _, rfl, rfl, rfl, by simp [hz], fun P G V ρ w v' hw hv hr hvr => ⟨_, LR.of_ground ?_, ?_⟩⟩
      · generalize b.data.toList = l
        induction l with
        | nil => rfl
        | cons x l ih => simpa [allL, ground] using ih
      · have hsz : b.data.toList.length = b.size := by rw [Array.length_toList]; rfl
        cases hvr
        refine ⟨by simp [Builtin.lenOf], fun w1 _ => ?_⟩
        have hex : (b.extract 0 b.data.toList.length).data = b.data := by
          apply Array.toList_inj.1
          rw [Lib.extract_data]
          simp
          exact List.take_of_length_le (by rw [hsz]; exact Nat.le_refl _)
        simp only [Builtin.firstCells, hex, Sem.run_pure]
        congr 1
        apply Array.toList_inj.1
        simp
    · cases h
  · cases h

end
end Go.Proofs.YtnhcbfaomehaeaaGreatDoor.R1

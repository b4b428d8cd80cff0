/- The queue as an abstract list; what it owns, what it leaves alone. -/
import Derived.Test.YtmilpjkjcanghaaAbs
namespace Go.Proofs.Ytmilpjkjcanghaa
open Go.RowKit
set_option linter.unusedVariables false
set_option linter.unusedSimpArgs false

/-! ## Requests -/

/-- A pod's request can be read, in a block of K. -/
def RK (w : World) (K : Nat → Prop) (p : PV) : Prop := ∃ l : List Int, l.length ≤ 1000 ∧ ISK w K p.rA p.rn l
theorem RK.keep {w w' : World} {K : Nat → Prop} {p : PV} (h : RK w K p) (hs : ∀ k, k < w.heap.size → K k → w'.heap[k]? = w.heap[k]?) : RK w' K p ∧ ab w' p = ab w p := by
  obtain ⟨l, h1, h2⟩ := h
  have h3 := h2.keep hs
  refine ⟨⟨l, h1, h3⟩, ?_⟩
  unfold ab
  rw [h2.read, h3.read]
theorem RK.mono {w : World} {K K' : Nat → Prop} {p : PV} (h : RK w K p) (hk : ∀ b, b < w.heap.size → K b → K' b) : RK w K' p := h.imp fun l h => ⟨h.1, h.2.mono hk⟩
theorem RK.x {w w' : World} {K : Nat → Prop} {p : PV} (h : RK w K p) (hx : X w w') : RK w' K p := (h.keep fun k hk _ => hx.block k hk).1
theorem RK.abx {w w' : World} {K : Nat → Prop} {p : PV} (h : RK w K p) (hx : X w w') : ab w' p = ab w p := (h.keep fun k hk _ => hx.block k hk).2
theorem RK.lt {w : World} {K : Nat → Prop} {p : PV} (h : RK w K p) : RK w (fun b => K b ∧ b < w.heap.size) p := h.mono fun _ h1 h2 => ⟨h2, h1⟩

/-! ## Slices of pods -/

/-- A slice of pods that reads as L, in a block of K. -/
def PSK (w : World) (K : Nat → Prop) (v : Value) (L : List PV) : Prop :=
  ∃ A c, v = .slice A L.length c ∧ L.length ≤ c ∧ (L ≠ [] → ∃ b o, A = some ⟨b, o, none⟩ ∧ K b ∧ ∀ i p k u, L[i]? = some p → p.cs[k]? = some u → w.cell? ⟨b, o + i * 9 + k, none⟩ = some u)
theorem pods_lt {w : World} {L : List PV} {b o : Nat} (hne : L ≠ []) (h : ∀ i p k u, L[i]? = some p → p.cs[k]? = some u → w.cell? ⟨b, o + i * 9 + k, none⟩ = some u) : b < w.heap.size := by
  have hl : 0 < L.length := List.length_pos_iff.2 hne
  exact World.block_lt_of_cell? w _ (h 0 L[0] 0 _ (List.getElem?_eq_getElem hl) (show L[0].cs[0]? = some (.int .i64 L[0].id) from rfl))
theorem PSK.ps {w : World} {K : Nat → Prop} {v : Value} {L : List PV} (h : PSK w K v L) : PS w w.heap.size v L := by
  obtain ⟨A, c, h1, h2, h3⟩ := h
  exact ⟨A, c, h1, h2, fun hne => by obtain ⟨b, o, e1, e2, e3⟩ := h3 hne; exact ⟨b, o, e1, pods_lt hne e3, e3⟩⟩
theorem PS.psk {w : World} {B : Nat} {v : Value} {L : List PV} (h : PS w B v L) : PSK w (· < B) v L := h
theorem PSK.mono {w : World} {K K' : Nat → Prop} {v : Value} {L : List PV} (h : PSK w K v L) (hk : ∀ b, b < w.heap.size → K b → K' b) : PSK w K' v L := by
  obtain ⟨A, c, h1, h2, h3⟩ := h
  exact ⟨A, c, h1, h2, fun hne => by obtain ⟨b, o, e1, e2, e3⟩ := h3 hne; exact ⟨b, o, e1, hk b (pods_lt hne e3) e2, e3⟩⟩
theorem PSK.keep {w w' : World} {K : Nat → Prop} {v : Value} {L : List PV} (h : PSK w K v L) (hs : ∀ k, k < w.heap.size → K k → w'.heap[k]? = w.heap[k]?) : PSK w' K v L := by
  obtain ⟨A, c, h1, h2, h3⟩ := h
  refine ⟨A, c, h1, h2, fun hne => ?_⟩
  obtain ⟨b, o, e1, e2, e3⟩ := h3 hne
  refine ⟨b, o, e1, e2, fun i p k u hi hk => ?_⟩
  have hc := e3 i p k u hi hk
  have he := hs b (pods_lt hne e3) e2
  unfold World.cell? at hc ⊢
  simp only at hc ⊢
  rw [he]
  exact hc
theorem PSK.x {w w' : World} {K : Nat → Prop} {v : Value} {L : List PV} (h : PSK w K v L) (hx : X w w') : PSK w' K v L := h.keep fun k hk _ => hx.block k hk
theorem PSK.lt {w : World} {K : Nat → Prop} {v : Value} {L : List PV} (h : PSK w K v L) : PSK w (fun b => K b ∧ b < w.heap.size) v L := h.mono fun _ h1 h2 => ⟨h2, h1⟩
theorem PSK.nil (w : World) (K : Nat → Prop) : PSK w K (.slice none 0 0) [] := ⟨none, 0, rfl, Nat.le_refl _, fun h => absurd rfl h⟩
theorem OwnP.psk {w : World} {B : Nat} {v : Value} {L : List PV} (h : OwnP w B v L) : PSK w (fun b => B ≤ b ∧ v.ownBlock = some b) v L := by
  by_cases hne : L = []
  · obtain ⟨A, c, h1, h2, _⟩ := h.ps
    exact ⟨A, c, h1, h2, fun h => absurd hne h⟩
  · obtain ⟨g, cap, sp, hv, hB, hb, h1, h2, h3⟩ := h.open_ hne
    refine ⟨_, cap, hv, h1, fun _ => ⟨g, 0, rfl, ⟨hB, by rw [hv]; rfl⟩, fun i p k u hi hk => ?_⟩⟩
    exact (show BL w g L from ⟨sp, hb⟩).cell hi hk
theorem NewS.psk {w : World} {B : Nat} {v : Value} {L : List PV} (h : NewS w B v L) : PSK w (B ≤ ·) v L := by
  obtain ⟨A, c, g, h1, h2, h3, h4⟩ := h.open_
  exact ⟨A, c, h1, h2, fun hne => ⟨g, 0, (h4 hne).1, h3, fun i p k u hi hk => (h4 hne).2.cell hi hk⟩⟩
theorem OwnP.keep {w w' : World} {B : Nat} {v : Value} {L : List PV} (h : OwnP w B v L) (hs : ∀ k, v.ownBlock = some k → w'.heap[k]? = w.heap[k]?) : OwnP w' B v L := by
  obtain ⟨hl, h⟩ := h
  refine ⟨hl, ?_⟩
  rcases h with h | ⟨g, cap, cur, rfl, hg, hh, r⟩
  · exact .inl h
  · exact .inr ⟨g, cap, cur, rfl, hg, (hs g rfl).trans hh, r⟩

/-! ## What a queue owns -/

structure FO (O O' : Nat → Prop) (w w' : World) : Prop where
  os : w'.os = w.os
  tape : w'.tape = w.tape
  output : w'.output = w.output
  size : w.heap.size ≤ w'.heap.size
  block : ∀ k, k < w.heap.size → ¬ O k → w'.heap[k]? = w.heap[k]?
  own : ∀ k, k < w.heap.size → O' k → O k
theorem FO.of_x {O : Nat → Prop} {w w' : World} (h : X w w') : FO O O w w' := ⟨h.os, h.tape, h.output, h.size, fun k hk _ => h.block k hk, fun _ _ h => h⟩
theorem FO.trans {O O' O'' : Nat → Prop} {a b c : World} (h : FO O O' a b) (k : FO O' O'' b c) : FO O O'' a c :=
  ⟨k.os.trans h.os, k.tape.trans h.tape, k.output.trans h.output, Nat.le_trans h.size k.size,
    fun i hi hn => (k.block i (Nat.lt_of_lt_of_le hi h.size) fun h' => hn (h.own i hi h')).trans (h.block i hi hn),
    fun i hi h' => h.own i hi (k.own i (Nat.lt_of_lt_of_le hi h.size) h')⟩
theorem FO.below {O O' : Nat → Prop} {B : Nat} {a w w' : World} (h : FO O O' w w') (ha : Below B a w) (hB : B ≤ w.heap.size) (hO : ∀ k, O k → B ≤ k) : Below B a w' :=
  ha.trans ⟨h.os, h.tape, h.output, h.size, fun k hk => h.block k (by omega) fun ho => by have := hO k ho; omega⟩

structure QI (w : World) (B b0 bm : Nat) (v : Value) (Ds : List PV) (m : Int → Option Int) (O : Nat → Prop) : Prop where
  qs : QS w B b0 bm v Ds m
  pok : POk Ds m
  heap : Heap Ds.length Ds
  o0 : O b0
  om : O bm
  ov : ∀ i, v.ownBlock = some i → O i
  rq : ∀ p ∈ Ds, RK w (fun b => O b ∧ b ≠ b0 ∧ b ≠ bm ∧ v.ownBlock ≠ some b) p
  lo : ∀ b, O b → B ≤ b ∧ b < w.heap.size

/-- The queue holds A. -/
def QA (w : World) (B b0 : Nat) (O : Nat → Prop) (A : List AP) : Prop := ∃ bm v Ds m, QI w B b0 bm v Ds m O ∧ QV w Ds = A

theorem QV_keep {w w' : World} {K : PV → Nat → Prop} {Ds : List PV} (h : ∀ p ∈ Ds, RK w (K p) p) (hs : ∀ p ∈ Ds, ∀ k, k < w.heap.size → K p k → w'.heap[k]? = w.heap[k]?) : QV w' Ds = QV w Ds := by
  unfold QV
  refine List.map_congr_left fun p hp => ?_
  have hp' := ((sortR_srt Ds).2.mem p).2 hp
  exact ((h p hp').keep (hs p hp')).2

theorem QI.keep {w w' : World} {B b0 bm : Nat} {v : Value} {Ds : List PV} {m : Int → Option Int} {O : Nat → Prop} (h : QI w B b0 bm v Ds m O) (hsz : w.heap.size ≤ w'.heap.size) (hs : ∀ k, k < w.heap.size → O k → w'.heap[k]? = w.heap[k]?) : QI w' B b0 bm v Ds m O := by
  obtain ⟨M, c, hM, hMo⟩ := h.qs.map
  refine ⟨⟨h.qs.hb0, h.qs.hbm, h.qs.own.keep fun k hk => hs k ((h.qs.own.lt k hk).2) (h.ov k hk), (hs b0 h.qs.blk.lt h.o0).trans h.qs.blk, ⟨M, c, (hs bm hM.lt h.om).trans hM, hMo⟩, h.qs.n0, h.qs.nm⟩,
    h.pok, h.heap, h.o0, h.om, h.ov, fun p hp => ((h.rq p hp).keep fun k hk hK => hs k hk hK.1).1, fun b hb => ⟨(h.lo b hb).1, Nat.lt_of_lt_of_le (h.lo b hb).2 hsz⟩⟩
theorem QA.keep {w w' : World} {B b0 : Nat} {O : Nat → Prop} {A : List AP} (h : QA w B b0 O A) (hsz : w.heap.size ≤ w'.heap.size) (hs : ∀ k, k < w.heap.size → O k → w'.heap[k]? = w.heap[k]?) : QA w' B b0 O A := by
  obtain ⟨bm, v, Ds, m, h1, h2⟩ := h
  exact ⟨bm, v, Ds, m, h1.keep hsz hs, (QV_keep h1.rq fun p hp k hk hK => hs k hk hK.1).trans h2⟩
theorem QA.x {w w' : World} {B b0 : Nat} {O : Nat → Prop} {A : List AP} (h : QA w B b0 O A) (hx : X w w') : QA w' B b0 O A := h.keep hx.size fun k hk _ => hx.block k hk
theorem QI.x {w w' : World} {B b0 bm : Nat} {v : Value} {Ds : List PV} {m : Int → Option Int} {O : Nat → Prop} (h : QI w B b0 bm v Ds m O) (hx : X w w') : QI w' B b0 bm v Ds m O := h.keep hx.size fun k hk _ => hx.block k hk
theorem QA.lo {w : World} {B b0 : Nat} {O : Nat → Prop} {A : List AP} (h : QA w B b0 O A) : ∀ b, O b → B ≤ b ∧ b < w.heap.size := by
  obtain ⟨bm, v, Ds, m, h1, h2⟩ := h
  exact h1.lo
theorem QI.len {w : World} {B b0 bm : Nat} {v : Value} {Ds : List PV} {m : Int → Option Int} {O : Nat → Prop} {A : List AP} (h : QI w B b0 bm v Ds m O) (hA : QV w Ds = A) : Ds.length = A.length := by rw [← hA, QV_len]

/-- The first pod. -/
theorem QV_head {w : World} {Ds : List PV} (hH : Heap Ds.length Ds) (hne : Ds ≠ []) : ∃ r, QV w Ds = ab w (at_ Ds 0) :: r := by
  cases Ds with
  | nil => exact absurd rfl hne
  | cons d r =>
    have hs : sortR (d :: r) = d :: sortR r := by
      refine sortR_of (List.pairwise_cons.2 ⟨fun y hy => ?_, (sortR_srt r).1⟩) ((Stab.refl [d]).app (sortR_srt r).2)
      have hy' := ((sortR_srt r).2.mem y).2 hy
      obtain ⟨i, hi, rfl⟩ := List.getElem_of_mem hy'
      have := heap_least hH (i + 1) (by simp; omega)
      unfold leA at this
      have e1 : at_ (d :: r) 0 = d := rfl
      have e2 : at_ (d :: r) (i + 1) = r[i] := by
        unfold at_
        rw [getD_at (by simp; omega : i + 1 < (d :: r).length)]
        rfl
      rwa [e1, e2] at this
    exact ⟨QV w r, by unfold QV; rw [hs]; rfl⟩

theorem QV_find {w : World} {Ds : List PV} {m : Int → Option Int} (h : POk Ds m) {x : Int} {i : Nat} (hi : i < Ds.length) (hx : (at_ Ds i).id = x) : (QV w Ds).find? (fun a => a.1.id == x) = some (ab w (at_ Ds i)) := by
  have hany : (QV w Ds).any (fun a => a.1.id == x) = true := by
    rw [QV_any h x, ← hx, h.at_ i hi]; rfl
  cases hf : (QV w Ds).find? (fun a => a.1.id == x) with
  | none =>
    rw [List.find?_eq_none] at hf
    obtain ⟨a, ha, he⟩ := List.any_eq_true.1 hany
    exact absurd he (hf a ha)
  | some a =>
    have h1 := List.find?_some hf
    have h2 := List.mem_of_find?_eq_some hf
    unfold QV at h2
    obtain ⟨q, hq, rfl⟩ := List.mem_map.1 h2
    have hq' := ((sortR_srt Ds).2.mem q).2 hq
    obtain ⟨j, hj, rfl⟩ := List.getElem_of_mem hq'
    have e : at_ Ds j = Ds[j] := getD_at hj
    have hid : Ds[j].id = x := by simpa [ab, nrm] using h1
    have := h.inj hj hi (by rw [e, hid, hx])
    subst this
    rw [e]

end Go.Proofs.Ytmilpjkjcanghaa

/- Appending, told finer; memory that moves towards one end. -/
import Derived.Test.YtmilpjkjcanghaaDoorP7
import Derived.Test.YtmilpjkjcanghaaDoorDraw3
namespace Go.Proofs.YtmilpjkjcanghaaDoor
open Go.RowKit
set_option linter.unusedVariables false
set_option linter.unusedSimpArgs false

theorem Blk.row {w : World} {k : Nat} {t : TypeId} {cur : Array Value} (h : w.heap[k]? = some (.cells cur t (0, 0))) : Blk w k t cur.toList := by
  unfold Blk
  simpa using h

/-- The row of one block, with cs put at o. -/
def PutRow (e o : Nat) (cs : List Value) (w w' : World) (k : Nat) : Prop := ∃ cur : List Value, Blk w k e cur ∧ o + cs.length ≤ cur.length ∧ Blk w' k e (cur.take o ++ cs ++ cur.drop (o + cs.length))

theorem run_append_fine {P : Program} {w : World} {base t ty e : Nat} {i : TypeInfo} {z : Value} {size bytes : Nat} (ht : P.underlying t = some (.slice e)) (hi : P.info? e = some i) (hz : i.zero = some z)
    (hsize : i.size = size) (hby : i.bytes = bytes) (hzs : z.cells.size = size) (hsz : 0 < size) {v : Value} {n : Nat} {xs : List Value} (hown : w.ownsRow base e size v n xs)
    {A : Option Addr} {m c : Nat} {news : List Value} (hl : news.length = m * size) (hnews : 0 < m → ∃ a, A = some a ∧ ∀ j u, news[j]? = some u → w.cell? (a.add j) = some u) (h1 : ∀ u ∈ news, u.oneCell' = true)
    (h63 : n + m ≤ 1000) (hbytes : bytes ≤ 1000) (hbase : base ≤ w.heap.size) :
    ∃ v' w', (Builtin.append_ #[t, t] ty #[v, .slice A m c]).run P w = .ok v' w' ∧ w'.ownsRow base e size v' (n + m) (xs ++ news) ∧ w.grownBy w' v.ownBlock ∧ (v'.ownBlock = v.ownBlock ∨ v'.ownBlock = some w.heap.size) ∧ (∃ c', v' = .slice (v'.ownBlock.map fun g => ⟨g, 0, none⟩) (n + m) c' ∧ n + m ≤ c') ∧
      (X w w' ∨ (0 < m ∧ ∃ g, v.ownBlock = some g ∧ base ≤ g ∧ g < w.heap.size ∧ PutRow e (n * size) news w w' g)) := by
  subst hsize
  subst hby
  have hb1 : (n + m) * i.bytes ≤ 1000 * 1000 := Nat.mul_le_mul h63 hbytes
  have hmx : (1000 : Nat) ≤ maxLen := by unfold maxLen; omega
  have nothing : m = 0 → news = [] := fun h => List.eq_nil_of_length_eq_zero (by rw [hl, h, Nat.zero_mul])
  rcases hown.2 with ⟨rfl, rfl⟩ | ⟨g, cap, cur, rfl, hbg, hg, hnc, hcm, hcs, htake⟩
  · have hx : xs = [] := List.eq_nil_of_length_eq_zero (by simpa using hown.1)
    subst hx
    by_cases hm : m = 0
    · have hn := nothing hm
      subst hm; subst hn
      refine ⟨.slice none 0 0, w, ?_, World.ownsRow_nil w base e i.size, ⟨rfl, rfl, rfl, Nat.le_refl _, fun _ _ _ => rfl⟩, Or.inl rfl, ⟨0, rfl, Nat.le_refl _⟩, .inl (X.refl _)⟩
      cases A <;> simp [Builtin.append_, run_underlying ht, sizeOf, typeInfo, hi, Builtin.lenOf, Builtin.firstCells, loadCells, loadCellsFrom]
    · obtain ⟨a, rfl, hn⟩ := hnews (by omega)
      have hr := run_append_nil (P := P) w t ty e i z ht hi hz a m c news hl hn (by omega) (by omega) (by have hb := hb1; simp only [Nat.zero_add] at hb; omega)
      have hge := grownCap_ge w m 0 e
      refine ⟨_, _, hr, ?_, ⟨rfl, rfl, rfl, by simp, fun k hk _ => heap_alloc_old w.drew _ hk⟩, Or.inr rfl, ⟨grownCap w m 0 e, by simp [Value.ownBlock], by omega⟩, .inl (X.trans (X.drew w) (X.alloc _ _))⟩
      refine ⟨by simpa using hl, .inr ⟨w.heap.size, _, _, by simp, hbase, heap_alloc_new w.drew _, by omega, grownCap_le_maxLen w m 0 e (by omega), ?_, ?_⟩⟩
      · simp only [Array.size_append, List.size_toArray, size_zeroCells, hzs, hl, ← Nat.add_mul]
        congr 1
        omega
      · simp only [Array.toList_append, List.nil_append, Nat.zero_add]
        rw [← hl]
        exact List.take_left
  · by_cases hm : m = 0
    · have hn := nothing hm
      subst hm; subst hn
      refine ⟨.slice (some ⟨g, 0, none⟩) n cap, w, ?_, by simpa using hown, ⟨rfl, rfl, rfl, Nat.le_refl _, fun _ _ _ => rfl⟩, Or.inl rfl, ⟨cap, by simp [Value.ownBlock], by omega⟩, .inl (X.refl _)⟩
      cases A <;> simp [Builtin.append_, run_underlying ht, sizeOf, typeInfo, hi, Builtin.lenOf, Builtin.firstCells, loadCells, loadCellsFrom, hnc, storeCells]
    obtain ⟨a, rfl, hn⟩ := hnews (by omega)
    have hlen : (xs ++ news).length = (n + m) * i.size := by rw [List.length_append, hown.1, hl, Nat.add_mul]
    by_cases hroom : n + m ≤ cap
    · have hfit : n * i.size + news.length ≤ cur.size := by rw [hl, hcs, ← Nat.add_mul]; exact Nat.mul_le_mul_right _ hroom
      have hr := run_append_room (P := P) w t ty e i ht hi g n cap cur hg a m c news hl hn h1 hroom hfit
      have hset := setRow_heap w g cur (cur.toList.take (n * i.size) ++ news ++ cur.toList.drop (n * i.size + news.length)).toArray e (0, 0) hg
      refine ⟨_, _, hr, ⟨hlen, .inr ⟨g, cap, _, rfl, hbg, hset, hroom, hcm, ?_, ?_⟩⟩, ⟨rfl, rfl, rfl, by simp, fun k _ hk => setRow_other w g k _ (fun e => hk (by simp [Value.ownBlock, e]))⟩, Or.inl rfl, ⟨cap, by simp [Value.ownBlock], hroom⟩, .inr ⟨by omega, g, rfl, hbg, (Blk.row hg).lt, cur.toList, Blk.row hg, by simpa using hfit, ?_⟩⟩
      · simp only [List.size_toArray, List.length_append, List.length_take, List.length_drop, Array.length_toList]
        omega
      · rw [htake, ← hlen]
        exact List.take_left
      · unfold Blk
        exact hset
    · have holds : ∀ j u, xs[j]? = some u → w.cell? ((⟨g, 0, none⟩ : Addr).add j) = some u := hown.cells (g := g) rfl
      have hr := run_append_grow (P := P) w t ty e i z ht hi hz ⟨g, 0, none⟩ n cap xs hown.1 holds a m c news hl hn (by omega) (by omega) (growslice_fits (by omega) (by omega))
      have hge := grownCap_ge w (n + m) cap e
      refine ⟨_, _, hr, ?_, ⟨rfl, rfl, rfl, by simp, fun k hk _ => heap_alloc_old w.drew _ hk⟩, Or.inr rfl, ⟨grownCap w (n + m) cap e, by simp [Value.ownBlock], by omega⟩, .inl (X.trans (X.drew w) (X.alloc _ _))⟩
      refine ⟨hlen, .inr ⟨w.heap.size, _, _, rfl, hbase, heap_alloc_new w.drew _, hge, grownCap_le_maxLen w (n + m) cap e (by omega), ?_, ?_⟩⟩
      · simp only [Array.size_append, List.size_toArray, size_zeroCells, hzs, hown.1, hl, ← Nat.add_mul]
        congr 1
        omega
      · simp only [Array.toList_append, List.append_assoc]
        rw [← List.append_assoc, ← hlen]
        exact List.take_left

theorem PutRow.same {e o : Nat} {cs : List Value} {w w' : World} {k : Nat} {cur : List Value} (h : PutRow e o cs w w' k) (hB : Blk w k e cur) : o + cs.length ≤ cur.length ∧ Blk w' k e (cur.take o ++ cs ++ cur.drop (o + cs.length)) := by
  obtain ⟨cur', h1, h2, h3⟩ := h
  have : cur' = cur := by
    unfold Blk at h1 hB
    rw [h1] at hB
    injection hB with hB
    injection hB with hB
    simpa using hB
  subst this
  exact ⟨h2, h3⟩
theorem put_put {o : Nat} {cs cur : List Value} (h : o + cs.length ≤ cur.length) : (cur.take o ++ cs ++ cur.drop (o + cs.length)).take o ++ cs ++ (cur.take o ++ cs ++ cur.drop (o + cs.length)).drop (o + cs.length) = cur.take o ++ cs ++ cur.drop (o + cs.length) := by
  have e1 : (cur.take o).length = o := by rw [List.length_take]; omega
  have e2 : (cur.take o ++ cs).length = o + cs.length := by rw [List.length_append, e1]
  have e3 : (cur.take o ++ cs ++ cur.drop (o + cs.length)).take o = cur.take o := by rw [List.append_assoc, List.take_left' e1]
  have e4 : (cur.take o ++ cs ++ cur.drop (o + cs.length)).drop (o + cs.length) = cur.drop (o + cs.length) := by rw [List.drop_left' e2]
  rw [e3, e4]

/-- Blocks from B on may be put into: at n * 9 a pod, at n a number. -/
structure PutR (B n : Nat) (p : PV) (r : Int) (w w' : World) : Prop where
  os : w'.os = w.os
  tape : w'.tape = w.tape
  output : w'.output = w.output
  size : w.heap.size ≤ w'.heap.size
  row : ∀ k, k < w.heap.size → w'.heap[k]? = w.heap[k]? ∨ (B ≤ k ∧ 0 < n ∧ (PutRow 30 (n * 9) p.cs w w' k ∨ PutRow 3 n [.int .i64 r] w w' k))
theorem PutR.of_x {B n : Nat} {p : PV} {r : Int} {w w' : World} (h : X w w') : PutR B n p r w w' := ⟨h.os, h.tape, h.output, h.size, fun k hk => .inl (h.block k hk)⟩
theorem PutR.refl {B n : Nat} {p : PV} {r : Int} (w : World) : PutR B n p r w w := PutR.of_x (X.refl w)
theorem PutRow.of_eq {e o : Nat} {cs : List Value} {a b c : World} {k : Nat} (h : PutRow e o cs a b k) (hc : c.heap[k]? = b.heap[k]?) : PutRow e o cs a c k := by
  obtain ⟨cur, h1, h2, h3⟩ := h
  exact ⟨cur, h1, h2, hc.trans h3⟩
theorem PutRow.eq_of {e o : Nat} {cs : List Value} {a b c : World} {k : Nat} (h : PutRow e o cs b c k) (hc : b.heap[k]? = a.heap[k]?) : PutRow e o cs a c k := by
  obtain ⟨cur, h1, h2, h3⟩ := h
  exact ⟨cur, hc.symm.trans h1, h2, h3⟩
theorem PutRow.twice {e o : Nat} {cs : List Value} {a b c : World} {k : Nat} (h : PutRow e o cs a b k) (h' : PutRow e o cs b c k) : PutRow e o cs a c k := by
  obtain ⟨cur, h1, h2, h3⟩ := h
  have h4 := h'.same h3
  rw [put_put h2] at h4
  exact ⟨cur, h1, h2, h4.2⟩
theorem PutRow.types {e e' o o' : Nat} {cs cs' : List Value} {a b c : World} {k : Nat} (h : PutRow e o cs a b k) (h' : PutRow e' o' cs' b c k) : e = e' := by
  obtain ⟨cur, h1, h2, h3⟩ := h
  obtain ⟨cur', h4, _⟩ := h'
  exact h3.one h4
theorem PutR.trans {B n : Nat} {p : PV} {r : Int} {a b c : World} (h : PutR B n p r a b) (k : PutR B n p r b c) : PutR B n p r a c :=
  ⟨k.os.trans h.os, k.tape.trans h.tape, k.output.trans h.output, Nat.le_trans h.size k.size, fun x hx => by
    have hx2 : x < b.heap.size := Nat.lt_of_lt_of_le hx h.size
    rcases h.row x hx with h1 | ⟨g1, g2, h1⟩
    · rcases k.row x hx2 with h2 | ⟨g3, g4, h2⟩
      · exact .inl (h2.trans h1)
      · exact .inr ⟨g3, g4, h2.imp (fun h => h.eq_of h1) fun h => h.eq_of h1⟩
    · rcases k.row x hx2 with h2 | ⟨g3, g4, h2⟩
      · exact .inr ⟨g1, g2, h1.imp (fun h => h.of_eq h2) fun h => h.of_eq h2⟩
      · refine .inr ⟨g1, g2, ?_⟩
        rcases h1 with h1 | h1 <;> rcases h2 with h2 | h2
        · exact .inl (h1.twice h2)
        · exact absurd (h1.types h2) (by decide)
        · exact absurd (h1.types h2) (by decide)
        · exact .inr (h1.twice h2)⟩
theorem PutR.x {B n : Nat} {p : PV} {r : Int} {w w' : World} (h : PutR B n p r w w') (hB : w.heap.size ≤ B) : X w w' := ⟨h.os, h.tape, h.output, h.size, fun k hk => (h.row k hk).resolve_right fun h => by have := h.1; omega⟩
theorem PutR.below {B n : Nat} {p : PV} {r : Int} {w w' : World} (h : PutR B n p r w w') (hB : B ≤ w.heap.size) : Below B w w' := ⟨h.os, h.tape, h.output, h.size, fun k hk => (h.row k (by omega)).resolve_right fun h => by have := h.1; omega⟩
/-- A row too short to be put into stays. -/
theorem PutR.short {B n : Nat} {p : PV} {r : Int} {w w' : World} {k : Nat} {e : TypeId} {cs : List Value} (h : PutR B n p r w w') (hB : Blk w k e cs) (h9 : e = 30 → cs.length ≤ 9) (h1 : e = 3 → cs.length ≤ 1) : Blk w' k e cs := by
  rcases h.row k hB.lt with h2 | ⟨_, hn, h2⟩
  · exact h2.trans hB
  · rcases h2 with ⟨cur, a1, a2, a3⟩ | ⟨cur, a1, a2, a3⟩
    · have := hB.one a1
      subst this
      have h3 := (PutRow.same ⟨cur, a1, a2, a3⟩ hB).1
      have := h9 rfl
      rw [PV.cs_length] at h3
      omega
    · have := hB.one a1
      subst this
      have h3 := (PutRow.same ⟨cur, a1, a2, a3⟩ hB).1
      have := h1 rfl
      simp at h3
      omega

theorem own_put {w w' : World} {base e size n o : Nat} {v : Value} {xs cs : List Value} {g : Nat} (h : w.ownsRow base e size v n xs) (hg : v.ownBlock = some g) (hp : PutRow e o cs w w' g) (hx : xs.length = o ∨ ∃ ys, xs = ys ++ cs ∧ ys.length = o) : w'.ownsRow base e size v n xs := by
  refine ⟨h.1, ?_⟩
  rcases h.2 with ⟨rfl, _⟩ | ⟨g', cap, cur, rfl, hb, hh, hnc, hcm, hcs, htake⟩
  · cases hg
  · cases hg
    obtain ⟨h2, h3⟩ := hp.same (Blk.row hh)
    have e1 : (cur.toList.take o).length = o := by rw [List.length_take]; omega
    have e2 : (cur.toList.take o ++ cs).length = o + cs.length := by rw [List.length_append, e1]
    refine .inr ⟨g', cap, _, rfl, hb, h3, hnc, hcm, ?_, ?_⟩
    · simp only [List.size_toArray, List.length_append, List.length_take, List.length_drop, Array.length_toList]
      simp only [Array.length_toList] at h2
      omega
    · rcases hx with hx | ⟨ys, hx, hy⟩
      · have h4 : n * size = o := by rw [← h.1, hx]
        rw [h4] at htake ⊢
        rw [List.append_assoc, List.take_left' e1]
        exact htake
      · have h4 : n * size = o + cs.length := by rw [← h.1, hx, List.length_append, hy]
        rw [h4] at htake ⊢
        rw [List.take_left' e2]
        have h5 : cur.toList.take o = ys := by
          have := congrArg (List.take o) htake
          rw [List.take_take, Nat.min_eq_left (by omega), hx, List.take_left' hy] at this
          exact this
        rw [h5, hx]
theorem own_same {w w' : World} {base e size n : Nat} {v : Value} {xs : List Value} (h : w.ownsRow base e size v n xs) (hs : ∀ g, v.ownBlock = some g → w'.heap[g]? = w.heap[g]?) : w'.ownsRow base e size v n xs := by
  refine ⟨h.1, ?_⟩
  rcases h.2 with h2 | ⟨g', cap, cur, rfl, hb, hh, r⟩
  · exact .inl h2
  · exact .inr ⟨g', cap, cur, rfl, hb, (hs g' rfl).trans hh, r⟩
theorem own_blk {w : World} {base e size n : Nat} {v : Value} {xs : List Value} (h : w.ownsRow base e size v n xs) {g : Nat} (hg : v.ownBlock = some g) : ∃ cs, Blk w g e cs := by
  rcases h.2 with ⟨rfl, _⟩ | ⟨g', cap, cur, rfl, hb, hh, r⟩
  · cases hg
  · cases hg; exact ⟨_, Blk.row hh⟩
theorem own_R {B n : Nat} {p : PV} {r : Int} {w w' : World} (hR : PutR B n p r w w') {base e size m : Nat} {v : Value} {xs : List Value} (h : w.ownsRow base e size v m xs)
    (h9 : e = 30 → 0 < n → xs.length = n * 9 ∨ ∃ ys, xs = ys ++ p.cs ∧ ys.length = n * 9) (h1 : e = 3 → 0 < n → xs.length = n ∨ ∃ ys, xs = ys ++ [.int .i64 r] ∧ ys.length = n) : w'.ownsRow base e size v m xs := by
  cases hg : v.ownBlock with
  | none => exact own_same h fun g h => by rw [hg] at h; cases h
  | some g =>
    rcases hR.row g (h.lt g hg).2 with h2 | ⟨_, hn, h2⟩
    · exact own_same h fun g' h' => by rw [hg] at h'; cases h'; exact h2
    · obtain ⟨cs, hcs⟩ := own_blk h hg
      rcases h2 with h2 | h2
      · have he : e = 30 := by obtain ⟨c, a1, _⟩ := h2; exact hcs.one a1
        subst he
        exact own_put h hg h2 (h9 rfl hn)
      · have he : e = 3 := by obtain ⟨c, a1, _⟩ := h2; exact hcs.one a1
        subst he
        exact own_put h hg h2 (h1 rfl hn)

/-- A slice of numbers of the call's own. -/
def OwnI (w : World) (B : Nat) (v : Value) (l : List Int) : Prop := w.ownsRow B 3 1 v l.length (l.map (Value.int .i64))
/-- A slice of numbers. -/
def ISV (w : World) (K : Nat → Prop) (v : Value) (l : List Int) : Prop := ∃ A c, v = .slice A l.length c ∧ l.length ≤ c ∧ ISK w K A l.length l
theorem OwnI.isv {w : World} {B : Nat} {v : Value} {l : List Int} (h : OwnI w B v l) : ISV w (fun b => B ≤ b ∧ v.ownBlock = some b) v l := by
  rcases h.2 with ⟨rfl, hn⟩ | ⟨g, cap, cur, rfl, hb, hh, hnc, hcm, hcs, htake⟩
  · have : l = [] := List.eq_nil_of_length_eq_zero hn
    subst this
    exact ⟨none, 0, rfl, Nat.le_refl _, rfl, fun h => absurd rfl h⟩
  · refine ⟨_, cap, rfl, hnc, rfl, fun _ => ⟨g, 0, rfl, ⟨hb, rfl⟩, fun i x hi => ?_⟩⟩
    have h1 : (l.map (Value.int .i64))[i]? = some (.int .i64 x) := by rw [List.getElem?_map, hi]; rfl
    have hlt : i < l.length := (List.getElem?_eq_some_iff.1 hi).1
    rw [← htake, List.getElem?_take_of_lt (by omega)] at h1
    rw [Nat.zero_add]
    exact (Blk.row hh).cell h1
theorem ISV.mono {w : World} {K K' : Nat → Prop} {v : Value} {l : List Int} (h : ISV w K v l) (hk : ∀ b, b < w.heap.size → K b → K' b) : ISV w K' v l := by
  obtain ⟨A, c, h1, h2, h3⟩ := h
  exact ⟨A, c, h1, h2, h3.mono hk⟩
theorem ISV.keep {w w' : World} {K : Nat → Prop} {v : Value} {l : List Int} (h : ISV w K v l) (hs : ∀ k, k < w.heap.size → K k → w'.heap[k]? = w.heap[k]?) : ISV w' K v l := by
  obtain ⟨A, c, h1, h2, h3⟩ := h
  exact ⟨A, c, h1, h2, h3.keep hs⟩
theorem ISV.x {w w' : World} {K : Nat → Prop} {v : Value} {l : List Int} (h : ISV w K v l) (hx : X w w') : ISV w' K v l := h.keep fun k hk _ => hx.block k hk
theorem ISV.nil (w : World) (K : Nat → Prop) : ISV w K (.slice none 0 0) [] := ⟨none, 0, rfl, Nat.le_refl _, rfl, fun h => absurd rfl h⟩
theorem zIntB : (Tryd.prog.info? 3).map (fun i => (i.zero, i.size, i.bytes)) = some (some (.int .i64 0), 1, 8) := by kernel_rfl

theorem run_append_PF {w : World} {B Bm : Nat} {v x : Value} {L M : List PV} (ho : OwnP w B v L) (hm : PS w Bm x M) (hn : L.length + M.length ≤ 1000) (hB : B ≤ w.heap.size) (ty : TypeId) :
    ∃ v' w', (Builtin.append_ #[22, 22] ty #[v, x]).run Tryd.prog w = .ok v' w' ∧ OwnP w' B v' (L ++ M) ∧ w.grownBy w' v.ownBlock ∧ (X w w' ∨ (0 < M.length ∧ ∃ g, v.ownBlock = some g ∧ B ≤ g ∧ g < w.heap.size ∧ PutRow 30 (L.length * 9) (flat M) w w' g)) := by
  obtain ⟨A, c, rfl, hc, hat⟩ := hm
  cases hi : Tryd.prog.info? 30 with
  | none => have := zPodB; rw [hi] at this; cases this
  | some i =>
    have hz := zPodB
    rw [hi] at hz
    simp only [Option.map_some, Option.some.injEq, Prod.mk.injEq] at hz
    obtain ⟨hz0, hz1, hz2⟩ := hz
    obtain ⟨v', w', hr, h1, h2, _, _, h3⟩ := run_append_fine (P := Tryd.prog) (ty := ty) (A := A) (c := c) Tryd.underlying22 hi hz0 hz1 hz2 rfl (by omega) ho (m := M.length) (news := flat M) (flat_length M) (fun hpos => by
      obtain ⟨b, o, e, _⟩ := hat (by rintro rfl; simp at hpos)
      subst e
      exact ⟨_, rfl, cells_of_open hat⟩) (flat_one M) hn (by omega) hB
    refine ⟨v', w', hr, ?_, h2, h3⟩
    unfold OwnP
    rw [List.length_append, flat_append]
    exact h1
theorem run_append_IF {w : World} {B : Nat} {K : Nat → Prop} {v x : Value} {l m : List Int} (ho : OwnI w B v l) (hm : ISV w K x m) (hn : l.length + m.length ≤ 1000) (hB : B ≤ w.heap.size) (ty : TypeId) :
    ∃ v' w', (Builtin.append_ #[38, 38] ty #[v, x]).run Tryd.prog w = .ok v' w' ∧ OwnI w' B v' (l ++ m) ∧ w.grownBy w' v.ownBlock ∧ (v'.ownBlock = v.ownBlock ∨ v'.ownBlock = some w.heap.size) ∧ (X w w' ∨ (0 < m.length ∧ ∃ g, v.ownBlock = some g ∧ B ≤ g ∧ g < w.heap.size ∧ PutRow 3 l.length (m.map (Value.int .i64)) w w' g)) := by
  obtain ⟨A, c, rfl, hc, _, hat⟩ := hm
  cases hi : Tryd.prog.info? 3 with
  | none => have := zIntB; rw [hi] at this; cases this
  | some i =>
    have hz := zIntB
    rw [hi] at hz
    simp only [Option.map_some, Option.some.injEq, Prod.mk.injEq] at hz
    obtain ⟨hz0, hz1, hz2⟩ := hz
    obtain ⟨v', w', hr, h1, h2, h5, _, h3⟩ := run_append_fine (P := Tryd.prog) (ty := ty) (A := A) (c := c) Tryd.underlying38 hi hz0 hz1 hz2 rfl (by omega) ho (m := m.length) (news := m.map (Value.int .i64)) (by simp) (fun hpos => by
      obtain ⟨b, o, e, _, hcell⟩ := hat (by rintro rfl; simp at hpos)
      subst e
      refine ⟨_, rfl, fun j u hj => ?_⟩
      rw [List.getElem?_map] at hj
      cases hx : m[j]? with
      | none => rw [hx] at hj; cases hj
      | some y => rw [hx] at hj; cases hj; rw [add_plain]; exact hcell j y hx) (fun u hu => by obtain ⟨y, _, rfl⟩ := List.mem_map.1 hu; rfl) hn (by omega) hB
    refine ⟨v', w', hr, ?_, h2, h5, by simpa using h3⟩
    unfold OwnI
    rw [List.length_append, List.map_append]
    exact h1

end Go.Proofs.YtmilpjkjcanghaaDoor

/- Pods as data. TAKEN OUT OF THE QUEUE'S TEXTS by pbase.py. -/
import Derived.Test.YtmilpjkjcanghaaDoorPB1
namespace Go.Proofs.YtmilpjkjcanghaaDoor
open Go.RowKit
set_option linter.unusedVariables false
set_option linter.unusedSimpArgs false

/-- A pod as data: its numbers and its request. -/
abbrev AP := PV × List Int
def nrm (p : PV) : PV := { p with rA := none, rn := 0, rc := 0 }
def ab (w : World) (p : PV) : AP := (nrm p, readI w p.rA p.rn)
def az : AP := (PV.zero, [])
def posA (x : PV) (out : List AP) : Nat → Nat
  | 0 => 0
  | k + 1 => if cmpP x (out.getD k az).1 < 0 then posA x out k else k + 1
def insA (x : AP) (out : List AP) : List AP := out.take (posA x.1 out out.length) ++ x :: out.drop (posA x.1 out out.length)
def pushA (out : List AP) (x : AP) : List AP := if out.any (fun a => a.1.id == x.1.id) then out else insA x out
theorem cmpP_nrm (p q : PV) : cmpP (nrm p) (nrm q) = cmpP p q := rfl
theorem posA_map (w : World) (x : PV) (L : List PV) : ∀ k, k ≤ L.length → posA (nrm x) (L.map (ab w)) k = posOf x L k
  | 0, _ => rfl
  | k + 1, hk => by
    have h : k < L.length := by omega
    have e1 : ((L.map (ab w)).getD k az).1 = nrm L[k] := by
      rw [List.getD_eq_getElem?_getD, List.getElem?_map, List.getElem?_eq_getElem h]; rfl
    unfold posA posOf
    rw [e1, cmpP_nrm, getD_at h, posA_map w x L k (by omega)]
theorem insA_map (w : World) (x : PV) (L : List PV) : (insR x L).map (ab w) = insA (ab w x) (L.map (ab w)) := by
  have e := posA_map w x L L.length (Nat.le_refl _)
  unfold insR insA
  rw [List.length_map, show (ab w x).1 = nrm x from rfl, e, List.map_append, List.map_cons, List.map_take, List.map_drop]
theorem sortTo_app (L M : List PV) : ∀ k, k ≤ L.length → sortTo (L ++ M) k = sortTo L k
  | 0, _ => rfl
  | k + 1, hk => by
    have h : k < L.length := by omega
    rw [sortTo, sortTo, sortTo_app L M k (by omega), getD_at h, getD_at (by rw [List.length_append]; omega)]
    congr 1
    exact List.getElem_append_left h
theorem sortR_snoc (L : List PV) (p : PV) : sortR (L ++ [p]) = insR p (sortR L) := by
  unfold sortR
  rw [List.length_append, List.length_singleton, sortTo, sortTo_app L [p] L.length (Nat.le_refl _)]
  congr 1
  rw [List.getD_eq_getElem?_getD, List.getElem?_append_right (Nat.le_refl _), Nat.sub_self]; rfl
/-- Different pods have different ids. -/
def IdD (L : List PV) : Prop := L.Pairwise fun p q => p.id ≠ q.id
theorem filter_one {L : List PV} (h : IdD L) {z a : PV} (ha : a ∈ L) (hz : eqv z a = true) : L.filter (eqv z) = [a] := by
  induction L with
  | nil => cases ha
  | cons x r ih =>
    obtain ⟨h1, h2⟩ := List.pairwise_cons.1 h
    have hz0 := of_decide_eq_true hz
    rcases List.mem_cons.1 ha with rfl | ha
    · rw [List.filter_cons_of_pos hz]
      congr 1
      rw [List.filter_eq_nil_iff]
      intro y hy he
      have hy0 := of_decide_eq_true he
      rw [eqP_iff] at hz0 hy0
      exact h1 y hy (hz0.2.2.trans hy0.2.2.symm)
    · have hx : ¬ eqv z x = true := fun he => by
        have hx0 := of_decide_eq_true he
        rw [eqP_iff] at hz0 hx0
        exact h1 a ha (hx0.2.2.trans hz0.2.2.symm)
      rw [List.filter_cons_of_neg hx]
      exact ih h2 ha
theorem stab_of {L M : List PV} (hL : IdD L) (hM : IdD M) (hl : L.length = M.length) (hm : ∀ x, x ∈ L ↔ x ∈ M) : Stab L M := ⟨hl, fun z => by
  by_cases h : ∃ a, a ∈ L ∧ eqv z a = true
  · obtain ⟨a, ha, hz⟩ := h
    rw [filter_one hL ha hz, filter_one hM ((hm a).1 ha) hz]
  · have h1 : L.filter (eqv z) = [] := List.filter_eq_nil_iff.2 fun a ha hz => h ⟨a, ha, hz⟩
    have h2 : M.filter (eqv z) = [] := List.filter_eq_nil_iff.2 fun a ha hz => h ⟨a, (hm a).2 ha, hz⟩
    rw [h1, h2]⟩
theorem sortR_same {L M : List PV} (hL : IdD L) (hM : IdD M) (hl : L.length = M.length) (hm : ∀ x, x ∈ L ↔ x ∈ M) : sortR L = sortR M :=
  sortR_of (sortR_srt M).1 ((stab_of hL hM hl hm).trans (sortR_srt M).2)

/-- A pod's request can be read, in a block of K. -/
def RK (w : World) (K : Nat → Prop) (p : PV) : Prop := ∃ l : List Int, l.length ≤ 1000 ∧ ISK w K p.rA p.rn l
theorem RK.keep {w w' : World} {K : Nat → Prop} {p : PV} (h : RK w K p) (hs : ∀ k, k < w.heap.size → K k → w'.heap[k]? = w.heap[k]?) : RK w' K p ∧ ab w' p = ab w p := by
  obtain ⟨l, h1, h2⟩ := h
  have h3 := h2.keep hs
  refine ⟨⟨l, h1, h3⟩, ?_⟩
  unfold ab
  rw [h2.read, h3.read]
theorem RK.mono {w : World} {K K' : Nat → Prop} {p : PV} (h : RK w K p) (hk : ∀ b, b < w.heap.size → K b → K' b) : RK w K' p := h.imp fun l h => ⟨h.1, h.2.mono hk⟩
theorem RK.x {w w' : World} {K : Nat → Prop} {p : PV} (h : RK w K p) (hx : X w w') : RK w' K p := (h.keep fun k hk _ => hx.block k hk).1
theorem RK.abx {w w' : World} {K : Nat → Prop} {p : PV} (h : RK w K p) (hx : X w w') : ab w' p = ab w p := (h.keep fun k hk _ => hx.block k hk).2
theorem RK.lt {w : World} {K : Nat → Prop} {p : PV} (h : RK w K p) : RK w (fun b => K b ∧ b < w.heap.size) p := h.mono fun _ h1 h2 => ⟨h2, h1⟩
/-- A slice of pods that reads as L, in a block of K. -/
def PSK (w : World) (K : Nat → Prop) (v : Value) (L : List PV) : Prop :=
  ∃ A c, v = .slice A L.length c ∧ L.length ≤ c ∧ (L ≠ [] → ∃ b o, A = some ⟨b, o, none⟩ ∧ K b ∧ ∀ i p k u, L[i]? = some p → p.cs[k]? = some u → w.cell? ⟨b, o + i * 9 + k, none⟩ = some u)
theorem pods_lt {w : World} {L : List PV} {b o : Nat} (hne : L ≠ []) (h : ∀ i p k u, L[i]? = some p → p.cs[k]? = some u → w.cell? ⟨b, o + i * 9 + k, none⟩ = some u) : b < w.heap.size := by
  have hl : 0 < L.length := List.length_pos_iff.2 hne
  exact World.block_lt_of_cell? w _ (h 0 L[0] 0 _ (List.getElem?_eq_getElem hl) (show L[0].cs[0]? = some (.int .i64 L[0].id) from rfl))
theorem PSK.ps {w : World} {K : Nat → Prop} {v : Value} {L : List PV} (h : PSK w K v L) : PS w w.heap.size v L := by
  obtain ⟨A, c, h1, h2, h3⟩ := h
  exact ⟨A, c, h1, h2, fun hne => by obtain ⟨b, o, e1, e2, e3⟩ := h3 hne; exact ⟨b, o, e1, pods_lt hne e3, e3⟩⟩
theorem PS.psk {w : World} {B : Nat} {v : Value} {L : List PV} (h : PS w B v L) : PSK w (· < B) v L := h
theorem PSK.mono {w : World} {K K' : Nat → Prop} {v : Value} {L : List PV} (h : PSK w K v L) (hk : ∀ b, b < w.heap.size → K b → K' b) : PSK w K' v L := by
  obtain ⟨A, c, h1, h2, h3⟩ := h
  exact ⟨A, c, h1, h2, fun hne => by obtain ⟨b, o, e1, e2, e3⟩ := h3 hne; exact ⟨b, o, e1, hk b (pods_lt hne e3) e2, e3⟩⟩
theorem PSK.keep {w w' : World} {K : Nat → Prop} {v : Value} {L : List PV} (h : PSK w K v L) (hs : ∀ k, k < w.heap.size → K k → w'.heap[k]? = w.heap[k]?) : PSK w' K v L := by
  obtain ⟨A, c, h1, h2, h3⟩ := h
  refine ⟨A, c, h1, h2, fun hne => ?_⟩
  obtain ⟨b, o, e1, e2, e3⟩ := h3 hne
  refine ⟨b, o, e1, e2, fun i p k u hi hk => ?_⟩
  have hc := e3 i p k u hi hk
  have he := hs b (pods_lt hne e3) e2
  unfold World.cell? at hc ⊢
  simp only at hc ⊢
  rw [he]
  exact hc
theorem PSK.x {w w' : World} {K : Nat → Prop} {v : Value} {L : List PV} (h : PSK w K v L) (hx : X w w') : PSK w' K v L := h.keep fun k hk _ => hx.block k hk
theorem PSK.lt {w : World} {K : Nat → Prop} {v : Value} {L : List PV} (h : PSK w K v L) : PSK w (fun b => K b ∧ b < w.heap.size) v L := h.mono fun _ h1 h2 => ⟨h2, h1⟩
theorem PSK.nil (w : World) (K : Nat → Prop) : PSK w K (.slice none 0 0) [] := ⟨none, 0, rfl, Nat.le_refl _, fun h => absurd rfl h⟩
theorem OwnP.psk {w : World} {B : Nat} {v : Value} {L : List PV} (h : OwnP w B v L) : PSK w (fun b => B ≤ b ∧ v.ownBlock = some b) v L := by
  by_cases hne : L = []
  · obtain ⟨A, c, h1, h2, _⟩ := h.ps
    exact ⟨A, c, h1, h2, fun h => absurd hne h⟩
  · obtain ⟨g, cap, sp, hv, hB, hb, h1, h2, h3⟩ := h.open_ hne
    refine ⟨_, cap, hv, h1, fun _ => ⟨g, 0, rfl, ⟨hB, by rw [hv]; rfl⟩, fun i p k u hi hk => ?_⟩⟩
    exact (show BL w g L from ⟨sp, hb⟩).cell hi hk
theorem NewS.psk {w : World} {B : Nat} {v : Value} {L : List PV} (h : NewS w B v L) : PSK w (B ≤ ·) v L := by
  obtain ⟨A, c, g, h1, h2, h3, h4⟩ := h.open_
  exact ⟨A, c, h1, h2, fun hne => ⟨g, 0, (h4 hne).1, h3, fun i p k u hi hk => (h4 hne).2.cell hi hk⟩⟩
theorem OwnP.keep {w w' : World} {B : Nat} {v : Value} {L : List PV} (h : OwnP w B v L) (hs : ∀ k, v.ownBlock = some k → w'.heap[k]? = w.heap[k]?) : OwnP w' B v L := by
  obtain ⟨hl, h⟩ := h
  refine ⟨hl, ?_⟩
  rcases h with h | ⟨g, cap, cur, rfl, hg, hh, r⟩
  · exact .inl h
  · exact .inr ⟨g, cap, cur, rfl, hg, (hs g rfl).trans hh, r⟩
structure FO (O O' : Nat → Prop) (w w' : World) : Prop where
  os : w'.os = w.os
  tape : w'.tape = w.tape
  output : w'.output = w.output
  size : w.heap.size ≤ w'.heap.size
  block : ∀ k, k < w.heap.size → ¬ O k → w'.heap[k]? = w.heap[k]?
  own : ∀ k, k < w.heap.size → O' k → O k
theorem FO.of_x {O : Nat → Prop} {w w' : World} (h : X w w') : FO O O w w' := ⟨h.os, h.tape, h.output, h.size, fun k hk _ => h.block k hk, fun _ _ h => h⟩
theorem FO.trans {O O' O'' : Nat → Prop} {a b c : World} (h : FO O O' a b) (k : FO O' O'' b c) : FO O O'' a c :=
  ⟨k.os.trans h.os, k.tape.trans h.tape, k.output.trans h.output, Nat.le_trans h.size k.size,
    fun i hi hn => (k.block i (Nat.lt_of_lt_of_le hi h.size) fun h' => hn (h.own i hi h')).trans (h.block i hi hn),
    fun i hi h' => h.own i hi (k.own i (Nat.lt_of_lt_of_le hi h.size) h')⟩
theorem FO.below {O O' : Nat → Prop} {B : Nat} {a w w' : World} (h : FO O O' w w') (ha : Below B a w) (hB : B ≤ w.heap.size) (hO : ∀ k, O k → B ≤ k) : Below B a w' :=
  ha.trans ⟨h.os, h.tape, h.output, h.size, fun k hk => h.block k (by omega) fun ho => by have := hO k ho; omega⟩

theorem FO.psk {O O' : Nat → Prop} {w w' : World} {v : Value} {L : List PV} (h : FO O O' w w') (hp : PSK w (fun b => ¬ O b) v L) : PSK w' (fun b => ¬ O' b) v L :=
  (hp.lt.keep fun k hk hK => h.block k hk hK.1).mono fun b _ hb ho => hb.1 (h.own b hb.2 ho)
theorem FO.rk {O O' : Nat → Prop} {w w' : World} {p : PV} (h : FO O O' w w') (hp : RK w (fun b => ¬ O b) p) : RK w' (fun b => ¬ O' b) p ∧ ab w' p = ab w p :=
  ⟨((hp.lt.keep fun k hk hK => h.block k hk hK.1).1).mono fun b _ hb ho => hb.1 (h.own b hb.2 ho), (hp.keep fun k hk hK => h.block k hk hK).2⟩
def pushAll (A N : List AP) : List AP := N.foldl pushA A
theorem insA_len (x : AP) (A : List AP) : (insA x A).length = A.length + 1 := by
  have : ∀ k, posA x.1 A k ≤ k := fun k => by
    induction k with
    | zero => exact Nat.le_refl _
    | succ k ih => unfold posA; split <;> omega
  have := this A.length
  unfold insA
  simp only [List.length_append, List.length_take, List.length_cons, List.length_drop]
  omega
theorem pushA_len (A : List AP) (x : AP) : A.length ≤ (pushA A x).length ∧ (pushA A x).length ≤ A.length + 1 := by
  unfold pushA
  split
  · omega
  · rw [insA_len]; omega
theorem pushAll_len (N A : List AP) : A.length ≤ (pushAll A N).length ∧ (pushAll A N).length ≤ A.length + N.length := by
  unfold pushAll
  induction N generalizing A with
  | nil => simp
  | cons x N ih =>
    have h1 := pushA_len A x
    have h2 := ih (pushA A x)
    simp only [List.foldl_cons, List.length_cons]
    omega
theorem ab_with {w w' : World} {p : PV} {l : List Int} {A' : Option Addr} {c' : Nat} {K : Nat → Prop} {B : Nat} (h : ISK w K p.rA p.rn l) (hR : RqB w' B A' p.rn l) : ab w' (p.with A' p.rn c') = ab w p := by
  unfold ab
  rw [h.read]
  have := hR.isk.read
  simp only [PV.with]
  rw [this]
  rfl
theorem RqB.rk {w : World} {p : PV} {l : List Int} {A' : Option Addr} {c' B : Nat} (hR : RqB w B A' p.rn l) (hl : l.length ≤ 1000) : RK w (B ≤ ·) (p.with A' p.rn c') := ⟨l, hl, hR.isk⟩

theorem FO.blk {O O' : Nat → Prop} {w w' : World} {k : Nat} {t : TypeId} {cs : List Value} (h : FO O O' w w') (hB : Blk w k t cs) (hn : ¬ O k) : Blk w' k t cs := (h.block k hB.lt hn).trans hB
theorem FO.x {O O' : Nat → Prop} {w w1 w2 : World} (h : FO O O' w w1) (hx : X w1 w2) : FO O O' w w2 := h.trans (FO.of_x hx)
theorem FO.g {O O' : Nat → Prop} {w w1 w2 : World} {b : Nat} (h : FO O O' w w1) (hg : w1.grownBy w2 (some b)) (hb : w.heap.size ≤ b) : FO O O' w w2 :=
  ⟨hg.os.trans h.os, hg.tape.trans h.tape, hg.output.trans h.output, Nat.le_trans h.size hg.size, fun k hk hn => (hg.block k (Nat.lt_of_lt_of_le hk h.size) (by intro e; injection e with e; omega)).trans (h.block k hk hn), h.own⟩
theorem RK.g {w w' : World} {K : Nat → Prop} {p : PV} {b : Nat} (h : RK w K p) (hg : w.grownBy w' (some b)) (hb : ¬ K b) : RK w' K p ∧ ab w' p = ab w p :=
  h.keep fun k hk hK => hg.block k hk (by intro e; injection e with e; subst e; exact hb hK)
def dropA (A : List AP) (id : Int) : List AP := A.filter fun a => !(a.1.id == id)
theorem ab_zero (w : World) : ab w PV.zero = az := rfl
theorem RK.zero (w : World) (K : Nat → Prop) : RK w K PV.zero := ⟨[], by simp, rfl, fun h => absurd rfl h⟩
theorem built_pod0 : Tryd.prog.built 30 [] = some PV.zero.cs.toArray := by kernel_rfl

theorem RqB.g {w w' : World} {B g n : Nat} {A : Option Addr} {l : List Int} (h : RqB w B A n l) (hg : w.grownBy w' (some g)) (hlt : g < B) : RqB w' B A n l :=
  ⟨h.1, fun hne => by obtain ⟨b, sp, h1, h2, h3⟩ := h.2 hne; exact ⟨b, sp, h1, h2, (show G g w w' from hg).blk h3 (by omega)⟩⟩
theorem RqB.low {w : World} {B B' n : Nat} {A : Option Addr} {l : List Int} (h : RqB w B A n l) (hB : B' ≤ B) : RqB w B' A n l :=
  ⟨h.1, fun hne => by obtain ⟨b, sp, h1, h2, h3⟩ := h.2 hne; exact ⟨b, sp, h1, by omega, h3⟩⟩
theorem RqB.rk' {w : World} {p : PV} {l : List Int} {B : Nat} (hR : RqB w B p.rA p.rn l) (hl : l.length ≤ 1000) : RK w (B ≤ ·) p := ⟨l, hl, hR.isk⟩
/-- The pod's request is its own. -/
def OwnR (w : World) (B : Nat) (p : PV) : Prop := ∃ l : List Int, l.length ≤ 1000 ∧ RqB w B p.rA p.rn l
theorem OwnR.rk {w : World} {B : Nat} {p : PV} (h : OwnR w B p) : RK w (B ≤ ·) p := h.imp fun l h => ⟨h.1, h.2.isk⟩
/-- A request that can be written, in a block of S. -/
def SpP (w : World) (S : Nat → Prop) (p : PV) : Prop := p.rn ≤ 1000 ∧ (0 < p.rn → ∃ (b : Nat) (cs : List Value), p.rA = some ⟨b, 0, none⟩ ∧ S b ∧ Blk w b 2 cs ∧ p.rn ≤ cs.length ∧ ∀ j, j < p.rn → ∃ x, cs[j]? = some (.int .i64 x))
theorem OwnR.sp {w : World} {B : Nat} {p : PV} (h : OwnR w B p) : SpP w (B ≤ ·) p := by
  obtain ⟨l, h1, h2, h3⟩ := h
  refine ⟨by omega, fun h0 => ?_⟩
  obtain ⟨b, sp, e1, e2, e3⟩ := h3 (by rintro rfl; simp at h2; omega)
  refine ⟨b, _, e1, e2, e3, by simp; omega, fun j hj => ⟨l[j]'(by omega), ?_⟩⟩
  have hjl : j < l.length := by omega
  rw [List.getElem?_append_left (by simpa using hjl), List.getElem?_map, List.getElem?_eq_getElem hjl]
  rfl
theorem SpP.x {w w' : World} {S : Nat → Prop} {p : PV} (h : SpP w S p) (hx : X w w') : SpP w' S p := ⟨h.1, fun h0 => by obtain ⟨b, cs, e1, e2, e3, e4⟩ := h.2 h0; exact ⟨b, cs, e1, e2, e3.x hx, e4⟩⟩
theorem SpP.mono {w : World} {S S' : Nat → Prop} {p : PV} (h : SpP w S p) (hS : ∀ b, b < w.heap.size → S b → S' b) : SpP w S' p := ⟨h.1, fun h0 => by obtain ⟨b, cs, e1, e2, e3, e4⟩ := h.2 h0; exact ⟨b, cs, e1, hS b e3.lt e2, e3, e4⟩⟩
theorem Blk.one {w : World} {b : Nat} {t t' : TypeId} {cs cs' : List Value} (h : Blk w b t cs) (k : Blk w b t' cs') : t = t' := by
  unfold Blk at h k
  rw [h] at k
  injection k with k
  injection k
/-- Only blocks of S have turned. -/
structure SF (S : Nat → Prop) (w w' : World) : Prop where
  os : w'.os = w.os
  tape : w'.tape = w.tape
  output : w'.output = w.output
  size : w.heap.size ≤ w'.heap.size
  block : ∀ k, k < w.heap.size → ¬ S k → w'.heap[k]? = w.heap[k]?
theorem SF.refl (S : Nat → Prop) (w : World) : SF S w w := ⟨rfl, rfl, rfl, Nat.le_refl _, fun _ _ _ => rfl⟩
theorem SF.g {S : Nat → Prop} {a w w' : World} {b : Nat} (h : SF S a w) (hg : w.grownBy w' (some b)) (hb : S b) : SF S a w' :=
  ⟨hg.os.trans h.os, hg.tape.trans h.tape, hg.output.trans h.output, Nat.le_trans h.size hg.size, fun k hk hn => (hg.block k (Nat.lt_of_lt_of_le hk h.size) (by intro e; injection e with e; exact hn (e ▸ hb))).trans (h.block k hk hn)⟩
theorem SF.fo {S O : Nat → Prop} {w w' : World} (h : SF S w w') (hS : ∀ b, S b → ¬ O b) : ∀ k, k < w.heap.size → O k → w'.heap[k]? = w.heap[k]? := fun k hk ho => h.block k hk fun hs => hS k hs ho
theorem SF.below {S : Nat → Prop} {B : Nat} {a w w' : World} (h : SF S w w') (ha : Below B a w) (hB : B ≤ w.heap.size) (hS : ∀ k, S k → B ≤ k) : Below B a w' :=
  ha.trans ⟨h.os, h.tape, h.output, h.size, fun k hk => h.block k (by omega) fun ho => by have := hS k ho; omega⟩
theorem put_set (cs : List Value) {k : Nat} (x : Value) (hk : k < cs.length) : cs.take k ++ [x] ++ cs.drop (k + 1) = cs.set k x := by
  rw [List.set_eq_take_append_cons_drop, if_pos hk]
  simp

/-- Is there a pod with the id? -/
def hasA (A : List AP) (id : Int) : Bool := A.any fun a => a.1.id == id

def findR (L : List PV) (id : Int) : Int := match L.findIdx? (fun p => p.id == id) with
  | some i => (i : Int)
  | none => -1
theorem findR_some {L : List PV} {id : Int} {i : Nat} (hi : i < L.length) (h : L[i].id = id) (hb : ∀ j (hj : j < i), (L[j]'(by omega)).id ≠ id) : findR L id = (i : Int) := by
  unfold findR
  have : L.findIdx? (fun p => p.id == id) = some i := by
    rw [List.findIdx?_eq_some_iff_getElem]
    exact ⟨hi, by simpa using h, fun j hj => by simpa using hb j hj⟩
  rw [this]
theorem findR_none {L : List PV} {id : Int} (h : ∀ p ∈ L, p.id ≠ id) : findR L id = -1 := by
  unfold findR
  have : L.findIdx? (fun p => p.id == id) = none := by
    rw [List.findIdx?_eq_none_iff]
    intro p hp
    simpa using h p hp
  rw [this]
theorem findR_spec (L : List PV) (id : Int) : (∃ i, ∃ hi : i < L.length, findR L id = (i : Int) ∧ L[i].id = id ∧ ∀ j (hj : j < i), (L[j]'(by omega)).id ≠ id) ∨ (findR L id = -1 ∧ ∀ p ∈ L, p.id ≠ id) := by
  unfold findR
  cases h : L.findIdx? (fun p => p.id == id) with
  | none =>
    rw [List.findIdx?_eq_none_iff] at h
    exact .inr ⟨rfl, fun p hp => by simpa using h p hp⟩
  | some i =>
    rw [List.findIdx?_eq_some_iff_getElem] at h
    obtain ⟨hi, h1, h2⟩ := h
    exact .inl ⟨i, hi, rfl, by simpa using h1, fun j hj => by simpa using h2 j hj⟩
theorem Find_calls (l : Value) (L : List PV) (id : Int) (w : World) (hl : PS w w.heap.size l L) (hn : L.length ≤ 1000) :
    CallsR Tryd.prog 23 [l, .int .i64 id] w fun u w' => u = .int .i64 (findR L id) ∧ w' = w := by
  obtain ⟨A, c, rfl, hc, hat⟩ := hl.open_
  refine enter2 Tryd.func23 rfl Tryd.ntmps23 rfl ?_
  repeat (first
 | (with_reducible first
 | apply CW.seq | apply CW.region | apply CW.block | apply CW.ret | apply CW.skip | apply CW.label | apply CW.exit
 | apply W.nil | apply Fin.seq | apply Fin.then_ret | apply Fin.then_exit | apply Fin.blk_ret | apply Fin.blk_normal | apply Fin.blk_here)
 | (with_reducible first | refine S.move ?_ | refine S.assign ?_ | refine S.pickT ?_ | refine S.pickF ?_ | refine S.lss ?_ | refine S.gtr ?_ | refine S.leq ?_ | refine S.geq ?_ | refine S.eqT ?_ | refine S.neF ?_ | refine S.eql ?_ | refine S.neq ?_ | refine S.add ?_ | refine S.sub ?_ | refine S.mul ?_ | refine S.conv ?_ | refine S.shr1 ?_ | refine S.neg ?_ | refine S.not ?_ | refine S.extract ?_ | refine S.len ?_ | refine S.fld ?_ | refine S.index ?_ | refine S.skp ?_ | refine S.sliceTo ?_ | refine S.sliceFrom ?_ | refine S.eqNil ?_ | refine S.eqbT ?_ | refine S.nebF ?_ | refine S.eqb ?_ | refine S.neb ?_)
 | ((with_reducible apply CW.cond_true); exact rfl)
 | ((with_reducible apply CW.cond_false); exact rfl)
 | ((with_reducible apply Fin.blk_far); exact rfl))
  refine CW.loop (ι := Nat) (fun k => [(5, .int .i64 (k : Int)), (0, .slice A L.length c), (1, .int .i64 id)]) (fun k w' => w' = w ∧ k ≤ L.length ∧ ∀ j (hj : j < k) (hl : j < L.length), L[j].id ≠ id) (fun k => L.length - k) ?_ 0 (by repeat (first | exact trivial | refine ⟨congrArg (fun z : Int => some (Value.int .i64 z)) (by omega), ?_⟩ | refine ⟨rfl, ?_⟩)) ⟨rfl, Nat.zero_le _, fun j hj => absurd hj (Nat.not_lt_zero _)⟩
  rintro k w' ⟨rfl, hk, ho⟩
  repeat (first
 | (with_reducible first
 | apply CW.seq | apply CW.region | apply CW.block | apply CW.ret | apply CW.skip | apply CW.label | apply CW.exit
 | apply W.nil | apply Fin.seq | apply Fin.then_ret | apply Fin.then_exit | apply Fin.blk_ret | apply Fin.blk_normal | apply Fin.blk_here)
 | (with_reducible first | refine S.move ?_ | refine S.assign ?_ | refine S.pickT ?_ | refine S.pickF ?_ | refine S.lss ?_ | refine S.gtr ?_ | refine S.leq ?_ | refine S.geq ?_ | refine S.eqT ?_ | refine S.neF ?_ | refine S.eql ?_ | refine S.neq ?_ | refine S.add ?_ | refine S.sub ?_ | refine S.mul ?_ | refine S.conv ?_ | refine S.shr1 ?_ | refine S.neg ?_ | refine S.not ?_ | refine S.extract ?_ | refine S.len ?_ | refine S.fld ?_ | refine S.index ?_ | refine S.skp ?_ | refine S.sliceTo ?_ | refine S.sliceFrom ?_ | refine S.eqNil ?_ | refine S.eqbT ?_ | refine S.nebF ?_ | refine S.eqb ?_ | refine S.neb ?_)
 | ((with_reducible apply CW.cond_true); exact rfl)
 | ((with_reducible apply CW.cond_false); exact rfl)
 | ((with_reducible apply Fin.blk_far); exact rfl))
  refine CW.cond (by rfl) (fun h => ?_) (fun h => ?_)
  · have hk' : k < L.length := by have := of_decide_eq_true h; omega
    clear h
    obtain ⟨b, o, rfl, _, hcell⟩ := hat k hk'
    have hp : L[k]? = some L[k] := List.getElem?_eq_getElem hk'
    repeat (first
 | (with_reducible first
 | apply CW.seq | apply CW.region | apply CW.block | apply CW.ret | apply CW.skip | apply CW.label | apply CW.exit
 | apply W.nil | apply Fin.seq | apply Fin.then_ret | apply Fin.then_exit | apply Fin.blk_ret | apply Fin.blk_normal | apply Fin.blk_here)
 | (with_reducible first | refine S.move ?_ | refine S.assign ?_ | refine S.pickT ?_ | refine S.pickF ?_ | refine S.lss ?_ | refine S.gtr ?_ | refine S.leq ?_ | refine S.geq ?_ | refine S.eqT ?_ | refine S.neF ?_ | refine S.eql ?_ | refine S.neq ?_ | refine S.add ?_ | refine S.sub ?_ | refine S.mul ?_ | refine S.conv ?_ | refine S.shr1 ?_ | refine S.neg ?_ | refine S.not ?_ | refine S.extract ?_ | refine S.len ?_ | refine S.fld ?_ | refine S.index ?_ | refine S.skp ?_ | refine S.sliceTo ?_ | refine S.sliceFrom ?_ | refine S.eqNil ?_ | refine S.eqbT ?_ | refine S.nebF ?_ | refine S.eqb ?_ | refine S.neb ?_)
 | ((with_reducible apply CW.cond_true); exact rfl)
 | ((with_reducible apply CW.cond_false); exact rfl)
 | ((with_reducible apply Fin.blk_far); exact rfl))
    ((with_reducible apply S.ld); exact rfl; (with_reducible first | exact oneInt | exact oneI64s | exact oneBool | exact oneI64 | exact onePods | exact oneMap); (exact hcell k _ 0 _ hp rfl); exact rfl; exact rfl)
    repeat (first
 | (with_reducible first
 | apply CW.seq | apply CW.region | apply CW.block | apply CW.ret | apply CW.skip | apply CW.label | apply CW.exit
 | apply W.nil | apply Fin.seq | apply Fin.then_ret | apply Fin.then_exit | apply Fin.blk_ret | apply Fin.blk_normal | apply Fin.blk_here)
 | (with_reducible first | refine S.move ?_ | refine S.assign ?_ | refine S.pickT ?_ | refine S.pickF ?_ | refine S.lss ?_ | refine S.gtr ?_ | refine S.leq ?_ | refine S.geq ?_ | refine S.eqT ?_ | refine S.neF ?_ | refine S.eql ?_ | refine S.neq ?_ | refine S.add ?_ | refine S.sub ?_ | refine S.mul ?_ | refine S.conv ?_ | refine S.shr1 ?_ | refine S.neg ?_ | refine S.not ?_ | refine S.extract ?_ | refine S.len ?_ | refine S.fld ?_ | refine S.index ?_ | refine S.skp ?_ | refine S.sliceTo ?_ | refine S.sliceFrom ?_ | refine S.eqNil ?_ | refine S.eqbT ?_ | refine S.nebF ?_ | refine S.eqb ?_ | refine S.neb ?_)
 | ((with_reducible apply CW.cond_true); exact rfl)
 | ((with_reducible apply CW.cond_false); exact rfl)
 | ((with_reducible apply Fin.blk_far); exact rfl))
    refine CW.cond (by rfl) (fun h => ?_) (fun h => ?_)
    · have h := of_decide_eq_true h
      repeat (first
 | (with_reducible first
 | apply CW.seq | apply CW.region | apply CW.block | apply CW.ret | apply CW.skip | apply CW.label | apply CW.exit
 | apply W.nil | apply Fin.seq | apply Fin.then_ret | apply Fin.then_exit | apply Fin.blk_ret | apply Fin.blk_normal | apply Fin.blk_here)
 | (with_reducible first | refine S.move ?_ | refine S.assign ?_ | refine S.pickT ?_ | refine S.pickF ?_ | refine S.lss ?_ | refine S.gtr ?_ | refine S.leq ?_ | refine S.geq ?_ | refine S.eqT ?_ | refine S.neF ?_ | refine S.eql ?_ | refine S.neq ?_ | refine S.add ?_ | refine S.sub ?_ | refine S.mul ?_ | refine S.conv ?_ | refine S.shr1 ?_ | refine S.neg ?_ | refine S.not ?_ | refine S.extract ?_ | refine S.len ?_ | refine S.fld ?_ | refine S.index ?_ | refine S.skp ?_ | refine S.sliceTo ?_ | refine S.sliceFrom ?_ | refine S.eqNil ?_ | refine S.eqbT ?_ | refine S.nebF ?_ | refine S.eqb ?_ | refine S.neb ?_)
 | ((with_reducible apply CW.cond_true); exact rfl)
 | ((with_reducible apply CW.cond_false); exact rfl)
 | ((with_reducible apply Fin.blk_far); exact rfl))
      (with_reducible apply R.r1); exact rfl; exact rfl
      rw [findR_some hk' h fun j hj => ho j hj (by omega)]
      exact ⟨rfl, rfl⟩
    · have h := of_decide_eq_false h
      repeat (first
 | (with_reducible first
 | apply CW.seq | apply CW.region | apply CW.block | apply CW.ret | apply CW.skip | apply CW.label | apply CW.exit
 | apply W.nil | apply Fin.seq | apply Fin.then_ret | apply Fin.then_exit | apply Fin.blk_ret | apply Fin.blk_normal | apply Fin.blk_here)
 | (with_reducible first | refine S.move ?_ | refine S.assign ?_ | refine S.pickT ?_ | refine S.pickF ?_ | refine S.lss ?_ | refine S.gtr ?_ | refine S.leq ?_ | refine S.geq ?_ | refine S.eqT ?_ | refine S.neF ?_ | refine S.eql ?_ | refine S.neq ?_ | refine S.add ?_ | refine S.sub ?_ | refine S.mul ?_ | refine S.conv ?_ | refine S.shr1 ?_ | refine S.neg ?_ | refine S.not ?_ | refine S.extract ?_ | refine S.len ?_ | refine S.fld ?_ | refine S.index ?_ | refine S.skp ?_ | refine S.sliceTo ?_ | refine S.sliceFrom ?_ | refine S.eqNil ?_ | refine S.eqbT ?_ | refine S.nebF ?_ | refine S.eqb ?_ | refine S.neb ?_)
 | ((with_reducible apply CW.cond_true); exact rfl)
 | ((with_reducible apply CW.cond_false); exact rfl)
 | ((with_reducible apply Fin.blk_far); exact rfl))
      refine Fin.round (k + 1) (by omega) (by repeat (first | exact trivial | refine ⟨congrArg (fun z : Int => some (Value.int .i64 z)) (by omega), ?_⟩ | refine ⟨rfl, ?_⟩)) ⟨rfl, by omega, fun j hj hjl => ?_⟩
      by_cases e : j = k
      · subst e; exact h
      · exact ho j (by omega) hjl
  · have h := of_decide_eq_false h
    repeat (first
 | (with_reducible first
 | apply CW.seq | apply CW.region | apply CW.block | apply CW.ret | apply CW.skip | apply CW.label | apply CW.exit
 | apply W.nil | apply Fin.seq | apply Fin.then_ret | apply Fin.then_exit | apply Fin.blk_ret | apply Fin.blk_normal | apply Fin.blk_here)
 | (with_reducible first | refine S.move ?_ | refine S.assign ?_ | refine S.pickT ?_ | refine S.pickF ?_ | refine S.lss ?_ | refine S.gtr ?_ | refine S.leq ?_ | refine S.geq ?_ | refine S.eqT ?_ | refine S.neF ?_ | refine S.eql ?_ | refine S.neq ?_ | refine S.add ?_ | refine S.sub ?_ | refine S.mul ?_ | refine S.conv ?_ | refine S.shr1 ?_ | refine S.neg ?_ | refine S.not ?_ | refine S.extract ?_ | refine S.len ?_ | refine S.fld ?_ | refine S.index ?_ | refine S.skp ?_ | refine S.sliceTo ?_ | refine S.sliceFrom ?_ | refine S.eqNil ?_ | refine S.eqbT ?_ | refine S.nebF ?_ | refine S.eqb ?_ | refine S.neb ?_)
 | ((with_reducible apply CW.cond_true); exact rfl)
 | ((with_reducible apply CW.cond_false); exact rfl)
 | ((with_reducible apply Fin.blk_far); exact rfl))
    (with_reducible apply R.r1); exact rfl; exact rfl
    rw [findR_none fun p hp => by
      obtain ⟨i, hi, rfl⟩ := List.getElem_of_mem hp
      exact ho i (by omega) hi]
    exact ⟨rfl, rfl⟩
def hasR (L : List PV) (id : Int) : Bool := L.any fun p => p.id == id
theorem findR_has (L : List PV) (id : Int) : decide (findR L id < 0) = !hasR L id := by
  unfold hasR
  rcases findR_spec L id with ⟨i, hi, h1, h2, _⟩ | ⟨h1, h2⟩
  · have : L.any (fun p => p.id == id) = true := List.any_eq_true.2 ⟨L[i], List.getElem_mem hi, by simpa using h2⟩
    rw [h1, this, decide_eq_false (by omega)]
    rfl
  · have : L.any (fun p => p.id == id) = false := by
      rw [List.any_eq_false]
      intro p hp
      simpa using h2 p hp
    rw [h1, this]
    rfl
theorem findR_ge (L : List PV) (id : Int) : decide (0 ≤ findR L id) = hasR L id := by
  have := findR_has L id
  have h2 : decide (0 ≤ findR L id) = !decide (findR L id < 0) := by
    by_cases h : findR L id < 0
    · rw [decide_eq_true h, decide_eq_false (by omega)]; rfl
    · rw [decide_eq_false h, decide_eq_true (by omega)]; rfl
  rw [h2, this, Bool.not_not]
def addP (out : List PV) (p : PV) : List PV := if hasR out p.id then out else out ++ [p]
def addAll (L M : List PV) : List PV := M.foldl addP L
theorem addP_len (L : List PV) (p : PV) : (addP L p).length ≤ L.length + 1 ∧ L.length ≤ (addP L p).length := by
  unfold addP
  split
  · omega
  · simp
theorem addAll_step (L M : List PV) {k : Nat} (hk : k < M.length) : addAll L (M.take (k + 1)) = addP (addAll L (M.take k)) M[k] := by
  unfold addAll
  rw [List.take_succ_eq_append_getElem hk, List.foldl_append]
  rfl
theorem addAll_len (M L : List PV) : (addAll L M).length ≤ L.length + M.length ∧ L.length ≤ (addAll L M).length := by
  unfold addAll
  induction M generalizing L with
  | nil => simp
  | cons p M ih =>
    have h1 := addP_len L p
    have h2 := ih (addP L p)
    simp only [List.foldl_cons, List.length_cons]
    omega
theorem addAll_mem (M L : List PV) : ∀ x ∈ addAll L M, x ∈ L ∨ x ∈ M := by
  unfold addAll
  induction M generalizing L with
  | nil => intro x hx; exact .inl hx
  | cons p M ih =>
    intro x hx
    rcases ih (addP L p) x hx with h | h
    · unfold addP at h
      split at h
      · exact .inl h
      · rcases List.mem_append.1 h with h | h
        · exact .inl h
        · rw [List.mem_singleton.1 h]; exact .inr List.mem_cons_self
    · exact .inr (List.mem_cons_of_mem _ h)
set_option maxHeartbeats 1000000 in
theorem refPush_calls (l m : Value) (L M : List PV) (w : World) (hl : PS w w.heap.size l L) (hm : PS w w.heap.size m M) (hn : L.length + M.length ≤ 400) (hp : ∀ p, p ∈ L ∨ p ∈ M → okPrio p) :
    CallsR Tryd.prog 14 [l, m] w fun v w' => OwnP w' w.heap.size v (sortR (addAll L M)) ∧ X w w' := by
  have hl0 := hl
  obtain ⟨A, c, rfl, hc, hat⟩ := hl.open_
  obtain ⟨Am, cm, rfl, hcm, hatm⟩ := hm.open_
  refine enter2 Tryd.func14 rfl Tryd.ntmps14 rfl ?_
  repeat (first
 | (with_reducible first
 | apply CW.seq | apply CW.region | apply CW.block | apply CW.ret | apply CW.skip | apply CW.label | apply CW.exit
 | apply W.nil | apply Fin.seq | apply Fin.then_ret | apply Fin.then_exit | apply Fin.blk_ret | apply Fin.blk_normal | apply Fin.blk_here)
 | (with_reducible first | refine S.move ?_ | refine S.assign ?_ | refine S.pickT ?_ | refine S.pickF ?_ | refine S.lss ?_ | refine S.gtr ?_ | refine S.leq ?_ | refine S.geq ?_ | refine S.eqT ?_ | refine S.neF ?_ | refine S.eql ?_ | refine S.neq ?_ | refine S.add ?_ | refine S.sub ?_ | refine S.mul ?_ | refine S.conv ?_ | refine S.shr1 ?_ | refine S.neg ?_ | refine S.not ?_ | refine S.extract ?_ | refine S.len ?_ | refine S.fld ?_ | refine S.index ?_ | refine S.skp ?_ | refine S.sliceTo ?_ | refine S.sliceFrom ?_ | refine S.eqNil ?_ | refine S.eqbT ?_ | refine S.nebF ?_ | refine S.eqb ?_ | refine S.neb ?_)
 | ((with_reducible apply CW.cond_true); exact rfl)
 | ((with_reducible apply CW.cond_false); exact rfl)
 | ((with_reducible apply Fin.blk_far); exact rfl))
  refine W.makes (d := some 7) (op_buildSlice (cs := []) Tryd.underlying22 zPod rfl rfl (by rfl) rfl (by simp) rfl rfl) (by rfl) (by rfl) ?_
  have hO := ownP_new w w.heap.size [] (Nat.le_refl _) (by simp)
  have hX := X.alloc w (.cells (flat []).toArray 30)
  simp only [flat_nil] at hO hX
  generalize w.alloc (.cells [].toArray 30) = w1 at *
  repeat (first
 | (with_reducible first
 | apply CW.seq | apply CW.region | apply CW.block | apply CW.ret | apply CW.skip | apply CW.label | apply CW.exit
 | apply W.nil | apply Fin.seq | apply Fin.then_ret | apply Fin.then_exit | apply Fin.blk_ret | apply Fin.blk_normal | apply Fin.blk_here)
 | (with_reducible first | refine S.move ?_ | refine S.assign ?_ | refine S.pickT ?_ | refine S.pickF ?_ | refine S.lss ?_ | refine S.gtr ?_ | refine S.leq ?_ | refine S.geq ?_ | refine S.eqT ?_ | refine S.neF ?_ | refine S.eql ?_ | refine S.neq ?_ | refine S.add ?_ | refine S.sub ?_ | refine S.mul ?_ | refine S.conv ?_ | refine S.shr1 ?_ | refine S.neg ?_ | refine S.not ?_ | refine S.extract ?_ | refine S.len ?_ | refine S.fld ?_ | refine S.index ?_ | refine S.skp ?_ | refine S.sliceTo ?_ | refine S.sliceFrom ?_ | refine S.eqNil ?_ | refine S.eqbT ?_ | refine S.nebF ?_ | refine S.eqb ?_ | refine S.neb ?_)
 | ((with_reducible apply CW.cond_true); exact rfl)
 | ((with_reducible apply CW.cond_false); exact rfl)
 | ((with_reducible apply Fin.blk_far); exact rfl))
  refine S.app (by rfl) (by rfl) hO (hl0.below hX) (by simp; omega) hX.le (by rfl) (by rfl) ?_
  intro v' w2 hO2 hg2 hat2
  have hx2 : X w w2 := below_own hX hO hg2 hX.le
  rw [List.nil_append] at hO2
  repeat (first
 | (with_reducible first
 | apply CW.seq | apply CW.region | apply CW.block | apply CW.ret | apply CW.skip | apply CW.label | apply CW.exit
 | apply W.nil | apply Fin.seq | apply Fin.then_ret | apply Fin.then_exit | apply Fin.blk_ret | apply Fin.blk_normal | apply Fin.blk_here)
 | (with_reducible first | refine S.move ?_ | refine S.assign ?_ | refine S.pickT ?_ | refine S.pickF ?_ | refine S.lss ?_ | refine S.gtr ?_ | refine S.leq ?_ | refine S.geq ?_ | refine S.eqT ?_ | refine S.neF ?_ | refine S.eql ?_ | refine S.neq ?_ | refine S.add ?_ | refine S.sub ?_ | refine S.mul ?_ | refine S.conv ?_ | refine S.shr1 ?_ | refine S.neg ?_ | refine S.not ?_ | refine S.extract ?_ | refine S.len ?_ | refine S.fld ?_ | refine S.index ?_ | refine S.skp ?_ | refine S.sliceTo ?_ | refine S.sliceFrom ?_ | refine S.eqNil ?_ | refine S.eqbT ?_ | refine S.nebF ?_ | refine S.eqb ?_ | refine S.neb ?_)
 | ((with_reducible apply CW.cond_true); exact rfl)
 | ((with_reducible apply CW.cond_false); exact rfl)
 | ((with_reducible apply Fin.blk_far); exact rfl))
  refine CW.loop (ι := Nat × Value) (fun k => [(6, .int .i64 (k.1 : Int)), (1, .slice Am M.length cm), (5, k.2)]) (fun k w' => X w w' ∧ k.1 ≤ M.length ∧ OwnP w' w.heap.size k.2 (addAll L (M.take k.1))) (fun k => M.length - k.1) ?_ (0, v') (by repeat (first | exact trivial | refine ⟨congrArg (fun z : Int => some (Value.int .i64 z)) (by omega), ?_⟩ | refine ⟨rfl, ?_⟩)) ⟨hx2, Nat.zero_le _, hO2⟩
  rintro ⟨k, ov⟩ w3 ⟨hx3, hk, hO3⟩
  simp only at hk hO3 ⊢
  repeat (first
 | (with_reducible first
 | apply CW.seq | apply CW.region | apply CW.block | apply CW.ret | apply CW.skip | apply CW.label | apply CW.exit
 | apply W.nil | apply Fin.seq | apply Fin.then_ret | apply Fin.then_exit | apply Fin.blk_ret | apply Fin.blk_normal | apply Fin.blk_here)
 | (with_reducible first | refine S.move ?_ | refine S.assign ?_ | refine S.pickT ?_ | refine S.pickF ?_ | refine S.lss ?_ | refine S.gtr ?_ | refine S.leq ?_ | refine S.geq ?_ | refine S.eqT ?_ | refine S.neF ?_ | refine S.eql ?_ | refine S.neq ?_ | refine S.add ?_ | refine S.sub ?_ | refine S.mul ?_ | refine S.conv ?_ | refine S.shr1 ?_ | refine S.neg ?_ | refine S.not ?_ | refine S.extract ?_ | refine S.len ?_ | refine S.fld ?_ | refine S.index ?_ | refine S.skp ?_ | refine S.sliceTo ?_ | refine S.sliceFrom ?_ | refine S.eqNil ?_ | refine S.eqbT ?_ | refine S.nebF ?_ | refine S.eqb ?_ | refine S.neb ?_)
 | ((with_reducible apply CW.cond_true); exact rfl)
 | ((with_reducible apply CW.cond_false); exact rfl)
 | ((with_reducible apply Fin.blk_far); exact rfl))
  refine CW.cond (by rfl) (fun h => ?_) (fun h => ?_)
  · have hk' : k < M.length := by have := of_decide_eq_true h; omega
    clear h
    obtain ⟨b, o, rfl, hbB, hcell⟩ := hatm k hk'
    have hpk : M[k]? = some M[k] := List.getElem?_eq_getElem hk'
    have hstep := addAll_step L M hk'
    have hln := addAll_len (M.take k) L
    rw [List.length_take, Nat.min_eq_left (by omega)] at hln
    generalize M[k] = p at *
    generalize addAll L (M.take k) = Ls at *
    repeat (first
 | (with_reducible first
 | apply CW.seq | apply CW.region | apply CW.block | apply CW.ret | apply CW.skip | apply CW.label | apply CW.exit
 | apply W.nil | apply Fin.seq | apply Fin.then_ret | apply Fin.then_exit | apply Fin.blk_ret | apply Fin.blk_normal | apply Fin.blk_here)
 | (with_reducible first | refine S.move ?_ | refine S.assign ?_ | refine S.pickT ?_ | refine S.pickF ?_ | refine S.lss ?_ | refine S.gtr ?_ | refine S.leq ?_ | refine S.geq ?_ | refine S.eqT ?_ | refine S.neF ?_ | refine S.eql ?_ | refine S.neq ?_ | refine S.add ?_ | refine S.sub ?_ | refine S.mul ?_ | refine S.conv ?_ | refine S.shr1 ?_ | refine S.neg ?_ | refine S.not ?_ | refine S.extract ?_ | refine S.len ?_ | refine S.fld ?_ | refine S.index ?_ | refine S.skp ?_ | refine S.sliceTo ?_ | refine S.sliceFrom ?_ | refine S.eqNil ?_ | refine S.eqbT ?_ | refine S.nebF ?_ | refine S.eqb ?_ | refine S.neb ?_)
 | ((with_reducible apply CW.cond_true); exact rfl)
 | ((with_reducible apply CW.cond_false); exact rfl)
 | ((with_reducible apply Fin.blk_far); exact rfl))
    ((with_reducible apply S.ld); exact rfl; (with_reducible first | exact oneInt | exact oneI64s | exact oneBool | exact oneI64 | exact onePods | exact oneMap); (exact (hx3.cell (p := ⟨b, _, none⟩) hbB).trans (hcell k p 0 _ hpk rfl)); exact rfl; exact rfl)
    refine S.cl (op_call ent23 (by rfl) (by rfl)) (by rfl) (by rfl) (Find_calls ov Ls p.id w3 hO3.ps (by omega)) ?_
    rintro _ w4 ⟨rfl, rfl⟩
    repeat (first
 | (with_reducible first
 | apply CW.seq | apply CW.region | apply CW.block | apply CW.ret | apply CW.skip | apply CW.label | apply CW.exit
 | apply W.nil | apply Fin.seq | apply Fin.then_ret | apply Fin.then_exit | apply Fin.blk_ret | apply Fin.blk_normal | apply Fin.blk_here)
 | (with_reducible first | refine S.move ?_ | refine S.assign ?_ | refine S.pickT ?_ | refine S.pickF ?_ | refine S.lss ?_ | refine S.gtr ?_ | refine S.leq ?_ | refine S.geq ?_ | refine S.eqT ?_ | refine S.neF ?_ | refine S.eql ?_ | refine S.neq ?_ | refine S.add ?_ | refine S.sub ?_ | refine S.mul ?_ | refine S.conv ?_ | refine S.shr1 ?_ | refine S.neg ?_ | refine S.not ?_ | refine S.extract ?_ | refine S.len ?_ | refine S.fld ?_ | refine S.index ?_ | refine S.skp ?_ | refine S.sliceTo ?_ | refine S.sliceFrom ?_ | refine S.eqNil ?_ | refine S.eqbT ?_ | refine S.nebF ?_ | refine S.eqb ?_ | refine S.neb ?_)
 | ((with_reducible apply CW.cond_true); exact rfl)
 | ((with_reducible apply CW.cond_false); exact rfl)
 | ((with_reducible apply Fin.blk_far); exact rfl))
    rw [findR_has]
    refine CW.cond (by rfl) (fun h => ?_) (fun h => ?_)
    · have h : hasR Ls p.id = false := by simpa using h
      repeat (first
 | (with_reducible first
 | apply CW.seq | apply CW.region | apply CW.block | apply CW.ret | apply CW.skip | apply CW.label | apply CW.exit
 | apply W.nil | apply Fin.seq | apply Fin.then_ret | apply Fin.then_exit | apply Fin.blk_ret | apply Fin.blk_normal | apply Fin.blk_here)
 | (with_reducible first | refine S.move ?_ | refine S.assign ?_ | refine S.pickT ?_ | refine S.pickF ?_ | refine S.lss ?_ | refine S.gtr ?_ | refine S.leq ?_ | refine S.geq ?_ | refine S.eqT ?_ | refine S.neF ?_ | refine S.eql ?_ | refine S.neq ?_ | refine S.add ?_ | refine S.sub ?_ | refine S.mul ?_ | refine S.conv ?_ | refine S.shr1 ?_ | refine S.neg ?_ | refine S.not ?_ | refine S.extract ?_ | refine S.len ?_ | refine S.fld ?_ | refine S.index ?_ | refine S.skp ?_ | refine S.sliceTo ?_ | refine S.sliceFrom ?_ | refine S.eqNil ?_ | refine S.eqbT ?_ | refine S.nebF ?_ | refine S.eqb ?_ | refine S.neb ?_)
 | ((with_reducible apply CW.cond_true); exact rfl)
 | ((with_reducible apply CW.cond_false); exact rfl)
 | ((with_reducible apply Fin.blk_far); exact rfl))
      refine S.lds (cs := p.cs) (by rfl) stPod (fun j u hj => (hx3.cell (p := ⟨b, _, none⟩) hbB).trans (hcell k p j u hpk hj)) (by rfl) (by rfl) ?_
      refine W.newBlk (d := some 29) (mk := fun b => .slice (some ⟨b, 0, none⟩) 1 1) (cs := flat [p]) (op_buildSlice Tryd.underlying22 zPod rfl rfl (by rfl) rfl (by simp [Value.cells, PV.cs]) rfl rfl) (by rfl) (by rfl) ?_
      intro b5 w5 hx5 hb5 hB5
      have hP : PS w5 w5.heap.size (.slice (some ⟨b5, 0, none⟩) 1 1) [p] := hB5.ps (L := [p]) (Nat.le_refl _)
      have hX5 := hx3.trans hx5
      refine S.app (by rfl) (by rfl) (hO3.x hx5) hP (by simp; omega) hX5.le (by rfl) (by rfl) ?_
      intro v6 w6 hO6 hg6 hat6
      repeat (first
 | (with_reducible first
 | apply CW.seq | apply CW.region | apply CW.block | apply CW.ret | apply CW.skip | apply CW.label | apply CW.exit
 | apply W.nil | apply Fin.seq | apply Fin.then_ret | apply Fin.then_exit | apply Fin.blk_ret | apply Fin.blk_normal | apply Fin.blk_here)
 | (with_reducible first | refine S.move ?_ | refine S.assign ?_ | refine S.pickT ?_ | refine S.pickF ?_ | refine S.lss ?_ | refine S.gtr ?_ | refine S.leq ?_ | refine S.geq ?_ | refine S.eqT ?_ | refine S.neF ?_ | refine S.eql ?_ | refine S.neq ?_ | refine S.add ?_ | refine S.sub ?_ | refine S.mul ?_ | refine S.conv ?_ | refine S.shr1 ?_ | refine S.neg ?_ | refine S.not ?_ | refine S.extract ?_ | refine S.len ?_ | refine S.fld ?_ | refine S.index ?_ | refine S.skp ?_ | refine S.sliceTo ?_ | refine S.sliceFrom ?_ | refine S.eqNil ?_ | refine S.eqbT ?_ | refine S.nebF ?_ | refine S.eqb ?_ | refine S.neb ?_)
 | ((with_reducible apply CW.cond_true); exact rfl)
 | ((with_reducible apply CW.cond_false); exact rfl)
 | ((with_reducible apply Fin.blk_far); exact rfl))
      refine Fin.round (k + 1, v6) (by simp only; omega) (by repeat (first | exact trivial | refine ⟨congrArg (fun z : Int => some (Value.int .i64 z)) (by omega), ?_⟩ | refine ⟨rfl, ?_⟩)) ⟨below_own hX5 (hO3.x hx5) hg6 hX5.le, hk', ?_⟩
      simp only
      rw [hstep, addP, if_neg (by rw [h]; simp)]
      exact hO6
    · have h : hasR Ls p.id = true := by simpa using h
      repeat (first
 | (with_reducible first
 | apply CW.seq | apply CW.region | apply CW.block | apply CW.ret | apply CW.skip | apply CW.label | apply CW.exit
 | apply W.nil | apply Fin.seq | apply Fin.then_ret | apply Fin.then_exit | apply Fin.blk_ret | apply Fin.blk_normal | apply Fin.blk_here)
 | (with_reducible first | refine S.move ?_ | refine S.assign ?_ | refine S.pickT ?_ | refine S.pickF ?_ | refine S.lss ?_ | refine S.gtr ?_ | refine S.leq ?_ | refine S.geq ?_ | refine S.eqT ?_ | refine S.neF ?_ | refine S.eql ?_ | refine S.neq ?_ | refine S.add ?_ | refine S.sub ?_ | refine S.mul ?_ | refine S.conv ?_ | refine S.shr1 ?_ | refine S.neg ?_ | refine S.not ?_ | refine S.extract ?_ | refine S.len ?_ | refine S.fld ?_ | refine S.index ?_ | refine S.skp ?_ | refine S.sliceTo ?_ | refine S.sliceFrom ?_ | refine S.eqNil ?_ | refine S.eqbT ?_ | refine S.nebF ?_ | refine S.eqb ?_ | refine S.neb ?_)
 | ((with_reducible apply CW.cond_true); exact rfl)
 | ((with_reducible apply CW.cond_false); exact rfl)
 | ((with_reducible apply Fin.blk_far); exact rfl))
      refine Fin.round (k + 1, ov) (by simp only; omega) (by repeat (first | exact trivial | refine ⟨congrArg (fun z : Int => some (Value.int .i64 z)) (by omega), ?_⟩ | refine ⟨rfl, ?_⟩)) ⟨hx3, hk', ?_⟩
      simp only
      rw [hstep, addP, if_pos h]
      exact hO3
  · have h := of_decide_eq_false h
    rw [List.take_of_length_le (by omega)] at hO3
    have hln := addAll_len M L
    repeat (first
 | (with_reducible first
 | apply CW.seq | apply CW.region | apply CW.block | apply CW.ret | apply CW.skip | apply CW.label | apply CW.exit
 | apply W.nil | apply Fin.seq | apply Fin.then_ret | apply Fin.then_exit | apply Fin.blk_ret | apply Fin.blk_normal | apply Fin.blk_here)
 | (with_reducible first | refine S.move ?_ | refine S.assign ?_ | refine S.pickT ?_ | refine S.pickF ?_ | refine S.lss ?_ | refine S.gtr ?_ | refine S.leq ?_ | refine S.geq ?_ | refine S.eqT ?_ | refine S.neF ?_ | refine S.eql ?_ | refine S.neq ?_ | refine S.add ?_ | refine S.sub ?_ | refine S.mul ?_ | refine S.conv ?_ | refine S.shr1 ?_ | refine S.neg ?_ | refine S.not ?_ | refine S.extract ?_ | refine S.len ?_ | refine S.fld ?_ | refine S.index ?_ | refine S.skp ?_ | refine S.sliceTo ?_ | refine S.sliceFrom ?_ | refine S.eqNil ?_ | refine S.eqbT ?_ | refine S.nebF ?_ | refine S.eqb ?_ | refine S.neb ?_)
 | ((with_reducible apply CW.cond_true); exact rfl)
 | ((with_reducible apply CW.cond_false); exact rfl)
 | ((with_reducible apply Fin.blk_far); exact rfl))
    refine S.cl (op_call ent27 (by rfl) (by rfl)) (by rfl) (by rfl) (refSort_calls ov _ w3 hO3.ps (by omega) fun p hp' => hp p (addAll_mem M L p hp')) ?_
    rintro v4 w4 ⟨hO4, hx4⟩
    repeat (first
 | (with_reducible first
 | apply CW.seq | apply CW.region | apply CW.block | apply CW.ret | apply CW.skip | apply CW.label | apply CW.exit
 | apply W.nil | apply Fin.seq | apply Fin.then_ret | apply Fin.then_exit | apply Fin.blk_ret | apply Fin.blk_normal | apply Fin.blk_here)
 | (with_reducible first | refine S.move ?_ | refine S.assign ?_ | refine S.pickT ?_ | refine S.pickF ?_ | refine S.lss ?_ | refine S.gtr ?_ | refine S.leq ?_ | refine S.geq ?_ | refine S.eqT ?_ | refine S.neF ?_ | refine S.eql ?_ | refine S.neq ?_ | refine S.add ?_ | refine S.sub ?_ | refine S.mul ?_ | refine S.conv ?_ | refine S.shr1 ?_ | refine S.neg ?_ | refine S.not ?_ | refine S.extract ?_ | refine S.len ?_ | refine S.fld ?_ | refine S.index ?_ | refine S.skp ?_ | refine S.sliceTo ?_ | refine S.sliceFrom ?_ | refine S.eqNil ?_ | refine S.eqbT ?_ | refine S.nebF ?_ | refine S.eqb ?_ | refine S.neb ?_)
 | ((with_reducible apply CW.cond_true); exact rfl)
 | ((with_reducible apply CW.cond_false); exact rfl)
 | ((with_reducible apply Fin.blk_far); exact rfl))
    (with_reducible apply R.r1); exact rfl; exact rfl
    exact ⟨hO4.low hx3.le, hx3.trans hx4⟩
def dropR (L : List PV) (id : Int) : List PV := L.filter fun p => !(p.id == id)
theorem dropR_take {L : List PV} {id : Int} {k : Nat} (hk : k < L.length) : dropR (L.take (k + 1)) id = if L[k].id ≠ id then dropR (L.take k) id ++ [L[k]] else dropR (L.take k) id := by
  unfold dropR
  rw [List.take_succ_eq_append_getElem hk, List.filter_append]
  by_cases h : L[k].id = id <;> simp [h]
theorem dropR_len (L : List PV) (id : Int) : (dropR L id).length ≤ L.length := List.length_filter_le _ _
theorem sort_addP (out : List PV) (p : PV) : sortR (addP out p) = if hasR out p.id then sortR out else insR p (sortR out) := by
  unfold addP
  split
  · rfl
  · exact sortR_snoc out p
theorem has_map (w : World) (L : List PV) (id : Int) : hasA ((sortR L).map (ab w)) id = hasR L id := by
  unfold hasA hasR
  rw [Bool.eq_iff_iff, List.any_eq_true, List.any_eq_true]
  constructor
  · rintro ⟨a, ha, he⟩
    obtain ⟨p, hp, rfl⟩ := List.mem_map.1 ha
    exact ⟨p, ((sortR_srt L).2.mem p).2 hp, he⟩
  · rintro ⟨p, hp, he⟩
    exact ⟨ab w p, List.mem_map.2 ⟨p, ((sortR_srt L).2.mem p).1 hp, rfl⟩, he⟩
theorem pushA_map (w : World) (out : List PV) (p : PV) : (sortR (addP out p)).map (ab w) = pushA ((sortR out).map (ab w)) (ab w p) := by
  rw [sort_addP]
  unfold pushA
  have h := has_map w out p.id
  unfold hasA at h
  rw [show (ab w p).1.id = p.id from rfl, h]
  split
  · rfl
  · exact insA_map w p (sortR out)
theorem pushAll_map (w : World) (M : List PV) : ∀ L : List PV, (sortR (addAll L M)).map (ab w) = pushAll ((sortR L).map (ab w)) (M.map (ab w)) := by
  induction M with
  | nil => intro L; rfl
  | cons p M ih =>
    intro L
    show (sortR (addAll (addP L p) M)).map (ab w) = pushAll (pushA ((sortR L).map (ab w)) (ab w p)) (M.map (ab w))
    rw [ih, pushA_map]
theorem drop_map (w : World) (L : List PV) (id : Int) : (dropR L id).map (ab w) = dropA (L.map (ab w)) id := by
  unfold dropR dropA
  rw [List.filter_map]
  rfl
theorem nrm_eq {p q : PV} (h : nrm q = nrm p) : q.id = p.id ∧ q.prio = p.prio ∧ q.pre = p.pre ∧ q.grace = p.grace ∧ q.arr = p.arr ∧ q.ph = p.ph ∧ q.node = p.node ∧ q.dead = p.dead := by
  cases p; cases q
  simp only [nrm, PV.mk.injEq] at h
  obtain ⟨h1, h2, h3, h4, _, _, _, h5, h6, h7, h8⟩ := h
  exact ⟨h1, h2, h3, h4, h5, h6, h7, h8⟩
theorem smp_of {w : World} {p q : PV} (h : ab w q = ab w p) : SmP (rqf w) p q := by
  unfold ab at h
  injection h with h1 h2
  obtain ⟨e1, e2, e3, e4, e5, e6, e7, e8⟩ := nrm_eq h1
  exact ⟨e1, e2, e3, e4, e5, e6, e7, e8, h2⟩
theorem RK.rq {w : World} {K : Nat → Prop} {p : PV} (h : RK w K p) : IS w w.heap.size p.rA p.rn (rqf w p) ∧ (rqf w p).length ≤ 1000 := by
  obtain ⟨l, h1, h2⟩ := h
  unfold rqf
  rw [h2.read]
  exact ⟨h2.is, h1⟩
theorem Same_ab (l m : Value) (L M : List PV) (w : World) (hl : PS w w.heap.size l L) (hm : PS w w.heap.size m M) (he : L.map (ab w) = M.map (ab w)) (hL : ∀ p ∈ L, RK w (fun _ => True) p) (hM : ∀ p ∈ M, RK w (fun _ => True) p) (hn : L.length ≤ 1000) :
    CallsR Tryd.prog 12 [l, m] w fun v w' => v = .bool true ∧ X w w' := by
  refine Same_true (rqf w) l m L M w.heap.size w hl hm ⟨by have := congrArg List.length he; simpa using this, fun i p q hp hq => smp_of ?_⟩ (fun p hp => (hL p hp).rq) (fun p hp => (hM p hp).rq) hn (Nat.le_refl _)
  have h1 : (L.map (ab w))[i]? = some (ab w p) := by rw [List.getElem?_map, hp]; rfl
  have h2 : (M.map (ab w))[i]? = some (ab w q) := by rw [List.getElem?_map, hq]; rfl
  rw [he, h2] at h1
  injection h1
theorem SamePod_ab (p q : PV) (w : World) (h : ab w q = ab w p) (hp : RK w (fun _ => True) p) (hq : RK w (fun _ => True) q) : CallsR Tryd.prog 26 [p.v, q.v] w fun v w' => v = .bool true ∧ X w w' :=
  SamePod_sm (rqf w) p q w.heap.size w (smp_of h) hp.rq.1 hq.rq.1 hp.rq.2 (Nat.le_refl _)

theorem RK.none_ {w : World} {K : Nat → Prop} {p : PV} (h1 : p.rn = 0) : RK w K p := ⟨[], by simp, h1, fun h => absurd rfl h⟩
/-- A queue that grows on what lies above. -/
theorem FO.xx {O O' : Nat → Prop} {w w1 w2 : World} (h : FO O O' w1 w2) (hx : X w w1) (hO : ∀ b, O b → w.heap.size ≤ b) : X w w2 := h.below hx hx.le hO

theorem RQ.rk {w : World} {B : Nat} {f : PV → List Int} {L : List PV} (h : RQ w B f L) {p : PV} (hp : p ∈ L) : RK w (· < B) p := ⟨f p, (h p hp).2, (h p hp).1⟩
theorem sort_mem {L : List PV} : ∀ p ∈ sortR (addAll [] L), p ∈ L := fun p hp => by
  have := ((sortR_srt _).2.mem p).2 hp
  rcases addAll_mem L [] p this with h | h
  · cases h
  · exact h
theorem sort_abs (w : World) (L : List PV) : (sortR (addAll [] L)).map (ab w) = pushAll [] (L.map (ab w)) := pushAll_map w L []
theorem hasA_drop (A : List AP) (id : Int) : hasA (dropA A id) id = false := by
  unfold hasA dropA
  rw [List.any_eq_false]
  intro a ha
  have := (List.mem_filter.1 ha).2
  simpa using this
theorem dropA_drop (A : List AP) (id : Int) : dropA (dropA A id) id = dropA A id := by
  unfold dropA
  rw [List.filter_filter]
  simp
theorem hasA_map (w : World) (L : List PV) (id : Int) : hasA (L.map (ab w)) id = hasR L id := by
  unfold hasA hasR
  rw [List.any_map]
  rfl
theorem dropA_none {A : List AP} {id : Int} (h : hasA A id = false) : dropA A id = A := by
  unfold dropA
  refine List.filter_eq_self.2 fun a ha => ?_
  unfold hasA at h
  rw [List.any_eq_false] at h
  have := h a ha
  simpa using this

theorem insR_idd {x : PV} {out : List PV} (h : IdD out) (hx : ∀ y ∈ out, y.id ≠ x.id) : IdD (insR x out) := by
  unfold insR
  have h0 : IdD (out.take (posOf x out out.length) ++ out.drop (posOf x out out.length)) := by rwa [List.take_append_drop]
  obtain ⟨h1, h2, h3⟩ := List.pairwise_append.1 h0
  refine List.pairwise_append.2 ⟨h1, List.pairwise_cons.2 ⟨fun y hy => (hx y (List.mem_of_mem_drop hy)).symm, h2⟩, fun a ha b hb => ?_⟩
  rcases List.mem_cons.1 hb with rfl | hb
  · exact hx a (List.mem_of_mem_take ha)
  · exact h3 a ha b hb
theorem sort_idd (M : List PV) : ∀ L : List PV, IdD (sortR L) → IdD (sortR (addAll L M)) := by
  induction M with
  | nil => intro L h; exact h
  | cons p M ih =>
    intro L h
    refine ih (addP L p) ?_
    rw [sort_addP]
    split
    · exact h
    · rename_i hn
      refine insR_idd h fun y hy e => hn ?_
      exact List.any_eq_true.2 ⟨y, ((sortR_srt L).2.mem y).2 hy, by simpa using e⟩
theorem sort_idd0 (L : List PV) : IdD (sortR (addAll [] L)) := sort_idd L [] .nil

theorem SF.xx {Sb : Nat → Prop} {w w1 w2 : World} (h : SF Sb w1 w2) (hx : X w w1) (hS : ∀ k, Sb k → w.heap.size ≤ k) : X w w2 := h.below hx hx.le hS
theorem SpP.keep {w w' : World} {Sb : Nat → Prop} {p : PV} (h : SpP w Sb p) (hs : ∀ k, k < w.heap.size → Sb k → w'.heap[k]? = w.heap[k]?) : SpP w' Sb p := ⟨h.1, fun h0 => by
  obtain ⟨b, cs, e1, e2, e3, e4⟩ := h.2 h0
  exact ⟨b, cs, e1, e2, (hs b e3.lt e2).trans e3, e4⟩⟩
theorem OwnR.x {w w' : World} {B : Nat} {p : PV} (h : OwnR w B p) (hx : X w w') : OwnR w' B p := h.imp fun l h => ⟨h.1, h.2.x hx⟩
theorem OwnR.low {w : World} {B B' : Nat} {p : PV} (h : OwnR w B p) (hB : B' ≤ B) : OwnR w B' p := h.imp fun l h => ⟨h.1, h.2.low hB⟩

def foundP (LW : List PV) (id : Int) : PV := (LW.find? fun p => p.id == id).getD PV.zero
theorem foundP_ab (w : World) (LW : List PV) (id : Int) : ab w (foundP LW id) = ((LW.map (ab w)).find? fun a => a.1.id == id).getD az := by
  unfold foundP
  rw [List.find?_map]
  show _ = ((LW.find? fun p => p.id == id).map (ab w)).getD az
  cases LW.find? (fun p => p.id == id) <;> rfl
theorem foundP_none {LW : List PV} {id : Int} (h : ∀ p ∈ LW, p.id ≠ id) : foundP LW id = PV.zero := by
  unfold foundP
  rw [List.find?_eq_none.2 fun p hp => by simpa using h p hp]; rfl
theorem foundP_some {LW : List PV} {id : Int} {i : Nat} (hi : i < LW.length) (h : LW[i].id = id) (hb : ∀ j (hj : j < i), (LW[j]'(by omega)).id ≠ id) : foundP LW id = LW[i] := by
  unfold foundP
  have : LW.find? (fun p => p.id == id) = some LW[i] := by
    rw [List.find?_eq_some_iff_getElem]
    exact ⟨by simpa using h, i, hi, rfl, fun j hj => by simpa using hb j hj⟩
  rw [this]; rfl
theorem foundP_mem (LW : List PV) (id : Int) : foundP LW id = PV.zero ∨ foundP LW id ∈ LW := by
  unfold foundP
  cases h : LW.find? (fun p => p.id == id) with
  | none => exact .inl rfl
  | some p => exact .inr (List.mem_of_find?_eq_some h)

/-- A list that reads as A. -/
def pAll (A : List AP) (v : Value) (w : World) : Prop := ∃ Ls, PSK w (fun _ => True) v Ls ∧ (∀ p ∈ Ls, RK w (fun _ => True) p) ∧ Ls.map (ab w) = A
theorem pAll.lasts {A : List AP} : ∀ v w w', X w w' → pAll A v w → pAll A v w' := fun v w w' hx ⟨Ls, h1, h2, h3⟩ => ⟨Ls, h1.x hx, fun p hp => (h2 p hp).x hx, by rw [← h3]; exact List.map_congr_left fun p hp => (h2 p hp).abx hx⟩
theorem D.clq {w0 : World} {ops : Array Oper} {env : Env} {N : Nat} {Post : SEnv → Prop} {rest : List Nat} {Γ : SEnv} {ty : TypeId} {pos : String} {aft : Array Edge} {gd : Option (Nat × Bool)} {d s f : Nat} {y : Operand} {p : Value → World → Prop} {v r : Value} {ats : Array TypeId}
    (hs : lookS Γ env s = some (.pr p)) (hf : Go.Proofs.Enters Tryd.prog f) (hy : opL Γ env y = some v) (hc : ∀ u w, X w0 w → p u w → CallsR Tryd.prog f [u, v] w fun z w' => z = r ∧ X w w') (hg : wantS ops Γ env gd = some true) (hd : Nat.blt d N = true)
    (K : TC Tryd.prog X w0 ops env N Post rest ((d, .det r) :: Γ)) : TC1 Tryd.prog X w0 ops env N Post rest Γ { dst := some d, op := .call { callee := .value (.func f), args := #[.tmp s, y], argTypes := ats }, type := ty, pos, after := aft, guard := gd } :=
  ⟨.det r, hd, Sl.lasts_det X r, .inl ⟨hg, fun ev w hr he hp => by
    have h1 := hp s _ (by simp [Op.operands, Call.operands]) hs
    have h2 : EvOk (fun x => some (ev x)) ev := fun x v h => by injection h
    have h3 := op_call (P := Tryd.prog) (ty := ty) (L := fun x => some (ev x)) (xs := #[.tmp s, y]) (vs := [ev (.tmp s), v]) (ats := ats) hf (by rw [he (.func f) _ rfl]) (by simp [evL, he y _ hy])
    unfold OpT
    rw [h3 ev h2]
    exact (hc _ w hr h1).mono fun z w' h => ⟨h.2, h.1⟩⟩, K⟩

end Go.Proofs.YtmilpjkjcanghaaDoor

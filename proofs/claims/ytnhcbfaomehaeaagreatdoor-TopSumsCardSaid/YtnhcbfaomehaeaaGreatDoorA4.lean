/- The executor's four moves on its heap, and what each says of the world. -/
import Derived.Test.YtnhcbfaomehaeaaGreatDoorA3
namespace Go.Proofs.YtnhcbfaomehaeaaGreatDoor.R1
open Go
set_option linter.unusedVariables false
set_option linter.unusedSimpArgs false

theorem bit_test (b j : Nat) : (bit b).testBit j = decide (j = b) := by
  show (1 <<< b).testBit j = _
  rw [Nat.one_shiftLeft, Nat.testBit_two_pow]
  rw [Bool.eq_iff_iff]; simp [eq_comm]
theorem lor_test (a b j : Nat) : (Nat.lor a b).testBit j = (a.testBit j || b.testBit j) := Nat.testBit_or a b j

structure LookOk (s : St) (b : Nat) (o : AO) (s' : St) : Prop where
  get : s.h.get b = some o
  h : s'.h = s.h
  nx : s'.nx = s.nx
  wr : s'.wr = s.wr
  rd : ∀ j, s'.rd.testBit j = (s.rd.testBit j || decide (j = b))
theorem look_ok {s s' : St} {b : Nat} {o : AO} (h : s.look b = some (o, s')) : LookOk s b o s' := by
  unfold St.look at h
  split at h
  · rename_i o₁ hg
    rw [forceN_eq] at h
    cases h
    exact ⟨hg, rfl, rfl, rfl, fun j => by rw [lor_test, bit_test]⟩
  · cases h

structure TurnOk (s : St) (b : Nat) (o : Option AO) (s' : St) : Prop where
  was : (s.h.get b).isSome
  get : ∀ j, s'.h.get j = if j = b then o else s.h.get j
  nx : s'.nx = s.nx
  rd : s'.rd = s.rd
  wr : ∀ j, s'.wr.testBit j = (s.wr.testBit j || decide (j = b))
theorem turn_ok {s s' : St} {b : Nat} {o : Option AO} (h : s.turn b o = some s') : TurnOk s b o s' := by
  unfold St.turn at h
  split at h
  · rename_i o₁ hg
    split at h
    · rename_i t ht
      rw [forceN_eq] at h
      cases h
      exact ⟨by rw [hg]; rfl, T.get_put _ _ _ _ ht, rfl, rfl, fun j => by rw [lor_test, bit_test]⟩
    · cases h
  · cases h

structure NewOk (s : St) (o : AO) (b : Nat) (s' : St) : Prop where
  eq : b = s.nx
  get : ∀ j, s'.h.get j = if j = s.nx then some o else s.h.get j
  nx : s'.nx = s.nx + 1
  rd : s'.rd = s.rd
  wr : s'.wr = s.wr
theorem new_ok {s s' : St} {o : AO} {b : Nat} (h : s.new o = some (b, s')) : NewOk s o b s' := by
  unfold St.new at h
  split at h
  · rename_i t ht
    rw [forceN_eq] at h
    cases h
    exact ⟨rfl, T.get_put _ _ _ _ ht, rfl, rfl, rfl⟩
  · cases h

structure New2Ok (s : St) (o : AO) (b : Nat) (s' : St) : Prop where
  eq : b = s.nx
  get : ∀ j, s'.h.get j = if j = s.nx then some o else s.h.get j
  nx : s'.nx = s.nx + 2
  rd : s'.rd = s.rd
  wr : s'.wr = s.wr
theorem new2_ok {s s' : St} {o : AO} {b : Nat} (h : s.new2 o = some (b, s')) : New2Ok s o b s' := by
  unfold St.new2 at h
  split at h
  · rename_i t ht
    rw [forceN_eq] at h
    cases h
    exact ⟨rfl, T.get_put _ _ _ _ ht, rfl, rfl, rfl⟩
  · cases h
theorem New2Ok.tr {s s' : St} {b : Nat} {o : AO} (h : New2Ok s o b s') : Tr s s' where
  nx := by rw [h.nx]; omega
  rd := fun j hj => by rw [h.rd]; exact hj
  wr := fun j hj => by rw [h.wr]; exact hj
  keep := fun j hj _ => by rw [h.get, if_neg (by omega)]
  dom := fun j hj hn => by rw [h.get, if_neg (by omega)]; exact hn
  wf := fun hw j hj => by
    rw [h.nx] at hj
    rw [h.get, if_neg (by omega)]; exact hw j (by omega)

theorem LookOk.tr {s s' : St} {b : Nat} {o : AO} (h : LookOk s b o s') : Tr s s' where
  nx := by rw [h.nx]; exact Nat.le_refl _
  rd := fun j hj => by rw [h.rd, hj]; rfl
  wr := fun j hj => by rw [h.wr]; exact hj
  keep := fun j _ _ => by rw [h.h]
  dom := fun j _ hn => by rw [h.h]; exact hn
  wf := fun hw j hj => by rw [h.h]; exact hw j (by rw [← h.nx]; exact hj)
theorem LookOk.touch {s s' : St} {b : Nat} {o : AO} (h : LookOk s b o s') : s'.rd.testBit b = true := by rw [h.rd]; simp
theorem TurnOk.tr {s s' : St} {b : Nat} {o : Option AO} (h : TurnOk s b o s') : Tr s s' where
  nx := by rw [h.nx]; exact Nat.le_refl _
  rd := fun j hj => by rw [h.rd]; exact hj
  wr := fun j hj => by rw [h.wr, hj]; rfl
  keep := fun j _ hw => by
    rw [h.wr] at hw
    rw [h.get, if_neg (by intro e; subst e; simp at hw)]
  dom := fun j _ hn => by
    rw [h.get]
    split
    · rename_i e; subst e; have := h.was; rw [hn] at this; cases this
    · exact hn
  wf := fun hw j hj => by
    rw [h.nx] at hj
    rw [h.get]
    split
    · rename_i e; subst e; have := h.was; rw [hw j hj] at this; cases this
    · exact hw j hj
theorem TurnOk.touch {s s' : St} {b : Nat} {o : Option AO} (h : TurnOk s b o s') : s'.wr.testBit b = true := by rw [h.wr]; simp
theorem NewOk.tr {s s' : St} {b : Nat} {o : AO} (h : NewOk s o b s') : Tr s s' where
  nx := by rw [h.nx]; omega
  rd := fun j hj => by rw [h.rd]; exact hj
  wr := fun j hj => by rw [h.wr]; exact hj
  keep := fun j hj _ => by rw [h.get, if_neg (by omega)]
  dom := fun j hj hn => by rw [h.get, if_neg (by omega)]; exact hn
  wf := fun hw j hj => by
    rw [h.nx] at hj
    rw [h.get, if_neg (by omega)]; exact hw j (by omega)

/-- What is touched is seen. -/
theorem vis.rd {V : Nat → Bool} {s s' : St} (h : vis V s s') (hw : Wf s) {b : Nat} (hs : (s.h.get b).isSome) (ht : s'.rd.testBit b = true) : V b = true := by
  refine h b ?_ (.inl ht)
  rcases Nat.lt_or_ge b s.nx with h' | h'
  · exact h'
  · rw [hw b h'] at hs; cases hs
theorem vis.wr {V : Nat → Bool} {s s' : St} (h : vis V s s') (hw : Wf s) {b : Nat} (hs : (s.h.get b).isSome) (ht : s'.wr.testBit b = true) : V b = true := by
  refine h b ?_ (.inr ht)
  rcases Nat.lt_or_ge b s.nx with h' | h'
  · exact h'
  · rw [hw b h'] at hs; cases hs

section outs
variable {G : Nat} {V : Nat → Bool} {ρ : Ren} {s s' : St} {w w' : World}

theorem res_same {h h' : HF} {V V' : Nat → Bool} (hh : h' = h) (hv : ∀ b, V' b = V b) : res V' h' = res V h := by
  subst hh; funext b; unfold res; rw [hv]

theorem Vn_same (hn : s'.nx = s.nx) (b : Nat) : Vn V s s' b = V b := by
  unfold Vn
  rw [hn]
  cases V b
  · simp
  · rfl

/-- Nothing turns. -/
theorem Out.idle (hh : s'.h = s.h) (hn : s'.nx = s.nx) (hr : Rel G ρ (res V s.h.get) w) : Out G V ρ s w ρ s' w where
  ext := fun _ _ => rfl
  rel := by rw [res_same (by rw [hh]) (Vn_same hn)]; exact hr
  frame := fun _ _ _ => rfl
  img := fun b k h1 h2 => by omega
  size := Nat.le_refl _
  same := ⟨rfl, rfl, rfl⟩
  keepw := fun _ _ _ _ _ _ => rfl

noncomputable def upd (ρ : Ren) (b k : Nat) : Ren := fun j => if j = b then some k else ρ j
theorem upd_same (ρ : Ren) (b k : Nat) : upd ρ b k b = some k := by simp [upd]
theorem upd_other (ρ : Ren) {b k j : Nat} (h : j ≠ b) : upd ρ b k j = ρ j := by simp [upd, h]
theorem upd_sub {ρ : Ren} {b : Nat} (k : Nat) (h : ρ b = none) : Sub ρ (upd ρ b k) := fun j x e => by
  by_cases hj : j = b
  · subst hj; rw [h] at e; cases e
  · rw [upd_other ρ hj]; exact e

theorem Rel.lt (hr : Rel G ρ (res V s.h.get) w) {b k : Nat} (hV : V b = true) (hs : (s.h.get b).isSome) (he : ρ b = some k) : k < w.heap.size := by
  obtain ⟨o, ho⟩ := Option.isSome_iff_exists.1 hs
  obtain ⟨k', o', h1, h2, _⟩ := hr.obj b o (res_some.2 ⟨hV, ho⟩)
  rw [he] at h1; cases h1
  exact (Array.getElem?_eq_some_iff.1 h2).1

/-- A block is made. -/
theorem Out.new {o : AO} {b : Nat} {o' : Obj} (hs : NewOk s o b s') (hf : ρ s.nx = none) (hg : G ≤ s.nx) (hr : Rel G ρ (res V s.h.get) w)
    (hold : ∀ k, k < w.heap.size → w'.heap[k]? = w.heap[k]?) (hnew : w'.heap[w.heap.size]? = some o') (hsame : w'.tape = w.tape ∧ w'.os = w.os ∧ w'.output = w.output)
    (ho : OR ρ s.nx o o') : Out G V ρ s w (upd ρ s.nx w.heap.size) s' w' where
  ext := fun j hj => upd_other ρ (by rw [hs.nx] at hj; omega)
  rel := by
    have hsub := upd_sub w.heap.size hf
    refine ⟨fun j oj hj => ?_, fun j c k h1 h2 h3 h4 => ?_, fun g hlt => hsub _ _ (hr.glb g hlt)⟩
    · obtain ⟨hV, hget⟩ := res_some.1 hj
      rw [hs.get] at hget
      by_cases hjn : j = s.nx
      · subst hjn
        rw [if_pos rfl] at hget
        cases hget
        exact ⟨_, _, upd_same _ _ _, hnew, ho.mono hsub⟩
      · rw [if_neg hjn] at hget
        rw [Vn_iff, hs.nx] at hV
        have hV' : V j = true := hV.resolve_right (by omega)
        obtain ⟨k, o1, e1, e2, e3⟩ := hr.obj j oj (res_some.2 ⟨hV', hget⟩)
        exact ⟨k, o1, hsub _ _ e1, by rw [hold k (Array.getElem?_eq_some_iff.1 e2).1]; exact e2, e3.mono hsub⟩
    · have key : ∀ j k, (res (Vn V s s') s'.h.get j).isSome → upd ρ s.nx w.heap.size j = some k → (j = s.nx ∧ k = w.heap.size) ∨ (j ≠ s.nx ∧ k < w.heap.size ∧ (res V s.h.get j).isSome ∧ ρ j = some k) := by
        intro j k h1 h3
        obtain ⟨oj, hoj⟩ := Option.isSome_iff_exists.1 h1
        obtain ⟨hV, hget⟩ := res_some.1 hoj
        rw [hs.get] at hget
        by_cases hjn : j = s.nx
        · subst hjn; rw [upd_same] at h3; cases h3; exact .inl ⟨rfl, rfl⟩
        · rw [if_neg hjn] at hget
          rw [Vn_iff, hs.nx] at hV
          have hV' : V j = true := hV.resolve_right (by omega)
          rw [upd_other ρ hjn] at h3
          exact .inr ⟨hjn, hr.lt hV' (by rw [hget]; rfl) h3, by rw [res_some.2 ⟨hV', hget⟩]; rfl, h3⟩
      rcases key j k h1 h3 with ⟨a1, a2⟩ | ⟨a1, a2, a3, a4⟩ <;> rcases key c k h2 h4 with ⟨b1, b2⟩ | ⟨b1, b2, b3, b4⟩
      · rw [a1, b1]
      · omega
      · omega
      · exact hr.inj j c k a3 b3 a4 b4
  frame := fun k hk _ => hold k hk
  img := fun j k h1 h2 h3 h4 => by
    rw [hs.nx] at h2
    have : j = s.nx := by omega
    subst this
    rw [upd_same] at h4; cases h4
    exact .inl (Nat.le_refl _)
  size := Nat.le_of_lt (Array.getElem?_eq_some_iff.1 hnew).1
  same := hsame
  keepw := fun b k hV hs' _ he => hold k (hr.lt hV hs' he)

/-- A block's object turns into another one, or is no longer told of. -/
theorem Out.turn {o : Option AO} {b k : Nat} {o' : Obj} (hs : TurnOk s b o s') (hV : V b = true) (he : ρ b = some k) (hr : Rel G ρ (res V s.h.get) w)
    (hk : w'.heap[k]? = some o') (hne : ∀ j, j ≠ k → w'.heap[j]? = w.heap[j]?) (hsz : w'.heap.size = w.heap.size) (hsame : w'.tape = w.tape ∧ w'.os = w.os ∧ w'.output = w.output)
    (ho : ∀ x, o = some x → OR ρ b x o') : Out G V ρ s w ρ s' w' where
  ext := fun _ _ => rfl
  rel := by
    have hv := Vn_same (V := V) hs.nx
    have hold : ∀ j x, res (Vn V s s') s'.h.get j = some x → j = b ∧ o = some x ∨ j ≠ b ∧ res V s.h.get j = some x := by
      intro j x hx
      obtain ⟨h1, h2⟩ := res_some.1 hx
      rw [hv] at h1
      rw [hs.get] at h2
      by_cases hj : j = b
      · rw [if_pos hj] at h2; exact .inl ⟨hj, h2⟩
      · rw [if_neg hj] at h2; exact .inr ⟨hj, res_some.2 ⟨h1, h2⟩⟩
    have hb : (res V s.h.get b).isSome := by
      obtain ⟨x, hx⟩ := Option.isSome_iff_exists.1 hs.was
      rw [res_some.2 ⟨hV, hx⟩]; rfl
    have hsome : ∀ j, (res (Vn V s s') s'.h.get j).isSome → (res V s.h.get j).isSome := by
      intro j hj
      obtain ⟨x, hx⟩ := Option.isSome_iff_exists.1 hj
      rcases hold j x hx with ⟨e, _⟩ | ⟨_, h⟩
      · rw [e]; exact hb
      · rw [h]; rfl
    refine ⟨fun j x hx => ?_, fun j c kk h1 h2 => hr.inj j c kk (hsome j h1) (hsome c h2), hr.glb⟩
    rcases hold j x hx with ⟨e, h⟩ | ⟨hj, h⟩
    · rw [e]; exact ⟨k, o', he, hk, ho x h⟩
    · obtain ⟨k', o1, e1, e2, e3⟩ := hr.obj j x h
      refine ⟨k', o1, e1, ?_, e3⟩
      rw [hne k' (fun e => hj (hr.inj j b k (by rw [h]; rfl) hb (e ▸ e1) he))]
      exact e2
  frame := fun j _ hn => hne j fun e => hn b hV hs.was (e ▸ he)
  img := fun j k h1 h2 => by rw [hs.nx] at h2; omega
  size := by rw [hsz]; exact Nat.le_refl _
  same := hsame
  keepw := fun j kk hV' hs' hw' he' => hne kk fun e => by
    subst e
    have h1 : (res V s.h.get j).isSome := by
      obtain ⟨x, hx⟩ := Option.isSome_iff_exists.1 hs'
      rw [res_some.2 ⟨hV', hx⟩]; rfl
    have h2 : (res V s.h.get b).isSome := by
      obtain ⟨x, hx⟩ := Option.isSome_iff_exists.1 hs.was
      rw [res_some.2 ⟨hV, hx⟩]; rfl
    have := hr.inj j b kk h1 h2 he' he
    subst this
    rw [hs.touch] at hw'; cases hw'

noncomputable def upd2 (ρ : Ren) (b k C : Nat) : Ren := fun j => if j = b then some k else if j = b + 1 then some C else ρ j
theorem upd2_same (ρ : Ren) (b k C : Nat) : upd2 ρ b k C b = some k := by simp [upd2]
theorem upd2_cap (ρ : Ren) (b k C : Nat) : upd2 ρ b k C (b + 1) = some C := by simp [upd2]
theorem upd2_other (ρ : Ren) {b k C j : Nat} (h : j ≠ b) (h' : j ≠ b + 1) : upd2 ρ b k C j = ρ j := by simp [upd2, h, h']
theorem upd2_sub {ρ : Ren} {b : Nat} (k C : Nat) (h : ρ b = none) (h' : ρ (b + 1) = none) : Sub ρ (upd2 ρ b k C) := fun j x e => by
  by_cases hj : j = b
  · subst hj; rw [h] at e; cases e
  · by_cases hj' : j = b + 1
    · subst hj'; rw [h'] at e; cases e
    · rw [upd2_other ρ hj hj']; exact e

/-- A row whose capacity is not told is made. -/
theorem Out.new2 {o : AO} {b C : Nat} {o' : Obj} (hs : New2Ok s o b s') (hf : ρ s.nx = none) (hf2 : ρ (s.nx + 1) = none) (hg : G ≤ s.nx) (hw : Wf s) (hr : Rel G ρ (res V s.h.get) w)
    (hold : ∀ k, k < w.heap.size → w'.heap[k]? = w.heap[k]?) (hnew : w'.heap[w.heap.size]? = some o') (hsame : w'.tape = w.tape ∧ w'.os = w.os ∧ w'.output = w.output)
    (ho : OR (upd2 ρ s.nx w.heap.size C) s.nx o o') : Out G V ρ s w (upd2 ρ s.nx w.heap.size C) s' w' where
  ext := fun j hj => upd2_other ρ (by rw [hs.nx] at hj; omega) (by rw [hs.nx] at hj; omega)
  rel := by
    have hsub := upd2_sub w.heap.size C hf hf2
    have key0 : ∀ j x, res (Vn V s s') s'.h.get j = some x → (j = s.nx ∧ x = o) ∨ (j < s.nx ∧ res V s.h.get j = some x) := by
      intro j x hx
      obtain ⟨hV, hget⟩ := res_some.1 hx
      rw [hs.get] at hget
      by_cases hjn : j = s.nx
      · rw [if_pos hjn] at hget; cases hget; exact .inl ⟨hjn, rfl⟩
      · rw [if_neg hjn] at hget
        have hjw : j < s.nx := by
          rcases Nat.lt_or_ge j s.nx with h | h
          · exact h
          · rw [hw j h] at hget; cases hget
        rw [Vn_iff, hs.nx] at hV
        exact .inr ⟨hjw, res_some.2 ⟨hV.resolve_right (by omega), hget⟩⟩
    refine ⟨fun j oj hj => ?_, fun j c k h1 h2 h3 h4 => ?_, fun g hlt => hsub _ _ (hr.glb g hlt)⟩
    · rcases key0 j oj hj with ⟨rfl, rfl⟩ | ⟨hjw, hx⟩
      · exact ⟨_, _, upd2_same _ _ _ _, hnew, ho⟩
      · obtain ⟨k, o1, e1, e2, e3⟩ := hr.obj j oj hx
        exact ⟨k, o1, hsub _ _ e1, by rw [hold k (Array.getElem?_eq_some_iff.1 e2).1]; exact e2, e3.mono hsub⟩
    · obtain ⟨x, hx⟩ := Option.isSome_iff_exists.1 h1
      obtain ⟨y, hy⟩ := Option.isSome_iff_exists.1 h2
      have lt : ∀ j x k, j < s.nx → res V s.h.get j = some x → upd2 ρ s.nx w.heap.size C j = some k → k < w.heap.size ∧ ρ j = some k := by
        intro j x k hj hx hk
        rw [upd2_other ρ (by omega) (by omega)] at hk
        obtain ⟨hV, hg⟩ := res_some.1 hx
        exact ⟨hr.lt hV (by rw [hg]; rfl) hk, hk⟩
      rcases key0 j x hx with ⟨rfl, _⟩ | ⟨a1, a2⟩ <;> rcases key0 c y hy with ⟨rfl, _⟩ | ⟨b1, b2⟩
      · rfl
      · rw [upd2_same] at h3; cases h3
        have := (lt c y _ b1 b2 h4).1; omega
      · rw [upd2_same] at h4; cases h4
        have := (lt j x _ a1 a2 h3).1; omega
      · exact hr.inj j c k (by rw [a2]; rfl) (by rw [b2]; rfl) (lt j x k a1 a2 h3).2 (lt c y k b1 b2 h4).2
  frame := fun k hk _ => hold k hk
  img := fun j k h1 h2 h3 h4 => by
    rw [hs.nx] at h2
    have : j = s.nx := by
      have hj1 : j ≠ s.nx + 1 := by
        intro e
        rw [e, hs.get, if_neg (by omega), hw _ (by omega)] at h3
        cases h3
      omega
    subst this
    rw [upd2_same] at h4; cases h4
    exact .inl (Nat.le_refl _)
  size := Nat.le_of_lt (Array.getElem?_eq_some_iff.1 hnew).1
  same := hsame
  keepw := fun b k hV hs' _ he => hold k (hr.lt hV hs' he)

/-- A block goes out of sight and comes back under a new name. -/
theorem Out.swap {s₁ : St} {o : AO} {b b' k : Nat} {o' : Obj} (hs : TurnOk s b none s₁) (hn : New2Ok s₁ o b' s') (hV : V b = true) (he : ρ b = some k) (hf : ρ s.nx = none) (hf2 : ρ (s.nx + 1) = none) (hg : G ≤ s.nx) (hw : Wf s)
    (hr : Rel G ρ (res V s.h.get) w) (hk : w'.heap[k]? = some o') (hne : ∀ j, j ≠ k → w'.heap[j]? = w.heap[j]?) (hsz : w'.heap.size = w.heap.size)
    (hsame : w'.tape = w.tape ∧ w'.os = w.os ∧ w'.output = w.output) {C : Nat} (ho : OR (upd2 ρ s.nx k C) s.nx o o') : Out G V ρ s w (upd2 ρ s.nx k C) s' w' where
  ext := fun j hj => upd2_other ρ (by rw [hn.nx, hs.nx] at hj; omega) (by rw [hn.nx, hs.nx] at hj; omega)
  rel := by
    have hsub := upd2_sub k C hf hf2
    have hbn : b < s.nx := by
      rcases Nat.lt_or_ge b s.nx with h | h
      · exact h
      · have := hs.was; rw [hw b h] at this; cases this
    have hb : (res V s.h.get b).isSome := by
      obtain ⟨x, hx⟩ := Option.isSome_iff_exists.1 hs.was
      rw [res_some.2 ⟨hV, hx⟩]; rfl
    have hlt : ∀ j {x}, res V s.h.get j = some x → j ≠ s.nx + 1 := by
      intro j x hx e
      obtain ⟨_, h2⟩ := res_some.1 hx
      rw [hw j (by omega)] at h2; cases h2
    have hold : ∀ j x, res (Vn V s s') s'.h.get j = some x → j = s.nx ∧ x = o ∨ j ≠ s.nx ∧ j ≠ b ∧ res V s.h.get j = some x := by
      intro j x hx
      obtain ⟨h1, h2⟩ := res_some.1 hx
      rw [hn.get, hs.nx] at h2
      by_cases hj : j = s.nx
      · rw [if_pos hj] at h2; cases h2; exact .inl ⟨hj, rfl⟩
      · rw [if_neg hj, hs.get] at h2
        by_cases hjb : j = b
        · rw [if_pos hjb] at h2; cases h2
        · rw [if_neg hjb] at h2
          rw [Vn_iff, hn.nx, hs.nx] at h1
          have hjw : j < s.nx := by
            rcases Nat.lt_or_ge j s.nx with h | h
            · exact h
            · rw [hw j h] at h2; cases h2
          exact .inr ⟨hj, hjb, res_some.2 ⟨h1.resolve_right (by omega), h2⟩⟩
    refine ⟨fun j x hx => ?_, fun j c kk h1 h2 h3 h4 => ?_, fun g hlt => hsub _ _ (hr.glb g hlt)⟩
    · rcases hold j x hx with ⟨e, rfl⟩ | ⟨hj, hjb, h⟩
      · rw [e]; exact ⟨k, o', upd2_same _ _ _ _, hk, ho⟩
      · obtain ⟨k', o1, e1, e2, e3⟩ := hr.obj j x h
        refine ⟨k', o1, hsub _ _ e1, ?_, e3.mono hsub⟩
        rw [hne k' (fun e => hjb (hr.inj j b k (by rw [h]; rfl) hb (e ▸ e1) he))]
        exact e2
    · obtain ⟨x, hx⟩ := Option.isSome_iff_exists.1 h1
      obtain ⟨y, hy⟩ := Option.isSome_iff_exists.1 h2
      rcases hold j x hx with ⟨a1, _⟩ | ⟨a1, a2, a3⟩ <;> rcases hold c y hy with ⟨b1, _⟩ | ⟨b1, b2, b3⟩
      · rw [a1, b1]
      · rw [a1, upd2_same] at h3; cases h3
        rw [upd2_other ρ b1 (hlt c b3)] at h4
        exact absurd (hr.inj c b k (by rw [b3]; rfl) hb h4 he) b2
      · rw [b1, upd2_same] at h4; cases h4
        rw [upd2_other ρ a1 (hlt j a3)] at h3
        exact absurd (hr.inj j b k (by rw [a3]; rfl) hb h3 he) a2
      · rw [upd2_other ρ a1 (hlt j a3)] at h3
        rw [upd2_other ρ b1 (hlt c b3)] at h4
        exact hr.inj j c kk (by rw [a3]; rfl) (by rw [b3]; rfl) h3 h4
  frame := fun j _ hn => hne j fun e => hn b hV hs.was (e ▸ he)
  img := fun j kk h1 h2 h3 h4 => by
    have hbn : b < s.nx := by
      rcases Nat.lt_or_ge b s.nx with h | h
      · exact h
      · have := hs.was; rw [hw b h] at this; cases this
    rw [hn.nx, hs.nx] at h2
    have : j = s.nx := by
      have hj1 : j ≠ s.nx + 1 := by
        intro e
        rw [e, hn.get, hs.nx, if_neg (by omega), hs.get, if_neg (by omega), hw _ (by omega)] at h3
        cases h3
      omega
    subst this
    rw [upd2_same] at h4; cases h4
    exact .inr ⟨b, hV, hbn, hs.was, by rw [hn.get, hs.nx, if_neg (by omega), hs.get, if_pos rfl], he⟩
  size := by rw [hsz]; exact Nat.le_refl _
  same := hsame
  keepw := fun j kk hV' hs' hw' he' => hne kk fun e => by
    subst e
    have h1 : (res V s.h.get j).isSome := by
      obtain ⟨x, hx⟩ := Option.isSome_iff_exists.1 hs'
      rw [res_some.2 ⟨hV', hx⟩]; rfl
    have h2 : (res V s.h.get b).isSome := by
      obtain ⟨x, hx⟩ := Option.isSome_iff_exists.1 hs.was
      rw [res_some.2 ⟨hV, hx⟩]; rfl
    have := hr.inj j b kk h1 h2 he' he
    subst this
    rw [hn.wr, hs.touch] at hw'; cases hw'

end outs
end Go.Proofs.YtnhcbfaomehaeaaGreatDoor.R1

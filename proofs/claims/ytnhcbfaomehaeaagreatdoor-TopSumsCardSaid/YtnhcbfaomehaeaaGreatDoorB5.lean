/- A region whose order is drawn: the world's side of one operation. -/
import Derived.Test.YtnhcbfaomehaeaaGreatDoorB4
namespace Go.Proofs.YtnhcbfaomehaeaaGreatDoor.R1
open Go
set_option linter.unusedVariables false
set_option linter.unusedSimpArgs false

theorem range_bit {n m b : Nat} (h : n ≤ m) : (Nat.sub (Nat.shiftLeft 1 m) (Nat.shiftLeft 1 n)).testBit b = (decide (n ≤ b) && decide (b < m)) := by
  show (1 <<< m - 1 <<< n).testBit b = _
  rw [Nat.one_shiftLeft, Nat.one_shiftLeft]
  have e : 2 ^ m - 2 ^ n = (2 ^ (m - n) - 1) <<< n := by rw [Nat.shiftLeft_eq, Nat.sub_mul, ← Nat.pow_add, Nat.one_mul, Nat.sub_add_cancel h]
  rw [e, Nat.testBit_shiftLeft, Nat.testBit_two_pow_sub_one, Bool.eq_iff_iff]
  simp only [Bool.and_eq_true, decide_eq_true_eq]
  omega

noncomputable def VX (V0 : Nat → Bool) (a N : Nat) : Nat → Bool := fun b => V0 b || (decide (a ≤ b) && decide (b < N))
theorem VX_iff {V0 : Nat → Bool} {a N b : Nat} : VX V0 a N b = true ↔ V0 b = true ∨ (a ≤ b ∧ b < N) := by
  unfold VX; simp

structure WInv (G : Nat) (V0 : Nat → Bool) (ρ0 : Ren) (s0 : St) (w0 : World) (N : Nat) (live wrt : Nat → Prop) (ρ : Ren) (g : HF) (w : World) : Prop where
  ext : ∀ b, ¬ live b → ρ b = ρ0 b
  rel : Rel G ρ (res (VX V0 s0.nx N) g) w
  frame : ∀ k, k < w0.heap.size → (∀ b, V0 b = true → (s0.h.get b).isSome → ρ0 b ≠ some k) → w.heap[k]? = w0.heap[k]?
  img : ∀ b k, s0.nx ≤ b → b < N → (g b).isSome → ρ b = some k → w0.heap.size ≤ k ∨ ∃ c, V0 c = true ∧ c < s0.nx ∧ (s0.h.get c).isSome ∧ g c = none ∧ ρ0 c = some k
  size : w0.heap.size ≤ w.heap.size
  same : w.tape = w0.tape ∧ w.os = w0.os ∧ w.output = w0.output
  keepw : ∀ b k, V0 b = true → (s0.h.get b).isSome → ¬ wrt b → ρ0 b = some k → w.heap[k]? = w0.heap[k]?

section
variable {G : Nat} {V0 Vi : Nat → Bool} {ρ0 ρ ρ' : Ren} {s0 s s1 : St} {w0 w w' : World} {N : Nat} {live live' wrt wrt' : Nat → Prop} {g g' : HF}

theorem Rel.restrict {h h' : HF} (hr : Rel G ρ h w) (hh : ∀ b o, h' b = some o → h b = some o) : Rel G ρ h' w where
  obj := fun b o e => hr.obj b o (hh b o e)
  inj := fun b c k h1 h2 => by
    obtain ⟨o1, e1⟩ := Option.isSome_iff_exists.1 h1
    obtain ⟨o2, e2⟩ := Option.isSome_iff_exists.1 h2
    exact hr.inj b c k (by rw [hh b o1 e1]; rfl) (by rw [hh c o2 e2]; rfl)
  glb := hr.glb

theorem res_isSome {V : Nat → Bool} {h : HF} {b : Nat} : (res V h b).isSome = true ↔ V b = true ∧ (h b).isSome = true := by
  unfold res; split <;> rename_i e <;> simp [e]

theorem WInv.step (hI : WInv G V0 ρ0 s0 w0 N live wrt ρ g w) (tr : Tr s s1) (wf : Wf s) (hs0 : s0.nx ≤ s.nx) (hN : s1.nx ≤ N) (hdom : ∀ b, b < s0.nx → s0.h.get b = none → s.h.get b = none)
    (hlive : ∀ b, live b → s0.nx ≤ b) (hVi : ∀ b, b < s0.nx → Vi b = true → V0 b = true) (hag : ∀ b, Vi b = true → g b = s.h.get b) (hwr : ∀ b, b < s.nx → s1.wr.testBit b = true → Vi b = true)
    (hO : Out G Vi ρ s w ρ' s1 w') (hf : fresh ρ s s1) (hg1 : ∀ b, (s1.wr.testBit b = true ∨ (s.nx ≤ b ∧ b < s1.nx)) → g' b = s1.h.get b) (hg2 : ∀ b, ¬ (s1.wr.testBit b = true ∨ (s.nx ≤ b ∧ b < s1.nx)) → g' b = g b)
    (hl : ∀ b, live b → live' b) (hl' : ∀ b, (s.nx ≤ b ∧ b < s1.nx) → live' b)
    (hs0w : Wf s0) (hun : ∀ b, ¬ wrt b → g b = s0.h.get b) (hw1 : ∀ b, wrt b → wrt' b) (hw2 : ∀ b, s1.wr.testBit b = true → wrt' b) : WInv G V0 ρ0 s0 w0 N live' wrt' ρ' g' w' := by
  have wf1 := tr.wf wf
  have lt_of : ∀ b, (s.h.get b).isSome = true → b < s.nx := fun b h => by
    rcases Nat.lt_or_ge b s.nx with h' | h'
    · exact h'
    · rw [wf b h'] at h; cases h
  have lt_of1 : ∀ b, (s1.h.get b).isSome = true → b < s1.nx := fun b h => by
    rcases Nat.lt_or_ge b s1.nx with h' | h'
    · exact h'
    · rw [wf1 b h'] at h; cases h
  have back : ∀ b, b < s.nx → (s1.h.get b).isSome = true → (s.h.get b).isSome = true := fun b hb h => by
    cases hs : s.h.get b with
    | none => rw [tr.dom b hb hs] at h; cases h
    | some o => rfl
  have vx : ∀ b, b < s.nx → Vi b = true → VX V0 s0.nx N b = true := fun b hb h => by
    rw [VX_iff]
    by_cases hb0 : b < s0.nx
    · exact .inl (hVi b hb0 h)
    · have := tr.nx
      exact .inr ⟨by omega, by omega⟩
  have live_of : ∀ b, Vi b = true → (s.h.get b).isSome = true → (res (VX V0 s0.nx N) g b).isSome = true := fun b hb hs => by
    rw [res_isSome]
    exact ⟨vx b (lt_of b hs) hb, by rw [hag b hb]; exact hs⟩
  have sub := hO.sub hf
  have lt_w : ∀ b k, (res (VX V0 s0.nx N) g b).isSome = true → ρ b = some k → k < w.heap.size := fun b k hb he => by
    obtain ⟨o, ho⟩ := Option.isSome_iff_exists.1 hb
    obtain ⟨k', o', e1, e2, _⟩ := hI.rel.obj b o ho
    rw [he] at e1; cases e1
    exact (Array.getElem?_eq_some_iff.1 e2).1
  have cls : ∀ b k, (res (VX V0 s0.nx N) g' b).isSome = true → ρ' b = some k →
      (Vn Vi s s1 b = true ∧ (s1.h.get b).isSome = true) ∨ (Vi b = false ∧ (res (VX V0 s0.nx N) g b).isSome = true ∧ ρ b = some k) := by
    intro b k hb he
    obtain ⟨hvx, hsm⟩ := res_isSome.1 hb
    by_cases hw : s1.wr.testBit b = true ∨ (s.nx ≤ b ∧ b < s1.nx)
    · rw [hg1 b hw] at hsm
      refine .inl ⟨Vn_iff.2 ?_, hsm⟩
      by_cases hr : s.nx ≤ b ∧ b < s1.nx
      · exact .inr hr
      · have := lt_of1 b hsm
        exact .inl (hwr b (by omega) (hw.resolve_right hr))
    · rw [hg2 b hw] at hsm
      cases hv : Vi b with
      | true =>
        rw [hag b hv] at hsm
        have hlt := lt_of b hsm
        refine .inl ⟨Vn_iff.2 (.inl hv), ?_⟩
        rw [tr.keep b hlt (by cases h : s1.wr.testBit b with | false => rfl | true => exact absurd (.inl h) hw)]
        exact hsm
      | false => exact .inr ⟨rfl, res_isSome.2 ⟨hvx, hsm⟩, by rw [← hO.ext b (fun h => hw (.inr h))]; exact he⟩
  have mix : ∀ b c k, Vn Vi s s1 b = true → (s1.h.get b).isSome = true → ρ' b = some k → Vi c = false → (res (VX V0 s0.nx N) g c).isSome = true → ρ c = some k → False := by
    intro b c k h1 h2 h3 h4 h5 h6
    by_cases hr : s.nx ≤ b ∧ b < s1.nx
    · rcases hO.img b k hr.1 hr.2 h2 h3 with h | ⟨d, q1, q2, q3, q4, q5⟩
      · have := lt_w c k h5 h6
        omega
      · have := hI.rel.inj d c k (live_of d q1 q3) h5 q5 h6
        subst this
        rw [h4] at q1; cases q1
    · have hv := (Vn_iff.1 h1).resolve_right hr
      have hlt := lt_of1 b h2
      have hs := back b (by omega) h2
      have := hI.rel.inj b c k (live_of b hv hs) h5 (by rw [← hO.ext b hr]; exact h3) h6
      subst this
      rw [h4] at hv; cases hv
  have keepnone : ∀ e, e < s0.nx → g e = none → g' e = none := by
    intro e he hn
    by_cases hw : s1.wr.testBit e = true ∨ (s.nx ≤ e ∧ e < s1.nx)
    · rw [hg1 e hw]
      have hw1 := hw.resolve_right (by omega)
      have hv := hwr e (by omega) hw1
      exact tr.dom e (by omega) (by rw [← hag e hv]; exact hn)
    · rw [hg2 e hw]; exact hn
  have old : ∀ c k, Vi c = true → (s.h.get c).isSome = true → ρ c = some k →
      (c < s0.nx ∧ V0 c = true ∧ (s0.h.get c).isSome = true ∧ ρ0 c = some k) ∨ (s0.nx ≤ c ∧ c < N ∧ (g c).isSome = true) := by
    intro c k hc hs he
    have hlt := lt_of c hs
    by_cases hc0 : c < s0.nx
    · refine .inl ⟨hc0, hVi c hc0 hc, ?_, ?_⟩
      · cases h0 : s0.h.get c with
        | none => rw [hdom c hc0 h0] at hs; cases hs
        | some o => rfl
      · rw [← hI.ext c (fun h => by have := hlive c h; omega)]; exact he
    · have := tr.nx
      exact .inr ⟨by omega, by omega, by rw [hag c hc]; exact hs⟩
  refine ⟨fun b hb => ?_, ⟨fun b o hb => ?_, fun b c k hb hc eb ec => ?_, hO.rel.glb⟩, fun k hk hn => ?_, fun b k h1 h2 h3 h4 => ?_, Nat.le_trans hI.size hO.size,
    ⟨hO.same.1.trans hI.same.1, hO.same.2.1.trans hI.same.2.1, hO.same.2.2.trans hI.same.2.2⟩, fun b k hb hs hw he => ?_⟩
  · rw [hO.ext b (fun h => hb (hl' b h)), hI.ext b (fun h => hb (hl b h))]
  · obtain ⟨hvx, hgb⟩ := res_some.1 hb
    by_cases hw : s1.wr.testBit b = true ∨ (s.nx ≤ b ∧ b < s1.nx)
    · rw [hg1 b hw] at hgb
      refine hO.rel.obj b o (res_some.2 ⟨Vn_iff.2 ?_, hgb⟩)
      by_cases hr : s.nx ≤ b ∧ b < s1.nx
      · exact .inr hr
      · have := lt_of1 b (by rw [hgb]; rfl)
        exact .inl (hwr b (by omega) (hw.resolve_right hr))
    · rw [hg2 b hw] at hgb
      cases hv : Vi b with
      | true =>
        have hgs := hag b hv
        rw [hgb] at hgs
        have hlt := lt_of b (by rw [← hgs]; rfl)
        refine hO.rel.obj b o (res_some.2 ⟨Vn_iff.2 (.inl hv), ?_⟩)
        rw [tr.keep b hlt (by cases h : s1.wr.testBit b with | false => rfl | true => exact absurd (.inl h) hw)]
        exact hgs.symm
      | false =>
        have hb' : res (VX V0 s0.nx N) g b = some o := res_some.2 ⟨hvx, hgb⟩
        obtain ⟨k, o1, e1, e2, e3⟩ := hI.rel.obj b o hb'
        refine ⟨k, o1, sub _ _ e1, ?_, e3.mono sub⟩
        rw [hO.frame k (Array.getElem?_eq_some_iff.1 e2).1 fun c hc hs he => ?_]
        · exact e2
        · have := hI.rel.inj c b k (live_of c hc hs) (by rw [hb']; rfl) he e1
          subst this
          rw [hc] at hv; cases hv
  · rcases cls b k hb eb with ⟨p1, p2⟩ | ⟨p1, p2, p3⟩ <;> rcases cls c k hc ec with ⟨q1, q2⟩ | ⟨q1, q2, q3⟩
    · exact hO.rel.inj b c k (res_isSome.2 ⟨p1, p2⟩) (res_isSome.2 ⟨q1, q2⟩) eb ec
    · exact (mix b c k p1 p2 eb q1 q2 q3).elim
    · exact (mix c b k q1 q2 ec p1 p2 p3).elim
    · exact hI.rel.inj b c k p2 q2 p3 q3
  · rw [← hI.frame k hk hn]
    refine hO.frame k (Nat.lt_of_lt_of_le hk hI.size) fun c hc hs he => ?_
    rcases old c k hc hs he with ⟨p1, p2, p3, p4⟩ | ⟨p1, p2, p3⟩
    · exact hn c p2 p3 p4
    · rcases hI.img c k p1 p2 p3 he with h | ⟨d, q1, _, q3, _, q5⟩
      · omega
      · exact hn d q1 q3 q5
  · by_cases hr : s.nx ≤ b ∧ b < s1.nx
    · rw [hg1 b (.inr hr)] at h3
      rcases hO.img b k hr.1 hr.2 h3 h4 with h | ⟨d, q1, q2, q3, q4, q5⟩
      · exact .inl (Nat.le_trans hI.size h)
      · rcases old d k q1 q3 q5 with ⟨p1, p2, p3, p4⟩ | ⟨p1, p2, p3⟩
        · refine .inr ⟨d, p2, p1, p3, ?_, p4⟩
          have hwd : s1.wr.testBit d = true := by
            cases h : s1.wr.testBit d with
            | true => rfl
            | false =>
              rw [tr.keep d q2 h] at q4
              rw [q4] at q3; cases q3
          rw [hg1 d (.inl hwd)]; exact q4
        · rcases hI.img d k p1 p2 p3 q5 with h | ⟨e, r1, r2, r3, r4, r5⟩
          · exact .inl h
          · exact .inr ⟨e, r1, r2, r3, keepnone e r2 r4, r5⟩
    · have he : ρ b = some k := by rw [← hO.ext b hr]; exact h4
      have hgb : (g b).isSome = true := by
        by_cases hw : s1.wr.testBit b = true
        · rw [hg1 b (.inl hw)] at h3
          have hlt := lt_of1 b h3
          rw [hag b (hwr b (by omega) hw)]
          exact back b (by omega) h3
        · rw [hg2 b (fun h => h.elim hw hr)] at h3
          exact h3
      rcases hI.img b k h1 h2 hgb he with h | ⟨e, r1, r2, r3, r4, r5⟩
      · exact .inl h
      · exact .inr ⟨e, r1, r2, r3, keepnone e r2 r4, r5⟩
  · have hnw : ¬ wrt b := fun h => hw (hw1 b h)
    have hgb := hun b hnw
    have hb0 : b < s0.nx := by
      rcases Nat.lt_or_ge b s0.nx with h' | h'
      · exact h'
      · rw [hs0w b h'] at hs; cases hs
    have hρ : ρ b = some k := by rw [hI.ext b (fun h => by have := hlive b h; omega)]; exact he
    have hlv : (res (VX V0 s0.nx N) g b).isSome = true := res_isSome.2 ⟨VX_iff.2 (.inl hb), by rw [hgb]; exact hs⟩
    rw [← hI.keepw b k hb hs hnw he]
    cases hv : Vi b with
    | true =>
      refine hO.keepw b k hv (by rw [← hag b hv, hgb]; exact hs) ?_ hρ
      cases h : s1.wr.testBit b with
      | false => rfl
      | true => exact absurd (hw2 b h) hw
    | false =>
      refine hO.frame k (lt_w b k hlv hρ) fun c hc hcs hec => ?_
      have := hI.rel.inj c b k (live_of c hc hcs) hlv hec hρ
      subst this
      rw [hc] at hv; cases hv
end

end Go.Proofs.YtnhcbfaomehaeaaGreatDoor.R1

/- A region whose order is drawn, and whatever the executor calls: the theorems. -/
import Derived.Test.YtnhcbfaomehaeaaGreatDoorB7
namespace Go.Proofs.YtnhcbfaomehaeaaGreatDoor.R1
open Go
set_option linter.unusedVariables false
set_option linter.unusedSimpArgs false

section chain
variable {P : Program} {tb : Tab} {call yld : CallH} {ops : Array Oper} {σ : Nat → St} {τ : Nat → List Value} {δ : Nat → Did}

structure DInv (tb : Tab) (ops : Array Oper) (σ : Nat → St) (τ : Nat → List Value) (δ : Nat → Did) (V0 : Nat → Bool) (ρ0 : Ren) (w0 : World) (a0 : Act) (listed : Array Bool) (ρ : Ren) (g : HF) (w : World) (a : Act) : Prop where
  size : listed.size = ops.size
  closed : Closed ops listed
  world : WInv tb.globals V0 ρ0 (σ 0) w0 (σ ops.size).nx (fun b => ∃ i, Lst listed i ∧ (σ i).nx ≤ b ∧ b < (σ (i + 1)).nx) (fun b => ∃ i, Lst listed i ∧ (δ i).wr.testBit b = true) ρ g w
  mem : ∀ b m, Pre ops.size (fun i b => (δ i).wr.testBit b = true) (Lst listed) b m → g b = (σ m).h.get b
  tmp : ∀ t m, Pre ops.size (fun i t => (δ i).ds.testBit t = true) (Lst listed) t m → SlotR ρ a t (τ m)[t]?
  len : a.tmps.size = (τ 0).length
  defers : a.defers = a0.defers

theorem DInv.step (hc : Ch P tb call yld ops σ τ δ) {V0 : Nat → Bool} {ρ0 ρ : Ren} {w0 w : World} {a0 a : Act} {listed : Array Bool} {g : HF} (hI : DInv tb ops σ τ δ V0 ρ0 w0 a0 listed ρ g w a)
    (h0 : Wf (σ 0)) (hG : tb.globals ≤ (σ 0).nx) (hv : ∀ i b, i < ops.size → b < (σ 0).nx → ((δ i).rd.testBit b = true ∨ (δ i).wr.testBit b = true) → V0 b = true)
    (hf : ∀ b, (σ 0).nx ≤ b → b < (σ ops.size).nx → ρ0 b = none)
    {i : Nat} {o : Oper} (ho : ops[i]? = some o) (hi : i < ops.size) (hn : ¬ Lst listed i) (ha : ∀ e ∈ o.after, Region.binds .any e = true → Lst listed e.on)
    {rd : Option Nat} {K : Act → World → Prop} {Q : Exit → Act → World → Prop} (hK : ∀ ρ' g' w' a', DInv tb ops σ τ δ V0 ρ0 w0 a0 (listed.setIfInBounds i true) ρ' g' w' a' → K a' w') : wpOpIn (FF rd) 0 P ops Q i K a w := by
  obtain ⟨gm, hgm, hst, _, hrd, _, hnm, hds⟩ := (hc.at_ i o ho).ex
  obtain ⟨tr, v, hput, hrun⟩ := stepD_ok hc.tab hc.callOk hc.yldOk ho hst hgm
  have hanc := hc.anc hI.size hI.closed i o ho ha
  have hcl : ∀ j, Lst listed j → ∀ k, (δ j).anc.testBit k = true → Lst listed k := fun j hj k hk => hc.ancL hI.size hI.closed hj k hk
  have hS : ∀ j, Lst (listed.setIfInBounds i true) j ↔ j = i ∨ Lst listed j := fun j => lst_set (by rw [hI.size]; exact hi)
  have hwf := hc.wf h0 i (by omega)
  have hn0 : (σ 0).nx ≤ (σ i).nx := hc.nx' (Nat.zero_le i) (by omega)
  have hnN : (σ (i + 1)).nx ≤ (σ ops.size).nx := hc.nx' (by omega) (Nat.le_refl _)
  have hni : (σ i).nx ≤ (σ (i + 1)).nx := hc.nx' (by omega) (by omega)
  have hag : ∀ b, ((δ i).rd.testBit b = true ∨ (δ i).wr.testBit b = true) → g b = (σ i).h.get b := fun b hb =>
    hI.mem b i (pre_at hc.freeB hi hn hanc hcl hb)
  have htm : ∀ t, (δ i).nm.testBit t = true → SlotR ρ a t (τ i)[t]? := fun t ht => hI.tmp t i (pre_at hc.freeT hi hn hanc hcl ht)
  let Vi : Nat → Bool := fun b => (δ i).rd.testBit b || (δ i).wr.testBit b
  have hVi : ∀ b, Vi b = true ↔ ((δ i).rd.testBit b = true ∨ (δ i).wr.testBit b = true) := fun b => by simp [Vi]
  have hlive : ∀ b, (∃ k, Lst listed k ∧ (σ k).nx ≤ b ∧ b < (σ (k + 1)).nx) → (σ 0).nx ≤ b ∧ b < (σ ops.size).nx ∧ ¬ ((σ i).nx ≤ b ∧ b < (σ (i + 1)).nx) := by
    rintro b ⟨k, hk, h1, h2⟩
    have hkn : k < ops.size := by rw [← hI.size]; exact lst_lt hk
    have q1 : (σ 0).nx ≤ (σ k).nx := hc.nx' (Nat.zero_le k) (by omega)
    have q2 : (σ (k + 1)).nx ≤ (σ ops.size).nx := hc.nx' (by omega) (Nat.le_refl _)
    refine ⟨by omega, by omega, fun h => ?_⟩
    rcases Nat.lt_trichotomy k i with h3 | h3 | h3
    · have : (σ (k + 1)).nx ≤ (σ i).nx := hc.nx' (by omega) (by omega)
      omega
    · subst h3; exact hn hk
    · have : (σ (i + 1)).nx ≤ (σ k).nx := hc.nx' (by omega) (by omega)
      omega
  have hfr : fresh ρ (rst (σ i)) (σ (i + 1)) := fun b h1 h2 => by
    have h1 : (σ i).nx ≤ b := h1
    rw [hI.world.ext b (fun h => (hlive b h).2.2 ⟨h1, h2⟩)]
    exact hf b (by omega) (by omega)
  have hvis : vis Vi (rst (σ i)) (σ (i + 1)) := fun b hb ht => by
    rw [hVi, hrd, hc.wr_iff hi]
    rcases ht with h | h
    · exact .inl h
    · exact .inr (.inl h)
  have hrel : Rel tb.globals ρ (res Vi (rst (σ i)).h.get) w := by
    refine hI.world.rel.restrict fun b ob hb => ?_
    obtain ⟨h1, h2⟩ := res_some.1 hb
    have h2 : (σ i).h.get b = some ob := h2
    have hb1 := (hVi b).1 h1
    refine res_some.2 ⟨?_, by rw [hag b hb1]; exact h2⟩
    rw [VX_iff]
    have hlt : b < (σ i).nx := by
      rcases Nat.lt_or_ge b (σ i).nx with h | h
      · exact h
      · rw [hwf b h] at h2; cases h2
    by_cases hb0 : b < (σ 0).nx
    · exact .inl (hv i b hi hb0 hb1)
    · exact .inr (by omega)
  have hlen : (τ i).length = a.tmps.size := by rw [hI.len, hc.len i (by omega)]
  refine hrun Vi ρ w a rd K Q hwf (Nat.le_trans hG hn0) hvis hfr hrel hlen (fun t ht => htm t ?_) fun v' ρ' w' hvv hO => ?_
  · rw [hnm, lor_test, lor_test]
    rcases ht with h | h <;> simp [h]
  · have sub := hO.sub hfr
    refine hK ρ' (fun b => if (δ i).wr.testBit b = true then (σ (i + 1)).h.get b else g b) w' _ ⟨?_, closed_set hI.size hI.closed ho hi ha, ?_, ?_, ?_, ?_, ?_⟩
    · rw [Array.size_setIfInBounds, hI.size]
    · refine WInv.step (Vi := Vi) hI.world tr hwf hn0 hnN (fun b hb hbn => hc.dom hb hbn i (by omega)) (fun b h => (hlive b h).1) (fun b hb h => hv i b hi hb ((hVi b).1 h))
        (fun b h => hag b ((hVi b).1 h)) (fun b _ h => (hVi b).2 (.inr ((hc.wr_iff hi).2 (.inl h)))) hO hfr (fun b h => if_pos ((hc.wr_iff hi).2 h)) (fun b h => if_neg (fun hh => h ((hc.wr_iff hi).1 hh))) ?_ ?_ h0 ?_ ?_ ?_
      · rintro b ⟨k, hk, h⟩
        exact ⟨k, (hS k).2 (.inr hk), h⟩
      · intro b h
        exact ⟨i, (hS i).2 (.inl rfl), h⟩
      · intro b h
        exact hI.mem b 0 ⟨Nat.zero_le _, fun j hj => by omega, fun j _ _ hwj hl => h ⟨j, hl, hwj⟩⟩
      · rintro b ⟨k, hk, h⟩
        exact ⟨k, (hS k).2 (.inr hk), h⟩
      · intro b h
        exact ⟨i, (hS i).2 (.inl rfl), (hc.wr_iff hi).2 (.inl h)⟩
    · exact told_step hc.freeB (fun _ h => .inr h) (σ := fun m b => (σ m).h.get b) (fun j hj b hb => hc.keep h0 hj b hb) hi hn hcl hS (T := fun b y => g b = y) hI.mem (fun b h => if_pos h) (fun b y h e => by rw [if_neg h]; exact e)
    · refine told_step hc.freeT (fun t h => ?_) (σ := fun m t => (τ m)[t]?) (fun j hj t ht => hc.keepT hj t ht) hi hn hcl hS (T := fun t y => SlotR ρ a t y) hI.tmp (fun t h => ?_) (fun t y h e => ?_)
      · rw [hnm, lor_test, ← hds, h]; rfl
      · have hd := (hc.ds ho).1 h
        obtain ⟨h1, h2⟩ := (putE_eq hput).2.2 t hd
        intro u hu
        rw [h2] at hu; cases hu
        refine ⟨v', ?_, hvv⟩
        rw [hd]
        simp only [Act.put]
        rw [Array.getElem?_setIfInBounds_self_of_lt (by omega)]
      · have hd : o.dst ≠ some t := fun hh => h ((hc.ds ho).2 hh)
        intro u hu
        obtain ⟨u', h1, h2⟩ := e u hu
        refine ⟨u', ?_, h2.mono sub⟩
        cases hdst : o.dst with
        | none => exact h1
        | some d =>
          simp only [Act.put]
          rw [Array.getElem?_setIfInBounds_ne (fun e => hd (by rw [hdst, e]))]
          exact h1
    · cases o.dst <;> simp [Act.put, hI.len]
    · rw [← hI.defers]
      cases o.dst <;> rfl

theorem unl_zero {listed : Array Bool} {n : Nat} (h : unl listed (List.range n) = 0) {i : Nat} (hi : i < n) : Lst listed i := by
  unfold unl at h
  have h1 := List.filter_eq_nil_iff.1 (List.length_eq_zero_iff.1 h) i (List.mem_range.2 hi)
  unfold Lst
  simpa using h1

theorem DInv.run (hc : Ch P tb call yld ops σ τ δ) {V0 : Nat → Bool} {ρ0 : Ren} {w0 : World} {a0 : Act}
    (h0 : Wf (σ 0)) (hG : tb.globals ≤ (σ 0).nx) (hv : ∀ i b, i < ops.size → b < (σ 0).nx → ((δ i).rd.testBit b = true ∨ (δ i).wr.testBit b = true) → V0 b = true)
    (hf : ∀ b, (σ 0).nx ≤ b → b < (σ ops.size).nx → ρ0 b = none) {rd : Option Nat} {Q : Exit → Act → World → Prop}
    (hQ : ∀ ρ g w a listed, DInv tb ops σ τ δ V0 ρ0 w0 a0 listed ρ g w a → (∀ i, i < ops.size → Lst listed i) → Q .normal a w) :
    ∀ (fuel : Nat) (listed : Array Bool) (ρ : Ren) (g : HF) (w : World) (a : Act), DInv tb ops σ τ δ V0 ρ0 w0 a0 listed ρ g w a → unl listed (List.range ops.size) ≤ fuel → wpAnyIn (FF rd) 0 P .any ops Q fuel listed a w := by
  intro fuel
  induction fuel with
  | zero =>
    intro listed ρ g w a hI hu
    have hall : ∀ i, i < ops.size → Lst listed i := fun i hi => unl_zero (by omega) hi
    refine ⟨?_, hQ ρ g w a listed hI hall⟩
    cases hr : Region.ready .any ops listed with
    | nil => rfl
    | cons x xs =>
      obtain ⟨o, ho, hi, hn, _⟩ := ready_spec hI.size (i := x) (by rw [hr]; exact List.mem_cons_self)
      exact absurd (hall x hi) hn
  | succ fuel ih =>
    intro listed ρ g w a hI hu
    refine ⟨fun hr => hQ ρ g w a listed hI fun i hi => ?_, fun i hir => ?_⟩
    · exact Classical.byContradiction fun hn => ready_ex (fun i o ho e he hb => hc.edge ho e he hb) hI.size i hi hn hr
    · obtain ⟨o, ho, hi, hn, ha⟩ := ready_spec hI.size hir
      refine hI.step hc h0 hG hv hf ho hi hn ha fun ρ' g' w' a' hI' => ih _ ρ' g' w' a' hI' ?_
      have := unl_set (by rw [hI.size]; exact hi) hn (List.range ops.size) List.nodup_range (List.mem_range.2 hi)
      omega

theorem lst_rep (n i : Nat) : ¬ Lst (Array.replicate n false) i := by
  unfold Lst
  simp only [Array.getD_eq_getD_getElem?, Array.getElem?_replicate]
  split <;> simp

theorem drawOk (hT : TabOk P tb) (hC : CallOk P tb.globals call) (hY : YldOk P tb.globals yld) : DrawOk P tb call yld := by
  intro ops tm s tm' s' h
  simp only [regX, forceN_eq] at h
  split at h
  · rename_i tm1 sn ds hd
    cases h
    obtain ⟨σ, τ, δ, e1, e2, e3, e4, e5, e6⟩ := drawX_chain _ _ _ _ _ _ _ _ hd
    simp only [Nat.zero_add, Array.length_toList, List.nil_append] at e3 e4 e5 e6
    have hc : Ch P tb call yld ops σ τ δ := ⟨fun k o ho => e6 k o (by simpa using ho), hT, hC, hY⟩
    have hin : ∀ i, i < ops.size → δ i ∈ ds := fun i hi => by
      rw [e5]
      exact List.mem_map.2 ⟨i, List.mem_range'_1.2 (by omega), rfl⟩
    have hnx : s.nx ≤ sn.nx := by rw [← e1, ← e3]; exact hc.nx' (Nat.zero_le _) (Nat.le_refl _)
    refine ⟨⟨hnx, fun b hb => ?_, fun b hb => ?_, fun b hb hw => ?_, fun b hb hn => ?_, fun hw => ?_⟩, fun V ρ w a rd Q id hw hG hv hf hr ht hQ => ?_⟩
    · show (Nat.lor s.rd (sumRd ds)).testBit b = true
      rw [lor_test, hb]; rfl
    · show (Nat.lor s.wr (sumWr ds)).testBit b = true
      rw [lor_test, hb]; rfl
    · have hw : (Nat.lor s.wr (sumWr ds)).testBit b = false := hw
      rw [lor_test, Bool.or_eq_false_iff] at hw
      show sn.h.get b = s.h.get b
      have hb0 : b < (σ 0).nx := by rw [e1]; exact hb
      have nw : ∀ j, j < ops.size → ¬ (δ j).wr.testBit b = true := fun j hj h => by rw [sumWr_ok (hin j hj) h] at hw; cases hw.2
      have main : ∀ j, j ≤ ops.size → (σ j).h.get b = s.h.get b := by
        intro j
        induction j with
        | zero => intro _; rw [e1]
        | succ j ih =>
          intro hj
          have hx : (σ 0).nx ≤ (σ j).nx := hc.nx' (Nat.zero_le j) (by omega)
          rw [← ih (by omega)]
          refine (hc.tr (k := j) (by omega)).keep b (Nat.lt_of_lt_of_le hb0 hx) ?_
          cases h : (σ (j + 1)).wr.testBit b with
          | false => rfl
          | true => exact absurd ((hc.wr_iff (by omega)).2 (.inl h)) (nw j (by omega))
      rw [← e3]
      exact main _ (Nat.le_refl _)
    · show sn.h.get b = none
      rw [← e3]
      exact hc.dom (by rw [e1]; exact hb) (by rw [e1]; exact hn) _ (Nat.le_refl _)
    · have := hc.wf (by rw [e1]; exact hw) ops.size (Nat.le_refl _)
      rw [e3] at this
      exact this
    · have h0 : Wf (σ 0) := by rw [e1]; exact hw
      have hN : (σ ops.size).nx = sn.nx := by rw [e3]
      refine wpIn_region_any hT.follows ?_
      refine DInv.run (V0 := V) (ρ0 := ρ) (w0 := w) (a0 := a) hc h0 (by rw [e1]; exact hG) (fun i b hi hb ht => ?_) (fun b h1 h2 => ?_) (fun ρ' g w' a' listed hI hall => ?_) ops.size _ ρ s.h.get _ _ ⟨?_, ?_, ⟨?_, ?_, ?_, ?_, ?_, ?_, fun _ _ _ _ _ _ => rfl⟩, ?_, ?_, ?_, rfl⟩ ?_
      · refine hv b (by rw [← e1]; exact hb) ?_
        show (Nat.lor s.rd (sumRd ds)).testBit b = true ∨ (Nat.lor s.wr (sumWr ds)).testBit b = true
        rw [lor_test, lor_test]
        rcases ht with h | h
        · left; rw [sumRd_ok (hin i hi) h]; simp
        · right; rw [sumWr_ok (hin i hi) h]; simp
      · exact hf b (by rw [← e1]; exact h1) (by rw [hN] at h2; exact h2)
      · have full : ∀ {W : Nat → Nat → Prop} (x : Nat), Pre ops.size W (Lst listed) x ops.size := fun x => ⟨Nat.le_refl _, fun j hj _ => hall j hj, fun j h1 h2 => by omega⟩
        have hg : g = sn.h.get := funext fun b => by rw [hI.mem b _ (full b), e3]
        refine hQ a' ρ' w' hI.defers ?_ ⟨fun b hb => hI.world.ext b ?_, ?_, ?_, ?_, hI.world.size, hI.world.same, fun b k hVb hsb hwb heb => hI.world.keepw b k hVb (by rw [e1]; exact hsb) ?_ heb⟩
        · refine LR.of_get ?_ fun i v hv => ?_
          · rw [← e4, hc.len _ (Nat.le_refl _), ← hI.len]; simp
          · obtain ⟨v', h1, h2⟩ := hI.tmp i _ (full i) v (by rw [e4]; exact hv)
            exact ⟨v', by simpa using h1, h2⟩
        · rintro ⟨k, hk, h1, h2⟩
          have hkn : k < ops.size := by rw [← hI.size]; exact lst_lt hk
          have q1 : (σ 0).nx ≤ (σ k).nx := hc.nx' (Nat.zero_le k) (by omega)
          have q2 : (σ (k + 1)).nx ≤ (σ ops.size).nx := hc.nx' (by omega) (Nat.le_refl _)
          rw [e1] at q1
          rw [e3] at q2
          refine hb ⟨by omega, ?_⟩
          show b < sn.nx
          omega
        · have := hI.world.rel
          rw [hg, e1, e3] at this
          exact this
        · have := hI.world.frame
          rw [e1] at this
          exact this
        · have := hI.world.img
          rw [hg, e1, e3] at this
          exact this
        · rintro ⟨i, hi, hwi⟩
          have hwb : (Nat.lor s.wr (sumWr ds)).testBit b = false := hwb
          rw [lor_test, sumWr_ok (hin i (by rw [← hI.size]; exact lst_lt hi)) hwi] at hwb
          simp at hwb
      · simp
      · exact fun i o _ hl => absurd hl (lst_rep _ _)
      · exact fun _ _ => rfl
      · have h1 := hr.restrict (h' := res (VX V (σ 0).nx (σ ops.size).nx) s.h.get) fun b o hb => by
          obtain ⟨q1, q2⟩ := res_some.1 hb
          refine res_some.2 ⟨?_, q2⟩
          rcases VX_iff.1 q1 with h | h
          · exact h
          · rw [hw b (by rw [← e1]; exact h.1)] at q2; cases q2
        exact ⟨h1.obj, h1.inj, h1.glb⟩
      · exact fun _ _ _ => rfl
      · intro b k h1 _ h3
        rw [e1] at h1
        rw [hw b h1] at h3; cases h3
      · exact Nat.le_refl _
      · exact ⟨rfl, rfl, rfl⟩
      · intro b m hp
        have := run_keep (σ := fun m b => (σ m).h.get b) (fun j hj b hb => hc.keep h0 hj b hb) (x := b) m 0 (by have := hp.1; omega) (fun j _ hj hwj => lst_rep _ _ (hp.2.1 j (by omega) hwj))
        rw [Nat.zero_add] at this
        have this : (σ m).h.get b = (σ 0).h.get b := this
        rw [this, e1]
      · intro t m hp
        have := run_keep (σ := fun m t => (τ m)[t]?) (fun j hj t ht => hc.keepT hj t ht) (x := t) m 0 (by have := hp.1; omega) (fun j _ hj hwj => lst_rep _ _ (hp.2.1 j (by omega) hwj))
        rw [Nat.zero_add] at this
        have this : (τ m)[t]? = (τ 0)[t]? := this
        rw [this, e2]
        intro v hv
        obtain ⟨v', h1, h2⟩ := LR.get ht hv
        exact ⟨v', by simpa using h1, h2⟩
      · rw [e2]
        have := LR.length ht
        simpa using this
      · unfold unl
        exact Nat.le_trans (List.length_filter_le _ _) (by simp)
  · cases h

end chain
/-! ## Whatever the executor calls -/

/-- What a function that is told of by a law alone says. -/
noncomputable def LemOk (P : Program) (tb : Tab) : Prop := ∀ f x, tb.fn.get f = some (.lem x) → ∀ args s v s', lemX x args s = some (v, s') → Tr s s' ∧ ∀ V ρ w args', Wf s → tb.globals ≤ s.nx → vis V s s' → fresh ρ s s' → Rel tb.globals ρ (res V s.h.get) w → LR ρ args args' →
    CallsIn Fence.wide 0 P f ⟨args'⟩ w (RetPost tb.globals V ρ s w s' v)

theorem hdX_ok {P : Program} {tb : Tab} (hT : TabOk P tb) (hL : LemOk P tb) (fu : Nat) : ∀ n, CallOk P tb.globals (hdX tb fu n).call ∧ YldOk P tb.globals (hdX tb fu n).yld
  | 0 => ⟨fun _ _ _ _ _ h => (nomatch (show none = some _ from h)), fun _ _ _ _ _ h => (nomatch (show none = some _ from h))⟩
  | n + 1 => by
    obtain ⟨h1, h2⟩ := hdX_ok hT hL fu n
    exact ⟨callB_ok hT h1 h2 (drawOk hT h1 h2) hL fu, yldB_ok hT h1 h2 (drawOk hT h1 h2) fu⟩

end Go.Proofs.YtnhcbfaomehaeaaGreatDoor.R1

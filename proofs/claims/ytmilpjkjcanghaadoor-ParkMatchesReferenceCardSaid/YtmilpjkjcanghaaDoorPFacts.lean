/- What the park's laws ask of the program's tables. -/
import Derived.Test.YtmilpjkjcanghaaDoorPMap
namespace Go.Proofs.YtmilpjkjcanghaaDoor
open Go.RowKit
set_option linter.unusedVariables false
set_option linter.unusedSimpArgs false

theorem ent8 : Go.Proofs.Enters Tryd.prog 8 := Go.Proofs.enters_of Tryd.func8 (by kernel_rfl) rfl
theorem ent9 : Go.Proofs.Enters Tryd.prog 9 := Go.Proofs.enters_of Tryd.func9 (by kernel_rfl) rfl
theorem ent11 : Go.Proofs.Enters Tryd.prog 11 := Go.Proofs.enters_of Tryd.func11 (by kernel_rfl) rfl
theorem ent13 : Go.Proofs.Enters Tryd.prog 13 := Go.Proofs.enters_of Tryd.func13 (by kernel_rfl) rfl
theorem ent15 : Go.Proofs.Enters Tryd.prog 15 := Go.Proofs.enters_of Tryd.func15 (by kernel_rfl) rfl
theorem ent16 : Go.Proofs.Enters Tryd.prog 16 := Go.Proofs.enters_of Tryd.func16 (by kernel_rfl) rfl
theorem ent17 : Go.Proofs.Enters Tryd.prog 17 := Go.Proofs.enters_of Tryd.func17 (by kernel_rfl) rfl
theorem ent18 : Go.Proofs.Enters Tryd.prog 18 := Go.Proofs.enters_of Tryd.func18 (by kernel_rfl) rfl
theorem ent19 : Go.Proofs.Enters Tryd.prog 19 := Go.Proofs.enters_of Tryd.func19 (by kernel_rfl) rfl
theorem ent20 : Go.Proofs.Enters Tryd.prog 20 := Go.Proofs.enters_of Tryd.func20 (by kernel_rfl) rfl
theorem ent21 : Go.Proofs.Enters Tryd.prog 21 := Go.Proofs.enters_of Tryd.func21 (by kernel_rfl) rfl
theorem ent22 : Go.Proofs.Enters Tryd.prog 22 := Go.Proofs.enters_of Tryd.func22 (by kernel_rfl) rfl
theorem ent24 : Go.Proofs.Enters Tryd.prog 24 := Go.Proofs.enters_of Tryd.func24 (by kernel_rfl) rfl
theorem ent29 : Go.Proofs.Enters Tryd.prog 29 := Go.Proofs.enters_of Tryd.func29 (by kernel_rfl) rfl
theorem ent30 : Go.Proofs.Enters Tryd.prog 30 := Go.Proofs.enters_of Tryd.func30 (by kernel_rfl) rfl
theorem ent31 : Go.Proofs.Enters Tryd.prog 31 := Go.Proofs.enters_of Tryd.func31 (by kernel_rfl) rfl
theorem ent32 : Go.Proofs.Enters Tryd.prog 32 := Go.Proofs.enters_of Tryd.func32 (by kernel_rfl) rfl

theorem szMap8 : (Tryd.prog.info? 53).map (·.size) = some (0 + 1) := by kernel_rfl
theorem szLot : (Tryd.prog.info? 55).map (·.size) = some (0 + 1) := by kernel_rfl
theorem szPk : (Tryd.prog.info? 57).map (·.size) = some 10 := by kernel_rfl
theorem szPod8 : (Tryd.prog.info? 30).map (·.size) = some (8 + 1) := by kernel_rfl
theorem zPk : (Tryd.prog.info? 57).map (·.zero) = some (some zeroPk) := by kernel_rfl
theorem zPk' : (Tryd.prog.info? 57).map (fun j => (j.size, j.zero)) = some (10, some zeroPk) := by kernel_rfl
theorem stPk : StOf Tryd.prog 57 10 := ⟨_, Tryd.underlying57, szPk⟩
theorem fLotAll : Fld Tryd.prog 55 0 0 := Fld.of Tryd.underlying55 rfl rfl szMap8
theorem fPkPod : Fld Tryd.prog 57 0 0 := Fld.of Tryd.underlying57 rfl rfl szPod8
theorem fPkReason : Fld Tryd.prog 57 1 9 := Fld.of Tryd.underlying57 rfl rfl szInt
theorem oneMap : ∃ d, Tryd.prog.underlying 53 = some d ∧ oneDesc d = true := ⟨_, Tryd.underlying53, rfl⟩
theorem onePods : ∃ d, Tryd.prog.underlying 22 = some d ∧ oneDesc d = true := ⟨_, Tryd.underlying22, rfl⟩

theorem PE.one (t : PE) : ∀ v ∈ t.cs, v.oneCell' = true := by
  intro v hv
  rcases List.mem_append.1 hv with h | h
  · exact t.p.one v h
  · rw [List.mem_singleton.1 h]; rfl
theorem PE.cs_length (t : PE) : t.cs.length = 10 := rfl
def PE.zero : PE := ⟨PV.zero, 0, 0⟩
theorem zero_v : zeroPk = PE.zero.v := rfl

section
variable {P : Program} {ops : Array Oper} {Q : Exit → Act → World → Prop} {l : List Oper} {N : Nat} {env : Env} {w : World} {ty : TypeId} {pos : String} {aft : Array Edge} {gd : Option (Nat × Bool)}
/-- 'm[k]' with 'ok'. -/
theorem S.lookE {mt kt et r d clock : Nat} {x y : Operand} {dk : IntKind} {M : List PE} {k : Int} (hm : P.underlying mt = some (.map kt et)) (hk : P.underlying kt = some (.int dk)) (hz : (P.info? et).map (·.zero) = some (some zeroPk)) (hx : opv env x = some (.map (some r))) (hy : opv env y = some (.int .i64 k)) (hM : PB w r M clock)
    (hg : wantE ops env gd = some true) (hd : Nat.blt d N = true) (K : W P ops Q l N ((d, .tuple #[((atE M k).getD PE.zero).v, .bool (hasE M k)]) :: env) w) :
    W P ops Q ({ dst := some d, op := .lookup mt x y true, type := ty, pos, after := aft, guard := gd } :: l) N env w :=
  W.reads (d := some d) (fun ev he dd pos aft gd => by
    have h := run_lookupE (P := P) (k := k) hm hk hz hM
    have e : ((atE M k).map PE.v).getD zeroPk = ((atE M k).getD PE.zero).v := by cases atE M k <;> rfl
    rw [e] at h
    simp [execOp, he x _ hx, he y _ hy, h]) hg hd K
/-- 'map[int]parked{}' -/
theorem S.newMapE {t d : Nat} (hg : wantE ops env gd = some true) (hd : Nat.blt d N = true) (K : ∀ b w', X w w' → w.heap.size ≤ b → PB w' b [] 0 → W P ops Q l N ((d, .map (some b)) :: env) w') :
    W P ops Q ({ dst := some d, op := .makeMap t none, type := ty, pos, after := aft, guard := gd } :: l) N env w :=
  W.makes (d := some d) (fun ev he dd pos aft gd => by
    simp [execOp, Instr.makeMap, newObj, Sem.run]) hg hd (K _ (w.alloc (.map #[] 0)) (X.alloc _ _) (Nat.le_refl _) (heap_alloc_new w _))
/-- 'm[p.id] = ..', where there is none -/
theorem S.addE {mt kt et r clock : Nat} {x y z : Operand} {dk : IntKind} {M : List PE} {p : PV} {q : Int} {k : Int} (hm : P.underlying mt = some (.map kt et)) (hk : P.underlying kt = some (.int dk)) (hx : opv env x = some (.map (some r))) (hy : opv env y = some (.int .i64 k)) (hpk : p.id = k) (hz : opv env z = some (PE.v ⟨p, q, clock⟩)) (hM : PB w r M clock) (hn : hasE M k = false)
    (hg : wantE ops env gd = some true) (K : ∀ (w' : World), G r w w' → PB w' r (M ++ [⟨p, q, clock⟩]) (clock + 1) → W P ops Q l N env w') :
    W P ops Q ({ dst := none, op := .mapUpdate mt x y z, type := ty, pos, after := aft, guard := gd } :: l) N env w := by
  subst hpk
  have h := run_mapAddE (P := P) (q := q) hm hk hM hn
  exact W.writes (d := none) (fun ev he dd pos aft gd => by
    simp [execOp, he x _ hx, he y _ hy, he z _ hz, h]) hg rfl (K _ G.putObj hM.set)
/-- delete(m, k) -/
theorem S.delE {mt kt et r clock : Nat} {x y : Operand} {dk : IntKind} {M : List PE} {k : Int} (hm : P.underlying mt = some (.map kt et)) (hk : P.underlying kt = some (.int dk)) (hx : opv env x = some (.map (some r))) (hy : opv env y = some (.int .i64 k)) (hM : PB w r M clock) (hL : LM M clock)
    (hg : wantE ops env gd = some true) (K : ∀ (w' : World), G r w w' → PB w' r (dropE M k) clock → W P ops Q l N env w') :
    W P ops Q ({ dst := none, op := .call { callee := .builtin .delete, args := #[x, y], argTypes := #[mt, kt] }, type := ty, pos, after := aft, guard := gd } :: l) N env w := by
  have h1 := run_deleteE (P := P) (w := w) (k := k) hm hk hM hL ty
  exact W.makes (d := none) (v := .tuple #[]) (fun ev he dd pos aft gd => by
    simp [execOp, resolve, invoke, builtin, he x _ hx, he y _ hy, h1]) hg rfl (K _ G.putObj hM.set)
/-- clear(m) -/
theorem S.clrE {mt kt et r clock : Nat} {x : Operand} {M : List PE} (hm : P.underlying mt = some (.map kt et)) (hx : opv env x = some (.map (some r))) (hM : PB w r M clock)
    (hg : wantE ops env gd = some true) (K : ∀ (w' : World), G r w w' → PB w' r [] clock → W P ops Q l N env w') :
    W P ops Q ({ dst := none, op := .call { callee := .builtin .clear, args := #[x], argTypes := #[mt] }, type := ty, pos, after := aft, guard := gd } :: l) N env w := by
  have h1 := run_clearE (P := P) (w := w) hm hM ty
  exact W.makes (d := none) (v := .tuple #[]) (fun ev he dd pos aft gd => by
    simp [execOp, resolve, invoke, builtin, he x _ hx, h1]) hg rfl (K _ G.putObj hM.set)
/-- 'range m' -/
theorem S.rangeE {mt kt et r d clock : Nat} {x : Operand} {M : List PE} (hm : P.underlying mt = some (.map kt et)) (hx : opv env x = some (.map (some r))) (hM : PB w r M clock)
    (hg : wantE ops env gd = some true) (hd : Nat.blt d N = true) (K : ∀ it w', X w w' → w.heap.size ≤ it → IterB w' it r M clock M → W P ops Q l N ((d, .pointer (some ⟨it, 0, none⟩)) :: env) w') :
    W P ops Q ({ dst := some d, op := .range mt x, type := ty, pos, after := aft, guard := gd } :: l) N env w := by
  obtain ⟨h1, h2⟩ := run_rangeE (P := P) (w := w) hm hM
  exact W.makes (d := some d) (fun ev he dd pos aft gd => by
    simp [execOp, he x _ hx, h1]) hg hd (K _ _ (X.alloc _ _) (Nat.le_refl _) h2)
/-- 'next' -/
theorem S.nextE {r d it clock : Nat} {x : Operand} {M T : List PE} (hx : opv env x = some (.pointer (some ⟨it, 0, none⟩))) (hM : PB w r M clock) (hL : LM M clock) (hI : IterB w it r M clock T) (hg : wantE ops env gd = some true) (hd : Nat.blt d N = true)
    (K0 : T = [] → W P ops Q l N ((d, .tuple #[.bool false]) :: env) w)
    (K1 : ∀ t ∈ T, ∀ w', G it w w' → IterB w' it r M clock (T.filter fun x => !(x.b == t.b)) → (∀ w'', w''.heap[it]? = w'.heap[it]? → PB w'' r M clock → (Instr.entry (.pointer (some ⟨it, 0, none⟩))).run P w'' = .ok (.tuple #[.int .i64 t.p.id, t.v]) w'') → W P ops Q l N ((d, .tuple #[.bool true, .int .i64 t.p.id, t.v]) :: env) w') :
    W P ops Q ({ dst := some d, op := .next x false, type := ty, pos, after := aft, guard := gd } :: l) N env w := by
  rcases run_nextE (P := P) (ty := ty) hM hL hI with ⟨h1, h2⟩ | ⟨t, ht, w', h1, h2, h3, h4⟩
  · exact W.reads (d := some d) (fun ev he dd pos aft gd => by simp [execOp, he x _ hx, h2]) hg hd (K0 h1)
  · exact W.makes (d := some d) (fun ev he dd pos aft gd => by simp [execOp, he x _ hx, h1]) hg hd (K1 t ht w' h2 h3 h4)
/-- 'entry' -/
theorem S.entryE {d it : Nat} {x : Operand} {v : Value} (hx : opv env x = some (.pointer (some ⟨it, 0, none⟩))) (h : (Instr.entry (.pointer (some ⟨it, 0, none⟩))).run P w = .ok v w) (hg : wantE ops env gd = some true) (hd : Nat.blt d N = true) (K : W P ops Q l N ((d, v) :: env) w) :
    W P ops Q ({ dst := some d, op := .entry x, type := ty, pos, after := aft, guard := gd } :: l) N env w :=
  W.reads (d := some d) (fun ev he dd pos aft gd => by simp [execOp, he x _ hx, h]) hg hd K
end

end Go.Proofs.YtmilpjkjcanghaaDoor

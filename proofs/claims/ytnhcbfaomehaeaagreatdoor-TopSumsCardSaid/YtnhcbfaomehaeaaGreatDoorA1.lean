/- An executor for closed code: a heap whose blocks have names of their own, and what each operation does to it. -/
import Derived.Calls
namespace Go.Proofs.YtnhcbfaomehaeaaGreatDoor.R1
open Go
set_option linter.unusedVariables false

/-! ## A table by number -/

inductive T (α : Type) where
  | e
  | n (v : Option α) (l r : T α)

noncomputable def ife {α : Type} (b : Bool) (x y : α) : α := Bool.rec y x b

noncomputable def T.get {α : Type} (t : T α) : Nat → Option α :=
  T.rec (motive := fun _ => Nat → Option α) (fun _ => none) (fun v l r gl gr k => ife (Nat.beq k 0) v (ife (Nat.beq (k % 2) 1) (gl (k / 2)) (gr (k / 2 - 1)))) t

noncomputable def T.top {α : Type} (t : T α) : Option α := T.rec none (fun v _ _ _ _ => v) t
noncomputable def T.lft {α : Type} (t : T α) : T α := T.rec .e (fun _ l _ _ _ => l) t
noncomputable def T.rgt {α : Type} (t : T α) : T α := T.rec .e (fun _ _ r _ _ => r) t

noncomputable def omap {α β : Type} (f : α → β) (o : Option α) : Option β := Option.rec none (fun a => some (f a)) o
noncomputable def obind {α β : Type} (o : Option α) (f : α → Option β) : Option β := Option.rec none (fun a => f a) o

/-- A tree that is known to be one: forced. -/
noncomputable def T.force {α β : Type} (t : T α) (k : T α → β) : β := T.rec (k .e) (fun v l r _ _ => k (.n v l r)) t

noncomputable def T.put {α : Type} (f : Nat) : T α → Nat → Option α → Option (T α) :=
  Nat.rec (motive := fun _ => T α → Nat → Option α → Option (T α)) (fun _ _ _ => none)
    (fun _ ih t k x => T.force t fun t => ife (Nat.beq k 0) (some (.n x t.lft t.rgt))
      (ife (Nat.beq (k % 2) 1) (omap (fun l => .n t.top l t.rgt) (ih t.lft (k / 2) x)) (omap (fun r => .n t.top t.lft r) (ih t.rgt (k / 2 - 1) x)))) f

noncomputable def nth {α : Type} (l : List α) : Nat → Option α :=
  List.rec (motive := fun _ => Nat → Option α) (fun _ => none) (fun x l ih k => ife (Nat.beq k 0) (some x) (ih (k - 1))) l

/-- The k-th element becomes y; none: there is no such. -/
noncomputable def setNth {α : Type} (l : List α) : Nat → α → Option (List α) :=
  List.rec (motive := fun _ => Nat → α → Option (List α)) (fun _ _ => none) (fun x l ih k y => ife (Nat.beq k 0) (some (y :: l)) (omap (fun r => x :: r) (ih (k - 1) y))) l

noncomputable def forceN {α : Type} (m : Nat) (k : Nat → α) : α := Nat.rec (k 0) (fun p _ => k (p + 1)) m

/-! ## The heap -/

inductive AO where
  | row (c : List Value) (e : TypeId)
  | opn (c : List Value) (e : TypeId) (z : Nat)
  | ro (c : List Value) (e : TypeId)
  | map (es : List MapEntry) (clock : Nat)
  | iter (m : Nat) (since : Nat) (seen : List Nat) (stepped : Nat)
  | loop (st : LoopState) (pend : Option Code) (fn : FuncId) (tmps : List Value) (params : List Tmp) (assign body : Code) (defers : Nat)
  | dfr
  | dfrx

structure St where
  h : T AO
  nx : Nat
  rd : Nat
  wr : Nat

noncomputable def bit (b : Nat) : Nat := Nat.shiftLeft 1 b

noncomputable def St.look (s : St) (b : Nat) : Option (AO × St) := match s.h.get b with
  | some o => forceN (Nat.lor s.rd (bit b)) fun m => some (o, { s with rd := m })
  | none => none

/-- An object that is there becomes another one, or is taken away. -/
noncomputable def St.turn (s : St) (b : Nat) (o : Option AO) : Option St := match s.h.get b with
  | some _ => match s.h.put 24 b o with
    | some h => forceN (Nat.lor s.wr (bit b)) fun m => some { s with h := h, wr := m }
    | none => none
  | none => none

/-- A row whose capacity is not told: its name, and behind it a name for the capacity. -/
noncomputable def St.new2 (s : St) (o : AO) : Option (Nat × St) := match s.h.put 24 s.nx (some o) with
  | some h => forceN (s.nx + 2) fun m => some (s.nx, { s with h := h, nx := m })
  | none => none

noncomputable def St.new (s : St) (o : AO) : Option (Nat × St) := match s.h.put 24 s.nx (some o) with
  | some h => forceN (s.nx + 1) fun m => some (s.nx, { s with h := h, nx := m })
  | none => none

/-! ## What the tables say -/

inductive K where
  | struct (fs : List (Nat × Nat × TypeId))
  | array (n : Nat) (e : TypeId)
  | slice (e : TypeId)
  | map (k e : TypeId)
  | ptr (e : TypeId)
  | uptr
  | str
  | int (k : IntKind)
  | bool
  | iface
  | other

structure TI where
  kind : K
  size : Nat
  bytes : Nat
  zero : List Value

inductive Xt where
  | add64 | indexByteString | countString | noEscape | makeNoZero

/-- Functions whose contract is proved apart. -/
inductive Lm where
  | phaseNext

inductive FI where
  | body (ntmps : Nat) (results : List ResultVar) (c : Code)
  | lem (x : Lm)
  | ext (x : Xt) (e : TypeId)

structure Tab where
  ty : T TI
  fn : T FI
  meth : List (TypeId × String × FuncId × Option TypeId)
  globals : Nat

noncomputable def UNK : Nat := 4611686018427387904
noncomputable def NOB : Nat := 4611686018427387905

/-! ## Values -/

noncomputable def ground : Value → Bool
  | .bool _ | .int .. | .string _ | .pointer none | .slice none .. | .map none | .nilFunc | .nilIface => true
  | _ => false

noncomputable def isAgg : K → Bool
  | .struct _ | .array .. => true
  | _ => false

noncomputable def cellsL : Value → List Value
  | .agg cs => cs.toList
  | v => [v]

noncomputable def one : Value → Bool
  | .agg _ | .tuple _ => false
  | _ => true

noncomputable def allL {α : Type} (p : α → Bool) : List α → Bool
  | [] => true
  | x :: l => match p x with
    | true => allL p l
    | false => false

noncomputable def takeL {α : Type} : Nat → List α → Option (List α)
  | 0, _ => some []
  | n + 1, x :: l => match takeL n l with
    | some r => some (x :: r)
    | none => none
  | _ + 1, [] => none

noncomputable def dropL {α : Type} : Nat → List α → List α
  | 0, l => l
  | n + 1, _ :: l => dropL n l
  | _ + 1, [] => []

/-- The n cells from o on. -/
noncomputable def cut {α : Type} (l : List α) (o n : Nat) : Option (List α) := takeL n (dropL o l)

/-- The cells from o on become vs. -/
noncomputable def splice {α : Type} : Nat → List α → List α → Option (List α)
  | 0, [], l => some l
  | 0, v :: vs, _ :: l => match splice 0 vs l with
    | some r => some (v :: r)
    | none => none
  | 0, _ :: _, [] => none
  | o + 1, vs, x :: l => match splice o vs l with
    | some r => some (x :: r)
    | none => none
  | _ + 1, _, [] => none

noncomputable def rep {α : Type} (zs : List α) : Nat → List α
  | 0 => []
  | n + 1 => zs ++ rep zs n

noncomputable def AO.cells : AO → Option (List Value)
  | .row c _ | .opn c _ _ | .ro c _ => some c
  | _ => none

/-- The object with other cells; a row that is only read has none. -/
noncomputable def AO.withCells : AO → List Value → Option AO
  | .row _ e, c => some (.row c e)
  | .opn _ e z, c => some (.opn c e z)
  | _, _ => none

noncomputable def loadX (s : St) (b o n : Nat) : Option (List Value × St) := match s.look b with
  | some (ob, s) => match ob.cells with
    | some c => match cut c o n with
      | some vs => some (vs, s)
      | none => none
    | none => none
  | none => none

noncomputable def storeX (s : St) (b o : Nat) (vs : List Value) : Option St := match s.look b with
  | some (ob, s) => match ob.cells with
    | some c => match splice o vs c with
      | some c => match ob.withCells c with
        | some ob => match allL one vs with
          | true => s.turn b (some ob)
          | false => none
        | none => none
      | none => none
    | none => none
  | none => none

noncomputable def runP {α : Type} : Sem α → Option α
  | .pure a => some a
  | _ => none

noncomputable def runG (m : Sem Value) : Option Value := match m with
  | .pure a => ife (ground a) (some a) none
  | _ => none

/-! ## Operations -/

inductive R where
  | val (v : Value)
  | skip
  | enter (f : FuncId) (args : List Value)
  | yield (l : Nat) (args : List Value)

abbrev Ev := Operand → Option Value

noncomputable def evs (ev : Ev) : List Operand → Option (List Value)
  | [] => some []
  | x :: l => match ev x with
    | some v => match evs ev l with
      | some vs => some (v :: vs)
      | none => none
    | none => none

noncomputable def evParts (ev : Ev) : List (Nat × Operand) → Option (List (Nat × Value))
  | [] => some []
  | (i, x) :: l => match ev x with
    | some v => match evParts ev l with
      | some vs => some ((i, v) :: vs)
      | none => none
    | none => none

noncomputable def fillX (place : Nat → Option (Nat × Nat)) (cells : List Value) : List (Nat × Value) → Option (List Value)
  | [] => some cells
  | (i, v) :: rest => match place i with
    | none => none
    | some (off, size) => match Nat.beq (cellsL v).length size with
      | true => match splice off (cellsL v) cells with
        | some cells => fillX place cells rest
        | none => none
      | false => none

noncomputable def isConstX : Operand → Bool
  | .const _ => true
  | _ => false

noncomputable def bytesEq : List UInt8 → List UInt8 → Bool
  | [], [] => true
  | a :: x, b :: y => match Nat.beq a.toNat b.toNat with
    | true => bytesEq x y
    | false => false
  | _, _ => false

noncomputable def binX (op : BinOp) (t : TypeId) (x y : Operand) (a b : Value) : Option Value := match a, b with
  | .int .., .int .. => runG (do eqGuard op t x y a b; Go.binOp op t a b)
  | .string a, .string b => match op with
    | .eql => some (.bool (bytesEq a.data.toList b.data.toList))
    | .neq => some (.bool (!bytesEq a.data.toList b.data.toList))
    | .add => match Nat.blt (a.data.toList.length + b.data.toList.length) 1000000 with
      | true => some (.string ⟨⟨a.data.toList ++ b.data.toList⟩⟩)
      | false => none
    | _ => none
  | _, _ => none

/-- Comparisons with nil, and of an address with itself. -/
noncomputable def nilX (tb : Tab) (k : K) (x y : Operand) (a b : Value) : Option Bool := match k, a, b with
  | .ptr _, .pointer none, .pointer none => some true
  | .ptr _, .pointer (some _), .pointer none | .ptr _, .pointer none, .pointer (some _) => some false
  | .ptr e, .pointer (some a), .pointer (some b) => match Nat.beq a.block b.block, Nat.beq a.off b.off, tb.ty.get e with
    | true, true, some _ => some true
    | _, _, _ => none
  | .slice _, .slice none .., .slice none .. => some true
  | .slice _, .slice (some _) .., .slice none .. | .slice _, .slice none .., .slice (some _) .. => some false
  | .iface, .nilIface, .nilIface => match isConstX x, isConstX y with
    | false, false => none
    | _, _ => some true
  | .iface, .iface .., .nilIface | .iface, .nilIface, .iface .. => some false
  | _, _, _ => none

noncomputable def natOf : Value → Option Nat
  | .int _ (.ofNat n) => some n
  | _ => none

noncomputable def boundsX (len cap : Nat) (lo hi : Option Value) : Option (Nat × Nat) :=
  match (match hi with | some v => natOf v | none => some len) with
  | some h => match (match lo with | some v => natOf v | none => some 0) with
    | some l => match Nat.ble h cap, Nat.ble l h with
      | true, true => some (l, h)
      | _, _ => none
    | none => none
  | none => none

noncomputable def sliceX (tb : Tab) (t : TypeId) (x : Value) (lo hi : Option Value) : Option Value := match tb.ty.get t with
  | some ti => match ti.kind, x with
    | .str, .string s => match boundsX s.data.toList.length s.data.toList.length lo hi with
      | some (l, h) => match cut s.data.toList l (h - l) with
        | some bs => some (.string ⟨⟨bs⟩⟩)
        | none => none
      | none => none
    | .slice e, .slice a n c => match tb.ty.get e with
      | some ei => match a with
        | none => match boundsX n c lo hi with
          | some (l, h) => some (.slice none (h - l) (c - l))
          | none => none
        | some a => match Nat.blt c UNK with
          | true => match boundsX n c lo hi with
            | some (l, h) => some (.slice (some (match Nat.beq c l with | true => a | false => ⟨a.block, a.off + l * ei.size, none⟩)) (h - l) (c - l))
            | none => none
          | false => match boundsX n n lo hi with
            | some (l, h) => match Nat.beq l h, Nat.beq l 0 with
              | true, false => some (.slice (some ⟨NOB, 0, none⟩) 0 UNK)
              | _, _ => some (.slice (some ⟨a.block, a.off + l * ei.size, none⟩) (h - l) UNK)
            | none => none
      | none => none
    | .array n e, .pointer (some a) => match tb.ty.get e with
      | some ei => match boundsX n n lo hi with
        | some (l, h) => match Nat.blt n UNK with
          | true => some (.slice (some (match Nat.beq n l with | true => a | false => ⟨a.block, a.off + l * ei.size, none⟩)) (h - l) (n - l))
          | false => none
        | none => none
      | none => none
    | _, _ => none
  | none => none

/-- The n elements of size z that a slice or a string has. -/
noncomputable def elems (s : St) (z : Nat) : Value → Option (Nat × List Value × St)
  | .slice none n _ => match Nat.beq n 0 with
    | true => some (0, [], s)
    | false => none
  | .slice (some a) n _ => match Nat.beq n 0 with
    | true => some (0, [], s)
    | false => match loadX s a.block a.off (n * z) with
      | some (vs, s) => some (n, vs, s)
      | none => none
  | .string b => match Nat.beq z 1 with
    | true => some (b.data.toList.length, b.data.toList.map fun x => .int .u8 x.toNat, s)
    | false => none
  | _ => none

/-- m elements, whose cells are new, are put behind the slice v. -/
noncomputable def appendC (ei : TI) (e : TypeId) (s : St) (v : Value) (m : Nat) (new : List Value) : Option (Value × St) :=
  match Nat.blt m 100000, Nat.blt 0 ei.size, Nat.blt ei.bytes 1000, allL one new with
  | true, true, true, true => match v with
    | .slice none n c => match Nat.beq n 0, Nat.beq c 0 with
      | true, true => match Nat.beq m 0 with
        | true => some (v, s)
        | false => match s.new2 (.opn new e ei.size) with
          | some (b, s) => some (.slice (some ⟨b, 0, none⟩) m UNK, s)
          | none => none
      | _, _ => none
    | .slice (some a) n c => match Nat.beq m 0, Nat.blt c UNK, Nat.blt n 100000 with
      | true, _, true => match Nat.ble n c with
        | true => some (v, s)
        | false => none
      | false, true, true => match Nat.ble (n + m) c with
        | true => match storeX s a.block (a.off + n * ei.size) new with
          | some s => some (.slice (some a) (n + m) c, s)
          | none => none
        | false => match loadX s a.block a.off (n * ei.size) with
          | some (old, s) => match s.new2 (.opn (old ++ new) e ei.size) with
            | some (b, s) => some (.slice (some ⟨b, 0, none⟩) (n + m) UNK, s)
            | none => none
          | none => none
      | false, false, true => match Nat.beq a.off 0, Nat.beq a.block NOB, s.look a.block with
        | true, false, some (.opn c e' z, s) => match takeL (n * ei.size) c with
          | some old => match s.turn a.block none with
            | some s => match s.new2 (.opn (old ++ new) e ei.size) with
              | some (b, s) => match Nat.beq e e', Nat.beq z ei.size with
                | true, true => some (.slice (some ⟨b, 0, none⟩) (n + m) UNK, s)
                | _, _ => none
              | none => none
            | none => none
          | none => none
        | _, _, _ => none
      | _, _, _ => none
    | _ => none
  | _, _, _, _ => none

noncomputable def appendX (tb : Tab) (e : TypeId) (s : St) (v x : Value) : Option (Value × St) := match tb.ty.get e with
  | some ei => match elems s ei.size x with
    | some (m, new, s) => appendC ei e s v m new
    | none => none
  | none => none

/-- append(v, make([]E, n)...), v nil -/
noncomputable def appendZ (tb : Tab) (e : TypeId) (s : St) (v x : Value) : Option (Value × St) := match tb.ty.get e, v, x with
  | some ei, .slice none _ _, .int .i64 (.ofNat n) => appendC ei e s v n (rep ei.zero n)
  | _, _, _ => none

noncomputable def keyEq : Value → Value → Option Bool
  | .int j a, .int k b => match decide (j = k) with
    | true => some (decide (a = b))
    | false => none
  | _, _ => none

/-- Where a key stands. -/
noncomputable def findX (k : Value) : List MapEntry → Nat → Option (Option (Nat × Value))
  | [], _ => some none
  | e :: es, i => match keyEq k e.key with
    | some true => some (some (i, e.val))
    | some false => findX k es (i + 1)
    | none => none

/-- May values be a map's keys? Integers. -/
noncomputable def keyOk (tb : Tab) (t : TypeId) (k : Value) : Bool := match tb.ty.get t with
  | some ti => match ti.kind, k with
    | .int _, .int .. => true
    | _, _ => false
  | none => false

noncomputable def modX (f : MapEntry → MapEntry) : List MapEntry → Nat → List MapEntry
  | [], _ => []
  | e :: es, i => match Nat.beq i 0 with
    | true => f e :: es
    | false => e :: modX f es (i - 1)

noncomputable def delX : List MapEntry → Nat → List MapEntry
  | [], _ => []
  | e :: es, i => match Nat.beq i 0 with
    | true => es
    | false => e :: delX es (i - 1)

noncomputable def updateX (tb : Tab) (t : TypeId) (s : St) (m k v : Value) : Option St := match tb.ty.get t with
  | some ti => match ti.kind, m with
    | .map kt _, .map (some r) => match keyOk tb kt k, s.look r with
      | true, some (.map es clock, s) => match findX k es 0 with
        | some (some (i, _)) => s.turn r (some (.map (modX (fun e => { e with val := v }) es i) clock))
        | some none => s.turn r (some (.map (es ++ [{ key := k, val := v, born := clock }]) (clock + 1)))
        | none => none
      | _, _ => none
    | _, _ => none
  | none => none

noncomputable def wrapV (ti : TI) (cs : List Value) : Option Value := match isAgg ti.kind with
  | true => some (.agg ⟨cs⟩)
  | false => match cs with
    | [v] => some v
    | _ => none

noncomputable def lookVal (ei : TI) (o : Option (Nat × Value)) : Option Value := match o with
  | some (_, v) => some v
  | none => wrapV ei ei.zero

noncomputable def lookOut (ok : Bool) (b : Bool) (v : Value) : Value := match ok with
  | true => .tuple ⟨[v, .bool b]⟩
  | false => v

noncomputable def lookupX (tb : Tab) (t : TypeId) (s : St) (m k : Value) (ok : Bool) : Option (Value × St) := match tb.ty.get t with
  | some ti => match ti.kind with
    | .map kt et => match tb.ty.get et, keyOk tb kt k with
      | some ei, true => match m with
        | .map none => match lookVal ei none with
          | some v => some (lookOut ok false v, s)
          | none => none
        | .map (some r) => match s.look r with
          | some (.map es _, s) => match findX k es 0 with
            | some o => match lookVal ei o with
              | some v => some (lookOut ok o.isSome v, s)
              | none => none
            | none => none
          | _ => none
        | _ => none
      | _, _ => none
    | _ => none
  | none => none

noncomputable def memN (x : Nat) : List Nat → Bool
  | [] => false
  | y :: l => match Nat.beq x y with
    | true => true
    | false => memN x l

/-- The one entry that is still to come; none: the loop is over; more than one: not told. -/
noncomputable def leftX (seen : List Nat) (since : Nat) : List MapEntry → Option (Option MapEntry)
  | [] => some none
  | e :: es => match memN e.born seen, Nat.blt e.born since, leftX seen since es with
    | true, _, r => r
    | false, true, some none => some (some e)
    | _, _, _ => none

noncomputable def nextX (s : St) (it : Value) : Option (Value × St) := match it with
  | .pointer (some a) => match Nat.beq a.off 0, s.look a.block with
    | true, some (.iter m since seen stepped, s) => match s.look m with
      | some (.map es clock, s) => match leftX seen since es, allL (fun e => Nat.blt e.born stepped) es with
        | some none, true => some (.tuple ⟨[.bool false]⟩, s)
        | some (some e), true => match s.turn a.block (some (.iter m since (seen ++ [e.born]) clock)) with
          | some s => some (.tuple ⟨[.bool true, e.key, e.val]⟩, s)
          | none => none
        | _, _ => none
      | _ => none
    | _, _ => none
  | _ => none

noncomputable def lastN : List Nat → Option Nat
  | [] => none
  | [x] => some x
  | _ :: l => lastN l

noncomputable def entOf (n : Nat) : List MapEntry → Option MapEntry
  | [] => none
  | e :: es => match Nat.beq e.born n with
    | true => some e
    | false => entOf n es

noncomputable def entryX (s : St) (it : Value) : Option (Value × St) := match it with
  | .pointer (some a) => match Nat.beq a.off 0, s.look a.block with
    | true, some (.iter m _ seen stepped, s) => match s.look m, lastN seen with
      | some (.map es clock, s), some b => match Nat.beq clock stepped, entOf b es with
        | true, some e => some (.tuple ⟨[e.key, e.val]⟩, s)
        | _, _ => none
      | _, _ => none
    | _, _ => none
  | _ => none

noncomputable def indexOfX (c : UInt8) : List UInt8 → Nat → Int
  | [], _ => -1
  | b :: l, i => match Nat.beq b.toNat c.toNat with
    | true => .ofNat i
    | false => indexOfX c l (i + 1)

noncomputable def countX (c : UInt8) : List UInt8 → Nat → Nat
  | [], n => n
  | b :: l, n => match Nat.beq b.toNat c.toNat with
    | true => countX c l (n + 1)
    | false => countX c l n

noncomputable def byteOfX : Value → Option UInt8
  | .int .u8 (.ofNat n) => match Nat.blt n 256 with
    | true => some (UInt8.ofNat n)
    | false => none
  | _ => none

noncomputable def extX (x : Xt) (e : TypeId) (args : List Value) (s : St) : Option (Value × St) := match x, args with
  | .add64, [.int _ (.ofNat x), .int _ (.ofNat y), .int _ (.ofNat c)] => match Nat.ble c 1 with
    | true => some (.tuple ⟨[.int .u64 (.ofNat ((x + y + c) % 18446744073709551616)), .int .u64 (.ofNat ((x + y + c) / 18446744073709551616))]⟩, s)
    | false => none
  | .indexByteString, [.string b, c] => match byteOfX c with
    | some c => some (.int .i64 (indexOfX c b.data.toList 0), s)
    | none => none
  | .countString, [.string b, c] => match byteOfX c with
    | some c => some (.int .i64 (.ofNat (countX c b.data.toList 0)), s)
    | none => none
  | .noEscape, [v] => some (v, s)
  | .makeNoZero, [.int .i64 (.ofNat n)] => match Nat.beq n 0, Nat.blt n 100000 with
    | false, true => match s.new2 (.opn [] e 1) with
      | some (b, s) => some (.slice (some ⟨b, 0, none⟩) n UNK, s)
      | none => none
    | _, _ => none
  | _, _ => none

/-- The method's number; and, where its receiver is no pointer, the type of what the pointer points to. -/
noncomputable def methX : List (TypeId × String × FuncId × Option TypeId) → TypeId → String → Option (FuncId × Option TypeId)
  | [], _, _ => none
  | (t, n, f, d) :: l, u, m => match Nat.beq t u with
    | true => match decide (n = m) with
      | true => some (f, d)
      | false => methX l u m
    | false => methX l u m

noncomputable def callX (tb : Tab) (f : Value) (args : List Value) (s : St) : Option (R × St) := match f with
  | .func (.func g) first captured => match tb.fn.get g with
    | some (.body ..) | some (.lem _) => some (.enter g (first.toList ++ args ++ captured.toList), s)
    | some (.ext x e) => match extX x e (first.toList ++ args ++ captured.toList) s with
      | some (v, s) => some (.val v, s)
      | none => none
    | none => none
  | .func (.yield l) ⟨[]⟩ ⟨[]⟩ => some (.yield l args, s)
  | _ => none

noncomputable def bytesOfX : List Value → Option (List UInt8)
  | [] => some []
  | v :: l => match byteOfX v with
    | some b => match bytesOfX l with
      | some r => some (b :: r)
      | none => none
    | none => none

noncomputable def builtinX (tb : Tab) (b : Builtin) (ats : List TypeId) (ty : TypeId) (args : List Value) (s : St) : Option (Value × St) := match b, ats, args with
  | .len, t :: _, [x] => match tb.ty.get t with
    | some ti => match ti.kind, x with
      | .str, .string b => some (.int .i64 (.ofNat b.data.toList.length), s)
      | .slice _, .slice _ n _ => some (.int .i64 (.ofNat n), s)
      | .map .., .map none => some (.int .i64 0, s)
      | .map .., .map (some r) => match s.look r with
        | some (.map es _, s) => some (.int .i64 (.ofNat es.length), s)
        | _ => none
      | _, _ => none
    | none => none
  | .cap, t :: _, [.slice a n c] => match tb.ty.get t, Nat.blt c UNK with
    | some ti, true => match ti.kind with
      | .slice _ => some (.int .i64 (.ofNat c), s)
      | _ => none
    | _, _ => none
  | .append, [t, t'], [v, x] => match tb.ty.get t, tb.ty.get t' with
    | some ti, some ti' => match ti.kind, ti'.kind with
      | .slice e, .slice _ | .slice e, .str => appendX tb e s v x
      | .slice e, .int _ => appendZ tb e s v x
      | _, _ => none
    | _, _ => none
  | .copy, t :: _, [.slice _ n _, .slice none m _] => match tb.ty.get t with
    | some ti => match ti.kind with
      | .slice e => match tb.ty.get e with
        | some _ => some (.int .i64 (.ofNat (Nat.min m n)), s)
        | none => none
      | _ => none
    | none => none
  | .clear, t :: _, [x] => match tb.ty.get t with
    | some ti => match ti.kind, x with
      | .map .., .map (some r) => match s.look r with
        | some (.map _ clock, s) => match s.turn r (some (.map [] clock)) with
          | some s => some (.tuple ⟨[]⟩, s)
          | none => none
        | _ => none
      | .slice e, .slice (some a) n _ => match Nat.beq n 0 with
        | true => some (.tuple ⟨[]⟩, s)
        | false => match tb.ty.get e with
          | some ei => match storeX s a.block a.off (rep ei.zero n) with
            | some s => some (.tuple ⟨[]⟩, s)
            | none => none
          | none => none
      | .slice _, .slice none .. => some (.tuple ⟨[]⟩, s)
      | _, _ => none
    | none => none
  | .delete, t :: _, [.map (some r), k] => match tb.ty.get t with
    | some ti => match ti.kind with
      | .map kt _ => match keyOk tb kt k, s.look r with
        | true, some (.map es clock, s) => match findX k es 0 with
          | some (some (i, _)) => match s.turn r (some (.map (delX es i) clock)) with
            | some s => some (.tuple ⟨[]⟩, s)
            | none => none
          | some none => match s.turn r (some (.map es clock)) with
            | some s => some (.tuple ⟨[]⟩, s)
            | none => none
          | none => none
        | _, _ => none
      | _ => none
    | none => none
  | .max, _, args => match allL ground args with
    | true => match runG (Builtin.max_ ats.toArray ty args.toArray) with
      | some v => some (v, s)
      | none => none
    | false => none
  | .min, _, args => match allL ground args with
    | true => match runG (Builtin.min_ ats.toArray ty args.toArray) with
      | some v => some (v, s)
      | none => none
    | false => none
  | .unsafeSliceData, _, [.slice (some a) n c] => match Nat.beq n 0, Nat.beq c 0 with
    | false, false => some (.pointer (some a), s)
    | _, _ => none
  | .unsafeString, [t, _], [.pointer (some a), .int .i64 (.ofNat n)] => match Nat.beq n 0, tb.ty.get t with
    | false, some ti => match ti.kind, s.look a.block, Nat.beq a.off 0, Nat.blt n 1000000 with
      | .ptr e, some (.opn c e' _, s), true, true => match Nat.beq e e', tb.ty.get e with
        | true, some ei => match ei.kind, takeL n c, Nat.beq ei.size 1 with
          | .int .u8, some vs, true => match bytesOfX vs with
            | some bs => match s.turn a.block none with
              | some s => some (.string ⟨⟨bs⟩⟩, s)
              | none => none
            | none => none
          | _, _, _ => none
        | _, _ => none
      | _, _, _, _ => none
    | _, _ => none
  | _, _, _ => none

noncomputable def optEv (ev : Ev) : Option Operand → Option (Option Value)
  | none => some none
  | some x => match ev x with
    | some v => some (some v)
    | none => none

noncomputable def convX (tb : Tab) (src dst : TypeId) (x : Value) (s : St) : Option (Value × St) := match tb.ty.get src, tb.ty.get dst with
  | some si, some di => match si.kind, di.kind, x with
    | .int _, .int k, .int _ n => some (.int k (k.wrap n), s)
    | .str, .slice e, .string b => match tb.ty.get e with
      | some ei => match ei.kind, Nat.blt b.data.toList.length 1000000 with
        | .int .u8, true => match s.new2 (.ro (b.data.toList.map fun x => .int .u8 x.toNat) e) with
          | some (r, s) => some (.slice (some ⟨r, 0, none⟩) b.data.toList.length UNK, s)
          | none => none
        | _, _ => none
      | none => none
    | .ptr t, .uptr, .pointer (some a) => match s.look a.block, tb.ty.get t with
      | some (.row c _, s), some ti => match Nat.blt a.off c.length, Nat.blt 0 ti.size with
        | true, true => some (x, s)
        | _, _ => none
      | _, _ => none
    | .uptr, .ptr u, .pointer (some a) => match s.look a.block, tb.ty.get u with
      | some (.row c e, s), some ui => match Nat.beq a.off 0, Nat.beq e u, Nat.beq c.length ui.size, Nat.blt 0 ui.size with
        | true, true, true, true => some (x, s)
        | _, _, _, _ => none
      | _, _ => none
    | _, _, _ => none
  | _, _ => none

noncomputable def valX (s : St) (r : Option Value) : Option (R × St) := match r with
  | some v => some (.val v, s)
  | none => none

noncomputable def valsX (r : Option (Value × St)) : Option (R × St) := match r with
  | some (v, s) => some (.val v, s)
  | none => none

noncomputable def op_move (tb : Tab) (ev : Ev) (x : Operand) (s : St) : Option (R × St) := valX s (ev x)

noncomputable def op_pick (tb : Tab) (ev : Ev) (c : Operand) (a : Operand) (b : Operand) (s : St) : Option (R × St) := match ev c with
    | some (.bool true) => valX s (ev a)
    | some (.bool false) => valX s (ev b)
    | _ => none

noncomputable def op_alloc (tb : Tab) (ev : Ev) (t : TypeId) (s : St) : Option (R × St) := match tb.ty.get t with
    | some ti => match s.new (.row ti.zero t) with
      | some (b, s) => some (.val (.pointer (some ⟨b, 0, none⟩)), s)
      | none => none
    | none => none

noncomputable def op_box (tb : Tab) (ev : Ev) (t : TypeId) (x : Operand) (s : St) : Option (R × St) := match ev x with
    | some v => match s.new (.row (cellsL v) t) with
      | some (b, s) => some (.val (.pointer (some ⟨b, 0, none⟩)), s)
      | none => none
    | none => none

noncomputable def op_build (tb : Tab) (ev : Ev) (t : TypeId) (ps : Array (Nat × Operand)) (s : St) : Option (R × St) := match tb.ty.get t, evParts ev ps.toList with
    | some ti, some ps => match ti.kind with
      | .struct fs => match fillX (fun i => match nth fs i with | some (o, z, _) => some (o, z) | none => none) ti.zero ps with
        | some cs => some (.val (.agg ⟨cs⟩), s)
        | none => none
      | .array _ e => match tb.ty.get e with
        | some ei => match fillX (fun i => some (i * ei.size, ei.size)) ti.zero ps with
          | some cs => some (.val (.agg ⟨cs⟩), s)
          | none => none
        | none => none
      | _ => none
    | _, _ => none

noncomputable def op_buildSlice (tb : Tab) (ev : Ev) (t : TypeId) (len : Nat) (ps : Array (Nat × Operand)) (s : St) : Option (R × St) := match tb.ty.get t, evParts ev ps.toList with
    | some ti, some ps => match ti.kind with
      | .slice e => match tb.ty.get e with
        | some ei => match Nat.blt (len * ei.size) 16000000, Nat.ble len 16000000, fillX (fun i => some (i * ei.size, ei.size)) (rep ei.zero len) ps with
          | true, true, some cs => match s.new (.row cs e) with
            | some (b, s) => some (.val (.slice (some ⟨b, 0, none⟩) len len), s)
            | none => none
          | _, _, _ => none
        | none => none
      | _ => none
    | _, _ => none

noncomputable def op_load (tb : Tab) (ev : Ev) (t : TypeId) (x : Operand) (s : St) : Option (R × St) := match tb.ty.get t, ev x with
    | some ti, some (.pointer (some a)) => match loadX s a.block a.off (match isAgg ti.kind with | true => ti.size | false => 1) with
      | some (vs, s) => match wrapV ti vs with
        | some v => some (.val v, s)
        | none => none
      | none => none
    | _, _ => none

noncomputable def op_store (tb : Tab) (ev : Ev) (t : TypeId) (x : Operand) (y : Operand) (s : St) : Option (R × St) := match tb.ty.get t, ev x, ev y with
    | some ti, some (.pointer (some a)), some v => match Nat.beq (cellsL v).length ti.size, storeX s a.block a.off (cellsL v) with
      | true, some s => some (.skip, s)
      | _, _ => none
    | _, _, _ => none

noncomputable def op_nilCheck (tb : Tab) (ev : Ev) (x : Operand) (s : St) : Option (R × St) := match ev x with
    | some (.pointer (some a)) => some (.val (.pointer (some a)), s)
    | _ => none

noncomputable def op_binOp (tb : Tab) (ev : Ev) (op : BinOp) (t : TypeId) (x : Operand) (y : Operand) (s : St) : Option (R × St) := match ev x, ev y with
    | some a, some b => match binX op t x y a b with
      | some v => some (.val v, s)
      | none => match tb.ty.get t with
        | some ti => match nilX tb ti.kind x y a b, op with
          | some r, .eql => some (.val (.bool r), s)
          | some r, .neq => some (.val (.bool (!r)), s)
          | _, _ => none
        | none => none
    | _, _ => none

noncomputable def op_unOp (tb : Tab) (ev : Ev) (op : UnOp) (x : Operand) (s : St) : Option (R × St) := match ev x with
    | some v => match ground v with
      | true => valX s (runG (Op.unary op v))
      | false => none
    | none => none

noncomputable def op_convert (tb : Tab) (ev : Ev) (a : TypeId) (b : TypeId) (x : Operand) (s : St) : Option (R × St) := match ev x with
    | some v => valsX (convX tb a b v s)
    | none => none

noncomputable def op_makeInterface (tb : Tab) (ev : Ev) (t : TypeId) (x : Operand) (s : St) : Option (R × St) := match tb.ty.get t, ev x with
    | some ti, some v => match ti.kind with
      | .iface => none
      | .other => none
      | _ => some (.val (.iface t v), s)
    | _, _ => none

noncomputable def op_makeFunc (tb : Tab) (ev : Ev) (f : FuncId) (fs : Array Operand) (cs : Array Operand) (s : St) : Option (R × St) := match evs ev fs.toList, evs ev cs.toList with
    | some fs, some cs => some (.val (.func (.func f) ⟨fs⟩ ⟨cs⟩), s)
    | _, _ => none

noncomputable def op_makeMap (tb : Tab) (ev : Ev) (s : St) : Option (R × St) := match s.new (.map [] 0) with
    | some (b, s) => some (.val (.map (some b)), s)
    | none => none

noncomputable def op_makeSlice (tb : Tab) (ev : Ev) (t : TypeId) (x : Operand) (y : Operand) (s : St) : Option (R × St) := match tb.ty.get t, ev x, ev y with
    | some ti, some (.int _ (.ofNat l)), some (.int _ (.ofNat c)) => match ti.kind with
      | .slice e => match tb.ty.get e with
        | some ei => match Nat.ble l c, Nat.blt c 100000, Nat.blt ei.bytes 1000, s.new (.row (rep ei.zero c) e) with
          | true, true, true, some (b, s) => some (.val (.slice (some ⟨b, 0, none⟩) l c), s)
          | _, _, _, _ => none
        | none => none
      | _ => none
    | _, _, _ => none

noncomputable def op_slice (tb : Tab) (ev : Ev) (t : TypeId) (x : Operand) (lo : Option Operand) (hi : Option Operand) (s : St) : Option (R × St) := match ev x, optEv ev lo, optEv ev hi with
    | some v, some lo, some hi => valX s (sliceX tb t v lo hi)
    | _, _, _ => none

noncomputable def op_fieldAddr (tb : Tab) (ev : Ev) (t : TypeId) (x : Operand) (i : Nat) (s : St) : Option (R × St) := match tb.ty.get t, ev x with
    | some ti, some (.pointer (some a)) => match ti.kind with
      | .struct fs => match nth fs i with
        | some (o, z, _) => match Nat.beq z 0 with
          | true => none
          | false => some (.val (.pointer (some ⟨a.block, a.off + o, none⟩)), s)
        | none => none
      | _ => none
    | _, _ => none

noncomputable def op_field (tb : Tab) (ev : Ev) (t : TypeId) (x : Operand) (i : Nat) (s : St) : Option (R × St) := match tb.ty.get t, ev x with
    | some ti, some (.agg ⟨cs⟩) => match ti.kind with
      | .struct fs => match nth fs i with
        | some (o, z, ft) => match tb.ty.get ft with
          | some fi => match cut cs o (match isAgg fi.kind with | true => fi.size | false => 1) with
            | some vs => valX s (wrapV fi vs)
            | none => none
          | none => none
        | none => none
      | _ => none
    | _, _ => none

noncomputable def op_indexAddr (tb : Tab) (ev : Ev) (t : TypeId) (x : Operand) (y : Operand) (s : St) : Option (R × St) := match tb.ty.get t, ev x, ev y with
    | some ti, some v, some (.int _ (.ofNat i)) => match ti.kind, v with
      | .slice e, .slice (some a) n _ => match tb.ty.get e, Nat.blt i n with
        | some ei, true => some (.val (.pointer (some ⟨a.block, a.off + i * ei.size, none⟩)), s)
        | _, _ => none
      | .array n e, .pointer (some a) => match tb.ty.get e, Nat.blt i n with
        | some ei, true => some (.val (.pointer (some ⟨a.block, a.off + i * ei.size, none⟩)), s)
        | _, _ => none
      | _, _ => none
    | _, _, _ => none

noncomputable def op_index (tb : Tab) (ev : Ev) (t : TypeId) (x : Operand) (y : Operand) (s : St) : Option (R × St) := match tb.ty.get t, ev x, ev y with
    | some ti, some v, some (.int _ (.ofNat i)) => match ti.kind, v with
      | .str, .string b => match nth b.data.toList i with
        | some u => some (.val (.int .u8 (.ofNat u.toNat)), s)
        | none => none
      | .array n e, .agg ⟨cs⟩ => match tb.ty.get e, Nat.blt i n with
        | some ei, true => match cut cs (i * ei.size) (match isAgg ei.kind with | true => ei.size | false => 1) with
          | some vs => valX s (wrapV ei vs)
          | none => none
        | _, _ => none
      | _, _ => none
    | _, _, _ => none

noncomputable def op_lookup (tb : Tab) (ev : Ev) (t : TypeId) (x : Operand) (y : Operand) (ok : Bool) (s : St) : Option (R × St) := match ev x, ev y with
    | some m, some k => valsX (lookupX tb t s m k ok)
    | _, _ => none

noncomputable def op_mapUpdate (tb : Tab) (ev : Ev) (t : TypeId) (x : Operand) (y : Operand) (z : Operand) (s : St) : Option (R × St) := match ev x, ev y, ev z with
    | some m, some k, some v => match updateX tb t s m k v with
      | some s => some (.skip, s)
      | none => none
    | _, _, _ => none

noncomputable def op_range (tb : Tab) (ev : Ev) (t : TypeId) (x : Operand) (s : St) : Option (R × St) := match tb.ty.get t, ev x with
    | some ti, some (.map (some r)) => match ti.kind, s.look r with
      | .map .., some (.map _ clock, s) => match s.new (.iter r clock [] clock) with
        | some (b, s) => some (.val (.pointer (some ⟨b, 0, none⟩)), s)
        | none => none
      | _, _ => none
    | _, _ => none

noncomputable def op_next (tb : Tab) (ev : Ev) (it : Operand) (s : St) : Option (R × St) := match ev it with
    | some v => valsX (nextX s v)
    | none => none

noncomputable def op_entry (tb : Tab) (ev : Ev) (it : Operand) (s : St) : Option (R × St) := match ev it with
    | some v => valsX (entryX s v)
    | none => none

noncomputable def op_typeAssert (tb : Tab) (ev : Ev) (x : Operand) (t : TypeId) (s : St) : Option (R × St) := match tb.ty.get t, ev x with
    | some ti, some (.iface u v) => match ti.kind with
      | .iface => none
      | .other => none
      | _ => match Nat.beq u t with
        | true => some (.val (.tuple ⟨[v, .bool true]⟩), s)
        | false => match wrapV ti ti.zero with
          | some z => some (.val (.tuple ⟨[z, .bool false]⟩), s)
          | none => none
    | _, _ => none

noncomputable def op_extract (tb : Tab) (ev : Ev) (x : Operand) (i : Nat) (s : St) : Option (R × St) := match ev x with
    | some (.tuple ⟨vs⟩) => valX s (nth vs i)
    | _ => none

noncomputable def op_builtin (tb : Tab) (ev : Ev) (b : Builtin) (args : Array Operand) (argTypes : Array TypeId) (rt : TypeId) (s : St) : Option (R × St) := match evs ev args.toList with
    | some args => valsX (builtinX tb b argTypes.toList rt args s)
    | none => none

noncomputable def op_value (tb : Tab) (ev : Ev) (f : Operand) (args : Array Operand) (s : St) : Option (R × St) := match ev f, evs ev args.toList with
    | some f, some args => callX tb f args s
    | _, _ => none

noncomputable def op_invoke (tb : Tab) (ev : Ev) (x : Operand) (name : String) (args : Array Operand) (s : St) : Option (R × St) := match ev x, evs ev args.toList with
    | some (.iface t v), some args => match methX tb.meth t name with
      | some (f, none) => some (.enter f (v :: args), s)
      | some (f, some e) => match tb.ty.get e, v with
        | some ti, .pointer (some a) => match loadX s a.block a.off (match isAgg ti.kind with | true => ti.size | false => 1) with
          | some (vs, s) => match wrapV ti vs with
            | some u => some (.enter f (u :: args), s)
            | none => none
          | none => none
        | _, _ => none
      | none => none
    | _, _ => none

noncomputable def opX (tb : Tab) (ev : Ev) (o : Oper) (s : St) : Option (R × St) := match o.op with
  | .move x | .assign x => op_move tb ev x s
  | .pick c a b => op_pick tb ev c a b s
  | .alloc t => op_alloc tb ev t s
  | .box t x => op_box tb ev t x s
  | .build t ps => op_build tb ev t ps s
  | .buildSlice t len ps => op_buildSlice tb ev t len ps s
  | .load t x => op_load tb ev t x s
  | .store t x y => op_store tb ev t x y s
  | .nilCheck x => op_nilCheck tb ev x s
  | .binOp op t x y _ => op_binOp tb ev op t x y s
  | .unOp op _ x => op_unOp tb ev op x s
  | .convert a b x => op_convert tb ev a b x s
  | .makeInterface t x => op_makeInterface tb ev t x s
  | .makeFunc (.func f) fs cs => op_makeFunc tb ev f fs cs s
  | .makeMap t none => op_makeMap tb ev s
  | .makeSlice t x y => op_makeSlice tb ev t x y s
  | .slice t x lo hi none => op_slice tb ev t x lo hi s
  | .fieldAddr t x i => op_fieldAddr tb ev t x i s
  | .field t x i => op_field tb ev t x i s
  | .indexAddr t x y => op_indexAddr tb ev t x y s
  | .index t x y => op_index tb ev t x y s
  | .lookup t x y ok => op_lookup tb ev t x y ok s
  | .mapUpdate t x y z | .insert t x y z => op_mapUpdate tb ev t x y z s
  | .range t x => op_range tb ev t x s
  | .next it false => op_next tb ev it s
  | .entry it => op_entry tb ev it s
  | .typeAssert x xt t true => op_typeAssert tb ev x t s
  | .extract x i => op_extract tb ev x i s
  | .call { callee := .builtin b, args, argTypes } => op_builtin tb ev b args argTypes o.type s
  | .call { callee := .value f, args, .. } => op_value tb ev f args s
  | .call { callee := .invoke x name, args, .. } => op_invoke tb ev x name args s
  | _ => none

end Go.Proofs.YtnhcbfaomehaeaaGreatDoor.R1

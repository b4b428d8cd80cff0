/- The executor: regions, code, calls, rounds. -/
import Derived.Test.YtnhcbfaomehaeaaGreatDoorA1
namespace Go.Proofs.YtnhcbfaomehaeaaGreatDoor.R1
open Go
set_option linter.unusedVariables false

inductive Ex where
  | normal
  | exit (id : Nat)
  | ret

structure Env where
  tm : List Value
  df : List Nat

abbrev CallH := FuncId → List Value → St → Option (Value × St)

noncomputable def evE (tb : Tab) (tm : List Value) : Ev
  | .tmp t => nth tm t
  | .const v => match ground v with
    | true => some v
    | false => none
  | .global g => match Nat.blt g tb.globals with
    | true => some (.pointer (some ⟨g, 0, none⟩))
    | false => none
  | .func f => some (.func (.func f) ⟨[]⟩ ⟨[]⟩)

noncomputable def putE (tm : List Value) (d : Option Nat) (v : Value) : Option (List Value) := Option.rec (some tm) (fun d => setNth tm d v) d

noncomputable def wantX (ops : List Oper) (tm : List Value) : Option (Nat × Bool) → Bool
  | none => true
  | some (j, want) => match nth ops j with
    | some o => match o.dst with
      | some d => match nth tm d with
        | some (.bool b) => match b, want with
          | true, true => true
          | false, false => true
          | _, _ => false
        | _ => false
      | none => false
    | none => false

noncomputable def undefV : Value := .tuple ⟨[]⟩

noncomputable def putS (tm : List Value) (d : Option Nat) (r : Option (Value × St)) : Option (List Value × St) := match r with
  | some (v, s) => obind (putE tm d v) fun tm => some (tm, s)
  | none => none

/-- What an operation wants is done. -/
noncomputable def doX (call yld : CallH) (tm : List Value) (d : Option Nat) (r : Option (R × St)) : Option (List Value × St) := match r with
  | some (r, s) => match r with
    | .val v => obind (putE tm d v) fun tm => some (tm, s)
    | .skip => obind (putE tm d undefV) fun tm => some (tm, s)
    | .enter f args => putS tm d (call f args s)
    | .yield l args => putS tm d (yld l args s)
  | none => none

/-- One operation, wanted or not. -/
noncomputable def stepX (tb : Tab) (call yld : CallH) (ops : List Oper) (o : Oper) (tm : List Value) (s : St) : Option (List Value × St) :=
  ife (wantX ops tm o.guard) (doX call yld tm o.dst (opX tb (evE tb tm) o s)) (obind (putE tm o.dst undefV) fun tm => some (tm, s))

noncomputable def tmask : List Operand → Nat
  | [] => 0
  | .tmp t :: l => Nat.lor (bit t) (tmask l)
  | _ :: l => tmask l

noncomputable def dmask : Option Nat → Nat
  | some d => bit d
  | none => 0

/-- The slots that a mask names, and no other. -/
noncomputable def evD (tb : Tab) (tm : List Value) (m : Nat) : Ev
  | .tmp t => match Nat.beq (Nat.land m (bit t)) 0 with
    | true => none
    | false => nth tm t
  | x => evE tb tm x

noncomputable def stepD (tb : Tab) (call yld : CallH) (ops : List Oper) (o : Oper) (m : Nat) (tm : List Value) (s : St) : Option (List Value × St) :=
  ife (wantX ops tm o.guard) (doX call yld tm o.dst (opX tb (evD tb tm m) o s)) (obind (putE tm o.dst undefV) fun tm => some (tm, s))

noncomputable def seqK (k : List Value → St → Option (List Value × St)) (r : Option (List Value × St)) : Option (List Value × St) := match r with
  | some (tm, s) => k tm s
  | none => none

noncomputable def seqX (tb : Tab) (call yld : CallH) (ops : List Oper) (l : List Oper) : List Value → St → Option (List Value × St) :=
  List.rec (motive := fun _ => List Value → St → Option (List Value × St)) (fun tm s => some (tm, s)) (fun o _ ih tm s => seqK ih (stepX tb call yld ops o tm s)) l

/-! ## A region whose order is drawn -/

/-- What an operation did: its ancestors, blocks read, blocks turned or made, temporaries named, the temporary written. -/
structure Did where
  anc : Nat
  rd : Nat
  wr : Nat
  nm : Nat
  ds : Nat

noncomputable def apart (a b : Nat) : Bool := Nat.beq (Nat.land a b) 0

/-- Operation i may stand on either side of those ahead of it in the text that are not its ancestors. -/
noncomputable def freeX (d : Did) : List Did → Nat → Bool
  | [], _ => true
  | e :: l, j => match Nat.beq (Nat.land d.anc (bit j)) 0 with
    | false => freeX d l (j + 1)
    | true => match apart d.wr (Nat.lor e.rd e.wr), apart e.wr d.rd, apart d.ds e.nm, apart e.ds d.nm with
      | true, true, true, true => freeX d l (j + 1)
      | _, _, _, _ => false

noncomputable def ancX (i : Nat) (ds : List Did) : List Edge → Option Nat
  | [] => some 0
  | e :: l => match ancX i ds l with
    | some m => match Region.binds .any e with
      | false => some m
      | true => match Nat.blt e.on i, nth ds e.on with
        | true, some d => some (Nat.lor (Nat.lor (bit e.on) d.anc) m)
        | _, _ => none
    | none => none

noncomputable def guardTmp (ops : List Oper) : Option (Nat × Bool) → Option Nat
  | none => some 0
  | some (j, _) => match nth ops j with
    | some o => some (dmask o.dst)
    | none => none

noncomputable def drawX (tb : Tab) (call yld : CallH) (ops : List Oper) : List Oper → Nat → List Did → List Value → St → Option (List Value × St × List Did)
  | [], _, ds, tm, s => some (tm, s, ds)
  | o :: l, i, ds, tm, s => forceN (tmask o.op.operands.toList) fun om => match stepD tb call yld ops o om tm { s with rd := 0, wr := 0 } with
    | some (tm, s') => match ancX i ds o.after.toList, guardTmp ops o.guard with
      | some anc, some g =>
        forceN (Nat.lor s'.wr (Nat.sub (Nat.shiftLeft 1 s'.nx) (Nat.shiftLeft 1 s.nx))) fun wr =>
        forceN (Nat.lor (dmask o.dst) (Nat.lor g om)) fun nm =>
        forceN anc fun anc =>
        let d : Did := ⟨anc, s'.rd, wr, nm, dmask o.dst⟩
        match freeX d ds 0 with
        | true => drawX tb call yld ops l (i + 1) (ds ++ [d]) tm s'
        | false => none
      | _, _ => none
    | none => none

noncomputable def sumRd : List Did → Nat
  | [] => 0
  | d :: l => Nat.lor d.rd (sumRd l)
noncomputable def sumWr : List Did → Nat
  | [] => 0
  | d :: l => Nat.lor d.wr (sumWr l)

noncomputable def noSelX (o : Oper) : Bool := match o.op with
  | .select .. => false
  | .defer .. => false
  | _ => true

noncomputable def regX (tb : Tab) (call yld : CallH) (ops : List Oper) (draw : Bool) (tm : List Value) (s : St) : Option (List Value × St) := match draw with
  | false => seqX tb call yld ops ops tm s
  | true => match drawX tb call yld ops ops 0 [] tm s with
    | some (tm, s', ds) => forceN (Nat.lor s.rd (sumRd ds)) fun rd => forceN (Nat.lor s.wr (sumWr ds)) fun wr => some (tm, { s' with rd := rd, wr := wr })
    | none => none

/-! ## Code -/

abbrev CodeH := Code → Env → St → Option (Ex × Env × St)

noncomputable def thenC (r : Option (Ex × Env × St)) (k : Env → St → Option (Ex × Env × St)) : Option (Ex × Env × St) := match r with
  | some (.normal, e, s) => k e s
  | r => r

noncomputable def regC (tb : Tab) (call yld : CallH) (ops : Array Oper) (draw : Bool) (e : Env) (s : St) : Option (Ex × Env × St) :=
  match regX tb call yld ops.toList draw e.tm s with
  | some (tm, s) => some (.normal, ⟨tm, e.df⟩, s)
  | none => none

noncomputable def condC (ih : CodeH) (v : Option Value) (a b : Code) (e : Env) (s : St) : Option (Ex × Env × St) := match v with
  | some (.bool t) => ife t (ih a e s) (ih b e s)
  | _ => none

noncomputable def blockC (id : Nat) (r : Option (Ex × Env × St)) : Option (Ex × Env × St) := match r with
  | some (.exit i, e, s) => ife (Nat.beq i id) (some (.normal, e, s)) (some (.exit i, e, s))
  | r => r

/-- The block for the deferred calls of a loop's rounds, and the marks that the activation takes up. -/
noncomputable def markC (rnd : Option Nat) (s : St) : Option (Nat × List Nat × St) := match rnd with
  | none => match s.new .dfr with
    | some (r, s) => some (r, [r], s)
    | none => none
  | some l => match s.look l with
    | some (.loop _ _ _ _ _ _ _ d, s) => some (d, [], s)
    | _ => none

noncomputable def endC (ih : CodeH) (l : Nat) (e : Env) (s : St) : Option (Ex × Env × St) := match s.look l with
  | some (.loop st pend fn' tmps ps' as' bd' r', s) => match decide (st = .busy) with
    | true => none
    | false => match s.turn l (some (.loop .exhausted pend fn' tmps ps' as' bd' r')) with
      | none => none
      | some s => match pend with
        | none => some (.normal, e, s)
        | some c => ih c e s
  | _ => none

noncomputable def rangeC (tb : Tab) (call : CallH) (ih : CodeH) (rnd : Option Nat) (fn : FuncId) (g : Operand) (ps : Array Tmp) (assign body : Code) (e : Env) (s : St) : Option (Ex × Env × St) :=
  match markC rnd s with
  | none => none
  | some (r, mark, s) => match s.new (.loop .ready none fn e.tm ps.toList assign body r) with
    | none => none
    | some (l, s) => match evE tb e.tm g with
      | some gv => match callX tb gv [.func (.yield l) ⟨[]⟩ ⟨[]⟩] s with
        | some (.enter gf args, s) => match call gf args s with
          | some (_, s) => endC ih l ⟨e.tm, mark ++ e.df⟩ s
          | none => none
        | _ => none
      | none => none

noncomputable def codeS (tb : Tab) (call yld : CallH) (rnd : Option Nat) (fn : FuncId) (ih : CodeH) (c : Code) (e : Env) (s : St) : Option (Ex × Env × St) := match c with
  | .skip | .label _ => some (.normal, e, s)
  | .region _ ops draw => regC tb call yld ops draw e s
  | .seq a b => thenC (ih a e s) (ih b)
  | .cond c a b => condC ih (evE tb e.tm c) a b e s
  | .block id b => blockC id (ih b e s)
  | .loop b => thenC (ih b e s) (ih (.loop b))
  | .scope b => ih b e s
  | .exit id => some (.exit id, e, s)
  | .ret => some (.ret, e, s)
  | .rangeFunc g ps assign body => rangeC tb call ih rnd fn g ps assign body e s
  | _ => none

noncomputable def codeX (tb : Tab) (call yld : CallH) (rnd : Option Nat) (fn : FuncId) (n : Nat) : CodeH :=
  Nat.rec (motive := fun _ => CodeH) (fun _ _ _ => none) (fun _ ih => codeS tb call yld rnd fn ih) n

noncomputable def leaveX (s : St) : List Nat → Option St
  | [] => some s
  | r :: l => match s.look r with
    | some (.dfr, s) => match s.turn r (some .dfrx) with
      | some s => leaveX s l
      | none => none
    | _ => none

noncomputable def resX (tb : Tab) (tm : List Value) (s : St) : List ResultVar → Option (List Value × St)
  | [] => some ([], s)
  | .tmp t :: l => match nth tm t with
    | some v => match resX tb tm s l with
      | some (vs, s) => some (v :: vs, s)
      | none => none
    | none => none
  | .cell t ty :: l => match tb.ty.get ty, nth tm t with
    | some ti, some (.pointer (some a)) => match loadX s a.block a.off (match isAgg ti.kind with | true => ti.size | false => 1) with
      | some (vs, s) => match wrapV ti vs with
        | some v => match resX tb tm s l with
          | some (vs, s) => some (v :: vs, s)
          | none => none
        | none => none
      | none => none
    | _, _ => none

noncomputable def outX : List Value → Value
  | [v] => v
  | l => .tuple ⟨l⟩

noncomputable def padX (args : List Value) (n : Nat) : List Value := args ++ List.replicate (n - args.length) undefV

noncomputable def phaseX (p e : Int) : Option Int :=
  match decide (e = 1), decide (e = 2), decide (e = 3), decide (e = 4), decide (e = 5) with
  | true, _, _, _, _ => match decide (p = 1), decide (p = 2) with
    | false, false => none
    | _, _ => some 3
  | _, true, _, _, _ => match decide (p = 1), decide (p = 2) with
    | false, false => none
    | _, _ => some 2
  | _, _, true, _, _ => match decide (p = 2) with
    | true => some 1
    | false => none
  | _, _, _, true, _ => match decide (p = 3) with
    | true => some 4
    | false => none
  | _, _, _, _, true => match decide (p = 1), decide (p = 2), decide (p = 3), decide (p = 4) with
    | false, false, false, false => none
    | _, _, _, _ => some 5
  | _, _, _, _, _ => none

noncomputable def lemX (x : Lm) (args : List Value) (s : St) : Option (Value × St) := match x, args with
  | .phaseNext, [.int .i64 p, .int .i64 e] => match phaseX p e with
    | some q => some (.tuple ⟨[.int .i64 q, .bool true]⟩, s)
    | none => some (.tuple ⟨[.int .i64 0, .bool false]⟩, s)
  | _, _ => none

noncomputable def callB (tb : Tab) (call yld : CallH) (fu : Nat) (f : FuncId) (args : List Value) (s : St) : Option (Value × St) := match tb.fn.get f with
  | some (.body n rs c) => match codeX tb call yld none f fu c ⟨padX args n, []⟩ s with
    | some (.exit _, _, _) => none
    | some (_, e, s) => match leaveX s e.df with
      | some s => match resX tb e.tm s rs with
        | some (vs, s) => some (outX vs, s)
        | none => none
      | none => none
    | none => none
  | some (.lem x) => lemX x args s
  | _ => none

noncomputable def setAll : List Tmp → List Value → List Value → Option (List Value)
  | [], [], tm => some tm
  | t :: ts, v :: vs, tm => obind (setNth tm t v) (setAll ts vs)
  | _, _, _ => none

noncomputable def yldB (tb : Tab) (call yld : CallH) (fu : Nat) (l : Nat) (args : List Value) (s : St) : Option (Value × St) := match s.look l with
  | some (.loop _ _ fn tm ps as bd _, s) => match setAll ps args tm with
    | some tm => match codeX tb call yld (some l) fn fu as ⟨tm, []⟩ s with
      | some (.normal, e, s) => match s.look l with
        | some (.loop .ready pend fn' tmps ps' as' bd' r, s) => match s.turn l (some (.loop .busy pend fn' tmps ps' as' bd' r)) with
          | some s => match codeX tb call yld (some l) fn fu bd e s with
            | some (x, _, s) => match s.look l with
              | some (.loop _ _ fn' tmps ps' as' bd' r, s) =>
                let j : Option Code := match x with
                  | .normal => none
                  | .ret => some .ret
                  | .exit id => some (.exit id)
                match s.turn l (some (.loop (match x with | .normal => .ready | _ => .done) j fn' tmps ps' as' bd' r)) with
                | some s => some (.bool (match x with | .normal => true | _ => false), s)
                | none => none
              | _ => none
            | none => none
          | none => none
        | _ => none
      | _ => none
    | none => none
  | _ => none

structure Hd where
  call : CallH
  yld : CallH

noncomputable def hdX (tb : Tab) (fu : Nat) (n : Nat) : Hd :=
  Nat.rec (motive := fun _ => Hd) ⟨fun _ _ _ => none, fun _ _ _ => none⟩ (fun _ h => ⟨callB tb h.call h.yld fu, yldB tb h.call h.yld fu⟩) n

end Go.Proofs.YtnhcbfaomehaeaaGreatDoor.R1

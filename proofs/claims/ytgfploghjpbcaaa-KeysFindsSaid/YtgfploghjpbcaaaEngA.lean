/- The abstract machine: values without addresses, objects by number, code with what is static worked out. -/
import Derived.Test.YtgfploghjpbcaaaProg
import Derived.Deep.AppendSrc
import Derived.Deep.MidRow
import Derived.Deep.WholeRow
import Derived.Laws.MakeOwn
import Derived.Laws.IdiomStrings
import Derived.Laws.BytesString
import Derived.Laws.Strings
import Derived.Orders
import Derived.CheckFast
import Derived.Great.BuildSlice
import Derived.Laws.Tables
import Derived.KernelRfl
namespace Go.Proofs.Ytgfploghjpbcaaa.Eng
open Go

/-- Values: a 'view' is a slice whose cells nobody writes; a 'row' is a slice of an object that lies in the abstract heap. -/
inductive AV where
  | lit (v : Value)
  | ptr (id off : Nat)
  | rptr (id off L : Nat)
  | vptr (cs : List AV)
  | row (id off n L : Nat)
  | view (cs : List AV) (n : Nat) (full : Bool)
  | fn (f : Fn) (first cap : List AV)
  | agg (cs : List AV)
  | tup (vs : List AV)
  | may (g : Bool) (v : AV)
  | anyb
  | junk
  deriving Inhabited

/-- Objects: sz = 0: a variable (its number of cells stays); else the block behind a slice, sz cells an element. -/
structure AObj where
  cs : List AV
  sz : Nat
  rw : Bool
  deriving Inhabited
abbrev AH := List AObj
abbrev Env := Nat → AV

/-- Operands. -/
inductive IArg where
  | t (n : Nat)
  | c (v : Value)
  | f (n : FuncId)
  deriving Inhabited

/-- Kinds of types whose values are compared. -/
inductive TK where
  | b | i | p | s | f
  deriving Inhabited, DecidableEq
inductive Ins where
  | mv (x : IArg)
  | pick (c a b : IArg)
  | nilchk (x : IArg)
  | bin (op : BinOp) (x y : IArg)
  | eqagg (ks : List (Option IntKind)) (neq : Bool) (x y : IArg)
  | eq (neq : Bool) (tk : TK) (x y : IArg)
  | un (op : UnOp) (x : IArg)
  | conv (k : IntKind) (x : IArg)
  | same (x : IArg)
  | s2b (own : Bool) (x : IArg)
  | b2s (x : IArg)
  | alloc (zero : List Value)
  | box (x : IArg)
  | build (zero : List Value) (parts : List (Nat × Nat × IArg))
  | bslice (own : Bool) (sz len : Nat) (zero : List Value) (parts : List (Nat × Nat × IArg))
  | load (agg : Bool) (k : Nat) (x : IArg)
  | store (k : Nat) (a x : IArg)
  | fld (off : Nat) (x : IArg)
  | part (agg : Bool) (k off : Nat) (x : IArg)
  | idxa (sz : Nat) (arr : Option Nat) (x i : IArg)
  | idx (agg : Bool) (k len : Nat) (x i : IArg)
  | sidx (x i : IArg)
  | ext (x : IArg) (i : Nat)
  | mkif (t : TypeId) (x : IArg)
  | mkfn (f : Fn) (first cap : List IArg)
  | mksl (sz bytes : Nat) (zero : List Value) (l c : IArg)
  | slice (sz : Nat) (arr : Option Nat) (x : IArg) (lo hi mx : Option IArg)
  | sslice (x : IArg) (lo hi : Option IArg)
  | call (f : FuncId) (args : List IArg)
  | callv (x : IArg) (args : List IArg)
  | append (sz bytes : Nat) (s x : IArg)
  | copy (sz : Nat) (d s : IArg)
  | len (str : Bool) (x : IArg)
  | cap (x : IArg)
  | mark (x : IArg)
  | dead
  | isnil (neq : Bool) (x : IArg)
  | carry (sub : Bool) (x y c : IArg)
  | s2ap (len sz : Nat) (x : IArg)
  | appz (sz bytes : Nat) (z : List Value) (s n : IArg)
  | appv (sz bytes : Nat) (s x : IArg)
  | clear (sz : Nat) (z : List Value) (x : IArg)
  | lenc (n : Nat)
  | mn (x y : IArg)
  | mx (x y : IArg)
  deriving Inhabited

/-- An operation: where its value goes; its guard (the slot that is asked, and what it must hold). -/
structure IOp where
  d : Option Nat
  g : Option (Nat × Bool)
  o : Ins
  deriving Inhabited

/-- How an operation of a drawn region is taken: by what was there ahead of the region; as a new object, the r-th of the region; as ever. -/
inductive Kd where
  | e
  | a (r : Nat)
  | l
  | m
  | w
  deriving Inhabited
/-- An operation of a drawn region: addresses that its own must be apart from. -/
structure RA where
  o : IOp
  k : Kd
  ds : List IArg
  deriving Inhabited
inductive IC where
  | done
  | op (o : IOp) (k : IC)
  | keep (l : List Nat) (k : IC)
  | reg (n : Nat) (l : List RA) (k : IC)
  | ite (c : IArg) (a b : IC) (k : IC)
  | block (id : Nat) (b : IC) (k : IC)
  | loop (b : IC)
  | exit (id : Nat)
  | ret
  deriving Inhabited

/-- Short words for code. -/
def q (d : Nat) (o : Ins) (k : IC) : IC := .op ⟨some d, none, o⟩ k
def qn (o : Ins) (k : IC) : IC := .op ⟨none, none, o⟩ k
def qg (d j : Nat) (w : Bool) (o : Ins) (k : IC) : IC := .op ⟨some d, some (j, w), o⟩ k
abbrev ci (n : Int) : IArg := .c (.int .i64 n)
abbrev cb (b : Bool) : IArg := .c (.bool b)
/-! ### From the model's code -/
section
variable (P : Program)
def arg? : Operand → Option IArg
  | .tmp t => some (.t t)
  | .const v => some (.c v)
  | .func f => some (.f f)
  | .global _ => none
def isAggT (t : TypeId) : Bool := match P.underlying t with | some (.struct _) | some (.array _ _) => true | _ => false
def zeroT (t : TypeId) : Option (List Value) := ((P.info? t).bind (·.zero)).map (·.cells.toList)
/-- Values of such types are equal if their cells are: the cells' kinds (none: a bool). -/
def addK (flat : TypeId → Option (List (Option IntKind))) : Option (List (Option IntKind)) → Field → Option (List (Option IntKind))
  | some l, f => if f.name = "_" || f.offset != l.length then none else (flat f.type).map (l ++ ·)
  | none, _ => none
def flatK : Nat → TypeId → Option (List (Option IntKind))
  | 0, _ => none
  | d + 1, t => match P.underlying t with
    | some .bool => if P.cellsOf t = 1 then some [none] else none
    | some (.int k) => if P.cellsOf t = 1 then some [some k] else none
    | some (.array n e) => (flatK d e).bind fun ks => if P.cellsOf t = n * ks.length && n != 0 then some (List.replicate n ks).flatten else none
    | some (.struct fs) => if P.stoodInHeld t then none else (fs.toList.foldl (addK (flatK d)) (some [])).bind fun ks => if P.cellsOf t = ks.length && !ks.isEmpty then some ks else none
    | _ => none
def okCall (f : FuncId) : Bool := match P.funcs[f]? with | some fn => fn.name != "runtime.NumGoroutine" && fn.body.isSome | none => false
def isExt (fn : Func) (n : String) : Bool := fn.body.isNone && fn.name == n && fn.origin == ""
def parts? (place : Nat → Option (Nat × Nat)) (ps : Array (Nat × Operand)) : Option (List (Nat × Nat × IArg)) :=
  ps.toList.mapM fun (i, x) => do let (o, k) ← place i; let y ← arg? x; pure (o, k, y)
/-- One operation. 'own d': what it makes is to be an object. -/
def op? (own : Nat → Bool) (o : Oper) : Option Ins :=
  let mine := match o.dst with | some d => own d | none => false
  match o.op with
  | .move x | .assign x => do pure (.mv (← arg? x))
  | .pick c a b => do pure (.pick (← arg? c) (← arg? a) (← arg? b))
  | .nilCheck x => do pure (.nilchk (← arg? x))
  | .binOp op t x y _ => do
    let x' ← arg? x; let y' ← arg? y
    if isAggT P t then
      if P.eqGuardType P.depth t then none else
      let ks ← flatK P 20 t
      (match op with | .eql => pure (.eqagg ks false x' y') | .neq => pure (.eqagg ks true x' y') | _ => none)
    else match P.underlying t, op with
      | some (.int _), _ | some .string, _ => pure (.bin op x' y')
      | some .bool, .eql => pure (.eq false .b x' y')
      | some .bool, .neq => pure (.eq true .b x' y')
      | some (.interface _), .eql => pure (.eq false .i x' y')
      | some (.interface _), .neq => pure (.eq true .i x' y')
      | some (.pointer _), .eql => pure (.eq false .p x' y')
      | some (.pointer _), .neq => pure (.eq true .p x' y')
      | some (.slice _), .eql => match y with | .const (.slice none 0 0) => pure (.isnil false x') | _ => none
      | some (.slice _), .neq => match y with | .const (.slice none 0 0) => pure (.isnil true x') | _ => none
      | some (.func ..), .eql => pure (.eq false .f x' y')
      | some (.func ..), .neq => pure (.eq true .f x' y')
      | _, _ => none
  | .unOp op _ x => do pure (.un op (← arg? x))
  | .convert s d x => do
    let x' ← arg? x
    match P.underlying s, P.underlying d with
    | some (.int _), some (.int k) => pure (.conv k x')
    | some .string, some .string => pure (.same x')
    | some .string, some (.slice e) => if P.underlying e matches some (.int .u8) then pure (.s2b mine x') else none
    | some (.slice e), some .string => if P.underlying e matches some (.int .u8) then pure (.b2s x') else none
    | some (.slice e), some (.slice _) => if s == d && (P.underlying e matches some (.int .u8)) then pure (.mark x') else none
    | _, _ => none
  | .alloc t => do let z ← zeroT P t; if z.isEmpty then none else pure (.alloc z)
  | .box _ x => do pure (.box (← arg? x))
  | .build t ps => do
    let z ← zeroT P t
    match P.underlying t with
    | some (.struct fs) => if fs.toList.all (fun f => (P.info? f.type).isSome) then pure (.build z (← parts? (fun i => (fs[i]?).map fun f => (f.offset, P.cellsOf f.type)) ps)) else none
    | some (.array _ e) => if P.cellsOf e = 0 then none else pure (.build z (← parts? (fun i => some (i * P.cellsOf e, P.cellsOf e)) ps))
    | _ => none
  | .buildSlice t len ps => do
    match P.underlying t with
    | some (.slice e) =>
      let z ← zeroT P e
      if P.cellsOf e = 0 || len * P.cellsOf e > 2 ^ 24 || z.length != P.cellsOf e then none
      else pure (.bslice mine (P.cellsOf e) len z (← parts? (fun i => some (i * P.cellsOf e, P.cellsOf e)) ps))
    | _ => none
  | .load t a => do if P.cellsOf t = 0 || (P.underlying t).isNone then none else pure (.load (isAggT P t) (P.cellsOf t) (← arg? a))
  | .store t a x => do if P.cellsOf t = 0 then none else pure (.store (P.cellsOf t) (← arg? a) (← arg? x))
  | .fieldAddr t x i => do
    match P.underlying t with
    | some (.struct fs) => match fs[i]? with
      | some f => if P.cellsOf f.type = 0 then none else pure (.fld f.offset (← arg? x))
      | none => none
    | _ => none
  | .field t x i => do
    match P.underlying t with
    | some (.struct fs) => match fs[i]? with
      | some f => if P.cellsOf f.type = 0 || (P.underlying f.type).isNone then none else pure (.part (isAggT P f.type) (P.cellsOf f.type) f.offset (← arg? x))
      | none => none
    | _ => none
  | .indexAddr t x i => do
    match P.underlying t with
    | some (.slice e) => if P.cellsOf e = 0 then none else pure (.idxa (P.cellsOf e) none (← arg? x) (← arg? i))
    | some (.array n e) => if P.cellsOf e = 0 then none else pure (.idxa (P.cellsOf e) (some n) (← arg? x) (← arg? i))
    | _ => none
  | .index t x i => do
    match P.underlying t with
    | some (.array n e) => if P.cellsOf e = 0 || (P.underlying e).isNone || !(isAggT P e || P.cellsOf e = 1) then none else pure (.idx (isAggT P e) (P.cellsOf e) n (← arg? x) (← arg? i))
    | some .string => pure (.sidx (← arg? x) (← arg? i))
    | _ => none
  | .extract x i => do pure (.ext (← arg? x) i)
  | .makeInterface t x => do
    match P.underlying t with
    | some (.int _) | some .bool | some .string => pure (.mkif t (← arg? x))
    | _ => none
  | .makeFunc f first cap => do pure (.mkfn f (← first.toList.mapM arg?) (← cap.toList.mapM arg?))
  | .makeSlice t l c => do
    match P.underlying t with
    | some (.slice e) => let z ← zeroT P e; if P.cellsOf e = 0 || z.length != P.cellsOf e then none else pure (.mksl (P.cellsOf e) (P.bytesOf e) z (← arg? l) (← arg? c))
    | _ => none
  | .slice t x lo hi mx => do
    let g : Option Operand → Option (Option IArg) := fun y => match y with | none => some none | some z => (arg? z).map some
    match P.underlying t with
    | some (.slice e) => if P.cellsOf e = 0 then none else pure (.slice (P.cellsOf e) none (← arg? x) (← g lo) (← g hi) (← g mx))
    | some (.array n e) => if P.cellsOf e = 0 then none else pure (.slice (P.cellsOf e) (some n) (← arg? x) (← g lo) (← g hi) (← g mx))
    | some .string => if mx.isSome then none else pure (.sslice (← arg? x) (← g lo) (← g hi))
    | _ => none
  | .call c => do
    let ags ← c.args.toList.mapM arg?
    match c.callee with
    | .value (.func f) => if okCall P f then pure (.call f ags) else
      match P.funcs[f]?, ags with
      | some fn, [x, y, c] => if isExt fn "math/bits.Add64" then pure (.carry false x y c) else if isExt fn "math/bits.Sub64" then pure (.carry true x y c) else none
      | _, _ => none
    | .value x => pure (.callv (← arg? x) ags)
    | .invoke _ _ => none
    | .builtin b =>
      match b, ags with
      | .len, [x] => match (c.argTypes[0]?).bind P.underlying with
        | some .string => pure (.len true x)
        | some (.slice _) => pure (.len false x)
        | some (.array n _) => pure (.lenc n)
        | _ => none
      | .append, [s, x] => match (c.argTypes[0]?).bind P.underlying, (c.argTypes[1]?).bind P.underlying with
        | some (.slice e), some (.slice e') => if P.cellsOf e = 0 || P.cellsOf e != P.cellsOf e' || P.bytesOf e = 0 || (zeroT P e).map List.length != some (P.cellsOf e) then none else pure (if mine then .appv (P.cellsOf e) (P.bytesOf e) s x else .append (P.cellsOf e) (P.bytesOf e) s x)
        | some (.slice e), some .string => if P.cellsOf e = 0 || P.bytesOf e = 0 || (zeroT P e).map List.length != some (P.cellsOf e) then none else pure (if mine then .appv (P.cellsOf e) (P.bytesOf e) s x else .append (P.cellsOf e) (P.bytesOf e) s x)
        | some (.slice e), some (.int _) => do let z ← zeroT P e; if P.cellsOf e = 0 || P.bytesOf e = 0 || z.length != P.cellsOf e then none else pure (.appz (P.cellsOf e) (P.bytesOf e) z s x)
        | _, _ => none
      | .copy, [d, s] => match (c.argTypes[0]?).bind P.underlying with
        | some (.slice e) => if P.cellsOf e = 0 then none else pure (.copy (P.cellsOf e) d s)
        | _ => none
      | .cap, [x] => match (c.argTypes[0]?).bind P.underlying with
        | some (.slice _) => pure (.cap x)
        | _ => none
      | .clear, [x] => match (c.argTypes[0]?).bind P.underlying with
        | some (.slice e) => do let z ← zeroT P e; if P.cellsOf e = 0 || z.length != P.cellsOf e then none else pure (.clear (P.cellsOf e) z x)
        | _ => none
      | .min, [x, y] => pure (.mn x y)
      | .max, [x, y] => pure (.mx x y)
      | _, _ => none
  | .panic _ => pure .dead
  | .sliceToArrayPointer t x => do
    match P.underlying t with
    | some (.array n e) => if P.cellsOf e = 0 || n = 0 then none else pure (.s2ap n (P.cellsOf e) (← arg? x))
    | _ => none
  | _ => none
def iop? (own : Nat → Bool) (ops : Array Oper) (o : Oper) : Option IOp := do
  let io ← op? P own o
  match o.guard with
  | none => pure ⟨o.dst, none, io⟩
  | some (j, want) => do
    let q ← ops[j]?
    let d ← q.dst
    pure ⟨o.dst, some (d, want), io⟩
def IC.ops (l : List IOp) (k : IC) : IC := l.foldr .op k
/-- What is read of the slots. -/
def IArg.uses : IArg → List Nat | .t n => [n] | _ => []
def Ins.args : Ins → List IArg
  | .mv x | .nilchk x | .un _ x | .conv _ x | .same x | .s2b _ x | .b2s x | .box x | .load _ _ x | .fld _ x | .part _ _ _ x | .ext x _ | .mkif _ x | .len _ x | .cap x | .clear _ _ x | .mark x | .isnil _ x | .s2ap _ _ x => [x]
  | .pick c a b | .carry _ c a b => [c, a, b]
  | .bin _ x y | .eqagg _ _ x y | .eq _ _ x y | .store _ x y | .idxa _ _ x y | .idx _ _ _ x y | .sidx x y | .mksl _ _ _ x y | .append _ _ x y | .appv _ _ x y | .appz _ _ _ x y | .copy _ x y | .mn x y | .mx x y => [x, y]
  | .alloc _ | .lenc _ | .dead => []
  | .build _ ps | .bslice _ _ _ _ ps => ps.map (·.2.2)
  | .mkfn _ a b => a ++ b
  | .slice _ _ x a b c => [x] ++ a.toList ++ b.toList ++ c.toList
  | .sslice x a b => [x] ++ a.toList ++ b.toList
  | .call _ ags => ags
  | .callv x ags => x :: ags
def IOp.uses (o : IOp) : List Nat := (o.o.args.flatMap IArg.uses) ++ (match o.g with | some (d, _) => [d] | none => [])
def ins (n : Nat) : List Nat → List Nat
  | [] => [n]
  | m :: r => if n < m then n :: m :: r else if n = m then m :: r else m :: ins n r
def union (a b : List Nat) : List Nat := a.foldl (fun s n => ins n s) b
def remove (n : Nat) (l : List Nat) : List Nat := l.filter (· != n)
/-- Slots that are live ahead of an operation. -/
def liveOps : List IOp → List Nat → List Nat
  | [], l => l
  | o :: r, l => let l' := liveOps r l; union o.uses (match o.d with | some d => remove d l' | none => l')
/-- An operation's class: 0: it doesn't look at the objects; 1: it reads them; 2: it turns them. 'pf': functions that turn nothing. -/
structure Pf where
  f : FuncId → Bool
  v : Bool
  c : TypeId → Bool
def Ins.cls (pf : Pf) : Ins → Nat
  | .alloc _ | .box _ | .bslice true .. | .s2b true _ | .store .. | .mksl .. | .append .. | .copy .. | .clear .. | .appz .. => 2
  | .call f _ => if pf.f f then 1 else 2
  | .callv .. => if pf.v then 1 else 2
  | .load .. | .b2s _ | .slice .. | .mark _ | .appv .. => 1
  | _ => 0
/-- May two operations of a region come in either order? -/
def commB (pf : Pf) (a b : IOp) : Bool :=
  (a.o.cls pf == 0 || b.o.cls pf == 0 || (a.o.cls pf == 1 && b.o.cls pf == 1)) &&
  (match a.d with | some d => !(b.uses.contains d) && b.d != some d | none => true) &&
  (match b.d with | some d => !(a.uses.contains d) | none => true)
def forceL : List Nat → List Nat → (List Nat → Bool) → Bool
  | [], acc, k => k acc.reverse
  | a :: r, acc, k => CheckFast.force a fun v => forceL r (v :: acc) k
theorem forceL_eq : ∀ (l acc : List Nat) (k : List Nat → Bool), forceL l acc k = k (acc.reverse ++ l)
  | [], acc, k => by simp [forceL]
  | a :: r, acc, k => by rw [forceL, CheckFast.force_eq, forceL_eq r (a :: acc) k]; simp
/-- Each operation's number tells which others come first; any two others may change places. -/
def drawAt (pf : Pf) (ops : Array Oper) (l : List IOp) (bl : List Nat) : Bool :=
  (List.range l.length).all fun j => (match ops[j]? with
    | some o => bl.getD j 0 == CheckFast.one (fun i => bl.getD i 0) o && o.after.toList.all (fun e => !Region.binds .any e || decide (e.on < j))
    | none => false) && (List.range j).all fun i => (bl.getD j 0).testBit i || commB pf (l.getD i default) (l.getD j default)
def drawOk (pf : Pf) (ops : Array Oper) (l : List IOp) : Bool :=
  decide (l.length = ops.size) && forceL (CheckFast.beforeL ops.toList 0 []) [] (drawAt pf ops l)
def forceG {β : Type} : List Nat → List Nat → (List Nat → β) → β
  | [], acc, k => k acc.reverse
  | a :: r, acc, k => CheckFast.force a fun v => forceG r (v :: acc) k
theorem forceG_eq {β : Type} : ∀ (l acc : List Nat) (k : List Nat → β), forceG l acc k = k (acc.reverse ++ l)
  | [], acc, k => by simp [forceG]
  | a :: r, acc, k => by rw [forceG, CheckFast.force_eq, forceG_eq r (a :: acc) k]; simp
/-! ### Drawn regions that make objects -/
def adr? : Ins → Option IArg
  | .load _ _ x => some x
  | .store _ a _ => some a
  | .slice _ _ x _ _ _ => some x
  | .append _ _ s _ => some s
  | _ => none
def adrD (i : Ins) : IArg := (adr? i).getD (.c .nilFunc)
def isLd : Ins → Bool
  | .load .. => true
  | _ => false
def isSt : Ins → Bool
  | .store .. => true
  | _ => false
def isSl : Ins → Bool
  | .slice .. => true
  | _ => false
def isAp : Ins → Bool
  | .append .. => true
  | _ => false
def isNew (l : List IOp) : Ins → Bool
  | .alloc _ | .box _ | .mksl .. | .bslice true .. => true
  | .append _ _ s _ => match s with
    | .c (.slice none 0 0) => true
    | .t n => l.any fun o => o.d == some n && (match o.o with | .bslice false _ 0 _ [] => true | _ => false)
    | _ => false
  | _ => false
def newN (l : List IOp) (j : Nat) : Nat := ((l.take j).filter fun o => isNew l o.o && o.g.isNone).length
def kd0 (pf : Pf) (l : List IOp) (bl : List Nat) (j : Nat) : Kd :=
  let o := l.getD j default
  if isNew l o.o && o.g.isNone then .a (newN l j)
  else if decide (o.o.cls pf ≤ 1) && (List.range j).all (fun i => !((bl.getD j 0).testBit i) || decide ((l.getD i default).o.cls pf ≤ 1)) then .e else .l
/-- Does an address lead to an object of the region's own? -/
def newAdr (l : List IOp) : IArg → Bool
  | .t n => l.any fun o => o.d == some n && (isNew l o.o || (match o.o with | .fld _ (.t m) => l.any fun q => q.d == some m && isNew l q.o | _ => false))
  | _ => false
/-- Is there an early operation that looks at objects, in no order with this one? -/
def loose (pf : Pf) (l : List IOp) (bl : List Nat) (j : Nat) : Bool :=
  (List.range l.length).any fun i => (l.getD i default).o.cls pf == 1 && (if i < j then !((bl.getD j 0).testBit i) else decide (j < i) && !((bl.getD i 0).testBit j)) && (match kd0 pf l bl i with | .e => true | _ => false)
def kdOf (pf : Pf) (l : List IOp) (bl : List Nat) (j : Nat) : Kd :=
  match kd0 pf l bl j with
  | .l => match (l.getD j default).o with
    | .call f _ => if !pf.f f && loose pf l bl j then .m else .l
    | .callv .. => if !pf.v && loose pf l bl j then .m else .l
    | .store _ a _ => if newAdr l a && loose pf l bl j then .m else .l
    | .append .. => if loose pf l bl j then .w else .l
    | _ => .l
  | k => k
def noDs : Kd → Bool
  | .m | .a _ => true
  | _ => false
def dsOf (pf : Pf) (l : List IOp) (bl : List Nat) (j : Nat) : List IArg :=
  let o := l.getD j default
  if noDs (kdOf pf l bl j) then [] else
  (List.range j).filterMap fun i => if !((bl.getD j 0).testBit i) && (((isLd o.o && isSt (l.getD i default).o) || (isSt o.o && isLd (l.getD i default).o)) || ((isLd o.o || isSl o.o) && isAp (l.getD i default).o) || (isAp o.o && (isLd (l.getD i default).o || isSl (l.getD i default).o))) && !noDs (kdOf pf l bl i) then adr? (l.getD i default).o else none
def RA.uses (x : RA) : List Nat := x.o.uses ++ x.ds.flatMap IArg.uses
def sameT : IArg → IArg → Bool
  | .t m, .t n => m == n
  | _, _ => false
def commR (pf : Pf) (x y : RA) : Bool :=
  (x.o.o.cls pf == 0 || y.o.o.cls pf == 0 || (match x.k, y.k with
    | .e, .e | .e, .a _ | .a _, .e | .e, .m | .m, .e => true
    | .e, .w => (isLd x.o.o || isSl x.o.o) && isAp y.o.o && y.ds.any (sameT (adrD x.o.o))
    | .w, .e => isAp x.o.o && (isLd y.o.o || isSl y.o.o) && y.ds.any (sameT (adrD x.o.o))
    | .a r, .a s => r != s
    | .l, .l | .l, .e | .e, .l => (decide (x.o.o.cls pf ≤ 1) && decide (y.o.o.cls pf ≤ 1)) || (((isLd x.o.o && isSt y.o.o) || (isSt x.o.o && isLd y.o.o)) && y.ds.any (sameT (adrD x.o.o)))
    | _, _ => false)) &&
  (match x.o.d with | some d => !(y.o.uses.contains d) && y.o.d != some d | none => true) &&
  (match y.o.d with | some d => !(x.uses.contains d) | none => true)
/-- What y writes is not the slot of x's address. -/
def adrFix (x y : RA) : Bool := match y.o.d with | some d => !((adrD x.o.o).uses.contains d) | none => true
def rasOf (pf : Pf) (l : List IOp) (bl : List Nat) : List RA := (List.range l.length).map fun j => ⟨l.getD j default, kdOf pf l bl j, dsOf pf l bl j⟩
def drawRAt (pf : Pf) (ops : Array Oper) (l : List RA) (bl : List Nat) : Bool :=
  (List.range l.length).all fun j => (match ops[j]? with
    | some o => bl.getD j 0 == CheckFast.one (fun i => bl.getD i 0) o && o.after.toList.all (fun e => !Region.binds .any e || decide (e.on < j))
    | none => false) && ((match (l.getD j default).k with | .e => decide ((l.getD j default).o.o.cls pf ≤ 1) | .w => isAp (l.getD j default).o.o | _ => true) && ((List.range (j + 1)).all fun i => adrFix (l.getD i default) (l.getD j default)) && (List.range j).all fun i => (bl.getD j 0).testBit i || commR pf (l.getD i default) (l.getD j default))
structure Ctx where
  pf : Pf
  own : Nat → Bool
  n : Nat
  rl : List Nat
/-- Code, ahead of a continuation (with the slots that are live there). -/
def comp (P : Program) (X : Ctx) : Code → List (Nat × List Nat) → IC × List Nat → Option (IC × List Nat)
  | .skip, _, k | .label _, _, k => some k
  | .seq a b, ex, k => (comp P X b ex k).bind (comp P X a ex)
  | .region _ ops draw, _, k => do
    let l ← ops.toList.mapM (iop? P X.own ops)
    if l.all (fun o => match o.d with | some d => decide (d < X.n) | none => true) && l.all (fun o => o.g.isNone || decide (o.o.cls X.pf ≤ 1)) && (!draw || drawOk X.pf ops l) then
      some (IC.ops l (.keep k.2 k.1), liveOps l k.2) else
    if l.all (fun o => match o.d with | some d => decide (d < X.n) | none => true) && l.all (fun o => o.g.isNone || decide (o.o.cls X.pf ≤ 1)) && decide (l.length = ops.size) then
      forceG (CheckFast.beforeL ops.toList 0 []) [] fun bl => if drawRAt X.pf ops (rasOf X.pf l bl) bl then some (.reg (newN l l.length) (rasOf X.pf l bl) (.keep k.2 k.1), liveOps l k.2) else none
    else none
  | .cond c a b, ex, k => do
    let x ← arg? c
    let (a', la) ← comp P X a ex (.done, k.2)
    let (b', lb) ← comp P X b ex (.done, k.2)
    some (.ite x a' b' k.1, union x.uses (union la lb))
  | .block id b, ex, k => do
    let (b', lb) ← comp P X b ((id, k.2) :: ex) (.done, k.2)
    some (.block id b' k.1, lb)
  | .loop b, ex, _ => do
    let (_, l1) ← comp P X b ex (.done, [])
    let (_, l2) ← comp P X b ex (.done, l1)
    let (_, l3) ← comp P X b ex (.done, l2)
    let (b', _) ← comp P X b ex (.keep l3 .done, l3)
    some (.keep l3 (.loop b'), l3)
  | .exit id, ex, _ => some (.exit id, ((ex.find? (·.1 == id)).map (·.2)).getD [])
  | .ret, _, _ => some (.ret, X.rl)
  | _, _, _ => none
def resL (rs : Array ResultVar) : List Nat := rs.toList.foldl (fun s r => match r with | .tmp t => ins t s | .cell a _ => ins a s) []
/-- A function's code. -/
def compF (P : Program) (pf : Pf) (own : Nat → Bool) (fn : Func) : Option IC :=
  match fn.body with
  | some c => (comp P ⟨pf, own, fn.ntmps, resL fn.results⟩ c [] (.ret, resL fn.results)).map (·.1)
  | none => none
end
end Go.Proofs.Ytgfploghjpbcaaa.Eng

/- The abstract machine: values without addresses, objects by number, code with what is static worked out. -/
import Derived.Test.YtcgjlpdkobmpnaaGreatProg
import Derived.Deep.AppendSrc
import Derived.Deep.MidRow
import Derived.Deep.WholeRow
import Derived.Laws.MakeOwn
import Derived.Laws.IdiomStrings
import Derived.Laws.BytesString
import Derived.Laws.Strings
import Derived.Orders
import Derived.CheckFast
import Derived.Great.BuildSlice
import Derived.Laws.Tables
import Derived.KernelRfl
namespace Go.Proofs.YtcgjlpdkobmpnaaGreat.Eng
open Go
inductive AV where
 | lit (v:Value)
 | ptr (id off:Nat)
 | rptr (id off L:Nat)
 | vptr (cs:List AV)
 | row (id off n L:Nat)
 | view (cs:List AV) (n:Nat) (full:Bool)
 | fn (f:Fn) (first cap:List AV)
 | agg (cs:List AV)
 | tup (vs:List AV)
 | may (g:Bool) (v:AV)
 | anyb
 | junk
 deriving Inhabited
structure AObj where
 cs:List AV
 sz:Nat
 rw:Bool
 deriving Inhabited
abbrev AH:=List AObj
abbrev Env:=Nat→AV
inductive IArg where
 | t (n:Nat)
 | c (v:Value)
 | f (n:FuncId)
 deriving Inhabited
inductive TK where
 | b | i | p | s | f
 deriving Inhabited,DecidableEq
inductive Ins where
 | mv (x:IArg)
 | pick (c a b:IArg)
 | nilchk (x:IArg)
 | bin (op:BinOp) (x y:IArg)
 | eqagg (ks:List (Option IntKind)) (neq:Bool) (x y:IArg)
 | eq (neq:Bool) (tk:TK) (x y:IArg)
 | un (op:UnOp) (x:IArg)
 | conv (k:IntKind) (x:IArg)
 | same (x:IArg)
 | s2b (own:Bool) (x:IArg)
 | b2s (x:IArg)
 | alloc (zero:List Value)
 | box (x:IArg)
 | build (zero:List Value) (parts:List (Nat × Nat × IArg))
 | bslice (own:Bool) (sz len:Nat) (zero:List Value) (parts:List (Nat × Nat × IArg))
 | load (agg:Bool) (k:Nat) (x:IArg)
 | store (k:Nat) (a x:IArg)
 | fld (off:Nat) (x:IArg)
 | part (agg:Bool) (k off:Nat) (x:IArg)
 | idxa (sz:Nat) (arr:Option Nat) (x i:IArg)
 | idx (agg:Bool) (k len:Nat) (x i:IArg)
 | sidx (x i:IArg)
 | ext (x:IArg) (i:Nat)
 | mkif (t:TypeId) (x:IArg)
 | mkfn (f:Fn) (first cap:List IArg)
 | mksl (sz bytes:Nat) (zero:List Value) (l c:IArg)
 | slice (sz:Nat) (arr:Option Nat) (x:IArg) (lo hi mx:Option IArg)
 | sslice (x:IArg) (lo hi:Option IArg)
 | call (f:FuncId) (args:List IArg)
 | callv (x:IArg) (args:List IArg)
 | append (sz bytes:Nat) (s x:IArg)
 | copy (sz:Nat) (d s:IArg)
 | len (str:Bool) (x:IArg)
 | cap (x:IArg)
 | mark (x:IArg)
 | dead
 | isnil (neq:Bool) (x:IArg)
 | carry (sub:Bool) (x y c:IArg)
 | s2ap (len sz:Nat) (x:IArg)
 | appz (sz bytes:Nat) (z:List Value) (s n:IArg)
 | appv (sz bytes:Nat) (s x:IArg)
 | clear (sz:Nat) (z:List Value) (x:IArg)
 | lenc (n:Nat)
 | mn (x y:IArg)
 | mx (x y:IArg)
 deriving Inhabited
structure IOp where
 d:Option Nat
 g:Option (Nat × Bool)
 o:Ins
 deriving Inhabited
inductive Kd where
 | e
 | a (r:Nat)
 | l
 | m
 | w
 | f (n:Nat)
 deriving Inhabited
structure RA where
 o:IOp
 k:Kd
 ds:List IArg
 deriving Inhabited
inductive IC where
 | done
 | op (o:IOp) (k:IC)
 | keep (l:List Nat) (k:IC)
 | reg (n:Nat) (l:List RA) (k:IC)
 | ite (c:IArg) (a b:IC) (k:IC)
 | block (id:Nat) (b:IC) (k:IC)
 | loop (b:IC)
 | exit (id:Nat)
 | ret
 deriving Inhabited
def q (d:Nat) (o:Ins) (k:IC):IC:=.op ⟨some d,none,o⟩ k
def qn (o:Ins) (k:IC):IC:=.op ⟨none,none,o⟩ k
def qg (d j:Nat) (w:Bool) (o:Ins) (k:IC):IC:=.op ⟨some d,some (j,w),o⟩ k
abbrev ci (n:Int):IArg:=.c (.int .i64 n)
abbrev cb (b:Bool):IArg:=.c (.bool b)
abbrev Qm (d x:Nat) (k:IC):IC:=q d (.mv (.t x)) k
abbrev Ql (d n x:Nat) (k:IC):IC:=q d (.load false n (.t x)) k
abbrev Qa (d n x:Nat) (k:IC):IC:=q d (.load true n (.t x)) k
abbrev Qf (d n x:Nat) (k:IC):IC:=q d (.fld n (.t x)) k
abbrev Qs (n a x:Nat) (k:IC):IC:=qn (.store n (.t a) (.t x)) k
abbrev Qe (d x i:Nat) (k:IC):IC:=q d (.ext (.t x) i) k
abbrev Qo (d c x:Nat) (k:IC):IC:=q d (.pick (.t c) (cb true) (.t x)) k
abbrev Qk (d c x:Nat) (k:IC):IC:=q d (.pick (.t c) (.t x) (cb false)) k
abbrev Qw (d x:Nat) (k:IC):IC:=q d (.len false (.t x)) k
abbrev Qb (d x:Nat) (k:IC):IC:=q d (.box (.t x)) k
abbrev Gm (d j:Nat) (w:Bool) (x:Nat) (k:IC):IC:=qg d j w (.mv (.t x)) k
abbrev Gl (d j:Nat) (w:Bool) (n x:Nat) (k:IC):IC:=qg d j w (.load false n (.t x)) k
abbrev Ga (d j:Nat) (w:Bool) (n x:Nat) (k:IC):IC:=qg d j w (.load true n (.t x)) k
abbrev Gf (d j:Nat) (w:Bool) (n x:Nat) (k:IC):IC:=qg d j w (.fld n (.t x)) k
abbrev zR:List Value:=[.int .i64 0,.int .i64 0,.int .i64 0,.int .i64 0,.int .i64 0,.int .i64 0,.int .i64 0,.int .i64 0,.int .u8 0,.int .u8 0,.int .u8 0,.int .u8 0,.int .u8 0,.int .u8 0,.int .u8 0,.int .u8 0,.int .u8 0,.int .u8 0,.int .u8 0,.int .u8 0,.int .u8 0,.int .u8 0,.int .u8 0,.int .u8 0,.int .u8 0,.int .u8 0,.int .u8 0,.int .u8 0,.int .u8 0,.int .u8 0,.int .u8 0,.int .u8 0,.int .u8 0,.int .u8 0,.int .u8 0,.int .u8 0,.int .u8 0,.int .u8 0,.int .u8 0,.int .u8 0,.slice none 0 0]
/-! ### From the model's code -/
section
variable (P:Program)
def arg? : Operand→Option IArg
 | .tmp t => some (.t t)
 | .const v => some (.c v)
 | .func f => some (.f f)
 | .global _ => none
def Yk (t:TypeId):Bool:=match P.underlying t with | some (.struct _) | some (.array _ _) => true | _ => false
def S1 (t:TypeId):Option (List Value):=((P.info? t).bind (·.zero)).map (·.cells.toList)
def addK (flat:TypeId→Option (List (Option IntKind))):Option (List (Option IntKind))→Field→Option (List (Option IntKind))
 | some l,f => if f.name = "_" || f.offset != l.length then none else (flat f.type).map (l++·)
 | none,_ => none
def Lj:Nat→TypeId→Option (List (Option IntKind))
 | 0,_ => none
 | d+1,t => match P.underlying t with
  | some .bool => if P.cellsOf t=1 then some [none] else none
  | some (.int k) => if P.cellsOf t=1 then some [some k] else none
  | some (.array n e) => (Lj d e).bind fun ks => if P.cellsOf t=n*ks.length&&n != 0 then some (List.replicate n ks).flatten else none
  | some (.struct fs) => if P.stoodInHeld t then none else (fs.toList.foldl (addK (Lj d)) (some [])).bind fun ks => if P.cellsOf t=ks.length&&!ks.isEmpty then some ks else none
  | _ => none
def Hm (f:FuncId):Bool:=match P.funcs[f]? with | some fn => fn.name != "runtime.NumGoroutine"&&fn.body.isSome | none => false
def Fq (fn:Func) (n:String):Bool:=fn.body.isNone&&fn.name == n&&fn.origin == ""
def parts? (place:Nat→Option (Nat × Nat)) (ps:Array (Nat × Operand)):Option (List (Nat × Nat × IArg)) :=
 ps.toList.mapM fun (i,x) => do let (o,k) ← place i; let y ← arg? x; pure (o,k,y)
def op? (own:Nat→Bool) (o:Oper):Option Ins :=
 let mine:=match o.dst with | some d => own d | none => false
 match o.op with
 | .move x | .assign x => do pure (.mv (← arg? x))
 | .pick c a b => do pure (.pick (← arg? c) (← arg? a) (← arg? b))
 | .nilCheck x => do pure (.nilchk (← arg? x))
 | .binOp op t x y _ => do
  let x' ← arg? x; let y' ← arg? y
  if Yk P t then
   if P.eqGuardType P.depth t then none else
   let ks ← Lj P 20 t
   (match op with | .eql => pure (.eqagg ks false x' y') | .neq => pure (.eqagg ks true x' y') | _ => none)
  else match P.underlying t,op with
   | some (.int _),_ | some .string,_ => pure (.bin op x' y')
   | some .bool,.eql => pure (.eq false .b x' y')
   | some .bool,.neq => pure (.eq true .b x' y')
   | some (.interface _),.eql => pure (.eq false .i x' y')
   | some (.interface _),.neq => pure (.eq true .i x' y')
   | some (.pointer _),.eql => pure (.eq false .p x' y')
   | some (.pointer _),.neq => pure (.eq true .p x' y')
   | some (.slice _),.eql => match y with | .const (.slice none 0 0) => pure (.isnil false x') | _ => none
   | some (.slice _),.neq => match y with | .const (.slice none 0 0) => pure (.isnil true x') | _ => none
   | some (.func ..),.eql => pure (.eq false .f x' y')
   | some (.func ..),.neq => pure (.eq true .f x' y')
   | _,_ => none
 | .unOp op _ x => do pure (.un op (← arg? x))
 | .convert s d x => do
  let x' ← arg? x
  match P.underlying s,P.underlying d with
  | some (.int _),some (.int k) => pure (.conv k x')
  | some .string,some .string => pure (.same x')
  | some .string,some (.slice e) => if P.underlying e matches some (.int .u8) then pure (.s2b mine x') else none
  | some (.slice e),some .string => if P.underlying e matches some (.int .u8) then pure (.b2s x') else none
  | some (.slice e),some (.slice _) => if s == d&&(P.underlying e matches some (.int .u8)) then pure (.mark x') else none
  | _,_ => none
 | .alloc t => do let z ← S1 P t; if z.isEmpty then none else pure (.alloc z)
 | .box _ x => do pure (.box (← arg? x))
 | .build t ps => do
  let z ← S1 P t
  match P.underlying t with
  | some (.struct fs) => if fs.toList.all (fun f => (P.info? f.type).isSome) then pure (.build z (← parts? (fun i => (fs[i]?).map fun f => (f.offset,P.cellsOf f.type)) ps)) else none
  | some (.array _ e) => if P.cellsOf e=0 then none else pure (.build z (← parts? (fun i => some (i*P.cellsOf e,P.cellsOf e)) ps))
  | _ => none
 | .buildSlice t len ps => do
  match P.underlying t with
  | some (.slice e) =>
   let z ← S1 P e
   if P.cellsOf e=0 || len*P.cellsOf e > 2^24 || z.length != P.cellsOf e then none
   else pure (.bslice mine (P.cellsOf e) len z (← parts? (fun i => some (i*P.cellsOf e,P.cellsOf e)) ps))
  | _ => none
 | .load t a => do if P.cellsOf t=0 || (P.underlying t).isNone then none else pure (.load (Yk P t) (P.cellsOf t) (← arg? a))
 | .store t a x => do if P.cellsOf t=0 then none else pure (.store (P.cellsOf t) (← arg? a) (← arg? x))
 | .fieldAddr t x i => do
  match P.underlying t with
  | some (.struct fs) => match fs[i]? with
   | some f => if P.cellsOf f.type=0 then none else pure (.fld f.offset (← arg? x))
   | none => none
  | _ => none
 | .field t x i => do
  match P.underlying t with
  | some (.struct fs) => match fs[i]? with
   | some f => if P.cellsOf f.type=0 || (P.underlying f.type).isNone then none else pure (.part (Yk P f.type) (P.cellsOf f.type) f.offset (← arg? x))
   | none => none
  | _ => none
 | .indexAddr t x i => do
  match P.underlying t with
  | some (.slice e) => if P.cellsOf e=0 then none else pure (.idxa (P.cellsOf e) none (← arg? x) (← arg? i))
  | some (.array n e) => if P.cellsOf e=0 then none else pure (.idxa (P.cellsOf e) (some n) (← arg? x) (← arg? i))
  | _ => none
 | .index t x i => do
  match P.underlying t with
  | some (.array n e) => if P.cellsOf e=0 || (P.underlying e).isNone || !(Yk P e || P.cellsOf e=1) then none else pure (.idx (Yk P e) (P.cellsOf e) n (← arg? x) (← arg? i))
  | some .string => pure (.sidx (← arg? x) (← arg? i))
  | _ => none
 | .extract x i => do pure (.ext (← arg? x) i)
 | .makeInterface t x => do
  match P.underlying t with
  | some (.int _) | some .bool | some .string => pure (.mkif t (← arg? x))
  | _ => none
 | .makeFunc f first cap => do pure (.mkfn f (← first.toList.mapM arg?) (← cap.toList.mapM arg?))
 | .makeSlice t l c => do
  match P.underlying t with
  | some (.slice e) => let z ← S1 P e; if P.cellsOf e=0 || z.length != P.cellsOf e then none else pure (.mksl (P.cellsOf e) (P.bytesOf e) z (← arg? l) (← arg? c))
  | _ => none
 | .slice t x lo hi mx => do
  let g:Option Operand→Option (Option IArg):=fun y => match y with | none => some none | some z => (arg? z).map some
  match P.underlying t with
  | some (.slice e) => if P.cellsOf e=0 then none else pure (.slice (P.cellsOf e) none (← arg? x) (← g lo) (← g hi) (← g mx))
  | some (.array n e) => if P.cellsOf e=0 then none else pure (.slice (P.cellsOf e) (some n) (← arg? x) (← g lo) (← g hi) (← g mx))
  | some .string => if mx.isSome then none else pure (.sslice (← arg? x) (← g lo) (← g hi))
  | _ => none
 | .call c => do
  let ags ← c.args.toList.mapM arg?
  match c.callee with
  | .value (.func f) => if Hm P f then pure (.call f ags) else
   match P.funcs[f]?,ags with
   | some fn,[x,y,c] => if Fq fn "math/bits.Add64" then pure (.carry false x y c) else if Fq fn "math/bits.Sub64" then pure (.carry true x y c) else none
   | _,_ => none
  | .value x => pure (.callv (← arg? x) ags)
  | .invoke _ _ => none
  | .builtin b =>
   match b,ags with
   | .len,[x] => match (c.argTypes[0]?).bind P.underlying with
    | some .string => pure (.len true x)
    | some (.slice _) => pure (.len false x)
    | some (.array n _) => pure (.lenc n)
    | _ => none
   | .append,[s,x] => match (c.argTypes[0]?).bind P.underlying,(c.argTypes[1]?).bind P.underlying with
    | some (.slice e),some (.slice e') => if P.cellsOf e=0 || P.cellsOf e != P.cellsOf e' || P.bytesOf e=0 || (S1 P e).map List.length != some (P.cellsOf e) then none else pure (if mine then .appv (P.cellsOf e) (P.bytesOf e) s x else .append (P.cellsOf e) (P.bytesOf e) s x)
    | some (.slice e),some .string => if P.cellsOf e=0 || P.bytesOf e=0 || (S1 P e).map List.length != some (P.cellsOf e) then none else pure (if mine then .appv (P.cellsOf e) (P.bytesOf e) s x else .append (P.cellsOf e) (P.bytesOf e) s x)
    | some (.slice e),some (.int _) => do let z ← S1 P e; if P.cellsOf e=0 || P.bytesOf e=0 || z.length != P.cellsOf e then none else pure (.appz (P.cellsOf e) (P.bytesOf e) z s x)
    | _,_ => none
   | .copy,[d,s] => match (c.argTypes[0]?).bind P.underlying with
    | some (.slice e) => if P.cellsOf e=0 then none else pure (.copy (P.cellsOf e) d s)
    | _ => none
   | .cap,[x] => match (c.argTypes[0]?).bind P.underlying with
    | some (.slice _) => pure (.cap x)
    | _ => none
   | .clear,[x] => match (c.argTypes[0]?).bind P.underlying with
    | some (.slice e) => do let z ← S1 P e; if P.cellsOf e=0 || z.length != P.cellsOf e then none else pure (.clear (P.cellsOf e) z x)
    | _ => none
   | .min,[x,y] => pure (.mn x y)
   | .max,[x,y] => pure (.mx x y)
   | _,_ => none
 | .panic _ => pure .dead
 | .sliceToArrayPointer t x => do
  match P.underlying t with
  | some (.array n e) => if P.cellsOf e=0 || n=0 then none else pure (.s2ap n (P.cellsOf e) (← arg? x))
  | _ => none
 | _ => none
def iop? (own:Nat→Bool) (ops:Array Oper) (o:Oper):Option IOp:=do
 let io ← op? P own o
 match o.guard with
 | none => pure ⟨o.dst,none,io⟩
 | some (j,want) => do
  let q ← ops[j]?
  let d ← q.dst
  pure ⟨o.dst,some (d,want),io⟩
def IC.ops (l:List IOp) (k:IC):IC:=l.foldr .op k
def IArg.uses:IArg→List Nat | .t n => [n] | _ => []
def Ins.args:Ins→List IArg
 | .mv x | .nilchk x | .un _ x | .conv _ x | .same x | .s2b _ x | .b2s x | .box x | .load _ _ x | .fld _ x | .part _ _ _ x | .ext x _ | .mkif _ x | .len _ x | .cap x | .clear _ _ x | .mark x | .isnil _ x | .s2ap _ _ x => [x]
 | .pick c a b | .carry _ c a b => [c,a,b]
 | .bin _ x y | .eqagg _ _ x y | .eq _ _ x y | .store _ x y | .idxa _ _ x y | .idx _ _ _ x y | .sidx x y | .mksl _ _ _ x y | .append _ _ x y | .appv _ _ x y | .appz _ _ _ x y | .copy _ x y | .mn x y | .mx x y => [x,y]
 | .alloc _ | .lenc _ | .dead => []
 | .build _ ps | .bslice _ _ _ _ ps => ps.map (·.2.2)
 | .mkfn _ a b => a++b
 | .slice _ _ x a b c => [x]++a.toList++b.toList++c.toList
 | .sslice x a b => [x]++a.toList++b.toList
 | .call _ ags => ags
 | .callv x ags => x::ags
def IOp.uses (o:IOp):List Nat:=(o.o.args.flatMap IArg.uses)++(match o.g with | some (d,_) => [d] | none => [])
def ins (n:Nat):List Nat→List Nat
 | [] => [n]
 | m::r => if n<m then n::m::r else if n=m then m::r else m::ins n r
def union (a b:List Nat):List Nat:=a.foldl (fun s n => ins n s) b
def remove (n:Nat) (l:List Nat):List Nat:=l.filter (· != n)
def Hv:List IOp→List Nat→List Nat
 | [],l => l
 | o::r,l => let l':=Hv r l; union o.uses (match o.d with | some d => remove d l' | none => l')
structure Pf where
 f:FuncId→Bool
 v:Bool
 c:TypeId→Bool
def Ins.cls (pf:Pf):Ins→Nat
 | .alloc _ | .box _ | .bslice true .. | .s2b true _ | .store .. | .mksl .. | .append .. | .copy .. | .clear .. | .appz .. => 2
 | .call f _ => if pf.f f then 1 else 2
 | .callv .. => if pf.v then 1 else 2
 | .load .. | .b2s _ | .slice .. | .mark _ | .appv .. => 1
 | _ => 0
def Ziq (pf:Pf) (a b:IOp):Bool :=
 (a.o.cls pf == 0 || b.o.cls pf == 0 || (a.o.cls pf == 1&&b.o.cls pf == 1)) &&
 (match a.d with | some d => !(b.uses.contains d)&&b.d != some d | none => true) &&
 (match b.d with | some d => !(a.uses.contains d) | none => true)
def Aq:List Nat→List Nat→(List Nat→Bool)→Bool
 | [],acc,k => k acc.reverse
 | a::r,acc,k => CheckFast.force a fun v => Aq r (v::acc) k
theorem Ap:∀ (l acc:List Nat) (k:List Nat→Bool),Aq l acc k=k (acc.reverse++l)
 | [],acc,k => by simp [Aq]
 | a::r,acc,k => by rw [Aq,CheckFast.force_eq,Ap r (a::acc) k]; simp
def Zuo (pf:Pf) (ops:Array Oper) (l:List IOp) (bl:List Nat):Bool :=
 (List.range l.length).all fun j => (match ops[j]? with
  | some o => bl.getD j 0 == CheckFast.one (fun i => bl.getD i 0) o&&o.after.toList.all (fun e => !Region.binds .any e || decide (e.on<j))
  | none => false)&&(List.range j).all fun i => (bl.getD j 0).testBit i || Ziq pf (l.getD i default) (l.getD j default)
def Zn1 (pf:Pf) (ops:Array Oper) (l:List IOp):Bool :=
 decide (l.length=ops.size)&&Aq (CheckFast.beforeL ops.toList 0 []) [] (Zuo pf ops l)
def Ug {β:Type}:List Nat→List Nat→(List Nat→β)→β
 | [],acc,k => k acc.reverse
 | a::r,acc,k => CheckFast.force a fun v => Ug r (v::acc) k
theorem Gt {β:Type}:∀ (l acc:List Nat) (k:List Nat→β),Ug l acc k=k (acc.reverse++l)
 | [],acc,k => by simp [Ug]
 | a::r,acc,k => by rw [Ug,CheckFast.force_eq,Gt r (a::acc) k]; simp
/-! ### Drawn regions that make objects -/
def adr? : Ins→Option IArg
 | .load _ _ x => some x
 | .store _ a _ => some a
 | .slice _ _ x _ _ _ => some x
 | .append _ _ s _ => some s
 | _ => none
def adrD (i:Ins):IArg:=(adr? i).getD (.c .nilFunc)
def isLd:Ins→Bool
 | .load .. => true
 | _ => false
def isSt:Ins→Bool
 | .store .. => true
 | _ => false
def isSl:Ins→Bool
 | .slice .. => true
 | _ => false
def isAp:Ins→Bool
 | .append .. => true
 | _ => false
def isAl:Ins→Bool
 | .alloc _ => true
 | _ => false
def apSz:Ins→Bool
 | .append sz _ _ _ => sz != 0
 | _ => false
def Zhp (l:List IOp):Ins→Bool
 | .alloc _ | .box _ | .mksl .. | .bslice true .. => true
 | .append _ _ s _ => match s with
  | .c (.slice none 0 0) => true
  | .t n => l.any fun o => o.d == some n&&(match o.o with | .bslice false _ 0 _ [] => true | _ => false)
  | _ => false
 | _ => false
def newN (l:List IOp) (j:Nat):Nat:=((l.take j).filter fun o => Zhp l o.o&&o.g.isNone).length
def kd0 (pf:Pf) (l:List IOp) (bl:List Nat) (j:Nat):Kd :=
 let o:=l.getD j default
 if Zhp l o.o&&o.g.isNone then .a (newN l j)
 else if decide (o.o.cls pf≤1)&&(List.range j).all (fun i => !((bl.getD j 0).testBit i) || decide ((l.getD i default).o.cls pf≤1)) then .e else .l
def Z11 (l:List IOp):IArg→Bool
 | .t n => l.any fun o => o.d == some n&&(Zhp l o.o || (match o.o with | .fld _ (.t m) => l.any fun q => q.d == some m&&Zhp l q.o | _ => false))
 | _ => false
def loose (pf:Pf) (l:List IOp) (bl:List Nat) (j:Nat):Bool :=
 (List.range l.length).any fun i => (l.getD i default).o.cls pf == 1&&(if i<j then !((bl.getD j 0).testBit i) else decide (j<i)&&!((bl.getD i 0).testBit j))&&(match kd0 pf l bl i with | .e => true | _ => false)
def kdOf (pf:Pf) (l:List IOp) (bl:List Nat) (j:Nat):Kd :=
 match kd0 pf l bl j with
 | .l => match (l.getD j default).o with
  | .call f _ => if !pf.f f&&loose pf l bl j then .m else .l
  | .callv .. => if !pf.v&&loose pf l bl j then .m else .l
  | .store _ a _ => if Z11 l a&&loose pf l bl j then .m else .l
  | .append .. => if loose pf l bl j then .w else .l
  | _ => .l
 | k => k
def noDs:Kd→Bool
 | .m | .a _ => true
 | _ => false
def dsOf (pf:Pf) (l:List IOp) (bl:List Nat) (j:Nat):List IArg :=
 let o:=l.getD j default
 if noDs (kdOf pf l bl j) then [] else
 (List.range j).filterMap fun i => if !((bl.getD j 0).testBit i)&&(((isLd o.o&&isSt (l.getD i default).o) || (isSt o.o&&isLd (l.getD i default).o)) || ((isLd o.o || isSl o.o)&&isAp (l.getD i default).o) || (isAp o.o&&(isLd (l.getD i default).o || isSl (l.getD i default).o)))&&!noDs (kdOf pf l bl i) then adr? (l.getD i default).o else none
def RA.uses (x:RA):List Nat:=x.o.uses++x.ds.flatMap IArg.uses
def Bq:IArg→IArg→Bool
 | .t m,.t n => m == n
 | _,_ => false
def Zc9 (pf:Pf) (x y:RA):Bool :=
 (x.o.o.cls pf == 0 || y.o.o.cls pf == 0 || (match x.k,y.k with
  | .e,.e | .e,.a _ | .a _,.e | .e,.m | .m,.e => true
  | .e,.w => (isLd x.o.o || isSl x.o.o)&&isAp y.o.o&&y.ds.any (Bq (adrD x.o.o))
  | .w,.e => isAp x.o.o&&(isLd y.o.o || isSl y.o.o)&&y.ds.any (Bq (adrD x.o.o))
  | .a r,.a s => r != s
  | .w,.a _ => isAl y.o.o&&apSz x.o.o&&x.o.g.isNone
  | .f _,.f _ | .f _,.e | .e,.f _ => true
  | .f n,.a r | .a r,.f n => decide (n≤r)
  | .l,.l | .l,.e | .e,.l => (decide (x.o.o.cls pf≤1)&&decide (y.o.o.cls pf≤1)) || (((isLd x.o.o&&isSt y.o.o) || (isSt x.o.o&&isLd y.o.o))&&y.ds.any (Bq (adrD x.o.o)))
  | _,_ => false)) &&
 (match x.o.d with | some d => !(y.o.uses.contains d)&&y.o.d != some d | none => true) &&
 (match y.o.d with | some d => !(x.uses.contains d) | none => true)
def J4 (x y:RA):Bool:=match y.o.d with | some d => !((adrD x.o.o).uses.contains d) | none => true
def kF (l:List IOp) (bl:List Nat) (j:Nat):Nat:=(List.range j).foldl (fun m i => if (bl.getD j 0).testBit i&&Zhp l (l.getD i default).o&&(l.getD i default).g.isNone then max m (newN l i+1) else m) 0
def Z46 (pf:Pf) (l:List IOp) (bl:List Nat) (j:Nat):Kd :=
 match kdOf pf l bl j with
 | .l => if decide ((l.getD j default).o.cls pf≤1)&&(List.range j).all (fun i => !((bl.getD j 0).testBit i) || decide ((l.getD i default).o.cls pf≤1) || (Zhp l (l.getD i default).o&&(l.getD i default).g.isNone)) then .f (kF l bl j) else .l
 | k => k
def Zk3 (pf:Pf) (l:List IOp) (bl:List Nat):List RA:=(List.range l.length).map fun j => ⟨l.getD j default,Z46 pf l bl j,[]⟩
def Zwm (pf:Pf) (l:List IOp) (bl:List Nat):List RA:=(List.range l.length).map fun j => ⟨l.getD j default,kdOf pf l bl j,dsOf pf l bl j⟩
def G8 (pf:Pf) (ops:Array Oper) (l:List RA) (bl:List Nat):Bool :=
 (List.range l.length).all fun j => (match ops[j]? with
  | some o => bl.getD j 0 == CheckFast.one (fun i => bl.getD i 0) o&&o.after.toList.all (fun e => !Region.binds .any e || decide (e.on<j))
  | none => false)&&((match (l.getD j default).k with | .e | .f _ => decide ((l.getD j default).o.o.cls pf≤1) | .w => isAp (l.getD j default).o.o | _ => true)&&((List.range (j+1)).all fun i => J4 (l.getD i default) (l.getD j default))&&(List.range j).all fun i => (bl.getD j 0).testBit i || Zc9 pf (l.getD i default) (l.getD j default))
structure Ctx where
 pf:Pf
 own:Nat→Bool
 n:Nat
 rl:List Nat
def comp (P:Program) (X:Ctx):Code→List (Nat × List Nat)→IC × List Nat→Option (IC × List Nat)
 | .skip,_,k | .label _,_,k => some k
 | .seq a b,ex,k => (comp P X b ex k).bind (comp P X a ex)
 | .region _ ops draw,_,k => do
  let l ← ops.toList.mapM (iop? P X.own ops)
  if l.all (fun o => match o.d with | some d => decide (d<X.n) | none => true)&&l.all (fun o => o.g.isNone || decide (o.o.cls X.pf≤1))&&(!draw || Zn1 X.pf ops l) then
   some (IC.ops l (.keep k.2 k.1),Hv l k.2) else
  if l.all (fun o => match o.d with | some d => decide (d<X.n) | none => true)&&l.all (fun o => o.g.isNone || decide (o.o.cls X.pf≤1))&&decide (l.length=ops.size) then
   Ug (CheckFast.beforeL ops.toList 0 []) [] fun bl => if G8 X.pf ops (Zwm X.pf l bl) bl then some (.reg (newN l l.length) (Zwm X.pf l bl) (.keep k.2 k.1),Hv l k.2) else if G8 X.pf ops (Zk3 X.pf l bl) bl then some (.reg (newN l l.length) (Zk3 X.pf l bl) (.keep k.2 k.1),Hv l k.2) else none
  else none
 | .cond c a b,ex,k => do
  let x ← arg? c
  let (a',la) ← comp P X a ex (.done,k.2)
  let (b',lb) ← comp P X b ex (.done,k.2)
  some (.ite x a' b' k.1,union x.uses (union la lb))
 | .block id b,ex,k => do
  let (b',lb) ← comp P X b ((id,k.2)::ex) (.done,k.2)
  some (.block id b' k.1,lb)
 | .loop b,ex,_ => do
  let (_,l1) ← comp P X b ex (.done,[])
  let (_,l2) ← comp P X b ex (.done,l1)
  let (_,l3) ← comp P X b ex (.done,l2)
  let (b',_) ← comp P X b ex (.keep l3 .done,l3)
  some (.keep l3 (.loop b'),l3)
 | .exit id,ex,_ => some (.exit id,((ex.find? (·.1 == id)).map (·.2)).getD [])
 | .ret,_,_ => some (.ret,X.rl)
 | _,_,_ => none
def resL (rs:Array ResultVar):List Nat:=rs.toList.foldl (fun s r => match r with | .tmp t => ins t s | .cell a _ => ins a s) []
def Px (P:Program) (pf:Pf) (own:Nat→Bool) (fn:Func):Option IC :=
 match fn.body with
 | some c => (comp P ⟨pf,own,fn.ntmps,resL fn.results⟩ c [] (.ret,resL fn.results)).map (·.1)
 | none => none
end
set_option linter.unusedVariables false
/-! ### Environments -/
def look:List (Nat × AV)→Env
 | [],_ => .junk
 | (k,v)::r,n => if n=k then v else look r n
def upd (E:Env) (d:Option Nat) (v:AV):Env:=match d with
 | none => E
 | some d => fun n => if n=d then v else E n
def Fp (l:List Nat) (E:Env):List (Nat × AV):=l.map fun n => (n,E n)
def ev (E:Env):IArg→AV
 | .t n => E n
 | .c v => .lit v
 | .f n => .fn (.func n) [] []
def AV.un:AV→AV
 | .may _ v => v
 | v => v
def Yp (g:Bool):AV→Prop
 | .may g' _ => g=true→g'=true
 | _ => True
/-! ### Values -/
def AV.cells:AV→List AV
 | .agg cs => cs
 | v => [v]
def AV.one:AV→Bool
 | .lit v => v.oneCell'
 | .ptr .. | .rptr .. | .vptr .. | .row .. | .view .. | .fn .. => true
 | _ => false
mutual
def AV.pure:AV→Bool
 | .lit _ => true
 | .view cs _ _ => Yg cs
 | .fn _ a b => Yg a&&Yg b
 | .agg cs | .tup cs => Yg cs
 | _ => false
def Yg:List AV→Bool
 | [] => true
 | a::r => a.pure&&Yg r
end
def obj (H:AH) (id:Nat):AObj:=H.getD id default
def elt (cs:List AV) (sz i:Nat):List AV:=(cs.drop (i*sz)).take sz
def splice (cs:List AV) (off:Nat) (new:List AV):List AV:=match new with
 | [v] => cs.set off v
 | _ => cs.take off++new++cs.drop (off+new.length)
def fillv (cs:List AV):List (Nat × AV)→List AV
 | [] => cs
 | (o,v)::r => fillv (splice cs o v.cells) r
def Zq (tot:Nat):List (Nat × Nat × AV)→Prop
 | [] => True
 | (o,k,v)::r => (v.cells.length=k∧o+k≤tot∧v.cells.all AV.one=true)∧Zq tot r
def repl (n:Nat) (z:List AV):List AV:=(List.replicate n z).flatten
def bytesOf (s:ByteArray):List AV:=s.data.toList.map fun b => .lit (.int .u8 b.toNat)
def Bc:AV→UInt8
 | .lit (.int .u8 n) => UInt8.ofNat n.toNat
 | _ => 0
def Aj:AV→Bool
 | .lit (.int .u8 n) => true
 | _ => false
def srcN:AV→Nat
 | .view _ n _ => n
 | .row _ _ n _ => n
 | .lit (.string s) => s.size
 | _ => 0
def srcC (sz:Nat) (H:AH):AV→List AV
 | .view cs _ _ => cs
 | .row id off n _ => ((obj H id).cs.drop off).take (n*sz)
 | .lit (.string s) => bytesOf s
 | _ => []
def Wy (sz:Nat) (H:AH):AV→Prop
 | .view cs n _ => cs.length=n*sz
 | .row id off n L => id<H.length∧L=(obj H id).cs.length∧off+n*sz≤L
 | .lit (.string _) => sz=1
 | .lit (.slice none 0 0) => True
 | _ => False
/-! ### Arithmetic -/
def bAnd (k:IntKind) (a b:Int):Int:=k.wrap (BitVec.ofInt k.bits a &&& BitVec.ofInt k.bits b).toNat
def bOr (k:IntKind) (a b:Int):Int:=k.wrap (BitVec.ofInt k.bits a ||| BitVec.ofInt k.bits b).toNat
def bXor (k:IntKind) (a b:Int):Int:=k.wrap (BitVec.ofInt k.bits a ^^^ BitVec.ofInt k.bits b).toNat
def Zor (k:IntKind) (a b:Int):Int:=k.wrap (BitVec.ofInt k.bits a &&& ~~~ BitVec.ofInt k.bits b).toNat
def ibin (op:BinOp) (k:IntKind) (a b:Int):Value:=match op with
 | .add => .int k (k.wrap (a+b))
 | .sub => .int k (k.wrap (a - b))
 | .mul => .int k (k.wrap (a*b))
 | .quo => .int k (k.wrap (a.tdiv b))
 | .rem => .int k (a.tmod b)
 | .and => .int k (bAnd k a b)
 | .or => .int k (bOr k a b)
 | .xor => .int k (bXor k a b)
 | .andNot => .int k (Zor k a b)
 | .shl => .int k (k.wrap (a*2^(min b.toNat k.bits)))
 | .shr => .int k (a.fdiv (2^(min b.toNat k.bits)))
 | .eql => .bool (a == b)
 | .neq => .bool (a != b)
 | .lss => .bool (decide (a<b))
 | .leq => .bool (decide (a≤b))
 | .gtr => .bool (decide (a > b))
 | .geq => .bool (decide (a ≥ b))
def Zfd (op:BinOp) (k k':IntKind) (b:Int):Prop:=match op with
 | .quo | .rem => k=k'∧b≠0
 | .shl | .shr => 0≤b
 | _ => k=k'
def sbin (op:BinOp) (x y:ByteArray):Value:=match op with
 | .add => .string (x++y)
 | .eql => .bool (x.toList == y.toList)
 | .neq => .bool !(x.toList == y.toList)
 | .lss => .bool (Op.bytesLess x.toList y.toList)
 | .leq => .bool (Op.bytesLess x.toList y.toList || x.toList == y.toList)
 | .gtr => .bool !(Op.bytesLess x.toList y.toList || x.toList == y.toList)
 | _ => .bool !(Op.bytesLess x.toList y.toList)
def Zek (op:BinOp) (x y:ByteArray):Prop:=match op with
 | .add => x.size+y.size≤9223372036854775807
 | .eql | .neq | .lss | .leq | .gtr | .geq => True
 | _ => False
def binv (op:BinOp):AV→AV→AV
 | .lit (.int k a),.lit (.int _ b) => .lit (ibin op k a b)
 | .lit (.string x),.lit (.string y) => .lit (sbin op x y)
 | _,_ => .junk
def Zdf (op:BinOp):AV→AV→Prop
 | .lit (.int k a),.lit (.int k' b) => Zfd op k k' b
 | .lit (.string x),.lit (.string y) => Zek op x y
 | _,_ => False
def unv (op:UnOp):AV→AV
 | .lit (.bool b) => .lit (.bool !b)
 | .lit (.int k n) => match op with
  | .neg => .lit (.int k (k.wrap (0 - n)))
  | _ => .lit (.int k (k.wrap (BitVec.ofInt k.bits (if k.signed then -1 else k.max) ^^^ BitVec.ofInt k.bits n).toNat))
 | _ => .junk
def unOk (op:UnOp):AV→Prop
 | .lit (.bool _) => op=.not
 | .lit (.int _ _) => op=.neg∨op=.xor
 | _ => False
def eqv (tk:TK):AV→AV→Bool
 | .lit (.bool a),.lit (.bool b) => a == b
 | .lit (.iface t (.int _ a)),.lit (.iface u (.int _ b)) => t == u&&a == b
 | .lit .nilIface,.lit .nilIface => true
 | .lit (.pointer none),.lit (.pointer none) => true
 | .lit (.slice none 0 0),.lit (.slice none 0 0) => true
 | .lit .nilFunc,.lit .nilFunc => true
 | _,_ => false
def isC:IArg→Bool
 | .c _ => true
 | _ => false
def eqOk (cmp:TypeId→Bool) (tk:TK) (c:Bool):AV→AV→Prop
 | .lit (.bool _),.lit (.bool _) => tk=.b
 | .lit (.iface t (.int k a)),.lit (.iface u (.int k' b)) => tk=.i∧(t=u→k=k'∧cmp t=true)
 | .lit .nilIface,.lit .nilIface => tk=.i∧c=true
 | .lit .nilIface,.lit (.iface _ _) | .lit (.iface _ _),.lit .nilIface => tk=.i
 | .lit (.pointer none),.lit (.pointer none) => tk=.p
 | .lit (.pointer none),.ptr .. | .lit (.pointer none),.rptr .. | .lit (.pointer none),.vptr .. => tk=.p
 | .ptr ..,.lit (.pointer none) | .rptr ..,.lit (.pointer none) | .vptr ..,.lit (.pointer none) => tk=.p
 | .lit (.slice none 0 0),.lit (.slice none 0 0) => tk=.s
 | .lit (.slice none 0 0),.view _ n _ | .lit (.slice none 0 0),.row _ _ n _ => tk=.s∧0<n
 | .view _ n _,.lit (.slice none 0 0) | .row _ _ n _,.lit (.slice none 0 0) => tk=.s∧0<n
 | .lit .nilFunc,.lit .nilFunc => tk=.f
 | .lit .nilFunc,.fn .. | .fn ..,.lit .nilFunc => tk=.f
 | _,_ => False
def Zus:AV→AV→Bool
 | .lit (.int _ a),.lit (.int _ b) => a == b
 | .lit (.bool a),.lit (.bool b) => a == b
 | _,_ => false
def Wb:List AV→List AV→Bool
 | [],[] => true
 | a::r,b::s => Zus a b&&Wb r s
 | _,_ => false
def Th:AV→Option (Option IntKind)
 | .lit (.int k _) => some (some k)
 | .lit (.bool _) => some none
 | _ => none
def Us (ks:List (Option IntKind)):AV→AV→Prop
 | .agg a,.agg b => a.map Th=ks.map some∧b.map Th=ks.map some
 | _,_ => False
def C6:AV→AV→Bool
 | .agg a,.agg b => Wb a b
 | _,_ => false
def asI:AV→Int
 | .lit (.int _ n) => n
 | _ => 0
def isI:AV→Prop
 | .lit (.int _ _) => True
 | _ => False
def pickv (c a b:AV):AV:=match c,a,b with
 | .lit (.bool p),.lit (.bool x),.lit (.bool y) => .lit (.bool (bif p then x else y))
 | .lit (.bool p),a,b => bif p then a else b
 | _,_,_ => .junk
def isB:AV→Bool
 | .lit (.bool _) => true
 | _ => false
def asB:AV→Bool
 | .lit (.bool b) => b
 | _ => false
/-! ### One operation (no call): what must hold,its value,the objects behind it -/
def Zb8:AV→Prop
 | .ptr .. | .rptr .. | .vptr .. | .fn (.func _) _ _ => True
 | _ => False
def Mb:AV→Prop
 | .lit (.string _) => True
 | _ => False
def Zko:AV→Prop
 | .lit (.string s) => s.size≤140737488351232
 | _ => False
def s2bV (own:Bool) (H:AH):AV→AV
 | .lit (.string s) => if own then .row H.length 0 s.size s.size else .view (bytesOf s) s.size false
 | _ => .junk
def s2bH (own:Bool) (H:AH):AV→AH
 | .lit (.string s) => if own then H++[⟨bytesOf s,1,true⟩] else H
 | _ => H
def Zi2 (H:AH) (x:AV):Prop:=¬ Mb x∧Wy 1 H x∧(srcC 1 H x).all Aj=true
def b2sV (H:AH) (x:AV):AV:=.lit (.string ⟨((srcC 1 H x).map Bc).toArray⟩)
def Ys (k:Nat) (H:AH):AV→Prop
 | .ptr id off => id<H.length∧off+k≤(obj H id).cs.length
 | .rptr id off L => id<H.length∧L=(obj H id).cs.length∧off+k≤L
 | .vptr cs => k≤cs.length
 | _ => False
def Y8 (agg:Bool) (k:Nat) (H:AH):AV→AV
 | .ptr id off | .rptr id off _ => if agg then .agg (((obj H id).cs.drop off).take k) else (obj H id).cs.getD off .junk
 | .vptr cs => if agg then .agg (cs.take k) else cs.getD 0 .junk
 | _ => .junk
def storeAt (k:Nat) (H:AH):AV→Prop
 | .ptr id off => id<H.length∧(obj H id).rw=true∧off+k≤(obj H id).cs.length
 | .rptr id off L => id<H.length∧(obj H id).rw=true∧L=(obj H id).cs.length∧off+k≤L
 | _ => False
def Dj (k:Nat) (H:AH) (a x:AV):Prop:=x.cells.length=k∧x.cells.all AV.one=true∧storeAt k H a
def setO (H:AH) (id:Nat) (cs:List AV):AH:=H.set id ⟨cs,(obj H id).sz,(obj H id).rw⟩
def F9 (H:AH) (x:AV):AV→AH
 | .ptr id off | .rptr id off _ => setO H id (splice (obj H id).cs off x.cells)
 | _ => H
def Fs:AV→Prop
 | .ptr .. | .rptr .. | .vptr .. => True
 | _ => False
def fldV (o:Nat):AV→AV
 | .ptr id off => .ptr id (off+o)
 | .rptr id off L => .rptr id (off+o) L
 | .vptr cs => .vptr (cs.drop o)
 | _ => .junk
def B1 (k off:Nat):AV→Prop
 | .agg cs => off+k≤cs.length
 | _ => False
def Zla (agg:Bool) (k off:Nat):AV→AV
 | .agg cs => if agg then .agg ((cs.drop off).take k) else cs.getD off .junk
 | _ => .junk
def Tj (sz:Nat) (i:AV):Option Nat→AV→Prop
 | none,.view cs n _ => isI i∧0≤asI i∧asI i<n∧cs.length=n*sz
 | none,.row _ _ n _ => isI i∧0≤asI i∧asI i<n
 | some m,.ptr .. | some m,.rptr .. => isI i∧0≤asI i∧asI i<m
 | some m,.vptr cs => isI i∧0≤asI i∧asI i<m∧m*sz≤cs.length
 | _,_ => False
def Xn (sz:Nat) (i:AV):AV→AV
 | .view cs _ _ | .vptr cs => .vptr (elt cs sz (asI i).toNat)
 | .row id off _ L | .rptr id off L => .rptr id (off+(asI i).toNat*sz) L
 | .ptr id off => .ptr id (off+(asI i).toNat*sz)
 | _ => .junk
def Zmt (k len:Nat) (i:AV):AV→Prop
 | .agg cs => isI i∧0≤asI i∧asI i<len∧cs.length=len*k
 | _ => False
def idxV (agg:Bool) (k:Nat) (i:AV):AV→AV
 | .agg cs => if agg then .agg (elt cs k (asI i).toNat) else cs.getD (asI i).toNat .junk
 | _ => .junk
def Bo (i:AV):AV→Prop
 | .lit (.string s) => isI i∧0≤asI i∧asI i<s.size
 | _ => False
def Zkf (i:AV):AV→AV
 | .lit (.string s) => .lit (.int .u8 (s.data.getD (asI i).toNat 0).toNat)
 | _ => .junk
def Znh (i:Nat):AV→Prop
 | .tup vs => i<vs.length
 | _ => False
def extV (i:Nat):AV→AV
 | .tup vs => vs.getD i .junk
 | _ => .junk
def Aa:AV→Prop
 | .lit v => v.oneCell'=true
 | _ => False
def Zl0 (t:TypeId):AV→AV
 | .lit v => .lit (.iface t v)
 | _ => .junk
def Hs (bytes:Nat) (l c:AV):Prop:=isI l∧isI c∧0≤asI l∧asI l≤asI c∧bytes*asI c≤281474976710656∧asI c≤9223372036854775807
def bnd (d:Int):Option AV→Int
 | none => d
 | some v => asI v
def bndI:Option AV→Prop
 | none => True
 | some v => isI v
def T2 (n:Int) (lo hi mx:Option AV):Prop:=bndI lo∧bndI hi∧bndI mx∧0≤bnd 0 lo∧bnd 0 lo≤bnd n hi∧bnd n hi≤bnd n mx∧bnd n mx≤n
def bndR (n c:Nat) (lo hi mx:Option AV):Prop:=bndI lo∧bndI hi∧bndI mx∧0≤bnd 0 lo∧bnd 0 lo≤bnd n hi∧bnd n hi≤bnd c mx∧bnd c mx≤c
def Mf (osz sz n off L:Nat):Nat:=if osz=0 then n else max n ((L - off) / sz)
def Xx (sz:Nat) (H:AH) (lo hi mx:Option AV):Option Nat→AV→Prop
 | none,.view cs n _ => T2 n lo hi mx∧cs.length=n*sz
 | none,.row id off n L => id<H.length∧L=(obj H id).cs.length∧((obj H id).sz=sz∨(obj H id).sz=0)∧bndR n (Mf (obj H id).sz sz n off L) lo hi mx
 | none,.lit (.slice none 0 0) => T2 0 lo hi mx
 | some m,.ptr id _ => id<H.length∧T2 m lo hi mx
 | some m,.vptr cs => T2 m lo hi mx∧m*sz≤cs.length
 | _,_ => False
def cut (cs:List AV) (sz:Nat) (a b:Nat):List AV:=(cs.drop (a*sz)).take ((b - a)*sz)
def Xl (sz:Nat) (H:AH) (lo hi mx:Option AV):Option Nat→AV→AV
 | none,.view cs n full => .view (cut cs sz (bnd 0 lo).toNat (bnd n hi).toNat) ((bnd n hi).toNat - (bnd 0 lo).toNat) ((mx.isSome || full)&&decide (bnd n hi=bnd n mx))
 | none,.row id off n L => if (mx.isSome&&decide (bnd n mx=bnd 0 lo))=true then .view [] 0 true else if (mx.isSome&&!decide (L≤off+(bnd n mx).toNat*sz))=true then .junk else .row id (off+(bnd 0 lo).toNat*sz) ((bnd n hi).toNat - (bnd 0 lo).toNat) L
 | none,_ => .lit (.slice none 0 0)
 | some m,.ptr id off => .row id (off+(bnd 0 lo).toNat*sz) ((bnd m hi).toNat - (bnd 0 lo).toNat) (obj H id).cs.length
 | some m,.vptr cs => .view (cut cs sz (bnd 0 lo).toNat (bnd m hi).toNat) ((bnd m hi).toNat - (bnd 0 lo).toNat) false
 | _,_ => .junk
def Ij (lo hi:Option AV):AV→Prop
 | .lit (.string s) => T2 s.size lo hi none
 | _ => False
def Dk (lo hi:Option AV):AV→AV
 | .lit (.string s) => .lit (.string (s.extract (bnd 0 lo).toNat (bnd s.size hi).toNat))
 | _ => .junk
def Ur (sz:Nat) (H:AH) (x:AV):AV→Prop
 | .lit (.slice none 0 0) => True
 | .row id off n L => id<H.length∧L=(obj H id).cs.length∧(obj H id).rw=true∧(obj H id).sz=sz∧off+n*sz≤L∧(off=0∨off+(n+srcN x)*sz≤L)
 | .view cs n full => full=true∧cs.length=n*sz∧(n=0∨Yg (srcC sz H x)=true)
 | _ => False
def Ow (sz bytes:Nat) (H:AH) (s x:AV):Prop:=Wy sz H x∧(srcC sz H x).all AV.one=true∧(srcN s+srcN x)*bytes≤140737488355328∧Ur sz H x s
def appC (sz:Nat) (cs src:List AV) (off n m L:Nat):List AV:=if off+n*sz=L then cs++src else cs.take (off+n*sz)++src++cs.drop (off+(n+m)*sz)
def appL (sz off n m s L:Nat):Nat:=if off+n*sz=L then L+s else max L (off+(n+m)*sz)
def appV (sz:Nat) (H:AH) (x:AV):AV→AV
 | .row id off n L => .row id off (n+srcN x) (appL sz off n (srcN x) (srcC sz H x).length L)
 | .view cs n _ => if n=0 then .row H.length 0 (srcN x) (srcC sz H x).length else .view (cs++srcC sz H x) (n+srcN x) false
 | _ => .row H.length 0 (srcN x) (srcC sz H x).length
def appH (sz:Nat) (H:AH) (x:AV):AV→AH
 | .row id off n L => setO H id (appC sz (obj H id).cs (srcC sz H x) off n (srcN x) L)
 | .view _ n _ => if n=0 then H++[⟨srcC sz H x,sz,true⟩] else H
 | _ => H++[⟨srcC sz H x,sz,true⟩]
def Zup (sz:Nat) (H:AH):AV→Prop
 | .row id off n L => id<H.length∧L=(obj H id).cs.length∧(obj H id).rw=true∧off+n*sz≤L
 | _ => False
def Zaj (sz:Nat) (H:AH) (d s:AV):Prop:=Wy sz H s∧(srcC sz H s).all AV.one=true∧Zup sz H d
def Zak (d s:AV):Nat:=min (srcN s) (srcN d)
def Zal (sz:Nat) (H:AH) (s:AV):AV→AH
 | .row id off n L => setO H id (splice (obj H id).cs off ((srcC sz H s).take (Zak (.row id off n L) s*sz)))
 | _ => H
def Ej (H:AH):AV→Prop
 | .row id _ n L => id<H.length∧L=(obj H id).cs.length∧(obj H id).rw=true∧0<n∧¬ 1<(obj H id).sz
 | _ => False
def Uj:AV→Prop
 | .lit (.slice none 0 0) => True
 | .view _ n full => n=0∧full=true
 | _ => False
def Zf1 (bytes:Nat) (s n:AV):Prop:=Uj s∧isI n∧0≤asI n∧(asI n).toNat*bytes≤140737488355328∧asI n≤9223372036854775807
def N0 (sz:Nat):AV→Prop
 | .lit (.slice none 0 0) => True
 | .view cs n full => full=true∧cs.length=n*sz
 | _ => False
def Zay (sz bytes:Nat) (H:AH) (s x:AV):Prop:=Wy sz H x∧Yg (srcC sz H x)=true∧(srcC sz H x).all AV.one=true∧(srcN s+srcN x)*bytes≤140737488355328∧N0 sz s
def Zdk (sz:Nat) (H:AH) (x:AV):AV→AV
 | .view cs n _ => .view (cs++srcC sz H x) (n+srcN x) false
 | _ => .view (srcC sz H x) (srcN x) false
def Zdc:AV→Prop
 | .view _ _ full => full=true
 | .lit (.slice none 0 0) => True
 | _ => False
def G9 (sz:Nat) (z:List Value) (H:AH):AV→Prop
 | .row id off n L => Zup sz H (.row id off n L)∧z.all Value.oneCell'=true
 | .lit (.slice none 0 0) => True
 | .view _ n _ => n=0
 | _ => False
def Zft (z:List Value) (H:AH):AV→AH
 | .row id off n _ => setO H id (splice (obj H id).cs off (repl n (z.map .lit)))
 | _ => H
def Ks:Bool→AV→Prop
 | true,.lit (.string _) => True
 | false,.view .. | false,.row .. | false,.lit (.slice none 0 0) => True
 | _,_ => False
def Mq:AV→Prop
 | .lit (.slice none 0 0) | .view .. | .row .. => True
 | _ => False
def B7 (neq:Bool):AV→AV
 | .view _ n _ | .row _ _ n _ => if n=0 then .anyb else .lit (.bool neq)
 | _ => .lit (.bool !neq)
def Uq:AV→AV→AV→Prop
 | .lit (.int .u64 a),.lit (.int .u64 b),.lit (.int .u64 c) => 0≤a∧a<18446744073709551616∧0≤b∧b<18446744073709551616∧0≤c∧c≤1
 | _,_,_ => False
def Py (sub:Bool) (x y c:AV):AV :=
 if sub then .tup [.lit (.int .u64 ((asI x - asI y - asI c)%18446744073709551616)),.lit (.int .u64 (if asI x<asI y+asI c then 1 else 0))]
 else .tup [.lit (.int .u64 ((asI x+asI y+asI c)%18446744073709551616)),.lit (.int .u64 ((asI x+asI y+asI c) / 18446744073709551616))]
def Br (len sz:Nat):AV→Prop
 | .view cs n _ => len≤n∧cs.length=n*sz
 | .row _ _ n _ => len≤n
 | _ => False
def Zkp:AV→AV
 | .view cs _ _ => .vptr cs
 | .row id off _ L => .rptr id off L
 | _ => .junk
def mnV (x y:AV):AV:=match x with | .lit (.int k a) => .lit (.int k (if asI y<a then asI y else a)) | _ => .junk
def mxV (x y:AV):AV:=match x with | .lit (.int k a) => .lit (.int k (if a<asI y then asI y else a)) | _ => .junk
def zlit (z:List Value):List AV:=z.map .lit
def iside (cmp:TypeId→Bool) (ρ:IArg→AV) (H:AH):Ins→Prop
 | .pick .. => False
 | .nilchk x => Zb8 (ρ x)
 | .bin op x y => Zdf op (ρ x) (ρ y)
 | .eqagg ks _ x y => Us ks (ρ x) (ρ y)
 | .eq _ tk x y => eqOk cmp tk (isC x || isC y) (ρ x) (ρ y)
 | .un op x => unOk op (ρ x)
 | .conv _ x => isI (ρ x)
 | .same x => Mb (ρ x)
 | .s2b _ x => Zko (ρ x)
 | .b2s x => Zi2 H (ρ x)
 | .box x => (ρ x).cells.isEmpty=false∧(ρ x).cells.all AV.one=true
 | .build z ps => Zq z.length (ps.map fun p => (p.1,p.2.1,ρ p.2.2))
 | .bslice own sz len z ps => Zq (len*sz) (ps.map fun p => (p.1,p.2.1,ρ p.2.2))∧(own=false→Yg (fillv (repl len (zlit z)) (ps.map fun p => (p.1,ρ p.2.2)))=true)
 | .load _ k x => Ys k H (ρ x)
 | .store k a x => Dj k H (ρ a) (ρ x)
 | .fld _ x => Fs (ρ x)
 | .part _ k off x => B1 k off (ρ x)
 | .idxa sz arr x i => Tj sz (ρ i) arr (ρ x)
 | .idx _ k len x i => Zmt k len (ρ i) (ρ x)
 | .sidx x i => Bo (ρ i) (ρ x)
 | .ext x i => Znh i (ρ x)
 | .mkif _ x => Aa (ρ x)
 | .mksl _ bytes _ l c => Hs bytes (ρ l) (ρ c)
 | .slice sz arr x lo hi mx => (mx=none∨hi≠none)∧Xx sz H (lo.map ρ) (hi.map ρ) (mx.map ρ) arr (ρ x)
 | .sslice x lo hi => Ij (lo.map ρ) (hi.map ρ) (ρ x)
 | .append sz bytes s x => Ow sz bytes H (ρ s) (ρ x)
 | .copy sz d s => Zaj sz H (ρ d) (ρ s)
 | .len str x => Ks str (ρ x)
 | .cap x => Zdc (ρ x)
 | .mark x => Ej H (ρ x)
 | .dead => False
 | .isnil _ x => Mq (ρ x)
 | .carry _ x y c => Uq (ρ x) (ρ y) (ρ c)
 | .s2ap len sz x => Br len sz (ρ x)
 | .appz _ bytes _ s n => Zf1 bytes (ρ s) (ρ n)
 | .appv sz bytes s x => Zay sz bytes H (ρ s) (ρ x)
 | .clear sz z x => G9 sz z H (ρ x)
 | .mn x y | .mx x y => isI (ρ x)∧isI (ρ y)
 | .call _ _ | .callv _ _ => False
 | .mv _ | .alloc _ | .mkfn .. | .lenc _ => True
def ival (ρ:IArg→AV) (H:AH):Ins→AV
 | .mv x | .nilchk x | .same x | .mark x => ρ x
 | .appz sz _ _ _ n => .row H.length 0 (asI (ρ n)).toNat ((asI (ρ n)).toNat*sz)
 | .appv sz _ s x => Zdk sz H (ρ x) (ρ s)
 | .isnil neq x => B7 neq (ρ x)
 | .carry sub x y c => Py sub (ρ x) (ρ y) (ρ c)
 | .s2ap _ _ x => Zkp (ρ x)
 | .bin op x y => binv op (ρ x) (ρ y)
 | .eqagg _ neq x y => .lit (.bool (C6 (ρ x) (ρ y) != neq))
 | .eq neq tk x y => .lit (.bool (eqv tk (ρ x) (ρ y) != neq))
 | .un op x => unv op (ρ x)
 | .conv k x => .lit (.int k (k.wrap (asI (ρ x))))
 | .s2b own x => s2bV own H (ρ x)
 | .b2s x => b2sV H (ρ x)
 | .alloc _ | .box _ => .ptr H.length 0
 | .build z ps => .agg (fillv (zlit z) (ps.map fun p => (p.1,ρ p.2.2)))
 | .bslice own sz len z ps => if own then .row H.length 0 len (len*sz) else .view (fillv (repl len (zlit z)) (ps.map fun p => (p.1,ρ p.2.2))) len true
 | .load agg k x => Y8 agg k H (ρ x)
 | .fld o x => fldV o (ρ x)
 | .part agg k off x => Zla agg k off (ρ x)
 | .idxa sz _ x i => Xn sz (ρ i) (ρ x)
 | .idx agg k _ x i => idxV agg k (ρ i) (ρ x)
 | .sidx x i => Zkf (ρ i) (ρ x)
 | .ext x i => extV i (ρ x)
 | .mkif t x => Zl0 t (ρ x)
 | .mkfn f a b => .fn f (a.map ρ) (b.map ρ)
 | .mksl sz _ _ l _ => .row H.length 0 (asI (ρ l)).toNat ((asI (ρ l)).toNat*sz)
 | .slice sz arr x lo hi mx => Xl sz H (lo.map ρ) (hi.map ρ) (mx.map ρ) arr (ρ x)
 | .sslice x lo hi => Dk (lo.map ρ) (hi.map ρ) (ρ x)
 | .append sz _ s x => appV sz H (ρ x) (ρ s)
 | .copy _ d s => .lit (.int .i64 (Zak (ρ d) (ρ s):Nat))
 | .len _ x | .cap x => .lit (.int .i64 (srcN (ρ x)))
 | .clear .. => .tup []
 | .lenc n => .lit (.int .i64 n)
 | .mn x y => mnV (ρ x) (ρ y)
 | .mx x y => mxV (ρ x) (ρ y)
 | .store .. | .pick .. | .call .. | .callv .. | .dead => .junk
def inext (ρ:IArg→AV) (H:AH):Ins→AH
 | .alloc z => H++[⟨zlit z,0,true⟩]
 | .box x => H++[⟨(ρ x).cells,0,true⟩]
 | .bslice own sz len z ps => if own then H++[⟨fillv (repl len (zlit z)) (ps.map fun p => (p.1,ρ p.2.2)),sz,true⟩] else H
 | .s2b own x => s2bH own H (ρ x)
 | .store _ a x => F9 H (ρ x) (ρ a)
 | .mksl sz _ z l _ => H++[⟨repl (asI (ρ l)).toNat (zlit z),sz,true⟩]
 | .append sz _ s x => appH sz H (ρ x) (ρ s)
 | .copy sz d s => Zal sz H (ρ s) (ρ d)
 | .clear _ z x => Zft z H (ρ x)
 | .appz sz _ z _ n => H++[⟨repl (asI (ρ n)).toNat (zlit z),sz,true⟩]
 | _ => H
def Yr (w:Bool) (K:Bool→Prop):AV→Prop
 | .lit (.bool b) => K (b == w)
 | .may g (.lit (.bool b)) => K (g&&(b == w))
 | _ => False
inductive Ex where
 | normal | exit (id:Nat) | ret
abbrev Yq:=FuncId→List AV→AH→AV→AH→Prop
def Vu (pf:Pf) (ρ:IArg→AV) (C:Yq) (H:AH) (v:AV) (H':AH):Ins→Prop
 | .call f ags => C f (ags.map ρ) H v H'∧(pf.f f=true→H'=H)
 | .callv x ags => (match ρ x with | .fn (.func f) a b => C f (a++ags.map ρ++b) H v H' | _ => False)∧(pf.v=true→H'=H)
 | _ => False
def Hj (g:Bool) (c a b:AV):Prop:=Yp g c∧isB c.un=true∧Yp (g&&asB c.un) a∧Yp (g&&!asB c.un) b
def iopwp (pf:Pf) (C:Yq) (o:IOp) (K:Env→AH→Prop) (E:Env) (H:AH):Prop :=
 match o.g,o.o with
 | none,.pick c a b => Hj true (ev E c) (ev E a) (ev E b)∧K (upd E o.d (pickv (ev E c).un (ev E a).un (ev E b).un)) H
 | none,.call f ags => ∃ v H',Vu pf (ev E) C H v H' (.call f ags)∧K (upd E o.d v) H'
 | none,.callv x ags => ∃ v H',Vu pf (ev E) C H v H' (.callv x ags)∧K (upd E o.d v) H'
 | none,io => iside pf.c (ev E) H io∧K (upd E o.d (ival (ev E) H io)) (inext (ev E) H io)
 | some (d,w),.pick c a b => Yr w (fun g => Hj g (ev E c) (ev E a) (ev E b)∧K (upd E o.d (.may g (pickv (ev E c).un (ev E a).un (ev E b).un))) H) (E d)
 | some (d,w),.call f ags => Yr w (fun g => (∀ x ∈ ags,Yp g (ev E x))∧∃ v,(g=true→Vu pf (fun x => (ev E x).un) C H v H (.call f ags))∧K (upd E o.d (.may g v)) H) (E d)
 | some (d,w),.callv x ags => Yr w (fun g => (∀ y ∈ x::ags,Yp g (ev E y))∧∃ v,(g=true→Vu pf (fun x => (ev E x).un) C H v H (.callv x ags))∧K (upd E o.d (.may g v)) H) (E d)
 | some (d,w),io => Yr w (fun g => (∀ x ∈ io.args,Yp g (ev E x))∧(g=true→iside pf.c (fun x => (ev E x).un) H io)∧K (upd E o.d (.may g (ival (fun x => (ev E x).un) H io))) H) (E d)
def frC (C:Yq):Yq:=fun f args H v H' => H'=H∧∀ G,C f args (H++G) v (H++G)
def dumO:AObj:=⟨[],0,true⟩
def aval (id:Nat) (ρ:IArg→AV) (H0:AH):Ins→AV
 | .bslice _ sz len _ _ => .row id 0 len (len*sz)
 | .mksl sz _ _ l _ => .row id 0 (asI (ρ l)).toNat ((asI (ρ l)).toNat*sz)
 | .append sz _ _ x => .row id 0 (srcN (ρ x)) (srcC sz H0 (ρ x)).length
 | _ => .ptr id 0
def aobj (ρ:IArg→AV) (H0:AH):Ins→AObj
 | .alloc z => ⟨zlit z,0,true⟩
 | .box x => ⟨(ρ x).cells,0,true⟩
 | .bslice _ sz len z ps => ⟨fillv (repl len (zlit z)) (ps.map fun p => (p.1,ρ p.2.2)),sz,true⟩
 | .mksl sz _ z l _ => ⟨repl (asI (ρ l)).toNat (zlit z),sz,true⟩
 | .append sz _ _ x => ⟨srcC sz H0 (ρ x),sz,true⟩
 | _ => dumO
def Q9 (ρ:IArg→AV):Ins→Prop
 | .append _ _ s _ => Uj (ρ s)
 | .alloc _ | .box _ | .mksl .. => True
 | .bslice own .. => own=true
 | _ => False
def apart:AV→AV→Prop
 | .ptr i _,.ptr j _ | .ptr i _,.rptr j _ _ | .rptr i _ _,.ptr j _ | .rptr i _ _,.rptr j _ _ => i≠j
 | .vptr _,_ | _,.vptr _ => True
 | .ptr i _,.row j _ _ _ | .rptr i _ _,.row j _ _ _ | .row j _ _ _,.ptr i _ | .row j _ _ _,.rptr i _ _ | .row i _ _ _,.row j _ _ _ => i≠j
 | .view _ _ _,_ | _,.view _ _ _ => True
 | .lit (.slice none 0 0),_ | _,.lit (.slice none 0 0) => True
 | _,_ => False
def farV (H:AH):AV→Prop
 | .row id _ _ _ => obj H id≠dumO
 | _ => True
def wfar (H:AH) (ρ:IArg→AV):Ins→Prop
 | .append _ _ _ x => farV H (ρ x)
 | _ => True
def rwp (pf:Pf) (C:Yq) (base:Nat) (x:RA) (K:Env→AH→Prop) (E:Env) (H:AH):Prop :=
 match x.k with
 | .l => iopwp pf C x.o K E H
 | .m => iopwp pf C x.o (fun E' H' => H'.take base=H.take base∧K E' H') E H
 | .w => base≤H.length∧wfar H (ev E) x.o.o∧iopwp pf C x.o K E H
 | .e => iopwp pf (frC C) x.o (fun E' _ => K E' H) E (H.take base)
 | .f n => iopwp pf (frC C) x.o (fun E' _ => K E' H) E (H.take (base+n))
 | .a r => (base+r<H.length∧obj H (base+r)=dumO)∧Q9 (ev E) x.o.o∧iside pf.c (ev E) (H.take base) x.o.o∧K (upd E x.o.d (aval (base+r) (ev E) (H.take base) x.o.o)) (H.set (base+r) (aobj (ev E) (H.take base) x.o.o))
def absR (pf:Pf) (C:Yq) (base:Nat):List RA→(Env→AH→Prop)→Env→AH→Prop
 | [],K => K
 | x::r,K => fun E H => (∀ a ∈ x.ds,apart (ev E a).un (ev E (adrD x.o.o)).un)∧rwp pf C base x (absR pf C base r K) E H
def iwp (pf:Pf) (C:Yq):IC→(Ex→Env→AH→Prop)→Env→AH→Prop
 | .done,Q,E,H => Q .normal E H
 | .op o k,Q,E,H => iopwp pf C o (iwp pf C k Q) E H
 | .keep l k,Q,E,H => iwp pf C k Q (look (Fp l E)) H
 | .reg n l k,Q,E,H => absR pf C H.length l (iwp pf C k Q) E (H++List.replicate n dumO)
 | .ite c a b k,Q,E,H =>
  let Q':Ex→Env→AH→Prop:=fun e E H => match e with | .normal => iwp pf C k Q E H | e => Q e E H
  match ev E c with
  | .lit (.bool t) => (t=true→iwp pf C a Q' E H)∧(t=false→iwp pf C b Q' E H)
  | .anyb => iwp pf C a Q' E H∧iwp pf C b Q' E H
  | _ => False
 | .block id b k,Q,E,H => iwp pf C b (fun e E H => match e with
  | .normal => iwp pf C k Q E H
  | .exit i => if i=id then iwp pf C k Q E H else Q (.exit i) E H
  | .ret => Q .ret E H) E H
 | .loop b,Q,E,H => ∃ (I:Nat→Env→AH→Prop) (n:Nat),I n E H∧∀ n E H,I n E H→iwp pf C b (fun e E' H' => match e with
  | .normal => ∃ n',n'<n∧I n' E' H'
  | e => Q e E' H') E H
 | .exit id,Q,E,H => Q (.exit id) E H
 | .ret,Q,E,H => Q .ret E H
set_option linter.unusedVariables false
structure Cx where
 φ:Nat→Option Nat
 H:AH
 h:Array Obj
def Wr (S:Cx) (b:Nat):Prop:=∃ id o,S.H[id]? = some o∧o.rw=true∧S.φ id=some b
def Imm (S:Cx) (b off:Nat) (us:List Value):Prop:=(∃ c e fr,S.h[b]? = some (.cells c e fr)∧∀ j u,us[j]? = some u→c[off+j]? = some u)∧¬ Wr S b
def X9 (S:Cx) (b:Nat):Nat:=match S.h[b]? with | some (.cells c _ _) => c.size | _ => 0
mutual
def R (S:Cx):AV→Value→Prop
 | .lit v,y => y=v
 | .ptr id off,y => ∃ o b,S.H[id]? = some o∧o.sz=0∧S.φ id=some b∧y=.pointer (some ⟨b,off,none⟩)
 | .rptr id off L,y => ∃ a,y=.pointer (some a)∧∃ o,S.H[id]? = some o∧L≤o.cs.length∧(L=o.cs.length→∃ b,S.φ id=some b∧a=⟨b,off,none⟩)
 | .vptr cs,y => ∃ b off us,y=.pointer (some ⟨b,off,none⟩)∧Imm S b off us∧Yg cs=true∧RL S cs us
 | .row id off n L,y => ∃ a cap,y=.slice a n cap∧n≤cap∧(a=none→n=0∧cap=0)∧∃ o,S.H[id]? = some o∧L≤o.cs.length ∧
   (L=o.cs.length→(S.φ id=none∧cap=0∧0<o.sz)∨∃ b,S.φ id=some b∧a≠none∧(a=some ⟨b,off,none⟩∨cap=0)∧(0<o.sz→off+cap*o.sz≤X9 S b∧L≤off+cap*o.sz))
 | .view cs n full,y => ∃ a cap,y=.slice a n cap∧n≤cap∧(a=none→n=0∧cap=0)∧(full=true→cap=n)∧Yg cs=true ∧
   (cs=[]∨∃ b off us,a=some ⟨b,off,none⟩∧Imm S b off us∧RL S cs us)
 | .fn f first cap,y => ∃ fs cps,y=.func f fs cps∧RL S first fs.toList∧RL S cap cps.toList
 | .agg cs,y => ∃ vs,y=.agg vs∧RL S cs vs.toList
 | .tup vs,y => ∃ us,y=.tuple us∧RL S vs us.toList
 | .may g v,y => (g=true→R S v y)∧(g=false→y=undef)
 | .anyb,y => ∃ b,y=.bool b
 | .junk,_ => True
def RL (S:Cx):List AV→List Value→Prop
 | [],us => us=[]
 | a::r,us => ∃ u t,us=u::t∧R S a u∧RL S r t
end
def FrOk (n:Nat) (fr:Nat × Nat):Prop:=fr.1=fr.2∨n≤fr.1
theorem FrOk.no {n:Nat} {fr:Nat × Nat} (h:FrOk n fr):∀ k,k<n→¬ (fr.1≤k∧k<fr.2):=by
 intro k hk hh
 rcases h with h | h <;> omega
def isD (o:AObj):Prop:=o.cs=[]∧o.sz=0
def Z5n (S:Cx) (id:Nat) (o:AObj):Prop :=
 (S.φ id=none∧o.cs=[]) ∨
 ∃ b c e fr,S.φ id=some b∧S.h[b]? = some (.cells c e fr)∧(FrOk c.size fr∧¬ isD o∧(1<o.sz→fr.1=fr.2))∧o.cs.length≤c.size∧RL S o.cs (c.toList.take o.cs.length)
structure St (S:Cx):Prop where
 ok:∀ (id:Nat) (o:AObj),S.H[id]? = some o→Z5n S id o
 inj:∀ i j b:Nat,i<S.H.length→j<S.H.length→S.φ i=some b→S.φ j=some b→i=j
structure Ext (S S':Cx):Prop where
 size:S.h.size≤S'.h.size
 frame:∀ b:Nat,b<S.h.size→¬ Wr S b→S'.h[b]? = S.h[b]?
 shape:∀ (b:Nat) (c:Array Value) (e:TypeId) (fr:Nat × Nat),S.h[b]? = some (Obj.cells c e fr)→∃ c' fr',S'.h[b]? = some (.cells c' e fr')∧c'.size=c.size
 objs:∀ (id:Nat) (o:AObj),S.H[id]? = some o→∃ o',S'.H[id]? = some o'∧((isD o∧S.φ id=none)∨(o'.sz=o.sz∧o.cs.length≤o'.cs.length∧(o.sz=0→o'.cs.length=o.cs.length)∧(o'.rw=true→o.rw=true)∧(o.rw=false→o'=o)∧(o'.cs.length=o.cs.length→S'.φ id=S.φ id)))
 fresh:∀ id b:Nat,id<S'.H.length→S'.φ id=some b→b<S.h.size→id<S.H.length∧S.φ id=some b
theorem Ext.refl (S:Cx):Ext S S:=⟨Nat.le_refl _,fun _ _ _ => rfl,fun _ c _ fr h => ⟨c,fr,h,rfl⟩,fun _ o h => ⟨o,h,.inr ⟨rfl,Nat.le_refl _,fun _ => rfl,id,fun _ => rfl,fun _ => rfl⟩⟩,fun _ _ h1 h2 _ => ⟨h1,h2⟩⟩
theorem Ext.old {S S':Cx} (h:Ext S S') {id:Nat} {o:AObj} (ho:S.H[id]? = some o) (hd:¬ (isD o∧S.φ id=none)) :
  ∃ o',S'.H[id]? = some o'∧o'.sz=o.sz∧o.cs.length≤o'.cs.length∧(o.sz=0→o'.cs.length=o.cs.length)∧(o'.rw=true→o.rw=true)∧(o.rw=false→o'=o)∧(o'.cs.length=o.cs.length→S'.φ id=S.φ id):=by
 obtain ⟨o',h1,h2⟩:=h.objs id o ho
 exact ⟨o',h1,h2.resolve_left hd⟩
theorem Z1z {S:Cx} {id b:Nat} {o:AObj} (h:S.φ id=some b):¬ (isD o∧S.φ id=none):=by
 rintro ⟨_,h2⟩
 rw [h] at h2; cases h2
theorem Zv {α:Type} {l:List α} {i:Nat} {x:α} (h:l[i]? = some x):i<l.length:=(List.getElem?_eq_some_iff.1 h).1
theorem Yd {α:Type} {l:List α} {i:Nat} (h:i<l.length):∃ x,l[i]? = some x:=⟨l[i],List.getElem?_eq_getElem h⟩
theorem Ext.wr {S S':Cx} (h:Ext S S') {b:Nat} (hb:b<S.h.size) (hw:Wr S' b):Wr S b:=by
 obtain ⟨id,o',h1,h2,h3⟩:=hw
 obtain ⟨hl,hp⟩:=h.fresh id b (Zv h1) h3 hb
 obtain ⟨o,ho⟩:=Yd hl
 obtain ⟨o'',g1,_,_,_,g2,_,_⟩:=h.old ho (Z1z hp)
 rw [h1] at g1; cases g1
 exact ⟨id,o,ho,g2 h2,hp⟩
theorem Un {S:Cx} {b:Nat} {o:Obj} (h:S.h[b]? = some o):b<S.h.size:=(Array.getElem?_eq_some_iff.1 h).1
theorem Imm.mono {S S':Cx} (h:Ext S S') {b off:Nat} {us:List Value} (hi:Imm S b off us):Imm S' b off us:=by
 obtain ⟨⟨c,e,fr,h1,h2⟩,hw⟩:=hi
 have hb:=Un h1
 exact ⟨⟨c,e,fr,by rw [h.frame b hb hw]; exact h1,h2⟩,fun hw' => hw (h.wr hb hw')⟩
theorem F4 {S S':Cx} (h:Ext S S') {b:Nat}:X9 S b≤X9 S' b:=by
 unfold X9
 split
 ·rename_i c e fr hc
  obtain ⟨c',fr',h1,h2⟩:=h.shape _ _ _ _ hc
  rw [h1]; exact Nat.le_of_eq h2.symm
 ·exact Nat.zero_le _
mutual
theorem R.mono {S S':Cx} (h:Ext S S'):∀ (v:AV) {y:Value},R S v y→R S' v y
 | .lit v,y,hr => hr
 | .ptr id off,y,hr => by
  obtain ⟨o,b,h1,h2,h3,h4⟩:=hr
  obtain ⟨o',g1,g2,_,g3,_,_,g4⟩:=h.old h1 (Z1z h3)
  exact ⟨o',b,g1,by rw [g2]; exact h2,by rw [g4 (g3 h2)]; exact h3,h4⟩
 | .rptr id off L,y,hr => by
  obtain ⟨a,h1,o,h2,h3,h4⟩:=hr
  obtain ⟨o',g1,g2,g3,_,_,_,g4⟩:=h.old h2 (fun ⟨⟨d1,_⟩,d2⟩ => by
   obtain ⟨b,d3,_⟩:=h4 (by rw [d1] at h3 ⊢; simp at h3 ⊢; exact h3)
   rw [d2] at d3; cases d3)
  refine ⟨a,h1,o',g1,Nat.le_trans h3 g3,fun hL => ?_⟩
  have e:o'.cs.length=o.cs.length:=by omega
  rw [g4 e]
  exact h4 (by omega)
 | .vptr cs,y,hr => by
  obtain ⟨b,off,us,h1,h2,h3,h4⟩:=hr
  exact ⟨b,off,us,h1,h2.mono h,h3,RL.mono h cs h4⟩
 | .row id off n L,y,hr => by
  obtain ⟨a,cap,h1,h2,h2',o,h3,h4,h5⟩:=hr
  obtain ⟨o',g1,g2,g3,_,_,_,g4⟩:=h.old h3 (fun ⟨⟨d1,d0⟩,d2⟩ => by
   rcases h5 (by rw [d1] at h4 ⊢; simp at h4 ⊢; exact h4) with ⟨_,_,d3⟩ | ⟨b,d3,_⟩
   ·omega
   ·rw [d2] at d3; cases d3)
  refine ⟨a,cap,h1,h2,h2',o',g1,Nat.le_trans h4 g3,fun hL => ?_⟩
  have e:o'.cs.length=o.cs.length:=by omega
  rw [g4 e,g2]
  rcases h5 (by omega) with h5 | ⟨b,h5,h6,h7,h8⟩
  ·exact .inl h5
  ·exact .inr ⟨b,h5,h6,h7,fun hz => ⟨Nat.le_trans (h8 hz).1 (F4 h),(h8 hz).2⟩⟩
 | .view cs n full,y,hr => by
  obtain ⟨a,cap,h1,h2,h3,h4,h5,h6⟩:=hr
  refine ⟨a,cap,h1,h2,h3,h4,h5,?_⟩
  rcases h6 with h6 | ⟨b,off,us,g1,g2,g3⟩
  ·exact .inl h6
  ·exact .inr ⟨b,off,us,g1,g2.mono h,RL.mono h cs g3⟩
 | .fn f first cap,y,hr => by
  obtain ⟨fs,cps,h1,h2,h3⟩:=hr
  exact ⟨fs,cps,h1,RL.mono h first h2,RL.mono h cap h3⟩
 | .agg cs,y,hr => by
  obtain ⟨vs,h1,h2⟩:=hr
  exact ⟨vs,h1,RL.mono h cs h2⟩
 | .tup cs,y,hr => by
  obtain ⟨vs,h1,h2⟩:=hr
  exact ⟨vs,h1,RL.mono h cs h2⟩
 | .may g v,y,hr => ⟨fun hg => R.mono h v (hr.1 hg),hr.2⟩
 | .anyb,y,h => h
 | .junk,y,_ => trivial
theorem RL.mono {S S':Cx} (h:Ext S S'):∀ (l:List AV) {ys:List Value},RL S l ys→RL S' l ys
 | [],ys,hr => hr
 | a::r,ys,hr => by
  obtain ⟨u,t,h1,h2,h3⟩:=hr
  exact ⟨u,t,h1,R.mono h a h2,RL.mono h r h3⟩
end
theorem Ext.trans {S S' S'':Cx} (h:Ext S S') (h':Ext S' S''):Ext S S'' where
 size:=Nat.le_trans h.size h'.size
 frame b hb hw:=by
  rw [h'.frame b (Nat.lt_of_lt_of_le hb h.size) (fun hw' => hw (h.wr hb hw')),h.frame b hb hw]
 shape b c e fr hc:=by
  obtain ⟨c',fr',h1,h2⟩:=h.shape b c e fr hc
  obtain ⟨c'',fr'',h3,h4⟩:=h'.shape b c' e fr' h1
  exact ⟨c'',fr'',h3,by omega⟩
 objs id o ho:=by
  obtain ⟨o',a1,a2⟩:=h.objs id o ho
  obtain ⟨o'',b1,b2⟩:=h'.objs id o' a1
  refine ⟨o'',b1,?_⟩
  rcases a2 with a2 | ⟨a2,a3,a4,a5,a6,a7⟩
  ·exact .inl a2
  rcases b2 with ⟨⟨c1,c2⟩,c3⟩ | ⟨b2,b3,b4,b5,b6,b7⟩
  ·have hl:o.cs.length=0:=by rw [c1] at a3; simpa using a3
   exact .inl ⟨⟨List.eq_nil_of_length_eq_zero hl,by rw [← a2]; exact c2⟩,by rw [← a7 (by rw [c1,hl]; rfl)]; exact c3⟩
  refine .inr ⟨by rw [b2,a2],Nat.le_trans a3 b3,fun hz => by rw [b4 (by rw [a2]; exact hz),a4 hz],fun hr => a5 (b5 hr),fun hr => ?_,fun hl => ?_⟩
  ·have e:=a6 hr
   subst e
   exact b6 hr
  ·rw [b7 (by omega),a7 (by omega)]
 fresh id b hid hp hb:=by
  obtain ⟨g1,g2⟩:=h'.fresh id b hid hp (Nat.lt_of_lt_of_le hb h.size)
  exact h.fresh id b g1 g2 hb
/-! ### Lists -/
theorem RL.length {S:Cx}:∀ {l:List AV} {ys:List Value},RL S l ys→ys.length=l.length
 | [],ys,h => by cases h; rfl
 | a::r,ys,h => by obtain ⟨u,t,rfl,_,h3⟩:=h; simp [RL.length h3]
theorem RL.get {S:Cx}:∀ {l:List AV} {ys:List Value},RL S l ys→∀ {i:Nat} {a:AV},l[i]? = some a→∃ u,ys[i]? = some u∧R S a u
 | [],ys,h,i,a,hi => by simp at hi
 | b::r,ys,h,i,a,hi => by
  obtain ⟨u,t,rfl,h2,h3⟩:=h
  cases i with
  | zero => simp at hi; subst hi; exact ⟨u,by simp,h2⟩
  | succ i => simp at hi; obtain ⟨v,g1,g2⟩:=RL.get h3 hi; exact ⟨v,by simpa using g1,g2⟩
theorem RL.of {S:Cx}:∀ {l:List AV} {ys:List Value},ys.length=l.length→(∀ (i:Nat) (a:AV) (u:Value),l[i]? = some a→ys[i]? = some u→R S a u)→RL S l ys
 | [],ys,hl,_ => by show ys=[]; simpa using hl
 | a::r,[],hl,_ => by simp at hl
 | a::r,y::t,hl,h => ⟨y,t,rfl,h 0 a y (by simp) (by simp),RL.of (by simpa using hl) (fun i b u h1 h2 => h (i+1) b u (by simpa using h1) (by simpa using h2))⟩
theorem RL.getD {S:Cx} {l:List AV} {ys:List Value} (h:RL S l ys) (i:Nat) (hi:i<l.length) (d:Value):R S (l.getD i .junk) (ys.getD i d):=by
 obtain ⟨a,ha⟩:=Yd hi
 obtain ⟨u,h1,h2⟩:=h.get ha
 rw [List.getD_eq_getElem?_getD,List.getD_eq_getElem?_getD,ha,h1]
 exact h2
theorem RL.take {S:Cx} {l:List AV} {ys:List Value} (h:RL S l ys) (n:Nat):RL S (l.take n) (ys.take n) :=
 RL.of (by simp [h.length]) fun i a u h1 h2 => by
  rw [List.getElem?_take] at h1 h2
  split at h1
  ·rename_i hi
   rw [if_pos hi] at h2
   obtain ⟨v,g1,g2⟩:=h.get h1
   rw [g1] at h2; cases h2; exact g2
  ·cases h1
theorem RL.drop {S:Cx} {l:List AV} {ys:List Value} (h:RL S l ys) (n:Nat):RL S (l.drop n) (ys.drop n) :=
 RL.of (by simp [h.length]) fun i a u h1 h2 => by
  rw [List.getElem?_drop] at h1 h2
  obtain ⟨v,g1,g2⟩:=h.get h1
  rw [g1] at h2; cases h2; exact g2
theorem RL.append {S:Cx}:∀ {l:List AV} {ys:List Value} {l':List AV} {ys':List Value},RL S l ys→RL S l' ys'→RL S (l++l') (ys++ys')
 | [],ys,l',ys',h,h' => by cases h; exact h'
 | a::r,ys,l',ys',h,h' => by
  obtain ⟨u,t,rfl,h2,h3⟩:=h
  exact ⟨u,t++ys',rfl,h2,RL.append h3 h'⟩
theorem RL.map {S:Cx} {α:Type} (f:α→AV) (g:α→Value) (h:∀ x,R S (f x) (g x)):∀ l:List α,RL S (l.map f) (l.map g)
 | [] => rfl
 | a::r => ⟨_,_,rfl,h a,RL.map f g h r⟩
theorem RL.set {S:Cx} {l:List AV} {ys:List Value} (h:RL S l ys) (i:Nat) {a:AV} {u:Value} (ha:R S a u):RL S (l.set i a) (ys.set i u) :=
 RL.of (by simp [h.length]) fun j b v h1 h2 => by
  rw [List.getElem?_set] at h1 h2
  by_cases hij:i=j
  ·rw [if_pos hij] at h1 h2
   split at h1
   ·split at h2
    ·cases h1; cases h2; exact ha
    ·cases h2
   ·cases h1
  ·rw [if_neg hij] at h1 h2
   obtain ⟨w,g1,g2⟩:=h.get h1
   rw [g1] at h2; cases h2; exact g2
theorem R.one {S:Cx}:∀ {v:AV} {y:Value},R S v y→v.one=true→y.oneCell'=true
 | .lit v,y,h,h1 => by cases h; exact h1
 | .ptr id off,y,h,_ => by obtain ⟨_,_,_,_,_,rfl⟩:=h; rfl
 | .rptr id off L,y,h,_ => by obtain ⟨_,rfl,_⟩:=h; rfl
 | .vptr cs,y,h,_ => by obtain ⟨_,_,_,rfl,_⟩:=h; rfl
 | .row ..,y,h,_ => by obtain ⟨_,_,rfl,_⟩:=h; rfl
 | .view ..,y,h,_ => by obtain ⟨_,_,rfl,_⟩:=h; rfl
 | .fn ..,y,h,_ => by obtain ⟨_,_,rfl,_⟩:=h; rfl
 | .agg _,_,_,h | .tup _,_,_,h | .may _ _,_,_,h | .anyb,_,_,h | .junk,_,_,h => by cases h
theorem RL.one {S:Cx} {l:List AV} {ys:List Value} (h:RL S l ys) (h1:l.all AV.one=true):∀ u ∈ ys,u.oneCell'=true:=by
 intro u hu
 obtain ⟨i,hi⟩:=List.mem_iff_getElem?.1 hu
 have hl:=h.length
 have hlt:=Zv hi
 obtain ⟨a,ha⟩:=Yd (l:=l) (i:=i) (by omega)
 obtain ⟨v,g1,g2⟩:=h.get ha
 rw [hi] at g1; cases g1
 exact g2.one (List.all_eq_true.1 h1 a (List.mem_of_getElem? ha))
theorem J1 {y:Value} (h:y.oneCell'=true):y.cells=#[y]:=by cases y <;> first | rfl | cases h
theorem R.cells {S:Cx} {v:AV} {y:Value} (h:R S v y) (h1:v.cells.all AV.one=true):RL S v.cells y.cells.toList∧∀ u ∈ y.cells.toList,u.oneCell'=true:=by
 have key:RL S v.cells y.cells.toList:=by
  cases v with
  | agg cs => obtain ⟨vs,rfl,h2⟩:=h; exact h2
  | _ =>
   rw [J1 (R.one h (by simpa [AV.cells] using h1))]
   exact ⟨y,[],rfl,h,rfl⟩
 exact ⟨key,key.one h1⟩
theorem RL.mem {S:Cx} {l:List AV} {ys:List Value} (h:RL S l ys) {a:AV} (ha:a ∈ l):∃ u,u ∈ ys∧R S a u:=by
 obtain ⟨i,hi⟩:=List.mem_iff_getElem?.1 ha
 obtain ⟨u,h1,h2⟩:=h.get hi
 exact ⟨u,List.mem_of_getElem? h1,h2⟩
/-! ### The memory's steps -/
theorem Zj3 {S:Cx} (hs:St S) (o:Obj):St { S with h:=S.h.push o }∧Ext S { S with h:=S.h.push o }:=by
 have hx:Ext S { S with h:=S.h.push o }:=by
  refine ⟨by simp,fun b hb _ => by simp [Array.getElem?_push,Nat.ne_of_lt hb],fun b c e fr hc => ⟨c,fr,?_,rfl⟩,fun _ o h => ⟨o,h,.inr ⟨rfl,Nat.le_refl _,fun _ => rfl,id,fun _ => rfl,fun _ => rfl⟩⟩,fun _ _ h1 h2 _ => ⟨h1,h2⟩⟩
  have hb:=Un hc
  show (S.h.push o)[b]? = _
  rw [Array.getElem?_push,if_neg (Nat.ne_of_lt hb)]; exact hc
 refine ⟨⟨fun id ob h => ?_,hs.inj⟩,hx⟩
 rcases hs.ok id ob h with h1 | ⟨b,c,e,fr,h1,h2,h3,h4,h5⟩
 ·exact .inl h1
 ·have hb:=Un h2
  refine .inr ⟨b,c,e,fr,h1,?_,h3,h4,h5.mono hx⟩
  show (S.h.push o)[b]? = _
  rw [Array.getElem?_push,if_neg (Nat.ne_of_lt hb)]; exact h2
theorem Zp0 {S:Cx} (hs:St S) {ob:AObj} {c:Array Value} {e:TypeId} {fr:Nat × Nat} (hfr:FrOk c.size fr) (hnd:¬ isD ob) (hl:ob.cs.length≤c.size) (hr:RL S ob.cs (c.toList.take ob.cs.length)) (hfz:1<ob.sz→fr.1=fr.2) :
  ∃ φ',φ' S.H.length=some S.h.size∧St ⟨φ',S.H++[ob],S.h.push (.cells c e fr)⟩∧Ext S ⟨φ',S.H++[ob],S.h.push (.cells c e fr)⟩:=by
 refine ⟨fun id => if id=S.H.length then some S.h.size else S.φ id,by simp,?_⟩
 have hx:Ext S ⟨fun id => if id=S.H.length then some S.h.size else S.φ id,S.H++[ob],S.h.push (.cells c e fr)⟩:=by
  refine ⟨by simp,fun b hb _ => by simp [Array.getElem?_push,Nat.ne_of_lt hb],fun b c' e' fr' hc => ⟨c',fr',?_,rfl⟩,fun id o h => ⟨o,?_,.inr ⟨rfl,Nat.le_refl _,fun _ => rfl,fun h => h,fun _ => rfl,fun _ => ?_⟩⟩,fun id b h1 h2 h3 => ?_⟩
  ·have hb:=Un hc
   show (S.h.push _)[b]? = _
   rw [Array.getElem?_push,if_neg (Nat.ne_of_lt hb)]; exact hc
  ·show (S.H++[ob])[id]? = _
   rw [List.getElem?_append_left (Zv h)]; exact h
  ·show (if id=S.H.length then _ else _)=_
   rw [if_neg (Nat.ne_of_lt (Zv h))]
  ·dsimp only at h2
   by_cases hid:id=S.H.length
   ·rw [if_pos hid] at h2; cases h2; omega
   ·rw [if_neg hid] at h2
    simp at h1
    exact ⟨by omega,h2⟩
 refine ⟨⟨fun id o h => ?_,fun i j b hi hj h1 h2 => ?_⟩,hx⟩
 ·by_cases hid:id=S.H.length
  ·subst hid
   simp at h; subst h
   refine .inr ⟨S.h.size,c,e,fr,by simp,by simp,⟨hfr,hnd,hfz⟩,hl,hr.mono hx⟩
  ·have hlt:id<S.H.length:=by have:=Zv h; simp at this; omega
   have h':S.H[id]? = some o:=by
    change (S.H++[ob])[id]? = _ at h
    rwa [List.getElem?_append_left hlt] at h
   rcases hs.ok id o h' with ⟨g1,g2⟩ | ⟨b,c',e',fr',g1,g2,g3,g4,g5⟩
   ·exact .inl ⟨by simp [hid,g1],g2⟩
   ·refine .inr ⟨b,c',e',fr',by simp [hid,g1],?_,g3,g4,g5.mono hx⟩
    show (S.h.push _)[b]? = _
    rw [Array.getElem?_push,if_neg (Nat.ne_of_lt (Un g2))]; exact g2
 ·have old:∀ i b,i<S.H.length→S.φ i=some b→b<S.h.size:=by
   intro i b hi hp
   obtain ⟨o,ho⟩:=Yd hi
   rcases hs.ok i o ho with ⟨g1,_⟩ | ⟨b',c',e',fr',g1,g2,_⟩
   ·rw [g1] at hp; cases hp
   ·rw [g1] at hp; cases hp; exact Un g2
  simp at hi hj
  dsimp only at h1 h2
  by_cases hi':i=S.H.length <;> by_cases hj':j=S.H.length
  ·omega
  ·rw [if_pos hi'] at h1; rw [if_neg hj'] at h2; cases h1
   have:=old j _ (by omega) h2; omega
  ·rw [if_neg hi'] at h1; rw [if_pos hj'] at h2; cases h2
   have:=old i _ (by omega) h1; omega
  ·rw [if_neg hi'] at h1; rw [if_neg hj'] at h2
   exact hs.inj i j b (by omega) (by omega) h1 h2
theorem Zmw {l:List AObj} {i j:Nat} {x y:AObj} (h:(l.set i x)[j]? = some y):(i=j∧y=x∧i<l.length)∨(i≠j∧l[j]? = some y):=by
 rw [List.getElem?_set] at h
 by_cases hij:i=j
 ·rw [if_pos hij] at h
  split at h
  ·cases h; exact .inl ⟨hij,rfl,by assumption⟩
  ·cases h
 ·rw [if_neg hij] at h; exact .inr ⟨hij,h⟩
theorem St.lt {S:Cx} (hs:St S) {i b:Nat} (hi:i<S.H.length) (hp:S.φ i=some b):b<S.h.size:=by
 obtain ⟨o,ho⟩:=Yd hi
 rcases hs.ok i o ho with ⟨g1,_⟩ | ⟨b',c',e',fr',g1,g2,_⟩
 ·rw [g1] at hp; cases hp
 ·rw [g1] at hp; cases hp; exact Un g2
theorem Zec {S:Cx} (hs:St S) {id b:Nat} {o:AObj} {cs':List AV} {c c':Array Value} {e:TypeId} {fr:Nat × Nat} {h':Array Obj}
  (ho:S.H[id]? = some o) (hrw:o.rw=true) (hp:S.φ id=some b) (hb:S.h[b]? = some (Obj.cells c e fr)) (hsz:h'.size=S.h.size) (hoth:∀ i:Nat,i≠b→h'[i]? = S.h[i]?) (hb':h'[b]? = some (Obj.cells c' e fr)) (hc':c'.size=c.size)
  (hlen:o.cs.length≤cs'.length) (hz:o.sz=0→cs'.length=o.cs.length) (hfit:cs'.length≤c'.size) (hr:RL S cs' (c'.toList.take cs'.length)) :
  St ⟨S.φ,S.H.set id ⟨cs',o.sz,o.rw⟩,h'⟩∧Ext S ⟨S.φ,S.H.set id ⟨cs',o.sz,o.rw⟩,h'⟩:=by
 have hid:=Zv ho
 have hx:Ext S ⟨S.φ,S.H.set id ⟨cs',o.sz,o.rw⟩,h'⟩:=by
  refine ⟨Nat.le_of_eq hsz.symm,fun i hi hw => hoth i (fun h => hw ⟨id,o,ho,hrw,by rw [hp,h]⟩),fun i c1 e1 fr1 hc1 => ?_,fun j oj hj => ?_,fun i bb hi hp' _ => ⟨by simpa using hi,hp'⟩⟩
  ·by_cases hi:i=b
   ·subst hi; rw [hb] at hc1; cases hc1; exact ⟨c',_,hb',hc'⟩
   ·exact ⟨c1,fr1,by show h'[i]? = _; rw [hoth i hi]; exact hc1,rfl⟩
  ·by_cases hj':id=j
   ·subst hj'
    rw [ho] at hj; cases hj
    refine ⟨⟨cs',o.sz,o.rw⟩,by show (S.H.set id _)[id]? = _; rw [List.getElem?_set_self hid],.inr ⟨rfl,hlen,hz,fun h => h,(fun h => absurd (hrw.symm.trans h) (by decide)),fun _ => rfl⟩⟩
   ·exact ⟨oj,by show (S.H.set id _)[j]? = _; rw [List.getElem?_set_ne hj']; exact hj,.inr ⟨rfl,Nat.le_refl _,fun _ => rfl,fun h => h,fun _ => rfl,fun _ => rfl⟩⟩
 refine ⟨⟨fun j oj hj => ?_,fun i j bb hi hj => hs.inj i j bb (by simpa using hi) (by simpa using hj)⟩,hx⟩
 obtain ⟨b0,c0,e0,fr0,g1,g2,g3,g4,g5⟩:∃ b0 c0 e0 fr0,S.φ id=some b0∧S.h[b0]? = some (Obj.cells c0 e0 fr0)∧(FrOk c0.size fr0∧¬ isD o∧(1<o.sz→fr0.1=fr0.2))∧o.cs.length≤c0.size∧RL S o.cs (c0.toList.take o.cs.length):=by
  rcases hs.ok id o ho with ⟨g1,_⟩ | h
  ·rw [hp] at g1; cases g1
  ·exact h
 rw [hp] at g1; cases g1
 rw [hb] at g2; cases g2
 rcases Zmw hj with ⟨rfl,rfl,_⟩ | ⟨hne,hj'⟩
 ·exact .inr ⟨b,c',e,fr,hp,hb',⟨by rw [hc']; exact g3.1,fun ⟨d1,d2⟩ => g3.2.1 ⟨List.eq_nil_of_length_eq_zero (by have:=hz d2; dsimp only at d1; rw [d1] at this; exact this.symm),d2⟩,g3.2.2⟩,hfit,hr.mono hx⟩
 ·rcases hs.ok j oj hj' with h1 | ⟨b1,c1,e1,fr1,h1,h2,h3,h4,h5⟩
  ·exact .inl h1
  ·have hne':b1≠b:=fun h => hne (hs.inj id j b hid (Zv hj') hp (by rw [h1,h]))
   exact .inr ⟨b1,c1,e1,fr1,h1,by show h'[b1]? = _; rw [hoth b1 hne']; exact h2,h3,h4,h5.mono hx⟩
theorem Zj4 {S:Cx} (hs:St S) {id:Nat} {o:AObj} {cs':List AV} {c':Array Value} {e:TypeId}
  (ho:S.H[id]? = some o) (hrw:o.rw=true) (hlen:o.cs.length<cs'.length) (hz:0<o.sz) (hfit:cs'.length≤c'.size) (hr:RL S cs' (c'.toList.take cs'.length)) :
  ∃ φ',φ' id=some S.h.size∧St ⟨φ',S.H.set id ⟨cs',o.sz,o.rw⟩,S.h.push (.cells c' e)⟩∧Ext S ⟨φ',S.H.set id ⟨cs',o.sz,o.rw⟩,S.h.push (.cells c' e)⟩:=by
 have hid:=Zv ho
 refine ⟨fun i => if i=id then some S.h.size else S.φ i,by simp,?_⟩
 have hx:Ext S ⟨fun i => if i=id then some S.h.size else S.φ i,S.H.set id ⟨cs',o.sz,o.rw⟩,S.h.push (.cells c' e)⟩:=by
  refine ⟨by simp,fun i hi hw => by simp [Array.getElem?_push,Nat.ne_of_lt hi],fun i c1 e1 fr1 hc1 => ⟨c1,fr1,?_,rfl⟩,fun j oj hj => ?_,fun i bb hi hp' hbb => ?_⟩
  ·show (S.h.push _)[i]? = _
   rw [Array.getElem?_push,if_neg (Nat.ne_of_lt (Un hc1))]; exact hc1
  ·by_cases hj':id=j
   ·subst hj'
    rw [ho] at hj; cases hj
    refine ⟨⟨cs',o.sz,o.rw⟩,by show (S.H.set id _)[id]? = _; rw [List.getElem?_set_self hid],.inr ⟨rfl,Nat.le_of_lt hlen,(fun h => absurd h (by omega)),fun h => h,(fun h => absurd (hrw.symm.trans h) (by decide)),fun h => ?_⟩⟩
    simp at h; omega
   ·refine ⟨oj,by show (S.H.set id _)[j]? = _; rw [List.getElem?_set_ne hj']; exact hj,.inr ⟨rfl,Nat.le_refl _,fun _ => rfl,fun h => h,fun _ => rfl,fun _ => ?_⟩⟩
    show (if j=id then _ else _)=_
    rw [if_neg (fun h => hj' h.symm)]
  ·dsimp only at hp'
   split at hp'
   ·cases hp'; omega
   ·exact ⟨by simpa using hi,hp'⟩
 refine ⟨⟨fun j oj hj => ?_,fun i j bb hi hj h1 h2 => ?_⟩,hx⟩
 ·rcases Zmw hj with ⟨rfl,rfl,_⟩ | ⟨hne,hj'⟩
  ·exact .inr ⟨S.h.size,c',e,(0,0),by simp,by simp,⟨.inl rfl,fun ⟨d1,d2⟩ => by dsimp only at d2; omega,fun _ => rfl⟩,hfit,hr.mono hx⟩
  ·have hne2:¬ j=id:=fun h => hne h.symm
   rcases hs.ok j oj hj' with ⟨h1,h2⟩ | ⟨b1,c1,e1,fr1,h1,h2,h3,h4,h5⟩
   ·exact .inl ⟨by simp [hne2,h1],h2⟩
   ·refine .inr ⟨b1,c1,e1,fr1,by simp [hne2,h1],?_,h3,h4,h5.mono hx⟩
    show (S.h.push _)[b1]? = _
    rw [Array.getElem?_push,if_neg (Nat.ne_of_lt (Un h2))]; exact h2
 ·simp at hi hj
  dsimp only at h1 h2
  by_cases hi':i=id <;> by_cases hj':j=id
  ·omega
  ·rw [if_pos hi'] at h1; rw [if_neg hj'] at h2; cases h1
   have:=hs.lt hj h2; omega
  ·rw [if_neg hi'] at h1; rw [if_pos hj'] at h2; cases h2
   have:=hs.lt hi h1; omega
  ·rw [if_neg hi'] at h1; rw [if_neg hj'] at h2
   exact hs.inj i j bb hi hj h1 h2
theorem Ii {S:Cx} (hs:St S) {ob:AObj} (hc:ob.cs=[]) (hz:0<ob.sz):∃ φ',φ' S.H.length=none∧St ⟨φ',S.H++[ob],S.h⟩∧Ext S ⟨φ',S.H++[ob],S.h⟩:=by
 refine ⟨fun i => if i=S.H.length then none else S.φ i,by simp,?_⟩
 have hx:Ext S ⟨fun i => if i=S.H.length then none else S.φ i,S.H++[ob],S.h⟩:=by
  refine ⟨Nat.le_refl _,fun i hi hw => rfl,fun i c1 e1 fr1 hc1 => ⟨c1,fr1,hc1,rfl⟩,fun j oj hj => ⟨oj,?_,.inr ⟨rfl,Nat.le_refl _,fun _ => rfl,fun h => h,fun _ => rfl,fun _ => ?_⟩⟩,fun i bb hi hp' hbb => ?_⟩
  ·show (S.H++[ob])[j]? = _
   rw [List.getElem?_append_left (Zv hj)]; exact hj
  ·show (if j=S.H.length then _ else _)=_
   rw [if_neg (Nat.ne_of_lt (Zv hj))]
  ·dsimp only at hp'
   split at hp'
   ·cases hp'
   ·simp at hi; exact ⟨by omega,hp'⟩
 refine ⟨⟨fun j oj hj => ?_,fun i j bb hi hj h1 h2 => ?_⟩,hx⟩
 ·by_cases hid:j=S.H.length
  ·subst hid
   simp at hj; subst hj
   exact .inl ⟨by simp,hc⟩
  ·have hlt:j<S.H.length:=by have:=Zv hj; simp at this; omega
   have h':S.H[j]? = some oj:=by
    change (S.H++[ob])[j]? = _ at hj
    rwa [List.getElem?_append_left hlt] at hj
   rcases hs.ok j oj h' with ⟨g1,g2⟩ | ⟨b,c',e',fr',g1,g2,g3,g4,g5⟩
   ·exact .inl ⟨by simp [g1],g2⟩
   ·exact .inr ⟨b,c',e',fr',by simp [hid,g1],g2,g3,g4,g5.mono hx⟩
 ·simp at hi hj
  dsimp only at h1 h2
  split at h1 <;> split at h2 <;> first
   | cases h1
   | cases h2
   | exact hs.inj i j bb (by omega) (by omega) h1 h2
theorem Zj5 {S:Cx} (hs:St S) {id b:Nat} {o:AObj} {c:Array Value} {e:TypeId} {fr fr':Nat × Nat} {h':Array Obj}
  (ho:S.H[id]? = some o) (hrw:o.rw=true) (hp:S.φ id=some b) (hb:S.h[b]? = some (Obj.cells c e fr)) (hsz:h'.size=S.h.size) (hoth:∀ i:Nat,i≠b→h'[i]? = S.h[i]?) (hb':h'[b]? = some (Obj.cells c e fr')) (hfr:FrOk c.size fr') (h1s:¬ 1<o.sz) :
  St ⟨S.φ,S.H,h'⟩∧Ext S ⟨S.φ,S.H,h'⟩:=by
 have hid:=Zv ho
 have hx:Ext S ⟨S.φ,S.H,h'⟩:=by
  refine ⟨Nat.le_of_eq hsz.symm,fun i hi hw => hoth i (fun h => hw ⟨id,o,ho,hrw,by rw [hp,h]⟩),fun i c1 e1 fr1 hc1 => ?_,fun j oj hj => ⟨oj,hj,.inr ⟨rfl,Nat.le_refl _,fun _ => rfl,fun h => h,fun _ => rfl,fun _ => rfl⟩⟩,fun i bb hi hp' _ => ⟨hi,hp'⟩⟩
  by_cases hi:i=b
  ·subst hi; rw [hb] at hc1; cases hc1; exact ⟨c,fr',hb',rfl⟩
  ·exact ⟨c1,fr1,by show h'[i]? = _; rw [hoth i hi]; exact hc1,rfl⟩
 refine ⟨⟨fun j oj hj => ?_,hs.inj⟩,hx⟩
 rcases hs.ok j oj hj with h1 | ⟨b1,c1,e1,fr1,h1,h2,h3,h4,h5⟩
 ·exact .inl h1
 ·by_cases hbb:b1=b
  ·subst hbb
   rw [hb] at h2; cases h2
   exact .inr ⟨b1,c,e,fr',h1,hb',⟨hfr,h3.2.1,fun hh => by
    have hji:=hs.inj j id b1 (Zv hj) hid h1 hp
    subst hji
    rw [ho] at hj; cases hj
    exact absurd hh h1s⟩,h4,h5.mono hx⟩
  ·exact .inr ⟨b1,c1,e1,fr1,h1,by show h'[b1]? = _; rw [hoth b1 hbb]; exact h2,h3,h4,h5.mono hx⟩
end Go.Proofs.YtcgjlpdkobmpnaaGreat.Eng


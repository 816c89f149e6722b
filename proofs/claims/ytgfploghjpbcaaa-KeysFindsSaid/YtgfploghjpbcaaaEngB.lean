/- What the abstract machine's code does: a weakest precondition. -/
import Derived.Test.YtgfploghjpbcaaaEngA
namespace Go.Proofs.Ytgfploghjpbcaaa.Eng
open Go
set_option linter.unusedVariables false

/-! ### Environments -/
def look : List (Nat × AV) → Env
  | [], _ => .junk
  | (k, v) :: r, n => if n = k then v else look r n
def upd (E : Env) (d : Option Nat) (v : AV) : Env := match d with
  | none => E
  | some d => fun n => if n = d then v else E n
def keepE (l : List Nat) (E : Env) : List (Nat × AV) := l.map fun n => (n, E n)
def ev (E : Env) : IArg → AV
  | .t n => E n
  | .c v => .lit v
  | .f n => .fn (.func n) [] []
def AV.un : AV → AV
  | .may _ v => v
  | v => v
def okMay (g : Bool) : AV → Prop
  | .may g' _ => g = true → g' = true
  | _ => True

/-! ### Values -/
def AV.cells : AV → List AV
  | .agg cs => cs
  | v => [v]
def AV.one : AV → Bool
  | .lit v => v.oneCell'
  | .ptr .. | .rptr .. | .vptr .. | .row .. | .view .. | .fn .. => true
  | _ => false
mutual
def AV.pure : AV → Bool
  | .lit _ => true
  | .view cs _ _ => pureL cs
  | .fn _ a b => pureL a && pureL b
  | .agg cs | .tup cs => pureL cs
  | _ => false
def pureL : List AV → Bool
  | [] => true
  | a :: r => a.pure && pureL r
end
def obj (H : AH) (id : Nat) : AObj := H.getD id default
def elt (cs : List AV) (sz i : Nat) : List AV := (cs.drop (i * sz)).take sz
def splice (cs : List AV) (off : Nat) (new : List AV) : List AV := match new with
  | [v] => cs.set off v
  | _ => cs.take off ++ new ++ cs.drop (off + new.length)
def fillv (cs : List AV) : List (Nat × AV) → List AV
  | [] => cs
  | (o, v) :: r => fillv (splice cs o v.cells) r
def fillOk (tot : Nat) : List (Nat × Nat × AV) → Prop
  | [] => True
  | (o, k, v) :: r => (v.cells.length = k ∧ o + k ≤ tot ∧ v.cells.all AV.one = true) ∧ fillOk tot r
def repl (n : Nat) (z : List AV) : List AV := (List.replicate n z).flatten
def bytesOf (s : ByteArray) : List AV := s.data.toList.map fun b => .lit (.int .u8 b.toNat)
def toByte : AV → UInt8
  | .lit (.int .u8 n) => UInt8.ofNat n.toNat
  | _ => 0
def isByte : AV → Bool
  | .lit (.int .u8 n) => true
  | _ => false
/-- A slice's (or a string's) elements. -/
def srcN : AV → Nat
  | .view _ n _ => n
  | .row _ _ n _ => n
  | .lit (.string s) => s.size
  | _ => 0
def srcC (sz : Nat) (H : AH) : AV → List AV
  | .view cs _ _ => cs
  | .row id off n _ => ((obj H id).cs.drop off).take (n * sz)
  | .lit (.string s) => bytesOf s
  | _ => []
def srcOk (sz : Nat) (H : AH) : AV → Prop
  | .view cs n _ => cs.length = n * sz
  | .row id off n L => id < H.length ∧ L = (obj H id).cs.length ∧ off + n * sz ≤ L
  | .lit (.string _) => sz = 1
  | .lit (.slice none 0 0) => True
  | _ => False

/-! ### Arithmetic -/
def bAnd (k : IntKind) (a b : Int) : Int := k.wrap (BitVec.ofInt k.bits a &&& BitVec.ofInt k.bits b).toNat
def bOr (k : IntKind) (a b : Int) : Int := k.wrap (BitVec.ofInt k.bits a ||| BitVec.ofInt k.bits b).toNat
def bXor (k : IntKind) (a b : Int) : Int := k.wrap (BitVec.ofInt k.bits a ^^^ BitVec.ofInt k.bits b).toNat
def bAndNot (k : IntKind) (a b : Int) : Int := k.wrap (BitVec.ofInt k.bits a &&& ~~~ BitVec.ofInt k.bits b).toNat
def ibin (op : BinOp) (k : IntKind) (a b : Int) : Value := match op with
  | .add => .int k (k.wrap (a + b))
  | .sub => .int k (k.wrap (a - b))
  | .mul => .int k (k.wrap (a * b))
  | .quo => .int k (k.wrap (a.tdiv b))
  | .rem => .int k (a.tmod b)
  | .and => .int k (bAnd k a b)
  | .or => .int k (bOr k a b)
  | .xor => .int k (bXor k a b)
  | .andNot => .int k (bAndNot k a b)
  | .shl => .int k (k.wrap (a * 2 ^ (min b.toNat k.bits)))
  | .shr => .int k (a.fdiv (2 ^ (min b.toNat k.bits)))
  | .eql => .bool (a == b)
  | .neq => .bool (a != b)
  | .lss => .bool (decide (a < b))
  | .leq => .bool (decide (a ≤ b))
  | .gtr => .bool (decide (a > b))
  | .geq => .bool (decide (a ≥ b))
def ibinOk (op : BinOp) (k k' : IntKind) (b : Int) : Prop := match op with
  | .quo | .rem => k = k' ∧ b ≠ 0
  | .shl | .shr => 0 ≤ b
  | _ => k = k'
def sbin (op : BinOp) (x y : ByteArray) : Value := match op with
  | .add => .string (x ++ y)
  | .eql => .bool (x.toList == y.toList)
  | .neq => .bool !(x.toList == y.toList)
  | .lss => .bool (Op.bytesLess x.toList y.toList)
  | .leq => .bool (Op.bytesLess x.toList y.toList || x.toList == y.toList)
  | .gtr => .bool !(Op.bytesLess x.toList y.toList || x.toList == y.toList)
  | _ => .bool !(Op.bytesLess x.toList y.toList)
def sbinOk (op : BinOp) (x y : ByteArray) : Prop := match op with
  | .add => x.size + y.size ≤ 9223372036854775807
  | .eql | .neq | .lss | .leq | .gtr | .geq => True
  | _ => False
def binv (op : BinOp) : AV → AV → AV
  | .lit (.int k a), .lit (.int _ b) => .lit (ibin op k a b)
  | .lit (.string x), .lit (.string y) => .lit (sbin op x y)
  | _, _ => .junk
def binOk (op : BinOp) : AV → AV → Prop
  | .lit (.int k a), .lit (.int k' b) => ibinOk op k k' b
  | .lit (.string x), .lit (.string y) => sbinOk op x y
  | _, _ => False
def unv (op : UnOp) : AV → AV
  | .lit (.bool b) => .lit (.bool !b)
  | .lit (.int k n) => match op with
    | .neg => .lit (.int k (k.wrap (0 - n)))
    | _ => .lit (.int k (k.wrap (BitVec.ofInt k.bits (if k.signed then -1 else k.max) ^^^ BitVec.ofInt k.bits n).toNat))
  | _ => .junk
def unOk (op : UnOp) : AV → Prop
  | .lit (.bool _) => op = .not
  | .lit (.int _ _) => op = .neg ∨ op = .xor
  | _ => False
/-- Equality of what is no struct, array, number, text. -/
def eqv (tk : TK) : AV → AV → Bool
  | .lit (.bool a), .lit (.bool b) => a == b
  | .lit (.iface t (.int _ a)), .lit (.iface u (.int _ b)) => t == u && a == b
  | .lit .nilIface, .lit .nilIface => true
  | .lit (.pointer none), .lit (.pointer none) => true
  | .lit (.slice none 0 0), .lit (.slice none 0 0) => true
  | .lit .nilFunc, .lit .nilFunc => true
  | _, _ => false
def isC : IArg → Bool
  | .c _ => true
  | _ => false
def eqOk (cmp : TypeId → Bool) (tk : TK) (c : Bool) : AV → AV → Prop
  | .lit (.bool _), .lit (.bool _) => tk = .b
  | .lit (.iface t (.int k a)), .lit (.iface u (.int k' b)) => tk = .i ∧ (t = u → k = k' ∧ cmp t = true)
  | .lit .nilIface, .lit .nilIface => tk = .i ∧ c = true
  | .lit .nilIface, .lit (.iface _ _) | .lit (.iface _ _), .lit .nilIface => tk = .i
  | .lit (.pointer none), .lit (.pointer none) => tk = .p
  | .lit (.pointer none), .ptr .. | .lit (.pointer none), .rptr .. | .lit (.pointer none), .vptr .. => tk = .p
  | .ptr .., .lit (.pointer none) | .rptr .., .lit (.pointer none) | .vptr .., .lit (.pointer none) => tk = .p
  | .lit (.slice none 0 0), .lit (.slice none 0 0) => tk = .s
  | .lit (.slice none 0 0), .view _ n _ | .lit (.slice none 0 0), .row _ _ n _ => tk = .s ∧ 0 < n
  | .view _ n _, .lit (.slice none 0 0) | .row _ _ n _, .lit (.slice none 0 0) => tk = .s ∧ 0 < n
  | .lit .nilFunc, .lit .nilFunc => tk = .f
  | .lit .nilFunc, .fn .. | .fn .., .lit .nilFunc => tk = .f
  | _, _ => False
def cellEq : AV → AV → Bool
  | .lit (.int _ a), .lit (.int _ b) => a == b
  | .lit (.bool a), .lit (.bool b) => a == b
  | _, _ => false
def cellsEq : List AV → List AV → Bool
  | [], [] => true
  | a :: r, b :: s => cellEq a b && cellsEq r s
  | _, _ => false
def kindOf : AV → Option (Option IntKind)
  | .lit (.int k _) => some (some k)
  | .lit (.bool _) => some none
  | _ => none
def aggEqOk (ks : List (Option IntKind)) : AV → AV → Prop
  | .agg a, .agg b => a.map kindOf = ks.map some ∧ b.map kindOf = ks.map some
  | _, _ => False
def aggEq : AV → AV → Bool
  | .agg a, .agg b => cellsEq a b
  | _, _ => false
def asI : AV → Int
  | .lit (.int _ n) => n
  | _ => 0
def isI : AV → Prop
  | .lit (.int _ _) => True
  | _ => False
def pickv (c a b : AV) : AV := match c, a, b with
  | .lit (.bool p), .lit (.bool x), .lit (.bool y) => .lit (.bool (bif p then x else y))
  | .lit (.bool p), a, b => bif p then a else b
  | _, _, _ => .junk
def isB : AV → Bool
  | .lit (.bool _) => true
  | _ => false
def asB : AV → Bool
  | .lit (.bool b) => b
  | _ => false
def bound (ρ : IArg → AV) (d : Int) : Option IArg → Int
  | none => d
  | some x => asI (ρ x)
def boundOk (ρ : IArg → AV) : Option IArg → Prop
  | none => True
  | some x => isI (ρ x)

/-! ### One operation (no call): what must hold, its value, the objects behind it -/
def nilOk : AV → Prop
  | .ptr .. | .rptr .. | .vptr .. | .fn (.func _) _ _ => True
  | _ => False
def strOk : AV → Prop
  | .lit (.string _) => True
  | _ => False
def s2bOk : AV → Prop
  | .lit (.string s) => s.size ≤ 140737488351232
  | _ => False
def s2bV (own : Bool) (H : AH) : AV → AV
  | .lit (.string s) => if own then .row H.length 0 s.size s.size else .view (bytesOf s) s.size false
  | _ => .junk
def s2bH (own : Bool) (H : AH) : AV → AH
  | .lit (.string s) => if own then H ++ [⟨bytesOf s, 1, true⟩] else H
  | _ => H
def b2sOk (H : AH) (x : AV) : Prop := ¬ strOk x ∧ srcOk 1 H x ∧ (srcC 1 H x).all isByte = true
def b2sV (H : AH) (x : AV) : AV := .lit (.string ⟨((srcC 1 H x).map toByte).toArray⟩)
def loadOk (k : Nat) (H : AH) : AV → Prop
  | .ptr id off => id < H.length ∧ off + k ≤ (obj H id).cs.length
  | .rptr id off L => id < H.length ∧ L = (obj H id).cs.length ∧ off + k ≤ L
  | .vptr cs => k ≤ cs.length
  | _ => False
def loadV (agg : Bool) (k : Nat) (H : AH) : AV → AV
  | .ptr id off | .rptr id off _ => if agg then .agg (((obj H id).cs.drop off).take k) else (obj H id).cs.getD off .junk
  | .vptr cs => if agg then .agg (cs.take k) else cs.getD 0 .junk
  | _ => .junk
def storeAt (k : Nat) (H : AH) : AV → Prop
  | .ptr id off => id < H.length ∧ (obj H id).rw = true ∧ off + k ≤ (obj H id).cs.length
  | .rptr id off L => id < H.length ∧ (obj H id).rw = true ∧ L = (obj H id).cs.length ∧ off + k ≤ L
  | _ => False
def storeOk (k : Nat) (H : AH) (a x : AV) : Prop := x.cells.length = k ∧ x.cells.all AV.one = true ∧ storeAt k H a
def setO (H : AH) (id : Nat) (cs : List AV) : AH := H.set id ⟨cs, (obj H id).sz, (obj H id).rw⟩
def storeH (H : AH) (x : AV) : AV → AH
  | .ptr id off | .rptr id off _ => setO H id (splice (obj H id).cs off x.cells)
  | _ => H
def fldOk : AV → Prop
  | .ptr .. | .rptr .. | .vptr .. => True
  | _ => False
def fldV (o : Nat) : AV → AV
  | .ptr id off => .ptr id (off + o)
  | .rptr id off L => .rptr id (off + o) L
  | .vptr cs => .vptr (cs.drop o)
  | _ => .junk
def partOk (k off : Nat) : AV → Prop
  | .agg cs => off + k ≤ cs.length
  | _ => False
def partV (agg : Bool) (k off : Nat) : AV → AV
  | .agg cs => if agg then .agg ((cs.drop off).take k) else cs.getD off .junk
  | _ => .junk
def idxaOk (sz : Nat) (i : AV) : Option Nat → AV → Prop
  | none, .view cs n _ => isI i ∧ 0 ≤ asI i ∧ asI i < n ∧ cs.length = n * sz
  | none, .row _ _ n _ => isI i ∧ 0 ≤ asI i ∧ asI i < n
  | some m, .ptr .. | some m, .rptr .. => isI i ∧ 0 ≤ asI i ∧ asI i < m
  | some m, .vptr cs => isI i ∧ 0 ≤ asI i ∧ asI i < m ∧ m * sz ≤ cs.length
  | _, _ => False
def idxaV (sz : Nat) (i : AV) : AV → AV
  | .view cs _ _ | .vptr cs => .vptr (elt cs sz (asI i).toNat)
  | .row id off _ L | .rptr id off L => .rptr id (off + (asI i).toNat * sz) L
  | .ptr id off => .ptr id (off + (asI i).toNat * sz)
  | _ => .junk
def idxOk (k len : Nat) (i : AV) : AV → Prop
  | .agg cs => isI i ∧ 0 ≤ asI i ∧ asI i < len ∧ cs.length = len * k
  | _ => False
def idxV (agg : Bool) (k : Nat) (i : AV) : AV → AV
  | .agg cs => if agg then .agg (elt cs k (asI i).toNat) else cs.getD (asI i).toNat .junk
  | _ => .junk
def sidxOk (i : AV) : AV → Prop
  | .lit (.string s) => isI i ∧ 0 ≤ asI i ∧ asI i < s.size
  | _ => False
def sidxV (i : AV) : AV → AV
  | .lit (.string s) => .lit (.int .u8 (s.data.getD (asI i).toNat 0).toNat)
  | _ => .junk
def extOk (i : Nat) : AV → Prop
  | .tup vs => i < vs.length
  | _ => False
def extV (i : Nat) : AV → AV
  | .tup vs => vs.getD i .junk
  | _ => .junk
def mkifOk : AV → Prop
  | .lit v => v.oneCell' = true
  | _ => False
def mkifV (t : TypeId) : AV → AV
  | .lit v => .lit (.iface t v)
  | _ => .junk
def mkslOk (bytes : Nat) (l c : AV) : Prop := isI l ∧ isI c ∧ 0 ≤ asI l ∧ asI l ≤ asI c ∧ bytes * asI c ≤ 281474976710656 ∧ asI c ≤ 9223372036854775807
/-- A slice expression's bounds: low, high, max. -/
def bnd (d : Int) : Option AV → Int
  | none => d
  | some v => asI v
def bndI : Option AV → Prop
  | none => True
  | some v => isI v
def bndOk (n : Int) (lo hi mx : Option AV) : Prop := bndI lo ∧ bndI hi ∧ bndI mx ∧ 0 ≤ bnd 0 lo ∧ bnd 0 lo ≤ bnd n hi ∧ bnd n hi ≤ bnd n mx ∧ bnd n mx ≤ n
/-- The same for a slice whose capacity is c at least. -/
def bndR (n c : Nat) (lo hi mx : Option AV) : Prop := bndI lo ∧ bndI hi ∧ bndI mx ∧ 0 ≤ bnd 0 lo ∧ bnd 0 lo ≤ bnd n hi ∧ bnd n hi ≤ bnd c mx ∧ bnd c mx ≤ c
def rowCap (osz sz n off L : Nat) : Nat := if osz = 0 then n else max n ((L - off) / sz)
def sliceOk (sz : Nat) (H : AH) (lo hi mx : Option AV) : Option Nat → AV → Prop
  | none, .view cs n _ => bndOk n lo hi mx ∧ cs.length = n * sz
  | none, .row id off n L => id < H.length ∧ L = (obj H id).cs.length ∧ ((obj H id).sz = sz ∨ (obj H id).sz = 0) ∧ bndR n (rowCap (obj H id).sz sz n off L) lo hi mx
  | none, .lit (.slice none 0 0) => bndOk 0 lo hi mx
  | some m, .ptr id _ => id < H.length ∧ bndOk m lo hi mx
  | some m, .vptr cs => bndOk m lo hi mx ∧ m * sz ≤ cs.length
  | _, _ => False
def cut (cs : List AV) (sz : Nat) (a b : Nat) : List AV := (cs.drop (a * sz)).take ((b - a) * sz)
def sliceV (sz : Nat) (H : AH) (lo hi mx : Option AV) : Option Nat → AV → AV
  | none, .view cs n full => .view (cut cs sz (bnd 0 lo).toNat (bnd n hi).toNat) ((bnd n hi).toNat - (bnd 0 lo).toNat) ((mx.isSome || full) && decide (bnd n hi = bnd n mx))
  | none, .row id off n L => if (mx.isSome && decide (bnd n mx = bnd 0 lo)) = true then .view [] 0 true else if (mx.isSome && !decide (L ≤ off + (bnd n mx).toNat * sz)) = true then .junk else .row id (off + (bnd 0 lo).toNat * sz) ((bnd n hi).toNat - (bnd 0 lo).toNat) L
  | none, _ => .lit (.slice none 0 0)
  | some m, .ptr id off => .row id (off + (bnd 0 lo).toNat * sz) ((bnd m hi).toNat - (bnd 0 lo).toNat) (obj H id).cs.length
  | some m, .vptr cs => .view (cut cs sz (bnd 0 lo).toNat (bnd m hi).toNat) ((bnd m hi).toNat - (bnd 0 lo).toNat) false
  | _, _ => .junk
def ssliceOk (lo hi : Option AV) : AV → Prop
  | .lit (.string s) => bndOk s.size lo hi none
  | _ => False
def ssliceV (lo hi : Option AV) : AV → AV
  | .lit (.string s) => .lit (.string (s.extract (bnd 0 lo).toNat (bnd s.size hi).toNat))
  | _ => .junk
def appBase (sz : Nat) (H : AH) (x : AV) : AV → Prop
  | .lit (.slice none 0 0) => True
  | .row id off n L => id < H.length ∧ L = (obj H id).cs.length ∧ (obj H id).rw = true ∧ (obj H id).sz = sz ∧ off + n * sz ≤ L ∧ (off = 0 ∨ off + (n + srcN x) * sz ≤ L)
  | .view cs n full => full = true ∧ cs.length = n * sz ∧ (n = 0 ∨ pureL (srcC sz H x) = true)
  | _ => False
def appOk (sz bytes : Nat) (H : AH) (s x : AV) : Prop := srcOk sz H x ∧ (srcC sz H x).all AV.one = true ∧ (srcN s + srcN x) * bytes ≤ 140737488355328 ∧ appBase sz H x s
/-- An append's cells, and how many: behind all there are, or over some. -/
def appC (sz : Nat) (cs src : List AV) (off n m L : Nat) : List AV := if off + n * sz = L then cs ++ src else cs.take (off + n * sz) ++ src ++ cs.drop (off + (n + m) * sz)
def appL (sz off n m s L : Nat) : Nat := if off + n * sz = L then L + s else max L (off + (n + m) * sz)
def appV (sz : Nat) (H : AH) (x : AV) : AV → AV
  | .row id off n L => .row id off (n + srcN x) (appL sz off n (srcN x) (srcC sz H x).length L)
  | .view cs n _ => if n = 0 then .row H.length 0 (srcN x) (srcC sz H x).length else .view (cs ++ srcC sz H x) (n + srcN x) false
  | _ => .row H.length 0 (srcN x) (srcC sz H x).length
def appH (sz : Nat) (H : AH) (x : AV) : AV → AH
  | .row id off n L => setO H id (appC sz (obj H id).cs (srcC sz H x) off n (srcN x) L)
  | .view _ n _ => if n = 0 then H ++ [⟨srcC sz H x, sz, true⟩] else H
  | _ => H ++ [⟨srcC sz H x, sz, true⟩]
def copyTo (sz : Nat) (H : AH) : AV → Prop
  | .row id off n L => id < H.length ∧ L = (obj H id).cs.length ∧ (obj H id).rw = true ∧ off + n * sz ≤ L
  | _ => False
def copyOk (sz : Nat) (H : AH) (d s : AV) : Prop := srcOk sz H s ∧ (srcC sz H s).all AV.one = true ∧ copyTo sz H d
def copyN (d s : AV) : Nat := min (srcN s) (srcN d)
def copyH (sz : Nat) (H : AH) (s : AV) : AV → AH
  | .row id off n L => setO H id (splice (obj H id).cs off ((srcC sz H s).take (copyN (.row id off n L) s * sz)))
  | _ => H
def markOk (H : AH) : AV → Prop
  | .row id _ n L => id < H.length ∧ L = (obj H id).cs.length ∧ (obj H id).rw = true ∧ 0 < n
  | _ => False
def nilBase : AV → Prop
  | .lit (.slice none 0 0) => True
  | .view _ n full => n = 0 ∧ full = true
  | _ => False
def appzOk (bytes : Nat) (s n : AV) : Prop := nilBase s ∧ isI n ∧ 0 ≤ asI n ∧ (asI n).toNat * bytes ≤ 140737488355328 ∧ asI n ≤ 9223372036854775807
def viewBase (sz : Nat) : AV → Prop
  | .lit (.slice none 0 0) => True
  | .view cs n full => full = true ∧ cs.length = n * sz
  | _ => False
def appvOk (sz bytes : Nat) (H : AH) (s x : AV) : Prop := srcOk sz H x ∧ pureL (srcC sz H x) = true ∧ (srcC sz H x).all AV.one = true ∧ (srcN s + srcN x) * bytes ≤ 140737488355328 ∧ viewBase sz s
def appvV (sz : Nat) (H : AH) (x : AV) : AV → AV
  | .view cs n _ => .view (cs ++ srcC sz H x) (n + srcN x) false
  | _ => .view (srcC sz H x) (srcN x) false
def capOk : AV → Prop
  | .view _ _ full => full = true
  | .lit (.slice none 0 0) => True
  | _ => False
def clearOk (sz : Nat) (z : List Value) (H : AH) : AV → Prop
  | .row id off n L => copyTo sz H (.row id off n L) ∧ z.all Value.oneCell' = true
  | .lit (.slice none 0 0) => True
  | .view _ n _ => n = 0
  | _ => False
def clearH (z : List Value) (H : AH) : AV → AH
  | .row id off n _ => setO H id (splice (obj H id).cs off (repl n (z.map .lit)))
  | _ => H
def lenOk : Bool → AV → Prop
  | true, .lit (.string _) => True
  | false, .view .. | false, .row .. | false, .lit (.slice none 0 0) => True
  | _, _ => False
def nilcOk : AV → Prop
  | .lit (.slice none 0 0) | .view .. | .row .. => True
  | _ => False
def nilcV (neq : Bool) : AV → AV
  | .view _ n _ | .row _ _ n _ => if n = 0 then .anyb else .lit (.bool neq)
  | _ => .lit (.bool !neq)
def carryOk : AV → AV → AV → Prop
  | .lit (.int .u64 a), .lit (.int .u64 b), .lit (.int .u64 c) => 0 ≤ a ∧ a < 18446744073709551616 ∧ 0 ≤ b ∧ b < 18446744073709551616 ∧ 0 ≤ c ∧ c ≤ 1
  | _, _, _ => False
def carryV (sub : Bool) (x y c : AV) : AV :=
  if sub then .tup [.lit (.int .u64 ((asI x - asI y - asI c) % 18446744073709551616)), .lit (.int .u64 (if asI x < asI y + asI c then 1 else 0))]
  else .tup [.lit (.int .u64 ((asI x + asI y + asI c) % 18446744073709551616)), .lit (.int .u64 ((asI x + asI y + asI c) / 18446744073709551616))]
def s2apOk (len sz : Nat) : AV → Prop
  | .view cs n _ => len ≤ n ∧ cs.length = n * sz
  | .row _ _ n _ => len ≤ n
  | _ => False
def s2apV : AV → AV
  | .view cs _ _ => .vptr cs
  | .row id off _ L => .rptr id off L
  | _ => .junk
def mnV (x y : AV) : AV := match x with | .lit (.int k a) => .lit (.int k (if asI y < a then asI y else a)) | _ => .junk
def mxV (x y : AV) : AV := match x with | .lit (.int k a) => .lit (.int k (if a < asI y then asI y else a)) | _ => .junk
def zlit (z : List Value) : List AV := z.map .lit
def iside (cmp : TypeId → Bool) (ρ : IArg → AV) (H : AH) : Ins → Prop
  | .pick .. => False
  | .nilchk x => nilOk (ρ x)
  | .bin op x y => binOk op (ρ x) (ρ y)
  | .eqagg ks _ x y => aggEqOk ks (ρ x) (ρ y)
  | .eq _ tk x y => eqOk cmp tk (isC x || isC y) (ρ x) (ρ y)
  | .un op x => unOk op (ρ x)
  | .conv _ x => isI (ρ x)
  | .same x => strOk (ρ x)
  | .s2b _ x => s2bOk (ρ x)
  | .b2s x => b2sOk H (ρ x)
  | .box x => (ρ x).cells.isEmpty = false ∧ (ρ x).cells.all AV.one = true
  | .build z ps => fillOk z.length (ps.map fun p => (p.1, p.2.1, ρ p.2.2))
  | .bslice own sz len z ps => fillOk (len * sz) (ps.map fun p => (p.1, p.2.1, ρ p.2.2)) ∧ (own = false → pureL (fillv (repl len (zlit z)) (ps.map fun p => (p.1, ρ p.2.2))) = true)
  | .load _ k x => loadOk k H (ρ x)
  | .store k a x => storeOk k H (ρ a) (ρ x)
  | .fld _ x => fldOk (ρ x)
  | .part _ k off x => partOk k off (ρ x)
  | .idxa sz arr x i => idxaOk sz (ρ i) arr (ρ x)
  | .idx _ k len x i => idxOk k len (ρ i) (ρ x)
  | .sidx x i => sidxOk (ρ i) (ρ x)
  | .ext x i => extOk i (ρ x)
  | .mkif _ x => mkifOk (ρ x)
  | .mksl _ bytes _ l c => mkslOk bytes (ρ l) (ρ c)
  | .slice sz arr x lo hi mx => (mx = none ∨ hi ≠ none) ∧ sliceOk sz H (lo.map ρ) (hi.map ρ) (mx.map ρ) arr (ρ x)
  | .sslice x lo hi => ssliceOk (lo.map ρ) (hi.map ρ) (ρ x)
  | .append sz bytes s x => appOk sz bytes H (ρ s) (ρ x)
  | .copy sz d s => copyOk sz H (ρ d) (ρ s)
  | .len str x => lenOk str (ρ x)
  | .cap x => capOk (ρ x)
  | .mark x => markOk H (ρ x)
  | .dead => False
  | .isnil _ x => nilcOk (ρ x)
  | .carry _ x y c => carryOk (ρ x) (ρ y) (ρ c)
  | .s2ap len sz x => s2apOk len sz (ρ x)
  | .appz _ bytes _ s n => appzOk bytes (ρ s) (ρ n)
  | .appv sz bytes s x => appvOk sz bytes H (ρ s) (ρ x)
  | .clear sz z x => clearOk sz z H (ρ x)
  | .mn x y | .mx x y => isI (ρ x) ∧ isI (ρ y)
  | .call _ _ | .callv _ _ => False
  | .mv _ | .alloc _ | .mkfn .. | .lenc _ => True
def ival (ρ : IArg → AV) (H : AH) : Ins → AV
  | .mv x | .nilchk x | .same x | .mark x => ρ x
  | .appz sz _ _ _ n => .row H.length 0 (asI (ρ n)).toNat ((asI (ρ n)).toNat * sz)
  | .appv sz _ s x => appvV sz H (ρ x) (ρ s)
  | .isnil neq x => nilcV neq (ρ x)
  | .carry sub x y c => carryV sub (ρ x) (ρ y) (ρ c)
  | .s2ap _ _ x => s2apV (ρ x)
  | .bin op x y => binv op (ρ x) (ρ y)
  | .eqagg _ neq x y => .lit (.bool (aggEq (ρ x) (ρ y) != neq))
  | .eq neq tk x y => .lit (.bool (eqv tk (ρ x) (ρ y) != neq))
  | .un op x => unv op (ρ x)
  | .conv k x => .lit (.int k (k.wrap (asI (ρ x))))
  | .s2b own x => s2bV own H (ρ x)
  | .b2s x => b2sV H (ρ x)
  | .alloc _ | .box _ => .ptr H.length 0
  | .build z ps => .agg (fillv (zlit z) (ps.map fun p => (p.1, ρ p.2.2)))
  | .bslice own sz len z ps => if own then .row H.length 0 len (len * sz) else .view (fillv (repl len (zlit z)) (ps.map fun p => (p.1, ρ p.2.2))) len true
  | .load agg k x => loadV agg k H (ρ x)
  | .fld o x => fldV o (ρ x)
  | .part agg k off x => partV agg k off (ρ x)
  | .idxa sz _ x i => idxaV sz (ρ i) (ρ x)
  | .idx agg k _ x i => idxV agg k (ρ i) (ρ x)
  | .sidx x i => sidxV (ρ i) (ρ x)
  | .ext x i => extV i (ρ x)
  | .mkif t x => mkifV t (ρ x)
  | .mkfn f a b => .fn f (a.map ρ) (b.map ρ)
  | .mksl sz _ _ l _ => .row H.length 0 (asI (ρ l)).toNat ((asI (ρ l)).toNat * sz)
  | .slice sz arr x lo hi mx => sliceV sz H (lo.map ρ) (hi.map ρ) (mx.map ρ) arr (ρ x)
  | .sslice x lo hi => ssliceV (lo.map ρ) (hi.map ρ) (ρ x)
  | .append sz _ s x => appV sz H (ρ x) (ρ s)
  | .copy _ d s => .lit (.int .i64 (copyN (ρ d) (ρ s) : Nat))
  | .len _ x | .cap x => .lit (.int .i64 (srcN (ρ x)))
  | .clear .. => .tup []
  | .lenc n => .lit (.int .i64 n)
  | .mn x y => mnV (ρ x) (ρ y)
  | .mx x y => mxV (ρ x) (ρ y)
  | .store .. | .pick .. | .call .. | .callv .. | .dead => .junk
def inext (ρ : IArg → AV) (H : AH) : Ins → AH
  | .alloc z => H ++ [⟨zlit z, 0, true⟩]
  | .box x => H ++ [⟨(ρ x).cells, 0, true⟩]
  | .bslice own sz len z ps => if own then H ++ [⟨fillv (repl len (zlit z)) (ps.map fun p => (p.1, ρ p.2.2)), sz, true⟩] else H
  | .s2b own x => s2bH own H (ρ x)
  | .store _ a x => storeH H (ρ x) (ρ a)
  | .mksl sz _ z l _ => H ++ [⟨repl (asI (ρ l)).toNat (zlit z), sz, true⟩]
  | .append sz _ s x => appH sz H (ρ x) (ρ s)
  | .copy sz d s => copyH sz H (ρ s) (ρ d)
  | .clear _ z x => clearH z H (ρ x)
  | .appz sz _ z _ n => H ++ [⟨repl (asI (ρ n)).toNat (zlit z), sz, true⟩]
  | _ => H
/-- The guard's condition. -/
def guardK (w : Bool) (K : Bool → Prop) : AV → Prop
  | .lit (.bool b) => K (b == w)
  | .may g (.lit (.bool b)) => K (g && (b == w))
  | _ => False

inductive Ex where
  | normal | exit (id : Nat) | ret
/-- A call of function f on these values, these objects being there: it comes back with v, and with these objects. -/
abbrev CallRel := FuncId → List AV → AH → AV → AH → Prop
def callOf (pf : Pf) (ρ : IArg → AV) (C : CallRel) (H : AH) (v : AV) (H' : AH) : Ins → Prop
  | .call f ags => C f (ags.map ρ) H v H' ∧ (pf.f f = true → H' = H)
  | .callv x ags => (match ρ x with | .fn (.func f) a b => C f (a ++ ags.map ρ ++ b) H v H' | _ => False) ∧ (pf.v = true → H' = H)
  | _ => False
def pickOk (g : Bool) (c a b : AV) : Prop := okMay g c ∧ isB c.un = true ∧ okMay (g && asB c.un) a ∧ okMay (g && !asB c.un) b
def iopwp (pf : Pf) (C : CallRel) (o : IOp) (K : Env → AH → Prop) (E : Env) (H : AH) : Prop :=
  match o.g, o.o with
  | none, .pick c a b => pickOk true (ev E c) (ev E a) (ev E b) ∧ K (upd E o.d (pickv (ev E c).un (ev E a).un (ev E b).un)) H
  | none, .call f ags => ∃ v H', callOf pf (ev E) C H v H' (.call f ags) ∧ K (upd E o.d v) H'
  | none, .callv x ags => ∃ v H', callOf pf (ev E) C H v H' (.callv x ags) ∧ K (upd E o.d v) H'
  | none, io => iside pf.c (ev E) H io ∧ K (upd E o.d (ival (ev E) H io)) (inext (ev E) H io)
  | some (d, w), .pick c a b => guardK w (fun g => pickOk g (ev E c) (ev E a) (ev E b) ∧ K (upd E o.d (.may g (pickv (ev E c).un (ev E a).un (ev E b).un))) H) (E d)
  | some (d, w), .call f ags => guardK w (fun g => (∀ x ∈ ags, okMay g (ev E x)) ∧ ∃ v, (g = true → callOf pf (fun x => (ev E x).un) C H v H (.call f ags)) ∧ K (upd E o.d (.may g v)) H) (E d)
  | some (d, w), .callv x ags => guardK w (fun g => (∀ y ∈ x :: ags, okMay g (ev E y)) ∧ ∃ v, (g = true → callOf pf (fun x => (ev E x).un) C H v H (.callv x ags)) ∧ K (upd E o.d (.may g v)) H) (E d)
  | some (d, w), io => guardK w (fun g => (∀ x ∈ io.args, okMay g (ev E x)) ∧ (g = true → iside pf.c (fun x => (ev E x).un) H io) ∧ K (upd E o.d (.may g (ival (fun x => (ev E x).un) H io))) H) (E d)
/-- A call's contract beside further objects. -/
def frC (C : CallRel) : CallRel := fun f args H v H' => H' = H ∧ ∀ G, C f args (H ++ G) v (H ++ G)
/-- An object that is not there yet. -/
def dumO : AObj := ⟨[], 0, true⟩
def aval (id : Nat) (ρ : IArg → AV) (H0 : AH) : Ins → AV
  | .bslice _ sz len _ _ => .row id 0 len (len * sz)
  | .mksl sz _ _ l _ => .row id 0 (asI (ρ l)).toNat ((asI (ρ l)).toNat * sz)
  | .append sz _ _ x => .row id 0 (srcN (ρ x)) (srcC sz H0 (ρ x)).length
  | _ => .ptr id 0
def aobj (ρ : IArg → AV) (H0 : AH) : Ins → AObj
  | .alloc z => ⟨zlit z, 0, true⟩
  | .box x => ⟨(ρ x).cells, 0, true⟩
  | .bslice _ sz len z ps => ⟨fillv (repl len (zlit z)) (ps.map fun p => (p.1, ρ p.2.2)), sz, true⟩
  | .mksl sz _ z l _ => ⟨repl (asI (ρ l)).toNat (zlit z), sz, true⟩
  | .append sz _ _ x => ⟨srcC sz H0 (ρ x), sz, true⟩
  | _ => dumO
def newOk (ρ : IArg → AV) : Ins → Prop
  | .append _ _ s _ => nilBase (ρ s)
  | .alloc _ | .box _ | .mksl .. => True
  | .bslice own .. => own = true
  | _ => False
def apart : AV → AV → Prop
  | .ptr i _, .ptr j _ | .ptr i _, .rptr j _ _ | .rptr i _ _, .ptr j _ | .rptr i _ _, .rptr j _ _ => i ≠ j
  | .vptr _, _ | _, .vptr _ => True
  | .ptr i _, .row j _ _ _ | .rptr i _ _, .row j _ _ _ | .row j _ _ _, .ptr i _ | .row j _ _ _, .rptr i _ _ | .row i _ _ _, .row j _ _ _ => i ≠ j
  | .view _ _ _, _ | _, .view _ _ _ => True
  | .lit (.slice none 0 0), _ | _, .lit (.slice none 0 0) => True
  | _, _ => False
/-- An operation of a drawn region, ahead of what follows; 'base': how many objects were there ahead of the region. -/
def rwp (pf : Pf) (C : CallRel) (base : Nat) (x : RA) (K : Env → AH → Prop) (E : Env) (H : AH) : Prop :=
  match x.k with
  | .l => iopwp pf C x.o K E H
  | .m => iopwp pf C x.o (fun E' H' => H'.take base = H.take base ∧ K E' H') E H
  | .w => base ≤ H.length ∧ iopwp pf C x.o K E H
  | .e => iopwp pf (frC C) x.o (fun E' _ => K E' H) E (H.take base)
  | .a r => (base + r < H.length ∧ obj H (base + r) = dumO) ∧ newOk (ev E) x.o.o ∧ iside pf.c (ev E) (H.take base) x.o.o ∧ K (upd E x.o.d (aval (base + r) (ev E) (H.take base) x.o.o)) (H.set (base + r) (aobj (ev E) (H.take base) x.o.o))
def absR (pf : Pf) (C : CallRel) (base : Nat) : List RA → (Env → AH → Prop) → Env → AH → Prop
  | [], K => K
  | x :: r, K => fun E H => (∀ a ∈ x.ds, apart (ev E a).un (ev E (adrD x.o.o)).un) ∧ rwp pf C base x (absR pf C base r K) E H
def iwp (pf : Pf) (C : CallRel) : IC → (Ex → Env → AH → Prop) → Env → AH → Prop
  | .done, Q, E, H => Q .normal E H
  | .op o k, Q, E, H => iopwp pf C o (iwp pf C k Q) E H
  | .keep l k, Q, E, H => iwp pf C k Q (look (keepE l E)) H
  | .reg n l k, Q, E, H => absR pf C H.length l (iwp pf C k Q) E (H ++ List.replicate n dumO)
  | .ite c a b k, Q, E, H =>
    let Q' : Ex → Env → AH → Prop := fun e E H => match e with | .normal => iwp pf C k Q E H | e => Q e E H
    match ev E c with
    | .lit (.bool t) => (t = true → iwp pf C a Q' E H) ∧ (t = false → iwp pf C b Q' E H)
    | .anyb => iwp pf C a Q' E H ∧ iwp pf C b Q' E H
    | _ => False
  | .block id b k, Q, E, H => iwp pf C b (fun e E H => match e with
    | .normal => iwp pf C k Q E H
    | .exit i => if i = id then iwp pf C k Q E H else Q (.exit i) E H
    | .ret => Q .ret E H) E H
  | .loop b, Q, E, H => ∃ (I : Nat → Env → AH → Prop) (n : Nat), I n E H ∧ ∀ n E H, I n E H → iwp pf C b (fun e E' H' => match e with
    | .normal => ∃ n', n' < n ∧ I n' E' H'
    | e => Q e E' H') E H
  | .exit id, Q, E, H => Q (.exit id) E H
  | .ret, Q, E, H => Q .ret E H
end Go.Proofs.Ytgfploghjpbcaaa.Eng

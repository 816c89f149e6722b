/- SHA-256 and HMAC, by definition. (No program in sight.) -/
import Derived.Test.YtgfploghjpbcaaaEngU
import Derived.Test.YtgfploghjpbcaaaMEc
import Derived.Test.YtgfploghjpbcaaaMNum
import Derived.Test.YtgfploghjpbcaaaCpt
namespace Go.Proofs.Ytgfploghjpbcaaa.Eng
open Go
set_option linter.unusedVariables false
set_option linter.unusedSimpArgs false
/-- A word turned right. -/
def rotr (k x : Nat) : Nat := x / 2 ^ k + x % 2 ^ k * 2 ^ (32 - k)
def big1 (x : Nat) : Nat := rotr 6 x ^^^ rotr 11 x ^^^ rotr 25 x
def big0 (x : Nat) : Nat := rotr 2 x ^^^ rotr 13 x ^^^ rotr 22 x
def sml0 (x : Nat) : Nat := rotr 7 x ^^^ rotr 18 x ^^^ x / 8
def sml1 (x : Nat) : Nat := rotr 17 x ^^^ rotr 19 x ^^^ x / 1024
def chN (e f g : Nat) : Nat := (e &&& f) ^^^ ((4294967295 - e) &&& g)
def majN (a b c : Nat) : Nat := (a &&& b) ^^^ (a &&& c) ^^^ (b &&& c)
def K256 : List Nat := [1116352408, 1899447441, 3049323471, 3921009573, 961987163, 1508970993, 2453635748, 2870763221, 3624381080, 310598401, 607225278, 1426881987, 1925078388, 2162078206, 2614888103, 3248222580, 3835390401, 4022224774, 264347078, 604807628, 770255983, 1249150122, 1555081692, 1996064986, 2554220882, 2821834349, 2952996808, 3210313671, 3336571891, 3584528711, 113926993, 338241895, 666307205, 773529912, 1294757372, 1396182291, 1695183700, 1986661051, 2177026350, 2456956037, 2730485921, 2820302411, 3259730800, 3345764771, 3516065817, 3600352804, 4094571909, 275423344, 430227734, 506948616, 659060556, 883997877, 958139571, 1322822218, 1537002063, 1747873779, 1955562222, 2024104815, 2227730452, 2361852424, 2428436474, 2756734187, 3204031479, 3329325298]
def IV256 : List Nat := [1779033703, 3144134277, 1013904242, 2773480762, 1359893119, 2600822924, 528734635, 1541459225]
/-- The next word, the last ones first. -/
def nxw (l : List Nat) : Nat := (sml1 (l.getD 1 0) + l.getD 6 0 + sml0 (l.getD 14 0) + l.getD 15 0) % (4294967296 : Nat)
def sch : Nat → List Nat → List Nat
  | 0, l => l
  | n + 1, l => CheckFast.force (nxw l) fun x => sch n (x :: l)
theorem sch_out : ∀ n l, sch (n + 1) l = nxw (sch n l) :: sch n l
  | 0, l => by simp only [sch, CheckFast.force_eq]
  | n + 1, l => by
    rw [sch, CheckFast.force_eq, sch_out n, show sch (n + 1) l = sch n (nxw l :: l) by rw [sch, CheckFast.force_eq]]
theorem sch_length : ∀ n l, (sch n l).length = l.length + n
  | 0, l => rfl
  | n + 1, l => by rw [sch_out, List.length_cons, sch_length n]; omega
/-- A round. -/
def rnd (s : List Nat) (kw : Nat × Nat) : List Nat :=
  match s with
  | [a, b, c, d, e, f, g, h] => CheckFast.force (h + big1 e + chN e f g + kw.1 + kw.2) fun t => CheckFast.force ((t + (big0 a + majN a b c)) % (4294967296 : Nat)) fun x => CheckFast.force ((d + t) % (4294967296 : Nat)) fun y => [x, a, b, c, y, e, f, g]
  | s => s
theorem rnd_eq (a b c d e f g h k w : Nat) : rnd [a, b, c, d, e, f, g, h] (k, w) = [((h + big1 e + chN e f g + k + w) + (big0 a + majN a b c)) % (4294967296 : Nat), a, b, c, (d + (h + big1 e + chN e f g + k + w)) % (4294967296 : Nat), e, f, g] := by
  simp only [rnd, CheckFast.force_eq]
/-- The words of a block. -/
def w16 (b : List UInt8) : List Nat := (List.range 16).map fun i => be ((b.drop (4 * i)).take 4)
def words (b : List UInt8) : List Nat := (sch 48 (w16 b).reverse).reverse
/-- A block is taken in. -/
def comp1 (s : List Nat) (b : List UInt8) : List Nat := List.zipWith (fun x y => (x + y) % (4294967296 : Nat)) s ((K256.zip (words b)).foldl rnd s)
/-- So many blocks of bytes. -/
def absb : Nat → List Nat → List UInt8 → List Nat
  | 0, s, _ => s
  | n + 1, s, l => absb n (comp1 s (l.take 64)) (l.drop 64)
theorem absb_out : ∀ n s l, absb (n + 1) s l = comp1 (absb n s l) ((l.drop (64 * n)).take 64)
  | 0, s, l => rfl
  | n + 1, s, l => by
    rw [absb, absb_out n, absb, List.drop_drop]
    congr 3
    omega
theorem absb_append : ∀ n m s l r, l.length = 64 * n → absb (n + m) s (l ++ r) = absb m (absb n s l) r
  | 0, m, s, l, r, h => by
    obtain rfl : l = [] := List.eq_nil_of_length_eq_zero (by omega)
    rw [Nat.zero_add]; rfl
  | n + 1, m, s, l, r, h => by
    rw [show n + 1 + m = (n + m) + 1 by omega, absb, absb, List.take_append_of_le_length (by omega), List.drop_append_of_le_length (by omega), absb_append n m _ _ _ (by rw [List.length_drop]; omega)]
/-- What stands behind a text of so many bytes. -/
def padn (n : Nat) : Nat := (119 - n % 64) % 64
def pad (n : Nat) : List UInt8 := 128 :: (List.replicate (padn n) 0 ++ beN 8 (8 * n))
theorem pad_length (n : Nat) : (n + (pad n).length) % 64 = 0 ∧ (pad n).length = padn n + 9 := by
  have : (pad n).length = padn n + 9 := by simp [pad, beN_length]
  refine ⟨?_, this⟩
  rw [this, padn]; omega
def outS (s : List Nat) : List UInt8 := s.flatMap (beN 4)
def sha (l : List UInt8) : List UInt8 := outS (absb ((l.length + padn l.length + 9) / 64) IV256 (l ++ pad l.length))
/-- A key's block. -/
def kblk (key : List UInt8) (x : UInt8) : List UInt8 :=
  let k := if 64 < key.length then sha key else key
  (k ++ List.replicate (64 - k.length) 0).map (· ^^^ x)
def hmac (key text : List UInt8) : List UInt8 := sha (kblk key 92 ++ sha (kblk key 54 ++ text))
theorem rnd_len {s : List Nat} (h : s.length = 8) (kw : Nat × Nat) : (rnd s kw).length = 8 := by
  match s, h with
  | [a, b, c, d, e, f, g, h], _ => rw [rnd_eq]; rfl
theorem rnds_len {s : List Nat} (h : s.length = 8) : ∀ l : List (Nat × Nat), (l.foldl rnd s).length = 8 := by
  intro l
  induction l generalizing s with
  | nil => exact h
  | cons x r ih => exact ih (rnd_len h x)
theorem w16_length (b : List UInt8) : (w16 b).length = 16 := by simp [w16]
theorem words_length (b : List UInt8) : (words b).length = 64 := by simp [words, sch_length, w16_length]
theorem comp1_length {s : List Nat} (h : s.length = 8) (b : List UInt8) : (comp1 s b).length = 8 := by
  rw [comp1, List.length_zipWith, rnds_len h, h]; rfl
theorem absb_length : ∀ n s l, s.length = 8 → (absb n s l).length = 8
  | 0, s, l, h => h
  | n + 1, s, l, h => absb_length n _ _ (comp1_length h _)
theorem comp1_lt {s : List Nat} (b : List UInt8) : ∀ x ∈ comp1 s b, x < (4294967296 : Nat) := by
  intro x hx
  rw [comp1, List.mem_iff_getElem] at hx
  obtain ⟨i, hi, rfl⟩ := hx
  rw [List.getElem_zipWith]
  exact Nat.mod_lt _ (by decide)
theorem absb_lt : ∀ n s l, (∀ x ∈ s, x < (4294967296 : Nat)) → ∀ x ∈ absb n s l, x < (4294967296 : Nat)
  | 0, s, l, h => h
  | n + 1, s, l, h => absb_lt n _ _ (comp1_lt _)
theorem outS_length (s : List Nat) : (outS s).length = 4 * s.length := by
  induction s with
  | nil => rfl
  | cons a r ih => rw [outS, List.flatMap_cons, List.length_append, beN_length, List.length_cons]; rw [outS] at ih; omega
theorem IV_length : IV256.length = 8 := rfl
theorem sha_length (l : List UInt8) : (sha l).length = 32 := by rw [sha, outS_length, absb_length _ _ _ IV_length]
theorem hmac_length (k t : List UInt8) : (hmac k t).length = 32 := sha_length _
theorem kblk_length (k : List UInt8) (x : UInt8) : (kblk k x).length = 64 := by
  simp only [kblk, List.length_map, List.length_append, List.length_replicate]
  have := sha_length k
  split <;> omega
end Go.Proofs.Ytgfploghjpbcaaa.Eng
/- Nonces and signatures, by definition. (No program in sight.) -/
namespace Go.Proofs.Ytgfploghjpbcaaa.Eng
open Go
set_option linter.unusedVariables false
set_option linter.unusedSimpArgs false
def maySc (a : Nat) : Bool := !(a == 0) && Nat.blt a (115792089210356248762697446949407573529996955224135760342422259061068512044369 : Nat)
theorem maySc_iff (a : Nat) : maySc a = true ↔ 0 < a ∧ a < (115792089210356248762697446949407573529996955224135760342422259061068512044369 : Nat) := by
  unfold maySc
  rw [Bool.and_eq_true, Bool.not_eq_true', beq_eq_false_iff_ne, Nat.blt_eq]
  omega
/-- A source of numbers: K and V. -/
def mixS (k v more : List UInt8) : List UInt8 × List UInt8 := (hmac k (v ++ more), hmac (hmac k (v ++ more)) v)
def text (d m : Nat) : List UInt8 := beN 32 d ++ beN 32 m
def beginS (d m : Nat) : List UInt8 × List UInt8 :=
  let a := mixS (List.replicate 32 0) (List.replicate 32 1) (0 :: text d m)
  mixS a.1 a.2 (1 :: text d m)
/-- The sources behind so many numbers; the numbers. -/
def srcS (d m : Nat) : Nat → List UInt8 × List UInt8
  | 0 => beginS d m
  | i + 1 => mixS (srcS d m i).1 (hmac (srcS d m i).1 (srcS d m i).2) [0]
def numS (d m i : Nat) : Nat := be (hmac (srcS d m i).1 (srcS d m i).2)
/-- The candidates among the first so many numbers, up to so many. -/
def candS (d m many : Nat) : Nat → List Nat
  | 0 => []
  | i + 1 => if (candS d m many i).length = many then candS d m many i else if maySc (numS d m i) then candS d m many i ++ [numS d m i] else candS d m many i
theorem candS_mem (d m many : Nat) : ∀ i, ∀ k ∈ candS d m many i, maySc k = true
  | 0, k, h => by cases h
  | i + 1, k, h => by
    rw [candS] at h
    split at h
    · exact candS_mem d m many i k h
    · split at h
      · rename_i hm
        rcases List.mem_append.1 h with h | h
        · exact candS_mem d m many i k h
        · obtain rfl : k = _ := by simpa using h
          exact hm
      · exact candS_mem d m many i k h
theorem candS_le (d m many : Nat) : ∀ i, (candS d m many i).length ≤ many
  | 0 => Nat.zero_le _
  | i + 1 => by
    have := candS_le d m many i
    rw [candS]
    split
    · exact this
    · split
      · rw [List.length_append]; simp only [List.length_cons, List.length_nil]; omega
      · exact this
theorem candS_len (d m many : Nat) : ∀ i, (candS d m many i).length ≤ i
  | 0 => Nat.le_refl _
  | i + 1 => by
    have := candS_len d m many i
    rw [candS]
    split
    · omega
    · split
      · rw [List.length_append]; simp only [List.length_cons, List.length_nil]; omega
      · omega
/-- Points: the base; multiples. -/
def baseA : Aff := .pt (48439561293906451759052585252797914202762949526041747995844080717082404635286 : Nat) (36134250956749795798585127919587881956611106672985015071877198253568414405109 : Nat)
noncomputable def mulA (k : Nat) (a : Aff) : Aff := amk (115792089210356248762697446949407573530086143415290314195533631308867097853951 : Nat) a (blen k) k
def Aff.x : Aff → Nat
  | .far => 0
  | .pt x _ => x
def Aff.y : Aff → Nat
  | .far => 0
  | .pt _ y => y
def Aff.isFar : Aff → Bool
  | .far => true
  | .pt _ _ => false
noncomputable def rOf (k : Nat) : Nat := (mulA k baseA).x % (115792089210356248762697446949407573529996955224135760342422259061068512044369 : Nat)
noncomputable def sOf (d k m : Nat) : Nat := fmul (115792089210356248762697446949407573529996955224135760342422259061068512044369 : Nat) (minv (115792089210356248762697446949407573529996955224135760342422259061068512044369 : Nat) k) (fadd (115792089210356248762697446949407573529996955224135760342422259061068512044369 : Nat) m (fmul (115792089210356248762697446949407573529996955224135760342422259061068512044369 : Nat) (rOf k) d))
/-- The signature with a nonce; whether it counts. -/
noncomputable def goodS (d m k : Nat) : Bool := maySc (rOf k) && maySc (sOf d k m)
noncomputable def signS (d : Nat) (h : List UInt8) : Option (Nat × Nat) :=
  if (candS d (be h % (115792089210356248762697446949407573529996955224135760342422259061068512044369 : Nat)) 16 100).length < 16 then none else
  ((candS d (be h % (115792089210356248762697446949407573529996955224135760342422259061068512044369 : Nat)) 16 100).find? (goodS d (be h % (115792089210356248762697446949407573529996955224135760342422259061068512044369 : Nat)))).map fun k => (rOf k, sOf d k (be h % (115792089210356248762697446949407573529996955224135760342422259061068512044369 : Nat)))
def onP (a : Aff) : Prop := onA (115792089210356248762697446949407573530086143415290314195533631308867097853951 : Nat) (41058363725152142129326129780047268409114441015993725554835256314039467401291 : Nat) a
noncomputable def verS (q : Aff) (h : List UInt8) (r s : Nat) : Bool :=
  open Classical in
  decide (onP q) && !q.isFar && maySc r && maySc s &&
  (let p := aadd (115792089210356248762697446949407573530086143415290314195533631308867097853951 : Nat) (mulA (fmul (115792089210356248762697446949407573529996955224135760342422259061068512044369 : Nat) (be h % (115792089210356248762697446949407573529996955224135760342422259061068512044369 : Nat)) (minv (115792089210356248762697446949407573529996955224135760342422259061068512044369 : Nat) s)) baseA) (mulA (fmul (115792089210356248762697446949407573529996955224135760342422259061068512044369 : Nat) r (minv (115792089210356248762697446949407573529996955224135760342422259061068512044369 : Nat) s)) q)
   !p.isFar && p.x % (115792089210356248762697446949407573529996955224135760342422259061068512044369 : Nat) == r)
end Go.Proofs.Ytgfploghjpbcaaa.Eng
/- Layer 5: the curve's own numbers; what is reckoned in. -/
namespace Go.Proofs.Ytgfploghjpbcaaa.Eng
open Go Go.Proofs
set_option linter.unusedVariables false
set_option linter.unusedSimpArgs false
set_option maxRecDepth 10000
/-- The curve: a field, and its methods. -/
def crv (p : Nat) : List AV := [.ptr p 0, .fn (.func F.field_Field_Add) [.ptr p 0] [], .fn (.func F.field_Field_Sub) [.ptr p 0] [], .fn (.func F.field_Field_Mul) [.ptr p 0] []]
theorem crv_take (p : Nat) : (crv p).take 4 = crv p := rfl
theorem crv_len (p : Nat) : (crv p).length = 4 := rfl
theorem crv_one (p : Nat) : (crv p).all AV.one = true := rfl
theorem crv_ne (p : Nat) : (crv p).isEmpty = false := rfl
theorem crv_g0 (p : Nat) : (crv p).getD 0 .junk = .ptr p 0 := rfl
theorem crv_g1 (p : Nat) : (crv p).getD 1 .junk = .fn (.func F.field_Field_Add) [.ptr p 0] [] := rfl
theorem crv_g2 (p : Nat) : (crv p).getD 2 .junk = .fn (.func F.field_Field_Sub) [.ptr p 0] [] := rfl
theorem crv_g3 (p : Nat) : (crv p).getD 3 .junk = .fn (.func F.field_Field_Mul) [.ptr p 0] [] := rfl
theorem crv_spl (p : Nat) : splice [.lit (.pointer none), .lit .nilFunc, .lit .nilFunc, .lit .nilFunc] 0 (crv p) = crv p := rfl
/-- A point's cells. -/
def pcell (x y : Nat) (f : Bool) : List AV := num x ++ (num y ++ [Bl f])
theorem pc_len (x y : Nat) (f : Bool) : (pcell x y f).length = 9 := by simp [pcell, wd_length]
theorem pc_one (x y : Nat) (f : Bool) : (pcell x y f).all AV.one = true := by rw [pcell, List.all_append, List.all_append, one_wd, one_wd]; rfl
theorem pc_ne (x y : Nat) (f : Bool) : (pcell x y f).isEmpty = false := rfl
theorem pc_x (x y : Nat) (f : Bool) : (pcell x y f).take 4 = num x := List.take_left' (wd_length 4 x)
theorem pc_y (x y : Nat) (f : Bool) : ((pcell x y f).drop 4).take 4 = num y := by rw [pcell, List.drop_left' (wd_length 4 x), List.take_left' (wd_length 4 y)]
theorem pc_f (x y : Nat) (f : Bool) : (pcell x y f).getD 8 .junk = Bl f := by
  have : pcell x y f = (num x ++ num y) ++ [Bl f] := by simp [pcell]
  rw [this]; exact getD_right (j := 0) (by simp [wd_length]) _
theorem pc_take (x y : Nat) (f : Bool) : (pcell x y f).take 9 = pcell x y f := List.take_of_length_le (by rw [pc_len]; exact Nat.le_refl _)
abbrev ZP : List AV := [Z0, Z0, Z0, Z0, Z0, Z0, Z0, Z0, Bl false]
theorem pc_spl (x y : Nat) (f : Bool) : splice ZP 0 (pcell x y f) = pcell x y f := splice_all (by rw [pc_len]; rfl)
theorem pc_splx (x : Nat) : splice ZP 0 (num x) = pcell x 0 false := by
  rw [splice_eq' _ _ _ (by rw [wd_length]; decide), wd_length]; rfl
theorem pc_sply (x y' y : Nat) (f : Bool) : splice (pcell x y' f) 4 (num y) = pcell x y f := by
  rw [splice_eq' _ _ _ (by rw [wd_length, pc_len]; decide), pc_x, wd_length]
  have : (pcell x y' f).drop (4 + 4) = [Bl f] := by
    rw [← List.drop_drop, pcell, List.drop_left' (wd_length 4 x), List.drop_left' (wd_length 4 y')]
  rw [this, pcell, List.append_assoc]
/-- Three numbers' cells. -/
def jc (t : J3) : List AV := num t.x ++ (num t.y ++ num t.z)
theorem jc_len (t : J3) : (jc t).length = 12 := by simp [jc, wd_length]
theorem jc_one (t : J3) : (jc t).all AV.one = true := by rw [jc, List.all_append, List.all_append, one_wd, one_wd, one_wd]; rfl
theorem jc_ne (t : J3) : (jc t).isEmpty = false := rfl
theorem jc_x (t : J3) : (jc t).take 4 = num t.x := List.take_left' (wd_length 4 _)
theorem jc_y (t : J3) : ((jc t).drop 4).take 4 = num t.y := by rw [jc, List.drop_left' (wd_length 4 _), List.take_left' (wd_length 4 _)]
theorem jc_z (t : J3) : ((jc t).drop 8).take 4 = num t.z := by
  have : jc t = (num t.x ++ num t.y) ++ num t.z := by simp [jc]
  rw [this, List.drop_left' (by simp [wd_length]), num_take]
theorem jc_take (t : J3) : (jc t).take 12 = jc t := List.take_of_length_le (by rw [jc_len]; exact Nat.le_refl _)
abbrev ZJ : List AV := [Z0, Z0, Z0, Z0, Z0, Z0, Z0, Z0, Z0, Z0, Z0, Z0]
theorem jc_spl (t : J3) : splice ZJ 0 (jc t) = jc t := splice_all (by rw [jc_len]; rfl)
theorem jc_spl' (s t : J3) : splice (jc s) 0 (jc t) = jc t := splice_all (by rw [jc_len, jc_len])
theorem jc_splx (x : Nat) : splice ZJ 0 (num x) = jc ⟨x, 0, 0⟩ := by
  rw [splice_eq' _ _ _ (by rw [wd_length]; decide), wd_length]
  have e : num 0 = [Z0, Z0, Z0, Z0] := rfl
  simp [jc, e]
theorem jc_sply (x y' y z : Nat) : splice (jc ⟨x, y', z⟩) 4 (num y) = jc ⟨x, y, z⟩ := by
  rw [splice_eq' _ _ _ (by rw [wd_length, jc_len]; decide), jc_x, wd_length]
  have : (jc ⟨x, y', z⟩).drop (4 + 4) = num z := by
    rw [← List.drop_drop, jc, List.drop_left' (wd_length 4 x), List.drop_left' (wd_length 4 y')]
  rw [this, jc, List.append_assoc]
theorem jc_splz (x y z' z : Nat) : splice (jc ⟨x, y, z'⟩) 8 (num z) = jc ⟨x, y, z⟩ := by
  have e : jc ⟨x, y, z'⟩ = (num x ++ num y) ++ num z' := by simp [jc]
  rw [e, splice_eq' _ _ _ (by simp [wd_length]), wd_length, List.take_left' (by simp [wd_length]), List.drop_eq_nil_of_le (by simp [wd_length])]
  simp [jc]
theorem ltP {a : Nat} (h : a < (115792089210356248762697446949407573530086143415290314195533631308867097853951 : Nat)) : a < (18446744073709551616 : Nat) ^ 4 := Nat.lt_trans h (by decide)
theorem num_small {n : Nat} (h : n < (18446744073709551616 : Nat)) : num n = [W n, Z0, Z0, Z0] := by
  simp only [wd, dig, List.map_cons, List.map_nil, Nat.mod_eq_of_lt h, Nat.div_eq_of_lt h]; rfl
theorem cM {H : AH} {p a b : Nat} (hf : FF H p (115792089210356248762697446949407573530086143415290314195533631308867097853951 : Nat)) (ha : a < (115792089210356248762697446949407573530086143415290314195533631308867097853951 : Nat)) (hb : b < (115792089210356248762697446949407573530086143415290314195533631308867097853951 : Nat)) : Called Try.prog F.field_Field_Mul [.ptr p 0, .agg (num a), .agg (num b)] H (.agg (num (fmul (115792089210356248762697446949407573530086143415290314195533631308867097853951 : Nat) a b))) H := t_fmul hf mo_P (ltP ha) (ltP hb)
theorem cA {H : AH} {p a b : Nat} (hf : FF H p (115792089210356248762697446949407573530086143415290314195533631308867097853951 : Nat)) (ha : a < (115792089210356248762697446949407573530086143415290314195533631308867097853951 : Nat)) (hb : b < (115792089210356248762697446949407573530086143415290314195533631308867097853951 : Nat)) : Called Try.prog F.field_Field_Add [.ptr p 0, .agg (num a), .agg (num b)] H (.agg (num (fadd (115792089210356248762697446949407573530086143415290314195533631308867097853951 : Nat) a b))) H := t_fadd hf.fd mo_P.lt (by decide) (ltP ha) (ltP hb)
theorem cS {H : AH} {p a b : Nat} (hf : FF H p (115792089210356248762697446949407573530086143415290314195533631308867097853951 : Nat)) (ha : a < (115792089210356248762697446949407573530086143415290314195533631308867097853951 : Nat)) (hb : b < (115792089210356248762697446949407573530086143415290314195533631308867097853951 : Nat)) : Called Try.prog F.field_Field_Sub [.ptr p 0, .agg (num a), .agg (num b)] H (.agg (num (fsub (115792089210356248762697446949407573530086143415290314195533631308867097853951 : Nat) a b))) H := by
  have := t_fsub hf.fd mo_P.lt (by decide) (ltP ha) (ltP hb)
  rwa [Nat.mod_eq_of_lt ha, Nat.mod_eq_of_lt hb] at this
theorem t_P {H : AH} : Called Try.prog F.point_P [] H (.agg (num (115792089210356248762697446949407573530086143415290314195533631308867097853951 : Nat))) H := by
  refine e_point_P ?_
  simp only [ic_point_P, go_sem, fillOk, fillv]
  have e : [AV.lit (.int .u64 18446744073709551615), .lit (.int .u64 4294967295), Z0, .lit (.int .u64 18446744069414584321)] = num (115792089210356248762697446949407573530086143415290314195533631308867097853951 : Nat) := rfl
  simp only [e, num_splice, num_take, one_wd, wd_length, go_sem]
  exact leave_drop rfl
theorem t_b {H : AH} : Called Try.prog F.point_b [] H (.agg (num (41058363725152142129326129780047268409114441015993725554835256314039467401291 : Nat))) H := by
  refine e_point_b ?_
  simp only [ic_point_b, go_sem, fillOk, fillv]
  have e : [AV.lit (.int .u64 4309448131093880907), .lit (.int .u64 7285987128567378166), .lit (.int .u64 12964664127075681980), .lit (.int .u64 6540974713487397863)] = num (41058363725152142129326129780047268409114441015993725554835256314039467401291 : Nat) := rfl
  simp only [e, num_splice, num_take, one_wd, wd_length, go_sem]
  exact leave_drop rfl
theorem t_base {H : AH} : Called Try.prog F.point_Base [] H (.agg (pcell (48439561293906451759052585252797914202762949526041747995844080717082404635286 : Nat) (36134250956749795798585127919587881956611106672985015071877198253568414405109 : Nat) false)) H := by
  refine e_point_Base ?_
  simp only [ic_point_Base, go_sem, fillOk, fillv]
  have e1 : [AV.lit (.int .u64 17627433388654248598), .lit (.int .u64 8575836109218198432), .lit (.int .u64 17923454489921339634), .lit (.int .u64 7716867327612699207)] = num (48439561293906451759052585252797914202762949526041747995844080717082404635286 : Nat) := rfl
  have e2 : [AV.lit (.int .u64 14678990851816772085), .lit (.int .u64 3156516839386865358), .lit (.int .u64 10297457778147434006), .lit (.int .u64 5756518291402817435)] = num (36134250956749795798585127919587881956611106672985015071877198253568414405109 : Nat) := rfl
  have e3 : [AV.lit (.int .u64 17627433388654248598), .lit (.int .u64 8575836109218198432), .lit (.int .u64 17923454489921339634), .lit (.int .u64 7716867327612699207), .lit (.int .u64 14678990851816772085), .lit (.int .u64 3156516839386865358), .lit (.int .u64 10297457778147434006), .lit (.int .u64 5756518291402817435), Bl false] = pcell (48439561293906451759052585252797914202762949526041747995844080717082404635286 : Nat) (36134250956749795798585127919587881956611106672985015071877198253568414405109 : Nat) false := rfl
  simp only [e3, pc_spl, pc_take, pc_one, pc_len, go_sem]
  exact leave_drop rfl
theorem t_sq {H : AH} {p a : Nat} (hf : FF H p (115792089210356248762697446949407573530086143415290314195533631308867097853951 : Nat)) (ha : a < (115792089210356248762697446949407573530086143415290314195533631308867097853951 : Nat)) : Called Try.prog F.point_curve_square [.agg (crv p), .agg (num a)] H (.agg (num (fmul (115792089210356248762697446949407573530086143415290314195533631308867097853951 : Nat) a a))) H := by
  refine e_point_curve_square ?_
  have hf' : ∀ G, FF (H ++ G) p (115792089210356248762697446949407573530086143415290314195533631308867097853951 : Nat) := fun G => hf.app
  simp only [ic_point_curve_square, go_sem, crv_one, crv_ne, crv_len, crv_g3, one_wd, num_ne, num_take, wd_length]
  refine callW_some (cM (hf' _) ha ha) (fun _ => rfl) ?_
  simp only [go_sem, num_take, num_splice, one_wd, wd_length]
  exact leave_drop rfl
theorem t_times {H : AH} {p a n : Nat} (hf : FF H p (115792089210356248762697446949407573530086143415290314195533631308867097853951 : Nat)) (ha : a < (115792089210356248762697446949407573530086143415290314195533631308867097853951 : Nat)) (hn : n < (18446744073709551616 : Nat)) : Called Try.prog F.point_curve_times [.agg (crv p), .agg (num a), W n] H (.agg (num (fmul (115792089210356248762697446949407573530086143415290314195533631308867097853951 : Nat) a n))) H := by
  refine e_point_curve_times ?_
  have hf' : ∀ G, FF (H ++ G) p (115792089210356248762697446949407573530086143415290314195533631308867097853951 : Nat) := fun G => hf.app
  simp only [ic_point_curve_times, go_sem, crv_one, crv_ne, crv_len, crv_g3, one_wd, num_ne, num_take, wd_length, fillOk, fillv, ← num_small hn]
  refine callW_some (cM (hf' _) ha (Nat.lt_trans hn (by decide))) (fun _ => rfl) ?_
  simp only [go_sem, num_take, num_splice, one_wd, wd_length]
  exact leave_drop rfl
theorem low_fcells (ren : Nat → Option Nat) (H : AH) (m : Nat) : lowL ren H (fcells m) = fcells m := by simp [fcells, lowL_append, lowL_wd, lowL, low]
theorem t_of {H : AH} : Called Try.prog F.point_of [] H (.agg (crv H.length)) (H ++ [⟨fcells (115792089210356248762697446949407573530086143415290314195533631308867097853951 : Nat), 0, true⟩]) := by
  refine e_point_of ?_
  simp only [ic_point_of, go_sem]
  refine callW_some t_P (fun _ => rfl) ?_
  simp only [go_sem]
  refine callW_some (t_new mo_P) (fun h => by cases h) ?_
  simp only [go_sem, fillOk, fillv]
  refine leave_keep [1] (by decide) (by simp) ?_ ?_
  · simp [low, lowL, renk_at, List.idxOf?_cons, crv]
  · simp [lowObj, low_fcells, obj]
end Go.Proofs.Ytgfploghjpbcaaa.Eng
/- Layer 5: whether a point is on the curve. -/
namespace Go.Proofs.Ytgfploghjpbcaaa.Eng
open Go Go.Proofs
set_option linter.unusedVariables false
set_option linter.unusedSimpArgs false
set_option maxRecDepth 10000
def onRaw (x y : Nat) (f : Bool) : Bool := bif f then (x == 0 && y == 0) else (Nat.blt x (115792089210356248762697446949407573530086143415290314195533631308867097853951 : Nat) && Nat.blt y (115792089210356248762697446949407573530086143415290314195533631308867097853951 : Nat) && onB (115792089210356248762697446949407573530086143415290314195533631308867097853951 : Nat) (41058363725152142129326129780047268409114441015993725554835256314039467401291 : Nat) x y)
theorem cellsEq_append : ∀ {a c : List AV} (b d : List AV), a.length = c.length → cellsEq (a ++ b) (c ++ d) = (cellsEq a c && cellsEq b d)
  | [], [], b, d, _ => by simp [cellsEq]
  | x :: a, y :: c, b, d, h => by
    simp only [List.cons_append, cellsEq, cellsEq_append b d (show a.length = c.length by simpa using h), Bool.and_assoc]
  | [], y :: c, b, d, h => by cases h
  | x :: a, [], b, d, h => by cases h
theorem pc_eq {x y x' y' : Nat} {f f' : Bool} (hx : x < (18446744073709551616 : Nat) ^ 4) (hy : y < (18446744073709551616 : Nat) ^ 4) (hx' : x' < (18446744073709551616 : Nat) ^ 4) (hy' : y' < (18446744073709551616 : Nat) ^ 4) : aggEq (.agg (pcell x y f)) (.agg (pcell x' y' f')) = (x == x' && (y == y' && f == f')) := by
  show cellsEq _ _ = _
  have e : cellsEq [Bl f] [Bl f'] = (f == f') := by simp [cellsEq, cellEq]
  rw [pcell, pcell, cellsEq_append _ _ (by rw [wd_length, wd_length]), cellsEq_append _ _ (by rw [wd_length, wd_length]), cells_wd, cells_wd, e, Nat.mod_eq_of_lt hx, Nat.mod_eq_of_lt hx', Nat.mod_eq_of_lt hy, Nat.mod_eq_of_lt hy']
  rfl
theorem pc_ok (x y x' y' : Nat) (f f' : Bool) : aggEqOk [some .u64, some .u64, some .u64, some .u64, some .u64, some .u64, some .u64, some .u64, none] (.agg (pcell x y f)) (.agg (pcell x' y' f')) = True := by
  simp [aggEqOk, pcell, wd, dig, kindOf]
theorem cmp_ge (a b : Nat) : decide (0 ≤ cmpN a b) = decide (b ≤ a) := by
  congr 1; apply propext; unfold cmpN; split <;> (try split) <;> omega
theorem fmul_comm (m a b : Nat) : fmul m a b = fmul m b a := by unfold fmul; rw [Nat.mul_comm]
theorem t_oncurve {H : AH} {p x y : Nat} {f : Bool} (hf : FF H p (115792089210356248762697446949407573530086143415290314195533631308867097853951 : Nat)) (hx : x < (18446744073709551616 : Nat) ^ 4) (hy : y < (18446744073709551616 : Nat) ^ 4) : Called Try.prog F.point_curve_on [.agg (crv p), .agg (pcell x y f)] H (Bl (onRaw x y f)) H := by
  refine e_point_curve_on ?_
  have hf' : ∀ G, FF (H ++ G) p (115792089210356248762697446949407573530086143415290314195533631308867097853951 : Nat) := fun G => hf.app
  have hPP : (115792089210356248762697446949407573530086143415290314195533631308867097853951 : Nat) < (18446744073709551616 : Nat) ^ 4 := mo_P.lt
  have h0 : 0 < (115792089210356248762697446949407573530086143415290314195533631308867097853951 : Nat) := by decide
  have eF : [Z0, Z0, Z0, Z0, Z0, Z0, Z0, Z0, Bl true] = pcell 0 0 true := rfl
  simp only [ic_point_curve_on, go_sem, crv_one, crv_ne, crv_len, pc_one, pc_ne, pc_len, pc_f, pc_take, fillOk, fillv, eF]
  refine ⟨fun h => ?_, fun h => ?_⟩
  · subst h
    simp only [go_sem, eF, pc_ok, pc_eq hx hy (show 0 < (18446744073709551616 : Nat) ^ 4 by decide) (show 0 < (18446744073709551616 : Nat) ^ 4 by decide), pc_len]
    refine leave_drop ?_
    simp [onRaw, low]
  · subst h
    simp only [pc_x]
    refine callW_some t_P (fun _ => rfl) ?_
    simp only [go_sem]
    refine callW_some (t_lcmp hx hPP) (fun _ => rfl) ?_
    simp only [go_sem, cmp_ge, pc_len, pc_y]
    refine callG_of (fun _ => t_P) ?_
    simp only [go_sem, cmp_ge, pc_len, pc_y]
    refine callG_of (fun _ => t_lcmp hy hPP) ?_
    simp only [go_sem, cmp_ge, pc_len, pc_y]
    refine ⟨fun h => ?_, fun h => ?_⟩
    · refine leave_drop ?_
      have : onRaw x y false = false := by
        simp only [onRaw, cond_false]
        rw [Bool.and_eq_false_iff, Bool.and_eq_false_iff]
        refine .inl ?_
        simp only [Bool.or_eq_true, decide_eq_true_eq] at h
        have bf : ∀ a b : Nat, b ≤ a → Nat.blt a b = false := fun a b h => by
          cases hh : Nat.blt a b
          · rfl
          · rw [Nat.blt_eq] at hh; omega
        rcases h with h | h
        · exact .inl (bf _ _ h)
        · exact .inr (bf _ _ h)
      rw [this]; rfl
    · have h : ¬ (115792089210356248762697446949407573530086143415290314195533631308867097853951 : Nat) ≤ x ∧ ¬ (115792089210356248762697446949407573530086143415290314195533631308867097853951 : Nat) ≤ y := by simpa using h
      have hx : x < (115792089210356248762697446949407573530086143415290314195533631308867097853951 : Nat) := by omega
      have hy : y < (115792089210356248762697446949407573530086143415290314195533631308867097853951 : Nat) := by omega
      have bt : ∀ a b : Nat, a < b → Nat.blt a b = true := fun a b h => by rw [Nat.blt_eq]; exact h
      simp only [go_sem, pc_x, pc_len, crv_g1, crv_g2, crv_g3, crv_len, crv_take]
      refine callW_some ⟨rfl, fun G => t_sq ((hf' _).app) hx⟩ (fun _ => rfl) ?_
      simp only [go_sem, pc_x, pc_len, crv_g1, crv_g2, crv_g3, crv_len, crv_take]
      refine callW_some ⟨rfl, fun G => cM ((hf' _).app) (fmul_lt h0 _ _) hx⟩ (fun _ => rfl) ?_
      simp only [go_sem, pc_x, pc_len, crv_g1, crv_g2, crv_g3, crv_len, crv_take]
      refine callW_some ⟨rfl, fun G => t_times (n := 3) ((hf' _).app) hx (by decide)⟩ (fun _ => rfl) ?_
      simp only [go_sem, pc_x, pc_len, crv_g1, crv_g2, crv_g3, crv_len, crv_take]
      refine callW_some ⟨rfl, fun G => cS ((hf' _).app) (fmul_lt h0 _ _) (fmul_lt h0 _ _)⟩ (fun _ => rfl) ?_
      simp only [go_sem, pc_x, pc_len, crv_g1, crv_g2, crv_g3, crv_len, crv_take]
      refine callW_some ⟨rfl, fun G => t_b⟩ (fun _ => rfl) ?_
      simp only [go_sem, pc_x, pc_len, crv_g1, crv_g2, crv_g3, crv_len, crv_take]
      refine callW_some ⟨rfl, fun G => cA ((hf' _).app) (fsub_lt h0 _ _) (by decide)⟩ (fun _ => rfl) ?_
      simp only [go_sem, pc_y, pc_len, crv_g1, crv_g2, crv_g3, crv_len, crv_take, num_splice, one_wd, wd_length]
      refine callW_some (t_sq (hf' _) hy) (fun _ => rfl) ?_
      have b1 := Nat.lt_trans (fmul_lt h0 y y) hPP
      have b2 := Nat.lt_trans (fadd_lt h0 (fsub (115792089210356248762697446949407573530086143415290314195533631308867097853951 : Nat) (fmul (115792089210356248762697446949407573530086143415290314195533631308867097853951 : Nat) (fmul (115792089210356248762697446949407573530086143415290314195533631308867097853951 : Nat) x x) x) (fmul (115792089210356248762697446949407573530086143415290314195533631308867097853951 : Nat) x 3)) (41058363725152142129326129780047268409114441015993725554835256314039467401291 : Nat)) hPP
      simp only [go_sem, num_take, wd_length, agg_ok, agg_eq b1 b2]
      refine leave_drop ?_
      simp only [onRaw, cond_false, bt _ _ hx, bt _ _ hy, Bool.true_and, onB, fmul_comm (115792089210356248762697446949407573530086143415290314195533631308867097853951 : Nat) 3 x, low]
      rfl
theorem t_On {H : AH} {x y : Nat} {f : Bool} (hx : x < (18446744073709551616 : Nat) ^ 4) (hy : y < (18446744073709551616 : Nat) ^ 4) : Called Try.prog F.point_On [.agg (pcell x y f)] H (Bl (onRaw x y f)) H := by
  refine e_point_On ?_
  simp only [ic_point_On, go_sem, pc_one, pc_ne]
  refine callW_some t_of (fun h => by cases h) ?_
  simp only [go_sem, pc_len, pc_take]
  have hF : FF (H ++ [⟨pcell x y f, 0, true⟩, ⟨fcells (115792089210356248762697446949407573530086143415290314195533631308867097853951 : Nat), 0, true⟩]) (H.length + 1) (115792089210356248762697446949407573530086143415290314195533631308867097853951 : Nat) := ⟨by simp, by simp only [go_sem]⟩
  refine callW_some (t_oncurve hF hx hy) (fun _ => rfl) ?_
  simp only [go_sem]
  exact leave_drop rfl
end Go.Proofs.Ytgfploghjpbcaaa.Eng

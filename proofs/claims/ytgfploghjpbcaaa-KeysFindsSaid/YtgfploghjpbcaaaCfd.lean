/- The code of some functions, as the abstract machine's. Printed by program. -/
import Derived.Test.YtgfploghjpbcaaaNm
namespace Go.Proofs.Ytgfploghjpbcaaa.Eng
open Go Go.Proofs
set_option maxRecDepth 20000

def ic_field_New : IC :=
  q 1 (.box (.t 0)) <|
  q 2 (.mv (.c (.pointer none))) <|
  q 3 (.mv (.c (.nilIface))) <|
  .keep [1] <|
  q 6 (.idxa 1 (some 4) (.t 1) (ci 0)) <|
  q 7 (.load false 1 (.t 6)) <|
  q 8 (.bin .and (.t 7) (.c (.int .u64 1))) <|
  q 9 (.bin .eql (.t 8) (.c (.int .u64 0))) <|
  q 10 (.mv (.t 9)) <|
  qg 11 10 false (.load true 4 (.t 1)) <|
  qg 12 10 false (.call F.limb_Len [(.t 11)]) <|
  qg 13 10 false (.bin .lss (.t 12) (ci 2)) <|
  q 14 (.pick (.t 10) (cb true) (.t 13)) <|
  .keep [1, 14] <|
  .ite (.t 14)
    (q 15 (.mkif T.api_Code (ci 1)) <|
    q 2 (.mv (.c (.pointer none))) <|
    q 3 (.mv (.t 15)) <|
    .keep [2, 3] <|
    .ret)
    (.done) <|
  q 4 (.mv (.c (.int .u64 1))) <|
  .keep [1, 4] <|
  q 16 (.mv (ci 0)) <|
  .keep [1, 4, 16] <|
  .block 0
    (.keep [1, 4, 16] <|
    .loop
      (q 17 (.bin .lss (.t 16) (ci 6)) <|
      .keep [1, 4, 16, 17] <|
      .ite (.t 17)
        (.done)
        (.exit 0) <|
      .block 1
        (q 18 (.mv (.t 4)) <|
        q 19 (.idxa 1 (some 4) (.t 1) (ci 0)) <|
        q 20 (.load false 1 (.t 19)) <|
        q 21 (.mv (.t 4)) <|
        q 22 (.bin .mul (.t 20) (.t 21)) <|
        q 23 (.bin .sub (.c (.int .u64 2)) (.t 22)) <|
        q 24 (.bin .mul (.t 18) (.t 23)) <|
        q 4 (.mv (.t 24)) <|
        .keep [1, 4, 16] <|
        .done) <|
      q 25 (.bin .add (.t 16) (ci 1)) <|
      q 16 (.mv (.t 25)) <|
      .keep [1, 4, 16] <|
      .keep [1, 4, 16] <|
      .done)) <|
  q 26 (.load true 4 (.t 1)) <|
  q 27 (.mv (.t 4)) <|
  q 28 (.un .neg (.t 27)) <|
  q 29 (.build (List.replicate 13 (.int .u64 0)) [(0, 4, (.t 26)), (4, 1, (.t 28))]) <|
  q 30 (.box (.t 29)) <|
  q 5 (.mv (.t 30)) <|
  .keep [5] <|
  q 31 (.mv (.t 5)) <|
  q 32 (.mv (.t 5)) <|
  q 33 (.build (List.replicate 8 (.int .u64 0)) [(4, 1, (.c (.int .u64 1)))]) <|
  q 34 (.call F.field_Field_Cut [(.t 32), (.t 33)]) <|
  q 35 (.nilchk (.t 31)) <|
  q 36 (.fld 5 (.t 35)) <|
  qn (.store 4 (.t 36) (.t 34)) <|
  .keep [5] <|
  q 37 (.mv (.t 5)) <|
  q 38 (.mv (.t 5)) <|
  q 39 (.mv (.t 5)) <|
  q 40 (.nilchk (.t 39)) <|
  q 41 (.fld 5 (.t 40)) <|
  q 42 (.load true 4 (.t 41)) <|
  q 43 (.mv (.t 5)) <|
  q 44 (.nilchk (.t 43)) <|
  q 45 (.fld 5 (.t 44)) <|
  q 46 (.load true 4 (.t 45)) <|
  q 47 (.call F.limb_Mul [(.t 42), (.t 46)]) <|
  q 48 (.call F.field_Field_Cut [(.t 38), (.t 47)]) <|
  q 49 (.nilchk (.t 37)) <|
  q 50 (.fld 9 (.t 49)) <|
  qn (.store 4 (.t 50) (.t 48)) <|
  .keep [5] <|
  q 51 (.mv (.t 5)) <|
  q 2 (.mv (.t 51)) <|
  q 3 (.mv (.c (.nilIface))) <|
  .keep [2, 3] <|
  .ret
theorem ok_field_New : compF Try.prog (pfx false) (fun d => [].contains d) Try.f55 = some ic_field_New := by kernel_rfl
theorem e_field_New {args : List AV} {H : AH} {v : AV} {H' : AH} (h : iwp (pfx false) (Called Try.prog) ic_field_New (retQ [.t 2, .t 3] H v H') (look (enterL 0 args)) H) : Called Try.prog F.field_New args H v H' :=
  fn_called mixed (cmpok false) Try.func55 (by kernel_rfl) ok_field_New (by kernel_rfl) h


def ic_field_Field_Inv : IC :=
  q 3 (.box (.t 1)) <|
  q 4 (.alloc (List.replicate 4 (.int .u64 0))) <|
  q 5 (.mv (.c (.nilIface))) <|
  .keep [0, 3, 4] <|
  .reg 2
    [xe 10 (.mv (.t 0)) [],
     xe 11 (.mv (.t 0)) [],
     xe 12 (.load true 4 (.t 3)) [],
     xe 13 (.call F.field_Field_in [(.t 11), (.t 12)]) [],
     xe 14 (.build (List.replicate 4 (.int .u64 0)) [(0, 1, (.c (.int .u64 1)))]) [],
     xe 15 (.build (List.replicate 8 (.int .u64 0)) [(0, 4, (.t 13)), (4, 4, (.t 14))]) [],
     xe 16 (.call F.field_Field_odd [(.t 10), (.t 15)]) [],
     xe 17 (.mv (.t 0)) [],
     xe 18 (.nilchk (.t 17)) [],
     xe 19 (.fld 0 (.t 18)) [],
     xe 20 (.load true 4 (.t 19)) [],
     xe 21 (.build (List.replicate 4 (.int .u64 0)) []) [],
     xe 22 (.build (List.replicate 8 (.int .u64 0)) [(0, 4, (.t 20)), (4, 4, (.t 21))]) [],
     xa 0 6 (.alloc (List.replicate 8 (.int .u64 0))),
     xa 1 7 (.alloc (List.replicate 8 (.int .u64 0))),
     xmn (.store 8 (.t 6) (.t 16)) [],
     xln (.store 8 (.t 7) (.t 22)) []] <|
  .keep [0, 4, 6, 7] <|
  .block 0
    (.keep [0, 4, 6, 7] <|
    .loop
      (q 23 (.fld 0 (.t 6)) <|
      q 24 (.load true 4 (.t 23)) <|
      q 25 (.build (List.replicate 4 (.int .u64 0)) []) <|
      q 26 (.eqagg (List.replicate 4 (some .u64)) true (.t 24) (.t 25)) <|
      .keep [0, 4, 6, 7, 26] <|
      .ite (.t 26)
        (.done)
        (.exit 0) <|
      .block 1
        (q 27 (.fld 0 (.t 6)) <|
        q 28 (.load true 4 (.t 27)) <|
        q 29 (.fld 0 (.t 7)) <|
        q 30 (.load true 4 (.t 29)) <|
        q 31 (.call F.limb_Cmp [(.t 28), (.t 30)]) <|
        q 32 (.bin .lss (.t 31) (ci 0)) <|
        .keep [0, 4, 6, 7, 32] <|
        .ite (.t 32)
          (q 33 (.load true 8 (.t 7)) <|
          q 34 (.load true 8 (.t 6)) <|
          qn (.store 8 (.t 6) (.t 33)) <|
          qn (.store 8 (.t 7) (.t 34)) <|
          .keep [0, 4, 6, 7] <|
          .done)
          (.done) <|
        q 36 (.fld 0 (.t 6)) <|
        q 37 (.load true 4 (.t 36)) <|
        q 38 (.fld 0 (.t 7)) <|
        q 39 (.load true 4 (.t 38)) <|
        q 40 (.call F.limb_Sub [(.t 37), (.t 39)]) <|
        q 35 (.mv (.t 40)) <|
        q 41 (.ext (.t 35) 0) <|
        q 42 (.ext (.t 35) 1) <|
        q 8 (.alloc (List.replicate 4 (.int .u64 0))) <|
        qn (.store 4 (.t 8) (.t 41)) <|
        q 9 (.mv (.t 42)) <|
        .keep [0, 4, 6, 7, 8] <|
        q 43 (.mv (.t 0)) <|
        q 44 (.load true 4 (.t 8)) <|
        q 45 (.mv (.t 0)) <|
        q 46 (.fld 4 (.t 6)) <|
        q 47 (.load true 4 (.t 46)) <|
        q 48 (.fld 4 (.t 7)) <|
        q 49 (.load true 4 (.t 48)) <|
        q 50 (.call F.field_Field_Sub [(.t 45), (.t 47), (.t 49)]) <|
        q 51 (.build (List.replicate 8 (.int .u64 0)) [(0, 4, (.t 44)), (4, 4, (.t 50))]) <|
        q 52 (.call F.field_Field_odd [(.t 43), (.t 51)]) <|
        qn (.store 8 (.t 6) (.t 52)) <|
        .keep [0, 4, 6, 7] <|
        .done) <|
      .keep [0, 4, 6, 7] <|
      .done)) <|
  q 53 (.fld 0 (.t 7)) <|
  q 54 (.load true 4 (.t 53)) <|
  q 55 (.build (List.replicate 4 (.int .u64 0)) [(0, 1, (.c (.int .u64 1)))]) <|
  q 56 (.eqagg (List.replicate 4 (some .u64)) true (.t 54) (.t 55)) <|
  .keep [4, 7, 56] <|
  .ite (.t 56)
    (q 57 (.build (List.replicate 4 (.int .u64 0)) []) <|
    q 58 (.mkif T.api_Code (ci 4)) <|
    qn (.store 4 (.t 4) (.t 57)) <|
    q 5 (.mv (.t 58)) <|
    .keep [4, 5] <|
    .ret)
    (.done) <|
  q 59 (.fld 4 (.t 7)) <|
  q 60 (.load true 4 (.t 59)) <|
  qn (.store 4 (.t 4) (.t 60)) <|
  q 5 (.mv (.c (.nilIface))) <|
  .keep [4, 5] <|
  .ret
theorem ok_field_Field_Inv : compF Try.prog (pfx false) (fun d => [].contains d) Try.f57 = some ic_field_Field_Inv := by kernel_rfl
theorem e_field_Field_Inv {args : List AV} {H : AH} {v : AV} {H' : AH} (h : iwp (pfx false) (Called Try.prog) ic_field_Field_Inv (retQ [.c 4 true 4, .t 5] H v H') (look (enterL 0 args)) H) : Called Try.prog F.field_Field_Inv args H v H' :=
  fn_called mixed (cmpok false) Try.func57 (by kernel_rfl) ok_field_Field_Inv (by kernel_rfl) h


def ic_field_Field_Mul : IC :=
  q 4 (.box (.t 1)) <|
  q 5 (.box (.t 2)) <|
  q 6 (.alloc (List.replicate 4 (.int .u64 0))) <|
  .keep [0, 4, 5, 6] <|
  q 7 (.mv (.t 0)) <|
  q 8 (.mv (.t 0)) <|
  q 9 (.mv (.t 0)) <|
  q 10 (.load true 4 (.t 4)) <|
  q 11 (.call F.field_Field_in [(.t 9), (.t 10)]) <|
  q 12 (.mv (.t 0)) <|
  q 13 (.load true 4 (.t 5)) <|
  q 14 (.call F.field_Field_in [(.t 12), (.t 13)]) <|
  q 15 (.call F.field_Field_mont [(.t 8), (.t 11), (.t 14)]) <|
  q 16 (.mv (.t 0)) <|
  q 17 (.nilchk (.t 16)) <|
  q 18 (.fld 9 (.t 17)) <|
  q 19 (.load true 4 (.t 18)) <|
  q 20 (.call F.field_Field_mont [(.t 7), (.t 15), (.t 19)]) <|
  qn (.store 4 (.t 6) (.t 20)) <|
  .keep [6] <|
  .ret
theorem ok_field_Field_Mul : compF Try.prog (pfx false) (fun d => [].contains d) Try.f59 = some ic_field_Field_Mul := by kernel_rfl
theorem e_field_Field_Mul {args : List AV} {H : AH} {v : AV} {H' : AH} (h : iwp (pfx false) (Called Try.prog) ic_field_Field_Mul (retQ [.c 6 true 4] H v H') (look (enterL 0 args)) H) : Called Try.prog F.field_Field_Mul args H v H' :=
  fn_called mixed (cmpok false) Try.func59 (by kernel_rfl) ok_field_Field_Mul (by kernel_rfl) h


def ic_field_Field_Add : IC :=
  q 4 (.box (.t 1)) <|
  q 5 (.box (.t 2)) <|
  q 6 (.alloc (List.replicate 4 (.int .u64 0))) <|
  .keep [0, 4, 5, 6] <|
  .reg 1
    [xe 10 (.mv (.t 0)) [],
     xe 11 (.load true 4 (.t 4)) [],
     xe 12 (.call F.field_Field_in [(.t 10), (.t 11)]) [],
     xe 13 (.mv (.t 0)) [],
     xe 14 (.load true 4 (.t 5)) [],
     xe 15 (.call F.field_Field_in [(.t 13), (.t 14)]) [],
     xe 16 (.call F.limb_Add [(.t 12), (.t 15)]) [],
     xe 9 (.mv (.t 16)) [],
     xe 17 (.ext (.t 9) 0) [],
     xe 18 (.ext (.t 9) 1) [],
     xa 0 7 (.alloc (List.replicate 4 (.int .u64 0))),
     xln (.store 4 (.t 7) (.t 17)) [],
     xl 8 (.mv (.t 18)) []] <|
  .keep [0, 6, 7, 8] <|
  q 19 (.mv (.t 0)) <|
  q 20 (.load true 4 (.t 7)) <|
  q 21 (.mv (.t 8)) <|
  q 22 (.call F.field_Field_less [(.t 19), (.t 20), (.t 21)]) <|
  qn (.store 4 (.t 6) (.t 22)) <|
  .keep [6] <|
  .ret
theorem ok_field_Field_Add : compF Try.prog (pfx false) (fun d => [].contains d) Try.f63 = some ic_field_Field_Add := by kernel_rfl
theorem e_field_Field_Add {args : List AV} {H : AH} {v : AV} {H' : AH} (h : iwp (pfx false) (Called Try.prog) ic_field_Field_Add (retQ [.c 6 true 4] H v H') (look (enterL 0 args)) H) : Called Try.prog F.field_Field_Add args H v H' :=
  fn_called mixed (cmpok false) Try.func63 (by kernel_rfl) ok_field_Field_Add (by kernel_rfl) h


def ic_field_Field_Cut : IC :=
  q 3 (.box (.t 1)) <|
  q 4 (.alloc (List.replicate 4 (.int .u64 0))) <|
  .keep [0, 3, 4] <|
  q 5 (.alloc (List.replicate 4 (.int .u64 0))) <|
  .keep [0, 3, 4, 5] <|
  q 6 (.mv (ci 511)) <|
  .keep [0, 3, 4, 5, 6] <|
  .block 0
    (.keep [0, 3, 4, 5, 6] <|
    .loop
      (q 9 (.mv (.t 6)) <|
      q 10 (.bin .geq (.t 9) (ci 0)) <|
      .keep [0, 3, 4, 5, 6, 10] <|
      .ite (.t 10)
        (.done)
        (.exit 0) <|
      .block 1
        (q 14 (.load true 4 (.t 5)) <|
        q 15 (.load true 4 (.t 5)) <|
        q 16 (.call F.limb_Add [(.t 14), (.t 15)]) <|
        q 13 (.mv (.t 16)) <|
        q 17 (.ext (.t 13) 0) <|
        q 18 (.ext (.t 13) 1) <|
        q 7 (.alloc (List.replicate 4 (.int .u64 0))) <|
        qn (.store 4 (.t 7) (.t 17)) <|
        q 8 (.mv (.t 18)) <|
        .keep [0, 3, 4, 5, 6, 7, 8] <|
        q 19 (.idxa 1 (some 4) (.t 7) (ci 0)) <|
        q 20 (.load false 1 (.t 19)) <|
        q 21 (.mv (.t 6)) <|
        q 22 (.bin .quo (.t 21) (ci 64)) <|
        q 23 (.idxa 1 (some 8) (.t 3) (.t 22)) <|
        q 24 (.load false 1 (.t 23)) <|
        q 25 (.mv (.t 6)) <|
        q 26 (.bin .rem (.t 25) (ci 64)) <|
        q 27 (.bin .shr (.t 24) (.t 26)) <|
        q 28 (.bin .and (.t 27) (.c (.int .u64 1))) <|
        q 29 (.bin .or (.t 20) (.t 28)) <|
        q 30 (.idxa 1 (some 4) (.t 7) (ci 0)) <|
        qn (.store 1 (.t 30) (.t 29)) <|
        .keep [0, 3, 4, 5, 6, 7, 8] <|
        q 31 (.mv (.t 0)) <|
        q 32 (.load true 4 (.t 7)) <|
        q 33 (.mv (.t 8)) <|
        q 34 (.call F.field_Field_less [(.t 31), (.t 32), (.t 33)]) <|
        qn (.store 4 (.t 5) (.t 34)) <|
        .keep [0, 3, 4, 5, 6] <|
        .done) <|
      q 11 (.mv (.t 6)) <|
      q 12 (.bin .sub (.t 11) (ci 1)) <|
      q 6 (.mv (.t 12)) <|
      .keep [0, 3, 4, 5, 6] <|
      .keep [0, 3, 4, 5, 6] <|
      .done)) <|
  q 35 (.load true 4 (.t 5)) <|
  qn (.store 4 (.t 4) (.t 35)) <|
  .keep [4] <|
  .ret
theorem ok_field_Field_Cut : compF Try.prog (pfx false) (fun d => [].contains d) Try.f95 = some ic_field_Field_Cut := by kernel_rfl
theorem e_field_Field_Cut {args : List AV} {H : AH} {v : AV} {H' : AH} (h : iwp (pfx false) (Called Try.prog) ic_field_Field_Cut (retQ [.c 4 true 4] H v H') (look (enterL 0 args)) H) : Called Try.prog F.field_Field_Cut args H v H' :=
  fn_called mixed (cmpok false) Try.func95 (by kernel_rfl) ok_field_Field_Cut (by kernel_rfl) h


def ic_field_Field_odd : IC :=
  q 3 (.box (.t 1)) <|
  q 4 (.alloc (List.replicate 8 (.int .u64 0))) <|
  .keep [0, 3, 4] <|
  .block 0
    (.keep [0, 3, 4] <|
    .loop
      (q 5 (.fld 0 (.t 3)) <|
      q 6 (.load true 4 (.t 5)) <|
      q 7 (.build (List.replicate 4 (.int .u64 0)) []) <|
      q 8 (.eqagg (List.replicate 4 (some .u64)) true (.t 6) (.t 7)) <|
      q 9 (.mv (.t 8)) <|
      qg 10 9 true (.fld 0 (.t 3)) <|
      qg 11 9 true (.idxa 1 (some 4) (.t 10) (ci 0)) <|
      qg 12 9 true (.load false 1 (.t 11)) <|
      qg 13 9 true (.bin .and (.t 12) (.c (.int .u64 1))) <|
      qg 14 9 true (.bin .eql (.t 13) (.c (.int .u64 0))) <|
      q 15 (.pick (.t 9) (.t 14) (cb false)) <|
      .keep [0, 3, 4, 15] <|
      .ite (.t 15)
        (.done)
        (.exit 0) <|
      .block 1
        (q 16 (.fld 0 (.t 3)) <|
        q 17 (.load true 4 (.t 16)) <|
        q 18 (.call F.limb_Half [(.t 17)]) <|
        q 19 (.mv (.t 0)) <|
        q 20 (.fld 4 (.t 3)) <|
        q 21 (.load true 4 (.t 20)) <|
        q 22 (.call F.field_Field_half [(.t 19), (.t 21)]) <|
        q 23 (.fld 0 (.t 3)) <|
        qn (.store 4 (.t 23) (.t 18)) <|
        q 24 (.fld 4 (.t 3)) <|
        qn (.store 4 (.t 24) (.t 22)) <|
        .keep [0, 3, 4] <|
        .done) <|
      .keep [0, 3, 4] <|
      .done)) <|
  q 25 (.load true 8 (.t 3)) <|
  qn (.store 8 (.t 4) (.t 25)) <|
  .keep [4] <|
  .ret
theorem ok_field_Field_odd : compF Try.prog (pfx false) (fun d => [].contains d) Try.f98 = some ic_field_Field_odd := by kernel_rfl
theorem e_field_Field_odd {args : List AV} {H : AH} {v : AV} {H' : AH} (h : iwp (pfx false) (Called Try.prog) ic_field_Field_odd (retQ [.c 4 true 8] H v H') (look (enterL 0 args)) H) : Called Try.prog F.field_Field_odd args H v H' :=
  fn_called mixed (cmpok false) Try.func98 (by kernel_rfl) ok_field_Field_odd (by kernel_rfl) h


def ic_field_Field_in : IC :=
  q 3 (.box (.t 1)) <|
  q 4 (.alloc (List.replicate 4 (.int .u64 0))) <|
  .keep [0, 3, 4] <|
  q 5 (.load true 4 (.t 3)) <|
  q 6 (.mv (.t 0)) <|
  q 7 (.nilchk (.t 6)) <|
  q 8 (.fld 0 (.t 7)) <|
  q 9 (.load true 4 (.t 8)) <|
  q 10 (.call F.limb_Cmp [(.t 5), (.t 9)]) <|
  q 11 (.bin .lss (.t 10) (ci 0)) <|
  .keep [0, 3, 4, 11] <|
  .ite (.t 11)
    (q 12 (.load true 4 (.t 3)) <|
    qn (.store 4 (.t 4) (.t 12)) <|
    .keep [4] <|
    .ret)
    (.done) <|
  q 13 (.mv (.t 0)) <|
  q 14 (.idxa 1 (some 4) (.t 3) (ci 0)) <|
  q 15 (.load false 1 (.t 14)) <|
  q 16 (.idxa 1 (some 4) (.t 3) (ci 1)) <|
  q 17 (.load false 1 (.t 16)) <|
  q 18 (.idxa 1 (some 4) (.t 3) (ci 2)) <|
  q 19 (.load false 1 (.t 18)) <|
  q 20 (.idxa 1 (some 4) (.t 3) (ci 3)) <|
  q 21 (.load false 1 (.t 20)) <|
  q 22 (.build (List.replicate 8 (.int .u64 0)) [(0, 1, (.t 15)), (1, 1, (.t 17)), (2, 1, (.t 19)), (3, 1, (.t 21))]) <|
  q 23 (.call F.field_Field_Cut [(.t 13), (.t 22)]) <|
  qn (.store 4 (.t 4) (.t 23)) <|
  .keep [4] <|
  .ret
theorem ok_field_Field_in : compF Try.prog (pfx false) (fun d => [].contains d) Try.f99 = some ic_field_Field_in := by kernel_rfl
theorem e_field_Field_in {args : List AV} {H : AH} {v : AV} {H' : AH} (h : iwp (pfx false) (Called Try.prog) ic_field_Field_in (retQ [.c 4 true 4] H v H') (look (enterL 0 args)) H) : Called Try.prog F.field_Field_in args H v H' :=
  fn_called mixed (cmpok false) Try.func99 (by kernel_rfl) ok_field_Field_in (by kernel_rfl) h


def ic_field_Field_Sub : IC :=
  q 4 (.box (.t 1)) <|
  q 5 (.box (.t 2)) <|
  q 6 (.alloc (List.replicate 4 (.int .u64 0))) <|
  .keep [0, 4, 5, 6] <|
  .reg 1
    [xe 10 (.mv (.t 0)) [],
     xe 11 (.load true 4 (.t 4)) [],
     xe 12 (.call F.field_Field_in [(.t 10), (.t 11)]) [],
     xe 13 (.mv (.t 0)) [],
     xe 14 (.load true 4 (.t 5)) [],
     xe 15 (.call F.field_Field_in [(.t 13), (.t 14)]) [],
     xe 16 (.call F.limb_Sub [(.t 12), (.t 15)]) [],
     xe 9 (.mv (.t 16)) [],
     xe 17 (.ext (.t 9) 0) [],
     xe 18 (.ext (.t 9) 1) [],
     xa 0 7 (.alloc (List.replicate 4 (.int .u64 0))),
     xln (.store 4 (.t 7) (.t 17)) [],
     xl 8 (.mv (.t 18)) []] <|
  .keep [0, 6, 7, 8] <|
  q 19 (.mv (.t 8)) <|
  .keep [0, 6, 7, 19] <|
  .ite (.t 19)
    (q 21 (.load true 4 (.t 7)) <|
    q 22 (.mv (.t 0)) <|
    q 23 (.nilchk (.t 22)) <|
    q 24 (.fld 0 (.t 23)) <|
    q 25 (.load true 4 (.t 24)) <|
    q 26 (.call F.limb_Add [(.t 21), (.t 25)]) <|
    q 20 (.mv (.t 26)) <|
    q 27 (.ext (.t 20) 0) <|
    q 28 (.ext (.t 20) 1) <|
    qn (.store 4 (.t 7) (.t 27)) <|
    .keep [6, 7] <|
    .done)
    (.done) <|
  q 29 (.load true 4 (.t 7)) <|
  qn (.store 4 (.t 6) (.t 29)) <|
  .keep [6] <|
  .ret
theorem ok_field_Field_Sub : compF Try.prog (pfx false) (fun d => [].contains d) Try.f101 = some ic_field_Field_Sub := by kernel_rfl
theorem e_field_Field_Sub {args : List AV} {H : AH} {v : AV} {H' : AH} (h : iwp (pfx false) (Called Try.prog) ic_field_Field_Sub (retQ [.c 6 true 4] H v H') (look (enterL 0 args)) H) : Called Try.prog F.field_Field_Sub args H v H' :=
  fn_called mixed (cmpok false) Try.func101 (by kernel_rfl) ok_field_Field_Sub (by kernel_rfl) h


def ic_field_Field_mont : IC :=
  q 4 (.box (.t 1)) <|
  q 5 (.box (.t 2)) <|
  q 6 (.alloc (List.replicate 4 (.int .u64 0))) <|
  .keep [0, 4, 5, 6] <|
  q 7 (.alloc (List.replicate 6 (.int .u64 0))) <|
  .keep [0, 4, 5, 6, 7] <|
  q 16 (.load true 4 (.t 5)) <|
  q 17 (.mv (ci 0)) <|
  .keep [0, 4, 6, 7, 16, 17] <|
  .block 0
    (.keep [0, 4, 6, 7, 16, 17] <|
    .loop
      (q 18 (.bin .lss (.t 17) (ci 4)) <|
      .keep [0, 4, 6, 7, 16, 17, 18] <|
      .ite (.t 18)
        (.done)
        (.exit 0) <|
      .block 1
        (q 19 (.idx false 1 4 (.t 16) (.t 17)) <|
        q 9 (.mv (.t 19)) <|
        .keep [0, 4, 6, 7, 9, 16, 17] <|
        q 10 (.mv (.c (.int .u64 0))) <|
        q 11 (.mv (.c (.int .u64 0))) <|
        .keep [0, 4, 6, 7, 9, 10, 16, 17] <|
        q 20 (.load true 4 (.t 4)) <|
        q 21 (.mv (ci 0)) <|
        .keep [0, 4, 6, 7, 9, 10, 16, 17, 20, 21] <|
        .block 2
          (.keep [0, 4, 6, 7, 9, 10, 16, 17, 20, 21] <|
          .loop
            (q 22 (.bin .lss (.t 21) (ci 4)) <|
            .keep [0, 4, 6, 7, 9, 10, 16, 17, 20, 21, 22] <|
            .ite (.t 22)
              (.done)
              (.exit 2) <|
            .block 3
              (q 23 (.mv (.t 21)) <|
              q 24 (.idx false 1 4 (.t 20) (.t 21)) <|
              q 12 (.mv (.t 23)) <|
              q 13 (.mv (.t 24)) <|
              .keep [0, 4, 6, 7, 9, 10, 12, 13, 16, 17, 20, 21] <|
              q 26 (.mv (.t 12)) <|
              q 27 (.mv (.t 13)) <|
              q 28 (.mv (.t 9)) <|
              q 29 (.mv (.t 12)) <|
              q 30 (.idxa 1 (some 6) (.t 7) (.t 29)) <|
              q 31 (.load false 1 (.t 30)) <|
              q 32 (.mv (.t 10)) <|
              q 33 (.call F.field_step [(.t 27), (.t 28), (.t 31), (.t 32)]) <|
              q 25 (.mv (.t 33)) <|
              q 34 (.ext (.t 25) 0) <|
              q 35 (.ext (.t 25) 1) <|
              q 36 (.idxa 1 (some 6) (.t 7) (.t 26)) <|
              qn (.store 1 (.t 36) (.t 34)) <|
              q 10 (.mv (.t 35)) <|
              .keep [0, 4, 6, 7, 9, 10, 16, 17, 20, 21] <|
              .done) <|
            q 37 (.bin .add (.t 21) (ci 1)) <|
            q 21 (.mv (.t 37)) <|
            .keep [0, 4, 6, 7, 9, 10, 16, 17, 20, 21] <|
            .keep [0, 4, 6, 7, 9, 10, 16, 17, 20, 21] <|
            .done)) <|
        q 39 (.idxa 1 (some 6) (.t 7) (ci 4)) <|
        q 40 (.load false 1 (.t 39)) <|
        q 41 (.mv (.t 10)) <|
        q 42 (.carry false (.t 40) (.t 41) (.c (.int .u64 0))) <|
        q 38 (.mv (.t 42)) <|
        q 43 (.ext (.t 38) 0) <|
        q 44 (.ext (.t 38) 1) <|
        q 45 (.idxa 1 (some 6) (.t 7) (ci 4)) <|
        qn (.store 1 (.t 45) (.t 43)) <|
        q 46 (.idxa 1 (some 6) (.t 7) (ci 5)) <|
        qn (.store 1 (.t 46) (.t 44)) <|
        .keep [0, 4, 6, 7, 16, 17] <|
        q 47 (.idxa 1 (some 6) (.t 7) (ci 0)) <|
        q 48 (.load false 1 (.t 47)) <|
        q 49 (.mv (.t 0)) <|
        q 50 (.nilchk (.t 49)) <|
        q 51 (.fld 4 (.t 50)) <|
        q 52 (.load false 1 (.t 51)) <|
        q 53 (.bin .mul (.t 48) (.t 52)) <|
        q 14 (.mv (.t 53)) <|
        .keep [0, 4, 6, 7, 14, 16, 17] <|
        q 55 (.mv (.t 14)) <|
        q 56 (.mv (.t 0)) <|
        q 57 (.nilchk (.t 56)) <|
        q 58 (.fld 0 (.t 57)) <|
        q 59 (.idxa 1 (some 4) (.t 58) (ci 0)) <|
        q 60 (.load false 1 (.t 59)) <|
        q 61 (.idxa 1 (some 6) (.t 7) (ci 0)) <|
        q 62 (.load false 1 (.t 61)) <|
        q 63 (.call F.field_step [(.t 55), (.t 60), (.t 62), (.c (.int .u64 0))]) <|
        q 54 (.mv (.t 63)) <|
        q 64 (.ext (.t 54) 0) <|
        q 65 (.ext (.t 54) 1) <|
        q 10 (.mv (.t 65)) <|
        .keep [0, 4, 6, 7, 10, 14, 16, 17] <|
        q 15 (.mv (ci 1)) <|
        .keep [0, 4, 6, 7, 10, 14, 15, 16, 17] <|
        .block 4
          (.keep [0, 4, 6, 7, 10, 14, 15, 16, 17] <|
          .loop
            (q 66 (.mv (.t 15)) <|
            q 67 (.bin .lss (.t 66) (ci 4)) <|
            .keep [0, 4, 6, 7, 10, 14, 15, 16, 17, 67] <|
            .ite (.t 67)
              (.done)
              (.exit 4) <|
            .block 5
              (q 71 (.mv (.t 15)) <|
              q 72 (.bin .sub (.t 71) (ci 1)) <|
              q 73 (.mv (.t 14)) <|
              q 74 (.mv (.t 0)) <|
              q 75 (.mv (.t 15)) <|
              q 76 (.nilchk (.t 74)) <|
              q 77 (.fld 0 (.t 76)) <|
              q 78 (.idxa 1 (some 4) (.t 77) (.t 75)) <|
              q 79 (.load false 1 (.t 78)) <|
              q 80 (.mv (.t 15)) <|
              q 81 (.idxa 1 (some 6) (.t 7) (.t 80)) <|
              q 82 (.load false 1 (.t 81)) <|
              q 83 (.mv (.t 10)) <|
              q 84 (.call F.field_step [(.t 73), (.t 79), (.t 82), (.t 83)]) <|
              q 70 (.mv (.t 84)) <|
              q 85 (.ext (.t 70) 0) <|
              q 86 (.ext (.t 70) 1) <|
              q 87 (.idxa 1 (some 6) (.t 7) (.t 72)) <|
              qn (.store 1 (.t 87) (.t 85)) <|
              q 10 (.mv (.t 86)) <|
              .keep [0, 4, 6, 7, 10, 14, 15, 16, 17] <|
              .done) <|
            q 68 (.mv (.t 15)) <|
            q 69 (.bin .add (.t 68) (ci 1)) <|
            q 15 (.mv (.t 69)) <|
            .keep [0, 4, 6, 7, 10, 14, 15, 16, 17] <|
            .keep [0, 4, 6, 7, 10, 14, 15, 16, 17] <|
            .done)) <|
        q 89 (.idxa 1 (some 6) (.t 7) (ci 4)) <|
        q 90 (.load false 1 (.t 89)) <|
        q 91 (.mv (.t 10)) <|
        q 92 (.carry false (.t 90) (.t 91) (.c (.int .u64 0))) <|
        q 88 (.mv (.t 92)) <|
        q 93 (.ext (.t 88) 0) <|
        q 94 (.ext (.t 88) 1) <|
        q 95 (.idxa 1 (some 6) (.t 7) (ci 3)) <|
        qn (.store 1 (.t 95) (.t 93)) <|
        q 11 (.mv (.t 94)) <|
        .keep [0, 4, 6, 7, 11, 16, 17] <|
        q 96 (.idxa 1 (some 6) (.t 7) (ci 5)) <|
        q 97 (.load false 1 (.t 96)) <|
        q 98 (.mv (.t 11)) <|
        q 99 (.bin .add (.t 97) (.t 98)) <|
        q 100 (.idxa 1 (some 6) (.t 7) (ci 4)) <|
        qn (.store 1 (.t 100) (.t 99)) <|
        .keep [0, 4, 6, 7, 16, 17] <|
        .done) <|
      q 101 (.bin .add (.t 17) (ci 1)) <|
      q 17 (.mv (.t 101)) <|
      .keep [0, 4, 6, 7, 16, 17] <|
      .keep [0, 4, 6, 7, 16, 17] <|
      .done)) <|
  q 102 (.mv (.t 0)) <|
  q 103 (.idxa 1 (some 6) (.t 7) (ci 0)) <|
  q 104 (.load false 1 (.t 103)) <|
  q 105 (.idxa 1 (some 6) (.t 7) (ci 1)) <|
  q 106 (.load false 1 (.t 105)) <|
  q 107 (.idxa 1 (some 6) (.t 7) (ci 2)) <|
  q 108 (.load false 1 (.t 107)) <|
  q 109 (.idxa 1 (some 6) (.t 7) (ci 3)) <|
  q 110 (.load false 1 (.t 109)) <|
  q 111 (.build (List.replicate 4 (.int .u64 0)) [(0, 1, (.t 104)), (1, 1, (.t 106)), (2, 1, (.t 108)), (3, 1, (.t 110))]) <|
  q 112 (.idxa 1 (some 6) (.t 7) (ci 4)) <|
  q 113 (.load false 1 (.t 112)) <|
  q 114 (.bin .gtr (.t 113) (.c (.int .u64 0))) <|
  q 115 (.call F.field_Field_less [(.t 102), (.t 111), (.t 114)]) <|
  qn (.store 4 (.t 6) (.t 115)) <|
  .keep [6] <|
  .ret
theorem ok_field_Field_mont : compF Try.prog (pfx false) (fun d => [].contains d) Try.f107 = some ic_field_Field_mont := by kernel_rfl
theorem e_field_Field_mont {args : List AV} {H : AH} {v : AV} {H' : AH} (h : iwp (pfx false) (Called Try.prog) ic_field_Field_mont (retQ [.c 6 true 4] H v H') (look (enterL 0 args)) H) : Called Try.prog F.field_Field_mont args H v H' :=
  fn_called mixed (cmpok false) Try.func107 (by kernel_rfl) ok_field_Field_mont (by kernel_rfl) h


def ic_field_Field_less : IC :=
  q 4 (.box (.t 1)) <|
  q 6 (.alloc (List.replicate 4 (.int .u64 0))) <|
  .keep [0, 2, 4, 6] <|
  q 7 (.mv (.t 2)) <|
  q 8 (.mv (.t 7)) <|
  qg 9 8 false (.load true 4 (.t 4)) <|
  qg 10 8 false (.mv (.t 0)) <|
  qg 11 8 false (.nilchk (.t 10)) <|
  qg 12 8 false (.fld 0 (.t 11)) <|
  qg 13 8 false (.load true 4 (.t 12)) <|
  qg 14 8 false (.call F.limb_Cmp [(.t 9), (.t 13)]) <|
  qg 15 8 false (.bin .geq (.t 14) (ci 0)) <|
  q 16 (.pick (.t 8) (cb true) (.t 15)) <|
  .keep [0, 4, 6, 16] <|
  .ite (.t 16)
    (q 18 (.load true 4 (.t 4)) <|
    q 19 (.mv (.t 0)) <|
    q 20 (.nilchk (.t 19)) <|
    q 21 (.fld 0 (.t 20)) <|
    q 22 (.load true 4 (.t 21)) <|
    q 23 (.call F.limb_Sub [(.t 18), (.t 22)]) <|
    q 17 (.mv (.t 23)) <|
    q 24 (.ext (.t 17) 0) <|
    q 25 (.ext (.t 17) 1) <|
    qn (.store 4 (.t 4) (.t 24)) <|
    .keep [4, 6] <|
    .done)
    (.done) <|
  q 26 (.load true 4 (.t 4)) <|
  qn (.store 4 (.t 6) (.t 26)) <|
  .keep [6] <|
  .ret
theorem ok_field_Field_less : compF Try.prog (pfx false) (fun d => [].contains d) Try.f109 = some ic_field_Field_less := by kernel_rfl
theorem e_field_Field_less {args : List AV} {H : AH} {v : AV} {H' : AH} (h : iwp (pfx false) (Called Try.prog) ic_field_Field_less (retQ [.c 6 true 4] H v H') (look (enterL 0 args)) H) : Called Try.prog F.field_Field_less args H v H' :=
  fn_called mixed (cmpok false) Try.func109 (by kernel_rfl) ok_field_Field_less (by kernel_rfl) h


def ic_clapperref02_Add : IC :=
  q 3 (.box (.t 0)) <|
  q 4 (.box (.t 1)) <|
  q 5 (.box (.t 2)) <|
  q 6 (.alloc (List.replicate 4 (.int .u64 0))) <|
  .keep [3, 4, 5, 6] <|
  q 10 (.load true 4 (.t 3)) <|
  q 11 (.load true 4 (.t 4)) <|
  q 12 (.call F.clapperref02_plus [(.t 10), (.t 11)]) <|
  q 9 (.mv (.t 12)) <|
  q 13 (.ext (.t 9) 0) <|
  q 14 (.ext (.t 9) 1) <|
  q 7 (.alloc (List.replicate 4 (.int .u64 0))) <|
  qn (.store 4 (.t 7) (.t 13)) <|
  q 8 (.mv (.t 14)) <|
  .keep [5, 6, 7, 8] <|
  q 15 (.mv (.t 8)) <|
  q 16 (.mv (.t 15)) <|
  qg 17 16 false (.load true 4 (.t 7)) <|
  qg 18 16 false (.load true 4 (.t 5)) <|
  qg 19 16 false (.call F.clapperref02_less [(.t 17), (.t 18)]) <|
  qg 20 16 false (.un .not (.t 19)) <|
  q 21 (.pick (.t 16) (cb true) (.t 20)) <|
  .keep [5, 6, 7, 21] <|
  .ite (.t 21)
    (q 22 (.load true 4 (.t 7)) <|
    q 23 (.load true 4 (.t 5)) <|
    q 24 (.call F.clapperref02_minus [(.t 22), (.t 23)]) <|
    qn (.store 4 (.t 7) (.t 24)) <|
    .keep [6, 7] <|
    .done)
    (.done) <|
  q 25 (.load true 4 (.t 7)) <|
  qn (.store 4 (.t 6) (.t 25)) <|
  .keep [6] <|
  .ret
theorem ok_clapperref02_Add : compF Try.prog (pfx false) (fun d => [].contains d) Try.f119 = some ic_clapperref02_Add := by kernel_rfl
theorem e_clapperref02_Add {args : List AV} {H : AH} {v : AV} {H' : AH} (h : iwp (pfx false) (Called Try.prog) ic_clapperref02_Add (retQ [.c 6 true 4] H v H') (look (enterL 0 args)) H) : Called Try.prog F.clapperref02_Add args H v H' :=
  fn_called mixed (cmpok false) Try.func119 (by kernel_rfl) ok_clapperref02_Add (by kernel_rfl) h


def ic_field_Field_half : IC :=
  q 3 (.box (.t 1)) <|
  q 4 (.alloc (List.replicate 4 (.int .u64 0))) <|
  .keep [0, 3, 4] <|
  q 7 (.idxa 1 (some 4) (.t 3) (ci 0)) <|
  q 8 (.load false 1 (.t 7)) <|
  q 9 (.bin .and (.t 8) (.c (.int .u64 1))) <|
  q 10 (.bin .eql (.t 9) (.c (.int .u64 0))) <|
  .keep [0, 3, 4, 10] <|
  .ite (.t 10)
    (q 11 (.load true 4 (.t 3)) <|
    q 12 (.call F.limb_Half [(.t 11)]) <|
    qn (.store 4 (.t 4) (.t 12)) <|
    .keep [4] <|
    .ret)
    (.done) <|
  .reg 1
    [xe 14 (.load true 4 (.t 3)) [],
     xe 15 (.mv (.t 0)) [],
     xe 16 (.nilchk (.t 15)) [],
     xe 17 (.fld 0 (.t 16)) [],
     xe 18 (.load true 4 (.t 17)) [],
     xe 19 (.call F.limb_Add [(.t 14), (.t 18)]) [],
     xe 13 (.mv (.t 19)) [],
     xe 20 (.ext (.t 13) 0) [],
     xe 21 (.ext (.t 13) 1) [],
     xa 0 5 (.alloc (List.replicate 4 (.int .u64 0))),
     xln (.store 4 (.t 5) (.t 20)) [],
     xl 6 (.mv (.t 21)) []] <|
  .keep [4, 5, 6] <|
  q 22 (.load true 4 (.t 5)) <|
  q 23 (.call F.limb_Half [(.t 22)]) <|
  qn (.store 4 (.t 5) (.t 23)) <|
  .keep [4, 5, 6] <|
  q 24 (.mv (.t 6)) <|
  .keep [4, 5, 24] <|
  .ite (.t 24)
    (q 25 (.idxa 1 (some 4) (.t 5) (ci 3)) <|
    q 26 (.load false 1 (.t 25)) <|
    q 27 (.bin .or (.t 26) (.c (.int .u64 9223372036854775808))) <|
    q 28 (.idxa 1 (some 4) (.t 5) (ci 3)) <|
    qn (.store 1 (.t 28) (.t 27)) <|
    .keep [4, 5] <|
    .done)
    (.done) <|
  q 29 (.load true 4 (.t 5)) <|
  qn (.store 4 (.t 4) (.t 29)) <|
  .keep [4] <|
  .ret
theorem ok_field_Field_half : compF Try.prog (pfx false) (fun d => [].contains d) Try.f140 = some ic_field_Field_half := by kernel_rfl
theorem e_field_Field_half {args : List AV} {H : AH} {v : AV} {H' : AH} (h : iwp (pfx false) (Called Try.prog) ic_field_Field_half (retQ [.c 4 true 4] H v H') (look (enterL 0 args)) H) : Called Try.prog F.field_Field_half args H v H' :=
  fn_called mixed (cmpok false) Try.func140 (by kernel_rfl) ok_field_Field_half (by kernel_rfl) h


def ic_field_step : IC :=
  q 8 (.mv (.c (.int .u64 0))) <|
  q 9 (.mv (.c (.int .u64 0))) <|
  .keep [0, 1, 2, 3] <|
  q 14 (.mv (.t 0)) <|
  q 15 (.mv (.t 1)) <|
  q 16 (.call F.math_bits_Mul64 [(.t 14), (.t 15)]) <|
  q 13 (.mv (.t 16)) <|
  q 17 (.ext (.t 13) 0) <|
  q 18 (.ext (.t 13) 1) <|
  q 10 (.mv (.t 17)) <|
  q 11 (.mv (.t 18)) <|
  .keep [2, 3, 10, 11] <|
  q 20 (.mv (.t 11)) <|
  q 21 (.mv (.t 2)) <|
  q 22 (.carry false (.t 20) (.t 21) (.c (.int .u64 0))) <|
  q 19 (.mv (.t 22)) <|
  q 23 (.ext (.t 19) 0) <|
  q 24 (.ext (.t 19) 1) <|
  q 11 (.mv (.t 23)) <|
  q 12 (.mv (.t 24)) <|
  .keep [3, 10, 11, 12] <|
  q 25 (.mv (.t 10)) <|
  q 26 (.mv (.t 12)) <|
  q 27 (.bin .add (.t 25) (.t 26)) <|
  q 10 (.mv (.t 27)) <|
  .keep [3, 10, 11] <|
  q 29 (.mv (.t 11)) <|
  q 30 (.mv (.t 3)) <|
  q 31 (.carry false (.t 29) (.t 30) (.c (.int .u64 0))) <|
  q 28 (.mv (.t 31)) <|
  q 32 (.ext (.t 28) 0) <|
  q 33 (.ext (.t 28) 1) <|
  q 11 (.mv (.t 32)) <|
  q 12 (.mv (.t 33)) <|
  .keep [10, 11, 12] <|
  q 34 (.mv (.t 11)) <|
  q 35 (.mv (.t 10)) <|
  q 36 (.mv (.t 12)) <|
  q 37 (.bin .add (.t 35) (.t 36)) <|
  q 8 (.mv (.t 34)) <|
  q 9 (.mv (.t 37)) <|
  .keep [8, 9] <|
  .ret
theorem ok_field_step : compF Try.prog (pfx false) (fun d => [].contains d) Try.f143 = some ic_field_step := by kernel_rfl
theorem e_field_step {args : List AV} {H : AH} {v : AV} {H' : AH} (h : iwp (pfx false) (Called Try.prog) ic_field_step (retQ [.t 8, .t 9] H v H') (look (enterL 0 args)) H) : Called Try.prog F.field_step args H v H' :=
  fn_called mixed (cmpok false) Try.func143 (by kernel_rfl) ok_field_step (by kernel_rfl) h


def ic_clapperref02_Mul : IC :=
  q 3 (.box (.t 0)) <|
  q 4 (.box (.t 1)) <|
  q 5 (.box (.t 2)) <|
  q 6 (.alloc (List.replicate 4 (.int .u64 0))) <|
  .keep [3, 4, 5, 6] <|
  q 7 (.alloc (List.replicate 4 (.int .u64 0))) <|
  .keep [3, 4, 5, 6, 7] <|
  q 8 (.mv (ci 3)) <|
  .keep [3, 4, 5, 6, 7, 8] <|
  .block 0
    (.keep [3, 4, 5, 6, 7, 8] <|
    .loop
      (q 11 (.mv (.t 8)) <|
      q 12 (.bin .geq (.t 11) (ci 0)) <|
      .keep [3, 4, 5, 6, 7, 8, 12] <|
      .ite (.t 12)
        (.done)
        (.exit 0) <|
      .block 1
        (q 15 (.mv (.t 8)) <|
        q 16 (.idxa 1 (some 4) (.t 4) (.t 15)) <|
        q 17 (.load false 1 (.t 16)) <|
        q 9 (.mv (.t 17)) <|
        .keep [3, 4, 5, 6, 7, 8, 9] <|
        q 10 (.mv (ci 0)) <|
        .keep [3, 4, 5, 6, 7, 8, 9, 10] <|
        .block 2
          (.keep [3, 4, 5, 6, 7, 8, 9, 10] <|
          .loop
            (q 18 (.mv (.t 10)) <|
            q 19 (.bin .lss (.t 18) (ci 64)) <|
            .keep [3, 4, 5, 6, 7, 8, 9, 10, 19] <|
            .ite (.t 19)
              (.done)
              (.exit 2) <|
            .block 3
              (q 22 (.load true 4 (.t 7)) <|
              q 23 (.load true 4 (.t 7)) <|
              q 24 (.load true 4 (.t 5)) <|
              q 25 (.call F.clapperref02_Add [(.t 22), (.t 23), (.t 24)]) <|
              qn (.store 4 (.t 7) (.t 25)) <|
              .keep [3, 4, 5, 6, 7, 8, 9, 10] <|
              q 26 (.mv (.t 9)) <|
              q 27 (.bin .geq (.t 26) (.c (.int .u64 9223372036854775808))) <|
              .keep [3, 4, 5, 6, 7, 8, 9, 10, 27] <|
              .ite (.t 27)
                (q 28 (.load true 4 (.t 7)) <|
                q 29 (.load true 4 (.t 3)) <|
                q 30 (.load true 4 (.t 5)) <|
                q 31 (.call F.clapperref02_Add [(.t 28), (.t 29), (.t 30)]) <|
                qn (.store 4 (.t 7) (.t 31)) <|
                .keep [3, 4, 5, 6, 7, 8, 9, 10] <|
                .done)
                (.done) <|
              q 32 (.mv (.t 9)) <|
              q 33 (.mv (.t 9)) <|
              q 34 (.bin .add (.t 32) (.t 33)) <|
              q 9 (.mv (.t 34)) <|
              .keep [3, 4, 5, 6, 7, 8, 9, 10] <|
              .done) <|
            q 20 (.mv (.t 10)) <|
            q 21 (.bin .add (.t 20) (ci 1)) <|
            q 10 (.mv (.t 21)) <|
            .keep [3, 4, 5, 6, 7, 8, 9, 10] <|
            .keep [3, 4, 5, 6, 7, 8, 9, 10] <|
            .done)) <|
        .done) <|
      q 13 (.mv (.t 8)) <|
      q 14 (.bin .sub (.t 13) (ci 1)) <|
      q 8 (.mv (.t 14)) <|
      .keep [3, 4, 5, 6, 7, 8] <|
      .keep [3, 4, 5, 6, 7, 8] <|
      .done)) <|
  q 35 (.load true 4 (.t 7)) <|
  qn (.store 4 (.t 6) (.t 35)) <|
  .keep [6] <|
  .ret
theorem ok_clapperref02_Mul : compF Try.prog (pfx false) (fun d => [].contains d) Try.f146 = some ic_clapperref02_Mul := by kernel_rfl
theorem e_clapperref02_Mul {args : List AV} {H : AH} {v : AV} {H' : AH} (h : iwp (pfx false) (Called Try.prog) ic_clapperref02_Mul (retQ [.c 6 true 4] H v H') (look (enterL 0 args)) H) : Called Try.prog F.clapperref02_Mul args H v H' :=
  fn_called mixed (cmpok false) Try.func146 (by kernel_rfl) ok_clapperref02_Mul (by kernel_rfl) h


def ic_clapperref02_plus : IC :=
  q 2 (.box (.t 0)) <|
  q 3 (.box (.t 1)) <|
  q 4 (.alloc (List.replicate 4 (.int .u64 0))) <|
  q 5 (.mv (cb false)) <|
  .keep [2, 3, 4] <|
  q 6 (.mv (.c (.int .u64 0))) <|
  .keep [2, 3, 4, 6] <|
  q 7 (.mv (ci 0)) <|
  .keep [2, 3, 4, 6, 7] <|
  .block 0
    (.keep [2, 3, 4, 6, 7] <|
    .loop
      (q 8 (.mv (.t 7)) <|
      q 9 (.bin .lss (.t 8) (ci 4)) <|
      .keep [2, 3, 4, 6, 7, 9] <|
      .ite (.t 9)
        (.done)
        (.exit 0) <|
      .block 1
        (q 13 (.mv (.t 7)) <|
        q 14 (.mv (.t 7)) <|
        q 15 (.idxa 1 (some 4) (.t 2) (.t 14)) <|
        q 16 (.load false 1 (.t 15)) <|
        q 17 (.mv (.t 7)) <|
        q 18 (.idxa 1 (some 4) (.t 3) (.t 17)) <|
        q 19 (.load false 1 (.t 18)) <|
        q 20 (.mv (.t 6)) <|
        q 21 (.call F.clapperref02_add [(.t 16), (.t 19), (.t 20)]) <|
        q 12 (.mv (.t 21)) <|
        q 22 (.ext (.t 12) 0) <|
        q 23 (.ext (.t 12) 1) <|
        q 24 (.idxa 1 (some 4) (.t 2) (.t 13)) <|
        qn (.store 1 (.t 24) (.t 22)) <|
        q 6 (.mv (.t 23)) <|
        .keep [2, 3, 4, 6, 7] <|
        .done) <|
      q 10 (.mv (.t 7)) <|
      q 11 (.bin .add (.t 10) (ci 1)) <|
      q 7 (.mv (.t 11)) <|
      .keep [2, 3, 4, 6, 7] <|
      .keep [2, 3, 4, 6, 7] <|
      .done)) <|
  q 25 (.load true 4 (.t 2)) <|
  q 26 (.mv (.t 6)) <|
  q 27 (.bin .eql (.t 26) (.c (.int .u64 1))) <|
  qn (.store 4 (.t 4) (.t 25)) <|
  q 5 (.mv (.t 27)) <|
  .keep [4, 5] <|
  .ret
theorem ok_clapperref02_plus : compF Try.prog (pfx false) (fun d => [].contains d) Try.f147 = some ic_clapperref02_plus := by kernel_rfl
theorem e_clapperref02_plus {args : List AV} {H : AH} {v : AV} {H' : AH} (h : iwp (pfx false) (Called Try.prog) ic_clapperref02_plus (retQ [.c 4 true 4, .t 5] H v H') (look (enterL 0 args)) H) : Called Try.prog F.clapperref02_plus args H v H' :=
  fn_called mixed (cmpok false) Try.func147 (by kernel_rfl) ok_clapperref02_plus (by kernel_rfl) h


def ic_clapperref02_less : IC :=
  q 2 (.box (.t 0)) <|
  q 3 (.box (.t 1)) <|
  q 4 (.mv (cb false)) <|
  .keep [2, 3] <|
  q 5 (.mv (ci 3)) <|
  .keep [2, 3, 5] <|
  .block 0
    (.keep [2, 3, 5] <|
    .loop
      (q 6 (.mv (.t 5)) <|
      q 7 (.bin .geq (.t 6) (ci 0)) <|
      .keep [2, 3, 5, 7] <|
      .ite (.t 7)
        (.done)
        (.exit 0) <|
      .block 1
        (q 10 (.mv (.t 5)) <|
        q 11 (.idxa 1 (some 4) (.t 2) (.t 10)) <|
        q 12 (.load false 1 (.t 11)) <|
        q 13 (.mv (.t 5)) <|
        q 14 (.idxa 1 (some 4) (.t 3) (.t 13)) <|
        q 15 (.load false 1 (.t 14)) <|
        q 16 (.bin .neq (.t 12) (.t 15)) <|
        .keep [2, 3, 5, 16] <|
        .ite (.t 16)
          (q 17 (.mv (.t 5)) <|
          q 18 (.idxa 1 (some 4) (.t 2) (.t 17)) <|
          q 19 (.load false 1 (.t 18)) <|
          q 20 (.mv (.t 5)) <|
          q 21 (.idxa 1 (some 4) (.t 3) (.t 20)) <|
          q 22 (.load false 1 (.t 21)) <|
          q 23 (.bin .lss (.t 19) (.t 22)) <|
          q 4 (.mv (.t 23)) <|
          .keep [4] <|
          .ret)
          (.done) <|
        .done) <|
      q 8 (.mv (.t 5)) <|
      q 9 (.bin .sub (.t 8) (ci 1)) <|
      q 5 (.mv (.t 9)) <|
      .keep [2, 3, 5] <|
      .keep [2, 3, 5] <|
      .done)) <|
  q 4 (.mv (cb false)) <|
  .keep [4] <|
  .ret
theorem ok_clapperref02_less : compF Try.prog (pfx false) (fun d => [].contains d) Try.f148 = some ic_clapperref02_less := by kernel_rfl
theorem e_clapperref02_less {args : List AV} {H : AH} {v : AV} {H' : AH} (h : iwp (pfx false) (Called Try.prog) ic_clapperref02_less (retQ [.t 4] H v H') (look (enterL 0 args)) H) : Called Try.prog F.clapperref02_less args H v H' :=
  fn_called mixed (cmpok false) Try.func148 (by kernel_rfl) ok_clapperref02_less (by kernel_rfl) h


def ic_clapperref02_minus : IC :=
  q 2 (.box (.t 0)) <|
  q 3 (.box (.t 1)) <|
  q 4 (.alloc (List.replicate 4 (.int .u64 0))) <|
  .keep [2, 3, 4] <|
  q 5 (.mv (ci 0)) <|
  .keep [2, 3, 4, 5] <|
  .block 0
    (.keep [2, 3, 4, 5] <|
    .loop
      (q 8 (.mv (.t 5)) <|
      q 9 (.bin .lss (.t 8) (ci 4)) <|
      .keep [2, 3, 4, 5, 9] <|
      .ite (.t 9)
        (.done)
        (.exit 0) <|
      .block 1
        (q 12 (.mv (.t 5)) <|
        q 13 (.mv (.t 5)) <|
        q 14 (.idxa 1 (some 4) (.t 3) (.t 13)) <|
        q 15 (.load false 1 (.t 14)) <|
        q 16 (.bin .sub (.c (.int .u64 18446744073709551615)) (.t 15)) <|
        q 17 (.idxa 1 (some 4) (.t 3) (.t 12)) <|
        qn (.store 1 (.t 17) (.t 16)) <|
        .keep [2, 3, 4, 5] <|
        .done) <|
      q 10 (.mv (.t 5)) <|
      q 11 (.bin .add (.t 10) (ci 1)) <|
      q 5 (.mv (.t 11)) <|
      .keep [2, 3, 4, 5] <|
      .keep [2, 3, 4, 5] <|
      .done)) <|
  q 19 (.load true 4 (.t 2)) <|
  q 20 (.load true 4 (.t 3)) <|
  q 21 (.call F.clapperref02_plus [(.t 19), (.t 20)]) <|
  q 18 (.mv (.t 21)) <|
  q 22 (.ext (.t 18) 0) <|
  q 23 (.ext (.t 18) 1) <|
  q 6 (.alloc (List.replicate 4 (.int .u64 0))) <|
  qn (.store 4 (.t 6) (.t 22)) <|
  q 7 (.mv (.t 23)) <|
  .keep [4, 6] <|
  q 25 (.load true 4 (.t 6)) <|
  q 26 (.build (List.replicate 4 (.int .u64 0)) [(0, 1, (.c (.int .u64 1)))]) <|
  q 27 (.call F.clapperref02_plus [(.t 25), (.t 26)]) <|
  q 24 (.mv (.t 27)) <|
  q 28 (.ext (.t 24) 0) <|
  q 29 (.ext (.t 24) 1) <|
  qn (.store 4 (.t 6) (.t 28)) <|
  .keep [4, 6] <|
  q 30 (.load true 4 (.t 6)) <|
  qn (.store 4 (.t 4) (.t 30)) <|
  .keep [4] <|
  .ret
theorem ok_clapperref02_minus : compF Try.prog (pfx false) (fun d => [].contains d) Try.f149 = some ic_clapperref02_minus := by kernel_rfl
theorem e_clapperref02_minus {args : List AV} {H : AH} {v : AV} {H' : AH} (h : iwp (pfx false) (Called Try.prog) ic_clapperref02_minus (retQ [.c 4 true 4] H v H') (look (enterL 0 args)) H) : Called Try.prog F.clapperref02_minus args H v H' :=
  fn_called mixed (cmpok false) Try.func149 (by kernel_rfl) ok_clapperref02_minus (by kernel_rfl) h


def ic_clapperref02_Sub : IC :=
  q 3 (.box (.t 0)) <|
  q 4 (.box (.t 1)) <|
  q 5 (.box (.t 2)) <|
  q 6 (.alloc (List.replicate 4 (.int .u64 0))) <|
  .keep [3, 4, 5, 6] <|
  q 9 (.load true 4 (.t 3)) <|
  q 10 (.load true 4 (.t 4)) <|
  q 11 (.call F.clapperref02_less [(.t 9), (.t 10)]) <|
  .keep [3, 4, 5, 6, 11] <|
  .ite (.t 11)
    (.reg 1
      [xe 13 (.load true 4 (.t 3)) [],
       xe 14 (.load true 4 (.t 4)) [],
       xe 15 (.call F.clapperref02_minus [(.t 13), (.t 14)]) [],
       xe 16 (.load true 4 (.t 5)) [],
       xe 17 (.call F.clapperref02_plus [(.t 15), (.t 16)]) [],
       xe 12 (.mv (.t 17)) [],
       xe 18 (.ext (.t 12) 0) [],
       xe 19 (.ext (.t 12) 1) [],
       xa 0 7 (.alloc (List.replicate 4 (.int .u64 0))),
       xln (.store 4 (.t 7) (.t 18)) [],
       xl 8 (.mv (.t 19)) []] <|
    .keep [6, 7] <|
    q 20 (.load true 4 (.t 7)) <|
    qn (.store 4 (.t 6) (.t 20)) <|
    .keep [6] <|
    .ret)
    (.done) <|
  q 21 (.load true 4 (.t 3)) <|
  q 22 (.load true 4 (.t 4)) <|
  q 23 (.call F.clapperref02_minus [(.t 21), (.t 22)]) <|
  qn (.store 4 (.t 6) (.t 23)) <|
  .keep [6] <|
  .ret
theorem ok_clapperref02_Sub : compF Try.prog (pfx false) (fun d => [].contains d) Try.f150 = some ic_clapperref02_Sub := by kernel_rfl
theorem e_clapperref02_Sub {args : List AV} {H : AH} {v : AV} {H' : AH} (h : iwp (pfx false) (Called Try.prog) ic_clapperref02_Sub (retQ [.c 6 true 4] H v H') (look (enterL 0 args)) H) : Called Try.prog F.clapperref02_Sub args H v H' :=
  fn_called mixed (cmpok false) Try.func150 (by kernel_rfl) ok_clapperref02_Sub (by kernel_rfl) h


def ic_clapperref02_add : IC :=
  q 6 (.mv (.c (.int .u64 0))) <|
  q 7 (.mv (.c (.int .u64 0))) <|
  .keep [0, 1, 2] <|
  q 11 (.mv (.t 0)) <|
  q 12 (.mv (.t 1)) <|
  q 13 (.bin .add (.t 11) (.t 12)) <|
  q 8 (.mv (.t 13)) <|
  .keep [0, 2, 8] <|
  q 9 (.mv (.c (.int .u64 0))) <|
  .keep [0, 2, 8, 9] <|
  q 14 (.mv (.t 8)) <|
  q 15 (.mv (.t 0)) <|
  q 16 (.bin .lss (.t 14) (.t 15)) <|
  .keep [2, 8, 9, 16] <|
  .ite (.t 16)
    (q 9 (.mv (.c (.int .u64 1))) <|
    .keep [2, 8, 9] <|
    .done)
    (.done) <|
  q 17 (.mv (.t 8)) <|
  q 18 (.mv (.t 2)) <|
  q 19 (.bin .add (.t 17) (.t 18)) <|
  q 10 (.mv (.t 19)) <|
  .keep [8, 9, 10] <|
  q 20 (.mv (.t 10)) <|
  q 21 (.mv (.t 8)) <|
  q 22 (.bin .lss (.t 20) (.t 21)) <|
  .keep [9, 10, 22] <|
  .ite (.t 22)
    (q 9 (.mv (.c (.int .u64 1))) <|
    .keep [9, 10] <|
    .done)
    (.done) <|
  q 23 (.mv (.t 10)) <|
  q 24 (.mv (.t 9)) <|
  q 6 (.mv (.t 23)) <|
  q 7 (.mv (.t 24)) <|
  .keep [6, 7] <|
  .ret
theorem ok_clapperref02_add : compF Try.prog (pfx false) (fun d => [].contains d) Try.f161 = some ic_clapperref02_add := by kernel_rfl
theorem e_clapperref02_add {args : List AV} {H : AH} {v : AV} {H' : AH} (h : iwp (pfx false) (Called Try.prog) ic_clapperref02_add (retQ [.t 6, .t 7] H v H') (look (enterL 0 args)) H) : Called Try.prog F.clapperref02_add args H v H' :=
  fn_called mixed (cmpok false) Try.func161 (by kernel_rfl) ok_clapperref02_add (by kernel_rfl) h
end Go.Proofs.Ytgfploghjpbcaaa.Eng

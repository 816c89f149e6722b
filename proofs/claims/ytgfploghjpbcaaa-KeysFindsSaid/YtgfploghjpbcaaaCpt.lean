/- The code of some functions, as the abstract machine's. Printed by program. -/
import Derived.Test.YtgfploghjpbcaaaNm
namespace Go.Proofs.Ytgfploghjpbcaaa.Eng
open Go Go.Proofs
set_option maxRecDepth 20000

def ic_point_N : IC :=
  q 0 (.alloc (List.replicate 4 (.int .u64 0))) <|
  .keep [0] <|
  q 1 (.build (List.replicate 4 (.int .u64 0)) [(0, 1, (.c (.int .u64 17562291160714782033))), (1, 1, (.c (.int .u64 13611842547513532036))), (2, 1, (.c (.int .u64 18446744073709551615))), (3, 1, (.c (.int .u64 18446744069414584320)))]) <|
  qn (.store 4 (.t 0) (.t 1)) <|
  .keep [0] <|
  .ret
theorem ok_point_N : compF Try.prog (pfx false) (fun d => [].contains d) Try.f19 = some ic_point_N := by kernel_rfl
theorem e_point_N {args : List AV} {H : AH} {v : AV} {H' : AH} (h : iwp (pfx false) (Called Try.prog) ic_point_N (retQ [.c 0 true 4] H v H') (look (enterL 0 args)) H) : Called Try.prog F.point_N args H v H' :=
  fn_called mixed (cmpok false) Try.func19 (by kernel_rfl) ok_point_N (by kernel_rfl) h


def ic_point_On : IC :=
  q 1 (.box (.t 0)) <|
  q 2 (.mv (cb false)) <|
  .keep [1] <|
  .reg 0
    [xm 3 (.call F.point_of []) [],
     xe 4 (.load true 9 (.t 1)) [],
     xl 5 (.call F.point_curve_on [(.t 3), (.t 4)]) [],
     xl 2 (.mv (.t 5)) []] <|
  .keep [2] <|
  .ret
theorem ok_point_On : compF Try.prog (pfx false) (fun d => [].contains d) Try.f22 = some ic_point_On := by kernel_rfl
theorem e_point_On {args : List AV} {H : AH} {v : AV} {H' : AH} (h : iwp (pfx false) (Called Try.prog) ic_point_On (retQ [.t 2] H v H') (look (enterL 0 args)) H) : Called Try.prog F.point_On args H v H' :=
  fn_called mixed (cmpok false) Try.func22 (by kernel_rfl) ok_point_On (by kernel_rfl) h


def ic_clapperref05_N : IC :=
  q 0 (.alloc (List.replicate 4 (.int .u64 0))) <|
  .keep [0] <|
  q 1 (.build (List.replicate 4 (.int .u64 0)) [(0, 1, (.c (.int .u64 17562291160714782033))), (1, 1, (.c (.int .u64 13611842547513532036))), (2, 1, (.c (.int .u64 18446744073709551615))), (3, 1, (.c (.int .u64 18446744069414584320)))]) <|
  qn (.store 4 (.t 0) (.t 1)) <|
  .keep [0] <|
  .ret
theorem ok_clapperref05_N : compF Try.prog (pfx false) (fun d => [].contains d) Try.f54 = some ic_clapperref05_N := by kernel_rfl
theorem e_clapperref05_N {args : List AV} {H : AH} {v : AV} {H' : AH} (h : iwp (pfx false) (Called Try.prog) ic_clapperref05_N (retQ [.c 0 true 4] H v H') (look (enterL 0 args)) H) : Called Try.prog F.clapperref05_N args H v H' :=
  fn_called mixed (cmpok false) Try.func54 (by kernel_rfl) ok_clapperref05_N (by kernel_rfl) h


def ic_point_Mul : IC :=
  q 2 (.box (.t 0)) <|
  q 3 (.box (.t 1)) <|
  q 4 (.alloc [.int .u64 0, .int .u64 0, .int .u64 0, .int .u64 0, .int .u64 0, .int .u64 0, .int .u64 0, .int .u64 0, .bool false]) <|
  q 5 (.mv (.c (.nilIface))) <|
  .keep [2, 3, 4] <|
  q 10 (.call F.point_of []) <|
  q 6 (.alloc [.pointer none, .nilFunc, .nilFunc, .nilFunc]) <|
  qn (.store 4 (.t 6) (.t 10)) <|
  .keep [2, 3, 4, 6] <|
  q 11 (.load true 4 (.t 6)) <|
  q 12 (.load true 9 (.t 3)) <|
  q 13 (.call F.point_curve_on [(.t 11), (.t 12)]) <|
  q 14 (.un .not (.t 13)) <|
  .keep [2, 3, 4, 6, 14] <|
  .ite (.t 14)
    (q 15 (.build [.int .u64 0, .int .u64 0, .int .u64 0, .int .u64 0, .int .u64 0, .int .u64 0, .int .u64 0, .int .u64 0, .bool false] []) <|
    q 16 (.mkif T.api_Code (ci 1)) <|
    qn (.store 9 (.t 4) (.t 15)) <|
    q 5 (.mv (.t 16)) <|
    .keep [4, 5] <|
    .ret)
    (.done) <|
  q 7 (.alloc (List.replicate 12 (.int .u64 0))) <|
  .keep [2, 3, 4, 6, 7] <|
  q 17 (.load true 9 (.t 3)) <|
  q 18 (.call F.point_lift [(.t 17)]) <|
  q 8 (.alloc (List.replicate 12 (.int .u64 0))) <|
  qn (.store 12 (.t 8) (.t 18)) <|
  .keep [2, 4, 6, 7, 8] <|
  q 19 (.load true 4 (.t 2)) <|
  q 20 (.call F.limb_Len [(.t 19)]) <|
  q 21 (.bin .sub (.t 20) (ci 1)) <|
  q 9 (.mv (.t 21)) <|
  .keep [2, 4, 6, 7, 8, 9] <|
  .block 0
    (.keep [2, 4, 6, 7, 8, 9] <|
    .loop
      (q 22 (.mv (.t 9)) <|
      q 23 (.bin .geq (.t 22) (ci 0)) <|
      .keep [2, 4, 6, 7, 8, 9, 23] <|
      .ite (.t 23)
        (.done)
        (.exit 0) <|
      .block 1
        (q 26 (.load true 4 (.t 6)) <|
        q 27 (.load true 12 (.t 7)) <|
        q 28 (.call F.point_curve_twice [(.t 26), (.t 27)]) <|
        qn (.store 12 (.t 7) (.t 28)) <|
        .keep [2, 4, 6, 7, 8, 9] <|
        q 29 (.load true 4 (.t 2)) <|
        q 30 (.mv (.t 9)) <|
        q 31 (.call F.limb_Bit [(.t 29), (.t 30)]) <|
        .keep [2, 4, 6, 7, 8, 9, 31] <|
        .ite (.t 31)
          (q 32 (.load true 4 (.t 6)) <|
          q 33 (.load true 12 (.t 7)) <|
          q 34 (.load true 12 (.t 8)) <|
          q 35 (.call F.point_curve_sum [(.t 32), (.t 33), (.t 34)]) <|
          qn (.store 12 (.t 7) (.t 35)) <|
          .keep [2, 4, 6, 7, 8, 9] <|
          .done)
          (.done) <|
        .done) <|
      q 24 (.mv (.t 9)) <|
      q 25 (.bin .sub (.t 24) (ci 1)) <|
      q 9 (.mv (.t 25)) <|
      .keep [2, 4, 6, 7, 8, 9] <|
      .keep [2, 4, 6, 7, 8, 9] <|
      .done)) <|
  q 36 (.load true 4 (.t 6)) <|
  q 37 (.load true 12 (.t 7)) <|
  q 38 (.call F.point_curve_flat [(.t 36), (.t 37)]) <|
  qn (.store 9 (.t 4) (.t 38)) <|
  q 5 (.mv (.c (.nilIface))) <|
  .keep [4, 5] <|
  .ret
theorem ok_point_Mul : compF Try.prog (pfx false) (fun d => [].contains d) Try.f58 = some ic_point_Mul := by kernel_rfl
theorem e_point_Mul {args : List AV} {H : AH} {v : AV} {H' : AH} (h : iwp (pfx false) (Called Try.prog) ic_point_Mul (retQ [.c 4 true 9, .t 5] H v H') (look (enterL 0 args)) H) : Called Try.prog F.point_Mul args H v H' :=
  fn_called mixed (cmpok false) Try.func58 (by kernel_rfl) ok_point_Mul (by kernel_rfl) h


def ic_point_Base : IC :=
  q 0 (.alloc [.int .u64 0, .int .u64 0, .int .u64 0, .int .u64 0, .int .u64 0, .int .u64 0, .int .u64 0, .int .u64 0, .bool false]) <|
  .keep [0] <|
  q 1 (.build (List.replicate 4 (.int .u64 0)) [(0, 1, (.c (.int .u64 17627433388654248598))), (1, 1, (.c (.int .u64 8575836109218198432))), (2, 1, (.c (.int .u64 17923454489921339634))), (3, 1, (.c (.int .u64 7716867327612699207)))]) <|
  q 2 (.build (List.replicate 4 (.int .u64 0)) [(0, 1, (.c (.int .u64 14678990851816772085))), (1, 1, (.c (.int .u64 3156516839386865358))), (2, 1, (.c (.int .u64 10297457778147434006))), (3, 1, (.c (.int .u64 5756518291402817435)))]) <|
  q 3 (.build [.int .u64 0, .int .u64 0, .int .u64 0, .int .u64 0, .int .u64 0, .int .u64 0, .int .u64 0, .int .u64 0, .bool false] [(0, 4, (.t 1)), (4, 4, (.t 2))]) <|
  qn (.store 9 (.t 0) (.t 3)) <|
  .keep [0] <|
  .ret
theorem ok_point_Base : compF Try.prog (pfx false) (fun d => [].contains d) Try.f61 = some ic_point_Base := by kernel_rfl
theorem e_point_Base {args : List AV} {H : AH} {v : AV} {H' : AH} (h : iwp (pfx false) (Called Try.prog) ic_point_Base (retQ [.c 0 true 9] H v H') (look (enterL 0 args)) H) : Called Try.prog F.point_Base args H v H' :=
  fn_called mixed (cmpok false) Try.func61 (by kernel_rfl) ok_point_Base (by kernel_rfl) h


def ic_point_Add : IC :=
  q 2 (.box (.t 0)) <|
  q 3 (.box (.t 1)) <|
  q 4 (.alloc [.int .u64 0, .int .u64 0, .int .u64 0, .int .u64 0, .int .u64 0, .int .u64 0, .int .u64 0, .int .u64 0, .bool false]) <|
  q 5 (.mv (.c (.nilIface))) <|
  .keep [2, 3, 4] <|
  q 7 (.call F.point_of []) <|
  q 6 (.alloc [.pointer none, .nilFunc, .nilFunc, .nilFunc]) <|
  qn (.store 4 (.t 6) (.t 7)) <|
  .keep [2, 3, 4, 6] <|
  q 8 (.load true 4 (.t 6)) <|
  q 9 (.load true 9 (.t 2)) <|
  q 10 (.call F.point_curve_on [(.t 8), (.t 9)]) <|
  q 11 (.un .not (.t 10)) <|
  q 12 (.mv (.t 11)) <|
  qg 13 12 false (.load true 4 (.t 6)) <|
  qg 14 12 false (.load true 9 (.t 3)) <|
  qg 15 12 false (.call F.point_curve_on [(.t 13), (.t 14)]) <|
  qg 16 12 false (.un .not (.t 15)) <|
  q 17 (.pick (.t 12) (cb true) (.t 16)) <|
  .keep [2, 3, 4, 6, 17] <|
  .ite (.t 17)
    (q 18 (.build [.int .u64 0, .int .u64 0, .int .u64 0, .int .u64 0, .int .u64 0, .int .u64 0, .int .u64 0, .int .u64 0, .bool false] []) <|
    q 19 (.mkif T.api_Code (ci 1)) <|
    qn (.store 9 (.t 4) (.t 18)) <|
    q 5 (.mv (.t 19)) <|
    .keep [4, 5] <|
    .ret)
    (.done) <|
  q 20 (.load true 4 (.t 6)) <|
  q 21 (.load true 4 (.t 6)) <|
  q 22 (.load true 9 (.t 2)) <|
  q 23 (.call F.point_lift [(.t 22)]) <|
  q 24 (.load true 9 (.t 3)) <|
  q 25 (.call F.point_lift [(.t 24)]) <|
  q 26 (.call F.point_curve_sum [(.t 21), (.t 23), (.t 25)]) <|
  q 27 (.call F.point_curve_flat [(.t 20), (.t 26)]) <|
  qn (.store 9 (.t 4) (.t 27)) <|
  q 5 (.mv (.c (.nilIface))) <|
  .keep [4, 5] <|
  .ret
theorem ok_point_Add : compF Try.prog (pfx false) (fun d => [].contains d) Try.f62 = some ic_point_Add := by kernel_rfl
theorem e_point_Add {args : List AV} {H : AH} {v : AV} {H' : AH} (h : iwp (pfx false) (Called Try.prog) ic_point_Add (retQ [.c 4 true 9, .t 5] H v H') (look (enterL 0 args)) H) : Called Try.prog F.point_Add args H v H' :=
  fn_called mixed (cmpok false) Try.func62 (by kernel_rfl) ok_point_Add (by kernel_rfl) h


def ic_point_of : IC :=
  q 0 (.alloc [.pointer none, .nilFunc, .nilFunc, .nilFunc]) <|
  .keep [0] <|
  q 4 (.call F.point_P []) <|
  q 5 (.call F.field_New [(.t 4)]) <|
  q 3 (.mv (.t 5)) <|
  q 6 (.ext (.t 3) 0) <|
  q 7 (.ext (.t 3) 1) <|
  q 1 (.mv (.t 6)) <|
  q 2 (.mv (.t 7)) <|
  .keep [0, 1, 2] <|
  q 8 (.mv (.t 2)) <|
  q 9 (.eq true .i (.t 8) (.c (.nilIface))) <|
  .keep [0, 1, 9] <|
  .ite (.t 9)
    (q 10 (.build (List.replicate 13 (.int .u64 0)) []) <|
    q 11 (.box (.t 10)) <|
    q 1 (.mv (.t 11)) <|
    .keep [0, 1] <|
    .done)
    (.done) <|
  q 12 (.mv (.t 1)) <|
  q 13 (.mv (.t 1)) <|
  q 14 (.mkfn (.func F.field_Field_Add) [(.t 13)] []) <|
  q 15 (.mv (.t 1)) <|
  q 16 (.mkfn (.func F.field_Field_Sub) [(.t 15)] []) <|
  q 17 (.mv (.t 1)) <|
  q 18 (.mkfn (.func F.field_Field_Mul) [(.t 17)] []) <|
  q 19 (.build [.pointer none, .nilFunc, .nilFunc, .nilFunc] [(0, 1, (.t 12)), (1, 1, (.t 14)), (2, 1, (.t 16)), (3, 1, (.t 18))]) <|
  qn (.store 4 (.t 0) (.t 19)) <|
  .keep [0] <|
  .ret
theorem ok_point_of : compF Try.prog (pfx false) (fun d => [].contains d) Try.f67 = some ic_point_of := by kernel_rfl
theorem e_point_of {args : List AV} {H : AH} {v : AV} {H' : AH} (h : iwp (pfx false) (Called Try.prog) ic_point_of (retQ [.c 0 true 4] H v H') (look (enterL 0 args)) H) : Called Try.prog F.point_of args H v H' :=
  fn_called mixed (cmpok false) Try.func67 (by kernel_rfl) ok_point_of (by kernel_rfl) h


def ic_point_curve_on : IC :=
  q 2 (.box (.t 0)) <|
  q 3 (.box (.t 1)) <|
  q 4 (.mv (cb false)) <|
  .keep [2, 3] <|
  q 6 (.fld 8 (.t 3)) <|
  q 7 (.load false 1 (.t 6)) <|
  .keep [2, 3, 7] <|
  .ite (.t 7)
    (q 8 (.load true 9 (.t 3)) <|
    q 9 (.build [.int .u64 0, .int .u64 0, .int .u64 0, .int .u64 0, .int .u64 0, .int .u64 0, .int .u64 0, .int .u64 0, .bool false] [(8, 1, (cb true))]) <|
    q 10 (.eqagg [(some .u64), (some .u64), (some .u64), (some .u64), (some .u64), (some .u64), (some .u64), (some .u64), none] false (.t 8) (.t 9)) <|
    q 4 (.mv (.t 10)) <|
    .keep [4] <|
    .ret)
    (.done) <|
  q 11 (.fld 0 (.t 3)) <|
  q 12 (.load true 4 (.t 11)) <|
  q 13 (.call F.point_P []) <|
  q 14 (.call F.limb_Cmp [(.t 12), (.t 13)]) <|
  q 15 (.bin .geq (.t 14) (ci 0)) <|
  q 16 (.mv (.t 15)) <|
  qg 17 16 false (.fld 4 (.t 3)) <|
  qg 18 16 false (.load true 4 (.t 17)) <|
  qg 19 16 false (.call F.point_P []) <|
  qg 20 16 false (.call F.limb_Cmp [(.t 18), (.t 19)]) <|
  qg 21 16 false (.bin .geq (.t 20) (ci 0)) <|
  q 22 (.pick (.t 16) (cb true) (.t 21)) <|
  .keep [2, 3, 22] <|
  .ite (.t 22)
    (q 4 (.mv (cb false)) <|
    .keep [4] <|
    .ret)
    (.done) <|
  .reg 1
    [xe 23 (.fld 1 (.t 2)) [],
     xe 24 (.load false 1 (.t 23)) [],
     xe 25 (.fld 2 (.t 2)) [],
     xe 26 (.load false 1 (.t 25)) [],
     xe 27 (.fld 3 (.t 2)) [],
     xe 28 (.load false 1 (.t 27)) [],
     xe 29 (.load true 4 (.t 2)) [],
     xe 30 (.fld 0 (.t 3)) [],
     xe 31 (.load true 4 (.t 30)) [],
     xe 32 (.call F.point_curve_square [(.t 29), (.t 31)]) [],
     xe 33 (.fld 0 (.t 3)) [],
     xe 34 (.load true 4 (.t 33)) [],
     xe 35 (.callv (.t 28) [(.t 32), (.t 34)]) [],
     xe 36 (.load true 4 (.t 2)) [],
     xe 37 (.fld 0 (.t 3)) [],
     xe 38 (.load true 4 (.t 37)) [],
     xe 39 (.call F.point_curve_times [(.t 36), (.t 38), (.c (.int .u64 3))]) [],
     xe 40 (.callv (.t 26) [(.t 35), (.t 39)]) [],
     xe 41 (.call F.point_b []) [],
     xe 42 (.callv (.t 24) [(.t 40), (.t 41)]) [],
     xa 0 5 (.alloc (List.replicate 4 (.int .u64 0))),
     xln (.store 4 (.t 5) (.t 42)) []] <|
  .keep [2, 3, 5] <|
  q 43 (.load true 4 (.t 2)) <|
  q 44 (.fld 4 (.t 3)) <|
  q 45 (.load true 4 (.t 44)) <|
  q 46 (.call F.point_curve_square [(.t 43), (.t 45)]) <|
  q 47 (.load true 4 (.t 5)) <|
  q 48 (.eqagg (List.replicate 4 (some .u64)) false (.t 46) (.t 47)) <|
  q 4 (.mv (.t 48)) <|
  .keep [4] <|
  .ret
theorem ok_point_curve_on : compF Try.prog (pfx true) (fun d => [].contains d) Try.f68 = some ic_point_curve_on := by kernel_rfl
theorem e_point_curve_on {args : List AV} {H : AH} {v : AV} {H' : AH} (h : iwp (pfx true) (Called Try.prog) ic_point_curve_on (retQ [.t 4] H v H') (look (enterL 0 args)) H) : Called Try.prog F.point_curve_on args H v H' :=
  fn_called mixed (cmpok true) Try.func68 (by kernel_rfl) ok_point_curve_on (by kernel_rfl) h


def ic_clapperref05_On : IC :=
  q 1 (.box (.t 0)) <|
  q 2 (.mv (cb false)) <|
  .keep [1] <|
  q 5 (.fld 8 (.t 1)) <|
  q 6 (.load false 1 (.t 5)) <|
  .keep [1, 6] <|
  .ite (.t 6)
    (q 7 (.fld 0 (.t 1)) <|
    q 8 (.load true 4 (.t 7)) <|
    q 9 (.build (List.replicate 4 (.int .u64 0)) []) <|
    q 10 (.eqagg (List.replicate 4 (some .u64)) false (.t 8) (.t 9)) <|
    q 11 (.mv (.t 10)) <|
    qg 12 11 true (.fld 4 (.t 1)) <|
    qg 13 11 true (.load true 4 (.t 12)) <|
    qg 14 11 true (.build (List.replicate 4 (.int .u64 0)) []) <|
    qg 15 11 true (.eqagg (List.replicate 4 (some .u64)) false (.t 13) (.t 14)) <|
    q 16 (.pick (.t 11) (.t 15) (cb false)) <|
    q 2 (.mv (.t 16)) <|
    .keep [2] <|
    .ret)
    (.done) <|
  q 17 (.fld 0 (.t 1)) <|
  q 18 (.load true 4 (.t 17)) <|
  q 19 (.call F.clapperref05_P []) <|
  q 20 (.call F.clapperref01_Cmp [(.t 18), (.t 19)]) <|
  q 21 (.bin .geq (.t 20) (ci 0)) <|
  q 22 (.mv (.t 21)) <|
  qg 23 22 false (.fld 4 (.t 1)) <|
  qg 24 22 false (.load true 4 (.t 23)) <|
  qg 25 22 false (.call F.clapperref05_P []) <|
  qg 26 22 false (.call F.clapperref01_Cmp [(.t 24), (.t 25)]) <|
  qg 27 22 false (.bin .geq (.t 26) (ci 0)) <|
  q 28 (.pick (.t 22) (cb true) (.t 27)) <|
  .keep [1, 28] <|
  .ite (.t 28)
    (q 2 (.mv (cb false)) <|
    .keep [2] <|
    .ret)
    (.done) <|
  .reg 1
    [xe 29 (.fld 0 (.t 1)) [],
     xe 30 (.load true 4 (.t 29)) [],
     xe 31 (.fld 0 (.t 1)) [],
     xe 32 (.load true 4 (.t 31)) [],
     xe 33 (.call F.clapperref05_mul [(.t 30), (.t 32)]) [],
     xe 34 (.fld 0 (.t 1)) [],
     xe 35 (.load true 4 (.t 34)) [],
     xe 36 (.call F.clapperref05_mul [(.t 33), (.t 35)]) [],
     xa 0 3 (.alloc (List.replicate 4 (.int .u64 0))),
     xln (.store 4 (.t 3) (.t 36)) []] <|
  .keep [1, 3] <|
  q 37 (.build (List.replicate 4 (.int .u64 0)) [(0, 1, (.c (.int .u64 3)))]) <|
  q 38 (.fld 0 (.t 1)) <|
  q 39 (.load true 4 (.t 38)) <|
  q 40 (.call F.clapperref05_mul [(.t 37), (.t 39)]) <|
  q 4 (.alloc (List.replicate 4 (.int .u64 0))) <|
  qn (.store 4 (.t 4) (.t 40)) <|
  .keep [1, 3, 4] <|
  q 41 (.fld 4 (.t 1)) <|
  q 42 (.load true 4 (.t 41)) <|
  q 43 (.fld 4 (.t 1)) <|
  q 44 (.load true 4 (.t 43)) <|
  q 45 (.call F.clapperref05_mul [(.t 42), (.t 44)]) <|
  q 46 (.load true 4 (.t 3)) <|
  q 47 (.load true 4 (.t 4)) <|
  q 48 (.call F.clapperref05_sub [(.t 46), (.t 47)]) <|
  q 49 (.call F.clapperref05_b []) <|
  q 50 (.call F.clapperref05_P []) <|
  q 51 (.call F.clapperref02_Add [(.t 48), (.t 49), (.t 50)]) <|
  q 52 (.eqagg (List.replicate 4 (some .u64)) false (.t 45) (.t 51)) <|
  q 2 (.mv (.t 52)) <|
  .keep [2] <|
  .ret
theorem ok_clapperref05_On : compF Try.prog (pfx false) (fun d => [].contains d) Try.f69 = some ic_clapperref05_On := by kernel_rfl
theorem e_clapperref05_On {args : List AV} {H : AH} {v : AV} {H' : AH} (h : iwp (pfx false) (Called Try.prog) ic_clapperref05_On (retQ [.t 2] H v H') (look (enterL 0 args)) H) : Called Try.prog F.clapperref05_On args H v H' :=
  fn_called mixed (cmpok false) Try.func69 (by kernel_rfl) ok_clapperref05_On (by kernel_rfl) h


def ic_point_lift : IC :=
  q 1 (.box (.t 0)) <|
  q 2 (.alloc (List.replicate 12 (.int .u64 0))) <|
  .keep [1, 2] <|
  q 3 (.fld 8 (.t 1)) <|
  q 4 (.load false 1 (.t 3)) <|
  .keep [1, 2, 4] <|
  .ite (.t 4)
    (q 5 (.build (List.replicate 12 (.int .u64 0)) []) <|
    qn (.store 12 (.t 2) (.t 5)) <|
    .keep [2] <|
    .ret)
    (.done) <|
  q 6 (.fld 0 (.t 1)) <|
  q 7 (.load true 4 (.t 6)) <|
  q 8 (.fld 4 (.t 1)) <|
  q 9 (.load true 4 (.t 8)) <|
  q 10 (.build (List.replicate 4 (.int .u64 0)) [(0, 1, (.c (.int .u64 1)))]) <|
  q 11 (.build (List.replicate 12 (.int .u64 0)) [(0, 4, (.t 7)), (4, 4, (.t 9)), (8, 4, (.t 10))]) <|
  qn (.store 12 (.t 2) (.t 11)) <|
  .keep [2] <|
  .ret
theorem ok_point_lift : compF Try.prog (pfx false) (fun d => [].contains d) Try.f102 = some ic_point_lift := by kernel_rfl
theorem e_point_lift {args : List AV} {H : AH} {v : AV} {H' : AH} (h : iwp (pfx false) (Called Try.prog) ic_point_lift (retQ [.c 2 true 12] H v H') (look (enterL 0 args)) H) : Called Try.prog F.point_lift args H v H' :=
  fn_called mixed (cmpok false) Try.func102 (by kernel_rfl) ok_point_lift (by kernel_rfl) h


def ic_point_curve_twice : IC :=
  q 2 (.box (.t 0)) <|
  q 3 (.box (.t 1)) <|
  q 4 (.alloc (List.replicate 12 (.int .u64 0))) <|
  .keep [2, 3, 4] <|
  .reg 2
    [xe 12 (.load true 4 (.t 2)) [],
     xe 13 (.fld 8 (.t 3)) [],
     xe 14 (.load true 4 (.t 13)) [],
     xe 15 (.call F.point_curve_square [(.t 12), (.t 14)]) [],
     xe 16 (.load true 4 (.t 2)) [],
     xe 17 (.fld 4 (.t 3)) [],
     xe 18 (.load true 4 (.t 17)) [],
     xe 19 (.call F.point_curve_square [(.t 16), (.t 18)]) [],
     xa 0 5 (.alloc (List.replicate 4 (.int .u64 0))),
     xa 1 6 (.alloc (List.replicate 4 (.int .u64 0))),
     xln (.store 4 (.t 5) (.t 15)) [],
     xln (.store 4 (.t 6) (.t 19)) []] <|
  .keep [2, 3, 4, 5, 6] <|
  q 20 (.fld 3 (.t 2)) <|
  q 21 (.load false 1 (.t 20)) <|
  q 22 (.fld 0 (.t 3)) <|
  q 23 (.load true 4 (.t 22)) <|
  q 24 (.load true 4 (.t 6)) <|
  q 25 (.callv (.t 21) [(.t 23), (.t 24)]) <|
  q 7 (.alloc (List.replicate 4 (.int .u64 0))) <|
  qn (.store 4 (.t 7) (.t 25)) <|
  .keep [2, 3, 4, 5, 6, 7] <|
  .reg 1
    [xe 26 (.load true 4 (.t 2)) [],
     xe 27 (.fld 3 (.t 2)) [],
     xe 28 (.load false 1 (.t 27)) [],
     xe 29 (.fld 2 (.t 2)) [],
     xe 30 (.load false 1 (.t 29)) [],
     xe 31 (.fld 0 (.t 3)) [],
     xe 32 (.load true 4 (.t 31)) [],
     xe 33 (.load true 4 (.t 5)) [],
     xe 34 (.callv (.t 30) [(.t 32), (.t 33)]) [],
     xe 35 (.fld 1 (.t 2)) [],
     xe 36 (.load false 1 (.t 35)) [],
     xe 37 (.fld 0 (.t 3)) [],
     xe 38 (.load true 4 (.t 37)) [],
     xe 39 (.load true 4 (.t 5)) [],
     xe 40 (.callv (.t 36) [(.t 38), (.t 39)]) [],
     xe 41 (.callv (.t 28) [(.t 34), (.t 40)]) [],
     xe 42 (.call F.point_curve_times [(.t 26), (.t 41), (.c (.int .u64 3))]) [],
     xa 0 8 (.alloc (List.replicate 4 (.int .u64 0))),
     xln (.store 4 (.t 8) (.t 42)) []] <|
  .keep [2, 3, 4, 5, 6, 7, 8] <|
  .reg 1
    [xe 43 (.fld 2 (.t 2)) [],
     xe 44 (.load false 1 (.t 43)) [],
     xe 45 (.load true 4 (.t 2)) [],
     xe 46 (.load true 4 (.t 8)) [],
     xe 47 (.call F.point_curve_square [(.t 45), (.t 46)]) [],
     xe 48 (.load true 4 (.t 2)) [],
     xe 49 (.load true 4 (.t 7)) [],
     xe 50 (.call F.point_curve_times [(.t 48), (.t 49), (.c (.int .u64 8))]) [],
     xe 51 (.callv (.t 44) [(.t 47), (.t 50)]) [],
     xa 0 9 (.alloc (List.replicate 4 (.int .u64 0))),
     xln (.store 4 (.t 9) (.t 51)) []] <|
  .keep [2, 3, 4, 5, 6, 7, 8, 9] <|
  .reg 1
    [xe 52 (.fld 2 (.t 2)) [],
     xe 53 (.load false 1 (.t 52)) [],
     xe 54 (.fld 2 (.t 2)) [],
     xe 55 (.load false 1 (.t 54)) [],
     xe 56 (.load true 4 (.t 2)) [],
     xe 57 (.fld 1 (.t 2)) [],
     xe 58 (.load false 1 (.t 57)) [],
     xe 59 (.fld 4 (.t 3)) [],
     xe 60 (.load true 4 (.t 59)) [],
     xe 61 (.fld 8 (.t 3)) [],
     xe 62 (.load true 4 (.t 61)) [],
     xe 63 (.callv (.t 58) [(.t 60), (.t 62)]) [],
     xe 64 (.call F.point_curve_square [(.t 56), (.t 63)]) [],
     xe 65 (.load true 4 (.t 6)) [],
     xe 66 (.callv (.t 55) [(.t 64), (.t 65)]) [],
     xe 67 (.load true 4 (.t 5)) [],
     xe 68 (.callv (.t 53) [(.t 66), (.t 67)]) [],
     xa 0 10 (.alloc (List.replicate 4 (.int .u64 0))),
     xln (.store 4 (.t 10) (.t 68)) []] <|
  .keep [2, 4, 6, 7, 8, 9, 10] <|
  .reg 1
    [xe 69 (.fld 2 (.t 2)) [],
     xe 70 (.load false 1 (.t 69)) [],
     xe 71 (.fld 3 (.t 2)) [],
     xe 72 (.load false 1 (.t 71)) [],
     xe 73 (.load true 4 (.t 8)) [],
     xe 74 (.fld 2 (.t 2)) [],
     xe 75 (.load false 1 (.t 74)) [],
     xe 76 (.load true 4 (.t 2)) [],
     xe 77 (.load true 4 (.t 7)) [],
     xe 78 (.call F.point_curve_times [(.t 76), (.t 77), (.c (.int .u64 4))]) [],
     xe 79 (.load true 4 (.t 9)) [],
     xe 80 (.callv (.t 75) [(.t 78), (.t 79)]) [],
     xe 81 (.callv (.t 72) [(.t 73), (.t 80)]) [],
     xe 82 (.load true 4 (.t 2)) [],
     xe 83 (.load true 4 (.t 2)) [],
     xe 84 (.load true 4 (.t 6)) [],
     xe 85 (.call F.point_curve_square [(.t 83), (.t 84)]) [],
     xe 86 (.call F.point_curve_times [(.t 82), (.t 85), (.c (.int .u64 8))]) [],
     xe 87 (.callv (.t 70) [(.t 81), (.t 86)]) [],
     xa 0 11 (.alloc (List.replicate 4 (.int .u64 0))),
     xln (.store 4 (.t 11) (.t 87)) []] <|
  .keep [4, 9, 10, 11] <|
  q 88 (.load true 4 (.t 9)) <|
  q 89 (.load true 4 (.t 11)) <|
  q 90 (.load true 4 (.t 10)) <|
  q 91 (.build (List.replicate 12 (.int .u64 0)) [(0, 4, (.t 88)), (4, 4, (.t 89)), (8, 4, (.t 90))]) <|
  qn (.store 12 (.t 4) (.t 91)) <|
  .keep [4] <|
  .ret
theorem ok_point_curve_twice : compF Try.prog (pfx true) (fun d => [].contains d) Try.f103 = some ic_point_curve_twice := by kernel_rfl
theorem e_point_curve_twice {args : List AV} {H : AH} {v : AV} {H' : AH} (h : iwp (pfx true) (Called Try.prog) ic_point_curve_twice (retQ [.c 4 true 12] H v H') (look (enterL 0 args)) H) : Called Try.prog F.point_curve_twice args H v H' :=
  fn_called mixed (cmpok true) Try.func103 (by kernel_rfl) ok_point_curve_twice (by kernel_rfl) h


def ic_point_curve_sum : IC :=
  q 3 (.box (.t 0)) <|
  q 4 (.box (.t 1)) <|
  q 5 (.box (.t 2)) <|
  q 6 (.alloc (List.replicate 12 (.int .u64 0))) <|
  .keep [3, 4, 5, 6] <|
  .block 0
    (q 19 (.load true 12 (.t 4)) <|
    q 20 (.call F.point_three_far [(.t 19)]) <|
    q 18 (.mv (.t 20)) <|
    .keep [3, 4, 5, 6, 18] <|
    .ite (.t 18)
      (q 21 (.load true 12 (.t 5)) <|
      qn (.store 12 (.t 6) (.t 21)) <|
      .keep [6] <|
      .ret)
      (q 23 (.load true 12 (.t 5)) <|
      q 24 (.call F.point_three_far [(.t 23)]) <|
      q 22 (.mv (.t 24)) <|
      .keep [3, 4, 5, 6, 22] <|
      .ite (.t 22)
        (q 25 (.load true 12 (.t 4)) <|
        qn (.store 12 (.t 6) (.t 25)) <|
        .keep [6] <|
        .ret)
        (.done) <|
      .done) <|
    .done) <|
  .reg 2
    [xe 26 (.load true 4 (.t 3)) [],
     xe 27 (.fld 8 (.t 4)) [],
     xe 28 (.load true 4 (.t 27)) [],
     xe 29 (.call F.point_curve_square [(.t 26), (.t 28)]) [],
     xe 30 (.load true 4 (.t 3)) [],
     xe 31 (.fld 8 (.t 5)) [],
     xe 32 (.load true 4 (.t 31)) [],
     xe 33 (.call F.point_curve_square [(.t 30), (.t 32)]) [],
     xa 0 7 (.alloc (List.replicate 4 (.int .u64 0))),
     xa 1 8 (.alloc (List.replicate 4 (.int .u64 0))),
     xln (.store 4 (.t 7) (.t 29)) [],
     xln (.store 4 (.t 8) (.t 33)) []] <|
  .keep [3, 4, 5, 6, 7, 8] <|
  .reg 2
    [xe 34 (.fld 3 (.t 3)) [],
     xe 35 (.load false 1 (.t 34)) [],
     xe 36 (.fld 0 (.t 4)) [],
     xe 37 (.load true 4 (.t 36)) [],
     xe 38 (.load true 4 (.t 8)) [],
     xe 39 (.callv (.t 35) [(.t 37), (.t 38)]) [],
     xe 40 (.fld 3 (.t 3)) [],
     xe 41 (.load false 1 (.t 40)) [],
     xe 42 (.fld 0 (.t 5)) [],
     xe 43 (.load true 4 (.t 42)) [],
     xe 44 (.load true 4 (.t 7)) [],
     xe 45 (.callv (.t 41) [(.t 43), (.t 44)]) [],
     xa 0 9 (.alloc (List.replicate 4 (.int .u64 0))),
     xa 1 10 (.alloc (List.replicate 4 (.int .u64 0))),
     xln (.store 4 (.t 9) (.t 39)) [],
     xln (.store 4 (.t 10) (.t 45)) []] <|
  .keep [3, 4, 5, 6, 7, 8, 9, 10] <|
  .reg 2
    [xe 46 (.fld 3 (.t 3)) [],
     xe 47 (.load false 1 (.t 46)) [],
     xe 48 (.fld 4 (.t 4)) [],
     xe 49 (.load true 4 (.t 48)) [],
     xe 50 (.fld 3 (.t 3)) [],
     xe 51 (.load false 1 (.t 50)) [],
     xe 52 (.load true 4 (.t 8)) [],
     xe 53 (.fld 8 (.t 5)) [],
     xe 54 (.load true 4 (.t 53)) [],
     xe 55 (.callv (.t 51) [(.t 52), (.t 54)]) [],
     xe 56 (.callv (.t 47) [(.t 49), (.t 55)]) [],
     xe 57 (.fld 3 (.t 3)) [],
     xe 58 (.load false 1 (.t 57)) [],
     xe 59 (.fld 4 (.t 5)) [],
     xe 60 (.load true 4 (.t 59)) [],
     xe 61 (.fld 3 (.t 3)) [],
     xe 62 (.load false 1 (.t 61)) [],
     xe 63 (.load true 4 (.t 7)) [],
     xe 64 (.fld 8 (.t 4)) [],
     xe 65 (.load true 4 (.t 64)) [],
     xe 66 (.callv (.t 62) [(.t 63), (.t 65)]) [],
     xe 67 (.callv (.t 58) [(.t 60), (.t 66)]) [],
     xa 0 11 (.alloc (List.replicate 4 (.int .u64 0))),
     xa 1 12 (.alloc (List.replicate 4 (.int .u64 0))),
     xln (.store 4 (.t 11) (.t 56)) [],
     xln (.store 4 (.t 12) (.t 67)) []] <|
  .keep [3, 4, 5, 6, 9, 10, 11, 12] <|
  q 68 (.fld 2 (.t 3)) <|
  q 69 (.load false 1 (.t 68)) <|
  q 70 (.load true 4 (.t 10)) <|
  q 71 (.load true 4 (.t 9)) <|
  q 72 (.callv (.t 69) [(.t 70), (.t 71)]) <|
  q 73 (.fld 2 (.t 3)) <|
  q 74 (.load false 1 (.t 73)) <|
  q 75 (.load true 4 (.t 12)) <|
  q 76 (.load true 4 (.t 11)) <|
  q 77 (.callv (.t 74) [(.t 75), (.t 76)]) <|
  qn (.store 4 (.t 10) (.t 72)) <|
  qn (.store 4 (.t 12) (.t 77)) <|
  .keep [3, 4, 5, 6, 9, 10, 11, 12] <|
  .block 1
    (q 79 (.load true 4 (.t 10)) <|
    q 80 (.build (List.replicate 4 (.int .u64 0)) []) <|
    q 81 (.eqagg (List.replicate 4 (some .u64)) false (.t 79) (.t 80)) <|
    q 82 (.mv (.t 81)) <|
    qg 83 82 true (.load true 4 (.t 12)) <|
    qg 84 82 true (.build (List.replicate 4 (.int .u64 0)) []) <|
    qg 85 82 true (.eqagg (List.replicate 4 (some .u64)) false (.t 83) (.t 84)) <|
    q 86 (.pick (.t 82) (.t 85) (cb false)) <|
    q 78 (.mv (.t 86)) <|
    .keep [3, 4, 5, 6, 9, 10, 11, 12, 78] <|
    .ite (.t 78)
      (q 87 (.load true 4 (.t 3)) <|
      q 88 (.load true 12 (.t 4)) <|
      q 89 (.call F.point_curve_twice [(.t 87), (.t 88)]) <|
      qn (.store 12 (.t 6) (.t 89)) <|
      .keep [6] <|
      .ret)
      (q 91 (.load true 4 (.t 10)) <|
      q 92 (.build (List.replicate 4 (.int .u64 0)) []) <|
      q 93 (.eqagg (List.replicate 4 (some .u64)) false (.t 91) (.t 92)) <|
      q 90 (.mv (.t 93)) <|
      .keep [3, 4, 5, 6, 9, 10, 11, 12, 90] <|
      .ite (.t 90)
        (q 94 (.build (List.replicate 12 (.int .u64 0)) []) <|
        qn (.store 12 (.t 6) (.t 94)) <|
        .keep [6] <|
        .ret)
        (.done) <|
      .done) <|
    .done) <|
  q 95 (.load true 4 (.t 3)) <|
  q 96 (.load true 4 (.t 10)) <|
  q 97 (.call F.point_curve_square [(.t 95), (.t 96)]) <|
  q 13 (.alloc (List.replicate 4 (.int .u64 0))) <|
  qn (.store 4 (.t 13) (.t 97)) <|
  .keep [3, 4, 5, 6, 9, 10, 11, 12, 13] <|
  .reg 2
    [xe 98 (.fld 3 (.t 3)) [],
     xe 99 (.load false 1 (.t 98)) [],
     xe 100 (.load true 4 (.t 13)) [],
     xe 101 (.load true 4 (.t 10)) [],
     xe 102 (.callv (.t 99) [(.t 100), (.t 101)]) [],
     xe 103 (.fld 3 (.t 3)) [],
     xe 104 (.load false 1 (.t 103)) [],
     xe 105 (.load true 4 (.t 9)) [],
     xe 106 (.load true 4 (.t 13)) [],
     xe 107 (.callv (.t 104) [(.t 105), (.t 106)]) [],
     xa 0 14 (.alloc (List.replicate 4 (.int .u64 0))),
     xa 1 15 (.alloc (List.replicate 4 (.int .u64 0))),
     xln (.store 4 (.t 14) (.t 102)) [],
     xln (.store 4 (.t 15) (.t 107)) []] <|
  .keep [3, 4, 5, 6, 10, 11, 12, 14, 15] <|
  .reg 1
    [xe 108 (.fld 2 (.t 3)) [],
     xe 109 (.load false 1 (.t 108)) [],
     xe 110 (.fld 2 (.t 3)) [],
     xe 111 (.load false 1 (.t 110)) [],
     xe 112 (.load true 4 (.t 3)) [],
     xe 113 (.load true 4 (.t 12)) [],
     xe 114 (.call F.point_curve_square [(.t 112), (.t 113)]) [],
     xe 115 (.load true 4 (.t 14)) [],
     xe 116 (.callv (.t 111) [(.t 114), (.t 115)]) [],
     xe 117 (.load true 4 (.t 3)) [],
     xe 118 (.load true 4 (.t 15)) [],
     xe 119 (.call F.point_curve_times [(.t 117), (.t 118), (.c (.int .u64 2))]) [],
     xe 120 (.callv (.t 109) [(.t 116), (.t 119)]) [],
     xa 0 16 (.alloc (List.replicate 4 (.int .u64 0))),
     xln (.store 4 (.t 16) (.t 120)) []] <|
  .keep [3, 4, 5, 6, 10, 11, 12, 14, 15, 16] <|
  .reg 1
    [xe 121 (.fld 2 (.t 3)) [],
     xe 122 (.load false 1 (.t 121)) [],
     xe 123 (.fld 3 (.t 3)) [],
     xe 124 (.load false 1 (.t 123)) [],
     xe 125 (.load true 4 (.t 12)) [],
     xe 126 (.fld 2 (.t 3)) [],
     xe 127 (.load false 1 (.t 126)) [],
     xe 128 (.load true 4 (.t 15)) [],
     xe 129 (.load true 4 (.t 16)) [],
     xe 130 (.callv (.t 127) [(.t 128), (.t 129)]) [],
     xe 131 (.callv (.t 124) [(.t 125), (.t 130)]) [],
     xe 132 (.fld 3 (.t 3)) [],
     xe 133 (.load false 1 (.t 132)) [],
     xe 134 (.load true 4 (.t 11)) [],
     xe 135 (.load true 4 (.t 14)) [],
     xe 136 (.callv (.t 133) [(.t 134), (.t 135)]) [],
     xe 137 (.callv (.t 122) [(.t 131), (.t 136)]) [],
     xa 0 17 (.alloc (List.replicate 4 (.int .u64 0))),
     xln (.store 4 (.t 17) (.t 137)) []] <|
  .keep [3, 4, 5, 6, 10, 16, 17] <|
  q 138 (.load true 4 (.t 16)) <|
  q 139 (.load true 4 (.t 17)) <|
  q 140 (.fld 3 (.t 3)) <|
  q 141 (.load false 1 (.t 140)) <|
  q 142 (.load true 4 (.t 10)) <|
  q 143 (.fld 3 (.t 3)) <|
  q 144 (.load false 1 (.t 143)) <|
  q 145 (.fld 8 (.t 4)) <|
  q 146 (.load true 4 (.t 145)) <|
  q 147 (.fld 8 (.t 5)) <|
  q 148 (.load true 4 (.t 147)) <|
  q 149 (.callv (.t 144) [(.t 146), (.t 148)]) <|
  q 150 (.callv (.t 141) [(.t 142), (.t 149)]) <|
  q 151 (.build (List.replicate 12 (.int .u64 0)) [(0, 4, (.t 138)), (4, 4, (.t 139)), (8, 4, (.t 150))]) <|
  qn (.store 12 (.t 6) (.t 151)) <|
  .keep [6] <|
  .ret
theorem ok_point_curve_sum : compF Try.prog (pfx true) (fun d => [].contains d) Try.f105 = some ic_point_curve_sum := by kernel_rfl
theorem e_point_curve_sum {args : List AV} {H : AH} {v : AV} {H' : AH} (h : iwp (pfx true) (Called Try.prog) ic_point_curve_sum (retQ [.c 6 true 12] H v H') (look (enterL 0 args)) H) : Called Try.prog F.point_curve_sum args H v H' :=
  fn_called mixed (cmpok true) Try.func105 (by kernel_rfl) ok_point_curve_sum (by kernel_rfl) h


def ic_point_curve_flat : IC :=
  q 2 (.box (.t 0)) <|
  q 3 (.box (.t 1)) <|
  q 4 (.alloc [.int .u64 0, .int .u64 0, .int .u64 0, .int .u64 0, .int .u64 0, .int .u64 0, .int .u64 0, .int .u64 0, .bool false]) <|
  .keep [2, 3, 4] <|
  q 9 (.fld 0 (.t 2)) <|
  q 10 (.load false 1 (.t 9)) <|
  q 11 (.fld 8 (.t 3)) <|
  q 12 (.load true 4 (.t 11)) <|
  q 13 (.call F.field_Field_Inv [(.t 10), (.t 12)]) <|
  q 8 (.mv (.t 13)) <|
  q 14 (.ext (.t 8) 0) <|
  q 15 (.ext (.t 8) 1) <|
  q 5 (.alloc (List.replicate 4 (.int .u64 0))) <|
  qn (.store 4 (.t 5) (.t 14)) <|
  q 6 (.mv (.t 15)) <|
  .keep [2, 3, 4, 5, 6] <|
  q 16 (.mv (.t 6)) <|
  q 17 (.eq true .i (.t 16) (.c (.nilIface))) <|
  .keep [2, 3, 4, 5, 17] <|
  .ite (.t 17)
    (q 18 (.build [.int .u64 0, .int .u64 0, .int .u64 0, .int .u64 0, .int .u64 0, .int .u64 0, .int .u64 0, .int .u64 0, .bool false] [(8, 1, (cb true))]) <|
    qn (.store 9 (.t 4) (.t 18)) <|
    .keep [4] <|
    .ret)
    (.done) <|
  q 19 (.load true 4 (.t 2)) <|
  q 20 (.load true 4 (.t 5)) <|
  q 21 (.call F.point_curve_square [(.t 19), (.t 20)]) <|
  q 7 (.alloc (List.replicate 4 (.int .u64 0))) <|
  qn (.store 4 (.t 7) (.t 21)) <|
  .keep [2, 3, 4, 5, 7] <|
  q 22 (.fld 3 (.t 2)) <|
  q 23 (.load false 1 (.t 22)) <|
  q 24 (.fld 0 (.t 3)) <|
  q 25 (.load true 4 (.t 24)) <|
  q 26 (.load true 4 (.t 7)) <|
  q 27 (.callv (.t 23) [(.t 25), (.t 26)]) <|
  q 28 (.fld 3 (.t 2)) <|
  q 29 (.load false 1 (.t 28)) <|
  q 30 (.fld 4 (.t 3)) <|
  q 31 (.load true 4 (.t 30)) <|
  q 32 (.fld 3 (.t 2)) <|
  q 33 (.load false 1 (.t 32)) <|
  q 34 (.load true 4 (.t 7)) <|
  q 35 (.load true 4 (.t 5)) <|
  q 36 (.callv (.t 33) [(.t 34), (.t 35)]) <|
  q 37 (.callv (.t 29) [(.t 31), (.t 36)]) <|
  q 38 (.build [.int .u64 0, .int .u64 0, .int .u64 0, .int .u64 0, .int .u64 0, .int .u64 0, .int .u64 0, .int .u64 0, .bool false] [(0, 4, (.t 27)), (4, 4, (.t 37))]) <|
  qn (.store 9 (.t 4) (.t 38)) <|
  .keep [4] <|
  .ret
theorem ok_point_curve_flat : compF Try.prog (pfx true) (fun d => [].contains d) Try.f106 = some ic_point_curve_flat := by kernel_rfl
theorem e_point_curve_flat {args : List AV} {H : AH} {v : AV} {H' : AH} (h : iwp (pfx true) (Called Try.prog) ic_point_curve_flat (retQ [.c 4 true 9] H v H') (look (enterL 0 args)) H) : Called Try.prog F.point_curve_flat args H v H' :=
  fn_called mixed (cmpok true) Try.func106 (by kernel_rfl) ok_point_curve_flat (by kernel_rfl) h


def ic_point_P : IC :=
  q 0 (.alloc (List.replicate 4 (.int .u64 0))) <|
  .keep [0] <|
  q 1 (.build (List.replicate 4 (.int .u64 0)) [(0, 1, (.c (.int .u64 18446744073709551615))), (1, 1, (.c (.int .u64 4294967295))), (2, 1, (.c (.int .u64 0))), (3, 1, (.c (.int .u64 18446744069414584321)))]) <|
  qn (.store 4 (.t 0) (.t 1)) <|
  .keep [0] <|
  .ret
theorem ok_point_P : compF Try.prog (pfx false) (fun d => [].contains d) Try.f113 = some ic_point_P := by kernel_rfl
theorem e_point_P {args : List AV} {H : AH} {v : AV} {H' : AH} (h : iwp (pfx false) (Called Try.prog) ic_point_P (retQ [.c 0 true 4] H v H') (look (enterL 0 args)) H) : Called Try.prog F.point_P args H v H' :=
  fn_called mixed (cmpok false) Try.func113 (by kernel_rfl) ok_point_P (by kernel_rfl) h


def ic_point_curve_square : IC :=
  q 2 (.box (.t 0)) <|
  q 3 (.box (.t 1)) <|
  q 4 (.alloc (List.replicate 4 (.int .u64 0))) <|
  .keep [2, 3, 4] <|
  q 5 (.fld 3 (.t 2)) <|
  q 6 (.load false 1 (.t 5)) <|
  q 7 (.load true 4 (.t 3)) <|
  q 8 (.load true 4 (.t 3)) <|
  q 9 (.callv (.t 6) [(.t 7), (.t 8)]) <|
  qn (.store 4 (.t 4) (.t 9)) <|
  .keep [4] <|
  .ret
theorem ok_point_curve_square : compF Try.prog (pfx true) (fun d => [].contains d) Try.f114 = some ic_point_curve_square := by kernel_rfl
theorem e_point_curve_square {args : List AV} {H : AH} {v : AV} {H' : AH} (h : iwp (pfx true) (Called Try.prog) ic_point_curve_square (retQ [.c 4 true 4] H v H') (look (enterL 0 args)) H) : Called Try.prog F.point_curve_square args H v H' :=
  fn_called mixed (cmpok true) Try.func114 (by kernel_rfl) ok_point_curve_square (by kernel_rfl) h


def ic_point_curve_times : IC :=
  q 3 (.box (.t 0)) <|
  q 4 (.box (.t 1)) <|
  q 6 (.alloc (List.replicate 4 (.int .u64 0))) <|
  .keep [2, 3, 4, 6] <|
  q 7 (.fld 3 (.t 3)) <|
  q 8 (.load false 1 (.t 7)) <|
  q 9 (.load true 4 (.t 4)) <|
  q 10 (.mv (.t 2)) <|
  q 11 (.build (List.replicate 4 (.int .u64 0)) [(0, 1, (.t 10))]) <|
  q 12 (.callv (.t 8) [(.t 9), (.t 11)]) <|
  qn (.store 4 (.t 6) (.t 12)) <|
  .keep [6] <|
  .ret
theorem ok_point_curve_times : compF Try.prog (pfx true) (fun d => [].contains d) Try.f115 = some ic_point_curve_times := by kernel_rfl
theorem e_point_curve_times {args : List AV} {H : AH} {v : AV} {H' : AH} (h : iwp (pfx true) (Called Try.prog) ic_point_curve_times (retQ [.c 6 true 4] H v H') (look (enterL 0 args)) H) : Called Try.prog F.point_curve_times args H v H' :=
  fn_called mixed (cmpok true) Try.func115 (by kernel_rfl) ok_point_curve_times (by kernel_rfl) h


def ic_point_b : IC :=
  q 0 (.alloc (List.replicate 4 (.int .u64 0))) <|
  .keep [0] <|
  q 1 (.build (List.replicate 4 (.int .u64 0)) [(0, 1, (.c (.int .u64 4309448131093880907))), (1, 1, (.c (.int .u64 7285987128567378166))), (2, 1, (.c (.int .u64 12964664127075681980))), (3, 1, (.c (.int .u64 6540974713487397863)))]) <|
  qn (.store 4 (.t 0) (.t 1)) <|
  .keep [0] <|
  .ret
theorem ok_point_b : compF Try.prog (pfx false) (fun d => [].contains d) Try.f116 = some ic_point_b := by kernel_rfl
theorem e_point_b {args : List AV} {H : AH} {v : AV} {H' : AH} (h : iwp (pfx false) (Called Try.prog) ic_point_b (retQ [.c 0 true 4] H v H') (look (enterL 0 args)) H) : Called Try.prog F.point_b args H v H' :=
  fn_called mixed (cmpok false) Try.func116 (by kernel_rfl) ok_point_b (by kernel_rfl) h


def ic_clapperref05_P : IC :=
  q 0 (.alloc (List.replicate 4 (.int .u64 0))) <|
  .keep [0] <|
  q 1 (.build (List.replicate 4 (.int .u64 0)) [(0, 1, (.c (.int .u64 18446744073709551615))), (1, 1, (.c (.int .u64 4294967295))), (2, 1, (.c (.int .u64 0))), (3, 1, (.c (.int .u64 18446744069414584321)))]) <|
  qn (.store 4 (.t 0) (.t 1)) <|
  .keep [0] <|
  .ret
theorem ok_clapperref05_P : compF Try.prog (pfx false) (fun d => [].contains d) Try.f117 = some ic_clapperref05_P := by kernel_rfl
theorem e_clapperref05_P {args : List AV} {H : AH} {v : AV} {H' : AH} (h : iwp (pfx false) (Called Try.prog) ic_clapperref05_P (retQ [.c 0 true 4] H v H') (look (enterL 0 args)) H) : Called Try.prog F.clapperref05_P args H v H' :=
  fn_called mixed (cmpok false) Try.func117 (by kernel_rfl) ok_clapperref05_P (by kernel_rfl) h


def ic_clapperref05_mul : IC :=
  q 2 (.box (.t 0)) <|
  q 3 (.box (.t 1)) <|
  q 4 (.alloc (List.replicate 4 (.int .u64 0))) <|
  .keep [2, 3, 4] <|
  q 5 (.load true 4 (.t 2)) <|
  q 6 (.load true 4 (.t 3)) <|
  q 7 (.call F.clapperref05_P []) <|
  q 8 (.call F.clapperref02_Mul [(.t 5), (.t 6), (.t 7)]) <|
  qn (.store 4 (.t 4) (.t 8)) <|
  .keep [4] <|
  .ret
theorem ok_clapperref05_mul : compF Try.prog (pfx false) (fun d => [].contains d) Try.f118 = some ic_clapperref05_mul := by kernel_rfl
theorem e_clapperref05_mul {args : List AV} {H : AH} {v : AV} {H' : AH} (h : iwp (pfx false) (Called Try.prog) ic_clapperref05_mul (retQ [.c 4 true 4] H v H') (look (enterL 0 args)) H) : Called Try.prog F.clapperref05_mul args H v H' :=
  fn_called mixed (cmpok false) Try.func118 (by kernel_rfl) ok_clapperref05_mul (by kernel_rfl) h


def ic_clapperref05_sub : IC :=
  q 2 (.box (.t 0)) <|
  q 3 (.box (.t 1)) <|
  q 4 (.alloc (List.replicate 4 (.int .u64 0))) <|
  .keep [2, 3, 4] <|
  q 5 (.load true 4 (.t 2)) <|
  q 6 (.load true 4 (.t 3)) <|
  q 7 (.call F.clapperref05_P []) <|
  q 8 (.call F.clapperref02_Sub [(.t 5), (.t 6), (.t 7)]) <|
  qn (.store 4 (.t 4) (.t 8)) <|
  .keep [4] <|
  .ret
theorem ok_clapperref05_sub : compF Try.prog (pfx false) (fun d => [].contains d) Try.f120 = some ic_clapperref05_sub := by kernel_rfl
theorem e_clapperref05_sub {args : List AV} {H : AH} {v : AV} {H' : AH} (h : iwp (pfx false) (Called Try.prog) ic_clapperref05_sub (retQ [.c 4 true 4] H v H') (look (enterL 0 args)) H) : Called Try.prog F.clapperref05_sub args H v H' :=
  fn_called mixed (cmpok false) Try.func120 (by kernel_rfl) ok_clapperref05_sub (by kernel_rfl) h


def ic_clapperref05_b : IC :=
  q 0 (.alloc (List.replicate 4 (.int .u64 0))) <|
  .keep [0] <|
  q 1 (.build (List.replicate 4 (.int .u64 0)) [(0, 1, (.c (.int .u64 4309448131093880907))), (1, 1, (.c (.int .u64 7285987128567378166))), (2, 1, (.c (.int .u64 12964664127075681980))), (3, 1, (.c (.int .u64 6540974713487397863)))]) <|
  qn (.store 4 (.t 0) (.t 1)) <|
  .keep [0] <|
  .ret
theorem ok_clapperref05_b : compF Try.prog (pfx false) (fun d => [].contains d) Try.f121 = some ic_clapperref05_b := by kernel_rfl
theorem e_clapperref05_b {args : List AV} {H : AH} {v : AV} {H' : AH} (h : iwp (pfx false) (Called Try.prog) ic_clapperref05_b (retQ [.c 0 true 4] H v H') (look (enterL 0 args)) H) : Called Try.prog F.clapperref05_b args H v H' :=
  fn_called mixed (cmpok false) Try.func121 (by kernel_rfl) ok_clapperref05_b (by kernel_rfl) h


def ic_point_three_far : IC :=
  q 1 (.box (.t 0)) <|
  q 2 (.mv (cb false)) <|
  .keep [1] <|
  q 3 (.fld 8 (.t 1)) <|
  q 4 (.load true 4 (.t 3)) <|
  q 5 (.build (List.replicate 4 (.int .u64 0)) []) <|
  q 6 (.eqagg (List.replicate 4 (some .u64)) false (.t 4) (.t 5)) <|
  q 2 (.mv (.t 6)) <|
  .keep [2] <|
  .ret
theorem ok_point_three_far : compF Try.prog (pfx false) (fun d => [].contains d) Try.f142 = some ic_point_three_far := by kernel_rfl
theorem e_point_three_far {args : List AV} {H : AH} {v : AV} {H' : AH} (h : iwp (pfx false) (Called Try.prog) ic_point_three_far (retQ [.t 2] H v H') (look (enterL 0 args)) H) : Called Try.prog F.point_three_far args H v H' :=
  fn_called mixed (cmpok false) Try.func142 (by kernel_rfl) ok_point_three_far (by kernel_rfl) h
end Go.Proofs.Ytgfploghjpbcaaa.Eng

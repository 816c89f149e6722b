/- The code of some functions, as the abstract machine's. Printed by program. -/
import Derived.Test.YtgfploghjpbcaaaNm
namespace Go.Proofs.Ytgfploghjpbcaaa.Eng
open Go Go.Proofs
set_option maxRecDepth 20000

def ic_clapperref01_Of : IC :=
  q 2 (.alloc (List.replicate 4 (.int .u64 0))) <|
  .keep [0, 2] <|
  q 6 (.mksl 1 8 [.int .i64 0] (ci 16) (ci 16)) <|
  q 3 (.mv (.t 6)) <|
  .keep [0, 2, 3] <|
  q 4 (.mv (ci 0)) <|
  .keep [0, 2, 3, 4] <|
  .block 0
    (.keep [0, 2, 3, 4] <|
    .loop
      (q 7 (.mv (.t 4)) <|
      q 8 (.mv (.t 0)) <|
      q 9 (.len false (.t 8)) <|
      q 10 (.bin .lss (.t 7) (.t 9)) <|
      .keep [0, 2, 3, 4, 10] <|
      .ite (.t 10)
        (.done)
        (.exit 0) <|
      .block 1
        (q 13 (.mv (.t 0)) <|
        q 14 (.len false (.t 13)) <|
        q 15 (.bin .sub (.t 14) (ci 1)) <|
        q 16 (.mv (.t 4)) <|
        q 17 (.bin .sub (.t 15) (.t 16)) <|
        q 5 (.mv (.t 17)) <|
        .keep [0, 2, 3, 4, 5] <|
        q 18 (.mv (.t 4)) <|
        q 19 (.bin .rem (.t 18) (ci 2)) <|
        q 20 (.bin .eql (.t 19) (ci 0)) <|
        .keep [0, 2, 3, 4, 5, 20] <|
        .ite (.t 20)
          (q 21 (.mv (.t 3)) <|
          q 22 (.mv (.t 4)) <|
          q 23 (.bin .quo (.t 22) (ci 2)) <|
          q 24 (.mv (.t 3)) <|
          q 25 (.mv (.t 4)) <|
          q 26 (.bin .quo (.t 25) (ci 2)) <|
          q 27 (.idxa 1 none (.t 24) (.t 26)) <|
          q 28 (.load false 1 (.t 27)) <|
          q 29 (.mv (.t 0)) <|
          q 30 (.mv (.t 5)) <|
          q 31 (.idxa 1 none (.t 29) (.t 30)) <|
          q 32 (.load false 1 (.t 31)) <|
          q 33 (.conv .i64 (.t 32)) <|
          q 34 (.bin .add (.t 28) (.t 33)) <|
          q 35 (.idxa 1 none (.t 21) (.t 23)) <|
          qn (.store 1 (.t 35) (.t 34)) <|
          .keep [0, 2, 3, 4] <|
          .done)
          (q 36 (.mv (.t 3)) <|
          q 37 (.mv (.t 4)) <|
          q 38 (.bin .quo (.t 37) (ci 2)) <|
          q 39 (.mv (.t 3)) <|
          q 40 (.mv (.t 4)) <|
          q 41 (.bin .quo (.t 40) (ci 2)) <|
          q 42 (.idxa 1 none (.t 39) (.t 41)) <|
          q 43 (.load false 1 (.t 42)) <|
          q 44 (.mv (.t 0)) <|
          q 45 (.mv (.t 5)) <|
          q 46 (.idxa 1 none (.t 44) (.t 45)) <|
          q 47 (.load false 1 (.t 46)) <|
          q 48 (.conv .i64 (.t 47)) <|
          q 49 (.bin .mul (ci 256) (.t 48)) <|
          q 50 (.bin .add (.t 43) (.t 49)) <|
          q 51 (.idxa 1 none (.t 36) (.t 38)) <|
          qn (.store 1 (.t 51) (.t 50)) <|
          .keep [0, 2, 3, 4] <|
          .done) <|
        .done) <|
      q 11 (.mv (.t 4)) <|
      q 12 (.bin .add (.t 11) (ci 1)) <|
      q 4 (.mv (.t 12)) <|
      .keep [0, 2, 3, 4] <|
      .keep [0, 2, 3, 4] <|
      .done)) <|
  q 52 (.mv (.t 3)) <|
  q 53 (.call F.clapperref01_Num [(.t 52)]) <|
  qn (.store 4 (.t 2) (.t 53)) <|
  .keep [2] <|
  .ret
theorem ok_clapperref01_Of : compF Try.prog (pfx false) (fun d => [].contains d) Try.f15 = some ic_clapperref01_Of := by kernel_rfl
theorem e_clapperref01_Of {args : List AV} {H : AH} {v : AV} {H' : AH} (h : iwp (pfx false) (Called Try.prog) ic_clapperref01_Of (retQ [.c 2 true 4] H v H') (look (enterL 0 args)) H) : Called Try.prog F.clapperref01_Of args H v H' :=
  fn_called mixed (cmpok false) Try.func15 (by kernel_rfl) ok_clapperref01_Of (by kernel_rfl) h


def ic_clapperref01_Sub : IC :=
  q 2 (.box (.t 0)) <|
  q 3 (.box (.t 1)) <|
  q 4 (.alloc (List.replicate 4 (.int .u64 0))) <|
  q 5 (.mv (cb false)) <|
  .keep [2, 3, 4] <|
  q 11 (.load true 4 (.t 2)) <|
  q 12 (.call F.clapperref01_Parts [(.t 11)]) <|
  q 6 (.mv (.t 12)) <|
  .keep [3, 4, 6] <|
  q 13 (.load true 4 (.t 3)) <|
  q 14 (.call F.clapperref01_Parts [(.t 13)]) <|
  q 7 (.mv (.t 14)) <|
  .keep [4, 6, 7] <|
  q 8 (.mv (ci 0)) <|
  .keep [4, 6, 7, 8] <|
  q 9 (.mv (ci 0)) <|
  .keep [4, 6, 7, 8, 9] <|
  .block 0
    (.keep [4, 6, 7, 8, 9] <|
    .loop
      (q 15 (.mv (.t 9)) <|
      q 16 (.bin .lss (.t 15) (ci 16)) <|
      .keep [4, 6, 7, 8, 9, 16] <|
      .ite (.t 16)
        (.done)
        (.exit 0) <|
      .block 1
        (q 19 (.mv (.t 6)) <|
        q 20 (.mv (.t 9)) <|
        q 21 (.idxa 1 none (.t 19) (.t 20)) <|
        q 22 (.load false 1 (.t 21)) <|
        q 23 (.mv (.t 7)) <|
        q 24 (.mv (.t 9)) <|
        q 25 (.idxa 1 none (.t 23) (.t 24)) <|
        q 26 (.load false 1 (.t 25)) <|
        q 27 (.bin .sub (.t 22) (.t 26)) <|
        q 28 (.mv (.t 8)) <|
        q 29 (.bin .sub (.t 27) (.t 28)) <|
        q 10 (.mv (.t 29)) <|
        .keep [4, 6, 7, 9, 10] <|
        q 8 (.mv (ci 0)) <|
        .keep [4, 6, 7, 8, 9, 10] <|
        q 30 (.mv (.t 10)) <|
        q 31 (.bin .lss (.t 30) (ci 0)) <|
        .keep [4, 6, 7, 8, 9, 10, 31] <|
        .ite (.t 31)
          (q 32 (.mv (.t 10)) <|
          q 33 (.bin .add (.t 32) (ci 65536)) <|
          q 10 (.mv (.t 33)) <|
          .keep [4, 6, 7, 9, 10] <|
          q 8 (.mv (ci 1)) <|
          .keep [4, 6, 7, 8, 9, 10] <|
          .done)
          (.done) <|
        q 34 (.mv (.t 6)) <|
        q 35 (.mv (.t 9)) <|
        q 36 (.mv (.t 10)) <|
        q 37 (.idxa 1 none (.t 34) (.t 35)) <|
        qn (.store 1 (.t 37) (.t 36)) <|
        .keep [4, 6, 7, 8, 9] <|
        .done) <|
      q 17 (.mv (.t 9)) <|
      q 18 (.bin .add (.t 17) (ci 1)) <|
      q 9 (.mv (.t 18)) <|
      .keep [4, 6, 7, 8, 9] <|
      .keep [4, 6, 7, 8, 9] <|
      .done)) <|
  q 38 (.mv (.t 6)) <|
  q 39 (.call F.clapperref01_Num [(.t 38)]) <|
  q 40 (.mv (.t 8)) <|
  q 41 (.bin .gtr (.t 40) (ci 0)) <|
  qn (.store 4 (.t 4) (.t 39)) <|
  q 5 (.mv (.t 41)) <|
  .keep [4, 5] <|
  .ret
theorem ok_clapperref01_Sub : compF Try.prog (pfx false) (fun d => [].contains d) Try.f18 = some ic_clapperref01_Sub := by kernel_rfl
theorem e_clapperref01_Sub {args : List AV} {H : AH} {v : AV} {H' : AH} (h : iwp (pfx false) (Called Try.prog) ic_clapperref01_Sub (retQ [.c 4 true 4, .t 5] H v H') (look (enterL 0 args)) H) : Called Try.prog F.clapperref01_Sub args H v H' :=
  fn_called mixed (cmpok false) Try.func18 (by kernel_rfl) ok_clapperref01_Sub (by kernel_rfl) h


def ic_limb_Bytes : IC :=
  q 1 (.box (.t 0)) <|
  q 2 (.mv (.c (.slice none 0 0))) <|
  .keep [1] <|
  q 5 (.mksl 1 1 [.int .u8 0] (ci 32) (ci 32)) <|
  q 3 (.mv (.t 5)) <|
  .keep [1, 3] <|
  q 6 (.mv (.t 3)) <|
  q 7 (.len false (.t 6)) <|
  q 8 (.mv (ci 0)) <|
  .keep [1, 3, 7, 8] <|
  .block 0
    (.keep [1, 3, 7, 8] <|
    .loop
      (q 9 (.bin .lss (.t 8) (.t 7)) <|
      .keep [1, 3, 7, 8, 9] <|
      .ite (.t 9)
        (.done)
        (.exit 0) <|
      .block 1
        (q 10 (.mv (.t 8)) <|
        q 4 (.mv (.t 10)) <|
        .keep [1, 3, 4, 7, 8] <|
        q 11 (.mv (.t 3)) <|
        q 12 (.mv (.t 4)) <|
        q 13 (.bin .sub (ci 31) (.t 12)) <|
        q 14 (.mv (.t 4)) <|
        q 15 (.bin .quo (.t 14) (ci 8)) <|
        q 16 (.idxa 1 (some 4) (.t 1) (.t 15)) <|
        q 17 (.load false 1 (.t 16)) <|
        q 18 (.mv (.t 4)) <|
        q 19 (.bin .rem (.t 18) (ci 8)) <|
        q 20 (.bin .mul (ci 8) (.t 19)) <|
        q 21 (.bin .shr (.t 17) (.t 20)) <|
        q 22 (.conv .u8 (.t 21)) <|
        q 23 (.idxa 1 none (.t 11) (.t 13)) <|
        qn (.store 1 (.t 23) (.t 22)) <|
        .keep [1, 3, 7, 8] <|
        .done) <|
      q 24 (.bin .add (.t 8) (ci 1)) <|
      q 8 (.mv (.t 24)) <|
      .keep [1, 3, 7, 8] <|
      .keep [1, 3, 7, 8] <|
      .done)) <|
  q 25 (.mv (.t 3)) <|
  q 2 (.mv (.t 25)) <|
  .keep [2] <|
  .ret
theorem ok_limb_Bytes : compF Try.prog (pfx false) (fun d => [].contains d) Try.f49 = some ic_limb_Bytes := by kernel_rfl
theorem e_limb_Bytes {args : List AV} {H : AH} {v : AV} {H' : AH} (h : iwp (pfx false) (Called Try.prog) ic_limb_Bytes (retQ [.t 2] H v H') (look (enterL 0 args)) H) : Called Try.prog F.limb_Bytes args H v H' :=
  fn_called mixed (cmpok false) Try.func49 (by kernel_rfl) ok_limb_Bytes (by kernel_rfl) h


def ic_limb_Of : IC :=
  q 2 (.alloc (List.replicate 4 (.int .u64 0))) <|
  q 3 (.mv (.c (.nilIface))) <|
  .keep [0, 2] <|
  q 6 (.mv (.t 0)) <|
  q 7 (.len false (.t 6)) <|
  q 8 (.bin .gtr (.t 7) (ci 32)) <|
  .keep [0, 2, 8] <|
  .ite (.t 8)
    (q 9 (.build (List.replicate 4 (.int .u64 0)) []) <|
    q 10 (.mkif T.api_Code (ci 1)) <|
    qn (.store 4 (.t 2) (.t 9)) <|
    q 3 (.mv (.t 10)) <|
    .keep [2, 3] <|
    .ret)
    (.done) <|
  q 4 (.alloc (List.replicate 4 (.int .u64 0))) <|
  .keep [0, 2, 4] <|
  q 11 (.mv (.t 0)) <|
  q 12 (.len false (.t 11)) <|
  q 13 (.mv (ci 0)) <|
  .keep [0, 2, 4, 12, 13] <|
  .block 0
    (.keep [0, 2, 4, 12, 13] <|
    .loop
      (q 14 (.bin .lss (.t 13) (.t 12)) <|
      .keep [0, 2, 4, 12, 13, 14] <|
      .ite (.t 14)
        (.done)
        (.exit 0) <|
      .block 1
        (q 15 (.mv (.t 13)) <|
        q 5 (.mv (.t 15)) <|
        .keep [0, 2, 4, 5, 12, 13] <|
        q 16 (.mv (.t 5)) <|
        q 17 (.bin .quo (.t 16) (ci 8)) <|
        q 18 (.idxa 1 (some 4) (.t 4) (.t 17)) <|
        q 19 (.load false 1 (.t 18)) <|
        q 20 (.mv (.t 0)) <|
        q 21 (.mv (.t 0)) <|
        q 22 (.len false (.t 21)) <|
        q 23 (.bin .sub (.t 22) (ci 1)) <|
        q 24 (.mv (.t 5)) <|
        q 25 (.bin .sub (.t 23) (.t 24)) <|
        q 26 (.idxa 1 none (.t 20) (.t 25)) <|
        q 27 (.load false 1 (.t 26)) <|
        q 28 (.conv .u64 (.t 27)) <|
        q 29 (.mv (.t 5)) <|
        q 30 (.bin .rem (.t 29) (ci 8)) <|
        q 31 (.bin .mul (ci 8) (.t 30)) <|
        q 32 (.bin .shl (.t 28) (.t 31)) <|
        q 33 (.bin .or (.t 19) (.t 32)) <|
        q 34 (.idxa 1 (some 4) (.t 4) (.t 17)) <|
        qn (.store 1 (.t 34) (.t 33)) <|
        .keep [0, 2, 4, 12, 13] <|
        .done) <|
      q 35 (.bin .add (.t 13) (ci 1)) <|
      q 13 (.mv (.t 35)) <|
      .keep [0, 2, 4, 12, 13] <|
      .keep [0, 2, 4, 12, 13] <|
      .done)) <|
  q 36 (.load true 4 (.t 4)) <|
  qn (.store 4 (.t 2) (.t 36)) <|
  q 3 (.mv (.c (.nilIface))) <|
  .keep [2, 3] <|
  .ret
theorem ok_limb_Of : compF Try.prog (pfx false) (fun d => [].contains d) Try.f50 = some ic_limb_Of := by kernel_rfl
theorem e_limb_Of {args : List AV} {H : AH} {v : AV} {H' : AH} (h : iwp (pfx false) (Called Try.prog) ic_limb_Of (retQ [.c 2 true 4, .t 3] H v H') (look (enterL 0 args)) H) : Called Try.prog F.limb_Of args H v H' :=
  fn_called mixed (cmpok false) Try.func50 (by kernel_rfl) ok_limb_Of (by kernel_rfl) h


def ic_clapperref01_Bytes : IC :=
  q 1 (.box (.t 0)) <|
  q 2 (.mv (.c (.slice none 0 0))) <|
  .keep [1] <|
  q 6 (.load true 4 (.t 1)) <|
  q 7 (.call F.clapperref01_Parts [(.t 6)]) <|
  q 3 (.mv (.t 7)) <|
  .keep [3] <|
  q 4 (.mv (.c (.slice none 0 0))) <|
  .keep [3, 4] <|
  q 5 (.mv (ci 15)) <|
  .keep [3, 4, 5] <|
  .block 0
    (.keep [3, 4, 5] <|
    .loop
      (q 8 (.mv (.t 5)) <|
      q 9 (.bin .geq (.t 8) (ci 0)) <|
      .keep [3, 4, 5, 9] <|
      .ite (.t 9)
        (.done)
        (.exit 0) <|
      .block 1
        (q 12 (.mv (.t 4)) <|
        q 13 (.mv (.t 3)) <|
        q 14 (.mv (.t 5)) <|
        q 15 (.idxa 1 none (.t 13) (.t 14)) <|
        q 16 (.load false 1 (.t 15)) <|
        q 17 (.bin .quo (.t 16) (ci 256)) <|
        q 18 (.conv .u8 (.t 17)) <|
        q 19 (.mv (.t 3)) <|
        q 20 (.mv (.t 5)) <|
        q 21 (.idxa 1 none (.t 19) (.t 20)) <|
        q 22 (.load false 1 (.t 21)) <|
        q 23 (.bin .rem (.t 22) (ci 256)) <|
        q 24 (.conv .u8 (.t 23)) <|
        q 25 (.bslice false 1 2 [.int .u8 0] [(0, 1, (.t 18)), (1, 1, (.t 24))]) <|
        q 26 (.append 1 1 (.t 12) (.t 25)) <|
        q 4 (.mv (.t 26)) <|
        .keep [3, 4, 5] <|
        .done) <|
      q 10 (.mv (.t 5)) <|
      q 11 (.bin .sub (.t 10) (ci 1)) <|
      q 5 (.mv (.t 11)) <|
      .keep [3, 4, 5] <|
      .keep [3, 4, 5] <|
      .done)) <|
  q 27 (.mv (.t 4)) <|
  q 2 (.mv (.t 27)) <|
  .keep [2] <|
  .ret
theorem ok_clapperref01_Bytes : compF Try.prog (pfx false) (fun d => [].contains d) Try.f51 = some ic_clapperref01_Bytes := by kernel_rfl
theorem e_clapperref01_Bytes {args : List AV} {H : AH} {v : AV} {H' : AH} (h : iwp (pfx false) (Called Try.prog) ic_clapperref01_Bytes (retQ [.t 2] H v H') (look (enterL 0 args)) H) : Called Try.prog F.clapperref01_Bytes args H v H' :=
  fn_called mixed (cmpok false) Try.func51 (by kernel_rfl) ok_clapperref01_Bytes (by kernel_rfl) h


def ic_clapperref01_Num : IC :=
  q 2 (.alloc (List.replicate 4 (.int .u64 0))) <|
  .keep [0, 2] <|
  q 3 (.mv (.t 0)) <|
  q 4 (.call F.clapperref01_word [(.t 3), (ci 0)]) <|
  q 5 (.mv (.t 0)) <|
  q 6 (.call F.clapperref01_word [(.t 5), (ci 4)]) <|
  q 7 (.mv (.t 0)) <|
  q 8 (.call F.clapperref01_word [(.t 7), (ci 8)]) <|
  q 9 (.mv (.t 0)) <|
  q 10 (.call F.clapperref01_word [(.t 9), (ci 12)]) <|
  q 11 (.build (List.replicate 4 (.int .u64 0)) [(0, 1, (.t 4)), (1, 1, (.t 6)), (2, 1, (.t 8)), (3, 1, (.t 10))]) <|
  qn (.store 4 (.t 2) (.t 11)) <|
  .keep [2] <|
  .ret
theorem ok_clapperref01_Num : compF Try.prog (pfx false) (fun d => [].contains d) Try.f52 = some ic_clapperref01_Num := by kernel_rfl
theorem e_clapperref01_Num {args : List AV} {H : AH} {v : AV} {H' : AH} (h : iwp (pfx false) (Called Try.prog) ic_clapperref01_Num (retQ [.c 2 true 4] H v H') (look (enterL 0 args)) H) : Called Try.prog F.clapperref01_Num args H v H' :=
  fn_called mixed (cmpok false) Try.func52 (by kernel_rfl) ok_clapperref01_Num (by kernel_rfl) h


def ic_clapperref01_Cmp : IC :=
  q 2 (.box (.t 0)) <|
  q 3 (.box (.t 1)) <|
  q 4 (.mv (ci 0)) <|
  .keep [2, 3] <|
  q 9 (.load true 4 (.t 2)) <|
  q 10 (.call F.clapperref01_Parts [(.t 9)]) <|
  q 5 (.mv (.t 10)) <|
  .keep [3, 5] <|
  q 11 (.load true 4 (.t 3)) <|
  q 12 (.call F.clapperref01_Parts [(.t 11)]) <|
  q 6 (.mv (.t 12)) <|
  .keep [5, 6] <|
  q 7 (.mv (ci 0)) <|
  .keep [5, 6, 7] <|
  q 8 (.mv (ci 0)) <|
  .keep [5, 6, 7, 8] <|
  .block 0
    (.keep [5, 6, 7, 8] <|
    .loop
      (q 13 (.mv (.t 8)) <|
      q 14 (.bin .lss (.t 13) (ci 16)) <|
      .keep [5, 6, 7, 8, 14] <|
      .ite (.t 14)
        (.done)
        (.exit 0) <|
      .block 1
        (q 17 (.mv (.t 5)) <|
        q 18 (.mv (.t 8)) <|
        q 19 (.idxa 1 none (.t 17) (.t 18)) <|
        q 20 (.load false 1 (.t 19)) <|
        q 21 (.mv (.t 6)) <|
        q 22 (.mv (.t 8)) <|
        q 23 (.idxa 1 none (.t 21) (.t 22)) <|
        q 24 (.load false 1 (.t 23)) <|
        q 25 (.bin .lss (.t 20) (.t 24)) <|
        .keep [5, 6, 7, 8, 25] <|
        .ite (.t 25)
          (q 7 (.mv (ci (-1))) <|
          .keep [5, 6, 7, 8] <|
          .done)
          (.done) <|
        q 26 (.mv (.t 5)) <|
        q 27 (.mv (.t 8)) <|
        q 28 (.idxa 1 none (.t 26) (.t 27)) <|
        q 29 (.load false 1 (.t 28)) <|
        q 30 (.mv (.t 6)) <|
        q 31 (.mv (.t 8)) <|
        q 32 (.idxa 1 none (.t 30) (.t 31)) <|
        q 33 (.load false 1 (.t 32)) <|
        q 34 (.bin .gtr (.t 29) (.t 33)) <|
        .keep [5, 6, 7, 8, 34] <|
        .ite (.t 34)
          (q 7 (.mv (ci 1)) <|
          .keep [5, 6, 7, 8] <|
          .done)
          (.done) <|
        .done) <|
      q 15 (.mv (.t 8)) <|
      q 16 (.bin .add (.t 15) (ci 1)) <|
      q 8 (.mv (.t 16)) <|
      .keep [5, 6, 7, 8] <|
      .keep [5, 6, 7, 8] <|
      .done)) <|
  q 35 (.mv (.t 7)) <|
  q 4 (.mv (.t 35)) <|
  .keep [4] <|
  .ret
theorem ok_clapperref01_Cmp : compF Try.prog (pfx false) (fun d => [].contains d) Try.f53 = some ic_clapperref01_Cmp := by kernel_rfl
theorem e_clapperref01_Cmp {args : List AV} {H : AH} {v : AV} {H' : AH} (h : iwp (pfx false) (Called Try.prog) ic_clapperref01_Cmp (retQ [.t 4] H v H') (look (enterL 0 args)) H) : Called Try.prog F.clapperref01_Cmp args H v H' :=
  fn_called mixed (cmpok false) Try.func53 (by kernel_rfl) ok_clapperref01_Cmp (by kernel_rfl) h


def ic_clapperref01_Parts : IC :=
  q 1 (.box (.t 0)) <|
  q 2 (.mv (.c (.slice none 0 0))) <|
  .keep [1] <|
  q 3 (.mv (.c (.slice none 0 0))) <|
  .keep [1, 3] <|
  q 4 (.mv (ci 0)) <|
  .keep [1, 3, 4] <|
  .block 0
    (.keep [1, 3, 4] <|
    .loop
      (q 7 (.mv (.t 4)) <|
      q 8 (.bin .lss (.t 7) (ci 4)) <|
      .keep [1, 3, 4, 8] <|
      .ite (.t 8)
        (.done)
        (.exit 0) <|
      .block 1
        (q 11 (.mv (.t 4)) <|
        q 12 (.idxa 1 (some 4) (.t 1) (.t 11)) <|
        q 13 (.load false 1 (.t 12)) <|
        q 5 (.mv (.t 13)) <|
        .keep [1, 3, 4, 5] <|
        q 6 (.mv (ci 0)) <|
        .keep [1, 3, 4, 5, 6] <|
        .block 2
          (.keep [1, 3, 4, 5, 6] <|
          .loop
            (q 14 (.mv (.t 6)) <|
            q 15 (.bin .lss (.t 14) (ci 4)) <|
            .keep [1, 3, 4, 5, 6, 15] <|
            .ite (.t 15)
              (.done)
              (.exit 2) <|
            .block 3
              (q 18 (.mv (.t 3)) <|
              q 19 (.mv (.t 5)) <|
              q 20 (.bin .rem (.t 19) (.c (.int .u64 65536))) <|
              q 21 (.conv .i64 (.t 20)) <|
              q 22 (.bslice false 1 1 [.int .i64 0] [(0, 1, (.t 21))]) <|
              q 23 (.append 1 8 (.t 18) (.t 22)) <|
              q 3 (.mv (.t 23)) <|
              .keep [1, 3, 4, 5, 6] <|
              q 24 (.mv (.t 5)) <|
              q 25 (.bin .quo (.t 24) (.c (.int .u64 65536))) <|
              q 5 (.mv (.t 25)) <|
              .keep [1, 3, 4, 5, 6] <|
              .done) <|
            q 16 (.mv (.t 6)) <|
            q 17 (.bin .add (.t 16) (ci 1)) <|
            q 6 (.mv (.t 17)) <|
            .keep [1, 3, 4, 5, 6] <|
            .keep [1, 3, 4, 5, 6] <|
            .done)) <|
        .done) <|
      q 9 (.mv (.t 4)) <|
      q 10 (.bin .add (.t 9) (ci 1)) <|
      q 4 (.mv (.t 10)) <|
      .keep [1, 3, 4] <|
      .keep [1, 3, 4] <|
      .done)) <|
  q 26 (.mv (.t 3)) <|
  q 2 (.mv (.t 26)) <|
  .keep [2] <|
  .ret
theorem ok_clapperref01_Parts : compF Try.prog (pfx false) (fun d => [].contains d) Try.f64 = some ic_clapperref01_Parts := by kernel_rfl
theorem e_clapperref01_Parts {args : List AV} {H : AH} {v : AV} {H' : AH} (h : iwp (pfx false) (Called Try.prog) ic_clapperref01_Parts (retQ [.t 2] H v H') (look (enterL 0 args)) H) : Called Try.prog F.clapperref01_Parts args H v H' :=
  fn_called mixed (cmpok false) Try.func64 (by kernel_rfl) ok_clapperref01_Parts (by kernel_rfl) h


def ic_clapperref01_word : IC :=
  q 4 (.mv (.c (.int .u64 0))) <|
  .keep [0, 1] <|
  q 5 (.mv (.t 0)) <|
  q 6 (.mv (.t 1)) <|
  q 7 (.idxa 1 none (.t 5) (.t 6)) <|
  q 8 (.load false 1 (.t 7)) <|
  q 9 (.conv .u64 (.t 8)) <|
  q 10 (.mv (.t 0)) <|
  q 11 (.mv (.t 1)) <|
  q 12 (.bin .add (.t 11) (ci 1)) <|
  q 13 (.idxa 1 none (.t 10) (.t 12)) <|
  q 14 (.load false 1 (.t 13)) <|
  q 15 (.conv .u64 (.t 14)) <|
  q 16 (.bin .mul (.c (.int .u64 65536)) (.t 15)) <|
  q 17 (.bin .add (.t 9) (.t 16)) <|
  q 18 (.mv (.t 0)) <|
  q 19 (.mv (.t 1)) <|
  q 20 (.bin .add (.t 19) (ci 2)) <|
  q 21 (.idxa 1 none (.t 18) (.t 20)) <|
  q 22 (.load false 1 (.t 21)) <|
  q 23 (.conv .u64 (.t 22)) <|
  q 24 (.bin .mul (.c (.int .u64 4294967296)) (.t 23)) <|
  q 25 (.bin .add (.t 17) (.t 24)) <|
  q 26 (.mv (.t 0)) <|
  q 27 (.mv (.t 1)) <|
  q 28 (.bin .add (.t 27) (ci 3)) <|
  q 29 (.idxa 1 none (.t 26) (.t 28)) <|
  q 30 (.load false 1 (.t 29)) <|
  q 31 (.conv .u64 (.t 30)) <|
  q 32 (.bin .mul (.c (.int .u64 281474976710656)) (.t 31)) <|
  q 33 (.bin .add (.t 25) (.t 32)) <|
  q 4 (.mv (.t 33)) <|
  .keep [4] <|
  .ret
theorem ok_clapperref01_word : compF Try.prog (pfx false) (fun d => [].contains d) Try.f93 = some ic_clapperref01_word := by kernel_rfl
theorem e_clapperref01_word {args : List AV} {H : AH} {v : AV} {H' : AH} (h : iwp (pfx false) (Called Try.prog) ic_clapperref01_word (retQ [.t 4] H v H') (look (enterL 0 args)) H) : Called Try.prog F.clapperref01_word args H v H' :=
  fn_called mixed (cmpok false) Try.func93 (by kernel_rfl) ok_clapperref01_word (by kernel_rfl) h


def ic_limb_Len : IC :=
  q 1 (.box (.t 0)) <|
  q 2 (.mv (ci 0)) <|
  .keep [1] <|
  q 3 (.mv (ci 3)) <|
  .keep [1, 3] <|
  .block 0
    (.keep [1, 3] <|
    .loop
      (q 4 (.mv (.t 3)) <|
      q 5 (.bin .geq (.t 4) (ci 0)) <|
      .keep [1, 3, 5] <|
      .ite (.t 5)
        (.done)
        (.exit 0) <|
      .block 1
        (q 8 (.mv (.t 3)) <|
        q 9 (.idxa 1 (some 4) (.t 1) (.t 8)) <|
        q 10 (.load false 1 (.t 9)) <|
        q 11 (.bin .gtr (.t 10) (.c (.int .u64 0))) <|
        .keep [1, 3, 11] <|
        .ite (.t 11)
          (q 12 (.mv (.t 3)) <|
          q 13 (.bin .mul (ci 64) (.t 12)) <|
          q 14 (.mv (.t 3)) <|
          q 15 (.idxa 1 (some 4) (.t 1) (.t 14)) <|
          q 16 (.load false 1 (.t 15)) <|
          q 17 (.call F.math_bits_Len64 [(.t 16)]) <|
          q 18 (.bin .add (.t 13) (.t 17)) <|
          q 2 (.mv (.t 18)) <|
          .keep [2] <|
          .ret)
          (.done) <|
        .done) <|
      q 6 (.mv (.t 3)) <|
      q 7 (.bin .sub (.t 6) (ci 1)) <|
      q 3 (.mv (.t 7)) <|
      .keep [1, 3] <|
      .keep [1, 3] <|
      .done)) <|
  q 2 (.mv (ci 0)) <|
  .keep [2] <|
  .ret
theorem ok_limb_Len : compF Try.prog (pfx false) (fun d => [].contains d) Try.f94 = some ic_limb_Len := by kernel_rfl
theorem e_limb_Len {args : List AV} {H : AH} {v : AV} {H' : AH} (h : iwp (pfx false) (Called Try.prog) ic_limb_Len (retQ [.t 2] H v H') (look (enterL 0 args)) H) : Called Try.prog F.limb_Len args H v H' :=
  fn_called mixed (cmpok false) Try.func94 (by kernel_rfl) ok_limb_Len (by kernel_rfl) h


def ic_limb_Mul : IC :=
  q 2 (.box (.t 0)) <|
  q 3 (.box (.t 1)) <|
  q 4 (.alloc (List.replicate 8 (.int .u64 0))) <|
  .keep [2, 3, 4] <|
  q 5 (.alloc (List.replicate 8 (.int .u64 0))) <|
  .keep [2, 3, 4, 5] <|
  q 14 (.load true 4 (.t 2)) <|
  q 15 (.mv (ci 0)) <|
  .keep [3, 4, 5, 14, 15] <|
  .block 0
    (.keep [3, 4, 5, 14, 15] <|
    .loop
      (q 16 (.bin .lss (.t 15) (ci 4)) <|
      .keep [3, 4, 5, 14, 15, 16] <|
      .ite (.t 16)
        (.done)
        (.exit 0) <|
      .block 1
        (q 17 (.mv (.t 15)) <|
        q 18 (.idx false 1 4 (.t 14) (.t 15)) <|
        q 6 (.mv (.t 17)) <|
        q 7 (.mv (.t 18)) <|
        .keep [3, 4, 5, 6, 7, 14, 15] <|
        q 8 (.mv (.c (.int .u64 0))) <|
        .keep [3, 4, 5, 6, 7, 8, 14, 15] <|
        q 19 (.load true 4 (.t 3)) <|
        q 20 (.mv (ci 0)) <|
        .keep [3, 4, 5, 6, 7, 8, 14, 15, 19, 20] <|
        .block 2
          (.keep [3, 4, 5, 6, 7, 8, 14, 15, 19, 20] <|
          .loop
            (q 21 (.bin .lss (.t 20) (ci 4)) <|
            .keep [3, 4, 5, 6, 7, 8, 14, 15, 19, 20, 21] <|
            .ite (.t 21)
              (.done)
              (.exit 2) <|
            .block 3
              (q 22 (.mv (.t 20)) <|
              q 23 (.idx false 1 4 (.t 19) (.t 20)) <|
              q 9 (.mv (.t 22)) <|
              q 10 (.mv (.t 23)) <|
              .keep [3, 4, 5, 6, 7, 8, 9, 10, 14, 15, 19, 20] <|
              q 25 (.mv (.t 7)) <|
              q 26 (.mv (.t 10)) <|
              q 27 (.call F.math_bits_Mul64 [(.t 25), (.t 26)]) <|
              q 24 (.mv (.t 27)) <|
              q 28 (.ext (.t 24) 0) <|
              q 29 (.ext (.t 24) 1) <|
              q 11 (.mv (.t 28)) <|
              q 12 (.mv (.t 29)) <|
              .keep [3, 4, 5, 6, 7, 8, 9, 11, 12, 14, 15, 19, 20] <|
              q 31 (.mv (.t 12)) <|
              q 32 (.mv (.t 6)) <|
              q 33 (.mv (.t 9)) <|
              q 34 (.bin .add (.t 32) (.t 33)) <|
              q 35 (.idxa 1 (some 8) (.t 5) (.t 34)) <|
              q 36 (.load false 1 (.t 35)) <|
              q 37 (.carry false (.t 31) (.t 36) (.c (.int .u64 0))) <|
              q 30 (.mv (.t 37)) <|
              q 38 (.ext (.t 30) 0) <|
              q 39 (.ext (.t 30) 1) <|
              q 12 (.mv (.t 38)) <|
              q 13 (.mv (.t 39)) <|
              .keep [3, 4, 5, 6, 7, 8, 9, 11, 12, 13, 14, 15, 19, 20] <|
              q 40 (.mv (.t 11)) <|
              q 41 (.mv (.t 13)) <|
              q 42 (.bin .add (.t 40) (.t 41)) <|
              q 11 (.mv (.t 42)) <|
              .keep [3, 4, 5, 6, 7, 8, 9, 11, 12, 14, 15, 19, 20] <|
              q 44 (.mv (.t 12)) <|
              q 45 (.mv (.t 8)) <|
              q 46 (.carry false (.t 44) (.t 45) (.c (.int .u64 0))) <|
              q 43 (.mv (.t 46)) <|
              q 47 (.ext (.t 43) 0) <|
              q 48 (.ext (.t 43) 1) <|
              q 12 (.mv (.t 47)) <|
              q 13 (.mv (.t 48)) <|
              .keep [3, 4, 5, 6, 7, 9, 11, 12, 13, 14, 15, 19, 20] <|
              q 49 (.mv (.t 6)) <|
              q 50 (.mv (.t 9)) <|
              q 51 (.bin .add (.t 49) (.t 50)) <|
              q 52 (.mv (.t 12)) <|
              q 53 (.mv (.t 11)) <|
              q 54 (.mv (.t 13)) <|
              q 55 (.bin .add (.t 53) (.t 54)) <|
              q 56 (.idxa 1 (some 8) (.t 5) (.t 51)) <|
              qn (.store 1 (.t 56) (.t 52)) <|
              q 8 (.mv (.t 55)) <|
              .keep [3, 4, 5, 6, 7, 8, 14, 15, 19, 20] <|
              .done) <|
            q 57 (.bin .add (.t 20) (ci 1)) <|
            q 20 (.mv (.t 57)) <|
            .keep [3, 4, 5, 6, 7, 8, 14, 15, 19, 20] <|
            .keep [3, 4, 5, 6, 7, 8, 14, 15, 19, 20] <|
            .done)) <|
        q 58 (.mv (.t 6)) <|
        q 59 (.bin .add (.t 58) (ci 4)) <|
        q 60 (.mv (.t 8)) <|
        q 61 (.idxa 1 (some 8) (.t 5) (.t 59)) <|
        qn (.store 1 (.t 61) (.t 60)) <|
        .keep [3, 4, 5, 14, 15] <|
        .done) <|
      q 62 (.bin .add (.t 15) (ci 1)) <|
      q 15 (.mv (.t 62)) <|
      .keep [3, 4, 5, 14, 15] <|
      .keep [3, 4, 5, 14, 15] <|
      .done)) <|
  q 63 (.load true 8 (.t 5)) <|
  qn (.store 8 (.t 4) (.t 63)) <|
  .keep [4] <|
  .ret
theorem ok_limb_Mul : compF Try.prog (pfx false) (fun d => [].contains d) Try.f96 = some ic_limb_Mul := by kernel_rfl
theorem e_limb_Mul {args : List AV} {H : AH} {v : AV} {H' : AH} (h : iwp (pfx false) (Called Try.prog) ic_limb_Mul (retQ [.c 4 true 8] H v H') (look (enterL 0 args)) H) : Called Try.prog F.limb_Mul args H v H' :=
  fn_called mixed (cmpok false) Try.func96 (by kernel_rfl) ok_limb_Mul (by kernel_rfl) h


def ic_limb_Cmp : IC :=
  q 2 (.box (.t 0)) <|
  q 3 (.box (.t 1)) <|
  q 4 (.mv (ci 0)) <|
  .keep [2, 3] <|
  q 5 (.mv (ci 3)) <|
  .keep [2, 3, 5] <|
  .block 0
    (.keep [2, 3, 5] <|
    .loop
      (q 6 (.mv (.t 5)) <|
      q 7 (.bin .geq (.t 6) (ci 0)) <|
      .keep [2, 3, 5, 7] <|
      .ite (.t 7)
        (.done)
        (.exit 0) <|
      .block 1
        (.block 2
          (q 11 (.mv (.t 5)) <|
          q 12 (.idxa 1 (some 4) (.t 2) (.t 11)) <|
          q 13 (.load false 1 (.t 12)) <|
          q 14 (.mv (.t 5)) <|
          q 15 (.idxa 1 (some 4) (.t 3) (.t 14)) <|
          q 16 (.load false 1 (.t 15)) <|
          q 17 (.bin .lss (.t 13) (.t 16)) <|
          q 10 (.mv (.t 17)) <|
          .keep [2, 3, 5, 10] <|
          .ite (.t 10)
            (q 4 (.mv (ci (-1))) <|
            .keep [4] <|
            .ret)
            (q 19 (.mv (.t 5)) <|
            q 20 (.idxa 1 (some 4) (.t 2) (.t 19)) <|
            q 21 (.load false 1 (.t 20)) <|
            q 22 (.mv (.t 5)) <|
            q 23 (.idxa 1 (some 4) (.t 3) (.t 22)) <|
            q 24 (.load false 1 (.t 23)) <|
            q 25 (.bin .gtr (.t 21) (.t 24)) <|
            q 18 (.mv (.t 25)) <|
            .keep [2, 3, 5, 18] <|
            .ite (.t 18)
              (q 4 (.mv (ci 1)) <|
              .keep [4] <|
              .ret)
              (.done) <|
            .done) <|
          .done) <|
        .done) <|
      q 8 (.mv (.t 5)) <|
      q 9 (.bin .sub (.t 8) (ci 1)) <|
      q 5 (.mv (.t 9)) <|
      .keep [2, 3, 5] <|
      .keep [2, 3, 5] <|
      .done)) <|
  q 4 (.mv (ci 0)) <|
  .keep [4] <|
  .ret
theorem ok_limb_Cmp : compF Try.prog (pfx false) (fun d => [].contains d) Try.f97 = some ic_limb_Cmp := by kernel_rfl
theorem e_limb_Cmp {args : List AV} {H : AH} {v : AV} {H' : AH} (h : iwp (pfx false) (Called Try.prog) ic_limb_Cmp (retQ [.t 4] H v H') (look (enterL 0 args)) H) : Called Try.prog F.limb_Cmp args H v H' :=
  fn_called mixed (cmpok false) Try.func97 (by kernel_rfl) ok_limb_Cmp (by kernel_rfl) h


def ic_limb_Sub : IC :=
  q 2 (.box (.t 0)) <|
  q 3 (.box (.t 1)) <|
  q 4 (.alloc (List.replicate 4 (.int .u64 0))) <|
  q 5 (.mv (cb false)) <|
  .keep [2, 3, 4] <|
  q 6 (.alloc (List.replicate 4 (.int .u64 0))) <|
  .keep [2, 3, 4, 6] <|
  q 7 (.mv (.c (.int .u64 0))) <|
  .keep [2, 3, 4, 6, 7] <|
  q 9 (.mv (ci 0)) <|
  .keep [2, 3, 4, 6, 7, 9] <|
  .block 0
    (.keep [2, 3, 4, 6, 7, 9] <|
    .loop
      (q 10 (.bin .lss (.t 9) (ci 4)) <|
      .keep [2, 3, 4, 6, 7, 9, 10] <|
      .ite (.t 10)
        (.done)
        (.exit 0) <|
      .block 1
        (q 11 (.mv (.t 9)) <|
        q 8 (.mv (.t 11)) <|
        .keep [2, 3, 4, 6, 7, 8, 9] <|
        q 13 (.mv (.t 8)) <|
        q 14 (.mv (.t 8)) <|
        q 15 (.idxa 1 (some 4) (.t 2) (.t 14)) <|
        q 16 (.load false 1 (.t 15)) <|
        q 17 (.mv (.t 8)) <|
        q 18 (.idxa 1 (some 4) (.t 3) (.t 17)) <|
        q 19 (.load false 1 (.t 18)) <|
        q 20 (.mv (.t 7)) <|
        q 21 (.carry true (.t 16) (.t 19) (.t 20)) <|
        q 12 (.mv (.t 21)) <|
        q 22 (.ext (.t 12) 0) <|
        q 23 (.ext (.t 12) 1) <|
        q 24 (.idxa 1 (some 4) (.t 6) (.t 13)) <|
        qn (.store 1 (.t 24) (.t 22)) <|
        q 7 (.mv (.t 23)) <|
        .keep [2, 3, 4, 6, 7, 9] <|
        .done) <|
      q 25 (.bin .add (.t 9) (ci 1)) <|
      q 9 (.mv (.t 25)) <|
      .keep [2, 3, 4, 6, 7, 9] <|
      .keep [2, 3, 4, 6, 7, 9] <|
      .done)) <|
  q 26 (.load true 4 (.t 6)) <|
  q 27 (.mv (.t 7)) <|
  q 28 (.bin .gtr (.t 27) (.c (.int .u64 0))) <|
  qn (.store 4 (.t 4) (.t 26)) <|
  q 5 (.mv (.t 28)) <|
  .keep [4, 5] <|
  .ret
theorem ok_limb_Sub : compF Try.prog (pfx false) (fun d => [].contains d) Try.f100 = some ic_limb_Sub := by kernel_rfl
theorem e_limb_Sub {args : List AV} {H : AH} {v : AV} {H' : AH} (h : iwp (pfx false) (Called Try.prog) ic_limb_Sub (retQ [.c 4 true 4, .t 5] H v H') (look (enterL 0 args)) H) : Called Try.prog F.limb_Sub args H v H' :=
  fn_called mixed (cmpok false) Try.func100 (by kernel_rfl) ok_limb_Sub (by kernel_rfl) h


def ic_limb_Bit : IC :=
  q 2 (.box (.t 0)) <|
  q 4 (.mv (cb false)) <|
  .keep [1, 2] <|
  q 5 (.mv (.t 1)) <|
  q 6 (.bin .geq (.t 5) (ci 0)) <|
  q 7 (.mv (.t 6)) <|
  qg 8 7 true (.mv (.t 1)) <|
  qg 9 7 true (.bin .lss (.t 8) (ci 256)) <|
  q 10 (.pick (.t 7) (.t 9) (cb false)) <|
  q 11 (.mv (.t 10)) <|
  qg 12 11 true (.mv (.t 1)) <|
  qg 13 11 true (.bin .quo (.t 12) (ci 64)) <|
  qg 14 11 true (.idxa 1 (some 4) (.t 2) (.t 13)) <|
  qg 15 11 true (.load false 1 (.t 14)) <|
  qg 16 11 true (.mv (.t 1)) <|
  qg 17 11 true (.bin .rem (.t 16) (ci 64)) <|
  qg 18 11 true (.bin .shr (.t 15) (.t 17)) <|
  qg 19 11 true (.bin .and (.t 18) (.c (.int .u64 1))) <|
  qg 20 11 true (.bin .eql (.t 19) (.c (.int .u64 1))) <|
  q 21 (.pick (.t 11) (.t 20) (cb false)) <|
  q 4 (.mv (.t 21)) <|
  .keep [4] <|
  .ret
theorem ok_limb_Bit : compF Try.prog (pfx false) (fun d => [].contains d) Try.f104 = some ic_limb_Bit := by kernel_rfl
theorem e_limb_Bit {args : List AV} {H : AH} {v : AV} {H' : AH} (h : iwp (pfx false) (Called Try.prog) ic_limb_Bit (retQ [.t 4] H v H') (look (enterL 0 args)) H) : Called Try.prog F.limb_Bit args H v H' :=
  fn_called mixed (cmpok false) Try.func104 (by kernel_rfl) ok_limb_Bit (by kernel_rfl) h


def ic_limb_Add : IC :=
  q 2 (.box (.t 0)) <|
  q 3 (.box (.t 1)) <|
  q 4 (.alloc (List.replicate 4 (.int .u64 0))) <|
  q 5 (.mv (cb false)) <|
  .keep [2, 3, 4] <|
  q 6 (.alloc (List.replicate 4 (.int .u64 0))) <|
  .keep [2, 3, 4, 6] <|
  q 7 (.mv (.c (.int .u64 0))) <|
  .keep [2, 3, 4, 6, 7] <|
  q 9 (.mv (ci 0)) <|
  .keep [2, 3, 4, 6, 7, 9] <|
  .block 0
    (.keep [2, 3, 4, 6, 7, 9] <|
    .loop
      (q 10 (.bin .lss (.t 9) (ci 4)) <|
      .keep [2, 3, 4, 6, 7, 9, 10] <|
      .ite (.t 10)
        (.done)
        (.exit 0) <|
      .block 1
        (q 11 (.mv (.t 9)) <|
        q 8 (.mv (.t 11)) <|
        .keep [2, 3, 4, 6, 7, 8, 9] <|
        q 13 (.mv (.t 8)) <|
        q 14 (.mv (.t 8)) <|
        q 15 (.idxa 1 (some 4) (.t 2) (.t 14)) <|
        q 16 (.load false 1 (.t 15)) <|
        q 17 (.mv (.t 8)) <|
        q 18 (.idxa 1 (some 4) (.t 3) (.t 17)) <|
        q 19 (.load false 1 (.t 18)) <|
        q 20 (.mv (.t 7)) <|
        q 21 (.carry false (.t 16) (.t 19) (.t 20)) <|
        q 12 (.mv (.t 21)) <|
        q 22 (.ext (.t 12) 0) <|
        q 23 (.ext (.t 12) 1) <|
        q 24 (.idxa 1 (some 4) (.t 6) (.t 13)) <|
        qn (.store 1 (.t 24) (.t 22)) <|
        q 7 (.mv (.t 23)) <|
        .keep [2, 3, 4, 6, 7, 9] <|
        .done) <|
      q 25 (.bin .add (.t 9) (ci 1)) <|
      q 9 (.mv (.t 25)) <|
      .keep [2, 3, 4, 6, 7, 9] <|
      .keep [2, 3, 4, 6, 7, 9] <|
      .done)) <|
  q 26 (.load true 4 (.t 6)) <|
  q 27 (.mv (.t 7)) <|
  q 28 (.bin .gtr (.t 27) (.c (.int .u64 0))) <|
  qn (.store 4 (.t 4) (.t 26)) <|
  q 5 (.mv (.t 28)) <|
  .keep [4, 5] <|
  .ret
theorem ok_limb_Add : compF Try.prog (pfx false) (fun d => [].contains d) Try.f108 = some ic_limb_Add := by kernel_rfl
theorem e_limb_Add {args : List AV} {H : AH} {v : AV} {H' : AH} (h : iwp (pfx false) (Called Try.prog) ic_limb_Add (retQ [.c 4 true 4, .t 5] H v H') (look (enterL 0 args)) H) : Called Try.prog F.limb_Add args H v H' :=
  fn_called mixed (cmpok false) Try.func108 (by kernel_rfl) ok_limb_Add (by kernel_rfl) h


def ic_math_bits_Len64 : IC :=
  q 2 (.mv (ci 0)) <|
  .keep [0, 2] <|
  q 3 (.mv (.t 0)) <|
  q 4 (.bin .geq (.t 3) (.c (.int .u64 4294967296))) <|
  .keep [0, 2, 4] <|
  .ite (.t 4)
    (q 5 (.mv (.t 0)) <|
    q 6 (.bin .shr (.t 5) (.c (.int .u64 32))) <|
    q 0 (.mv (.t 6)) <|
    .keep [0] <|
    q 2 (.mv (ci 32)) <|
    .keep [0, 2] <|
    .done)
    (.done) <|
  q 7 (.mv (.t 0)) <|
  q 8 (.bin .geq (.t 7) (.c (.int .u64 65536))) <|
  .keep [0, 2, 8] <|
  .ite (.t 8)
    (q 9 (.mv (.t 0)) <|
    q 10 (.bin .shr (.t 9) (.c (.int .u64 16))) <|
    q 0 (.mv (.t 10)) <|
    .keep [0, 2] <|
    q 11 (.mv (.t 2)) <|
    q 12 (.bin .add (.t 11) (ci 16)) <|
    q 2 (.mv (.t 12)) <|
    .keep [0, 2] <|
    .done)
    (.done) <|
  q 13 (.mv (.t 0)) <|
  q 14 (.bin .geq (.t 13) (.c (.int .u64 256))) <|
  .keep [0, 2, 14] <|
  .ite (.t 14)
    (q 15 (.mv (.t 0)) <|
    q 16 (.bin .shr (.t 15) (.c (.int .u64 8))) <|
    q 0 (.mv (.t 16)) <|
    .keep [0, 2] <|
    q 17 (.mv (.t 2)) <|
    q 18 (.bin .add (.t 17) (ci 8)) <|
    q 2 (.mv (.t 18)) <|
    .keep [0, 2] <|
    .done)
    (.done) <|
  q 19 (.mv (.t 2)) <|
  q 20 (.mv (.t 0)) <|
  q 21 (.conv .u8 (.t 20)) <|
  q 22 (.sidx (.c (.string ⟨#[0, 1, 2, 2, 3, 3, 3, 3, 4, 4, 4, 4, 4, 4, 4, 4, 5, 5, 5, 5, 5, 5, 5, 5, 5, 5, 5, 5, 5, 5, 5, 5, 6, 6, 6, 6, 6, 6, 6, 6, 6, 6, 6, 6, 6, 6, 6, 6, 6, 6, 6, 6, 6, 6, 6, 6, 6, 6, 6, 6, 6, 6, 6, 6, 7, 7, 7, 7, 7, 7, 7, 7, 7, 7, 7, 7, 7, 7, 7, 7, 7, 7, 7, 7, 7, 7, 7, 7, 7, 7, 7, 7, 7, 7, 7, 7, 7, 7, 7, 7, 7, 7, 7, 7, 7, 7, 7, 7, 7, 7, 7, 7, 7, 7, 7, 7, 7, 7, 7, 7, 7, 7, 7, 7, 7, 7, 7, 7, 8, 8, 8, 8, 8, 8, 8, 8, 8, 8, 8, 8, 8, 8, 8, 8, 8, 8, 8, 8, 8, 8, 8, 8, 8, 8, 8, 8, 8, 8, 8, 8, 8, 8, 8, 8, 8, 8, 8, 8, 8, 8, 8, 8, 8, 8, 8, 8, 8, 8, 8, 8, 8, 8, 8, 8, 8, 8, 8, 8, 8, 8, 8, 8, 8, 8, 8, 8, 8, 8, 8, 8, 8, 8, 8, 8, 8, 8, 8, 8, 8, 8, 8, 8, 8, 8, 8, 8, 8, 8, 8, 8, 8, 8, 8, 8, 8, 8, 8, 8, 8, 8, 8, 8, 8, 8, 8, 8, 8, 8, 8, 8, 8, 8, 8, 8, 8, 8, 8, 8, 8, 8, 8, 8, 8, 8, 8, 8]⟩)) (.t 21)) <|
  q 23 (.conv .i64 (.t 22)) <|
  q 24 (.bin .add (.t 19) (.t 23)) <|
  q 2 (.mv (.t 24)) <|
  .keep [2] <|
  .ret
theorem ok_math_bits_Len64 : compF Try.prog (pfx false) (fun d => [].contains d) Try.f136 = some ic_math_bits_Len64 := by kernel_rfl
theorem e_math_bits_Len64 {args : List AV} {H : AH} {v : AV} {H' : AH} (h : iwp (pfx false) (Called Try.prog) ic_math_bits_Len64 (retQ [.t 2] H v H') (look (enterL 0 args)) H) : Called Try.prog F.math_bits_Len64 args H v H' :=
  fn_called mixed (cmpok false) Try.func136 (by kernel_rfl) ok_math_bits_Len64 (by kernel_rfl) h


def ic_math_bits_Mul64 : IC :=
  q 4 (.mv (.c (.int .u64 0))) <|
  q 5 (.mv (.c (.int .u64 0))) <|
  .keep [0, 1] <|
  q 14 (.mv (.t 0)) <|
  q 15 (.bin .and (.t 14) (.c (.int .u64 4294967295))) <|
  q 6 (.mv (.t 15)) <|
  .keep [0, 1, 6] <|
  q 16 (.mv (.t 0)) <|
  q 17 (.bin .shr (.t 16) (.c (.int .u64 32))) <|
  q 7 (.mv (.t 17)) <|
  .keep [0, 1, 6, 7] <|
  q 18 (.mv (.t 1)) <|
  q 19 (.bin .and (.t 18) (.c (.int .u64 4294967295))) <|
  q 8 (.mv (.t 19)) <|
  .keep [0, 1, 6, 7, 8] <|
  q 20 (.mv (.t 1)) <|
  q 21 (.bin .shr (.t 20) (.c (.int .u64 32))) <|
  q 9 (.mv (.t 21)) <|
  .keep [0, 1, 6, 7, 8, 9] <|
  q 22 (.mv (.t 6)) <|
  q 23 (.mv (.t 8)) <|
  q 24 (.bin .mul (.t 22) (.t 23)) <|
  q 10 (.mv (.t 24)) <|
  .keep [0, 1, 6, 7, 8, 9, 10] <|
  q 25 (.mv (.t 7)) <|
  q 26 (.mv (.t 8)) <|
  q 27 (.bin .mul (.t 25) (.t 26)) <|
  q 28 (.mv (.t 10)) <|
  q 29 (.bin .shr (.t 28) (.c (.int .u64 32))) <|
  q 30 (.bin .add (.t 27) (.t 29)) <|
  q 11 (.mv (.t 30)) <|
  .keep [0, 1, 6, 7, 9, 11] <|
  q 31 (.mv (.t 11)) <|
  q 32 (.bin .and (.t 31) (.c (.int .u64 4294967295))) <|
  q 12 (.mv (.t 32)) <|
  .keep [0, 1, 6, 7, 9, 11, 12] <|
  q 33 (.mv (.t 11)) <|
  q 34 (.bin .shr (.t 33) (.c (.int .u64 32))) <|
  q 13 (.mv (.t 34)) <|
  .keep [0, 1, 6, 7, 9, 12, 13] <|
  q 35 (.mv (.t 12)) <|
  q 36 (.mv (.t 6)) <|
  q 37 (.mv (.t 9)) <|
  q 38 (.bin .mul (.t 36) (.t 37)) <|
  q 39 (.bin .add (.t 35) (.t 38)) <|
  q 12 (.mv (.t 39)) <|
  .keep [0, 1, 7, 9, 12, 13] <|
  q 40 (.mv (.t 7)) <|
  q 41 (.mv (.t 9)) <|
  q 42 (.bin .mul (.t 40) (.t 41)) <|
  q 43 (.mv (.t 13)) <|
  q 44 (.bin .add (.t 42) (.t 43)) <|
  q 45 (.mv (.t 12)) <|
  q 46 (.bin .shr (.t 45) (.c (.int .u64 32))) <|
  q 47 (.bin .add (.t 44) (.t 46)) <|
  q 4 (.mv (.t 47)) <|
  .keep [0, 1, 4] <|
  q 48 (.mv (.t 0)) <|
  q 49 (.mv (.t 1)) <|
  q 50 (.bin .mul (.t 48) (.t 49)) <|
  q 5 (.mv (.t 50)) <|
  .keep [4, 5] <|
  .ret
theorem ok_math_bits_Mul64 : compF Try.prog (pfx false) (fun d => [].contains d) Try.f137 = some ic_math_bits_Mul64 := by kernel_rfl
theorem e_math_bits_Mul64 {args : List AV} {H : AH} {v : AV} {H' : AH} (h : iwp (pfx false) (Called Try.prog) ic_math_bits_Mul64 (retQ [.t 4, .t 5] H v H') (look (enterL 0 args)) H) : Called Try.prog F.math_bits_Mul64 args H v H' :=
  fn_called mixed (cmpok false) Try.func137 (by kernel_rfl) ok_math_bits_Mul64 (by kernel_rfl) h


def ic_limb_Half : IC :=
  q 1 (.box (.t 0)) <|
  q 2 (.alloc (List.replicate 4 (.int .u64 0))) <|
  .keep [1, 2] <|
  q 4 (.mv (ci 0)) <|
  .keep [1, 2, 4] <|
  .block 0
    (.keep [1, 2, 4] <|
    .loop
      (q 5 (.bin .lss (.t 4) (ci 4)) <|
      .keep [1, 2, 4, 5] <|
      .ite (.t 5)
        (.done)
        (.exit 0) <|
      .block 1
        (q 6 (.mv (.t 4)) <|
        q 3 (.mv (.t 6)) <|
        .keep [1, 2, 3, 4] <|
        q 7 (.mv (.t 3)) <|
        q 8 (.idxa 1 (some 4) (.t 1) (.t 7)) <|
        q 9 (.load false 1 (.t 8)) <|
        q 10 (.bin .shr (.t 9) (.c (.int .u64 1))) <|
        q 11 (.idxa 1 (some 4) (.t 1) (.t 7)) <|
        qn (.store 1 (.t 11) (.t 10)) <|
        .keep [1, 2, 3, 4] <|
        q 12 (.mv (.t 3)) <|
        q 13 (.bin .add (.t 12) (ci 1)) <|
        q 14 (.bin .lss (.t 13) (ci 4)) <|
        .keep [1, 2, 3, 4, 14] <|
        .ite (.t 14)
          (q 15 (.mv (.t 3)) <|
          q 16 (.idxa 1 (some 4) (.t 1) (.t 15)) <|
          q 17 (.load false 1 (.t 16)) <|
          q 18 (.mv (.t 3)) <|
          q 19 (.bin .add (.t 18) (ci 1)) <|
          q 20 (.idxa 1 (some 4) (.t 1) (.t 19)) <|
          q 21 (.load false 1 (.t 20)) <|
          q 22 (.bin .shl (.t 21) (.c (.int .u64 63))) <|
          q 23 (.bin .or (.t 17) (.t 22)) <|
          q 24 (.idxa 1 (some 4) (.t 1) (.t 15)) <|
          qn (.store 1 (.t 24) (.t 23)) <|
          .keep [1, 2, 4] <|
          .done)
          (.done) <|
        .done) <|
      q 25 (.bin .add (.t 4) (ci 1)) <|
      q 4 (.mv (.t 25)) <|
      .keep [1, 2, 4] <|
      .keep [1, 2, 4] <|
      .done)) <|
  q 26 (.load true 4 (.t 1)) <|
  qn (.store 4 (.t 2) (.t 26)) <|
  .keep [2] <|
  .ret
theorem ok_limb_Half : compF Try.prog (pfx false) (fun d => [].contains d) Try.f139 = some ic_limb_Half := by kernel_rfl
theorem e_limb_Half {args : List AV} {H : AH} {v : AV} {H' : AH} (h : iwp (pfx false) (Called Try.prog) ic_limb_Half (retQ [.c 2 true 4] H v H') (look (enterL 0 args)) H) : Called Try.prog F.limb_Half args H v H' :=
  fn_called mixed (cmpok false) Try.func139 (by kernel_rfl) ok_limb_Half (by kernel_rfl) h


def ic_math_bits_RotateLeft32 : IC :=
  q 4 (.mv (.c (.int .u32 0))) <|
  .keep [0, 1] <|
  q 6 (.mv (.t 1)) <|
  q 7 (.conv .u64 (.t 6)) <|
  q 8 (.bin .and (.t 7) (.c (.int .u64 31))) <|
  q 5 (.mv (.t 8)) <|
  .keep [0, 5] <|
  q 9 (.mv (.t 0)) <|
  q 10 (.mv (.t 5)) <|
  q 11 (.bin .shl (.t 9) (.t 10)) <|
  q 12 (.mv (.t 0)) <|
  q 13 (.mv (.t 5)) <|
  q 14 (.bin .sub (.c (.int .u64 32)) (.t 13)) <|
  q 15 (.bin .shr (.t 12) (.t 14)) <|
  q 16 (.bin .or (.t 11) (.t 15)) <|
  q 4 (.mv (.t 16)) <|
  .keep [4] <|
  .ret
theorem ok_math_bits_RotateLeft32 : compF Try.prog (pfx false) (fun d => [].contains d) Try.f164 = some ic_math_bits_RotateLeft32 := by kernel_rfl
theorem e_math_bits_RotateLeft32 {args : List AV} {H : AH} {v : AV} {H' : AH} (h : iwp (pfx false) (Called Try.prog) ic_math_bits_RotateLeft32 (retQ [.t 4] H v H') (look (enterL 0 args)) H) : Called Try.prog F.math_bits_RotateLeft32 args H v H' :=
  fn_called mixed (cmpok false) Try.func164 (by kernel_rfl) ok_math_bits_RotateLeft32 (by kernel_rfl) h
end Go.Proofs.Ytgfploghjpbcaaa.Eng

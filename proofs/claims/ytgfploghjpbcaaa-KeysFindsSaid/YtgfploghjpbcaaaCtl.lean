/- The code of some functions, as the abstract machine's. Printed by program. -/
import Derived.Test.YtgfploghjpbcaaaNm
namespace Go.Proofs.Ytgfploghjpbcaaa.Eng
open Go Go.Proofs
set_option maxRecDepth 20000

def ic_tlv_Put : IC :=
  q 2 (.mv (.c (.slice none 0 0))) <|
  q 3 (.mv (.c (.nilIface))) <|
  .keep [0] <|
  q 8 (.mv (.t 0)) <|
  q 9 (.call F.tlv_May [(.t 8)]) <|
  q 10 (.un .not (.t 9)) <|
  .keep [0, 10] <|
  .ite (.t 10)
    (q 11 (.mkif T.api_Code (ci 1)) <|
    q 2 (.mv (.c (.slice none 0 0))) <|
    q 3 (.mv (.t 11)) <|
    .keep [2, 3] <|
    .ret)
    (.done) <|
  q 4 (.mv (.c (.slice none 0 0))) <|
  .keep [0, 4] <|
  q 12 (.mv (.t 0)) <|
  q 13 (.len false (.t 12)) <|
  q 14 (.mv (ci 0)) <|
  .keep [4, 12, 13, 14] <|
  .block 0
    (.keep [4, 12, 13, 14] <|
    .loop
      (q 15 (.bin .lss (.t 14) (.t 13)) <|
      .keep [4, 12, 13, 14, 15] <|
      .ite (.t 15)
        (.done)
        (.exit 0) <|
      .block 1
        (q 16 (.idxa 2 none (.t 12) (.t 14)) <|
        q 17 (.load true 2 (.t 16)) <|
        q 6 (.alloc [.int .i64 0, .slice none 0 0]) <|
        qn (.store 2 (.t 6) (.t 17)) <|
        .keep [4, 6, 12, 13, 14] <|
        q 18 (.fld 1 (.t 6)) <|
        q 19 (.load false 1 (.t 18)) <|
        q 20 (.len false (.t 19)) <|
        q 7 (.mv (.t 20)) <|
        .keep [4, 6, 7, 12, 13, 14] <|
        .reg 0
          [xe 21 (.mv (.t 4)) [],
           xe 22 (.fld 0 (.t 6)) [],
           xe 23 (.load false 1 (.t 22)) [],
           xe 24 (.conv .u8 (.t 23)) [],
           xe 25 (.mv (.t 7)) [],
           xe 26 (.bin .shr (.t 25) (.c (.int .u64 8))) [],
           xe 27 (.conv .u8 (.t 26)) [],
           xe 28 (.mv (.t 7)) [],
           xe 29 (.conv .u8 (.t 28)) [],
           xe 30 (.bslice false 1 3 [.int .u8 0] [(0, 1, (.t 24)), (1, 1, (.t 27)), (2, 1, (.t 29))]) [],
           xw 31 (.append 1 1 (.t 21) (.t 30)) [],
           xe 32 (.fld 1 (.t 6)) [],
           xe 33 (.load false 1 (.t 32)) [(.t 21)],
           xl 34 (.append 1 1 (.t 31) (.t 33)) [],
           xl 4 (.mv (.t 34)) []] <|
        .keep [4, 12, 13, 14] <|
        .done) <|
      q 35 (.bin .add (.t 14) (ci 1)) <|
      q 14 (.mv (.t 35)) <|
      .keep [4, 12, 13, 14] <|
      .keep [4, 12, 13, 14] <|
      .done)) <|
  q 36 (.mv (.t 4)) <|
  q 2 (.mv (.t 36)) <|
  q 3 (.mv (.c (.nilIface))) <|
  .keep [2, 3] <|
  .ret
theorem ok_tlv_Put : compF Try.prog (pfx false) (fun d => [].contains d) Try.f72 = some ic_tlv_Put := by kernel_rfl
theorem e_tlv_Put {args : List AV} {H : AH} {v : AV} {H' : AH} (h : iwp (pfx false) (Called Try.prog) ic_tlv_Put (retQ [.t 2, .t 3] H v H') (look (enterL 0 args)) H) : Called Try.prog F.tlv_Put args H v H' :=
  fn_called mixed (cmpok false) Try.func72 (by kernel_rfl) ok_tlv_Put (by kernel_rfl) h


def ic_tlv_Number : IC :=
  q 2 (.mv (.c (.slice none 0 0))) <|
  .keep [0] <|
  q 5 (.mksl 1 1 [.int .u8 0] (ci 8) (ci 8)) <|
  q 3 (.mv (.t 5)) <|
  .keep [0, 3] <|
  q 6 (.mv (.t 3)) <|
  q 7 (.len false (.t 6)) <|
  q 8 (.mv (ci 0)) <|
  .keep [0, 3, 7, 8] <|
  .block 0
    (.keep [0, 3, 7, 8] <|
    .loop
      (q 9 (.bin .lss (.t 8) (.t 7)) <|
      .keep [0, 3, 7, 8, 9] <|
      .ite (.t 9)
        (.done)
        (.exit 0) <|
      .block 1
        (q 10 (.mv (.t 8)) <|
        q 4 (.mv (.t 10)) <|
        .keep [0, 3, 4, 7, 8] <|
        q 11 (.mv (.t 3)) <|
        q 12 (.mv (.t 4)) <|
        q 13 (.mv (.t 0)) <|
        q 14 (.conv .u64 (.t 13)) <|
        q 15 (.mv (.t 4)) <|
        q 16 (.bin .sub (ci 7) (.t 15)) <|
        q 17 (.bin .mul (ci 8) (.t 16)) <|
        q 18 (.bin .shr (.t 14) (.t 17)) <|
        q 19 (.conv .u8 (.t 18)) <|
        q 20 (.idxa 1 none (.t 11) (.t 12)) <|
        qn (.store 1 (.t 20) (.t 19)) <|
        .keep [0, 3, 7, 8] <|
        .done) <|
      q 21 (.bin .add (.t 8) (ci 1)) <|
      q 8 (.mv (.t 21)) <|
      .keep [0, 3, 7, 8] <|
      .keep [0, 3, 7, 8] <|
      .done)) <|
  q 22 (.mv (.t 3)) <|
  q 2 (.mv (.t 22)) <|
  .keep [2] <|
  .ret
theorem ok_tlv_Number : compF Try.prog (pfx false) (fun d => [].contains d) Try.f76 = some ic_tlv_Number := by kernel_rfl
theorem e_tlv_Number {args : List AV} {H : AH} {v : AV} {H' : AH} (h : iwp (pfx false) (Called Try.prog) ic_tlv_Number (retQ [.t 2] H v H') (look (enterL 0 args)) H) : Called Try.prog F.tlv_Number args H v H' :=
  fn_called mixed (cmpok false) Try.func76 (by kernel_rfl) ok_tlv_Number (by kernel_rfl) h


def ic_clapperref08_Put : IC :=
  q 2 (.mv (.c (.string .empty))) <|
  .keep [0] <|
  q 3 (.mv (.c (.string .empty))) <|
  .keep [0, 3] <|
  q 4 (.mv (ci 0)) <|
  .keep [0, 3, 4] <|
  .block 0
    (.keep [0, 3, 4] <|
    .loop
      (q 6 (.mv (.t 4)) <|
      q 7 (.mv (.t 0)) <|
      q 8 (.len false (.t 7)) <|
      q 9 (.bin .lss (.t 6) (.t 8)) <|
      .keep [0, 3, 4, 9] <|
      .ite (.t 9)
        (.done)
        (.exit 0) <|
      .block 1
        (q 12 (.mv (.t 0)) <|
        q 13 (.mv (.t 4)) <|
        q 14 (.idxa 2 none (.t 12) (.t 13)) <|
        q 15 (.fld 1 (.t 14)) <|
        q 16 (.load false 1 (.t 15)) <|
        q 17 (.len false (.t 16)) <|
        q 5 (.mv (.t 17)) <|
        .keep [0, 3, 4, 5] <|
        q 18 (.mv (.t 3)) <|
        q 19 (.mv (.t 0)) <|
        q 20 (.mv (.t 4)) <|
        q 21 (.idxa 2 none (.t 19) (.t 20)) <|
        q 22 (.fld 0 (.t 21)) <|
        q 23 (.load false 1 (.t 22)) <|
        q 24 (.conv .u8 (.t 23)) <|
        q 25 (.mv (.t 5)) <|
        q 26 (.bin .quo (.t 25) (ci 256)) <|
        q 27 (.conv .u8 (.t 26)) <|
        q 28 (.mv (.t 5)) <|
        q 29 (.bin .rem (.t 28) (ci 256)) <|
        q 30 (.conv .u8 (.t 29)) <|
        q 31 (.bslice false 1 3 [.int .u8 0] [(0, 1, (.t 24)), (1, 1, (.t 27)), (2, 1, (.t 30))]) <|
        q 32 (.b2s (.t 31)) <|
        q 33 (.bin .add (.t 18) (.t 32)) <|
        q 34 (.mv (.t 0)) <|
        q 35 (.mv (.t 4)) <|
        q 36 (.idxa 2 none (.t 34) (.t 35)) <|
        q 37 (.fld 1 (.t 36)) <|
        q 38 (.load false 1 (.t 37)) <|
        q 39 (.b2s (.t 38)) <|
        q 40 (.bin .add (.t 33) (.t 39)) <|
        q 3 (.mv (.t 40)) <|
        .keep [0, 3, 4] <|
        .done) <|
      q 10 (.mv (.t 4)) <|
      q 11 (.bin .add (.t 10) (ci 1)) <|
      q 4 (.mv (.t 11)) <|
      .keep [0, 3, 4] <|
      .keep [0, 3, 4] <|
      .done)) <|
  q 41 (.mv (.t 3)) <|
  q 2 (.mv (.t 41)) <|
  .keep [2] <|
  .ret
theorem ok_clapperref08_Put : compF Try.prog (pfx false) (fun d => [].contains d) Try.f77 = some ic_clapperref08_Put := by kernel_rfl
theorem e_clapperref08_Put {args : List AV} {H : AH} {v : AV} {H' : AH} (h : iwp (pfx false) (Called Try.prog) ic_clapperref08_Put (retQ [.t 2] H v H') (look (enterL 0 args)) H) : Called Try.prog F.clapperref08_Put args H v H' :=
  fn_called mixed (cmpok false) Try.func77 (by kernel_rfl) ok_clapperref08_Put (by kernel_rfl) h


def ic_tlv_May : IC :=
  q 2 (.mv (cb false)) <|
  .keep [0] <|
  q 3 (.mv (ci 0)) <|
  .keep [0, 3] <|
  q 6 (.mv (.t 0)) <|
  q 7 (.len false (.t 6)) <|
  q 8 (.mv (ci 0)) <|
  .keep [0, 3, 6, 7, 8] <|
  .block 0
    (.keep [0, 3, 6, 7, 8] <|
    .loop
      (q 9 (.bin .lss (.t 8) (.t 7)) <|
      .keep [0, 3, 6, 7, 8, 9] <|
      .ite (.t 9)
        (.done)
        (.exit 0) <|
      .block 1
        (q 10 (.idxa 2 none (.t 6) (.t 8)) <|
        q 11 (.load true 2 (.t 10)) <|
        q 5 (.alloc [.int .i64 0, .slice none 0 0]) <|
        qn (.store 2 (.t 5) (.t 11)) <|
        .keep [0, 3, 5, 6, 7, 8] <|
        q 12 (.fld 0 (.t 5)) <|
        q 13 (.load false 1 (.t 12)) <|
        q 14 (.mv (.t 3)) <|
        q 15 (.bin .leq (.t 13) (.t 14)) <|
        q 16 (.mv (.t 15)) <|
        qg 17 16 false (.fld 0 (.t 5)) <|
        qg 18 16 false (.load false 1 (.t 17)) <|
        qg 19 16 false (.bin .gtr (.t 18) (ci 255)) <|
        q 20 (.pick (.t 16) (cb true) (.t 19)) <|
        q 21 (.mv (.t 20)) <|
        qg 22 21 false (.fld 1 (.t 5)) <|
        qg 23 21 false (.load false 1 (.t 22)) <|
        qg 24 21 false (.len false (.t 23)) <|
        qg 25 21 false (.bin .gtr (.t 24) (ci 65535)) <|
        q 26 (.pick (.t 21) (cb true) (.t 25)) <|
        .keep [0, 5, 6, 7, 8, 26] <|
        .ite (.t 26)
          (q 2 (.mv (cb false)) <|
          .keep [2] <|
          .ret)
          (.done) <|
        q 27 (.fld 0 (.t 5)) <|
        q 28 (.load false 1 (.t 27)) <|
        q 3 (.mv (.t 28)) <|
        .keep [0, 3, 6, 7, 8] <|
        .done) <|
      q 29 (.bin .add (.t 8) (ci 1)) <|
      q 8 (.mv (.t 29)) <|
      .keep [0, 3, 6, 7, 8] <|
      .keep [0, 3, 6, 7, 8] <|
      .done)) <|
  q 30 (.mv (.t 0)) <|
  q 31 (.len false (.t 30)) <|
  q 32 (.bin .leq (.t 31) (ci 64)) <|
  q 2 (.mv (.t 32)) <|
  .keep [2] <|
  .ret
theorem ok_tlv_May : compF Try.prog (pfx false) (fun d => [].contains d) Try.f124 = some ic_tlv_May := by kernel_rfl
theorem e_tlv_May {args : List AV} {H : AH} {v : AV} {H' : AH} (h : iwp (pfx false) (Called Try.prog) ic_tlv_May (retQ [.t 2] H v H') (look (enterL 0 args)) H) : Called Try.prog F.tlv_May args H v H' :=
  fn_called mixed (cmpok false) Try.func124 (by kernel_rfl) ok_tlv_May (by kernel_rfl) h


def ic_tlv_Get : IC :=
  q 2 (.mv (.c (.slice none 0 0))) <|
  q 3 (.mv (.c (.nilIface))) <|
  .keep [0] <|
  q 4 (.mv (.c (.slice none 0 0))) <|
  .keep [0, 4] <|
  .block 0
    (.keep [0, 4] <|
    .loop
      (q 6 (.mv (.t 0)) <|
      q 7 (.len false (.t 6)) <|
      q 8 (.bin .geq (.t 7) (ci 3)) <|
      .keep [0, 4, 8] <|
      .ite (.t 8)
        (.done)
        (.exit 0) <|
      .block 1
        (q 9 (.mv (.t 0)) <|
        q 10 (.idxa 1 none (.t 9) (ci 1)) <|
        q 11 (.load false 1 (.t 10)) <|
        q 12 (.conv .i64 (.t 11)) <|
        q 13 (.bin .shl (.t 12) (.c (.int .u64 8))) <|
        q 14 (.bin .add (ci 3) (.t 13)) <|
        q 15 (.mv (.t 0)) <|
        q 16 (.idxa 1 none (.t 15) (ci 2)) <|
        q 17 (.load false 1 (.t 16)) <|
        q 18 (.conv .i64 (.t 17)) <|
        q 19 (.bin .add (.t 14) (.t 18)) <|
        q 5 (.mv (.t 19)) <|
        .keep [0, 4, 5] <|
        q 20 (.mv (.t 4)) <|
        q 21 (.len false (.t 20)) <|
        q 22 (.bin .eql (.t 21) (ci 64)) <|
        q 23 (.mv (.t 22)) <|
        qg 24 23 false (.mv (.t 5)) <|
        qg 25 23 false (.mv (.t 0)) <|
        qg 26 23 false (.len false (.t 25)) <|
        qg 27 23 false (.bin .gtr (.t 24) (.t 26)) <|
        q 28 (.pick (.t 23) (cb true) (.t 27)) <|
        .keep [0, 4, 5, 28] <|
        .ite (.t 28)
          (q 29 (.mkif T.api_Code (ci 2)) <|
          q 2 (.mv (.c (.slice none 0 0))) <|
          q 3 (.mv (.t 29)) <|
          .keep [2, 3] <|
          .ret)
          (.done) <|
        q 30 (.mv (.t 4)) <|
        q 31 (.mv (.t 0)) <|
        q 32 (.idxa 1 none (.t 31) (ci 0)) <|
        q 33 (.load false 1 (.t 32)) <|
        q 34 (.conv .i64 (.t 33)) <|
        q 35 (.mv (.t 0)) <|
        q 36 (.mv (.t 5)) <|
        q 37 (.slice 1 none (.t 35) (some (ci 3)) (some (.t 36)) none) <|
        q 38 (.call F.slices_Clone_byte_byte [(.t 37)]) <|
        q 39 (.build [.int .i64 0, .slice none 0 0] [(0, 1, (.t 34)), (1, 1, (.t 38))]) <|
        q 40 (.bslice false 2 1 [.int .i64 0, .slice none 0 0] [(0, 2, (.t 39))]) <|
        q 41 (.append 2 32 (.t 30) (.t 40)) <|
        q 4 (.mv (.t 41)) <|
        .keep [0, 4, 5] <|
        q 42 (.mv (.t 0)) <|
        q 43 (.mv (.t 5)) <|
        q 44 (.slice 1 none (.t 42) (some (.t 43)) none none) <|
        q 0 (.mv (.t 44)) <|
        .keep [0, 4] <|
        .done) <|
      .keep [0, 4] <|
      .done)) <|
  q 45 (.mv (.t 0)) <|
  q 46 (.len false (.t 45)) <|
  q 47 (.bin .gtr (.t 46) (ci 0)) <|
  q 48 (.mv (.t 47)) <|
  qg 49 48 false (.mv (.t 4)) <|
  qg 50 48 false (.call F.tlv_May [(.t 49)]) <|
  qg 51 48 false (.un .not (.t 50)) <|
  q 52 (.pick (.t 48) (cb true) (.t 51)) <|
  .keep [4, 52] <|
  .ite (.t 52)
    (q 53 (.mkif T.api_Code (ci 2)) <|
    q 2 (.mv (.c (.slice none 0 0))) <|
    q 3 (.mv (.t 53)) <|
    .keep [2, 3] <|
    .ret)
    (.done) <|
  q 54 (.mv (.t 4)) <|
  q 2 (.mv (.t 54)) <|
  q 3 (.mv (.c (.nilIface))) <|
  .keep [2, 3] <|
  .ret
theorem ok_tlv_Get : compF Try.prog (pfx false) (fun d => [].contains d) Try.f125 = some ic_tlv_Get := by kernel_rfl
theorem e_tlv_Get {args : List AV} {H : AH} {v : AV} {H' : AH} (h : iwp (pfx false) (Called Try.prog) ic_tlv_Get (retQ [.t 2, .t 3] H v H') (look (enterL 0 args)) H) : Called Try.prog F.tlv_Get args H v H' :=
  fn_called mixed (cmpok false) Try.func125 (by kernel_rfl) ok_tlv_Get (by kernel_rfl) h


def ic_tlv_Of : IC :=
  q 2 (.mv (ci 0)) <|
  q 3 (.mv (.c (.nilIface))) <|
  .keep [0] <|
  q 7 (.mv (.t 0)) <|
  q 8 (.len false (.t 7)) <|
  q 9 (.bin .neq (.t 8) (ci 8)) <|
  .keep [0, 9] <|
  .ite (.t 9)
    (q 10 (.mkif T.api_Code (ci 2)) <|
    q 2 (.mv (ci 0)) <|
    q 3 (.mv (.t 10)) <|
    .keep [2, 3] <|
    .ret)
    (.done) <|
  q 4 (.mv (.c (.int .u64 0))) <|
  .keep [0, 4] <|
  q 11 (.mv (.t 0)) <|
  q 12 (.len false (.t 11)) <|
  q 13 (.mv (ci 0)) <|
  .keep [4, 11, 12, 13] <|
  .block 0
    (.keep [4, 11, 12, 13] <|
    .loop
      (q 14 (.bin .lss (.t 13) (.t 12)) <|
      .keep [4, 11, 12, 13, 14] <|
      .ite (.t 14)
        (.done)
        (.exit 0) <|
      .block 1
        (q 15 (.idxa 1 none (.t 11) (.t 13)) <|
        q 16 (.load false 1 (.t 15)) <|
        q 6 (.mv (.t 16)) <|
        .keep [4, 6, 11, 12, 13] <|
        q 17 (.mv (.t 4)) <|
        q 18 (.bin .shl (.t 17) (.c (.int .u64 8))) <|
        q 19 (.mv (.t 6)) <|
        q 20 (.conv .u64 (.t 19)) <|
        q 21 (.bin .or (.t 18) (.t 20)) <|
        q 4 (.mv (.t 21)) <|
        .keep [4, 11, 12, 13] <|
        .done) <|
      q 22 (.bin .add (.t 13) (ci 1)) <|
      q 13 (.mv (.t 22)) <|
      .keep [4, 11, 12, 13] <|
      .keep [4, 11, 12, 13] <|
      .done)) <|
  q 23 (.mv (.t 4)) <|
  q 24 (.bin .gtr (.t 23) (.c (.int .u64 9223372036854775807))) <|
  .keep [4, 24] <|
  .ite (.t 24)
    (q 25 (.mkif T.api_Code (ci 2)) <|
    q 2 (.mv (ci 0)) <|
    q 3 (.mv (.t 25)) <|
    .keep [2, 3] <|
    .ret)
    (.done) <|
  q 26 (.mv (.t 4)) <|
  q 27 (.conv .i64 (.t 26)) <|
  q 2 (.mv (.t 27)) <|
  q 3 (.mv (.c (.nilIface))) <|
  .keep [2, 3] <|
  .ret
theorem ok_tlv_Of : compF Try.prog (pfx false) (fun d => [].contains d) Try.f126 = some ic_tlv_Of := by kernel_rfl
theorem e_tlv_Of {args : List AV} {H : AH} {v : AV} {H' : AH} (h : iwp (pfx false) (Called Try.prog) ic_tlv_Of (retQ [.t 2, .t 3] H v H') (look (enterL 0 args)) H) : Called Try.prog F.tlv_Of args H v H' :=
  fn_called mixed (cmpok false) Try.func126 (by kernel_rfl) ok_tlv_Of (by kernel_rfl) h


def ic_slices_Clone_byte_byte : IC :=
  q 2 (.mv (.c (.slice none 0 0))) <|
  .keep [0] <|
  q 3 (.mv (.t 0)) <|
  q 4 (.isnil false (.t 3)) <|
  .keep [0, 4] <|
  .ite (.t 4)
    (q 2 (.mv (.c (.slice none 0 0))) <|
    .keep [2] <|
    .ret)
    (.done) <|
  q 5 (.bslice false 1 0 [.int .u8 0] []) <|
  q 6 (.mv (.t 0)) <|
  q 7 (.append 1 1 (.t 5) (.t 6)) <|
  q 2 (.mv (.t 7)) <|
  .keep [2] <|
  .ret
theorem ok_slices_Clone_byte_byte : compF Try.prog (pfx false) (fun d => [].contains d) Try.f151 = some ic_slices_Clone_byte_byte := by kernel_rfl
theorem e_slices_Clone_byte_byte {args : List AV} {H : AH} {v : AV} {H' : AH} (h : iwp (pfx false) (Called Try.prog) ic_slices_Clone_byte_byte (retQ [.t 2] H v H') (look (enterL 0 args)) H) : Called Try.prog F.slices_Clone_byte_byte args H v H' :=
  fn_called mixed (cmpok false) Try.func151 (by kernel_rfl) ok_slices_Clone_byte_byte (by kernel_rfl) h
end Go.Proofs.Ytgfploghjpbcaaa.Eng

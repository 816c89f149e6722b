/- The code of some functions, as the abstract machine's. Printed by program. -/
import Derived.Test.YtdgabfeeoplldaaNm
namespace Go.Proofs.Ytdgabfeeoplldaa.Eng
open Go Go.Proofs
set_option maxRecDepth 20000

def ic_slices_Clone_byte_byte : IC :=
  q 2 (.mv (.c (.slice none 0 0))) <|
  .keep [0] <|
  q 3 (.mv (.t 0)) <|
  q 4 (.isnil false (.t 3)) <|
  .keep [0, 4] <|
  .ite (.t 4)
    (q 2 (.mv (.c (.slice none 0 0))) <|
    .keep [2] <|
    .ret)
    (.done) <|
  q 5 (.bslice false 1 0 [.int .u8 0] []) <|
  q 6 (.mv (.t 0)) <|
  q 7 (.append 1 1 (.t 5) (.t 6)) <|
  q 2 (.mv (.t 7)) <|
  .keep [2] <|
  .ret
theorem ok_slices_Clone_byte_byte : compF Try.prog (pfx false) (fun d => [].contains d) Try.f43 = some ic_slices_Clone_byte_byte := by kernel_rfl
theorem e_slices_Clone_byte_byte {args : List AV} {H : AH} {v : AV} {H' : AH} (h : iwp (pfx false) (Called Try.prog) ic_slices_Clone_byte_byte (retQ [.t 2] H v H') (look (enterL 0 args)) H) : Called Try.prog F.slices_Clone_byte_byte args H v H' :=
  fn_called mixed (cmpok false) Try.func43 (by kernel_rfl) ok_slices_Clone_byte_byte (by kernel_rfl) h


def ic_slices_Grow_byte_byte : IC :=
  q 4 (.mv (.c (.slice none 0 0))) <|
  .keep [0, 1] <|
  q 5 (.mv (.t 1)) <|
  q 6 (.bin .lss (.t 5) (ci 0)) <|
  .keep [0, 1, 6] <|
  .ite (.t 6)
    (q 7 (.mkif T.string (.c (.string ⟨#[99, 97, 110, 110, 111, 116, 32, 98, 101, 32, 110, 101, 103, 97, 116, 105, 118, 101]⟩))) <|
    qn (.dead) <|
    .keep [0, 1] <|
    .done)
    (.done) <|
  q 8 (.mv (.t 1)) <|
  q 9 (.mv (.t 0)) <|
  q 10 (.cap (.t 9)) <|
  q 11 (.mv (.t 0)) <|
  q 12 (.len false (.t 11)) <|
  q 13 (.bin .sub (.t 10) (.t 12)) <|
  q 14 (.bin .sub (.t 8) (.t 13)) <|
  q 1 (.mv (.t 14)) <|
  .keep [0, 1] <|
  q 15 (.mv (.t 1)) <|
  q 16 (.bin .gtr (.t 15) (ci 0)) <|
  .keep [0, 1, 16] <|
  .ite (.t 16)
    (q 17 (.mv (.t 0)) <|
    q 18 (.mv (.t 0)) <|
    q 19 (.cap (.t 18)) <|
    q 20 (.slice 1 none (.t 17) none (some (.t 19)) none) <|
    q 21 (.mv (.t 1)) <|
    q 22 (.appz 1 1 [.int .u8 0] (.t 20) (.t 21)) <|
    q 23 (.mv (.t 0)) <|
    q 24 (.len false (.t 23)) <|
    q 25 (.slice 1 none (.t 22) none (some (.t 24)) none) <|
    q 0 (.mv (.t 25)) <|
    .keep [0] <|
    .done)
    (.done) <|
  q 26 (.mv (.t 0)) <|
  q 4 (.mv (.t 26)) <|
  .keep [4] <|
  .ret
theorem ok_slices_Grow_byte_byte : compF Try.prog (pfx false) (fun d => [].contains d) Try.f80 = some ic_slices_Grow_byte_byte := by kernel_rfl
theorem e_slices_Grow_byte_byte {args : List AV} {H : AH} {v : AV} {H' : AH} (h : iwp (pfx false) (Called Try.prog) ic_slices_Grow_byte_byte (retQ [.t 4] H v H') (look (enterL 0 args)) H) : Called Try.prog F.slices_Grow_byte_byte args H v H' :=
  fn_called mixed (cmpok false) Try.func80 (by kernel_rfl) ok_slices_Grow_byte_byte (by kernel_rfl) h


def ic_slices_Concat_byte_byte : IC :=
  q 2 (.mv (.c (.slice none 0 0))) <|
  .keep [0] <|
  q 3 (.mv (ci 0)) <|
  .keep [0, 3] <|
  q 9 (.mv (.t 0)) <|
  q 10 (.len false (.t 9)) <|
  q 11 (.mv (ci 0)) <|
  .keep [0, 3, 9, 10, 11] <|
  .block 0
    (.keep [0, 3, 9, 10, 11] <|
    .loop
      (q 12 (.bin .lss (.t 11) (.t 10)) <|
      .keep [0, 3, 9, 10, 11, 12] <|
      .ite (.t 12)
        (.done)
        (.exit 0) <|
      .block 1
        (q 13 (.idxa 1 none (.t 9) (.t 11)) <|
        q 14 (.load false 1 (.t 13)) <|
        q 5 (.mv (.t 14)) <|
        .keep [0, 3, 5, 9, 10, 11] <|
        q 15 (.mv (.t 3)) <|
        q 16 (.mv (.t 5)) <|
        q 17 (.len false (.t 16)) <|
        q 18 (.bin .add (.t 15) (.t 17)) <|
        q 3 (.mv (.t 18)) <|
        .keep [0, 3, 9, 10, 11] <|
        q 19 (.mv (.t 3)) <|
        q 20 (.bin .lss (.t 19) (ci 0)) <|
        .keep [0, 3, 9, 10, 11, 20] <|
        .ite (.t 20)
          (q 21 (.mkif T.string (.c (.string ⟨#[108, 101, 110, 32, 111, 117, 116, 32, 111, 102, 32, 114, 97, 110, 103, 101]⟩))) <|
          qn (.dead) <|
          .keep [0, 3, 9, 10, 11] <|
          .done)
          (.done) <|
        .done) <|
      q 22 (.bin .add (.t 11) (ci 1)) <|
      q 11 (.mv (.t 22)) <|
      .keep [0, 3, 9, 10, 11] <|
      .keep [0, 3, 9, 10, 11] <|
      .done)) <|
  q 23 (.mv (.t 3)) <|
  q 24 (.call F.slices_Grow_byte_byte [(.c (.slice none 0 0)), (.t 23)]) <|
  q 6 (.mv (.t 24)) <|
  .keep [0, 6] <|
  q 25 (.mv (.t 0)) <|
  q 26 (.len false (.t 25)) <|
  q 27 (.mv (ci 0)) <|
  .keep [6, 25, 26, 27] <|
  .block 2
    (.keep [6, 25, 26, 27] <|
    .loop
      (q 28 (.bin .lss (.t 27) (.t 26)) <|
      .keep [6, 25, 26, 27, 28] <|
      .ite (.t 28)
        (.done)
        (.exit 2) <|
      .block 3
        (q 29 (.idxa 1 none (.t 25) (.t 27)) <|
        q 30 (.load false 1 (.t 29)) <|
        q 8 (.mv (.t 30)) <|
        .keep [6, 8, 25, 26, 27] <|
        q 31 (.mv (.t 6)) <|
        q 32 (.mv (.t 8)) <|
        q 33 (.append 1 1 (.t 31) (.t 32)) <|
        q 6 (.mv (.t 33)) <|
        .keep [6, 25, 26, 27] <|
        .done) <|
      q 34 (.bin .add (.t 27) (ci 1)) <|
      q 27 (.mv (.t 34)) <|
      .keep [6, 25, 26, 27] <|
      .keep [6, 25, 26, 27] <|
      .done)) <|
  q 35 (.mv (.t 6)) <|
  q 2 (.mv (.t 35)) <|
  .keep [2] <|
  .ret
theorem ok_slices_Concat_byte_byte : compF Try.prog (pfx false) (fun d => [].contains d) Try.f73 = some ic_slices_Concat_byte_byte := by kernel_rfl
theorem e_slices_Concat_byte_byte {args : List AV} {H : AH} {v : AV} {H' : AH} (h : iwp (pfx false) (Called Try.prog) ic_slices_Concat_byte_byte (retQ [.t 2] H v H') (look (enterL 0 args)) H) : Called Try.prog F.slices_Concat_byte_byte args H v H' :=
  fn_called mixed (cmpok false) Try.func73 (by kernel_rfl) ok_slices_Concat_byte_byte (by kernel_rfl) h


def ic_flash_New : IC :=
  q 2 (.mv (.c (.pointer none))) <|
  q 3 (.mv (.c (.nilIface))) <|
  .keep [0] <|
  q 4 (.mv (.t 0)) <|
  q 5 (.bin .lss (.t 4) (ci 1)) <|
  q 6 (.mv (.t 5)) <|
  qg 7 6 false (.mv (.t 0)) <|
  qg 8 6 false (.bin .gtr (.t 7) (ci 1048576)) <|
  q 9 (.pick (.t 6) (cb true) (.t 8)) <|
  .keep [0, 9] <|
  .ite (.t 9)
    (q 10 (.mkif T.api_Code (ci 1)) <|
    q 2 (.mv (.c (.pointer none))) <|
    q 3 (.mv (.t 10)) <|
    .keep [2, 3] <|
    .ret)
    (.done) <|
  q 11 (.mv (.t 0)) <|
  q 12 (.mksl 1 1 [.int .u8 0] (.t 11) (.t 11)) <|
  q 13 (.build [.slice none 0 0] [(0, 1, (.t 12))]) <|
  q 14 (.box (.t 13)) <|
  q 2 (.mv (.t 14)) <|
  q 3 (.mv (.c (.nilIface))) <|
  .keep [2, 3] <|
  .ret
theorem ok_flash_New : compF Try.prog (pfx false) (fun d => [].contains d) Try.f29 = some ic_flash_New := by kernel_rfl
theorem e_flash_New {args : List AV} {H : AH} {v : AV} {H' : AH} (h : iwp (pfx false) (Called Try.prog) ic_flash_New (retQ [.t 2, .t 3] H v H') (look (enterL 0 args)) H) : Called Try.prog F.flash_New args H v H' :=
  fn_called mixed (cmpok false) Try.func29 (by kernel_rfl) ok_flash_New (by kernel_rfl) h


def ic_flash_Flash_Size : IC :=
  q 2 (.mv (ci 0)) <|
  .keep [0] <|
  q 3 (.mv (.t 0)) <|
  q 4 (.nilchk (.t 3)) <|
  q 5 (.fld 0 (.t 4)) <|
  q 6 (.load false 1 (.t 5)) <|
  q 7 (.len false (.t 6)) <|
  q 2 (.mv (.t 7)) <|
  .keep [2] <|
  .ret
theorem ok_flash_Flash_Size : compF Try.prog (pfx false) (fun d => [].contains d) Try.f55 = some ic_flash_Flash_Size := by kernel_rfl
theorem e_flash_Flash_Size {args : List AV} {H : AH} {v : AV} {H' : AH} (h : iwp (pfx false) (Called Try.prog) ic_flash_Flash_Size (retQ [.t 2] H v H') (look (enterL 0 args)) H) : Called Try.prog F.flash_Flash_Size args H v H' :=
  fn_called mixed (cmpok false) Try.func55 (by kernel_rfl) ok_flash_Flash_Size (by kernel_rfl) h


def ic_flash_Flash_Bytes : IC :=
  q 2 (.mv (.c (.slice none 0 0))) <|
  .keep [0] <|
  q 3 (.mv (.t 0)) <|
  q 4 (.nilchk (.t 3)) <|
  q 5 (.fld 0 (.t 4)) <|
  q 6 (.load false 1 (.t 5)) <|
  q 7 (.call F.slices_Clone_byte_byte [(.t 6)]) <|
  q 2 (.mv (.t 7)) <|
  .keep [2] <|
  .ret
theorem ok_flash_Flash_Bytes : compF Try.prog (pfx false) (fun d => [].contains d) Try.f56 = some ic_flash_Flash_Bytes := by kernel_rfl
theorem e_flash_Flash_Bytes {args : List AV} {H : AH} {v : AV} {H' : AH} (h : iwp (pfx false) (Called Try.prog) ic_flash_Flash_Bytes (retQ [.t 2] H v H') (look (enterL 0 args)) H) : Called Try.prog F.flash_Flash_Bytes args H v H' :=
  fn_called mixed (cmpok false) Try.func56 (by kernel_rfl) ok_flash_Flash_Bytes (by kernel_rfl) h


def ic_flash_Flash_there : IC :=
  q 6 (.mv (cb false)) <|
  .keep [0, 1, 2] <|
  q 7 (.mv (.t 1)) <|
  q 8 (.bin .geq (.t 7) (ci 0)) <|
  q 9 (.mv (.t 8)) <|
  qg 10 9 true (.mv (.t 2)) <|
  qg 11 9 true (.bin .geq (.t 10) (ci 0)) <|
  q 12 (.pick (.t 9) (.t 11) (cb false)) <|
  q 13 (.mv (.t 12)) <|
  qg 14 13 true (.mv (.t 2)) <|
  qg 15 13 true (.mv (.t 0)) <|
  qg 16 13 true (.nilchk (.t 15)) <|
  qg 17 13 true (.fld 0 (.t 16)) <|
  qg 18 13 true (.load false 1 (.t 17)) <|
  qg 19 13 true (.len false (.t 18)) <|
  qg 20 13 true (.bin .leq (.t 14) (.t 19)) <|
  q 21 (.pick (.t 13) (.t 20) (cb false)) <|
  q 22 (.mv (.t 21)) <|
  qg 23 22 true (.mv (.t 1)) <|
  qg 24 22 true (.mv (.t 0)) <|
  qg 25 22 true (.nilchk (.t 24)) <|
  qg 26 22 true (.fld 0 (.t 25)) <|
  qg 27 22 true (.load false 1 (.t 26)) <|
  qg 28 22 true (.len false (.t 27)) <|
  qg 29 22 true (.mv (.t 2)) <|
  qg 30 22 true (.bin .sub (.t 28) (.t 29)) <|
  qg 31 22 true (.bin .leq (.t 23) (.t 30)) <|
  q 32 (.pick (.t 22) (.t 31) (cb false)) <|
  q 6 (.mv (.t 32)) <|
  .keep [6] <|
  .ret
theorem ok_flash_Flash_there : compF Try.prog (pfx false) (fun d => [].contains d) Try.f74 = some ic_flash_Flash_there := by kernel_rfl
theorem e_flash_Flash_there {args : List AV} {H : AH} {v : AV} {H' : AH} (h : iwp (pfx false) (Called Try.prog) ic_flash_Flash_there (retQ [.t 6] H v H') (look (enterL 0 args)) H) : Called Try.prog F.flash_Flash_there args H v H' :=
  fn_called mixed (cmpok false) Try.func74 (by kernel_rfl) ok_flash_Flash_there (by kernel_rfl) h


def ic_flash_Flash_Tear : IC :=
  q 8 (.mv (.c (.nilIface))) <|
  .keep [0, 1, 2, 3] <|
  q 9 (.mv (.t 0)) <|
  q 10 (.mv (.t 1)) <|
  q 11 (.mv (.t 2)) <|
  q 12 (.len false (.t 11)) <|
  q 13 (.call F.flash_Flash_there [(.t 9), (.t 10), (.t 12)]) <|
  q 14 (.un .not (.t 13)) <|
  q 15 (.mv (.t 14)) <|
  qg 16 15 false (.mv (.t 3)) <|
  qg 17 15 false (.bin .lss (.t 16) (ci 0)) <|
  q 18 (.pick (.t 15) (cb true) (.t 17)) <|
  q 19 (.mv (.t 18)) <|
  qg 20 19 false (.mv (.t 3)) <|
  qg 21 19 false (.mv (.t 2)) <|
  qg 22 19 false (.len false (.t 21)) <|
  qg 23 19 false (.bin .gtr (.t 20) (.t 22)) <|
  q 24 (.pick (.t 19) (cb true) (.t 23)) <|
  .keep [0, 1, 2, 3, 24] <|
  .ite (.t 24)
    (q 25 (.mkif T.api_Code (ci 1)) <|
    q 8 (.mv (.t 25)) <|
    .keep [8] <|
    .ret)
    (.done) <|
  q 26 (.mv (.t 0)) <|
  q 27 (.nilchk (.t 26)) <|
  q 28 (.fld 0 (.t 27)) <|
  q 29 (.load false 1 (.t 28)) <|
  q 30 (.mv (.t 1)) <|
  q 31 (.slice 1 none (.t 29) (some (.t 30)) none none) <|
  q 32 (.mv (.t 2)) <|
  q 33 (.mv (.t 3)) <|
  q 34 (.slice 1 none (.t 32) none (some (.t 33)) none) <|
  q 35 (.copy 1 (.t 31) (.t 34)) <|
  .keep [] <|
  q 8 (.mv (.c (.nilIface))) <|
  .keep [8] <|
  .ret
theorem ok_flash_Flash_Tear : compF Try.prog (pfx false) (fun d => [].contains d) Try.f61 = some ic_flash_Flash_Tear := by kernel_rfl
theorem e_flash_Flash_Tear {args : List AV} {H : AH} {v : AV} {H' : AH} (h : iwp (pfx false) (Called Try.prog) ic_flash_Flash_Tear (retQ [.t 8] H v H') (look (enterL 0 args)) H) : Called Try.prog F.flash_Flash_Tear args H v H' :=
  fn_called mixed (cmpok false) Try.func61 (by kernel_rfl) ok_flash_Flash_Tear (by kernel_rfl) h


def ic_flash_Flash_Write : IC :=
  q 6 (.mv (.c (.nilIface))) <|
  .keep [0, 1, 2] <|
  q 7 (.mv (.t 0)) <|
  q 8 (.mv (.t 1)) <|
  q 9 (.mv (.t 2)) <|
  q 10 (.mv (.t 2)) <|
  q 11 (.len false (.t 10)) <|
  q 12 (.call F.flash_Flash_Tear [(.t 7), (.t 8), (.t 9), (.t 11)]) <|
  q 6 (.mv (.t 12)) <|
  .keep [6] <|
  .ret
theorem ok_flash_Flash_Write : compF Try.prog (pfx false) (fun d => [].contains d) Try.f60 = some ic_flash_Flash_Write := by kernel_rfl
theorem e_flash_Flash_Write {args : List AV} {H : AH} {v : AV} {H' : AH} (h : iwp (pfx false) (Called Try.prog) ic_flash_Flash_Write (retQ [.t 6] H v H') (look (enterL 0 args)) H) : Called Try.prog F.flash_Flash_Write args H v H' :=
  fn_called mixed (cmpok false) Try.func60 (by kernel_rfl) ok_flash_Flash_Write (by kernel_rfl) h


def ic_journal_number : IC :=
  q 2 (.mv (.c (.slice none 0 0))) <|
  .keep [0] <|
  q 3 (.mv (.c (.slice none 0 0))) <|
  .keep [0, 3] <|
  q 4 (.mv (ci 7)) <|
  .keep [0, 3, 4] <|
  .block 0
    (.keep [0, 3, 4] <|
    .loop
      (q 5 (.mv (.t 4)) <|
      q 6 (.bin .geq (.t 5) (ci 0)) <|
      .keep [0, 3, 4, 6] <|
      .ite (.t 6)
        (.done)
        (.exit 0) <|
      .block 1
        (q 9 (.mv (.t 3)) <|
        q 10 (.mv (.t 0)) <|
        q 11 (.mv (.t 4)) <|
        q 12 (.bin .mul (ci 8) (.t 11)) <|
        q 13 (.bin .shr (.t 10) (.t 12)) <|
        q 14 (.conv .u8 (.t 13)) <|
        q 15 (.bslice false 1 1 [.int .u8 0] [(0, 1, (.t 14))]) <|
        q 16 (.append 1 1 (.t 9) (.t 15)) <|
        q 3 (.mv (.t 16)) <|
        .keep [0, 3, 4] <|
        .done) <|
      q 7 (.mv (.t 4)) <|
      q 8 (.bin .sub (.t 7) (ci 1)) <|
      q 4 (.mv (.t 8)) <|
      .keep [0, 3, 4] <|
      .keep [0, 3, 4] <|
      .done)) <|
  q 17 (.mv (.t 3)) <|
  q 2 (.mv (.t 17)) <|
  .keep [2] <|
  .ret
theorem ok_journal_number : compF Try.prog (pfx false) (fun d => [].contains d) Try.f72 = some ic_journal_number := by kernel_rfl
theorem e_journal_number {args : List AV} {H : AH} {v : AV} {H' : AH} (h : iwp (pfx false) (Called Try.prog) ic_journal_number (retQ [.t 2] H v H') (look (enterL 0 args)) H) : Called Try.prog F.journal_number args H v H' :=
  fn_called mixed (cmpok false) Try.func72 (by kernel_rfl) ok_journal_number (by kernel_rfl) h


def ic_journal_of : IC :=
  q 2 (.mv (ci 0)) <|
  .keep [0] <|
  q 3 (.mv (.c (.int .u64 0))) <|
  .keep [0, 3] <|
  q 6 (.mv (.t 0)) <|
  q 7 (.len false (.t 6)) <|
  q 8 (.mv (ci 0)) <|
  .keep [3, 6, 7, 8] <|
  .block 0
    (.keep [3, 6, 7, 8] <|
    .loop
      (q 9 (.bin .lss (.t 8) (.t 7)) <|
      .keep [3, 6, 7, 8, 9] <|
      .ite (.t 9)
        (.done)
        (.exit 0) <|
      .block 1
        (q 10 (.idxa 1 none (.t 6) (.t 8)) <|
        q 11 (.load false 1 (.t 10)) <|
        q 5 (.mv (.t 11)) <|
        .keep [3, 5, 6, 7, 8] <|
        q 12 (.mv (.t 3)) <|
        q 13 (.bin .shl (.t 12) (.c (.int .u64 8))) <|
        q 14 (.mv (.t 5)) <|
        q 15 (.conv .u64 (.t 14)) <|
        q 16 (.bin .or (.t 13) (.t 15)) <|
        q 3 (.mv (.t 16)) <|
        .keep [3, 6, 7, 8] <|
        .done) <|
      q 17 (.bin .add (.t 8) (ci 1)) <|
      q 8 (.mv (.t 17)) <|
      .keep [3, 6, 7, 8] <|
      .keep [3, 6, 7, 8] <|
      .done)) <|
  q 18 (.mv (.t 3)) <|
  q 19 (.bin .geq (.t 18) (.c (.int .u64 4611686018427387904))) <|
  .keep [3, 19] <|
  .ite (.t 19)
    (q 2 (.mv (ci (-1))) <|
    .keep [2] <|
    .ret)
    (.done) <|
  q 20 (.mv (.t 3)) <|
  q 21 (.conv .i64 (.t 20)) <|
  q 2 (.mv (.t 21)) <|
  .keep [2] <|
  .ret
theorem ok_journal_of : compF Try.prog (pfx false) (fun d => [].contains d) Try.f71 = some ic_journal_of := by kernel_rfl
theorem e_journal_of {args : List AV} {H : AH} {v : AV} {H' : AH} (h : iwp (pfx false) (Called Try.prog) ic_journal_of (retQ [.t 2] H v H') (look (enterL 0 args)) H) : Called Try.prog F.journal_of args H v H' :=
  fn_called mixed (cmpok false) Try.func71 (by kernel_rfl) ok_journal_of (by kernel_rfl) h


def ic_journal_read : IC :=
  q 4 (.alloc [.int .i64 0, .int .i64 0]) <|
  .keep [0, 1, 4] <|
  .reg 1
    [xe 6 (.mv (.t 0)) [],
     xe 7 (.slice 1 none (.t 6) none (some (ci 8)) none) [],
     xe 8 (.call F.journal_of [(.t 7)]) [],
     xe 9 (.mv (.t 0)) [],
     xe 10 (.slice 1 none (.t 9) (some (ci 8)) (some (ci 16)) none) [],
     xe 11 (.call F.journal_of [(.t 10)]) [],
     xe 12 (.build [.int .i64 0, .int .i64 0] [(0, 1, (.t 8)), (1, 1, (.t 11))]) [],
     xa 0 5 (.alloc [.int .i64 0, .int .i64 0]),
     xln (.store 2 (.t 5) (.t 12)) []] <|
  .keep [0, 1, 4, 5] <|
  q 13 (.fld 0 (.t 5)) <|
  q 14 (.load false 1 (.t 13)) <|
  q 15 (.bin .lss (.t 14) (ci 1)) <|
  q 16 (.mv (.t 15)) <|
  qg 17 16 false (.fld 0 (.t 5)) <|
  qg 18 16 false (.load false 1 (.t 17)) <|
  qg 19 16 false (.mv (.t 0)) <|
  qg 20 16 false (.slice 1 none (.t 19) (some (ci 16)) none none) <|
  qg 21 16 false (.call F.journal_of [(.t 20)]) <|
  qg 22 16 false (.bin .neq (.t 18) (.t 21)) <|
  q 23 (.pick (.t 16) (cb true) (.t 22)) <|
  q 24 (.mv (.t 23)) <|
  qg 25 24 false (.fld 1 (.t 5)) <|
  qg 26 24 false (.load false 1 (.t 25)) <|
  qg 27 24 false (.bin .lss (.t 26) (ci 0)) <|
  q 28 (.pick (.t 24) (cb true) (.t 27)) <|
  q 29 (.mv (.t 28)) <|
  qg 30 29 false (.fld 1 (.t 5)) <|
  qg 31 29 false (.load false 1 (.t 30)) <|
  qg 32 29 false (.mv (.t 1)) <|
  qg 33 29 false (.bin .gtr (.t 31) (.t 32)) <|
  q 34 (.pick (.t 29) (cb true) (.t 33)) <|
  .keep [4, 5, 34] <|
  .ite (.t 34)
    (q 35 (.build [.int .i64 0, .int .i64 0] []) <|
    qn (.store 2 (.t 4) (.t 35)) <|
    .keep [4] <|
    .ret)
    (.done) <|
  q 36 (.load true 2 (.t 5)) <|
  qn (.store 2 (.t 4) (.t 36)) <|
  .keep [4] <|
  .ret
theorem ok_journal_read : compF Try.prog (pfx false) (fun d => [].contains d) Try.f57 = some ic_journal_read := by kernel_rfl
theorem e_journal_read {args : List AV} {H : AH} {v : AV} {H' : AH} (h : iwp (pfx false) (Called Try.prog) ic_journal_read (retQ [.c 4 true 2] H v H') (look (enterL 0 args)) H) : Called Try.prog F.journal_read args H v H' :=
  fn_called mixed (cmpok false) Try.func57 (by kernel_rfl) ok_journal_read (by kernel_rfl) h


def ic_journal_first : IC :=
  q 2 (.mv (.c (.slice none 0 0))) <|
  .keep [0] <|
  q 4 (.mv (.t 0)) <|
  q 5 (.len false (.t 4)) <|
  q 6 (.bin .lss (.t 5) (ci 2)) <|
  .keep [0, 6] <|
  .ite (.t 6)
    (q 2 (.mv (.c (.slice none 0 0))) <|
    .keep [2] <|
    .ret)
    (.done) <|
  q 7 (.mv (.t 0)) <|
  q 8 (.idxa 1 none (.t 7) (ci 0)) <|
  q 9 (.load false 1 (.t 8)) <|
  q 10 (.conv .i64 (.t 9)) <|
  q 11 (.bin .shl (.t 10) (.c (.int .u64 8))) <|
  q 12 (.mv (.t 0)) <|
  q 13 (.idxa 1 none (.t 12) (ci 1)) <|
  q 14 (.load false 1 (.t 13)) <|
  q 15 (.conv .i64 (.t 14)) <|
  q 16 (.bin .add (.t 11) (.t 15)) <|
  q 3 (.mv (.t 16)) <|
  .keep [0, 3] <|
  q 17 (.mv (.t 3)) <|
  q 18 (.bin .gtr (.t 17) (ci 2000)) <|
  q 19 (.mv (.t 18)) <|
  qg 20 19 false (.mv (.t 3)) <|
  qg 21 19 false (.mv (.t 0)) <|
  qg 22 19 false (.len false (.t 21)) <|
  qg 23 19 false (.bin .sub (.t 22) (ci 2)) <|
  qg 24 19 false (.bin .gtr (.t 20) (.t 23)) <|
  q 25 (.pick (.t 19) (cb true) (.t 24)) <|
  .keep [0, 3, 25] <|
  .ite (.t 25)
    (q 2 (.mv (.c (.slice none 0 0))) <|
    .keep [2] <|
    .ret)
    (.done) <|
  q 26 (.mv (.t 0)) <|
  q 27 (.mv (.t 3)) <|
  q 28 (.bin .add (ci 2) (.t 27)) <|
  q 29 (.slice 1 none (.t 26) (some (ci 2)) (some (.t 28)) none) <|
  q 2 (.mv (.t 29)) <|
  .keep [2] <|
  .ret
theorem ok_journal_first : compF Try.prog (pfx false) (fun d => [].contains d) Try.f58 = some ic_journal_first := by kernel_rfl
theorem e_journal_first {args : List AV} {H : AH} {v : AV} {H' : AH} (h : iwp (pfx false) (Called Try.prog) ic_journal_first (retQ [.t 2] H v H') (look (enterL 0 args)) H) : Called Try.prog F.journal_first args H v H' :=
  fn_called mixed (cmpok false) Try.func58 (by kernel_rfl) ok_journal_first (by kernel_rfl) h


def ic_journal_Open : IC :=
  q 2 (.mv (.c (.pointer none))) <|
  q 3 (.mv (.c (.nilIface))) <|
  .keep [0] <|
  q 10 (.mv (.t 0)) <|
  q 11 (.eq false .p (.t 10) (.c (.pointer none))) <|
  q 12 (.mv (.t 11)) <|
  qg 13 12 false (.mv (.t 0)) <|
  qg 14 12 false (.call F.flash_Flash_Size [(.t 13)]) <|
  qg 15 12 false (.bin .lss (.t 14) (ci 64)) <|
  q 16 (.pick (.t 12) (cb true) (.t 15)) <|
  .keep [0, 16] <|
  .ite (.t 16)
    (q 17 (.mkif T.api_Code (ci 1)) <|
    q 2 (.mv (.c (.pointer none))) <|
    q 3 (.mv (.t 17)) <|
    .keep [2, 3] <|
    .ret)
    (.done) <|
  q 18 (.mv (.t 0)) <|
  q 19 (.call F.flash_Flash_Bytes [(.t 18)]) <|
  q 4 (.mv (.t 19)) <|
  .keep [0, 4] <|
  .reg 2
    [xe 20 (.mv (.t 4)) [],
     xe 21 (.slice 1 none (.t 20) none (some (ci 24)) none) [],
     xe 22 (.mv (.t 4)) [],
     xe 23 (.len false (.t 22)) [],
     xe 24 (.bin .sub (.t 23) (ci 48)) [],
     xe 25 (.call F.journal_read [(.t 21), (.t 24)]) [],
     xe 26 (.mv (.t 4)) [],
     xe 27 (.slice 1 none (.t 26) (some (ci 24)) (some (ci 48)) none) [],
     xe 28 (.mv (.t 4)) [],
     xe 29 (.len false (.t 28)) [],
     xe 30 (.bin .sub (.t 29) (ci 48)) [],
     xe 31 (.call F.journal_read [(.t 27), (.t 30)]) [],
     xa 0 5 (.alloc [.int .i64 0, .int .i64 0]),
     xa 1 6 (.alloc [.int .i64 0, .int .i64 0]),
     xln (.store 2 (.t 5) (.t 25)) [],
     xln (.store 2 (.t 6) (.t 31)) []] <|
  .keep [0, 4, 5, 6] <|
  q 32 (.fld 0 (.t 6)) <|
  q 33 (.load false 1 (.t 32)) <|
  q 34 (.fld 0 (.t 5)) <|
  q 35 (.load false 1 (.t 34)) <|
  q 36 (.bin .gtr (.t 33) (.t 35)) <|
  .keep [0, 4, 5, 6, 36] <|
  .ite (.t 36)
    (q 37 (.load true 2 (.t 6)) <|
    qn (.store 2 (.t 5) (.t 37)) <|
    .keep [0, 4, 5] <|
    .done)
    (.done) <|
  q 38 (.mv (.t 0)) <|
  q 39 (.fld 0 (.t 5)) <|
  q 40 (.load false 1 (.t 39)) <|
  q 41 (.build [.pointer none, .int .i64 0, .int .i64 0, .slice none 0 0, .bool false] [(0, 1, (.t 38)), (1, 1, (.t 40))]) <|
  q 42 (.box (.t 41)) <|
  q 7 (.mv (.t 42)) <|
  .keep [4, 5, 7] <|
  q 43 (.mv (.t 4)) <|
  q 44 (.fld 1 (.t 5)) <|
  q 45 (.load false 1 (.t 44)) <|
  q 46 (.bin .add (ci 48) (.t 45)) <|
  q 47 (.slice 1 none (.t 43) (some (ci 48)) (some (.t 46)) none) <|
  q 8 (.mv (.t 47)) <|
  .keep [7, 8] <|
  q 48 (.mv (.t 8)) <|
  q 49 (.call F.journal_first [(.t 48)]) <|
  q 9 (.mv (.t 49)) <|
  .keep [7, 8, 9] <|
  .block 0
    (.keep [7, 8, 9] <|
    .loop
      (q 50 (.mv (.t 9)) <|
      q 51 (.len false (.t 50)) <|
      q 52 (.bin .gtr (.t 51) (ci 0)) <|
      .keep [7, 8, 9, 52] <|
      .ite (.t 52)
        (.done)
        (.exit 0) <|
      .block 1
        (q 55 (.mv (.t 7)) <|
        q 56 (.mv (.t 7)) <|
        q 57 (.nilchk (.t 56)) <|
        q 58 (.fld 3 (.t 57)) <|
        q 59 (.load false 1 (.t 58)) <|
        q 60 (.mv (.t 9)) <|
        q 61 (.call F.slices_Clone_byte_byte [(.t 60)]) <|
        q 62 (.bslice false 1 1 [.slice none 0 0] [(0, 1, (.t 61))]) <|
        q 63 (.append 1 24 (.t 59) (.t 62)) <|
        q 64 (.nilchk (.t 55)) <|
        q 65 (.fld 3 (.t 64)) <|
        qn (.store 1 (.t 65) (.t 63)) <|
        .keep [7, 8, 9] <|
        q 66 (.mv (.t 7)) <|
        q 67 (.nilchk (.t 66)) <|
        q 68 (.fld 2 (.t 67)) <|
        q 69 (.load false 1 (.t 68)) <|
        q 70 (.mv (.t 9)) <|
        q 71 (.len false (.t 70)) <|
        q 72 (.bin .add (ci 2) (.t 71)) <|
        q 73 (.bin .add (.t 69) (.t 72)) <|
        q 74 (.nilchk (.t 66)) <|
        q 75 (.fld 2 (.t 74)) <|
        qn (.store 1 (.t 75) (.t 73)) <|
        .keep [7, 8, 9] <|
        q 76 (.mv (.t 8)) <|
        q 77 (.mv (.t 9)) <|
        q 78 (.len false (.t 77)) <|
        q 79 (.bin .add (ci 2) (.t 78)) <|
        q 80 (.slice 1 none (.t 76) (some (.t 79)) none none) <|
        q 8 (.mv (.t 80)) <|
        .keep [7, 8] <|
        .done) <|
      q 53 (.mv (.t 8)) <|
      q 54 (.call F.journal_first [(.t 53)]) <|
      q 9 (.mv (.t 54)) <|
      .keep [7, 8, 9] <|
      .keep [7, 8, 9] <|
      .done)) <|
  q 81 (.mv (.t 7)) <|
  q 2 (.mv (.t 81)) <|
  q 3 (.mv (.c (.nilIface))) <|
  .keep [2, 3] <|
  .ret
theorem ok_journal_Open : compF Try.prog (pfx false) (fun d => [].contains d) Try.f30 = some ic_journal_Open := by kernel_rfl
theorem e_journal_Open {args : List AV} {H : AH} {v : AV} {H' : AH} (h : iwp (pfx false) (Called Try.prog) ic_journal_Open (retQ [.t 2, .t 3] H v H') (look (enterL 0 args)) H) : Called Try.prog F.journal_Open args H v H' :=
  fn_called mixed (cmpok false) Try.func30 (by kernel_rfl) ok_journal_Open (by kernel_rfl) h


def ic_journal_Journal_writes : IC :=
  q 4 (.alloc [.int .i64 0, .slice none 0 0, .int .i64 0, .slice none 0 0]) <|
  q 5 (.mv (.c (.nilIface))) <|
  .keep [0, 1, 4] <|
  q 10 (.mv (.t 1)) <|
  q 11 (.len false (.t 10)) <|
  q 6 (.mv (.t 11)) <|
  .keep [0, 1, 4, 6] <|
  .block 0
    (q 13 (.mv (.t 0)) <|
    q 14 (.nilchk (.t 13)) <|
    q 15 (.fld 4 (.t 14)) <|
    q 16 (.load false 1 (.t 15)) <|
    q 12 (.mv (.t 16)) <|
    .keep [0, 1, 4, 6, 12] <|
    .ite (.t 12)
      (q 17 (.build [.int .i64 0, .slice none 0 0, .int .i64 0, .slice none 0 0] []) <|
      q 18 (.mkif T.api_Code (ci 7)) <|
      qn (.store 4 (.t 4) (.t 17)) <|
      q 5 (.mv (.t 18)) <|
      .keep [4, 5] <|
      .ret)
      (q 20 (.mv (.t 6)) <|
      q 21 (.bin .lss (.t 20) (ci 1)) <|
      q 22 (.mv (.t 21)) <|
      qg 23 22 false (.mv (.t 6)) <|
      qg 24 22 false (.bin .gtr (.t 23) (ci 2000)) <|
      q 25 (.pick (.t 22) (cb true) (.t 24)) <|
      q 19 (.mv (.t 25)) <|
      .keep [0, 1, 4, 6, 19] <|
      .ite (.t 19)
        (q 26 (.build [.int .i64 0, .slice none 0 0, .int .i64 0, .slice none 0 0] []) <|
        q 27 (.mkif T.api_Code (ci 1)) <|
        qn (.store 4 (.t 4) (.t 26)) <|
        q 5 (.mv (.t 27)) <|
        .keep [4, 5] <|
        .ret)
        (q 29 (.mv (.t 6)) <|
        q 30 (.mv (.t 0)) <|
        q 31 (.call F.journal_Journal_Free [(.t 30)]) <|
        q 32 (.bin .gtr (.t 29) (.t 31)) <|
        q 28 (.mv (.t 32)) <|
        .keep [0, 1, 4, 6, 28] <|
        .ite (.t 28)
          (q 33 (.build [.int .i64 0, .slice none 0 0, .int .i64 0, .slice none 0 0] []) <|
          q 34 (.mkif T.api_Code (ci 6)) <|
          qn (.store 4 (.t 4) (.t 33)) <|
          q 5 (.mv (.t 34)) <|
          .keep [4, 5] <|
          .ret)
          (.done) <|
        .done) <|
      .done) <|
    .done) <|
  q 35 (.mv (.t 0)) <|
  q 36 (.nilchk (.t 35)) <|
  q 37 (.fld 1 (.t 36)) <|
  q 38 (.load false 1 (.t 37)) <|
  q 39 (.bin .add (.t 38) (ci 1)) <|
  q 40 (.call F.journal_number [(.t 39)]) <|
  q 7 (.mv (.t 40)) <|
  .keep [0, 1, 4, 6, 7] <|
  .reg 1
    [xe 41 (.mv (.t 0)) [],
     xe 42 (.nilchk (.t 41)) [],
     xe 43 (.fld 2 (.t 42)) [],
     xe 44 (.load false 1 (.t 43)) [],
     xe 45 (.bin .add (ci 48) (.t 44)) [],
     xe 46 (.mv (.t 6)) [],
     xe 47 (.bin .shr (.t 46) (.c (.int .u64 8))) [],
     xe 48 (.conv .u8 (.t 47)) [],
     xe 49 (.mv (.t 6)) [],
     xe 50 (.conv .u8 (.t 49)) [],
     xe 51 (.bslice false 1 2 [.int .u8 0] [(0, 1, (.t 48)), (1, 1, (.t 50))]) [],
     xe 52 (.mv (.t 1)) [],
     xe 53 (.appv 1 1 (.t 51) (.t 52)) [],
     xe 54 (.build [.int .i64 0, .slice none 0 0] [(0, 1, (.t 45)), (1, 1, (.t 53))]) [],
     xa 0 8 (.alloc [.int .i64 0, .slice none 0 0]),
     xln (.store 2 (.t 8) (.t 54)) []] <|
  .keep [0, 4, 6, 7, 8] <|
  .reg 1
    [xe 55 (.mv (.t 0)) [],
     xe 56 (.nilchk (.t 55)) [],
     xe 57 (.fld 1 (.t 56)) [],
     xe 58 (.load false 1 (.t 57)) [],
     xe 59 (.bin .add (.t 58) (ci 1)) [],
     xe 60 (.bin .rem (.t 59) (ci 2)) [],
     xe 61 (.bin .mul (.t 60) (ci 24)) [],
     xe 62 (.mv (.t 7)) [],
     xe 63 (.mv (.t 0)) [],
     xe 64 (.nilchk (.t 63)) [],
     xe 65 (.fld 2 (.t 64)) [],
     xe 66 (.load false 1 (.t 65)) [],
     xe 67 (.bin .add (.t 66) (ci 2)) [],
     xe 68 (.mv (.t 6)) [],
     xe 69 (.bin .add (.t 67) (.t 68)) [],
     xe 70 (.call F.journal_number [(.t 69)]) [],
     xe 71 (.mv (.t 7)) [],
     xe 72 (.bslice false 1 3 [.slice none 0 0] [(0, 1, (.t 62)), (1, 1, (.t 70)), (2, 1, (.t 71))]) [],
     xe 73 (.call F.slices_Concat_byte_byte [(.t 72)]) [],
     xe 74 (.build [.int .i64 0, .slice none 0 0] [(0, 1, (.t 61)), (1, 1, (.t 73))]) [],
     xa 0 9 (.alloc [.int .i64 0, .slice none 0 0]),
     xln (.store 2 (.t 9) (.t 74)) []] <|
  .keep [4, 8, 9] <|
  q 75 (.load true 2 (.t 8)) <|
  q 76 (.load true 2 (.t 9)) <|
  q 77 (.build [.int .i64 0, .slice none 0 0, .int .i64 0, .slice none 0 0] [(0, 2, (.t 75)), (2, 2, (.t 76))]) <|
  qn (.store 4 (.t 4) (.t 77)) <|
  q 5 (.mv (.c (.nilIface))) <|
  .keep [4, 5] <|
  .ret
theorem ok_journal_Journal_writes : compF Try.prog (pfx false) (fun d => [53].contains d) Try.f59 = some ic_journal_Journal_writes := by kernel_rfl
theorem e_journal_Journal_writes {args : List AV} {H : AH} {v : AV} {H' : AH} (h : iwp (pfx false) (Called Try.prog) ic_journal_Journal_writes (retQ [.c 4 true 4, .t 5] H v H') (look (enterL 0 args)) H) : Called Try.prog F.journal_Journal_writes args H v H' :=
  fn_called mixed (cmpok false) Try.func59 (by kernel_rfl) ok_journal_Journal_writes (by kernel_rfl) h


def ic_journal_Journal_Free : IC :=
  q 2 (.mv (ci 0)) <|
  .keep [0] <|
  q 3 (.mv (.t 0)) <|
  q 4 (.nilchk (.t 3)) <|
  q 5 (.fld 4 (.t 4)) <|
  q 6 (.load false 1 (.t 5)) <|
  .keep [0, 6] <|
  .ite (.t 6)
    (q 2 (.mv (ci 0)) <|
    .keep [2] <|
    .ret)
    (.done) <|
  q 7 (.mv (.t 0)) <|
  q 8 (.nilchk (.t 7)) <|
  q 9 (.fld 0 (.t 8)) <|
  q 10 (.load false 1 (.t 9)) <|
  q 11 (.call F.flash_Flash_Size [(.t 10)]) <|
  q 12 (.bin .sub (.t 11) (ci 48)) <|
  q 13 (.mv (.t 0)) <|
  q 14 (.nilchk (.t 13)) <|
  q 15 (.fld 2 (.t 14)) <|
  q 16 (.load false 1 (.t 15)) <|
  q 17 (.bin .sub (.t 12) (.t 16)) <|
  q 18 (.bin .sub (.t 17) (ci 2)) <|
  q 19 (.mn (ci 2000) (.t 18)) <|
  q 20 (.mx (ci 0) (.t 19)) <|
  q 2 (.mv (.t 20)) <|
  .keep [2] <|
  .ret
theorem ok_journal_Journal_Free : compF Try.prog (pfx false) (fun d => [].contains d) Try.f54 = some ic_journal_Journal_Free := by kernel_rfl
theorem e_journal_Journal_Free {args : List AV} {H : AH} {v : AV} {H' : AH} (h : iwp (pfx false) (Called Try.prog) ic_journal_Journal_Free (retQ [.t 2] H v H') (look (enterL 0 args)) H) : Called Try.prog F.journal_Journal_Free args H v H' :=
  fn_called mixed (cmpok false) Try.func54 (by kernel_rfl) ok_journal_Journal_Free (by kernel_rfl) h


def ic_journal_Journal_Append : IC :=
  q 4 (.mv (.c (.nilIface))) <|
  .keep [0, 1] <|
  q 11 (.mv (.t 0)) <|
  q 12 (.mv (.t 1)) <|
  q 13 (.call F.journal_Journal_writes [(.t 11), (.t 12)]) <|
  q 10 (.mv (.t 13)) <|
  q 14 (.ext (.t 10) 0) <|
  q 15 (.ext (.t 10) 1) <|
  q 5 (.alloc [.int .i64 0, .slice none 0 0, .int .i64 0, .slice none 0 0]) <|
  qn (.store 4 (.t 5) (.t 14)) <|
  q 6 (.mv (.t 15)) <|
  .keep [0, 1, 5, 6] <|
  q 16 (.mv (.t 6)) <|
  q 17 (.eq true .i (.t 16) (.c (.nilIface))) <|
  .keep [0, 1, 5, 6, 17] <|
  .ite (.t 17)
    (q 18 (.mv (.t 6)) <|
    q 4 (.mv (.t 18)) <|
    .keep [4] <|
    .ret)
    (.done) <|
  q 19 (.load true 4 (.t 5)) <|
  q 20 (.mv (ci 0)) <|
  .keep [0, 1, 19, 20] <|
  .block 0
    (.keep [0, 1, 19, 20] <|
    .loop
      (q 21 (.bin .lss (.t 20) (ci 2)) <|
      .keep [0, 1, 19, 20, 21] <|
      .ite (.t 21)
        (.done)
        (.exit 0) <|
      .block 1
        (q 22 (.idx true 2 2 (.t 19) (.t 20)) <|
        q 8 (.alloc [.int .i64 0, .slice none 0 0]) <|
        qn (.store 2 (.t 8) (.t 22)) <|
        .keep [0, 1, 8, 19, 20] <|
        q 23 (.mv (.t 0)) <|
        q 24 (.nilchk (.t 23)) <|
        q 25 (.fld 0 (.t 24)) <|
        q 26 (.load false 1 (.t 25)) <|
        q 27 (.fld 0 (.t 8)) <|
        q 28 (.load false 1 (.t 27)) <|
        q 29 (.fld 1 (.t 8)) <|
        q 30 (.load false 1 (.t 29)) <|
        q 31 (.call F.flash_Flash_Write [(.t 26), (.t 28), (.t 30)]) <|
        q 9 (.mv (.t 31)) <|
        .keep [0, 1, 9, 19, 20] <|
        q 32 (.mv (.t 9)) <|
        q 33 (.eq true .i (.t 32) (.c (.nilIface))) <|
        .keep [0, 1, 9, 19, 20, 33] <|
        .ite (.t 33)
          (q 34 (.mv (.t 9)) <|
          q 4 (.mv (.t 34)) <|
          .keep [4] <|
          .ret)
          (.done) <|
        .done) <|
      q 35 (.bin .add (.t 20) (ci 1)) <|
      q 20 (.mv (.t 35)) <|
      .keep [0, 1, 19, 20] <|
      .keep [0, 1, 19, 20] <|
      .done)) <|
  q 36 (.mv (.t 0)) <|
  q 37 (.nilchk (.t 36)) <|
  q 38 (.fld 1 (.t 37)) <|
  q 39 (.load false 1 (.t 38)) <|
  q 40 (.bin .add (.t 39) (ci 1)) <|
  q 41 (.nilchk (.t 36)) <|
  q 42 (.fld 1 (.t 41)) <|
  qn (.store 1 (.t 42) (.t 40)) <|
  .keep [0, 1] <|
  q 43 (.mv (.t 0)) <|
  q 44 (.nilchk (.t 43)) <|
  q 45 (.fld 2 (.t 44)) <|
  q 46 (.load false 1 (.t 45)) <|
  q 47 (.mv (.t 1)) <|
  q 48 (.len false (.t 47)) <|
  q 49 (.bin .add (ci 2) (.t 48)) <|
  q 50 (.bin .add (.t 46) (.t 49)) <|
  q 51 (.nilchk (.t 43)) <|
  q 52 (.fld 2 (.t 51)) <|
  qn (.store 1 (.t 52) (.t 50)) <|
  .keep [0, 1] <|
  q 53 (.mv (.t 0)) <|
  q 54 (.mv (.t 0)) <|
  q 55 (.nilchk (.t 54)) <|
  q 56 (.fld 3 (.t 55)) <|
  q 57 (.load false 1 (.t 56)) <|
  q 58 (.mv (.t 1)) <|
  q 59 (.call F.slices_Clone_byte_byte [(.t 58)]) <|
  q 60 (.bslice false 1 1 [.slice none 0 0] [(0, 1, (.t 59))]) <|
  q 61 (.append 1 24 (.t 57) (.t 60)) <|
  q 62 (.nilchk (.t 53)) <|
  q 63 (.fld 3 (.t 62)) <|
  qn (.store 1 (.t 63) (.t 61)) <|
  .keep [] <|
  q 4 (.mv (.c (.nilIface))) <|
  .keep [4] <|
  .ret
theorem ok_journal_Journal_Append : compF Try.prog (pfx false) (fun d => [].contains d) Try.f31 = some ic_journal_Journal_Append := by kernel_rfl
theorem e_journal_Journal_Append {args : List AV} {H : AH} {v : AV} {H' : AH} (h : iwp (pfx false) (Called Try.prog) ic_journal_Journal_Append (retQ [.t 4] H v H') (look (enterL 0 args)) H) : Called Try.prog F.journal_Journal_Append args H v H' :=
  fn_called mixed (cmpok false) Try.func31 (by kernel_rfl) ok_journal_Journal_Append (by kernel_rfl) h


def ic_journal_Journal_Tear : IC :=
  q 8 (.mv (.c (.nilIface))) <|
  .keep [0, 1, 2, 3] <|
  q 15 (.mv (.t 0)) <|
  q 16 (.mv (.t 1)) <|
  q 17 (.call F.journal_Journal_writes [(.t 15), (.t 16)]) <|
  q 14 (.mv (.t 17)) <|
  q 18 (.ext (.t 14) 0) <|
  q 19 (.ext (.t 14) 1) <|
  q 9 (.alloc [.int .i64 0, .slice none 0 0, .int .i64 0, .slice none 0 0]) <|
  qn (.store 4 (.t 9) (.t 18)) <|
  q 10 (.mv (.t 19)) <|
  .keep [0, 2, 3, 9, 10] <|
  .block 0
    (q 21 (.mv (.t 10)) <|
    q 22 (.eq true .i (.t 21) (.c (.nilIface))) <|
    q 20 (.mv (.t 22)) <|
    .keep [0, 2, 3, 9, 10, 20] <|
    .ite (.t 20)
      (q 23 (.mv (.t 10)) <|
      q 8 (.mv (.t 23)) <|
      .keep [8] <|
      .ret)
      (q 25 (.mv (.t 2)) <|
      q 26 (.bin .neq (.t 25) (ci 1)) <|
      q 27 (.mv (.t 26)) <|
      qg 28 27 true (.mv (.t 2)) <|
      qg 29 27 true (.bin .neq (.t 28) (ci 2)) <|
      q 30 (.pick (.t 27) (.t 29) (cb false)) <|
      q 31 (.mv (.t 30)) <|
      qg 32 31 false (.mv (.t 3)) <|
      qg 33 31 false (.bin .lss (.t 32) (ci 0)) <|
      q 34 (.pick (.t 31) (cb true) (.t 33)) <|
      q 35 (.mv (.t 34)) <|
      qg 36 35 false (.mv (.t 3)) <|
      qg 37 35 false (.mv (.t 2)) <|
      qg 38 35 false (.bin .sub (.t 37) (ci 1)) <|
      qg 39 35 false (.idxa 2 (some 2) (.t 9) (.t 38)) <|
      qg 40 35 false (.fld 1 (.t 39)) <|
      qg 41 35 false (.load false 1 (.t 40)) <|
      qg 42 35 false (.len false (.t 41)) <|
      qg 43 35 false (.bin .gtr (.t 36) (.t 42)) <|
      q 44 (.pick (.t 35) (cb true) (.t 43)) <|
      q 24 (.mv (.t 44)) <|
      .keep [0, 2, 3, 9, 24] <|
      .ite (.t 24)
        (q 45 (.mkif T.api_Code (ci 1)) <|
        q 8 (.mv (.t 45)) <|
        .keep [8] <|
        .ret)
        (.done) <|
      .done) <|
    .done) <|
  q 46 (.mv (.t 2)) <|
  q 47 (.bin .sub (.t 46) (ci 1)) <|
  q 48 (.slice 2 (some 2) (.t 9) none (some (.t 47)) none) <|
  q 49 (.len false (.t 48)) <|
  q 50 (.mv (ci 0)) <|
  .keep [0, 2, 3, 9, 48, 49, 50] <|
  .block 1
    (.keep [0, 2, 3, 9, 48, 49, 50] <|
    .loop
      (q 51 (.bin .lss (.t 50) (.t 49)) <|
      .keep [0, 2, 3, 9, 48, 49, 50, 51] <|
      .ite (.t 51)
        (.done)
        (.exit 1) <|
      .block 2
        (q 52 (.idxa 2 none (.t 48) (.t 50)) <|
        q 53 (.load true 2 (.t 52)) <|
        q 12 (.alloc [.int .i64 0, .slice none 0 0]) <|
        qn (.store 2 (.t 12) (.t 53)) <|
        .keep [0, 2, 3, 9, 12, 48, 49, 50] <|
        q 54 (.mv (.t 0)) <|
        q 55 (.nilchk (.t 54)) <|
        q 56 (.fld 0 (.t 55)) <|
        q 57 (.load false 1 (.t 56)) <|
        q 58 (.fld 0 (.t 12)) <|
        q 59 (.load false 1 (.t 58)) <|
        q 60 (.fld 1 (.t 12)) <|
        q 61 (.load false 1 (.t 60)) <|
        q 62 (.call F.flash_Flash_Write [(.t 57), (.t 59), (.t 61)]) <|
        q 13 (.mv (.t 62)) <|
        .keep [0, 2, 3, 9, 13, 48, 49, 50] <|
        q 63 (.mv (.t 13)) <|
        q 64 (.eq true .i (.t 63) (.c (.nilIface))) <|
        .keep [0, 2, 3, 9, 13, 48, 49, 50, 64] <|
        .ite (.t 64)
          (q 65 (.mv (.t 13)) <|
          q 8 (.mv (.t 65)) <|
          .keep [8] <|
          .ret)
          (.done) <|
        .done) <|
      q 66 (.bin .add (.t 50) (ci 1)) <|
      q 50 (.mv (.t 66)) <|
      .keep [0, 2, 3, 9, 48, 49, 50] <|
      .keep [0, 2, 3, 9, 48, 49, 50] <|
      .done)) <|
  q 67 (.mv (.t 0)) <|
  q 68 (.nilchk (.t 67)) <|
  q 69 (.fld 4 (.t 68)) <|
  qn (.store 1 (.t 69) (cb true)) <|
  .keep [0, 2, 3, 9] <|
  q 70 (.mv (.t 0)) <|
  q 71 (.nilchk (.t 70)) <|
  q 72 (.fld 0 (.t 71)) <|
  q 73 (.load false 1 (.t 72)) <|
  q 74 (.mv (.t 2)) <|
  q 75 (.bin .sub (.t 74) (ci 1)) <|
  q 76 (.idxa 2 (some 2) (.t 9) (.t 75)) <|
  q 77 (.fld 0 (.t 76)) <|
  q 78 (.load false 1 (.t 77)) <|
  q 79 (.mv (.t 2)) <|
  q 80 (.bin .sub (.t 79) (ci 1)) <|
  q 81 (.idxa 2 (some 2) (.t 9) (.t 80)) <|
  q 82 (.fld 1 (.t 81)) <|
  q 83 (.load false 1 (.t 82)) <|
  q 84 (.mv (.t 3)) <|
  q 85 (.call F.flash_Flash_Tear [(.t 73), (.t 78), (.t 83), (.t 84)]) <|
  q 8 (.mv (.t 85)) <|
  .keep [8] <|
  .ret
theorem ok_journal_Journal_Tear : compF Try.prog (pfx false) (fun d => [].contains d) Try.f32 = some ic_journal_Journal_Tear := by kernel_rfl
theorem e_journal_Journal_Tear {args : List AV} {H : AH} {v : AV} {H' : AH} (h : iwp (pfx false) (Called Try.prog) ic_journal_Journal_Tear (retQ [.t 8] H v H') (look (enterL 0 args)) H) : Called Try.prog F.journal_Journal_Tear args H v H' :=
  fn_called mixed (cmpok false) Try.func32 (by kernel_rfl) ok_journal_Journal_Tear (by kernel_rfl) h


def ic_journal_Journal_Records : IC :=
  q 2 (.mv (.c (.slice none 0 0))) <|
  .keep [0] <|
  q 3 (.mv (.c (.slice none 0 0))) <|
  .keep [0, 3] <|
  q 6 (.mv (.t 0)) <|
  q 7 (.nilchk (.t 6)) <|
  q 8 (.fld 3 (.t 7)) <|
  q 9 (.load false 1 (.t 8)) <|
  q 10 (.len false (.t 9)) <|
  q 11 (.mv (ci 0)) <|
  .keep [3, 9, 10, 11] <|
  .block 0
    (.keep [3, 9, 10, 11] <|
    .loop
      (q 12 (.bin .lss (.t 11) (.t 10)) <|
      .keep [3, 9, 10, 11, 12] <|
      .ite (.t 12)
        (.done)
        (.exit 0) <|
      .block 1
        (q 13 (.idxa 1 none (.t 9) (.t 11)) <|
        q 14 (.load false 1 (.t 13)) <|
        q 5 (.mv (.t 14)) <|
        .keep [3, 5, 9, 10, 11] <|
        q 15 (.mv (.t 3)) <|
        q 16 (.mv (.t 5)) <|
        q 17 (.call F.slices_Clone_byte_byte [(.t 16)]) <|
        q 18 (.bslice false 1 1 [.slice none 0 0] [(0, 1, (.t 17))]) <|
        q 19 (.append 1 24 (.t 15) (.t 18)) <|
        q 3 (.mv (.t 19)) <|
        .keep [3, 9, 10, 11] <|
        .done) <|
      q 20 (.bin .add (.t 11) (ci 1)) <|
      q 11 (.mv (.t 20)) <|
      .keep [3, 9, 10, 11] <|
      .keep [3, 9, 10, 11] <|
      .done)) <|
  q 21 (.mv (.t 3)) <|
  q 2 (.mv (.t 21)) <|
  .keep [2] <|
  .ret
theorem ok_journal_Journal_Records : compF Try.prog (pfx false) (fun d => [].contains d) Try.f34 = some ic_journal_Journal_Records := by kernel_rfl
theorem e_journal_Journal_Records {args : List AV} {H : AH} {v : AV} {H' : AH} (h : iwp (pfx false) (Called Try.prog) ic_journal_Journal_Records (retQ [.t 2] H v H') (look (enterL 0 args)) H) : Called Try.prog F.journal_Journal_Records args H v H' :=
  fn_called mixed (cmpok false) Try.func34 (by kernel_rfl) ok_journal_Journal_Records (by kernel_rfl) h


def ic_clapperlaw16_up : IC :=
  q 0 (.mv (cb false)) <|
  .keep [] <|
  q 8 (.call F.flash_New [(ci 64)]) <|
  q 7 (.mv (.t 8)) <|
  q 9 (.ext (.t 7) 0) <|
  q 10 (.ext (.t 7) 1) <|
  q 1 (.mv (.t 9)) <|
  q 2 (.mv (.t 10)) <|
  .keep [1, 2] <|
  q 11 (.mv (.t 1)) <|
  q 12 (.eq false .p (.t 11) (.c (.pointer none))) <|
  q 13 (.mv (.t 12)) <|
  qg 14 13 false (.mv (.t 2)) <|
  qg 15 13 false (.eq true .i (.t 14) (.c (.nilIface))) <|
  q 16 (.pick (.t 13) (cb true) (.t 15)) <|
  .keep [1, 16] <|
  .ite (.t 16)
    (q 0 (.mv (cb false)) <|
    .keep [0] <|
    .ret)
    (.done) <|
  q 18 (.mv (.t 1)) <|
  q 19 (.call F.journal_Open [(.t 18)]) <|
  q 17 (.mv (.t 19)) <|
  q 20 (.ext (.t 17) 0) <|
  q 21 (.ext (.t 17) 1) <|
  q 3 (.mv (.t 20)) <|
  q 4 (.mv (.t 21)) <|
  .keep [3, 4] <|
  q 23 (.call F.journal_Open [(.c (.pointer none))]) <|
  q 22 (.mv (.t 23)) <|
  q 24 (.ext (.t 22) 0) <|
  q 25 (.ext (.t 22) 1) <|
  q 5 (.mv (.t 24)) <|
  q 6 (.mv (.t 25)) <|
  .keep [3, 4, 6] <|
  q 26 (.mv (.t 3)) <|
  q 27 (.eq true .p (.t 26) (.c (.pointer none))) <|
  q 28 (.mv (.t 27)) <|
  qg 29 28 true (.mv (.t 4)) <|
  qg 30 28 true (.eq false .i (.t 29) (.c (.nilIface))) <|
  q 31 (.pick (.t 28) (.t 30) (cb false)) <|
  q 32 (.mv (.t 31)) <|
  qg 33 32 true (.mv (.t 6)) <|
  qg 34 32 true (.mkif T.api_Code (ci 1)) <|
  qg 35 32 true (.eq false .i (.t 33) (.t 34)) <|
  q 36 (.pick (.t 32) (.t 35) (cb false)) <|
  q 37 (.mv (.t 36)) <|
  qg 38 37 true (.mv (.t 3)) <|
  qg 39 37 true (.call F.journal_Journal_Free [(.t 38)]) <|
  qg 40 37 true (.bin .eql (.t 39) (ci 14)) <|
  q 41 (.pick (.t 37) (.t 40) (cb false)) <|
  q 42 (.mv (.t 41)) <|
  qg 43 42 true (.mv (.t 3)) <|
  qg 44 42 true (.call F.journal_Journal_Records [(.t 43)]) <|
  qg 45 42 true (.len false (.t 44)) <|
  qg 46 42 true (.bin .eql (.t 45) (ci 0)) <|
  q 47 (.pick (.t 42) (.t 46) (cb false)) <|
  q 0 (.mv (.t 47)) <|
  .keep [0] <|
  .ret
theorem ok_clapperlaw16_up : compF Try.prog (pfx false) (fun d => [].contains d) Try.f28 = some ic_clapperlaw16_up := by kernel_rfl
theorem e_clapperlaw16_up {args : List AV} {H : AH} {v : AV} {H' : AH} (h : iwp (pfx false) (Called Try.prog) ic_clapperlaw16_up (retQ [.t 0] H v H') (look (enterL 0 args)) H) : Called Try.prog F.clapperlaw16_up args H v H' :=
  fn_called mixed (cmpok false) Try.func28 (by kernel_rfl) ok_clapperlaw16_up (by kernel_rfl) h


def ic_clapperlaw16_same : IC :=
  q 4 (.mv (cb false)) <|
  .keep [0, 1] <|
  q 6 (.mv (.t 0)) <|
  q 7 (.len false (.t 6)) <|
  q 8 (.mv (.t 1)) <|
  q 9 (.len false (.t 8)) <|
  q 10 (.bin .neq (.t 7) (.t 9)) <|
  .keep [0, 1, 10] <|
  .ite (.t 10)
    (q 4 (.mv (cb false)) <|
    .keep [4] <|
    .ret)
    (.done) <|
  q 5 (.mv (ci 0)) <|
  .keep [0, 1, 5] <|
  .block 0
    (.keep [0, 1, 5] <|
    .loop
      (q 11 (.mv (.t 5)) <|
      q 12 (.mv (.t 0)) <|
      q 13 (.len false (.t 12)) <|
      q 14 (.bin .lss (.t 11) (.t 13)) <|
      .keep [0, 1, 5, 14] <|
      .ite (.t 14)
        (.done)
        (.exit 0) <|
      .block 1
        (q 17 (.mv (.t 0)) <|
        q 18 (.mv (.t 5)) <|
        q 19 (.idxa 1 none (.t 17) (.t 18)) <|
        q 20 (.load false 1 (.t 19)) <|
        q 21 (.b2s (.t 20)) <|
        q 22 (.mv (.t 1)) <|
        q 23 (.mv (.t 5)) <|
        q 24 (.idxa 1 none (.t 22) (.t 23)) <|
        q 25 (.load false 1 (.t 24)) <|
        q 26 (.bin .neq (.t 21) (.t 25)) <|
        .keep [0, 1, 5, 26] <|
        .ite (.t 26)
          (q 4 (.mv (cb false)) <|
          .keep [4] <|
          .ret)
          (.done) <|
        .done) <|
      q 15 (.mv (.t 5)) <|
      q 16 (.bin .add (.t 15) (ci 1)) <|
      q 5 (.mv (.t 16)) <|
      .keep [0, 1, 5] <|
      .keep [0, 1, 5] <|
      .done)) <|
  q 4 (.mv (cb true)) <|
  .keep [4] <|
  .ret
theorem ok_clapperlaw16_same : compF Try.prog (pfx false) (fun d => [].contains d) Try.f33 = some ic_clapperlaw16_same := by kernel_rfl
theorem e_clapperlaw16_same {args : List AV} {H : AH} {v : AV} {H' : AH} (h : iwp (pfx false) (Called Try.prog) ic_clapperlaw16_same (retQ [.t 4] H v H') (look (enterL 0 args)) H) : Called Try.prog F.clapperlaw16_same args H v H' :=
  fn_called mixed (cmpok false) Try.func33 (by kernel_rfl) ok_clapperlaw16_same (by kernel_rfl) h

def ic_clapperlaw16_JournalKeeps_168 : IC :=
  q 168 (.mv (.t 14)) <|
  q 169 (.call F.journal_Open [(.t 168)]) <|
  q 167 (.mv (.t 169)) <|
  q 170 (.ext (.t 167) 0) <|
  q 171 (.ext (.t 167) 1) <|
  q 25 (.mv (.t 170)) <|
  q 26 (.mv (.t 171)) <|
  .keep [13, 18, 22, 25, 26] <|
  q 172 (.mv (.t 13)) <|
  q 173 (.mv (.t 172)) <|
  qg 174 173 true (.mv (.t 25)) <|
  qg 175 173 true (.eq true .p (.t 174) (.c (.pointer none))) <|
  q 176 (.pick (.t 173) (.t 175) (cb false)) <|
  q 177 (.mv (.t 176)) <|
  qg 178 177 true (.mv (.t 26)) <|
  qg 179 177 true (.eq false .i (.t 178) (.c (.nilIface))) <|
  q 180 (.pick (.t 177) (.t 179) (cb false)) <|
  q 181 (.mv (.t 180)) <|
  qg 182 181 true (.mv (.t 25)) <|
  qg 183 181 true (.call F.journal_Journal_Records [(.t 182)]) <|
  qg 184 181 true (.mv (.t 18)) <|
  qg 185 181 true (.call F.clapperlaw16_same [(.t 183), (.t 184)]) <|
  q 186 (.pick (.t 181) (.t 185) (cb false)) <|
  q 187 (.mv (.t 186)) <|
  qg 188 187 true (.mv (.t 22)) <|
  qg 189 187 true (.call F.journal_Journal_Records [(.t 188)]) <|
  qg 190 187 true (.mv (.t 18)) <|
  qg 191 187 true (.call F.clapperlaw16_same [(.t 189), (.t 190)]) <|
  q 192 (.pick (.t 187) (.t 191) (cb false)) <|
  q 12 (.mv (.t 192)) <|
  .keep [12] <|
  .ret
def ic_clapperlaw16_JournalKeeps_122 : IC :=
  q 122 (.mv (.t 14)) <|
  q 123 (.call F.journal_Open [(.t 122)]) <|
  q 121 (.mv (.t 123)) <|
  q 124 (.ext (.t 121) 0) <|
  q 125 (.ext (.t 121) 1) <|
  q 22 (.mv (.t 124)) <|
  q 23 (.mv (.t 125)) <|
  .keep [5, 13, 14, 18, 22, 23] <|
  q 126 (.mv (.t 22)) <|
  q 127 (.eq false .p (.t 126) (.c (.pointer none))) <|
  q 128 (.mv (.t 127)) <|
  qg 129 128 false (.mv (.t 23)) <|
  qg 130 128 false (.eq true .i (.t 129) (.c (.nilIface))) <|
  q 131 (.pick (.t 128) (cb true) (.t 130)) <|
  q 132 (.mv (.t 131)) <|
  qg 133 132 false (.mv (.t 22)) <|
  qg 134 132 false (.call F.journal_Journal_Records [(.t 133)]) <|
  qg 135 132 false (.mv (.t 18)) <|
  qg 136 132 false (.call F.clapperlaw16_same [(.t 134), (.t 135)]) <|
  qg 137 132 false (.un .not (.t 136)) <|
  q 138 (.pick (.t 132) (cb true) (.t 137)) <|
  .keep [5, 13, 14, 18, 138] <|
  .ite (.t 138)
    (q 12 (.mv (cb false)) <|
    .keep [12] <|
    .ret)
    (.done) <|
  q 140 (.mv (.t 14)) <|
  q 141 (.call F.journal_Open [(.t 140)]) <|
  q 139 (.mv (.t 141)) <|
  q 142 (.ext (.t 139) 0) <|
  q 143 (.ext (.t 139) 1) <|
  q 22 (.mv (.t 142)) <|
  q 23 (.mv (.t 143)) <|
  .keep [5, 13, 14, 18, 22, 23] <|
  q 144 (.mv (.t 22)) <|
  q 145 (.eq false .p (.t 144) (.c (.pointer none))) <|
  q 146 (.mv (.t 145)) <|
  qg 147 146 false (.mv (.t 23)) <|
  qg 148 146 false (.eq true .i (.t 147) (.c (.nilIface))) <|
  q 149 (.pick (.t 146) (cb true) (.t 148)) <|
  q 150 (.mv (.t 149)) <|
  qg 151 150 false (.mv (.t 22)) <|
  qg 152 150 false (.call F.journal_Journal_Records [(.t 151)]) <|
  qg 153 150 false (.mv (.t 18)) <|
  qg 154 150 false (.call F.clapperlaw16_same [(.t 152), (.t 153)]) <|
  qg 155 150 false (.un .not (.t 154)) <|
  q 156 (.pick (.t 150) (cb true) (.t 155)) <|
  .keep [5, 13, 14, 18, 22, 156] <|
  .ite (.t 156)
    (q 12 (.mv (cb false)) <|
    .keep [12] <|
    .ret)
    (.done) <|
  q 157 (.mv (.t 22)) <|
  q 158 (.mv (.t 5)) <|
  q 159 (.call F.journal_Journal_Append [(.t 157), (.t 158)]) <|
  q 24 (.mv (.t 159)) <|
  .keep [5, 13, 14, 18, 22, 24] <|
  q 160 (.mv (.t 24)) <|
  q 161 (.eq false .i (.t 160) (.c (.nilIface))) <|
  .keep [5, 13, 14, 18, 22, 161] <|
  .ite (.t 161)
    (q 162 (.mv (.t 18)) <|
    q 163 (.mv (.t 5)) <|
    q 164 (.b2s (.t 163)) <|
    q 165 (.bslice false 1 1 [.string .empty] [(0, 1, (.t 164))]) <|
    q 166 (.append 1 16 (.t 162) (.t 165)) <|
    q 18 (.mv (.t 166)) <|
    .keep [13, 14, 18, 22] <|
    .done)
    (.done) <|
  ic_clapperlaw16_JournalKeeps_168
def ic_clapperlaw16_JournalKeeps_101 : IC :=
  q 101 (.mv (.t 16)) <|
  q 102 (.mv (.t 2)) <|
  q 103 (.mv (.t 3)) <|
  q 104 (.mv (.t 4)) <|
  q 105 (.call F.journal_Journal_Tear [(.t 101), (.t 102), (.t 103), (.t 104)]) <|
  q 21 (.mv (.t 105)) <|
  .keep [2, 3, 4, 5, 13, 14, 18, 21] <|
  q 106 (.mv (.t 21)) <|
  q 107 (.eq false .i (.t 106) (.c (.nilIface))) <|
  q 108 (.mv (.t 107)) <|
  qg 109 108 true (.mv (.t 3)) <|
  qg 110 108 true (.bin .eql (.t 109) (ci 2)) <|
  q 111 (.pick (.t 108) (.t 110) (cb false)) <|
  q 112 (.mv (.t 111)) <|
  qg 113 112 true (.mv (.t 4)) <|
  qg 114 112 true (.bin .eql (.t 113) (ci 24)) <|
  q 115 (.pick (.t 112) (.t 114) (cb false)) <|
  .keep [2, 5, 13, 14, 18, 115] <|
  .ite (.t 115)
    (q 116 (.mv (.t 18)) <|
    q 117 (.mv (.t 2)) <|
    q 118 (.b2s (.t 117)) <|
    q 119 (.bslice false 1 1 [.string .empty] [(0, 1, (.t 118))]) <|
    q 120 (.append 1 16 (.t 116) (.t 119)) <|
    q 18 (.mv (.t 120)) <|
    .keep [5, 13, 14, 18] <|
    .done)
    (.done) <|
  ic_clapperlaw16_JournalKeeps_122

def ic_clapperlaw16_JournalKeeps : IC :=
  q 12 (.mv (cb false)) <|
  .keep [0, 1, 2, 3, 4, 5] <|
  q 27 (.call F.clapperlaw16_up []) <|
  q 13 (.mv (.t 27)) <|
  .keep [0, 1, 2, 3, 4, 5, 13] <|
  q 28 (.mv (.t 0)) <|
  q 29 (.bin .lss (.t 28) (ci 64)) <|
  q 30 (.mv (.t 29)) <|
  qg 31 30 false (.mv (.t 0)) <|
  qg 32 30 false (.bin .gtr (.t 31) (ci 4000)) <|
  q 33 (.pick (.t 30) (cb true) (.t 32)) <|
  q 34 (.mv (.t 33)) <|
  qg 35 34 false (.mv (.t 1)) <|
  qg 36 34 false (.len false (.t 35)) <|
  qg 37 34 false (.bin .gtr (.t 36) (ci 40)) <|
  q 38 (.pick (.t 34) (cb true) (.t 37)) <|
  q 39 (.mv (.t 38)) <|
  qg 40 39 false (.mv (.t 2)) <|
  qg 41 39 false (.len false (.t 40)) <|
  qg 42 39 false (.bin .gtr (.t 41) (ci 3000)) <|
  q 43 (.pick (.t 39) (cb true) (.t 42)) <|
  q 44 (.mv (.t 43)) <|
  qg 45 44 false (.mv (.t 5)) <|
  qg 46 44 false (.len false (.t 45)) <|
  qg 47 44 false (.bin .gtr (.t 46) (ci 3000)) <|
  q 48 (.pick (.t 44) (cb true) (.t 47)) <|
  .keep [0, 1, 2, 3, 4, 5, 13, 48] <|
  .ite (.t 48)
    (q 49 (.mv (.t 13)) <|
    q 12 (.mv (.t 49)) <|
    .keep [12] <|
    .ret)
    (.done) <|
  q 51 (.mv (.t 0)) <|
  q 52 (.call F.flash_New [(.t 51)]) <|
  q 50 (.mv (.t 52)) <|
  q 53 (.ext (.t 50) 0) <|
  q 54 (.ext (.t 50) 1) <|
  q 14 (.mv (.t 53)) <|
  q 15 (.mv (.t 54)) <|
  .keep [1, 2, 3, 4, 5, 13, 14, 15] <|
  q 55 (.mv (.t 14)) <|
  q 56 (.eq false .p (.t 55) (.c (.pointer none))) <|
  q 57 (.mv (.t 56)) <|
  qg 58 57 false (.mv (.t 15)) <|
  qg 59 57 false (.eq true .i (.t 58) (.c (.nilIface))) <|
  q 60 (.pick (.t 57) (cb true) (.t 59)) <|
  .keep [1, 2, 3, 4, 5, 13, 14, 60] <|
  .ite (.t 60)
    (q 12 (.mv (cb false)) <|
    .keep [12] <|
    .ret)
    (.done) <|
  q 62 (.mv (.t 14)) <|
  q 63 (.call F.journal_Open [(.t 62)]) <|
  q 61 (.mv (.t 63)) <|
  q 64 (.ext (.t 61) 0) <|
  q 65 (.ext (.t 61) 1) <|
  q 16 (.mv (.t 64)) <|
  q 17 (.mv (.t 65)) <|
  .keep [1, 2, 3, 4, 5, 13, 14, 16, 17] <|
  q 66 (.mv (.t 16)) <|
  q 67 (.eq false .p (.t 66) (.c (.pointer none))) <|
  q 68 (.mv (.t 67)) <|
  qg 69 68 false (.mv (.t 17)) <|
  qg 70 68 false (.eq true .i (.t 69) (.c (.nilIface))) <|
  q 71 (.pick (.t 68) (cb true) (.t 70)) <|
  .keep [1, 2, 3, 4, 5, 13, 14, 16, 71] <|
  .ite (.t 71)
    (q 12 (.mv (cb false)) <|
    .keep [12] <|
    .ret)
    (.done) <|
  q 18 (.mv (.c (.slice none 0 0))) <|
  .keep [1, 2, 3, 4, 5, 13, 14, 16, 18] <|
  q 19 (.mv (ci 0)) <|
  .keep [1, 2, 3, 4, 5, 13, 14, 16, 18, 19] <|
  .block 0
    (.keep [1, 2, 3, 4, 5, 13, 14, 16, 18, 19] <|
    .loop
      (q 72 (.mv (.t 19)) <|
      q 73 (.mv (.t 1)) <|
      q 74 (.len false (.t 73)) <|
      q 75 (.bin .lss (.t 72) (.t 74)) <|
      .keep [1, 2, 3, 4, 5, 13, 14, 16, 18, 19, 75] <|
      .ite (.t 75)
        (.done)
        (.exit 0) <|
      .block 1
        (q 78 (.mv (.t 1)) <|
        q 79 (.mv (.t 19)) <|
        q 80 (.idxa 1 none (.t 78) (.t 79)) <|
        q 81 (.load false 1 (.t 80)) <|
        q 82 (.len false (.t 81)) <|
        q 83 (.bin .gtr (.t 82) (ci 3000)) <|
        .keep [1, 2, 3, 4, 5, 13, 14, 16, 18, 19, 83] <|
        .ite (.t 83)
          (q 84 (.mv (.t 13)) <|
          q 12 (.mv (.t 84)) <|
          .keep [12] <|
          .ret)
          (.done) <|
        q 85 (.mv (.t 16)) <|
        q 86 (.mv (.t 1)) <|
        q 87 (.mv (.t 19)) <|
        q 88 (.idxa 1 none (.t 86) (.t 87)) <|
        q 89 (.load false 1 (.t 88)) <|
        q 90 (.call F.journal_Journal_Append [(.t 85), (.t 89)]) <|
        q 20 (.mv (.t 90)) <|
        .keep [1, 2, 3, 4, 5, 13, 14, 16, 18, 19, 20] <|
        q 91 (.mv (.t 20)) <|
        q 92 (.eq false .i (.t 91) (.c (.nilIface))) <|
        .keep [1, 2, 3, 4, 5, 13, 14, 16, 18, 19, 92] <|
        .ite (.t 92)
          (q 93 (.mv (.t 18)) <|
          q 94 (.mv (.t 1)) <|
          q 95 (.mv (.t 19)) <|
          q 96 (.idxa 1 none (.t 94) (.t 95)) <|
          q 97 (.load false 1 (.t 96)) <|
          q 98 (.b2s (.t 97)) <|
          q 99 (.bslice false 1 1 [.string .empty] [(0, 1, (.t 98))]) <|
          q 100 (.append 1 16 (.t 93) (.t 99)) <|
          q 18 (.mv (.t 100)) <|
          .keep [1, 2, 3, 4, 5, 13, 14, 16, 18, 19] <|
          .done)
          (.done) <|
        .done) <|
      q 76 (.mv (.t 19)) <|
      q 77 (.bin .add (.t 76) (ci 1)) <|
      q 19 (.mv (.t 77)) <|
      .keep [1, 2, 3, 4, 5, 13, 14, 16, 18, 19] <|
      .keep [1, 2, 3, 4, 5, 13, 14, 16, 18, 19] <|
      .done)) <|
  ic_clapperlaw16_JournalKeeps_101
theorem ok_clapperlaw16_JournalKeeps : compF Try.prog (pfx false) (fun d => [].contains d) Try.f8 = some ic_clapperlaw16_JournalKeeps := by kernel_rfl
theorem e_clapperlaw16_JournalKeeps {args : List AV} {H : AH} {v : AV} {H' : AH} (h : iwp (pfx false) (Called Try.prog) ic_clapperlaw16_JournalKeeps (retQ [.t 12] H v H') (look (enterL 0 args)) H) : Called Try.prog F.clapperlaw16_JournalKeeps args H v H' :=
  fn_called mixed (cmpok false) Try.func8 (by kernel_rfl) ok_clapperlaw16_JournalKeeps (by kernel_rfl) h
end Go.Proofs.Ytdgabfeeoplldaa.Eng

/- The code of some functions, as the abstract machine's. Printed by program. -/
import Derived.Test.YtdgabfeeoplldaaNm
namespace Go.Proofs.Ytdgabfeeoplldaa.Eng
open Go Go.Proofs
set_option maxRecDepth 20000
def ic_slices_Clone_byte_byte : IC :=
  q 2 (.mv (.c (.slice none 0 0))) <|
  .keep [0] <|
  q 3 (.mv (.t 0)) <|
  q 4 (.isnil false (.t 3)) <|
  .keep [0, 4] <|
  .ite (.t 4)
    (q 2 (.mv (.c (.slice none 0 0))) <|
    .keep [2] <|
    .ret)
    (.done) <|
  q 5 (.bslice false 1 0 [.int .u8 0] []) <|
  q 6 (.mv (.t 0)) <|
  q 7 (.append 1 1 (.t 5) (.t 6)) <|
  q 2 (.mv (.t 7)) <|
  .keep [2] <|
  .ret
theorem ok_slices_Clone_byte_byte : compF Try.prog (pfx false) (fun d => [].contains d) Try.f43 = some ic_slices_Clone_byte_byte := by kernel_rfl
theorem e_slices_Clone_byte_byte {args : List AV} {H : AH} {v : AV} {H' : AH} (h : iwp (pfx false) (Called Try.prog) ic_slices_Clone_byte_byte (retQ [.t 2] H v H') (look (enterL 0 args)) H) : Called Try.prog F.slices_Clone_byte_byte args H v H' :=
  fn_called mixed (cmpok false) Try.func43 (by kernel_rfl) ok_slices_Clone_byte_byte (by kernel_rfl) h

def ic_slices_Delete_byte_byte : IC :=
  q 6 (.mv (.c (.slice none 0 0))) <|
  .keep [0, 1, 2] <|
  q 8 (.mv (.t 0)) <|
  q 9 (.mv (.t 1)) <|
  q 10 (.mv (.t 2)) <|
  q 11 (.mv (.t 0)) <|
  q 12 (.len false (.t 11)) <|
  q 13 (.slice 1 none (.t 8) (some (.t 9)) (some (.t 10)) (some (.t 12))) <|
  .keep [0, 1, 2] <|
  q 14 (.mv (.t 1)) <|
  q 15 (.mv (.t 2)) <|
  q 16 (.bin .eql (.t 14) (.t 15)) <|
  .keep [0, 1, 2, 16] <|
  .ite (.t 16)
    (q 17 (.mv (.t 0)) <|
    q 6 (.mv (.t 17)) <|
    .keep [6] <|
    .ret)
    (.done) <|
  q 18 (.mv (.t 0)) <|
  q 19 (.len false (.t 18)) <|
  q 7 (.mv (.t 19)) <|
  .keep [0, 1, 2, 7] <|
  q 20 (.mv (.t 0)) <|
  q 21 (.mv (.t 1)) <|
  q 22 (.slice 1 none (.t 20) none (some (.t 21)) none) <|
  q 23 (.mv (.t 0)) <|
  q 24 (.mv (.t 2)) <|
  q 25 (.slice 1 none (.t 23) (some (.t 24)) none none) <|
  q 26 (.append 1 24 (.t 22) (.t 25)) <|
  q 0 (.mv (.t 26)) <|
  .keep [0, 7] <|
  q 27 (.mv (.t 0)) <|
  q 28 (.mv (.t 0)) <|
  q 29 (.len false (.t 28)) <|
  q 30 (.mv (.t 7)) <|
  q 31 (.slice 1 none (.t 27) (some (.t 29)) (some (.t 30)) none) <|
  qn (.clear 1 [.slice none 0 0] (.t 31)) <|
  .keep [0] <|
  q 32 (.mv (.t 0)) <|
  q 6 (.mv (.t 32)) <|
  .keep [6] <|
  .ret
theorem ok_slices_Delete_byte_byte : compF Try.prog (pfx false) (fun d => [].contains d) Try.f45 = some ic_slices_Delete_byte_byte := by kernel_rfl
theorem e_slices_Delete_byte_byte {args : List AV} {H : AH} {v : AV} {H' : AH} (h : iwp (pfx false) (Called Try.prog) ic_slices_Delete_byte_byte (retQ [.t 6] H v H') (look (enterL 0 args)) H) : Called Try.prog F.slices_Delete_byte_byte args H v H' :=
  fn_called mixed (cmpok false) Try.func45 (by kernel_rfl) ok_slices_Delete_byte_byte (by kernel_rfl) h

def ic_link_New : IC :=
  q 0 (.mv (.c (.pointer none))) <|
  .keep [] <|
  q 1 (.build [.slice none 0 0] []) <|
  q 2 (.box (.t 1)) <|
  q 0 (.mv (.t 2)) <|
  .keep [0] <|
  .ret
theorem ok_link_New : compF Try.prog (pfx false) (fun d => [].contains d) Try.f14 = some ic_link_New := by kernel_rfl
theorem e_link_New {args : List AV} {H : AH} {v : AV} {H' : AH} (h : iwp (pfx false) (Called Try.prog) ic_link_New (retQ [.t 0] H v H') (look (enterL 0 args)) H) : Called Try.prog F.link_New args H v H' :=
  fn_called mixed (cmpok false) Try.func14 (by kernel_rfl) ok_link_New (by kernel_rfl) h

def ic_link_Link_Send : IC :=
  q 4 (.mv (.c (.nilIface))) <|
  .keep [0, 1] <|
  q 5 (.mv (.t 0)) <|
  q 6 (.nilchk (.t 5)) <|
  q 7 (.fld 0 (.t 6)) <|
  q 8 (.load false 1 (.t 7)) <|
  q 9 (.len false (.t 8)) <|
  q 10 (.bin .geq (.t 9) (ci 64)) <|
  .keep [0, 1, 10] <|
  .ite (.t 10)
    (q 11 (.mkif T.api_Code (ci 6)) <|
    q 4 (.mv (.t 11)) <|
    .keep [4] <|
    .ret)
    (.done) <|
  q 12 (.mv (.t 0)) <|
  q 13 (.mv (.t 0)) <|
  q 14 (.nilchk (.t 13)) <|
  q 15 (.fld 0 (.t 14)) <|
  q 16 (.load false 1 (.t 15)) <|
  q 17 (.mv (.t 1)) <|
  q 18 (.call F.slices_Clone_byte_byte [(.t 17)]) <|
  q 19 (.bslice false 1 1 [.slice none 0 0] [(0, 1, (.t 18))]) <|
  q 20 (.append 1 24 (.t 16) (.t 19)) <|
  q 21 (.nilchk (.t 12)) <|
  q 22 (.fld 0 (.t 21)) <|
  qn (.store 1 (.t 22) (.t 20)) <|
  .keep [] <|
  q 4 (.mv (.c (.nilIface))) <|
  .keep [4] <|
  .ret
theorem ok_link_Link_Send : compF Try.prog (pfx false) (fun d => [].contains d) Try.f15 = some ic_link_Link_Send := by kernel_rfl
theorem e_link_Link_Send {args : List AV} {H : AH} {v : AV} {H' : AH} (h : iwp (pfx false) (Called Try.prog) ic_link_Link_Send (retQ [.t 4] H v H') (look (enterL 0 args)) H) : Called Try.prog F.link_Link_Send args H v H' :=
  fn_called mixed (cmpok false) Try.func15 (by kernel_rfl) ok_link_Link_Send (by kernel_rfl) h

def ic_link_Link_there : IC :=
  q 4 (.mv (cb false)) <|
  .keep [0, 1] <|
  q 5 (.mv (.t 1)) <|
  q 6 (.bin .geq (.t 5) (ci 0)) <|
  q 7 (.mv (.t 6)) <|
  qg 8 7 true (.mv (.t 1)) <|
  qg 9 7 true (.mv (.t 0)) <|
  qg 10 7 true (.nilchk (.t 9)) <|
  qg 11 7 true (.fld 0 (.t 10)) <|
  qg 12 7 true (.load false 1 (.t 11)) <|
  qg 13 7 true (.len false (.t 12)) <|
  qg 14 7 true (.bin .lss (.t 8) (.t 13)) <|
  q 15 (.pick (.t 7) (.t 14) (cb false)) <|
  q 4 (.mv (.t 15)) <|
  .keep [4] <|
  .ret
theorem ok_link_Link_there : compF Try.prog (pfx false) (fun d => [].contains d) Try.f44 = some ic_link_Link_there := by kernel_rfl
theorem e_link_Link_there {args : List AV} {H : AH} {v : AV} {H' : AH} (h : iwp (pfx false) (Called Try.prog) ic_link_Link_there (retQ [.t 4] H v H') (look (enterL 0 args)) H) : Called Try.prog F.link_Link_there args H v H' :=
  fn_called mixed (cmpok false) Try.func44 (by kernel_rfl) ok_link_Link_there (by kernel_rfl) h

def ic_link_Link_Take : IC :=
  q 4 (.mv (.c (.slice none 0 0))) <|
  q 5 (.mv (.c (.nilIface))) <|
  .keep [0, 1] <|
  q 7 (.mv (.t 0)) <|
  q 8 (.mv (.t 1)) <|
  q 9 (.call F.link_Link_there [(.t 7), (.t 8)]) <|
  q 10 (.un .not (.t 9)) <|
  .keep [0, 1, 10] <|
  .ite (.t 10)
    (q 11 (.mkif T.api_Code (ci 4)) <|
    q 4 (.mv (.c (.slice none 0 0))) <|
    q 5 (.mv (.t 11)) <|
    .keep [4, 5] <|
    .ret)
    (.done) <|
  q 12 (.mv (.t 0)) <|
  q 13 (.nilchk (.t 12)) <|
  q 14 (.fld 0 (.t 13)) <|
  q 15 (.load false 1 (.t 14)) <|
  q 16 (.mv (.t 1)) <|
  q 17 (.idxa 1 none (.t 15) (.t 16)) <|
  q 18 (.load false 1 (.t 17)) <|
  q 6 (.mv (.t 18)) <|
  .keep [0, 1, 6] <|
  q 19 (.mv (.t 0)) <|
  q 20 (.mv (.t 0)) <|
  q 21 (.nilchk (.t 20)) <|
  q 22 (.fld 0 (.t 21)) <|
  q 23 (.load false 1 (.t 22)) <|
  q 24 (.mv (.t 1)) <|
  q 25 (.mv (.t 1)) <|
  q 26 (.bin .add (.t 25) (ci 1)) <|
  q 27 (.call F.slices_Delete_byte_byte [(.t 23), (.t 24), (.t 26)]) <|
  q 28 (.nilchk (.t 19)) <|
  q 29 (.fld 0 (.t 28)) <|
  qn (.store 1 (.t 29) (.t 27)) <|
  .keep [6] <|
  q 30 (.mv (.t 6)) <|
  q 4 (.mv (.t 30)) <|
  q 5 (.mv (.c (.nilIface))) <|
  .keep [4, 5] <|
  .ret
theorem ok_link_Link_Take : compF Try.prog (pfx false) (fun d => [].contains d) Try.f16 = some ic_link_Link_Take := by kernel_rfl
theorem e_link_Link_Take {args : List AV} {H : AH} {v : AV} {H' : AH} (h : iwp (pfx false) (Called Try.prog) ic_link_Link_Take (retQ [.t 4, .t 5] H v H') (look (enterL 0 args)) H) : Called Try.prog F.link_Link_Take args H v H' :=
  fn_called mixed (cmpok false) Try.func16 (by kernel_rfl) ok_link_Link_Take (by kernel_rfl) h

def ic_clapperlaw20_up : IC :=
  q 0 (.mv (cb false)) <|
  .keep [] <|
  q 8 (.call F.link_New []) <|
  q 1 (.mv (.t 8)) <|
  .keep [1] <|
  q 9 (.mv (.t 1)) <|
  q 10 (.eq false .p (.t 9) (.c (.pointer none))) <|
  .keep [1, 10] <|
  .ite (.t 10)
    (q 0 (.mv (cb false)) <|
    .keep [0] <|
    .ret)
    (.done) <|
  q 11 (.mv (.t 1)) <|
  q 12 (.bslice true 1 1 [.int .u8 0] [(0, 1, (.c (.int .u8 97)))]) <|
  q 13 (.mark (.t 12)) <|
  q 14 (.call F.link_Link_Send [(.t 11), (.t 13)]) <|
  q 2 (.mv (.t 14)) <|
  .keep [1, 2] <|
  q 15 (.mv (.t 1)) <|
  q 16 (.bslice true 1 1 [.int .u8 0] [(0, 1, (.c (.int .u8 98)))]) <|
  q 17 (.mark (.t 16)) <|
  q 18 (.call F.link_Link_Send [(.t 15), (.t 17)]) <|
  q 3 (.mv (.t 18)) <|
  .keep [1, 2, 3] <|
  q 20 (.mv (.t 1)) <|
  q 21 (.call F.link_Link_Take [(.t 20), (ci 0)]) <|
  q 19 (.mv (.t 21)) <|
  q 22 (.ext (.t 19) 0) <|
  q 23 (.ext (.t 19) 1) <|
  q 4 (.mv (.t 22)) <|
  q 5 (.mv (.t 23)) <|
  .keep [1, 2, 3, 4, 5] <|
  q 25 (.mv (.t 1)) <|
  q 26 (.call F.link_Link_Take [(.t 25), (ci 1)]) <|
  q 24 (.mv (.t 26)) <|
  q 27 (.ext (.t 24) 0) <|
  q 28 (.ext (.t 24) 1) <|
  q 6 (.mv (.t 27)) <|
  q 7 (.mv (.t 28)) <|
  .keep [1, 2, 3, 4, 5, 7] <|
  q 29 (.mv (.t 2)) <|
  q 30 (.eq false .i (.t 29) (.c (.nilIface))) <|
  q 31 (.mv (.t 30)) <|
  qg 32 31 true (.mv (.t 3)) <|
  qg 33 31 true (.eq false .i (.t 32) (.c (.nilIface))) <|
  q 34 (.pick (.t 31) (.t 33) (cb false)) <|
  q 35 (.mv (.t 34)) <|
  qg 36 35 true (.mv (.t 5)) <|
  qg 37 35 true (.eq false .i (.t 36) (.c (.nilIface))) <|
  q 38 (.pick (.t 35) (.t 37) (cb false)) <|
  q 39 (.mv (.t 38)) <|
  qg 40 39 true (.mv (.t 4)) <|
  qg 41 39 true (.b2s (.t 40)) <|
  qg 42 39 true (.bin .eql (.t 41) (.c (.string ⟨#[97]⟩))) <|
  q 43 (.pick (.t 39) (.t 42) (cb false)) <|
  q 44 (.mv (.t 43)) <|
  qg 45 44 true (.mv (.t 7)) <|
  qg 46 44 true (.mkif T.api_Code (ci 4)) <|
  qg 47 44 true (.eq false .i (.t 45) (.t 46)) <|
  q 48 (.pick (.t 44) (.t 47) (cb false)) <|
  q 49 (.mv (.t 48)) <|
  qg 50 49 true (.mv (.t 1)) <|
  qg 51 49 true (.call F.link_Link_Many [(.t 50)]) <|
  qg 52 49 true (.bin .eql (.t 51) (ci 1)) <|
  q 53 (.pick (.t 49) (.t 52) (cb false)) <|
  q 0 (.mv (.t 53)) <|
  .keep [0] <|
  .ret
theorem ok_clapperlaw20_up : compF Try.prog (pfx false) (fun d => [12, 16].contains d) Try.f13 = some ic_clapperlaw20_up := by kernel_rfl
theorem e_clapperlaw20_up {args : List AV} {H : AH} {v : AV} {H' : AH} (h : iwp (pfx false) (Called Try.prog) ic_clapperlaw20_up (retQ [.t 0] H v H') (look (enterL 0 args)) H) : Called Try.prog F.clapperlaw20_up args H v H' :=
  fn_called mixed (cmpok false) Try.func13 (by kernel_rfl) ok_clapperlaw20_up (by kernel_rfl) h

def ic_clapperlaw20_LinkOrders : IC :=
  q 2 (.mv (cb false)) <|
  .keep [0] <|
  q 12 (.call F.clapperlaw20_up []) <|
  q 3 (.mv (.t 12)) <|
  .keep [0, 3] <|
  q 13 (.call F.link_New []) <|
  q 4 (.mv (.t 13)) <|
  .keep [0, 3, 4] <|
  q 14 (.mv (.t 4)) <|
  q 15 (.eq false .p (.t 14) (.c (.pointer none))) <|
  q 16 (.mv (.t 15)) <|
  qg 17 16 false (.mv (.t 0)) <|
  qg 18 16 false (.len false (.t 17)) <|
  qg 19 16 false (.bin .gtr (.t 18) (ci 64)) <|
  q 20 (.pick (.t 16) (cb true) (.t 19)) <|
  .keep [0, 3, 4, 20] <|
  .ite (.t 20)
    (q 21 (.mv (.t 3)) <|
    q 22 (.mv (.t 21)) <|
    qg 23 22 true (.mv (.t 4)) <|
    qg 24 22 true (.eq true .p (.t 23) (.c (.pointer none))) <|
    q 25 (.pick (.t 22) (.t 24) (cb false)) <|
    q 2 (.mv (.t 25)) <|
    .keep [2] <|
    .ret)
    (.done) <|
  q 5 (.mv (ci 0)) <|
  .keep [0, 3, 4, 5] <|
  .block 0
    (.keep [0, 3, 4, 5] <|
    .loop
      (q 26 (.mv (.t 5)) <|
      q 27 (.mv (.t 0)) <|
      q 28 (.len false (.t 27)) <|
      q 29 (.bin .lss (.t 26) (.t 28)) <|
      .keep [0, 3, 4, 5, 29] <|
      .ite (.t 29)
        (.done)
        (.exit 0) <|
      .block 1
        (q 32 (.mv (.t 4)) <|
        q 33 (.mv (.t 0)) <|
        q 34 (.mv (.t 5)) <|
        q 35 (.idxa 1 none (.t 33) (.t 34)) <|
        q 36 (.load false 1 (.t 35)) <|
        q 37 (.call F.link_Link_Send [(.t 32), (.t 36)]) <|
        q 6 (.mv (.t 37)) <|
        .keep [0, 3, 4, 5, 6] <|
        q 38 (.mv (.t 6)) <|
        q 39 (.eq true .i (.t 38) (.c (.nilIface))) <|
        .keep [0, 3, 4, 5, 39] <|
        .ite (.t 39)
          (q 2 (.mv (cb false)) <|
          .keep [2] <|
          .ret)
          (.done) <|
        .done) <|
      q 30 (.mv (.t 5)) <|
      q 31 (.bin .add (.t 30) (ci 1)) <|
      q 5 (.mv (.t 31)) <|
      .keep [0, 3, 4, 5] <|
      .keep [0, 3, 4, 5] <|
      .done)) <|
  q 7 (.mv (ci 0)) <|
  .keep [0, 3, 4, 7] <|
  .block 2
    (.keep [0, 3, 4, 7] <|
    .loop
      (q 40 (.mv (.t 7)) <|
      q 41 (.mv (.t 0)) <|
      q 42 (.len false (.t 41)) <|
      q 43 (.bin .lss (.t 40) (.t 42)) <|
      .keep [0, 3, 4, 7, 43] <|
      .ite (.t 43)
        (.done)
        (.exit 2) <|
      .block 3
        (q 47 (.mv (.t 4)) <|
        q 48 (.call F.link_Link_Take [(.t 47), (ci 0)]) <|
        q 46 (.mv (.t 48)) <|
        q 49 (.ext (.t 46) 0) <|
        q 50 (.ext (.t 46) 1) <|
        q 8 (.mv (.t 49)) <|
        q 9 (.mv (.t 50)) <|
        .keep [0, 3, 4, 7, 8, 9] <|
        q 51 (.mv (.t 9)) <|
        q 52 (.eq true .i (.t 51) (.c (.nilIface))) <|
        q 53 (.mv (.t 52)) <|
        qg 54 53 false (.mv (.t 8)) <|
        qg 55 53 false (.b2s (.t 54)) <|
        qg 56 53 false (.mv (.t 0)) <|
        qg 57 53 false (.mv (.t 7)) <|
        qg 58 53 false (.idxa 1 none (.t 56) (.t 57)) <|
        qg 59 53 false (.load false 1 (.t 58)) <|
        qg 60 53 false (.b2s (.t 59)) <|
        qg 61 53 false (.bin .neq (.t 55) (.t 60)) <|
        q 62 (.pick (.t 53) (cb true) (.t 61)) <|
        .keep [0, 3, 4, 7, 62] <|
        .ite (.t 62)
          (q 2 (.mv (cb false)) <|
          .keep [2] <|
          .ret)
          (.done) <|
        .done) <|
      q 44 (.mv (.t 7)) <|
      q 45 (.bin .add (.t 44) (ci 1)) <|
      q 7 (.mv (.t 45)) <|
      .keep [0, 3, 4, 7] <|
      .keep [0, 3, 4, 7] <|
      .done)) <|
  q 64 (.mv (.t 4)) <|
  q 65 (.call F.link_Link_Take [(.t 64), (ci 0)]) <|
  q 63 (.mv (.t 65)) <|
  q 66 (.ext (.t 63) 0) <|
  q 67 (.ext (.t 63) 1) <|
  q 10 (.mv (.t 66)) <|
  q 11 (.mv (.t 67)) <|
  .keep [3, 11] <|
  q 68 (.mv (.t 3)) <|
  q 69 (.mv (.t 68)) <|
  qg 70 69 true (.mv (.t 11)) <|
  qg 71 69 true (.mkif T.api_Code (ci 4)) <|
  qg 72 69 true (.eq false .i (.t 70) (.t 71)) <|
  q 73 (.pick (.t 69) (.t 72) (cb false)) <|
  q 2 (.mv (.t 73)) <|
  .keep [2] <|
  .ret
theorem ok_clapperlaw20_LinkOrders : compF Try.prog (pfx false) (fun d => [].contains d) Try.f3 = some ic_clapperlaw20_LinkOrders := by kernel_rfl
theorem e_clapperlaw20_LinkOrders {args : List AV} {H : AH} {v : AV} {H' : AH} (h : iwp (pfx false) (Called Try.prog) ic_clapperlaw20_LinkOrders (retQ [.t 2] H v H') (look (enterL 0 args)) H) : Called Try.prog F.clapperlaw20_LinkOrders args H v H' :=
  fn_called mixed (cmpok false) Try.func3 (by kernel_rfl) ok_clapperlaw20_LinkOrders (by kernel_rfl) h

def ic_link_Link_Many : IC :=
  q 2 (.mv (ci 0)) <|
  .keep [0] <|
  q 3 (.mv (.t 0)) <|
  q 4 (.nilchk (.t 3)) <|
  q 5 (.fld 0 (.t 4)) <|
  q 6 (.load false 1 (.t 5)) <|
  q 7 (.len false (.t 6)) <|
  q 2 (.mv (.t 7)) <|
  .keep [2] <|
  .ret
theorem ok_link_Link_Many : compF Try.prog (pfx false) (fun d => [].contains d) Try.f19 = some ic_link_Link_Many := by kernel_rfl
theorem e_link_Link_Many {args : List AV} {H : AH} {v : AV} {H' : AH} (h : iwp (pfx false) (Called Try.prog) ic_link_Link_Many (retQ [.t 2] H v H') (look (enterL 0 args)) H) : Called Try.prog F.link_Link_Many args H v H' :=
  fn_called mixed (cmpok false) Try.func19 (by kernel_rfl) ok_link_Link_Many (by kernel_rfl) h
end Go.Proofs.Ytdgabfeeoplldaa.Eng

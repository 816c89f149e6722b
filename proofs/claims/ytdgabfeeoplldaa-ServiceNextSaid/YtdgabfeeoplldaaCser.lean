/- The code of some functions, as the abstract machine's. Printed by program. -/
import Derived.Test.YtdgabfeeoplldaaNm
namespace Go.Proofs.Ytdgabfeeoplldaa.Eng
open Go Go.Proofs
set_option maxRecDepth 20000
def ic_clapperlaw12_ServiceNext : IC :=
  q 2 (.box (.t 0)) <|
  q 4 (.mv (cb false)) <|
  .keep [1, 2] <|
  q 11 (.call F.clapperlaw12_up []) <|
  q 5 (.mv (.t 11)) <|
  .keep [1, 2, 5] <|
  q 12 (.fld 3 (.t 2)) <|
  q 13 (.load false 1 (.t 12)) <|
  q 14 (.len false (.t 13)) <|
  q 15 (.bin .gtr (.t 14) (ci 300)) <|
  q 16 (.mv (.t 15)) <|
  qg 17 16 false (.fld 4 (.t 2)) <|
  qg 18 16 false (.load false 1 (.t 17)) <|
  qg 19 16 false (.len false (.t 18)) <|
  qg 20 16 false (.bin .gtr (.t 19) (ci 300)) <|
  q 21 (.pick (.t 16) (cb true) (.t 20)) <|
  .keep [1, 2, 5, 21] <|
  .ite (.t 21)
    (q 22 (.mv (.t 5)) <|
    q 4 (.mv (.t 22)) <|
    .keep [4] <|
    .ret)
    (.done) <|
  q 24 (.load true 5 (.t 2)) <|
  q 25 (.mv (.t 1)) <|
  q 26 (.call F.service_Next [(.t 24), (.t 25)]) <|
  q 23 (.mv (.t 26)) <|
  q 27 (.ext (.t 23) 0) <|
  q 28 (.ext (.t 23) 1) <|
  q 6 (.mv (.t 27)) <|
  q 7 (.mv (.t 28)) <|
  .keep [1, 2, 5, 6, 7] <|
  q 29 (.load true 5 (.t 2)) <|
  q 30 (.call F.clapperref12_May [(.t 29)]) <|
  q 8 (.mv (.t 30)) <|
  .keep [1, 2, 5, 6, 7, 8] <|
  q 31 (.mv (.t 8)) <|
  q 32 (.un .not (.t 31)) <|
  q 33 (.mv (.t 32)) <|
  qg 34 33 false (.mv (.t 1)) <|
  qg 35 33 false (.bin .lss (.t 34) (ci 0)) <|
  q 36 (.pick (.t 33) (cb true) (.t 35)) <|
  .keep [1, 2, 5, 6, 7, 36] <|
  .ite (.t 36)
    (q 37 (.mv (.t 5)) <|
    q 38 (.mv (.t 37)) <|
    qg 39 38 true (.mv (.t 7)) <|
    qg 40 38 true (.un .not (.t 39)) <|
    q 41 (.pick (.t 38) (.t 40) (cb false)) <|
    q 42 (.mv (.t 41)) <|
    qg 43 42 true (.mv (.t 6)) <|
    qg 44 42 true (.bin .eql (.t 43) (ci 0)) <|
    q 45 (.pick (.t 42) (.t 44) (cb false)) <|
    q 4 (.mv (.t 45)) <|
    .keep [4] <|
    .ret)
    (.done) <|
  q 46 (.mv (.t 1)) <|
  q 47 (.bin .gtr (.t 46) (ci 2000000)) <|
  .keep [1, 2, 5, 6, 7, 47] <|
  .ite (.t 47)
    (q 48 (.mv (.t 5)) <|
    q 49 (.mv (.t 48)) <|
    qg 50 49 true (.mv (.t 7)) <|
    qg 51 49 true (.un .not (.t 50)) <|
    q 52 (.pick (.t 49) (.t 51) (cb false)) <|
    q 53 (.mv (.t 52)) <|
    qg 54 53 true (.mv (.t 6)) <|
    qg 55 53 true (.bin .eql (.t 54) (ci 0)) <|
    q 56 (.pick (.t 53) (.t 55) (cb false)) <|
    q 4 (.mv (.t 56)) <|
    .keep [4] <|
    .ret)
    (.done) <|
  q 57 (.load true 5 (.t 2)) <|
  q 58 (.mv (.t 1)) <|
  q 59 (.call F.clapperref12_Next [(.t 57), (.t 58)]) <|
  q 9 (.mv (.t 59)) <|
  .keep [1, 2, 5, 6, 7, 9] <|
  q 60 (.mv (.t 9)) <|
  q 61 (.bin .geq (.t 60) (ci 0)) <|
  .keep [1, 2, 5, 6, 7, 9, 61] <|
  .ite (.t 61)
    (q 62 (.mv (.t 5)) <|
    q 63 (.mv (.t 62)) <|
    qg 64 63 true (.mv (.t 7)) <|
    q 65 (.pick (.t 63) (.t 64) (cb false)) <|
    q 66 (.mv (.t 65)) <|
    qg 67 66 true (.mv (.t 6)) <|
    qg 68 66 true (.mv (.t 9)) <|
    qg 69 66 true (.bin .eql (.t 67) (.t 68)) <|
    q 70 (.pick (.t 66) (.t 69) (cb false)) <|
    q 4 (.mv (.t 70)) <|
    .keep [4] <|
    .ret)
    (.done) <|
  q 71 (.mv (.t 7)) <|
  q 72 (.un .not (.t 71)) <|
  .keep [1, 2, 5, 6, 72] <|
  .ite (.t 72)
    (q 10 (.mv (ci 0)) <|
    .keep [1, 2, 5, 6, 10] <|
    .block 0
      (.keep [1, 2, 5, 6, 10] <|
      .loop
        (q 73 (.mv (.t 10)) <|
        q 74 (.fld 3 (.t 2)) <|
        q 75 (.load false 1 (.t 74)) <|
        q 76 (.len false (.t 75)) <|
        q 77 (.bin .lss (.t 73) (.t 76)) <|
        .keep [1, 2, 5, 6, 10, 77] <|
        .ite (.t 77)
          (.done)
          (.exit 0) <|
        .block 1
          (q 80 (.fld 3 (.t 2)) <|
          q 81 (.load false 1 (.t 80)) <|
          q 82 (.mv (.t 10)) <|
          q 83 (.idxa 1 none (.t 81) (.t 82)) <|
          q 84 (.load false 1 (.t 83)) <|
          q 85 (.mv (.t 1)) <|
          q 86 (.bin .geq (.t 84) (.t 85)) <|
          .keep [1, 2, 5, 6, 10, 86] <|
          .ite (.t 86)
            (q 4 (.mv (cb false)) <|
            .keep [4] <|
            .ret)
            (.done) <|
          .done) <|
        q 78 (.mv (.t 10)) <|
        q 79 (.bin .add (.t 78) (ci 1)) <|
        q 10 (.mv (.t 79)) <|
        .keep [1, 2, 5, 6, 10] <|
        .keep [1, 2, 5, 6, 10] <|
        .done)) <|
    q 87 (.mv (.t 5)) <|
    q 88 (.mv (.t 87)) <|
    qg 89 88 true (.mv (.t 6)) <|
    qg 90 88 true (.bin .eql (.t 89) (ci 0)) <|
    q 91 (.pick (.t 88) (.t 90) (cb false)) <|
    q 4 (.mv (.t 91)) <|
    .keep [4] <|
    .ret)
    (.done) <|
  q 92 (.mv (.t 5)) <|
  q 93 (.mv (.t 92)) <|
  qg 94 93 true (.mv (.t 6)) <|
  qg 95 93 true (.mv (.t 1)) <|
  qg 96 93 true (.bin .add (.t 95) (ci 3000)) <|
  qg 97 93 true (.bin .geq (.t 94) (.t 96)) <|
  q 98 (.pick (.t 93) (.t 97) (cb false)) <|
  q 99 (.mv (.t 98)) <|
  qg 100 99 true (.load true 5 (.t 2)) <|
  qg 101 99 true (.mv (.t 6)) <|
  qg 102 99 true (.call F.service_Runs [(.t 100), (.t 101)]) <|
  q 103 (.pick (.t 99) (.t 102) (cb false)) <|
  q 4 (.mv (.t 103)) <|
  .keep [4] <|
  .ret
theorem ok_clapperlaw12_ServiceNext : compF Try.prog (pfx false) (fun d => [].contains d) Try.f5 = some ic_clapperlaw12_ServiceNext := by kernel_rfl
theorem e_clapperlaw12_ServiceNext {args : List AV} {H : AH} {v : AV} {H' : AH} (h : iwp (pfx false) (Called Try.prog) ic_clapperlaw12_ServiceNext (retQ [.t 4] H v H') (look (enterL 0 args)) H) : Called Try.prog F.clapperlaw12_ServiceNext args H v H' :=
  fn_called mixed (cmpok false) Try.func5 (by kernel_rfl) ok_clapperlaw12_ServiceNext (by kernel_rfl) h

def ic_clapperlaw12_ServiceWeeks : IC :=
  q 8 (.mv (cb false)) <|
  .keep [0, 1, 2, 3] <|
  q 11 (.call F.clapperlaw12_up []) <|
  q 9 (.mv (.t 11)) <|
  .keep [0, 1, 2, 3, 9] <|
  q 12 (.mv (.t 0)) <|
  q 13 (.mv (.t 1)) <|
  q 14 (.mv (.t 2)) <|
  q 15 (.build [.int .i64 0, .int .i64 0, .int .i64 0, .slice none 0 0, .slice none 0 0] [(0, 1, (.t 12)), (1, 1, (.t 13)), (2, 1, (.t 14))]) <|
  q 10 (.alloc [.int .i64 0, .int .i64 0, .int .i64 0, .slice none 0 0, .slice none 0 0]) <|
  qn (.store 5 (.t 10) (.t 15)) <|
  .keep [1, 2, 3, 9, 10] <|
  q 16 (.load true 5 (.t 10)) <|
  q 17 (.call F.service_May [(.t 16)]) <|
  q 18 (.un .not (.t 17)) <|
  .keep [1, 2, 3, 9, 10, 18] <|
  .ite (.t 18)
    (q 19 (.mv (.t 9)) <|
    q 20 (.mv (.t 19)) <|
    qg 21 20 true (.load true 5 (.t 10)) <|
    qg 22 20 true (.mv (.t 3)) <|
    qg 23 20 true (.call F.service_Runs [(.t 21), (.t 22)]) <|
    qg 24 20 true (.un .not (.t 23)) <|
    q 25 (.pick (.t 20) (.t 24) (cb false)) <|
    q 8 (.mv (.t 25)) <|
    .keep [8] <|
    .ret)
    (.done) <|
  q 26 (.mv (.t 3)) <|
  q 27 (.mv (.t 1)) <|
  q 28 (.bin .lss (.t 26) (.t 27)) <|
  q 29 (.mv (.t 28)) <|
  qg 30 29 false (.mv (.t 3)) <|
  qg 31 29 false (.mv (.t 2)) <|
  qg 32 29 false (.bin .sub (.t 31) (ci 8)) <|
  qg 33 29 false (.bin .gtr (.t 30) (.t 32)) <|
  q 34 (.pick (.t 29) (cb true) (.t 33)) <|
  .keep [1, 2, 3, 9, 10, 34] <|
  .ite (.t 34)
    (q 35 (.mv (.t 9)) <|
    q 36 (.mv (.t 35)) <|
    qg 37 36 true (.mv (.t 3)) <|
    qg 38 36 true (.mv (.t 1)) <|
    qg 39 36 true (.bin .geq (.t 37) (.t 38)) <|
    qg 40 36 true (.mv (.t 39)) <|
    qg 41 40 true (.mv (.t 3)) <|
    qg 42 40 true (.mv (.t 2)) <|
    qg 43 40 true (.bin .lss (.t 41) (.t 42)) <|
    qg 44 36 true (.pick (.t 40) (.t 43) (cb false)) <|
    qg 45 36 true (.mv (.t 44)) <|
    qg 46 45 false (.load true 5 (.t 10)) <|
    qg 47 45 false (.mv (.t 3)) <|
    qg 48 45 false (.call F.service_Runs [(.t 46), (.t 47)]) <|
    qg 49 45 false (.un .not (.t 48)) <|
    qg 50 36 true (.pick (.t 45) (cb true) (.t 49)) <|
    q 51 (.pick (.t 36) (.t 50) (cb false)) <|
    q 8 (.mv (.t 51)) <|
    .keep [8] <|
    .ret)
    (.done) <|
  q 52 (.mv (.t 9)) <|
  q 53 (.mv (.t 52)) <|
  qg 54 53 true (.load true 5 (.t 10)) <|
  qg 55 53 true (.mv (.t 3)) <|
  qg 56 53 true (.call F.service_Runs [(.t 54), (.t 55)]) <|
  qg 57 53 true (.load true 5 (.t 10)) <|
  qg 58 53 true (.mv (.t 3)) <|
  qg 59 53 true (.bin .add (.t 58) (ci 7)) <|
  qg 60 53 true (.call F.service_Runs [(.t 57), (.t 59)]) <|
  qg 61 53 true (.eq false .b (.t 56) (.t 60)) <|
  q 62 (.pick (.t 53) (.t 61) (cb false)) <|
  q 8 (.mv (.t 62)) <|
  .keep [8] <|
  .ret
theorem ok_clapperlaw12_ServiceWeeks : compF Try.prog (pfx false) (fun d => [].contains d) Try.f6 = some ic_clapperlaw12_ServiceWeeks := by kernel_rfl
theorem e_clapperlaw12_ServiceWeeks {args : List AV} {H : AH} {v : AV} {H' : AH} (h : iwp (pfx false) (Called Try.prog) ic_clapperlaw12_ServiceWeeks (retQ [.t 8] H v H') (look (enterL 0 args)) H) : Called Try.prog F.clapperlaw12_ServiceWeeks args H v H' :=
  fn_called mixed (cmpok false) Try.func6 (by kernel_rfl) ok_clapperlaw12_ServiceWeeks (by kernel_rfl) h

def ic_clapperlaw12_ServiceRuns : IC :=
  q 3 (.box (.t 0)) <|
  q 6 (.mv (cb false)) <|
  .keep [1, 2, 3] <|
  q 13 (.call F.clapperlaw12_up []) <|
  q 7 (.mv (.t 13)) <|
  .keep [1, 2, 3, 7] <|
  q 14 (.fld 3 (.t 3)) <|
  q 15 (.load false 1 (.t 14)) <|
  q 16 (.len false (.t 15)) <|
  q 17 (.bin .gtr (.t 16) (ci 300)) <|
  q 18 (.mv (.t 17)) <|
  qg 19 18 false (.fld 4 (.t 3)) <|
  qg 20 18 false (.load false 1 (.t 19)) <|
  qg 21 18 false (.len false (.t 20)) <|
  qg 22 18 false (.bin .gtr (.t 21) (ci 300)) <|
  q 23 (.pick (.t 18) (cb true) (.t 22)) <|
  .keep [1, 2, 3, 7, 23] <|
  .ite (.t 23)
    (q 24 (.mv (.t 7)) <|
    q 6 (.mv (.t 24)) <|
    .keep [6] <|
    .ret)
    (.done) <|
  q 25 (.load true 5 (.t 3)) <|
  q 26 (.call F.clapperref12_May [(.t 25)]) <|
  q 8 (.mv (.t 26)) <|
  .keep [1, 2, 3, 7, 8] <|
  q 27 (.mv (.t 8)) <|
  q 28 (.mv (.t 27)) <|
  qg 29 28 true (.load true 5 (.t 3)) <|
  qg 30 28 true (.mv (.t 1)) <|
  qg 31 28 true (.call F.clapperref12_Runs [(.t 29), (.t 30)]) <|
  q 32 (.pick (.t 28) (.t 31) (cb false)) <|
  q 9 (.mv (.t 32)) <|
  .keep [1, 2, 3, 7, 8, 9] <|
  q 34 (.mv (.t 2)) <|
  q 35 (.call F.service_On [(.t 34)]) <|
  q 33 (.mv (.t 35)) <|
  q 36 (.ext (.t 33) 0) <|
  q 37 (.ext (.t 33) 1) <|
  q 38 (.ext (.t 33) 2) <|
  q 10 (.mv (.t 36)) <|
  q 11 (.mv (.t 37)) <|
  q 12 (.mv (.t 38)) <|
  .keep [1, 2, 3, 7, 8, 9, 10, 11, 12] <|
  q 39 (.load true 5 (.t 3)) <|
  q 40 (.call F.service_May [(.t 39)]) <|
  q 41 (.mv (.t 8)) <|
  q 42 (.eq true .b (.t 40) (.t 41)) <|
  q 43 (.mv (.t 42)) <|
  qg 44 43 false (.load true 5 (.t 3)) <|
  qg 45 43 false (.mv (.t 1)) <|
  qg 46 43 false (.call F.service_Runs [(.t 44), (.t 45)]) <|
  qg 47 43 false (.mv (.t 9)) <|
  qg 48 43 false (.eq true .b (.t 46) (.t 47)) <|
  q 49 (.pick (.t 43) (cb true) (.t 48)) <|
  .keep [2, 7, 10, 11, 12, 49] <|
  .ite (.t 49)
    (q 6 (.mv (cb false)) <|
    .keep [6] <|
    .ret)
    (.done) <|
  q 50 (.mv (.t 2)) <|
  q 51 (.bin .lss (.t 50) (ci 0)) <|
  q 52 (.mv (.t 51)) <|
  qg 53 52 false (.mv (.t 2)) <|
  qg 54 52 false (.bin .gtr (.t 53) (ci 1073741824)) <|
  q 55 (.pick (.t 52) (cb true) (.t 54)) <|
  .keep [2, 7, 10, 11, 12, 55] <|
  .ite (.t 55)
    (q 56 (.mv (.t 7)) <|
    q 57 (.mv (.t 56)) <|
    qg 58 57 true (.mv (.t 12)) <|
    qg 59 57 true (.mkif T.api_Code (ci 1)) <|
    qg 60 57 true (.eq false .i (.t 58) (.t 59)) <|
    q 61 (.pick (.t 57) (.t 60) (cb false)) <|
    q 62 (.mv (.t 61)) <|
    qg 63 62 true (.mv (.t 10)) <|
    qg 64 62 true (.bin .eql (.t 63) (ci 0)) <|
    q 65 (.pick (.t 62) (.t 64) (cb false)) <|
    q 66 (.mv (.t 65)) <|
    qg 67 66 true (.mv (.t 11)) <|
    qg 68 66 true (.bin .eql (.t 67) (ci 0)) <|
    q 69 (.pick (.t 66) (.t 68) (cb false)) <|
    q 6 (.mv (.t 69)) <|
    .keep [6] <|
    .ret)
    (.done) <|
  q 70 (.mv (.t 7)) <|
  q 71 (.mv (.t 70)) <|
  qg 72 71 true (.mv (.t 12)) <|
  qg 73 71 true (.eq false .i (.t 72) (.c (.nilIface))) <|
  q 74 (.pick (.t 71) (.t 73) (cb false)) <|
  q 75 (.mv (.t 74)) <|
  qg 76 75 true (.mv (.t 10)) <|
  qg 77 75 true (.bin .mul (ci 1440) (.t 76)) <|
  qg 78 75 true (.mv (.t 11)) <|
  qg 79 75 true (.bin .add (.t 77) (.t 78)) <|
  qg 80 75 true (.mv (.t 2)) <|
  qg 81 75 true (.bin .eql (.t 79) (.t 80)) <|
  q 82 (.pick (.t 75) (.t 81) (cb false)) <|
  q 83 (.mv (.t 82)) <|
  qg 84 83 true (.mv (.t 11)) <|
  qg 85 83 true (.bin .geq (.t 84) (ci 0)) <|
  q 86 (.pick (.t 83) (.t 85) (cb false)) <|
  q 87 (.mv (.t 86)) <|
  qg 88 87 true (.mv (.t 11)) <|
  qg 89 87 true (.bin .lss (.t 88) (ci 1440)) <|
  q 90 (.pick (.t 87) (.t 89) (cb false)) <|
  q 6 (.mv (.t 90)) <|
  .keep [6] <|
  .ret
theorem ok_clapperlaw12_ServiceRuns : compF Try.prog (pfx false) (fun d => [].contains d) Try.f7 = some ic_clapperlaw12_ServiceRuns := by kernel_rfl
theorem e_clapperlaw12_ServiceRuns {args : List AV} {H : AH} {v : AV} {H' : AH} (h : iwp (pfx false) (Called Try.prog) ic_clapperlaw12_ServiceRuns (retQ [.t 6] H v H') (look (enterL 0 args)) H) : Called Try.prog F.clapperlaw12_ServiceRuns args H v H' :=
  fn_called mixed (cmpok false) Try.func7 (by kernel_rfl) ok_clapperlaw12_ServiceRuns (by kernel_rfl) h

def ic_clapperlaw12_up : IC :=
  q 0 (.mv (cb false)) <|
  .keep [] <|
  q 4 (.build [.int .i64 0, .int .i64 0, .int .i64 0, .slice none 0 0, .slice none 0 0] [(0, 1, (ci 2)), (2, 1, (ci 14))]) <|
  q 1 (.alloc [.int .i64 0, .int .i64 0, .int .i64 0, .slice none 0 0, .slice none 0 0]) <|
  qn (.store 5 (.t 1) (.t 4)) <|
  .keep [1] <|
  q 6 (.load true 5 (.t 1)) <|
  q 7 (.call F.service_Next [(.t 6), (ci 2)]) <|
  q 5 (.mv (.t 7)) <|
  q 8 (.ext (.t 5) 0) <|
  q 9 (.ext (.t 5) 1) <|
  q 2 (.mv (.t 8)) <|
  q 3 (.mv (.t 9)) <|
  .keep [1, 2, 3] <|
  q 10 (.load true 5 (.t 1)) <|
  q 11 (.call F.service_Runs [(.t 10), (ci 1)]) <|
  q 12 (.mv (.t 11)) <|
  qg 13 12 true (.load true 5 (.t 1)) <|
  qg 14 12 true (.call F.service_Runs [(.t 13), (ci 8)]) <|
  q 15 (.pick (.t 12) (.t 14) (cb false)) <|
  q 16 (.mv (.t 15)) <|
  qg 17 16 true (.load true 5 (.t 1)) <|
  qg 18 16 true (.call F.service_Runs [(.t 17), (ci 15)]) <|
  qg 19 16 true (.un .not (.t 18)) <|
  q 20 (.pick (.t 16) (.t 19) (cb false)) <|
  q 21 (.mv (.t 20)) <|
  qg 22 21 true (.mv (.t 3)) <|
  q 23 (.pick (.t 21) (.t 22) (cb false)) <|
  q 24 (.mv (.t 23)) <|
  qg 25 24 true (.mv (.t 2)) <|
  qg 26 24 true (.bin .eql (.t 25) (ci 8)) <|
  q 27 (.pick (.t 24) (.t 26) (cb false)) <|
  q 0 (.mv (.t 27)) <|
  .keep [0] <|
  .ret
theorem ok_clapperlaw12_up : compF Try.prog (pfx false) (fun d => [].contains d) Try.f20 = some ic_clapperlaw12_up := by kernel_rfl
theorem e_clapperlaw12_up {args : List AV} {H : AH} {v : AV} {H' : AH} (h : iwp (pfx false) (Called Try.prog) ic_clapperlaw12_up (retQ [.t 0] H v H') (look (enterL 0 args)) H) : Called Try.prog F.clapperlaw12_up args H v H' :=
  fn_called mixed (cmpok false) Try.func20 (by kernel_rfl) ok_clapperlaw12_up (by kernel_rfl) h

def ic_service_Next : IC :=
  q 2 (.box (.t 0)) <|
  q 3 (.box (.t 1)) <|
  q 4 (.mv (ci 0)) <|
  q 5 (.mv (cb false)) <|
  .keep [2, 3] <|
  q 12 (.load true 5 (.t 2)) <|
  q 13 (.call F.service_May [(.t 12)]) <|
  q 14 (.un .not (.t 13)) <|
  q 15 (.mv (.t 14)) <|
  qg 16 15 false (.load false 1 (.t 3)) <|
  qg 17 15 false (.bin .lss (.t 16) (ci 0)) <|
  q 18 (.pick (.t 15) (cb true) (.t 17)) <|
  .keep [2, 3, 18] <|
  .ite (.t 18)
    (q 4 (.mv (ci 0)) <|
    q 5 (.mv (cb false)) <|
    .keep [4, 5] <|
    .ret)
    (.done) <|
  q 6 (.alloc [.int .i64 0]) <|
  qn (.store 1 (.t 6) (ci (-1))) <|
  .keep [2, 3, 6] <|
  q 19 (.mkfn (.func F.service_Next_1) [] [(.t 3), (.t 6), (.t 2)]) <|
  q 7 (.mv (.t 19)) <|
  .keep [2, 3, 6, 7] <|
  q 20 (.fld 3 (.t 2)) <|
  q 21 (.load false 1 (.t 20)) <|
  q 22 (.len false (.t 21)) <|
  q 23 (.mv (ci 0)) <|
  .keep [2, 3, 6, 7, 21, 22, 23] <|
  .block 0
    (.keep [2, 3, 6, 7, 21, 22, 23] <|
    .loop
      (q 24 (.bin .lss (.t 23) (.t 22)) <|
      .keep [2, 3, 6, 7, 21, 22, 23, 24] <|
      .ite (.t 24)
        (.done)
        (.exit 0) <|
      .block 1
        (q 25 (.idxa 1 none (.t 21) (.t 23)) <|
        q 26 (.load false 1 (.t 25)) <|
        q 9 (.mv (.t 26)) <|
        .keep [2, 3, 6, 7, 9, 21, 22, 23] <|
        q 27 (.mv (.t 7)) <|
        q 28 (.mv (.t 9)) <|
        q 29 (.callv (.t 27) [(.t 28)]) <|
        .keep [2, 3, 6, 7, 21, 22, 23] <|
        .done) <|
      q 30 (.bin .add (.t 23) (ci 1)) <|
      q 23 (.mv (.t 30)) <|
      .keep [2, 3, 6, 7, 21, 22, 23] <|
      .keep [2, 3, 6, 7, 21, 22, 23] <|
      .done)) <|
  q 31 (.load false 1 (.t 3)) <|
  q 32 (.fld 1 (.t 2)) <|
  q 33 (.load false 1 (.t 32)) <|
  q 34 (.mx (.t 31) (.t 33)) <|
  q 10 (.mv (.t 34)) <|
  .keep [2, 6, 7, 10] <|
  q 35 (.mv (.t 10)) <|
  q 11 (.mv (.t 35)) <|
  .keep [2, 6, 7, 10, 11] <|
  .block 2
    (.keep [2, 6, 7, 10, 11] <|
    .loop
      (q 36 (.mv (.t 11)) <|
      q 37 (.fld 2 (.t 2)) <|
      q 38 (.load false 1 (.t 37)) <|
      q 39 (.bin .lss (.t 36) (.t 38)) <|
      q 40 (.mv (.t 39)) <|
      qg 41 40 true (.mv (.t 11)) <|
      qg 42 40 true (.mv (.t 10)) <|
      qg 43 40 true (.fld 4 (.t 2)) <|
      qg 44 40 true (.load false 1 (.t 43)) <|
      qg 45 40 true (.len false (.t 44)) <|
      qg 46 40 true (.bin .add (.t 45) (ci 1)) <|
      qg 47 40 true (.bin .mul (ci 7) (.t 46)) <|
      qg 48 40 true (.bin .add (.t 42) (.t 47)) <|
      qg 49 40 true (.bin .lss (.t 41) (.t 48)) <|
      q 50 (.pick (.t 40) (.t 49) (cb false)) <|
      .keep [2, 6, 7, 10, 11, 50] <|
      .ite (.t 50)
        (.done)
        (.exit 2) <|
      .block 3
        (q 53 (.mv (.t 7)) <|
        q 54 (.mv (.t 11)) <|
        q 55 (.callv (.t 53) [(.t 54)]) <|
        .keep [2, 6, 7, 10, 11] <|
        .done) <|
      q 51 (.mv (.t 11)) <|
      q 52 (.bin .add (.t 51) (ci 1)) <|
      q 11 (.mv (.t 52)) <|
      .keep [2, 6, 7, 10, 11] <|
      .keep [2, 6, 7, 10, 11] <|
      .done)) <|
  q 56 (.load false 1 (.t 6)) <|
  q 57 (.mx (.t 56) (ci 0)) <|
  q 58 (.load false 1 (.t 6)) <|
  q 59 (.bin .geq (.t 58) (ci 0)) <|
  q 4 (.mv (.t 57)) <|
  q 5 (.mv (.t 59)) <|
  .keep [4, 5] <|
  .ret
theorem ok_service_Next : compF Try.prog (pfx false) (fun d => [].contains d) Try.f21 = some ic_service_Next := by kernel_rfl
theorem e_service_Next {args : List AV} {H : AH} {v : AV} {H' : AH} (h : iwp (pfx false) (Called Try.prog) ic_service_Next (retQ [.t 4, .t 5] H v H') (look (enterL 0 args)) H) : Called Try.prog F.service_Next args H v H' :=
  fn_called mixed (cmpok false) Try.func21 (by kernel_rfl) ok_service_Next (by kernel_rfl) h

def ic_clapperref12_May : IC :=
  q 1 (.box (.t 0)) <|
  q 2 (.mv (cb false)) <|
  .keep [1] <|
  q 7 (.fld 3 (.t 1)) <|
  q 8 (.load false 1 (.t 7)) <|
  q 9 (.len false (.t 8)) <|
  q 10 (.bin .gtr (.t 9) (ci 100)) <|
  q 11 (.mv (.t 10)) <|
  qg 12 11 false (.fld 4 (.t 1)) <|
  qg 13 11 false (.load false 1 (.t 12)) <|
  qg 14 11 false (.len false (.t 13)) <|
  qg 15 11 false (.bin .gtr (.t 14) (ci 100)) <|
  q 16 (.pick (.t 11) (cb true) (.t 15)) <|
  .keep [1, 16] <|
  .ite (.t 16)
    (q 2 (.mv (cb false)) <|
    .keep [2] <|
    .ret)
    (.done) <|
  q 17 (.fld 3 (.t 1)) <|
  q 18 (.load false 1 (.t 17)) <|
  q 19 (.call F.clapperref12_days [(.t 18)]) <|
  q 3 (.mv (.t 19)) <|
  .keep [1, 3] <|
  q 20 (.fld 4 (.t 1)) <|
  q 21 (.load false 1 (.t 20)) <|
  q 22 (.call F.clapperref12_days [(.t 21)]) <|
  q 4 (.mv (.t 22)) <|
  .keep [1, 3, 4] <|
  q 5 (.mv (ci 0)) <|
  .keep [1, 3, 4, 5] <|
  .block 0
    (.keep [1, 3, 4, 5] <|
    .loop
      (q 23 (.mv (.t 5)) <|
      q 24 (.fld 3 (.t 1)) <|
      q 25 (.load false 1 (.t 24)) <|
      q 26 (.len false (.t 25)) <|
      q 27 (.bin .lss (.t 23) (.t 26)) <|
      .keep [1, 3, 4, 5, 27] <|
      .ite (.t 27)
        (.done)
        (.exit 0) <|
      .block 1
        (q 30 (.fld 4 (.t 1)) <|
        q 31 (.load false 1 (.t 30)) <|
        q 32 (.fld 3 (.t 1)) <|
        q 33 (.load false 1 (.t 32)) <|
        q 34 (.mv (.t 5)) <|
        q 35 (.idxa 1 none (.t 33) (.t 34)) <|
        q 36 (.load false 1 (.t 35)) <|
        q 37 (.call F.clapperref12_in [(.t 31), (.t 36)]) <|
        q 6 (.mv (.t 37)) <|
        .keep [1, 3, 4, 5, 6] <|
        q 38 (.mv (.t 6)) <|
        .keep [1, 3, 4, 5, 38] <|
        .ite (.t 38)
          (q 2 (.mv (cb false)) <|
          .keep [2] <|
          .ret)
          (.done) <|
        .done) <|
      q 28 (.mv (.t 5)) <|
      q 29 (.bin .add (.t 28) (ci 1)) <|
      q 5 (.mv (.t 29)) <|
      .keep [1, 3, 4, 5] <|
      .keep [1, 3, 4, 5] <|
      .done)) <|
  q 39 (.mv (.t 3)) <|
  q 40 (.mv (.t 39)) <|
  qg 41 40 true (.mv (.t 4)) <|
  q 42 (.pick (.t 40) (.t 41) (cb false)) <|
  q 43 (.mv (.t 42)) <|
  qg 44 43 true (.fld 0 (.t 1)) <|
  qg 45 43 true (.load false 1 (.t 44)) <|
  qg 46 43 true (.bin .geq (.t 45) (ci 0)) <|
  q 47 (.pick (.t 43) (.t 46) (cb false)) <|
  q 48 (.mv (.t 47)) <|
  qg 49 48 true (.fld 0 (.t 1)) <|
  qg 50 48 true (.load false 1 (.t 49)) <|
  qg 51 48 true (.bin .leq (.t 50) (ci 127)) <|
  q 52 (.pick (.t 48) (.t 51) (cb false)) <|
  q 53 (.mv (.t 52)) <|
  qg 54 53 true (.fld 1 (.t 1)) <|
  qg 55 53 true (.load false 1 (.t 54)) <|
  qg 56 53 true (.bin .geq (.t 55) (ci 0)) <|
  q 57 (.pick (.t 53) (.t 56) (cb false)) <|
  q 58 (.mv (.t 57)) <|
  qg 59 58 true (.fld 1 (.t 1)) <|
  qg 60 58 true (.load false 1 (.t 59)) <|
  qg 61 58 true (.fld 2 (.t 1)) <|
  qg 62 58 true (.load false 1 (.t 61)) <|
  qg 63 58 true (.bin .leq (.t 60) (.t 62)) <|
  q 64 (.pick (.t 58) (.t 63) (cb false)) <|
  q 65 (.mv (.t 64)) <|
  qg 66 65 true (.fld 2 (.t 1)) <|
  qg 67 65 true (.load false 1 (.t 66)) <|
  qg 68 65 true (.bin .leq (.t 67) (ci 1048576)) <|
  q 69 (.pick (.t 65) (.t 68) (cb false)) <|
  q 2 (.mv (.t 69)) <|
  .keep [2] <|
  .ret
theorem ok_clapperref12_May : compF Try.prog (pfx false) (fun d => [].contains d) Try.f22 = some ic_clapperref12_May := by kernel_rfl
theorem e_clapperref12_May {args : List AV} {H : AH} {v : AV} {H' : AH} (h : iwp (pfx false) (Called Try.prog) ic_clapperref12_May (retQ [.t 2] H v H') (look (enterL 0 args)) H) : Called Try.prog F.clapperref12_May args H v H' :=
  fn_called mixed (cmpok false) Try.func22 (by kernel_rfl) ok_clapperref12_May (by kernel_rfl) h

def ic_clapperref12_Next : IC :=
  q 2 (.box (.t 0)) <|
  q 4 (.mv (ci 0)) <|
  .keep [1, 2] <|
  q 7 (.mv (.t 1)) <|
  q 5 (.mv (.t 7)) <|
  .keep [1, 2, 5] <|
  .block 0
    (.keep [1, 2, 5] <|
    .loop
      (q 8 (.mv (.t 5)) <|
      q 9 (.mv (.t 1)) <|
      q 10 (.bin .add (.t 9) (ci 3000)) <|
      q 11 (.bin .lss (.t 8) (.t 10)) <|
      .keep [1, 2, 5, 11] <|
      .ite (.t 11)
        (.done)
        (.exit 0) <|
      .block 1
        (q 14 (.load true 5 (.t 2)) <|
        q 15 (.mv (.t 5)) <|
        q 16 (.call F.clapperref12_Runs [(.t 14), (.t 15)]) <|
        q 6 (.mv (.t 16)) <|
        .keep [1, 2, 5, 6] <|
        q 17 (.mv (.t 6)) <|
        .keep [1, 2, 5, 17] <|
        .ite (.t 17)
          (q 18 (.mv (.t 5)) <|
          q 4 (.mv (.t 18)) <|
          .keep [4] <|
          .ret)
          (.done) <|
        .done) <|
      q 12 (.mv (.t 5)) <|
      q 13 (.bin .add (.t 12) (ci 1)) <|
      q 5 (.mv (.t 13)) <|
      .keep [1, 2, 5] <|
      .keep [1, 2, 5] <|
      .done)) <|
  q 4 (.mv (ci (-1))) <|
  .keep [4] <|
  .ret
theorem ok_clapperref12_Next : compF Try.prog (pfx false) (fun d => [].contains d) Try.f23 = some ic_clapperref12_Next := by kernel_rfl
theorem e_clapperref12_Next {args : List AV} {H : AH} {v : AV} {H' : AH} (h : iwp (pfx false) (Called Try.prog) ic_clapperref12_Next (retQ [.t 4] H v H') (look (enterL 0 args)) H) : Called Try.prog F.clapperref12_Next args H v H' :=
  fn_called mixed (cmpok false) Try.func23 (by kernel_rfl) ok_clapperref12_Next (by kernel_rfl) h

def ic_service_Runs : IC :=
  q 2 (.box (.t 0)) <|
  q 4 (.mv (cb false)) <|
  .keep [1, 2] <|
  q 5 (.load true 5 (.t 2)) <|
  q 6 (.call F.service_May [(.t 5)]) <|
  q 7 (.mv (.t 6)) <|
  qg 8 7 true (.load true 5 (.t 2)) <|
  qg 9 7 true (.mv (.t 1)) <|
  qg 10 7 true (.call F.service_runs [(.t 8), (.t 9)]) <|
  q 11 (.pick (.t 7) (.t 10) (cb false)) <|
  q 4 (.mv (.t 11)) <|
  .keep [4] <|
  .ret
theorem ok_service_Runs : compF Try.prog (pfx false) (fun d => [].contains d) Try.f24 = some ic_service_Runs := by kernel_rfl
theorem e_service_Runs {args : List AV} {H : AH} {v : AV} {H' : AH} (h : iwp (pfx false) (Called Try.prog) ic_service_Runs (retQ [.t 4] H v H') (look (enterL 0 args)) H) : Called Try.prog F.service_Runs args H v H' :=
  fn_called mixed (cmpok false) Try.func24 (by kernel_rfl) ok_service_Runs (by kernel_rfl) h

def ic_service_May : IC :=
  q 1 (.box (.t 0)) <|
  q 2 (.mv (cb false)) <|
  .keep [1] <|
  q 4 (.mkfn (.func F.service_May_1) [] [(.t 1)]) <|
  q 3 (.mv (.t 4)) <|
  .keep [1, 3] <|
  q 5 (.fld 0 (.t 1)) <|
  q 6 (.load false 1 (.t 5)) <|
  q 7 (.bin .geq (.t 6) (ci 0)) <|
  q 8 (.mv (.t 7)) <|
  qg 9 8 true (.fld 0 (.t 1)) <|
  qg 10 8 true (.load false 1 (.t 9)) <|
  qg 11 8 true (.bin .lss (.t 10) (ci 128)) <|
  q 12 (.pick (.t 8) (.t 11) (cb false)) <|
  q 13 (.mv (.t 12)) <|
  qg 14 13 true (.fld 1 (.t 1)) <|
  qg 15 13 true (.load false 1 (.t 14)) <|
  qg 16 13 true (.bin .geq (.t 15) (ci 0)) <|
  q 17 (.pick (.t 13) (.t 16) (cb false)) <|
  q 18 (.mv (.t 17)) <|
  qg 19 18 true (.fld 1 (.t 1)) <|
  qg 20 18 true (.load false 1 (.t 19)) <|
  qg 21 18 true (.fld 2 (.t 1)) <|
  qg 22 18 true (.load false 1 (.t 21)) <|
  qg 23 18 true (.bin .leq (.t 20) (.t 22)) <|
  q 24 (.pick (.t 18) (.t 23) (cb false)) <|
  q 25 (.mv (.t 24)) <|
  qg 26 25 true (.fld 2 (.t 1)) <|
  qg 27 25 true (.load false 1 (.t 26)) <|
  qg 28 25 true (.bin .leq (.t 27) (ci 1048576)) <|
  q 29 (.pick (.t 25) (.t 28) (cb false)) <|
  q 30 (.mv (.t 29)) <|
  qg 31 30 true (.fld 3 (.t 1)) <|
  qg 32 30 true (.load false 1 (.t 31)) <|
  qg 33 30 true (.call F.service_days [(.t 32)]) <|
  q 34 (.pick (.t 30) (.t 33) (cb false)) <|
  q 35 (.mv (.t 34)) <|
  qg 36 35 true (.fld 4 (.t 1)) <|
  qg 37 35 true (.load false 1 (.t 36)) <|
  qg 38 35 true (.call F.service_days [(.t 37)]) <|
  q 39 (.pick (.t 35) (.t 38) (cb false)) <|
  q 40 (.mv (.t 39)) <|
  qg 41 40 true (.fld 3 (.t 1)) <|
  qg 42 40 true (.load false 1 (.t 41)) <|
  qg 43 40 true (.mv (.t 3)) <|
  qg 44 40 true (.call F.slices_ContainsFunc_int_int [(.t 42), (.t 43)]) <|
  qg 45 40 true (.un .not (.t 44)) <|
  q 46 (.pick (.t 40) (.t 45) (cb false)) <|
  q 2 (.mv (.t 46)) <|
  .keep [2] <|
  .ret
theorem ok_service_May : compF Try.prog (pfx false) (fun d => [].contains d) Try.f25 = some ic_service_May := by kernel_rfl
theorem e_service_May {args : List AV} {H : AH} {v : AV} {H' : AH} (h : iwp (pfx false) (Called Try.prog) ic_service_May (retQ [.t 2] H v H') (look (enterL 0 args)) H) : Called Try.prog F.service_May args H v H' :=
  fn_called mixed (cmpok false) Try.func25 (by kernel_rfl) ok_service_May (by kernel_rfl) h

def ic_clapperref12_Runs : IC :=
  q 2 (.box (.t 0)) <|
  q 4 (.mv (cb false)) <|
  .keep [1, 2] <|
  q 9 (.fld 3 (.t 2)) <|
  q 10 (.load false 1 (.t 9)) <|
  q 11 (.mv (.t 1)) <|
  q 12 (.call F.clapperref12_in [(.t 10), (.t 11)]) <|
  q 5 (.mv (.t 12)) <|
  .keep [1, 2, 5] <|
  q 13 (.fld 4 (.t 2)) <|
  q 14 (.load false 1 (.t 13)) <|
  q 15 (.mv (.t 1)) <|
  q 16 (.call F.clapperref12_in [(.t 14), (.t 15)]) <|
  q 6 (.mv (.t 16)) <|
  .keep [1, 2, 5, 6] <|
  q 17 (.mv (.t 5)) <|
  .keep [1, 2, 6, 17] <|
  .ite (.t 17)
    (q 4 (.mv (cb true)) <|
    .keep [4] <|
    .ret)
    (.done) <|
  q 18 (.mv (.t 6)) <|
  q 19 (.mv (.t 18)) <|
  qg 20 19 false (.mv (.t 1)) <|
  qg 21 19 false (.fld 1 (.t 2)) <|
  qg 22 19 false (.load false 1 (.t 21)) <|
  qg 23 19 false (.bin .lss (.t 20) (.t 22)) <|
  q 24 (.pick (.t 19) (cb true) (.t 23)) <|
  q 25 (.mv (.t 24)) <|
  qg 26 25 false (.mv (.t 1)) <|
  qg 27 25 false (.fld 2 (.t 2)) <|
  qg 28 25 false (.load false 1 (.t 27)) <|
  qg 29 25 false (.bin .geq (.t 26) (.t 28)) <|
  q 30 (.pick (.t 25) (cb true) (.t 29)) <|
  .keep [1, 2, 30] <|
  .ite (.t 30)
    (q 4 (.mv (cb false)) <|
    .keep [4] <|
    .ret)
    (.done) <|
  q 31 (.fld 0 (.t 2)) <|
  q 32 (.load false 1 (.t 31)) <|
  q 7 (.mv (.t 32)) <|
  .keep [1, 7] <|
  q 8 (.mv (ci 0)) <|
  .keep [1, 7, 8] <|
  .block 0
    (.keep [1, 7, 8] <|
    .loop
      (q 33 (.mv (.t 8)) <|
      q 34 (.mv (.t 1)) <|
      q 35 (.bin .rem (.t 34) (ci 7)) <|
      q 36 (.bin .lss (.t 33) (.t 35)) <|
      .keep [1, 7, 8, 36] <|
      .ite (.t 36)
        (.done)
        (.exit 0) <|
      .block 1
        (q 39 (.mv (.t 7)) <|
        q 40 (.bin .quo (.t 39) (ci 2)) <|
        q 7 (.mv (.t 40)) <|
        .keep [1, 7, 8] <|
        .done) <|
      q 37 (.mv (.t 8)) <|
      q 38 (.bin .add (.t 37) (ci 1)) <|
      q 8 (.mv (.t 38)) <|
      .keep [1, 7, 8] <|
      .keep [1, 7, 8] <|
      .done)) <|
  q 41 (.mv (.t 7)) <|
  q 42 (.bin .rem (.t 41) (ci 2)) <|
  q 43 (.bin .eql (.t 42) (ci 1)) <|
  q 4 (.mv (.t 43)) <|
  .keep [4] <|
  .ret
theorem ok_clapperref12_Runs : compF Try.prog (pfx false) (fun d => [].contains d) Try.f26 = some ic_clapperref12_Runs := by kernel_rfl
theorem e_clapperref12_Runs {args : List AV} {H : AH} {v : AV} {H' : AH} (h : iwp (pfx false) (Called Try.prog) ic_clapperref12_Runs (retQ [.t 4] H v H') (look (enterL 0 args)) H) : Called Try.prog F.clapperref12_Runs args H v H' :=
  fn_called mixed (cmpok false) Try.func26 (by kernel_rfl) ok_clapperref12_Runs (by kernel_rfl) h

def ic_service_On : IC :=
  q 2 (.mv (ci 0)) <|
  q 3 (.mv (ci 0)) <|
  q 4 (.mv (.c (.nilIface))) <|
  .keep [0] <|
  q 5 (.mv (.t 0)) <|
  q 6 (.bin .lss (.t 5) (ci 0)) <|
  q 7 (.mv (.t 6)) <|
  qg 8 7 false (.mv (.t 0)) <|
  qg 9 7 false (.bin .gtr (.t 8) (ci 1073741824)) <|
  q 10 (.pick (.t 7) (cb true) (.t 9)) <|
  .keep [0, 10] <|
  .ite (.t 10)
    (q 11 (.mkif T.api_Code (ci 1)) <|
    q 2 (.mv (ci 0)) <|
    q 3 (.mv (ci 0)) <|
    q 4 (.mv (.t 11)) <|
    .keep [2, 3, 4] <|
    .ret)
    (.done) <|
  q 12 (.mv (.t 0)) <|
  q 13 (.bin .quo (.t 12) (ci 1440)) <|
  q 14 (.mv (.t 0)) <|
  q 15 (.bin .rem (.t 14) (ci 1440)) <|
  q 2 (.mv (.t 13)) <|
  q 3 (.mv (.t 15)) <|
  q 4 (.mv (.c (.nilIface))) <|
  .keep [2, 3, 4] <|
  .ret
theorem ok_service_On : compF Try.prog (pfx false) (fun d => [].contains d) Try.f27 = some ic_service_On := by kernel_rfl
theorem e_service_On {args : List AV} {H : AH} {v : AV} {H' : AH} (h : iwp (pfx false) (Called Try.prog) ic_service_On (retQ [.t 2, .t 3, .t 4] H v H') (look (enterL 0 args)) H) : Called Try.prog F.service_On args H v H' :=
  fn_called mixed (cmpok false) Try.func27 (by kernel_rfl) ok_service_On (by kernel_rfl) h

def ic_service_Next_1 : IC :=
  q 5 (.mv (.t 0)) <|
  q 6 (.load false 1 (.t 1)) <|
  q 7 (.bin .geq (.t 5) (.t 6)) <|
  q 8 (.mv (.t 7)) <|
  qg 9 8 true (.load false 1 (.t 2)) <|
  qg 10 8 true (.bin .lss (.t 9) (ci 0)) <|
  qg 11 8 true (.mv (.t 10)) <|
  qg 12 11 false (.mv (.t 0)) <|
  qg 13 11 false (.load false 1 (.t 2)) <|
  qg 14 11 false (.bin .lss (.t 12) (.t 13)) <|
  qg 15 8 true (.pick (.t 11) (cb true) (.t 14)) <|
  q 16 (.pick (.t 8) (.t 15) (cb false)) <|
  q 17 (.mv (.t 16)) <|
  qg 18 17 true (.load true 5 (.t 3)) <|
  qg 19 17 true (.mv (.t 0)) <|
  qg 20 17 true (.call F.service_runs [(.t 18), (.t 19)]) <|
  q 21 (.pick (.t 17) (.t 20) (cb false)) <|
  .keep [0, 2, 21] <|
  .ite (.t 21)
    (q 22 (.mv (.t 0)) <|
    qn (.store 1 (.t 2) (.t 22)) <|
    .keep [] <|
    .done)
    (.done) <|
  .ret
theorem ok_service_Next_1 : compF Try.prog (pfx false) (fun d => [].contains d) Try.f46 = some ic_service_Next_1 := by kernel_rfl
theorem e_service_Next_1 {args : List AV} {H : AH} {v : AV} {H' : AH} (h : iwp (pfx false) (Called Try.prog) ic_service_Next_1 (retQ [] H v H') (look (enterL 0 args)) H) : Called Try.prog F.service_Next_1 args H v H' :=
  fn_called mixed (cmpok false) Try.func46 (by kernel_rfl) ok_service_Next_1 (by kernel_rfl) h

def ic_service_runs : IC :=
  q 2 (.box (.t 0)) <|
  q 4 (.mv (cb false)) <|
  .keep [1, 2] <|
  q 5 (.fld 3 (.t 2)) <|
  q 6 (.load false 1 (.t 5)) <|
  q 7 (.mv (.t 1)) <|
  q 8 (.call F.slices_Contains_int_int [(.t 6), (.t 7)]) <|
  .keep [1, 2, 8] <|
  .ite (.t 8)
    (q 4 (.mv (cb true)) <|
    .keep [4] <|
    .ret)
    (.done) <|
  q 9 (.mv (.t 1)) <|
  q 10 (.fld 1 (.t 2)) <|
  q 11 (.load false 1 (.t 10)) <|
  q 12 (.bin .geq (.t 9) (.t 11)) <|
  q 13 (.mv (.t 12)) <|
  qg 14 13 true (.mv (.t 1)) <|
  qg 15 13 true (.fld 2 (.t 2)) <|
  qg 16 13 true (.load false 1 (.t 15)) <|
  qg 17 13 true (.bin .lss (.t 14) (.t 16)) <|
  q 18 (.pick (.t 13) (.t 17) (cb false)) <|
  q 19 (.mv (.t 18)) <|
  qg 20 19 true (.fld 0 (.t 2)) <|
  qg 21 19 true (.load false 1 (.t 20)) <|
  qg 22 19 true (.mv (.t 1)) <|
  qg 23 19 true (.bin .rem (.t 22) (ci 7)) <|
  qg 24 19 true (.bin .shr (.t 21) (.t 23)) <|
  qg 25 19 true (.bin .and (.t 24) (ci 1)) <|
  qg 26 19 true (.bin .eql (.t 25) (ci 1)) <|
  q 27 (.pick (.t 19) (.t 26) (cb false)) <|
  q 28 (.mv (.t 27)) <|
  qg 29 28 true (.fld 4 (.t 2)) <|
  qg 30 28 true (.load false 1 (.t 29)) <|
  qg 31 28 true (.mv (.t 1)) <|
  qg 32 28 true (.call F.slices_Contains_int_int [(.t 30), (.t 31)]) <|
  qg 33 28 true (.un .not (.t 32)) <|
  q 34 (.pick (.t 28) (.t 33) (cb false)) <|
  q 4 (.mv (.t 34)) <|
  .keep [4] <|
  .ret
theorem ok_service_runs : compF Try.prog (pfx false) (fun d => [].contains d) Try.f47 = some ic_service_runs := by kernel_rfl
theorem e_service_runs {args : List AV} {H : AH} {v : AV} {H' : AH} (h : iwp (pfx false) (Called Try.prog) ic_service_runs (retQ [.t 4] H v H') (look (enterL 0 args)) H) : Called Try.prog F.service_runs args H v H' :=
  fn_called mixed (cmpok false) Try.func47 (by kernel_rfl) ok_service_runs (by kernel_rfl) h

def ic_clapperref12_days : IC :=
  q 2 (.mv (cb false)) <|
  .keep [0] <|
  q 3 (.mv (ci 0)) <|
  .keep [0, 3] <|
  .block 0
    (.keep [0, 3] <|
    .loop
      (q 4 (.mv (.t 3)) <|
      q 5 (.mv (.t 0)) <|
      q 6 (.len false (.t 5)) <|
      q 7 (.bin .lss (.t 4) (.t 6)) <|
      .keep [0, 3, 7] <|
      .ite (.t 7)
        (.done)
        (.exit 0) <|
      .block 1
        (q 10 (.mv (.t 0)) <|
        q 11 (.mv (.t 3)) <|
        q 12 (.idxa 1 none (.t 10) (.t 11)) <|
        q 13 (.load false 1 (.t 12)) <|
        q 14 (.bin .lss (.t 13) (ci 0)) <|
        q 15 (.mv (.t 14)) <|
        qg 16 15 false (.mv (.t 0)) <|
        qg 17 15 false (.mv (.t 3)) <|
        qg 18 15 false (.idxa 1 none (.t 16) (.t 17)) <|
        qg 19 15 false (.load false 1 (.t 18)) <|
        qg 20 15 false (.bin .gtr (.t 19) (ci 1048576)) <|
        q 21 (.pick (.t 15) (cb true) (.t 20)) <|
        q 22 (.mv (.t 21)) <|
        qg 23 22 false (.mv (.t 3)) <|
        qg 24 22 false (.bin .gtr (.t 23) (ci 0)) <|
        qg 25 22 false (.mv (.t 24)) <|
        qg 26 25 true (.mv (.t 0)) <|
        qg 27 25 true (.mv (.t 3)) <|
        qg 28 25 true (.idxa 1 none (.t 26) (.t 27)) <|
        qg 29 25 true (.load false 1 (.t 28)) <|
        qg 30 25 true (.mv (.t 0)) <|
        qg 31 25 true (.mv (.t 3)) <|
        qg 32 25 true (.bin .sub (.t 31) (ci 1)) <|
        qg 33 25 true (.idxa 1 none (.t 30) (.t 32)) <|
        qg 34 25 true (.load false 1 (.t 33)) <|
        qg 35 25 true (.bin .leq (.t 29) (.t 34)) <|
        qg 36 22 false (.pick (.t 25) (.t 35) (cb false)) <|
        q 37 (.pick (.t 22) (cb true) (.t 36)) <|
        .keep [0, 3, 37] <|
        .ite (.t 37)
          (q 2 (.mv (cb false)) <|
          .keep [2] <|
          .ret)
          (.done) <|
        .done) <|
      q 8 (.mv (.t 3)) <|
      q 9 (.bin .add (.t 8) (ci 1)) <|
      q 3 (.mv (.t 9)) <|
      .keep [0, 3] <|
      .keep [0, 3] <|
      .done)) <|
  q 38 (.mv (.t 0)) <|
  q 39 (.len false (.t 38)) <|
  q 40 (.bin .leq (.t 39) (ci 100)) <|
  q 2 (.mv (.t 40)) <|
  .keep [2] <|
  .ret
theorem ok_clapperref12_days : compF Try.prog (pfx false) (fun d => [].contains d) Try.f48 = some ic_clapperref12_days := by kernel_rfl
theorem e_clapperref12_days {args : List AV} {H : AH} {v : AV} {H' : AH} (h : iwp (pfx false) (Called Try.prog) ic_clapperref12_days (retQ [.t 2] H v H') (look (enterL 0 args)) H) : Called Try.prog F.clapperref12_days args H v H' :=
  fn_called mixed (cmpok false) Try.func48 (by kernel_rfl) ok_clapperref12_days (by kernel_rfl) h

def ic_clapperref12_in : IC :=
  q 4 (.mv (cb false)) <|
  .keep [0, 1] <|
  q 5 (.mv (ci 0)) <|
  .keep [0, 1, 5] <|
  .block 0
    (.keep [0, 1, 5] <|
    .loop
      (q 6 (.mv (.t 5)) <|
      q 7 (.mv (.t 0)) <|
      q 8 (.len false (.t 7)) <|
      q 9 (.bin .lss (.t 6) (.t 8)) <|
      .keep [0, 1, 5, 9] <|
      .ite (.t 9)
        (.done)
        (.exit 0) <|
      .block 1
        (q 12 (.mv (.t 0)) <|
        q 13 (.mv (.t 5)) <|
        q 14 (.idxa 1 none (.t 12) (.t 13)) <|
        q 15 (.load false 1 (.t 14)) <|
        q 16 (.mv (.t 1)) <|
        q 17 (.bin .eql (.t 15) (.t 16)) <|
        .keep [0, 1, 5, 17] <|
        .ite (.t 17)
          (q 4 (.mv (cb true)) <|
          .keep [4] <|
          .ret)
          (.done) <|
        .done) <|
      q 10 (.mv (.t 5)) <|
      q 11 (.bin .add (.t 10) (ci 1)) <|
      q 5 (.mv (.t 11)) <|
      .keep [0, 1, 5] <|
      .keep [0, 1, 5] <|
      .done)) <|
  q 4 (.mv (cb false)) <|
  .keep [4] <|
  .ret
theorem ok_clapperref12_in : compF Try.prog (pfx false) (fun d => [].contains d) Try.f49 = some ic_clapperref12_in := by kernel_rfl
theorem e_clapperref12_in {args : List AV} {H : AH} {v : AV} {H' : AH} (h : iwp (pfx false) (Called Try.prog) ic_clapperref12_in (retQ [.t 4] H v H') (look (enterL 0 args)) H) : Called Try.prog F.clapperref12_in args H v H' :=
  fn_called mixed (cmpok false) Try.func49 (by kernel_rfl) ok_clapperref12_in (by kernel_rfl) h

def ic_service_May_1 : IC :=
  q 3 (.mv (cb false)) <|
  .keep [0, 1] <|
  q 4 (.fld 4 (.t 1)) <|
  q 5 (.load false 1 (.t 4)) <|
  q 6 (.mv (.t 0)) <|
  q 7 (.call F.slices_Contains_int_int [(.t 5), (.t 6)]) <|
  q 3 (.mv (.t 7)) <|
  .keep [3] <|
  .ret
theorem ok_service_May_1 : compF Try.prog (pfx false) (fun d => [].contains d) Try.f50 = some ic_service_May_1 := by kernel_rfl
theorem e_service_May_1 {args : List AV} {H : AH} {v : AV} {H' : AH} (h : iwp (pfx false) (Called Try.prog) ic_service_May_1 (retQ [.t 3] H v H') (look (enterL 0 args)) H) : Called Try.prog F.service_May_1 args H v H' :=
  fn_called mixed (cmpok false) Try.func50 (by kernel_rfl) ok_service_May_1 (by kernel_rfl) h

def ic_slices_Contains_int_int : IC :=
  q 4 (.mv (cb false)) <|
  .keep [0, 1] <|
  q 5 (.mv (.t 0)) <|
  q 6 (.mv (.t 1)) <|
  q 7 (.call F.slices_Index_int_int [(.t 5), (.t 6)]) <|
  q 8 (.bin .geq (.t 7) (ci 0)) <|
  q 4 (.mv (.t 8)) <|
  .keep [4] <|
  .ret
theorem ok_slices_Contains_int_int : compF Try.prog (pfx false) (fun d => [].contains d) Try.f51 = some ic_slices_Contains_int_int := by kernel_rfl
theorem e_slices_Contains_int_int {args : List AV} {H : AH} {v : AV} {H' : AH} (h : iwp (pfx false) (Called Try.prog) ic_slices_Contains_int_int (retQ [.t 4] H v H') (look (enterL 0 args)) H) : Called Try.prog F.slices_Contains_int_int args H v H' :=
  fn_called mixed (cmpok false) Try.func51 (by kernel_rfl) ok_slices_Contains_int_int (by kernel_rfl) h

def ic_service_days : IC :=
  q 2 (.mv (cb false)) <|
  .keep [0] <|
  q 5 (.mv (.t 0)) <|
  q 6 (.len false (.t 5)) <|
  q 7 (.mv (ci 0)) <|
  .keep [0, 5, 6, 7] <|
  .block 0
    (.keep [0, 5, 6, 7] <|
    .loop
      (q 8 (.bin .lss (.t 7) (.t 6)) <|
      .keep [0, 5, 6, 7, 8] <|
      .ite (.t 8)
        (.done)
        (.exit 0) <|
      .block 1
        (q 9 (.mv (.t 7)) <|
        q 10 (.idxa 1 none (.t 5) (.t 7)) <|
        q 11 (.load false 1 (.t 10)) <|
        q 3 (.mv (.t 9)) <|
        q 4 (.mv (.t 11)) <|
        .keep [0, 3, 4, 5, 6, 7] <|
        q 12 (.mv (.t 4)) <|
        q 13 (.bin .lss (.t 12) (ci 0)) <|
        q 14 (.mv (.t 13)) <|
        qg 15 14 false (.mv (.t 4)) <|
        qg 16 14 false (.bin .gtr (.t 15) (ci 1048576)) <|
        q 17 (.pick (.t 14) (cb true) (.t 16)) <|
        q 18 (.mv (.t 17)) <|
        qg 19 18 false (.mv (.t 3)) <|
        qg 20 18 false (.bin .gtr (.t 19) (ci 0)) <|
        qg 21 18 false (.mv (.t 20)) <|
        qg 22 21 true (.mv (.t 0)) <|
        qg 23 21 true (.mv (.t 3)) <|
        qg 24 21 true (.bin .sub (.t 23) (ci 1)) <|
        qg 25 21 true (.idxa 1 none (.t 22) (.t 24)) <|
        qg 26 21 true (.load false 1 (.t 25)) <|
        qg 27 21 true (.mv (.t 4)) <|
        qg 28 21 true (.bin .geq (.t 26) (.t 27)) <|
        qg 29 18 false (.pick (.t 21) (.t 28) (cb false)) <|
        q 30 (.pick (.t 18) (cb true) (.t 29)) <|
        .keep [0, 5, 6, 7, 30] <|
        .ite (.t 30)
          (q 2 (.mv (cb false)) <|
          .keep [2] <|
          .ret)
          (.done) <|
        .done) <|
      q 31 (.bin .add (.t 7) (ci 1)) <|
      q 7 (.mv (.t 31)) <|
      .keep [0, 5, 6, 7] <|
      .keep [0, 5, 6, 7] <|
      .done)) <|
  q 32 (.mv (.t 0)) <|
  q 33 (.len false (.t 32)) <|
  q 34 (.bin .leq (.t 33) (ci 100)) <|
  q 2 (.mv (.t 34)) <|
  .keep [2] <|
  .ret
theorem ok_service_days : compF Try.prog (pfx false) (fun d => [].contains d) Try.f52 = some ic_service_days := by kernel_rfl
theorem e_service_days {args : List AV} {H : AH} {v : AV} {H' : AH} (h : iwp (pfx false) (Called Try.prog) ic_service_days (retQ [.t 2] H v H') (look (enterL 0 args)) H) : Called Try.prog F.service_days args H v H' :=
  fn_called mixed (cmpok false) Try.func52 (by kernel_rfl) ok_service_days (by kernel_rfl) h

def ic_slices_ContainsFunc_int_int : IC :=
  q 4 (.mv (cb false)) <|
  .keep [0, 1] <|
  q 5 (.mv (.t 0)) <|
  q 6 (.mv (.t 1)) <|
  q 7 (.call F.slices_IndexFunc_int_int [(.t 5), (.t 6)]) <|
  q 8 (.bin .geq (.t 7) (ci 0)) <|
  q 4 (.mv (.t 8)) <|
  .keep [4] <|
  .ret
theorem ok_slices_ContainsFunc_int_int : compF Try.prog (pfx false) (fun d => [].contains d) Try.f53 = some ic_slices_ContainsFunc_int_int := by kernel_rfl
theorem e_slices_ContainsFunc_int_int {args : List AV} {H : AH} {v : AV} {H' : AH} (h : iwp (pfx false) (Called Try.prog) ic_slices_ContainsFunc_int_int (retQ [.t 4] H v H') (look (enterL 0 args)) H) : Called Try.prog F.slices_ContainsFunc_int_int args H v H' :=
  fn_called mixed (cmpok false) Try.func53 (by kernel_rfl) ok_slices_ContainsFunc_int_int (by kernel_rfl) h

def ic_slices_Index_int_int : IC :=
  q 4 (.mv (ci 0)) <|
  .keep [0, 1] <|
  q 6 (.mv (.t 0)) <|
  q 7 (.len false (.t 6)) <|
  q 8 (.mv (ci 0)) <|
  .keep [0, 1, 7, 8] <|
  .block 0
    (.keep [0, 1, 7, 8] <|
    .loop
      (q 9 (.bin .lss (.t 8) (.t 7)) <|
      .keep [0, 1, 7, 8, 9] <|
      .ite (.t 9)
        (.done)
        (.exit 0) <|
      .block 1
        (q 10 (.mv (.t 8)) <|
        q 5 (.mv (.t 10)) <|
        .keep [0, 1, 5, 7, 8] <|
        q 11 (.mv (.t 1)) <|
        q 12 (.mv (.t 0)) <|
        q 13 (.mv (.t 5)) <|
        q 14 (.idxa 1 none (.t 12) (.t 13)) <|
        q 15 (.load false 1 (.t 14)) <|
        q 16 (.bin .eql (.t 11) (.t 15)) <|
        .keep [0, 1, 5, 7, 8, 16] <|
        .ite (.t 16)
          (q 17 (.mv (.t 5)) <|
          q 4 (.mv (.t 17)) <|
          .keep [4] <|
          .ret)
          (.done) <|
        .done) <|
      q 18 (.bin .add (.t 8) (ci 1)) <|
      q 8 (.mv (.t 18)) <|
      .keep [0, 1, 7, 8] <|
      .keep [0, 1, 7, 8] <|
      .done)) <|
  q 4 (.mv (ci (-1))) <|
  .keep [4] <|
  .ret
theorem ok_slices_Index_int_int : compF Try.prog (pfx false) (fun d => [].contains d) Try.f69 = some ic_slices_Index_int_int := by kernel_rfl
theorem e_slices_Index_int_int {args : List AV} {H : AH} {v : AV} {H' : AH} (h : iwp (pfx false) (Called Try.prog) ic_slices_Index_int_int (retQ [.t 4] H v H') (look (enterL 0 args)) H) : Called Try.prog F.slices_Index_int_int args H v H' :=
  fn_called mixed (cmpok false) Try.func69 (by kernel_rfl) ok_slices_Index_int_int (by kernel_rfl) h

def ic_slices_IndexFunc_int_int : IC :=
  q 4 (.mv (ci 0)) <|
  .keep [0, 1] <|
  q 6 (.mv (.t 0)) <|
  q 7 (.len false (.t 6)) <|
  q 8 (.mv (ci 0)) <|
  .keep [0, 1, 7, 8] <|
  .block 0
    (.keep [0, 1, 7, 8] <|
    .loop
      (q 9 (.bin .lss (.t 8) (.t 7)) <|
      .keep [0, 1, 7, 8, 9] <|
      .ite (.t 9)
        (.done)
        (.exit 0) <|
      .block 1
        (q 10 (.mv (.t 8)) <|
        q 5 (.mv (.t 10)) <|
        .keep [0, 1, 5, 7, 8] <|
        q 11 (.mv (.t 1)) <|
        q 12 (.mv (.t 0)) <|
        q 13 (.mv (.t 5)) <|
        q 14 (.idxa 1 none (.t 12) (.t 13)) <|
        q 15 (.load false 1 (.t 14)) <|
        q 16 (.callv (.t 11) [(.t 15)]) <|
        .keep [0, 1, 5, 7, 8, 16] <|
        .ite (.t 16)
          (q 17 (.mv (.t 5)) <|
          q 4 (.mv (.t 17)) <|
          .keep [4] <|
          .ret)
          (.done) <|
        .done) <|
      q 18 (.bin .add (.t 8) (ci 1)) <|
      q 8 (.mv (.t 18)) <|
      .keep [0, 1, 7, 8] <|
      .keep [0, 1, 7, 8] <|
      .done)) <|
  q 4 (.mv (ci (-1))) <|
  .keep [4] <|
  .ret
theorem ok_slices_IndexFunc_int_int : compF Try.prog (pfx false) (fun d => [].contains d) Try.f70 = some ic_slices_IndexFunc_int_int := by kernel_rfl
theorem e_slices_IndexFunc_int_int {args : List AV} {H : AH} {v : AV} {H' : AH} (h : iwp (pfx false) (Called Try.prog) ic_slices_IndexFunc_int_int (retQ [.t 4] H v H') (look (enterL 0 args)) H) : Called Try.prog F.slices_IndexFunc_int_int args H v H' :=
  fn_called mixed (cmpok false) Try.func70 (by kernel_rfl) ok_slices_IndexFunc_int_int (by kernel_rfl) h
end Go.Proofs.Ytdgabfeeoplldaa.Eng

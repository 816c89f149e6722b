/- Layer 17: the example at the head; the law RecordLinks. -/
import Derived.Test.YtgfploghjpbcaaaGreatMPu
import Derived.Test.YtgfploghjpbcaaaGreatMTk
namespace Go.Proofs.YtgfploghjpbcaaaGreat.Eng
open Go Go.Proofs
set_option linter.unusedVariables false
set_option linter.unusedSimpArgs false
set_option maxRecDepth 10000
def upR:Rec:=⟨1,0,0,2,0,0,0,0,z32,[],nilS⟩
theorem upR_ok:upR.ok:=⟨rfl,Nat.zero_le _,fun H => .nil⟩
theorem upR_cells:(noRec.cells.set 0 (I 1)).set 3 (I 2)=upR.cells:=rfl
theorem upR_body:rbodyV upR=.tup [vB (recP upR) false,nilE]:=by
 rw [rbodyV,if_pos (show recB upR=true from rfl),putV_recF upR_ok (Nat.zero_le _)]
theorem upR_len:(recP upR).length=126:=by decide +kernel
theorem t_up17 (H:AH):Called Tryz.prog F.clapperlaw17_up [] H (Bl true) H:=by
 have e8:[Z0,Z0,Z0,Z0,Z0,Z0,Z0,Z0]=sgc 0 0:=rfl
 have ep:[Z0,Z0,Z0,Z0,Z0,Z0,Z0,Z0,Bl false]=pcell 0 0 false:=rfl
 have hO:rOpenO []=none:=rfl
 have no1:=one_rec_cells noRec_ok
 have nospl:=rec_spl noRec_ok noRec_ok
 obtain ⟨n32,b32,t32⟩:=bs32_ne (show zd.length=32 from rfl)
 have s3z:=bs32_spl (show zd.length=32 from rfl) (show zd.length=32 from rfl)
 have hc:chF 1 0 0 false 0 zd [noB]=0:=by
  have:nextL 1 0 0 false 0 zd []=none:=by rw [nextL,hO]
  show (match nextL 1 0 0 false 0 zd [] with | some d => chF 1 0 0 false 1 d [] | none => 0)=0
  rw [this]
 have tc:∀ K,Called Tryz.prog F.record_Chain [.view [nilS] 1 true,I 1,.agg (pcell 0 0 false)] K (I 0) K:=fun K => by
  have:=t_Chain (H:=K) (x:=.view [nilS] 1 true) (l:=[noB]) (dev:=1) (X:=0) (Y:=0) (f:=false) (.view rfl _) (fun y hy => by rw [List.mem_singleton] at hy; subst hy; exact ⟨Nat.zero_le _,fun H => .nil⟩) (by decide) (by decide) (by decide)
  rw [hc] at this
  exact this
 refine e_clapperlaw17_up ?_
 simp only [ic_clapperlaw17_up,recZ_eq,z32Z_eq]
 simp only [go_sem]
 refine callW_some (t_rOpen (b:=[]) .nil (Nat.zero_le _)) (fun _ => rfl) ?_
 rw [hO]
 simp only [rOpenV,go_sem,fillOk,fillv,recZ_map,recZ_len,z32Z_map,no1.1,no1.2.1,no1.2.2.1,nospl,e8,sg_spl,sg_len,sg_one,sg_take,b32,t32,s3z,one_bs,upR_cells]
 refine callW_some (t_rBody upR_ok _) (fun _ => rfl) ?_
 rw [upR_body]
 have hl:=upR_len
 generalize recP upR=w at hl ⊢
 have tcode:(T.api_Code == T.api_Code&&(2:Int) == 2)=true:=by simp
 have z126:(((126:Nat):Int) == 126)=true:=rfl
 simp only [go_sem,hl,fillOk,fillv,ep,tcode,z126]
 refine ⟨rfl,callG_of (fun _ => tc _) ?_⟩
 simp only [go_sem]
 exact leave_drop rfl
set_option maxRecDepth 10000
def recA (r:Rec):Bool:=(((((((((((decide (r.dev<1) || decide (2147483647<r.dev)) || decide (r.seq<0)) || decide (1073741824<r.seq)) || decide (r.min_<0)) || decide (1073741824<r.min_)) || decide (r.stop<0)) || decide (31<r.stop)) || decide (r.zone<0)) || decide (7<r.zone)) || decide (r.serial<0)) || decide (2147483647<r.serial))
theorem recA_no {r:Rec} (h:recA r=true):recB r=false:=by
 cases hb:recB r
 ·rfl
 ·exfalso
  simp only [recB,inB,Bool.and_eq_true,decide_eq_true_eq] at hb
  simp only [recA,Bool.or_eq_true,decide_eq_true_eq] at h
  omega
theorem recA_yes {r:Rec} (h:recA r=false):recB r=if r.kind=1 then (decide (1≤r.verdict)&&decide (r.verdict≤7))&&decide ((r.b.length:Int)≤500) else ((r.kind == 2 || r.kind == 3)&&r.verdict == 0)&&(r.b.length:Int) == 0:=by
 simp only [recA,Bool.or_eq_false_iff,decide_eq_false_iff_not] at h
 by_cases hk:r.kind=1
 ·rw [if_pos hk,recB,if_pos hk,Bool.eq_iff_iff]
  simp only [inB,Bool.and_eq_true,decide_eq_true_eq]
  omega
 ·rw [if_neg hk,recB,if_neg hk,Bool.eq_iff_iff]
  simp only [inB,Bool.and_eq_true,Bool.or_eq_true,beq_iff_eq,decide_eq_true_eq]
  omega
theorem r_rMay {H:AH} (r:Rec) (h:r.ok):Called Tryz.prog F.clapperref17_May [.agg r.cells] H (Bl (recB r)) H:=by
 refine e_clapperref17_May ?_
 have hl:=rec_len h
 have he:=fun H => (h.2.2 H).s
 simp only [ic_clapperref17_May,go_sem,rec_one h,rec_ne,hl,rec_g0,rec_g1,rec_g2,rec_g4,rec_g5,rec_g6,rec_g3,rec_g7,rec_g40 h,he []]
 refine ⟨fun h1 => ?_,fun h1 => ?_⟩
 ·rw [recA_no h1]; exact leave_drop rfl
 ·rw [recA_yes h1]
  refine ⟨fun h2 => ?_,fun h2 => ?_⟩
  ·rw [if_pos (by simpa using h2)]; exact leave_drop rfl
  ·rw [if_neg (by simpa using h2)]; exact leave_drop rfl
end Go.Proofs.YtgfploghjpbcaaaGreat.Eng


/- Layer 16: the laws. -/
import Derived.Test.YtdgabfeeoplldaaJr6
namespace Go.Proofs.Ytdgabfeeoplldaa.Eng
open Go Go.Proofs
set_option linter.unusedVariables false
set_option linter.unusedSimpArgs false
set_option maxRecDepth 10000
theorem t_openNil (H : AH) : Called Try.prog F.journal_Open [nilP] H (.tup [nilP, eAV 1]) H := by
  refine e_journal_Open ?_
  simp only [ic_journal_Open, go_sem]
  refine callG_of (v := I 0) (fun h => absurd h (by decide)) ?_
  simp only [go_sem]
  exact Leave.refl _ _ _
theorem t_openI {H : AH} {f r : Nat} {B : List UInt8} (hF : FL H f r B) {T E : Nat} {rs : List (List UInt8)} (hI : INV B T E rs) :
    ∃ H' x, Called Try.prog F.journal_Open [.ptr f 0] H (.tup [.ptr (H.length + 2) 0, nilE]) H' ∧ JR H' (H.length + 2) f x T E rs false ∧ Fr H H' (fun _ => False) ∧ ∀ q, rid x = some q → H.length ≤ q := by
  have := t_open hF hI.lo hI.hi hI.open' (tl := []) (by rw [List.append_nil]; exact hI.area) hI.room rfl hI.recs
  rw [hI.len] at this
  exact this
theorem t_records {H : AH} {j f : Nat} {x : AV} {T E : Nat} {rs : List (List UInt8)} {sp : Bool} (hJ : JR H j f x T E rs sp) (hr : ∀ r ∈ rs, 1 ≤ r.length ∧ r.length ≤ 2000) (hn : rs.length ≤ 1048576) : Called Try.prog F.journal_Journal_Records [.ptr j 0] H (.view (rs.map fun r => vB r false) rs.length false) H := by
  have hj := hJ.hj
  have sx := hJ.gr.sl
  rw [List.length_map] at sx
  let vs : List AV := rs.map fun r => vB r false
  have hvl : vs.length = rs.length := by simp [vs]
  refine e_journal_Journal_Records ?_
  simp only [ic_journal_Journal_Records, go_sem, hJ.oj, hj, sx.s]
  refine w_loop _ (fun (k : Nat) => ([(3, rA H (vs.take k) k), (9, x), (10, I rs.length), (11, I k)], hA 1 H (vs.take k) k)) (fun k => k ≤ rs.length) (fun k => rs.length - k) 0 (Nat.zero_le _) rfl ?_
  intro k hk
  simp only [go_sem]
  refine ⟨fun hh => ?_, fun hh => ?_⟩
  · have hk : k < rs.length := by omega
    have sk : Sl 1 (hA 1 H (vs.take k) k) x (rs.map fun r => vB r false) rs.length := sx.hA
    have hrk := hr _ (getD_mem' hk [])
    have e0 : (rs.map fun r => vB r false).getD k .junk = vB (rs.getD k []) false := by simp [List.getD_eq_getElem?_getD, hk]
    simp only [sk.idx, sk.ldOk _ hk (Nat.le_refl 1), sk.ld1 _ hk, e0, go_sem]
    refine ⟨⟨by omega, by omega⟩, callW_some (t_cloneB (Sl.vB _ _) (by omega)) (fun _ => rfl) ?_⟩
    obtain ⟨h1, h2, h3⟩ := build_app (H := H) (sz := 1) (n := k) (vs := vs.take k) (by simp; omega) (s := .view [vB (rs.getD k []) false] 1 true) (cs := [vB (rs.getD k []) false]) (b := 24) rfl rfl rfl rfl (by omega)
    have e1 : vs.take k ++ [vB (rs.getD k []) false] = vs.take (k + 1) := by
      rw [take_snoc (by omega) .junk, ← e0]
    have h1' := eq_true h1
    rw [e1] at h2 h3
    have w2 : IntKind.i64.wrap ((k : Int) + 1) = ((k + 1 : Nat) : Int) := by rw [w64 _ (by omega) (by omega)]; omega
    simp only [go_sem] at h1'
    simp only [go_sem, pure_bs, h1', h2, h3, w2]
    exact ⟨k + 1, rfl, rfl, by omega, by omega⟩
  · obtain rfl : k = rs.length := by omega
    have e1 : vs.take rs.length = vs := List.take_of_length_le (by omega)
    simp only [go_sem, e1]
    exact leave_build (by decide) (by omega) (pure_map _ (fun r => by simp only [AV.pure]; exact pure_bs r) rs)
theorem t_same {H : AH} {w : AV} {rs : List (List UInt8)} {g : Bool} (hw : Sl 1 H w (rs.map Str) rs.length) (hn : rs.length ≤ 1048576) : Called Try.prog F.clapperlaw16_same [.view (rs.map fun r => vB r false) rs.length g, w] H (Bl true) H := by
  refine e_clapperlaw16_same ?_
  have q0 : ((rs.length : Int) != rs.length) = false := by simp
  simp only [ic_clapperlaw16_same, go_sem, hw.s, q0]
  refine w_loop _ (fun (k : Nat) => ([(0, .view (rs.map fun r => vB r false) rs.length g), (1, w), (5, I k)], H)) (fun k => k ≤ rs.length) (fun k => rs.length - k) 0 (Nat.zero_le _) rfl ?_
  intro k hk
  simp only [go_sem]
  refine ⟨fun hh => ?_, fun hh => ?_⟩
  · have hk : k < rs.length := by omega
    have e0 : (rs.map Str).getD k .junk = Str (rs.getD k []) := by simp [List.getD_eq_getElem?_getD, hk]
    have e1 := elt_map1 (fun r => vB r false) rs k hk []
    have w2 : IntKind.i64.wrap ((k : Int) + 1) = ((k + 1 : Nat) : Int) := by rw [w64 _ (by omega) (by omega)]; omega
    simp only [hw.idx, hw.ldOk _ hk (Nat.le_refl 1), hw.ld1 _ hk, e0, e1, go_sem, b2sOk_vB, b2sV_vB, w2]
    have q1 : ((rs.getD k []) == (rs.getD k [])) = true := by simp
    simp only [q1, go_sem]
    exact ⟨⟨by omega, by omega, by simp⟩, ⟨by omega, by omega⟩, k + 1, rfl, by omega, by omega⟩
  · exact Leave.refl _ _ _
theorem t_up16 (H : AH) : Called Try.prog F.clapperlaw16_up [] H (Bl true) H := by
  have hF : FL (H ++ [⟨bs (List.replicate 64 0), 1, true⟩, ⟨[.row H.length 0 64 64], 0, true⟩]) (H.length + 1) H.length (List.replicate 64 0) := by
    refine ⟨by simp, by simp, by omega, ?_, ?_⟩
    · rw [obj_appk]; rfl
    · rw [obj_app0]; rfl
  obtain ⟨H', x, c1, c2, c3, c4⟩ := t_openI hF (SINV.new (n := 64) (by decide) (by decide)).inv
  have hF' := hF.frame c3 id id
  generalize hjj : List.length (H ++ [⟨bs (List.replicate 64 0), 1, true⟩, ⟨[.row H.length 0 64 64], 0, true⟩]) + 2 = j at *
  have c5 := t_free hF' c2 (by simp) (by decide)
  have c6 := t_records c2 (by simp) (by simp)
  have c7 := t_openNil H'
  have q3 : (T.api_Code == T.api_Code && (1 : Int) == 1) = true := by decide
  have q4 : ((((freeOf (List.replicate 64 (0 : UInt8)).length 0 false : Nat) : Int)) == 14) = true := by decide
  refine e_clapperlaw16_up ?_
  simp only [ic_clapperlaw16_up, go_sem]
  refine callW_some (t_fnew (n := 64) (by decide) (by decide)) (fun h => absurd h (by decide)) ?_
  simp only [go_sem]
  refine callW_some c1 (fun h => absurd h (by decide)) ?_
  simp only [go_sem]
  refine callW_some c7 (fun h => absurd h (by decide)) ?_
  simp only [go_sem, code_c, q3]
  refine callG_of (fun _ => c5) ?_
  simp only [go_sem, q4]
  refine callG_of (fun _ => c6) ?_
  simp only [go_sem]
  have c8 : Fr H H' (fun _ => False) := (Fr.app H _ _).trans c3
  obtain ⟨G, rfl⟩ := c8.split (fun _ => id)
  exact leave_drop rfl
end Go.Proofs.Ytdgabfeeoplldaa.Eng

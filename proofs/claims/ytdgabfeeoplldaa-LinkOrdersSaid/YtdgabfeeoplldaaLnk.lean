/- Layer 20: what the functions of link come to. -/
import Derived.Test.YtdgabfeeoplldaaClnk
import Derived.Test.YtdgabfeeoplldaaEngR
namespace Go.Proofs.Ytdgabfeeoplldaa.Eng
open Go Go.Proofs
set_option linter.unusedVariables false
set_option linter.unusedSimpArgs false
set_option maxRecDepth 10000
abbrev nilS : AV := .lit (.slice none 0 0)
abbrev eAV (n : Int) : AV := .lit (.iface T.api_Code (.int .i64 n))
abbrev nilE : AV := .lit .nilIface
theorem t_clone {H : AH} {x : AV} {cs : List AV} {n : Nat} (hx : Sl 1 H x cs n) (hp : pureL cs = true) (h1 : cs.all AV.one = true) (hn : n ≤ 140737488355328) : Called Try.prog F.slices_Clone_byte_byte [x] H (.view cs n false) H := by
  have hl := hx.length
  refine e_slices_Clone_byte_byte ?_
  simp only [ic_slices_Clone_byte_byte, go_sem]
  refine hx.nilc (fun h0 => ?_) ?_
  · subst h0
    have : cs = [] := List.eq_nil_of_length_eq_zero (by omega)
    subst this
    exact leave_le (le_nil false)
  · simp only [go_sem, hx.s]
    refine ⟨⟨h1, by omega⟩, ?_⟩
    exact leave_drop (low_newrow (renk_none _) (by decide) hl hp _ _ rfl)
theorem t_send0 {H : AH} {p : Nat} (hp0 : p < H.length) (ho : obj H p = ⟨[nilS], 0, true⟩) {x : AV} {cs : List AV} {n : Nat} (hx : Sl 1 H x cs n) (hp : pureL cs = true) (h1 : cs.all AV.one = true) (hn : n ≤ 140737488355328) :
   Called Try.prog F.link_Link_Send [.ptr p 0, x] H nilE (setO H p [.row H.length 0 1 1] ++ [⟨[.view cs n false], 1, true⟩]) := by
  refine e_link_Link_Send ?_
  simp only [ic_link_Link_Send, go_sem, ho, hp0]
  refine ⟨fun h => absurd h (by decide), fun _ => callW_some (t_clone hx hp h1 hn) (fun _ => rfl) ?_⟩
  simp only [go_sem, ho, hp0, obj_old _ _ hp0, setO_old _ _ _ hp0, hp]
  exact ⟨by decide, by omega, Leave.refl _ _ _⟩
theorem t_send {H : AH} {p r k L : Nat} (hp0 : p < H.length) (hr : r < H.length) (hne : r ≠ p) (ho : obj H p = ⟨[.row r 0 k L], 0, true⟩) {qs : List AV} (hq : obj H r = ⟨qs, 1, true⟩) (hL : L = qs.length) (hk : k ≤ L) (hk2 : k < 64) {x : AV} {cs : List AV} {n : Nat} (hx : Sl 1 H x cs n) (hp : pureL cs = true) (h1 : cs.all AV.one = true) (hn : n ≤ 140737488355328) :
   Called Try.prog F.link_Link_Send [.ptr p 0, x] H nilE (setO (setO H r (appC 1 qs [.view cs n false] 0 k 1 L)) p [.row r 0 (k + 1) (appL 1 0 k 1 1 L)]) := by
  refine e_link_Link_Send ?_
  simp only [ic_link_Link_Send, go_sem, ho, hp0]
  refine ⟨fun h => by omega, fun _ => callW_some (t_clone hx hp h1 hn) (fun _ => rfl) ?_⟩
  simp only [go_sem, ho, hp0, hq, hr, hL, hp, obj_setO_ne _ _ hne]
  exact ⟨⟨by omega, by omega⟩, Leave.refl _ _ _⟩
theorem t_full {H : AH} {p r k L : Nat} (hp0 : p < H.length) (ho : obj H p = ⟨[.row r 0 k L], 0, true⟩) (hk : 64 ≤ k) (x : AV) : Called Try.prog F.link_Link_Send [.ptr p 0, x] H (eAV 6) H := by
  refine e_link_Link_Send ?_
  simp only [ic_link_Link_Send, go_sem, ho, hp0]
  exact ⟨fun _ => Leave.refl _ _ _, fun h => absurd h (by omega)⟩
theorem t_there {H : AH} {p k : Nat} {v : AV} (hp0 : p < H.length) (ho : obj H p = ⟨[v], 0, true⟩) (hv : lenOk false v = True) (hn : srcN v = k) (hm : ∀ g, okMay g v = True) (hu : v.un = v) (i : Int) : Called Try.prog F.link_Link_there [.ptr p 0, I i] H (Bl (decide (0 ≤ i) && decide (i < k))) H := by
  refine e_link_Link_there ?_
  simp only [ic_link_Link_there, go_sem, ho, hp0, hv, hn, hm, hu]
  exact Leave.refl _ _ _
theorem all_sub {l : List AV} (h : l.all AV.one = true) (a b : Nat) : ((l.drop a).take b).all AV.one = true := by
  rw [List.all_eq_true] at h ⊢
  exact fun x hx => h x (List.mem_of_mem_drop (List.mem_of_mem_take hx))
/-- The i-th of a list of slices is deleted. -/
theorem t_delete {H : AH} {r k i : Nat} {qs : List AV} (hr : r < H.length) (hq : obj H r = ⟨qs, 1, true⟩) (hone : qs.all AV.one = true) (hk : k ≤ qs.length) (hk2 : k ≤ 1000000) (hi : i < k) :
    Called Try.prog F.slices_Delete_byte_byte [.row r 0 k qs.length, I i, I (i + 1 : Nat)] H (.row r 0 (k - 1) qs.length) (setO H r (qs.take i ++ ((qs.drop (i + 1)).take (k - (i + 1)) ++ (nilS :: qs.drop k)))) := by
  have hm : i + (k - (i + 1)) = k - 1 := by omega
  have hsrc : ((qs.drop (i + 1)).take (k - (i + 1))).length = k - (i + 1) := by rw [List.length_take, List.length_drop]; omega
  have eL : appL 1 0 i (k - (i + 1)) (k - (i + 1)) qs.length = qs.length := by rw [appL]; split <;> omega
  have eC : appC 1 qs ((qs.drop (i + 1)).take (k - (i + 1))) 0 i (k - (i + 1)) qs.length = qs.take i ++ ((qs.drop (i + 1)).take (k - (i + 1)) ++ qs.drop (k - 1)) := by
    rw [appC_eq rfl, List.append_assoc]
    simp only [Nat.mul_one, Nat.zero_add, hm]
  have hl : (qs.take i ++ ((qs.drop (i + 1)).take (k - (i + 1)) ++ qs.drop (k - 1))).length = qs.length := by
    simp only [List.length_append, hsrc, List.length_take, List.length_drop]; omega
  have e2 : ((i : Int) == ((i + 1 : Nat) : Int)) = false := by simp; omega
  have e3 : k - (k - 1) = 1 := by omega
  refine e_slices_Delete_byte_byte ?_
  simp only [ic_slices_Delete_byte_byte, go_sem, hr, hq, hsrc, eL, eC, hm, obj_setO _ _ hr, e2, all_sub hone, hl, clearOk, clearH, copyTo, e3]
  refine ⟨⟨by omega, by omega, by omega, by omega⟩, ⟨by omega, by omega⟩, ⟨by omega, by omega, by omega⟩, ⟨by omega, by omega, by omega⟩, ⟨by omega, by omega, by omega⟩, by omega, ?_⟩
  have e4 : (qs.take i ++ ((qs.drop (i + 1)).take (k - (i + 1)) ++ qs.drop (k - 1))).set (k - 1) nilS = qs.take i ++ ((qs.drop (i + 1)).take (k - (i + 1)) ++ (nilS :: qs.drop k)) := by
    have hA : (qs.take i).length = i := by rw [List.length_take]; omega
    rw [List.set_append_right _ _ (by omega), List.set_append_right _ _ (by omega), hA, hsrc, show k - 1 - i - (k - (i + 1)) = 0 by omega, List.drop_eq_getElem_cons (show k - 1 < qs.length by omega), List.set_cons_zero, show k - 1 + 1 = k by omega]
  rw [setO_setO, e4]
  exact Leave.refl _ _ _
/-- The i-th is taken. -/
theorem t_take {H : AH} {p r k i : Nat} {qs : List AV} (hp0 : p < H.length) (hr : r < H.length) (hne : r ≠ p) (ho : obj H p = ⟨[.row r 0 k qs.length], 0, true⟩) (hq : obj H r = ⟨qs, 1, true⟩) (hone : qs.all AV.one = true) (hk : k ≤ qs.length) (hk2 : k ≤ 1000000) (hi : i < k) :
    Called Try.prog F.link_Link_Take [.ptr p 0, I i] H (.tup [qs.getD i .junk, nilE]) (setO (setO H r (qs.take i ++ ((qs.drop (i + 1)).take (k - (i + 1)) ++ (nilS :: qs.drop k)))) p [.row r 0 (k - 1) qs.length]) := by
  have e1 : (decide (0 ≤ (i : Int)) && decide ((i : Int) < k)) = true := by simp; omega
  refine e_link_Link_Take ?_
  simp only [ic_link_Link_Take, go_sem]
  refine callW_some (t_there (k := k) hp0 ho rfl rfl (fun _ => rfl) rfl i) (fun _ => rfl) ?_
  simp only [go_sem, e1, ho, hp0, hr, hq]
  refine ⟨by omega, by omega, ?_⟩
  rw [w64 _ (by omega) (by omega)]
  refine callW_some (t_delete hr hq hone hk hk2 hi) (fun h => absurd h (by decide)) ?_
  simp only [go_sem, ho, hp0, hr, hq, obj_setO_ne _ _ hne]
  exact Leave.refl _ _ _
theorem t_takeno {H : AH} {p k : Nat} {v : AV} (hp0 : p < H.length) (ho : obj H p = ⟨[v], 0, true⟩) (hv : lenOk false v = True) (hn : srcN v = k) (hm : ∀ g, okMay g v = True) (hu : v.un = v) {i : Int} (hi : i < 0 ∨ k ≤ i) : Called Try.prog F.link_Link_Take [.ptr p 0, I i] H (.tup [nilS, eAV 4]) H := by
  have e1 : (decide (0 ≤ (i : Int)) && decide ((i : Int) < k)) = false := by simp; omega
  refine e_link_Link_Take ?_
  simp only [ic_link_Link_Take, go_sem]
  refine callW_some (t_there (k := k) hp0 ho hv hn hm hu i) (fun _ => rfl) ?_
  simp only [go_sem, e1]
  exact Leave.refl _ _ _
theorem t_new (H : AH) : Called Try.prog F.link_New [] H (.ptr H.length 0) (H ++ [⟨[nilS], 0, true⟩]) := by
  refine e_link_New ?_
  simp only [ic_link_New, go_sem]
  exact Leave.refl _ _ _
theorem t_many {H : AH} {p k : Nat} {v : AV} (hp0 : p < H.length) (ho : obj H p = ⟨[v], 0, true⟩) (hv : lenOk false v = True) (hn : srcN v = k) : Called Try.prog F.link_Link_Many [.ptr p 0] H (I k) H := by
  refine e_link_Link_Many ?_
  simp only [ic_link_Link_Many, go_sem, ho, hp0, hv, hn]
  exact Leave.refl _ _ _
end Go.Proofs.Ytdgabfeeoplldaa.Eng

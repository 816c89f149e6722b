/- Layer 20: the laws. -/
import Derived.Test.YtdgabfeeoplldaaLnk
namespace Go.Proofs.Ytdgabfeeoplldaa.Eng
open Go Go.Proofs
set_option linter.unusedVariables false
set_option linter.unusedSimpArgs false
set_option maxRecDepth 10000
theorem row_new {H : AH} {k : Nat} {cs : List AV} {n sz : Nat} {w : Bool} (h : cs.length = n * sz) (ho : obj H k = ⟨cs, sz, w⟩) (hk : k < H.length) (L : Nat) (hL : L = cs.length) : Sl sz H (.row k 0 n L) cs n :=
  .row hk (by rw [ho, hL]) (by rw [hL, h]; omega) (by rw [ho, List.drop_zero, List.take_of_length_le (by rw [← h]; exact Nat.le_refl _)]) (.inl (by rw [ho]))
theorem t_up20 (H : AH) : Called Try.prog F.clapperlaw20_up [] H (Bl true) H := by
  refine e_clapperlaw20_up ?_
  simp only [ic_clapperlaw20_up, go_sem]
  refine callW_some (t_new H) (fun h => absurd h (by decide)) ?_
  simp only [go_sem, markOk, s2bOk]
  refine callW_some (t_send0 (x := .row (H.length + 1) 0 1 1) (cs := [.lit (.int .u8 97)]) (n := 1) (by simp) (by simp only [go_sem]) (row_new (w := true) rfl (by simp only [go_sem]) (by simp) _ rfl) rfl rfl (by decide)) (fun h => absurd h (by decide)) ?_
  simp only [go_sem, markOk, s2bOk]
  refine callW_some (t_send (p := H.length) (r := H.length + 2) (k := 1) (L := 1) (qs := [.view [.lit (.int .u8 97)] 1 false]) (x := .row (H.length + 3) 0 1 1) (cs := [.lit (.int .u8 98)]) (n := 1) (by simp) (by simp) (by omega) (by simp only [go_sem]) (by simp only [go_sem]) rfl (by decide) (by decide) (row_new (w := true) rfl (by simp only [go_sem]) (by simp) _ rfl) rfl rfl (by decide)) (fun h => absurd h (by decide)) ?_
  simp only [go_sem, appC_end (sz := 1) (n := 1) (L := 1) rfl, appL_end (sz := 1) (n := 1) (L := 1) rfl]
  refine callW_some (t_take (p := H.length) (r := H.length + 2) (k := 2) (i := 0) (qs := [.view [.lit (.int .u8 97)] 1 false, .view [.lit (.int .u8 98)] 1 false]) (by simp) (by simp) (by omega) (by simp only [go_sem]) (by simp only [go_sem]) rfl (by decide) (by decide) (by decide)) (fun h => absurd h (by decide)) ?_
  simp only [go_sem]
  refine callW_some (t_takeno (p := H.length) (k := 1) (v := .row (H.length + 2) 0 1 2) (i := 1) (by simp) (by simp only [go_sem]) rfl rfl (fun _ => rfl) rfl (by decide)) (fun _ => rfl) ?_
  have e1 : ∀ H', b2sV H' (.view [.lit (.int .u8 97)] 1 false) = Str [97] := fun _ => rfl
  have e2 : ∀ H', b2sOk H' (.view [.lit (.int .u8 97)] 1 false) := fun _ => ⟨fun h => h, rfl, rfl⟩
  have e3 : (pfx false).c T.api_Code = true := by decide
  simp only [go_sem, e1, e2, e3]
  refine callG_of (v := I 1) (fun _ => t_many (p := H.length) (k := 1) (v := .row (H.length + 2) 0 1 2) (by simp) (by simp only [go_sem]) rfl rfl) ?_
  simp only [go_sem]
  exact leave_drop rfl
/-- A link's state: what is under way, and cells that are free again. -/
def lnk (q : List AV) (fr : Nat) : AH := [⟨[.row 1 0 q.length (q.length + fr)], 0, true⟩, ⟨q ++ List.replicate fr nilS, 1, true⟩]
def stH : List AV → AH
  | [] => [⟨[nilS], 0, true⟩]
  | v :: q => lnk (v :: q) 0
theorem send_st {q : List AV} (hl : q.length < 64) {x : AV} {cs : List AV} {n : Nat} (hx : Sl 1 (stH q) x cs n) (hp : pureL cs = true) (h1 : cs.all AV.one = true) (hn : n ≤ 140737488355328) :
    Called Try.prog F.link_Link_Send [.ptr 0 0, x] (stH q) nilE (stH (q ++ [.view cs n false])) := by
  cases q with
  | nil => exact t_send0 (p := 0) (by simp [stH]) rfl hx hp h1 hn
  | cons v q =>
    have := t_send (H := stH (v :: q)) (p := 0) (r := 1) (k := (v :: q).length) (L := (v :: q).length) (by simp [stH, lnk]) (by simp [stH, lnk]) (by decide) (by simp [stH, lnk, obj]) (qs := v :: q) (by simp [stH, lnk, obj]) rfl (Nat.le_refl _) hl hx hp h1 hn
    rw [appC_end (Nat.mul_one _), appL_end (Nat.mul_one _)] at this
    have e : setO (setO (stH (v :: q)) 1 (v :: q ++ [.view cs n false])) 0 [.row 1 0 ((v :: q).length + 1) ((v :: q).length + 1)] = stH (v :: q ++ [.view cs n false]) := by simp [stH, lnk, setO, obj]
    rw [e] at this
    exact this
theorem take_st {v : AV} {q : List AV} {fr : Nat} (hone : (v :: q).all AV.one = true) (hl : q.length < 64) (hfr : fr ≤ 64) :
    Called Try.prog F.link_Link_Take [.ptr 0 0, I 0] (lnk (v :: q) fr) (.tup [v, nilE]) (lnk q (fr + 1)) := by
  have hlen : (v :: q ++ List.replicate fr nilS).length = (v :: q).length + fr := by simp; omega
  have hall : (v :: q ++ List.replicate fr nilS).all AV.one = true := by
    rw [List.all_append, hone, Bool.true_and, List.all_eq_true]
    intro x hx
    rw [List.eq_of_mem_replicate hx]; rfl
  have := t_take (H := lnk (v :: q) fr) (p := 0) (r := 1) (k := (v :: q).length) (i := 0) (qs := v :: q ++ List.replicate fr nilS) (by simp [lnk]) (by simp [lnk]) (by decide) (by rw [hlen]; simp [lnk, obj]) (by simp [lnk, obj]) hall (by simp) (by simp; omega) (by simp)
  refine cast (congrArg (Called _ _ _ _ _) ?_) this
  simp [lnk, setO, obj]
  exact ⟨by omega, List.replicate_succ.symm⟩
theorem t_LinkOrders (ds : List (List UInt8 × Bool)) (full : Bool) (hd : ∀ d ∈ ds, d.1.length ≤ 140737488355328) : Called Try.prog F.clapperlaw20_LinkOrders [.view (ds.map fun d => vB d.1 d.2) ds.length full] [] (Bl true) [] := by
  refine e_clapperlaw20_LinkOrders ?_
  simp only [ic_clapperlaw20_LinkOrders, go_sem]
  refine callW_some (t_up20 []) (fun _ => rfl) ?_
  simp only [go_sem]
  refine callW_some (t_new []) (fun h => absurd h (by decide)) ?_
  simp only [go_sem]
  refine ⟨fun h => leave_drop (H := []) rfl, fun h => ?_⟩
  have hn : ds.length ≤ 64 := by omega
  refine w_loop _ (fun (i : Nat) => ([(0, .view (ds.map fun d => vB d.1 d.2) ds.length full), (3, Bl true), (4, .ptr 0 0), (5, I i)], stH ((ds.map fun d => vB d.1 false).take i))) (fun i => i ≤ ds.length) (fun i => ds.length - i) 0 (Nat.zero_le _) rfl ?_
  intro i hi
  simp only [go_sem]
  refine ⟨fun hlt => ?_, fun hlt => ?_⟩
  · have hlt : i < ds.length := by omega
    simp only [go_sem, elt_map1 _ ds i hlt ([], false), List.length_map]
    refine ⟨⟨by omega, by omega⟩, callW_some (send_st (by simp; omega) (Sl.vB _ _) (pure_bs _) (one_bs _) (hd _ (getD_mem' hlt _))) (fun h => absurd h (by decide)) ?_⟩
    simp only [go_sem]
    refine ⟨i + 1, by rw [w64 _ (by omega) (by omega)]; rfl, ?_, by omega, by omega⟩
    rw [take_snoc (by simpa using hlt) .junk]
    congr 2
    simp [List.getD_eq_getElem?_getD, hlt]
  · obtain rfl : i = ds.length := by omega
    rw [List.take_of_length_le (by simp)]
    have hcl : (ds.map fun d => vB d.1 false).length = ds.length := by simp
    generalize hc : (ds.map fun d => vB d.1 false) = cl at *
    have hone : cl.all AV.one = true := by rw [← hc]; exact one_map _ (fun _ => rfl) _
    refine w_loop _ (fun (i : Nat) => ([(0, .view (ds.map fun d => vB d.1 d.2) ds.length full), (3, Bl true), (4, .ptr 0 0), (7, I i)], if ds.length = 0 then stH [] else lnk (cl.drop i) i)) (fun i => i ≤ ds.length) (fun i => ds.length - i) 0 (Nat.zero_le _) ?_ ?_
    · by_cases h0 : ds.length = 0
      · rw [if_pos h0, List.eq_nil_of_length_eq_zero (hcl.trans h0)]; rfl
      · rw [if_neg h0, List.drop_zero]
        obtain ⟨v, q, rfl⟩ : ∃ v q, cl = v :: q := by cases cl with
          | nil => exact absurd hcl.symm h0
          | cons v q => exact ⟨v, q, rfl⟩
        rfl
    · intro i hi
      simp only [go_sem]
      refine ⟨fun hlt => ?_, fun hlt => ?_⟩
      · have hlt : i < ds.length := by omega
        have hcg : cl.getD i .junk = vB (ds.getD i ([], false)).1 false := by
          rw [← hc, List.getD_eq_getElem?_getD, List.getElem?_map, List.getD_eq_getElem?_getD, List.getElem?_eq_getElem hlt]; rfl
        rw [if_neg (by omega), drop_cons (by omega) .junk, hcg]
        have hone2 : (vB (ds.getD i ([], false)).1 false :: cl.drop (i + 1)).all AV.one = true := by
          rw [← hcg, ← drop_cons (l := cl) (i := i) (by omega) AV.junk, List.all_eq_true]
          exact fun x hx => List.all_eq_true.1 hone x (List.mem_of_mem_drop hx)
        refine callW_some (take_st hone2 (by simp; omega) (by omega)) (fun h => absurd h (by decide)) ?_
        simp only [go_sem, elt_map1 _ ds i hlt ([], false), List.length_map, b2sOk_vB, b2sV_vB]
        refine ⟨⟨by omega, by omega⟩, fun hb => absurd hb (by simp), fun _ => ⟨i + 1, ?_, ?_, by omega, by omega⟩⟩
        · rw [w64 _ (by omega) (by omega)]; rfl
        · rw [if_neg (by omega)]
      · obtain rfl : i = ds.length := by omega
        have hF : ∃ v, obj (if ds.length = 0 then stH [] else lnk (cl.drop ds.length) ds.length) 0 = ⟨[v], 0, true⟩ ∧ lenOk false v = True ∧ srcN v = 0 ∧ (∀ g, okMay g v = True) ∧ v.un = v := by
          split
          · exact ⟨nilS, rfl, rfl, rfl, fun _ => rfl, rfl⟩
          · rw [List.drop_eq_nil_of_le (by omega)]
            exact ⟨_, rfl, rfl, rfl, fun _ => rfl, rfl⟩
        obtain ⟨v, v1, v2, v3, v4, v5⟩ := hF
        refine callW_some (t_takeno (p := 0) (k := 0) (v := v) (i := 0) (by split <;> simp [stH, lnk]) v1 v2 v3 v4 v5 (.inr (by simp))) (fun h => absurd h (by decide)) ?_
        have e3 : (pfx false).c T.api_Code = true := by decide
        simp only [go_sem, e3]
        exact leave_drop (H := []) rfl
end Go.Proofs.Ytdgabfeeoplldaa.Eng

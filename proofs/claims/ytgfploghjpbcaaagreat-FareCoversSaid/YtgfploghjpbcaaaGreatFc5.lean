/- Layer 14: a verdict on nothing. -/
import Derived.Test.YtgfploghjpbcaaaGreatFc4
namespace Go.Proofs.YtgfploghjpbcaaaGreat.Eng
open Go Go.Proofs
set_option linter.unusedVariables false
set_option linter.unusedSimpArgs false
set_option maxRecDepth 10000
abbrev noK : AV := .lit (.slice none 0 0)
abbrev errA (n : Int) : AV := .lit (.iface T.api_Code (.int .i64 n))
abbrev noE : AV := .lit .nilIface
theorem n_tlvMay (H : AH) : Called Tryz.prog F.tlv_May [noK] H (Bl true) H := by
  refine e_tlv_May ?_
  simp only [ic_tlv_May, go_sem]
  refine w_loop _ (fun (i : Nat) => ([(0, noK), (3, I 0), (6, noK), (7, I 0), (8, I 0)], H)) (fun i => True) (fun i => i) 0 trivial rfl ?_
  rintro i _
  simp only [go_sem]
  refine ⟨fun h => absurd h (by decide), fun _ => ?_⟩
  exact leave_same rfl
theorem n_keysMay (H : AH) : Called Tryz.prog F.keys_May [noK] H (Bl true) H := by
  refine e_keys_May ?_
  simp only [ic_keys_May, go_sem]
  refine w_loop _ (fun (i : Nat) => ([(0, noK), (5, noK), (6, I 0), (7, I 0)], H)) (fun i => True) (fun i => i) 0 trivial rfl ?_
  rintro i _
  simp only [go_sem]
  refine ⟨fun h => absurd h (by decide), fun _ => ?_⟩
  exact leave_same rfl
theorem n_revMay (H : AH) : Called Tryz.prog F.revoke_May [noK] H (Bl true) H := by
  refine e_revoke_May ?_
  simp only [ic_revoke_May, go_sem]
  refine w_loop _ (fun (i : Nat) => ([(0, noK), (5, noK), (6, I 0), (7, I 0)], H)) (fun i => True) (fun i => i) 0 trivial rfl ?_
  rintro i _
  simp only [go_sem]
  refine ⟨fun h => absurd h (by decide), fun _ => ?_⟩
  exact leave_same rfl
theorem n_get (H : AH) : Called Tryz.prog F.tlv_Get [noK] H (.tup [noK, noE]) H := by
  refine e_tlv_Get ?_
  simp only [ic_tlv_Get, go_sem]
  refine w_loop _ (fun (i : Nat) => ([(0, noK), (4, noK)], H)) (fun i => True) (fun i => i) 0 trivial rfl ?_
  rintro i _
  simp only [go_sem]
  refine ⟨fun h => absurd h (by decide), fun _ => ?_⟩
  refine callG_of (fun _ => n_tlvMay _) ?_
  simp only [go_sem]
  exact ⟨fun h => absurd h (by decide), fun _ => leave_same rfl⟩
abbrev noS : AV := .agg (List.replicate 8 (.lit (.int .u64 0)))
abbrev noT : AV := .agg (List.replicate 5 (I 0))
theorem n_parts (H : AH) : Called Tryz.prog F.ticket_parts [noK] H (.tup [noK, noS, Bl false]) H := by
  refine e_ticket_parts ?_
  simp only [ic_ticket_parts, go_sem]
  refine callW_some (n_get _) (fun _ => rfl) ?_
  simp only [go_sem, fillOk, fillv]
  simp only [show ((0 : Int) != 2) = true from rfl, go_sem, cond_true]
  exact leave_drop rfl
theorem n_numbers (H : AH) : Called Tryz.prog F.ticket_numbers [noK, I 5] H (.tup [noK, Bl false]) H := by
  refine e_ticket_numbers ?_
  simp only [ic_ticket_numbers, go_sem]
  refine callW_some (n_get _) (fun _ => rfl) ?_
  simp only [go_sem]
  exact ⟨fun _ => leave_same rfl, fun h => absurd h (by decide)⟩
theorem n_open (H : AH) : Called Tryz.prog F.ticket_Open [noK] H (.tup [noT, noS, errA 2]) H := by
  refine e_ticket_Open ?_
  simp only [ic_ticket_Open, go_sem]
  refine callW_some (n_parts _) (fun _ => rfl) ?_
  simp only [go_sem]
  refine callW_some (n_numbers _) (fun _ => rfl) ?_
  simp only [go_sem, fillOk, fillv]
  exact leave_drop rfl
theorem n_check (H : AH) : Called Tryz.prog F.keys_Check [noK, noK, I 0] H (.tup [noT, errA 2]) H := by
  refine e_keys_Check ?_
  simp only [ic_keys_Check, go_sem]
  refine callW_some (n_keysMay _) (fun _ => rfl) ?_
  simp only [go_sem]
  refine callW_some (n_open _) (fun _ => rfl) ?_
  simp only [go_sem, fillOk, fillv]
  exact leave_drop rfl
theorem n_verdict (H : AH) : Called Tryz.prog F.fare_Verdict [noK, noK, noK, noK, I 0, I 0] H (.tup [I 2, noE]) H := by
  have sn : ∀ H, Sl 7 H noK (pcs []) ([] : List Prd).length := fun H => .nil
  refine e_fare_Verdict ?_
  simp only [ic_fare_Verdict, go_sem]
  refine callW_some (n_keysMay _) (fun _ => rfl) ?_
  simp only [go_sem]
  refine callG_of (fun _ => n_revMay _) ?_
  simp only [go_sem]
  refine callG_of (fun _ => t_pMay (sn _) (fun p h => by cases h) (by decide)) ?_
  rw [show prdsB [] = true by decide]
  simp only [go_sem]
  refine callG_of (fun _ => t_plc _ _ _) ?_
  rw [show plcB 0 0 = true by decide]
  simp only [go_sem]
  refine callW_some (n_check _) (fun _ => rfl) ?_
  simp only [go_sem]
  refine callW_some (t_product (sn _) (fun p h => by cases h) (by decide) ⟨0, 0, 0, 0, 0⟩) (fun _ => rfl) ?_
  rw [show kOf [] 0 = -1 by decide, show pOf [] (-1) = noP from rfl]
  simp only [go_sem, Prd.cells, noP]
  exact ⟨rfl, fun _ => leave_drop rfl, fun h => absurd h (by decide)⟩
def upP : Prd := ⟨1, 60, ⟨127, 0, 9, [], []⟩, nilS, nilS⟩
def upT : Tkt := ⟨1, 1, 2, 10, 1⟩
theorem upP_ok : ∀ p ∈ [upP], p.ok ∧ p.few := by
  intro p hp
  rw [List.mem_singleton] at hp
  subst hp
  exact ⟨⟨⟨by decide, by decide⟩, ⟨by decide, by decide⟩, ⟨by decide, by decide⟩, ⟨by decide, by decide⟩, ⟨by decide, by decide⟩, .inr ⟨rfl, rfl⟩, .inr ⟨rfl, rfl⟩⟩, by decide⟩
theorem t_up14 (H : AH) : Called Tryz.prog F.clapperlaw14_up [] H (Bl true) H := by
  have sn : ∀ H, Sl 7 H (.view [AV.lit (Value.int IntKind.i64 1), AV.lit (Value.int IntKind.i64 60), AV.lit (Value.int IntKind.i64 127),
            AV.lit (Value.int IntKind.i64 0), AV.lit (Value.int IntKind.i64 9), AV.lit (Value.slice none 0 0),
            AV.lit (Value.slice none 0 0)] 1 true) (pcs [upP]) [upP].length := fun H => .view rfl true
  have hc := fun z m H => t_Covers (sn H) upP_ok (by decide) upT z m
  refine e_clapperlaw14_up ?_
  simp only [ic_clapperlaw14_up, go_sem, fillOk, fillv, AV.one, Value.oneCell', List.all_cons, List.all_nil]
  refine callW_some (n_verdict _) (fun _ => rfl) ?_
  simp only [go_sem]
  refine callG_of (fun _ => hc 1 69 _) ?_
  rw [show coversB [upP] upT 1 69 = true by decide]
  simp only [go_sem]
  refine callG_of (fun _ => hc 1 70 _) ?_
  rw [show coversB [upP] upT 1 70 = false by decide]
  simp only [go_sem]
  refine callG_of (fun _ => hc 0 10 _) ?_
  rw [show coversB [upP] upT 0 10 = false by decide]
  simp only [go_sem]
  exact leave_drop rfl
theorem t_FareCovers {x : AV} {l : List Prd} (hx : Sl 7 [] x (pcs l) l.length) (hl : ∀ p ∈ l, p.ok) (hn : l.length ≤ 140737488355328) (t : Tkt) (z m : Int) : Called Tryz.prog F.clapperlaw14_FareCovers [x, .agg t.cells, I z, I m] [] (Bl true) [] := by
  refine e_clapperlaw14_FareCovers ?_
  have hG : ∀ K, Sl 7 K x (pcs l) l.length := fun K => hx.app (G := K)
  simp only [ic_clapperlaw14_FareCovers, go_sem]
  refine callW_some (t_up14 _) (fun _ => rfl) ?_
  simp only [go_sem, hx.may, hx.un]
  refine callW_some (t_Few (hG _) hl hn) (fun _ => rfl) ?_
  simp only [go_sem, hx.may, hx.un]
  refine ⟨fun h => leave_drop rfl, fun h => ?_⟩
  have hf : l.length ≤ 60 ∧ ∀ p ∈ l, p.few := by simpa using h
  have hl' : ∀ p ∈ l, p.ok ∧ p.few := fun p hp => ⟨hl p hp, hf.2 p hp⟩
  refine callW_some (t_prMay (hG _) hl' (by omega)) (fun _ => rfl) ?_
  simp only [go_sem, hx.may, hx.un]
  refine callG_of (fun hm => t_rCovers (hG _) hl' (by omega) t z m hm) ?_
  simp only [go_sem, hx.may, hx.un]
  refine callG_of (fun _ => t_pMay (hG _) hl' (by omega)) ?_
  simp only [go_sem, hx.may, hx.un]
  refine callG_of (v := Bl (coversB l t z m)) (fun _ => t_Covers (hG _) hl' (by omega) t z m) ?_
  simp only [go_sem, beq_self_eq_true]
  refine leave_drop ?_
  have : (prdsB l && coversB l t z m) = coversB l t z m := by
    rw [coversB]; cases prdsB l <;> rfl
  simp only [low, this, beq_self_eq_true]
end Go.Proofs.YtgfploghjpbcaaaGreat.Eng

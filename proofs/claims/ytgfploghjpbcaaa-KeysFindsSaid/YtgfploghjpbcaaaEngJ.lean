/- All code. -/
import Derived.Test.YtgfploghjpbcaaaEngI
import Derived.Test.YtgfploghjpbcaaaEngI2
namespace Go.Proofs.Ytgfploghjpbcaaa.Eng
open Go
set_option linter.unusedVariables false
set_option linter.unusedSimpArgs false
section
variable {P : Program} {pf : Pf} {C : CallRel}
theorem least {p : Nat → Prop} (h : ∃ n, p n) : ∃ n, p n ∧ ∀ m, p m → n ≤ m := by
  obtain ⟨n, hn⟩ := h
  induction n using Nat.strongRecOn with
  | _ n ih =>
    by_cases hh : ∃ m, m < n ∧ p m
    · obtain ⟨m, h1, h2⟩ := hh; exact ih m h1 h2
    · exact ⟨n, hn, fun m hm => Nat.le_of_not_lt fun hlt => hh ⟨m, hlt, hm⟩⟩
def PQ (n : Nat) (S0 : Cx) (w0 : World) (N : Env → AH → Prop) (Q : Ex → Env → AH → Prop) (e : Exit) (a : Act) (w : World) : Prop := ∃ E H, SI n S0 w0 E H a w ∧ match e with
  | .normal => N E H
  | .exit id => Q (.exit id) E H
  | .ret => Q .ret E H
  | _ => False
theorem SI.keep {n : Nat} {S0 : Cx} {w0 : World} {E : Env} {H : AH} {a : Act} {w : World} (h : SI n S0 w0 E H a w) (l : List Nat) : SI n S0 w0 (look (keepE l E)) H a w := by
  obtain ⟨⟨φ, h1, h2, h3⟩, h4, h5, h6⟩ := h
  refine ⟨⟨φ, h1, h2, fun i => ?_⟩, h4, h5, h6⟩
  have : look (keepE l E) i = E i ∨ look (keepE l E) i = .junk := by
    induction l with
    | nil => exact .inr rfl
    | cons x l ih =>
      show (if i = x then E x else look (keepE l E) i) = _ ∨ (if i = x then E x else look (keepE l E) i) = _
      by_cases hx : i = x
      · subst hx; simp
      · simp only [hx, if_false]; exact ih
  rcases this with e | e <;> rw [e]
  · exact h3 i
  · trivial
theorem comp_sound (hC : CallOk P C) (hm : P.follows .mixedOrders = true) {X : Ctx} (hcmp : ∀ t, X.pf.c t = true → cmpT P t = true) {S0 : Cx} {w0 : World} :
    ∀ (c : Code) (ex : List (Nat × List Nat)) (k : IC) (lk : List Nat) (ic : IC) (l : List Nat), comp P X c ex (k, lk) = some (ic, l) → ∀ (Q : Ex → Env → AH → Prop) (E : Env) (H : AH) (a : Act) (w : World), SI X.n S0 w0 E H a w → iwp X.pf C ic Q E H →
      c.wp P (PQ X.n S0 w0 (iwp X.pf C k Q) Q) a w := by
  intro c
  induction c with
  | skip =>
    intro ex k lk ic l hc Q E H a w hSI h
    simp only [comp] at hc; cases hc
    exact wp_skip ⟨E, H, hSI, h⟩
  | label n =>
    intro ex k lk ic l hc Q E H a w hSI h
    simp only [comp] at hc; cases hc
    exact wp_label ⟨E, H, hSI, h⟩
  | seq x y ihx ihy =>
    intro ex k lk ic l hc Q E H a w hSI h
    simp only [comp] at hc
    obtain ⟨⟨kb, lb⟩, h1, h2⟩ := bind_some' hc
    refine wp_seq (wp_mono (ihx ex kb lb ic l h2 Q E H a w hSI h) fun e a' w' hq => ?_)
    obtain ⟨E', H', s1, s2⟩ := hq
    cases e with
    | normal => exact ihy ex k lk kb lb h1 Q E' H' a' w' s1 s2
    | exit id => exact ⟨E', H', s1, s2⟩
    | ret => exact ⟨E', H', s1, s2⟩
    | _ => exact s2.elim
  | exit id =>
    intro ex k lk ic l hc Q E H a w hSI h
    simp only [comp] at hc; cases hc
    exact wp_exit ⟨E, H, hSI, h⟩
  | ret =>
    intro ex k lk ic l hc Q E H a w hSI h
    simp only [comp] at hc; cases hc
    exact wp_ret ⟨E, H, hSI, h⟩
  | cond c x y ihx ihy =>
    intro ex k lk ic l hc Q E H a w hSI h
    simp only [comp, Option.bind_eq_bind] at hc
    have h9 := bind_some' hc; clear hc; obtain ⟨c', h1, hc⟩ := h9
    have h9 := bind_some' hc; clear hc; obtain ⟨⟨xa, la⟩, h2, hc⟩ := h9
    have h9 := bind_some' hc; clear hc; obtain ⟨⟨xb, lb⟩, h3, hc⟩ := h9
    cases hc
    simp only [iwp] at h
    obtain ⟨φ, hs, hx, hR⟩ := hSI.ex
    have hrc := ev_R hR c c' h1
    have fin : ∀ (e : Exit) (a' : Act) (w' : World) (N : Env → AH → Prop), (∀ E H, N E H → iwp X.pf C k Q E H) → PQ X.n S0 w0 N (fun e E H => match e with | .normal => iwp X.pf C k Q E H | e => Q e E H) e a' w' → PQ X.n S0 w0 (iwp X.pf C k Q) Q e a' w' := by
      rintro e a' w' N hN ⟨E', H', s1, s2⟩
      refine ⟨E', H', s1, ?_⟩
      cases e with
      | normal => exact hN _ _ s2
      | exit id => exact s2
      | ret => exact s2
      | _ => exact s2.elim
    split at h
    · rename_i t he
      rw [he] at hrc
      refine wp_cond_split (t := t) hrc (fun ht => ?_) (fun ht => ?_)
      · exact wp_mono (ihx _ _ _ _ _ h2 _ E H a w hSI (h.1 ht)) fun e a' w' hq => fin e a' w' _ (fun _ _ h => h) hq
      · exact wp_mono (ihy _ _ _ _ _ h3 _ E H a w hSI (h.2 ht)) fun e a' w' hq => fin e a' w' _ (fun _ _ h => h) hq
    · rename_i he
      rw [he] at hrc
      obtain ⟨t, hrc⟩ := hrc
      refine wp_cond_split (t := t) hrc (fun ht => ?_) (fun ht => ?_)
      · exact wp_mono (ihx _ _ _ _ _ h2 _ E H a w hSI h.1) fun e a' w' hq => fin e a' w' _ (fun _ _ h => h) hq
      · exact wp_mono (ihy _ _ _ _ _ h3 _ E H a w hSI h.2) fun e a' w' hq => fin e a' w' _ (fun _ _ h => h) hq
    · exact h.elim
  | block id b ih =>
    intro ex k lk ic l hc Q E H a w hSI h
    simp only [comp, Option.bind_eq_bind] at hc
    have h9 := bind_some' hc; clear hc; obtain ⟨⟨b', lb⟩, h2, hc⟩ := h9
    cases hc
    refine wp_block (wp_mono (ih _ _ _ _ _ h2 _ E H a w hSI h) ?_)
    rintro e a' w' ⟨E', H', s1, s2⟩
    cases e with
    | normal => exact ⟨E', H', s1, s2⟩
    | exit i =>
      simp only [Exit.inBlock]
      dsimp only at s2
      by_cases hi : i = id
      · rw [if_pos hi] at s2; rw [if_pos hi]; exact ⟨E', H', s1, s2⟩
      · rw [if_neg hi] at s2; rw [if_neg hi]; exact ⟨E', H', s1, s2⟩
    | ret => exact ⟨E', H', s1, s2⟩
    | _ => exact s2.elim
  | loop b ih =>
    intro ex k lk ic l hc Q E H a w hSI h
    simp only [comp, Option.bind_eq_bind] at hc
    have h9 := bind_some' hc; clear hc; obtain ⟨⟨_, l1⟩, h1, hc⟩ := h9
    have h9 := bind_some' hc; clear hc; obtain ⟨⟨_, l2⟩, h2, hc⟩ := h9
    have h9 := bind_some' hc; clear hc; obtain ⟨⟨_, l3⟩, h3, hc⟩ := h9
    have h9 := bind_some' hc; clear hc; obtain ⟨⟨b', l4⟩, h4, hc⟩ := h9
    cases hc
    simp only [iwp] at h
    obtain ⟨I, n, i0, istep⟩ := h
    classical
    let J : Nat → Act → World → Prop := fun n a w => ∃ E H, SI X.n S0 w0 E H a w ∧ I n E H
    let μ : Act → World → Nat := fun a w => if h : ∃ n, J n a w then Classical.choose (least h) else 0
    have hμ : ∀ {n a w}, J n a w → μ a w ≤ n := by
      intro n a w hj
      show (if h : ∃ n, J n a w then Classical.choose (least h) else 0) ≤ n
      rw [dif_pos ⟨n, hj⟩]
      exact (Classical.choose_spec (least ⟨n, hj⟩)).2 n hj
    refine wp_loop (fun a w => ∃ n, J n a w) μ ⟨n, _, _, hSI.keep l3, i0⟩ ?_
    intro a1 w1 hj
    have hmin : J (μ a1 w1) a1 w1 := by
      show J (if h : ∃ n, J n a1 w1 then Classical.choose (least h) else 0) a1 w1
      rw [dif_pos hj]
      exact (Classical.choose_spec (least hj)).1
    obtain ⟨E1, H1, s1, s2⟩ := hmin
    refine wp_mono (ih _ _ _ _ _ h4 _ E1 H1 a1 w1 s1 (istep _ _ _ s2)) ?_
    rintro e a' w' ⟨E', H', t1, t2⟩
    cases e with
    | normal =>
      obtain ⟨n', hlt, t3⟩ := t2
      have hj' : J n' a' w' := ⟨_, _, t1.keep l3, t3⟩
      exact ⟨⟨n', hj'⟩, Nat.lt_of_le_of_lt (hμ hj') hlt⟩
    | exit id => exact ⟨E', H', t1, t2⟩
    | ret => exact ⟨E', H', t1, t2⟩
    | _ => exact t2.elim
  | region id ops draw =>
    intro ex k lk ic l hc Q E H a w hSI h
    simp only [comp, Option.bind_eq_bind] at hc
    have h9 := bind_some' hc; clear hc; obtain ⟨os, h1, hc⟩ := h9
    split at hc
    · rename_i hcond
      cases hc
      simp only [Bool.and_eq_true, List.all_eq_true, Bool.or_eq_true, Bool.not_eq_true', decide_eq_true_eq, Option.isNone_iff_eq_none] at hcond
      obtain ⟨⟨hc1, hc2⟩, hc3⟩ := hcond
      have hops : opsOk X.pf X.n os := fun io hio => ⟨fun d hd => by have := hc1 io hio; rw [hd] at this; simpa using this, hc2 io hio⟩
      rw [iwp_ops] at h
      have hk : ∀ E H a w, SI X.n S0 w0 E H a w → iwp X.pf C (.keep lk k) Q E H → PQ X.n S0 w0 (iwp X.pf C k Q) Q .normal a w := fun E H a w hS hh => ⟨_, H, hS.keep lk, hh⟩
      cases draw with
      | false => exact wp_region_list (text_sound hC hcmp hk h1 hops hSI h)
      | true =>
        obtain ⟨bl, hD⟩ := drawS_of (hc3.resolve_left (by simp))
        have hrep : ∀ i, i < os.length → (Array.replicate ops.size false).getD i true = false := by
          intro i hi
          have : i < ops.size := by rw [← hD.len]; exact hi
          simp [this]
        have hfil : ((List.range os.length).filter fun i => !(Array.replicate ops.size false).getD i true) = List.range os.length := by
          refine List.filter_eq_self.2 fun i hi => ?_
          rw [hrep i (List.mem_range.1 hi)]; rfl
        have hmap : ((List.range os.length).map fun i => os.getD i default) = os := by
          apply List.ext_getElem?
          intro i
          simp only [List.getElem?_map]
          by_cases hi : i < os.length
          · rw [List.getElem?_range hi]
            obtain ⟨x, hx⟩ := some_of_lt hi
            simp [List.getD_eq_getElem?_getD, hx]
          · rw [List.getElem?_eq_none (by simp; omega), List.getElem?_eq_none (by omega)]; rfl
        have hSI' : SI X.n S0 w0 E H a { w with drawn := w.drawn + 1 } := by
          obtain ⟨⟨φ, g1, g2, g3⟩, g4, g5, g6⟩ := hSI
          exact ⟨⟨φ, g1, g2, g3⟩, g4, g5, g6⟩
        refine wp_region_any hm (any_sound hC hcmp hk h1 hops hD ops.size _ E H a _ (by simp [hD.len]) ?_ ?_ hSI' ?_)
        · intro m hm2
          exfalso
          by_cases hmm : m < ops.size
          · simp [hmm] at hm2
          · simp [hmm] at hm2
        · rw [hfil]; simp [hD.len]
        · rw [hfil, hmap]; exact h
    · rename_i hfst
      split at hc
      · rename_i hcond
        rw [forceG_eq] at hc
        split at hc
        · rename_i hdr
          cases hc
          simp only [Bool.and_eq_true, List.all_eq_true, Bool.or_eq_true, Bool.not_eq_true', decide_eq_true_eq, Option.isNone_iff_eq_none] at hcond
          obtain ⟨⟨hc1, hc2⟩, hc3⟩ := hcond
          have hops : opsOk X.pf X.n os := fun io hio => ⟨fun d hd => by have := hc1 io hio; rw [hd] at this; simpa using this, hc2 io hio⟩
          cases draw with
          | false =>
            refine absurd ?_ hfst
            simp only [Bool.and_eq_true, List.all_eq_true, Bool.or_eq_true, Bool.not_eq_true', decide_eq_true_eq, Option.isNone_iff_eq_none]
            exact ⟨⟨hc1, hc2⟩, .inl trivial⟩
          | true =>
            generalize hbl : [].reverse ++ CheckFast.beforeL ops.toList 0 [] = bl at *
            have hlen : (rasOf X.pf os bl).length = os.length := by simp [rasOf]
            have hmapo : (rasOf X.pf os bl).map (·.o) = os := by
              simp only [rasOf, List.map_map]
              apply List.ext_getElem?
              intro i
              simp only [List.getElem?_map]
              by_cases hi : i < os.length
              · rw [List.getElem?_range hi]
                obtain ⟨x, hx⟩ := some_of_lt hi
                simp [List.getD_eq_getElem?_getD, hx]
              · rw [List.getElem?_eq_none (by simp; omega), List.getElem?_eq_none (by omega)]; rfl
            have hD := drawR_of (l := rasOf X.pf os bl) (by rw [hlen, hc3]) hdr
            have hrep : ∀ i, i < (rasOf X.pf os bl).length → (Array.replicate ops.size false).getD i true = false := by
              intro i hi
              have : i < ops.size := by rw [← hD.len]; exact hi
              simp [this]
            have hfil : ((List.range (rasOf X.pf os bl).length).filter fun i => !(Array.replicate ops.size false).getD i true) = List.range (rasOf X.pf os bl).length := by
              refine List.filter_eq_self.2 fun i hi => ?_
              rw [hrep i (List.mem_range.1 hi)]; rfl
            have hmap : ((List.range (rasOf X.pf os bl).length).map fun i => (rasOf X.pf os bl).getD i default) = rasOf X.pf os bl := by
              apply List.ext_getElem?
              intro i
              simp only [List.getElem?_map]
              by_cases hi : i < (rasOf X.pf os bl).length
              · rw [List.getElem?_range hi]
                obtain ⟨x, hx⟩ := some_of_lt hi
                simp [List.getD_eq_getElem?_getD, hx]
              · rw [List.getElem?_eq_none (by simp; omega), List.getElem?_eq_none (by omega)]; rfl
            have hk : ∀ E H a w, SI X.n S0 w0 E H a w → iwp X.pf C (.keep lk k) Q E H → PQ X.n S0 w0 (iwp X.pf C k Q) Q .normal a w := fun E H a w hS hh => ⟨_, H, hS.keep lk, hh⟩
            have hSI' : SI X.n S0 w0 E (H ++ List.replicate (newN os os.length) dumO) a { w with drawn := w.drawn + 1 } := by
              obtain ⟨⟨φ, g1, g2, g3⟩, g4, g5, g6⟩ := hSI.reserve (newN os os.length)
              exact ⟨⟨φ, g1, g2, g3⟩, g4, g5, g6⟩
            have h : absR X.pf C H.length (rasOf X.pf os bl) (iwp X.pf C (.keep lk k) Q) E (H ++ List.replicate (newN os os.length) dumO) := h
            refine wp_region_any hm (any_soundR (base := H.length) hC hcmp hk (by rw [hmapo]; exact h1) (by rw [hmapo]; exact hops) hD ops.size _ E _ a _ (by simp [hD.len]) ?_ ?_ hSI' ?_)
            · intro m hm2
              exfalso
              by_cases hmm : m < ops.size
              · simp [hmm] at hm2
              · simp [hmm] at hm2
            · rw [hfil]; simp [hD.len]
            · rw [hfil, hmap]; exact h
        · cases hc
      · cases hc
  | _ => intro ex k lk ic l hc; simp only [comp] at hc; cases hc
end
end Go.Proofs.Ytgfploghjpbcaaa.Eng

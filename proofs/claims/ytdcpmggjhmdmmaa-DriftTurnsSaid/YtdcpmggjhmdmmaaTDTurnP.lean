-- what is used of it (wip/tools/slim.py)
/- The reversed walk of a right walk is a right walk, its drift is the negative. -/
import Derived.Test.YtdcpmggjhmdmmaaTDReverse
import Derived.Test.YtdcpmggjhmdmmaaTDPlan
namespace Go.Proofs.Ytdcpmggjhmdmmaa.X
open Go.RowKit Go.Proofs.YtdcpmggjhmdmmaaW.PrintWords Go.Proofs.YtdcpmggjhmdmmaaW.PrintLast Go.Proofs.YtdcpmggjhmdmmaaW.PrintMore
set_option linter.unusedVariables false
theorem rev_get {α : Type} (l : List α) (z : α) {i : Nat} (h : i < l.length) : l.reverse.getD i z = l.getD (l.length - 1 - i) z := by
  rw [List.getD_eq_getElem?_getD, List.getD_eq_getElem?_getD, List.getElem?_reverse h]
theorem revL_get (L : List (List S33)) {i : Nat} (h : i < L.length) : (revL L).getD i [] = (L.getD (L.length - 1 - i) []).map swp := by
  unfold revL
  rw [List.getD_eq_getElem?_getD, List.getElem?_map, List.getElem?_reverse h, List.getD_eq_getElem?_getD]
  have h2 : L.length - 1 - i < L.length := by omega
  rw [List.getElem?_eq_getElem h2]
  rfl
theorem map_get (l : List S33) {j : Nat} (h : j < l.length) : (l.map swp).getD j z33 = swp (l.getD j z33) := by
  rw [List.getD_eq_getElem?_getD, List.getElem?_map, List.getElem?_eq_getElem h, List.getD_eq_getElem?_getD, List.getElem?_eq_getElem h]
  rfl
theorem revL_revL (L : List (List S33)) : revL (revL L) = L := by
  unfold revL
  rw [← List.map_reverse, List.reverse_reverse, List.map_map]
  refine (List.map_congr_left (fun l _ => ?_)).trans (List.map_id L)
  show (l.map swp).map swp = l
  rw [List.map_map]
  exact (List.map_congr_left (fun x _ => by cases x; rfl)).trans (List.map_id l)
theorem rev_vw {n : Nat} {C : List (List (List Int))} {L : List (List S33)} (h : VW n C L) : VW n C.reverse (revL L) := by
  have hl := h.ll
  refine ⟨h.n0, h.n6, by rw [List.length_reverse]; exact h.cl, by rw [revL_len, List.length_reverse]; exact hl, fun i hi => ?_, fun i hi j hj => ?_, fun i hi => ?_, fun i hi j hj => ?_⟩
  · rw [List.length_reverse] at hi
    rw [rev_get C [] hi]
    exact h.cn _ (by omega)
  · rw [List.length_reverse] at hi
    rw [rev_get C [] hi] at hj ⊢
    exact h.row _ (by omega) j hj
  · rw [revL_len] at hi
    rw [revL_get L hi, List.length_map]
    exact h.ln _ (by omega)
  · rw [revL_len] at hi
    rw [revL_get L hi, List.length_map] at hj
    rw [revL_get L hi, map_get _ hj]
    have h1 := h.li (L.length - 1 - i) (by omega) j hj
    unfold inX at h1 ⊢
    rw [rev_get C [] (by omega), rev_get C [] (by omega)]
    rw [show C.length - 1 - i = L.length - 1 - i + 1 by omega, show C.length - 1 - (i + 1) = L.length - 1 - i by omega]
    exact ⟨h1.2.2.1, h1.2.2.2, h1.1, h1.2.1⟩
theorem rev_ld {n : Nat} {C : List (List (List Int))} {L : List (List S33)} (h : VW n C L) {i : Nat} (hi : i < L.length) (t : Nat) : ld C.reverse (revL L) i 0 t = - ld C L (L.length - 1 - i) 0 t := by
  have hl := h.ll
  have h1 := h.ln (L.length - 1 - i) (by omega)
  unfold ld note
  rw [revL_get L hi, map_get _ (by omega), rev_get C [] (by omega), rev_get C [] (by omega)]
  rw [show C.length - 1 - i = L.length - 1 - i + 1 by omega, show C.length - 1 - (i + 1) = L.length - 1 - i by omega]
  show (_ : Int) - _ = -(_ - _)
  simp only [swp]
  omega
theorem rev_rt {n : Nat} {C : List (List (List Int))} {L : List (List S33)} (h : VW n C L) (t : Nat) : ∀ i, i ≤ L.length → rt C.reverse (revL L) i t = rt C L (L.length - i) t - rt C L L.length t
  | 0, _ => by
    rw [Nat.sub_zero]
    show (0 : Int) = _
    omega
  | i + 1, hi => by
    show rt C.reverse (revL L) i t + ld C.reverse (revL L) i 0 t = _
    rw [rev_rt h t i (by omega), rev_ld h (by omega) t, show L.length - i = L.length - 1 - i + 1 by omega, show L.length - (i + 1) = L.length - 1 - i by omega]
    show (rt C L (L.length - 1 - i) t + ld C L (L.length - 1 - i) 0 t) - _ + _ = _
    omega
section
variable (f : Nat → Int)
/-- the drift of the reversed walk of a plan -/
def pU : List Int := mk 3 (fun t => - rt (mkC f (nCh f)) (mkL f (nCh f - 1)) (nCh f - 1) t)
theorem pU_len : (pU f).length = 3 := mk_len _ _
theorem plan_DriftU : Ev (fun k => drift_Drift.f k [2, 3, 5] (mkC f (nCh f)).reverse (revL (mkL f (nCh f - 1)))) (pU f, 0) := by
  have h5 := nCh_pos f
  have h := Drift_ev (rev_vw (plan_vw f)) [2, 3, 5] rfl prime235
  have e : mk 3 (rt (mkC f (nCh f)).reverse (revL (mkL f (nCh f - 1))) (revL (mkL f (nCh f - 1))).length) = pU f := by
    refine mk_congr fun t _ => ?_
    rw [revL_len, rev_rt (plan_vw f) t _ (Nat.le_refl _), Nat.sub_self, mkL_len]
    show (0 : Int) - _ = _
    omega
  rw [e, if_neg] at h
  · exact h
  · rw [pU, bad_small (B := 64) (fun t ht => ?_) (by decide)]
    · decide
    · have := plan_rt f (nCh f - 1) (by omega) t ht
      omega
theorem plan_addU : Ev (fun k => schismalaw51_add.f k (pD f) (pU f)) [0, 0, 0] := by
  have h5 := nCh_pos f
  have hs : ∀ t, t < 3 → -64 ≤ rt (mkC f (nCh f)) (mkL f (nCh f - 1)) (nCh f - 1) t ∧ rt (mkC f (nCh f)) (mkL f (nCh f - 1)) (nCh f - 1) t ≤ 64 := fun t ht => by
    have := plan_rt f (nCh f - 1) (by omega) t ht
    omega
  have g1 : ∀ t, t < 3 → (pD f).getD t 0 = rt (mkC f (nCh f)) (mkL f (nCh f - 1)) (nCh f - 1) t := fun t ht => by simp [pD, mk, ht]
  have g2 : ∀ t, t < 3 → (pU f).getD t 0 = - rt (mkC f (nCh f)) (mkL f (nCh f - 1)) (nCh f - 1) t := fun t ht => by simp [pU, mk, ht]
  have h := add_ev (pD f) (pU f) (by rw [pD_len, pU_len]) (by rw [pD_len]; decide) (fun t ht => by rw [pD_len] at ht; have := hs t ht; show -1000000000 ≤ (pD f).getD t 0 ∧ (pD f).getD t 0 ≤ 1000000000; rw [g1 t ht]; omega) (fun t ht => by rw [pD_len] at ht; have := hs t ht; show -1000000000 ≤ (pU f).getD t 0 ∧ (pU f).getD t 0 ≤ 1000000000; rw [g2 t ht]; omega)
  rw [pD_len] at h
  have e : mk 3 (fun t => (pD f).getD t 0 + (pU f).getD t 0) = mk 3 (fun _ => 0) := mk_congr fun t ht => by
    rw [g1 t ht, g2 t ht]
    omega
  rw [e] at h
  exact h
theorem plan_times (m : Int) (h0 : 0 ≤ m) (h1 : m ≤ 1000) : Ev (fun k => schismalaw51_times.f k (pD f) m) ((pD f).map (fun y => m * y)) := by
  refine times_ev m (pD f) (by rw [pD_len]; decide) (by omega) (fun t ht => ?_)
  rw [pD_len] at ht
  have h5 := nCh_pos f
  have := plan_rt f (nCh f - 1) (by omega) t ht
  have e : (pD f).getD t 0 = rt (mkC f (nCh f)) (mkL f (nCh f - 1)) (nCh f - 1) t := by simp [pD, mk, ht]
  show -1000000 ≤ (pD f).getD t 0 ∧ (pD f).getD t 0 ≤ 1000000
  rw [e]
  omega
end
end Go.Proofs.Ytdcpmggjhmdmmaa.X

-- what is used of it (wip/tools/slim.py)
/- The joined walk of two right walks, and the second walk that begins with the last chord of the first: plain. -/
import Derived.Test.YtdcpmggjhmdmmaaJDPlan
namespace Go.Proofs.Ytdcpmggjhmdmmaa.X
open Go.RowKit Go.Proofs.YtdcpmggjhmdmmaaW.PrintWords Go.Proofs.YtdcpmggjhmdmmaaW.PrintLast Go.Proofs.YtdcpmggjhmdmmaaW.PrintMore
set_option linter.unusedVariables false
/-- a right walk of few chords of small notes -/
structure BW (m : Nat) (C : List (List (List Int))) (L : List (List S33)) : Prop where
  vw : VW 3 C L
  len : C.length ≤ m
  sm : ∀ i, i < C.length → ∀ j : Int, small 8 3 (fun t => (note C i j).getD t 0)
theorem plan_bw (f : Nat → Int) : BW 5 (mkC f (nCh f)) (mkL f (nCh f - 1)) :=
  ⟨plan_vw f, by rw [mkC_len]; exact (nCh_pos f).2, fun i hi j => note_small f (by rw [mkC_len] at hi; exact hi) j⟩
section
variable {m : Nat} {C : List (List (List Int))} {L : List (List S33)} (h : BW m C L)
include h
theorem BW.ld_small {i : Nat} (hi : i < L.length) (j : Nat) : small 16 3 (ld C L i j) := fun t ht => by
  have hl := h.vw.ll
  have a : -8 ≤ (note C i ((L.getD i []).getD j z33).f0).getD t 0 ∧ (note C i ((L.getD i []).getD j z33).f0).getD t 0 ≤ 8 := h.sm i (by omega) _ t ht
  have b : -8 ≤ (note C (i + 1) ((L.getD i []).getD j z33).f1).getD t 0 ∧ (note C (i + 1) ((L.getD i []).getD j z33).f1).getD t 0 ≤ 8 := h.sm (i + 1) (by omega) _ t ht
  unfold ld
  omega
theorem BW.rt_small : ∀ i, i ≤ L.length → small (16 * i) 3 (rt C L i)
  | 0, _ => fun t ht => by simp [rt]
  | i + 1, hi => fun t ht => by
    have a := BW.rt_small i (by omega) t ht
    have b := h.ld_small (i := i) (by omega) 0 t ht
    show _ ≤ rt _ _ i t + ld _ _ i 0 t ∧ rt _ _ i t + ld _ _ i 0 t ≤ _
    omega
theorem bw_Drift (hm : m ≤ 20) : Ev (fun k => drift_Drift.f k [2, 3, 5] C L) (mk 3 (rt C L L.length), 0) := by
  have h1 := Drift_ev h.vw [2, 3, 5] rfl prime235
  have hl := h.vw.ll
  have hn := h.len
  rw [if_neg (by rw [bad_small (h.rt_small L.length (Nat.le_refl _)) (by omega)]; decide)] at h1
  exact h1
end
/-- the links of a walk whose first chord is changed -/
def redL (n : Nat) : List (List S33) → List (List S33)
  | [] => []
  | l :: r => l.map (fun x => (⟨x.f0 % (n : Int), x.f1⟩ : S33)) :: r
theorem redL_len (n : Nat) (L : List (List S33)) : (redL n L).length = L.length := by cases L <;> rfl
theorem cons_get {C : List (List (List Int))} {x : List (List Int)} {i : Nat} (hi : 0 < i) : (x :: C.drop 1).getD i [] = C.getD i [] := by
  obtain ⟨j, rfl⟩ : ∃ j, i = j + 1 := ⟨i - 1, by omega⟩
  rw [List.getD_cons_succ, List.getD_eq_getElem?_getD, List.getElem?_drop, List.getD_eq_getElem?_getD, Nat.add_comm]
theorem redL_get {n : Nat} {L : List (List S33)} {i : Nat} (hi : 0 < i) : (redL n L).getD i [] = L.getD i [] := by
  obtain ⟨j, rfl⟩ : ∃ j, i = j + 1 := ⟨i - 1, by omega⟩
  cases L <;> rfl
theorem redL_get0 {n : Nat} {L : List (List S33)} : (redL n L).getD 0 [] = (L.getD 0 []).map (fun x => (⟨x.f0 % (n : Int), x.f1⟩ : S33)) := by
  cases L <;> rfl
theorem redL_get0' {n : Nat} {l : List S33} {j : Nat} (hj : j < l.length) : (l.map (fun x => (⟨x.f0 % (n : Int), x.f1⟩ : S33))).getD j z33 = ⟨(l.getD j z33).f0 % (n : Int), (l.getD j z33).f1⟩ := by
  simp [hj]
/-- the walk that begins with another chord -/
theorem like_bw {m m1 : Nat} {C C1 : List (List (List Int))} {L L1 : List (List S33)} (h : BW m C L) (h1 : BW m1 C1 L1) {i0 : Nat} (hi0 : i0 < C1.length) : BW m (C1.getD i0 [] :: C.drop 1) (redL (C1.getD i0 []).length L) := by
  have hl := h.vw.ll
  have hlen : (C1.getD i0 [] :: C.drop 1).length = C.length := by rw [List.length_cons, List.length_drop]; omega
  have hn := h1.vw.cn i0 hi0
  refine ⟨⟨by decide, by decide, by rw [hlen]; exact h.vw.cl, by rw [redL_len, hlen]; exact hl, fun i hi => ?_, fun i hi j hj => ?_, fun i hi => ?_, fun i hi j hj => ?_⟩, by rw [hlen]; exact h.len, fun i hi j => ?_⟩
  · rw [hlen] at hi
    rcases Nat.eq_zero_or_pos i with rfl | h0
    · exact hn
    · rw [cons_get h0]
      exact h.vw.cn i hi
  · rw [hlen] at hi
    rcases Nat.eq_zero_or_pos i with rfl | h0
    · exact h1.vw.row i0 hi0 j hj
    · rw [cons_get h0] at hj ⊢
      exact h.vw.row i hi j hj
  · rw [redL_len] at hi
    rcases Nat.eq_zero_or_pos i with rfl | h0
    · rw [redL_get0, List.length_map]
      exact h.vw.ln 0 hi
    · rw [redL_get h0]
      exact h.vw.ln i hi
  · rw [redL_len] at hi
    rcases Nat.eq_zero_or_pos i with rfl | h0
    · rw [redL_get0, List.length_map] at hj
      have h2 := h.vw.li 0 hi j hj
      rw [redL_get0, redL_get0' hj]
      unfold inX at h2 ⊢
      rw [cons_get (show 0 < 0 + 1 by decide)]
      rw [List.getD_cons_zero]
      have a1 := Int.emod_nonneg ((L.getD 0 []).getD j z33).f0 (show ((C1.getD i0 []).length : Int) ≠ 0 by omega)
      have a2 := Int.emod_lt_of_pos ((L.getD 0 []).getD j z33).f0 (show 0 < ((C1.getD i0 []).length : Int) by omega)
      exact ⟨a1, a2, h2.2.2.1, h2.2.2.2⟩
    · rw [redL_get h0] at hj ⊢
      have h2 := h.vw.li i hi j hj
      unfold inX at h2 ⊢
      rw [cons_get h0, cons_get (Nat.succ_pos i)]
      exact h2
  · rw [hlen] at hi
    rcases Nat.eq_zero_or_pos i with rfl | h0
    · exact h1.sm i0 hi0 j
    · have := h.sm i hi j
      unfold note at this ⊢
      rw [cons_get h0]
      exact this
section
variable {C1 C2 : List (List (List Int))} {L1 L2 : List (List S33)}
theorem app_get1 {α : Type} {l r : List α} {z : α} {i : Nat} (hi : i < l.length) : (l ++ r).getD i z = l.getD i z := by
  rw [List.getD_eq_getElem?_getD, List.getD_eq_getElem?_getD, List.getElem?_append_left hi]
theorem app_get2 {α : Type} {l r : List α} {z : α} {i : Nat} (hi : l.length ≤ i) : (l ++ r).getD i z = r.getD (i - l.length) z := by
  rw [List.getD_eq_getElem?_getD, List.getD_eq_getElem?_getD, List.getElem?_append_right hi]
/-- chord number |L1| + i of the joined walk is chord i of the second -/
theorem join_get (hl : L1.length + 1 = C1.length) (he : C1.getD (C1.length - 1) [] = C2.getD 0 []) (i : Nat) : (C1 ++ C2.drop 1).getD (L1.length + i) [] = C2.getD i [] := by
  rcases Nat.eq_zero_or_pos i with rfl | h0
  · rw [Nat.add_zero, app_get1 (by omega), ← he]
    congr 1
    omega
  · rw [app_get2 (by omega), List.getD_eq_getElem?_getD, List.getElem?_drop, List.getD_eq_getElem?_getD]
    rw [show 1 + (L1.length + i - C1.length) = i by omega]
theorem join_bw {m1 m2 : Nat} (h1 : BW m1 C1 L1) (h2 : BW m2 C2 L2) (he : C1.getD (C1.length - 1) [] = C2.getD 0 []) (hm : m1 + m2 ≤ 64) : BW (m1 + m2) (C1 ++ C2.drop 1) (L1 ++ L2) := by
  have l1 := h1.vw.ll
  have l2 := h2.vw.ll
  have n1 := h1.len
  have n2 := h2.len
  have hlen : (C1 ++ C2.drop 1).length = L1.length + L2.length + 1 := by rw [List.length_append, List.length_drop]; omega
  have key : ∀ i, i < (C1 ++ C2.drop 1).length → (i < C1.length ∧ (C1 ++ C2.drop 1).getD i [] = C1.getD i []) ∨ ∃ k, i = L1.length + k ∧ k < C2.length ∧ (C1 ++ C2.drop 1).getD i [] = C2.getD k [] := fun i hi => by
    by_cases hc : i < C1.length
    · exact .inl ⟨hc, app_get1 hc⟩
    · refine .inr ⟨i - L1.length, by omega, by omega, ?_⟩
      rw [show i = L1.length + (i - L1.length) by omega, join_get l1 he, Nat.add_sub_cancel_left]
  refine ⟨⟨by decide, by decide, by omega, by rw [List.length_append, hlen], fun i hi => ?_, fun i hi j hj => ?_, fun i hi => ?_, fun i hi j hj => ?_⟩, by omega, fun i hi j => ?_⟩
  · rcases key i hi with ⟨hc, e⟩ | ⟨k, -, hk, e⟩
    · rw [e]; exact h1.vw.cn i hc
    · rw [e]; exact h2.vw.cn k hk
  · rcases key i hi with ⟨hc, e⟩ | ⟨k, -, hk, e⟩
    · rw [e] at hj ⊢; exact h1.vw.row i hc j hj
    · rw [e] at hj ⊢; exact h2.vw.row k hk j hj
  · rw [List.length_append] at hi
    by_cases hc : i < L1.length
    · rw [app_get1 hc]; exact h1.vw.ln i hc
    · rw [app_get2 (by omega)]; exact h2.vw.ln _ (by omega)
  · rw [List.length_append] at hi
    by_cases hc : i < L1.length
    · rw [app_get1 hc] at hj ⊢
      have h3 := h1.vw.li i hc j hj
      unfold inX at h3 ⊢
      rw [app_get1 (by omega), app_get1 (by omega)]
      exact h3
    · rw [app_get2 (by omega)] at hj ⊢
      have h3 := h2.vw.li (i - L1.length) (by omega) j hj
      unfold inX at h3 ⊢
      have e1 := join_get (C2 := C2) l1 he (i - L1.length)
      have e2 := join_get (C2 := C2) l1 he (i - L1.length + 1)
      rw [show L1.length + (i - L1.length) = i by omega] at e1
      rw [show L1.length + (i - L1.length + 1) = i + 1 by omega] at e2
      rw [e1, e2]
      exact h3
  · unfold note
    rcases key i hi with ⟨hc, e⟩ | ⟨k, -, hk, e⟩
    · rw [e]; exact h1.sm i hc j
    · rw [e]; exact h2.sm k hk j
theorem join_rt1 (l1 : L1.length + 1 = C1.length) (t : Nat) : ∀ i, i ≤ L1.length → rt (C1 ++ C2.drop 1) (L1 ++ L2) i t = rt C1 L1 i t
  | 0, _ => rfl
  | i + 1, hi => by
    show rt _ _ i t + ld _ _ i 0 t = rt _ _ i t + ld _ _ i 0 t
    rw [join_rt1 l1 t i (by omega)]
    unfold ld note
    rw [app_get1 (by omega), app_get1 (by omega), app_get1 (by omega)]
theorem join_rt2 (l1 : L1.length + 1 = C1.length) (he : C1.getD (C1.length - 1) [] = C2.getD 0 []) (t : Nat) : ∀ i, i ≤ L2.length → rt (C1 ++ C2.drop 1) (L1 ++ L2) (L1.length + i) t = rt C1 L1 L1.length t + rt C2 L2 i t
  | 0, _ => by
    rw [Nat.add_zero, join_rt1 l1 t _ (Nat.le_refl _)]
    show _ = _ + (0 : Int)
    omega
  | i + 1, hi => by
    show rt _ _ (L1.length + i) t + ld _ _ (L1.length + i) 0 t = _ + (rt _ _ i t + ld _ _ i 0 t)
    rw [join_rt2 l1 he t i (by omega)]
    unfold ld note
    have e1 := join_get (C2 := C2) l1 he i
    have e2 := join_get (C2 := C2) l1 he (i + 1)
    rw [← Nat.add_assoc] at e2
    rw [e1, e2, app_get2 (by omega), Nat.add_sub_cancel_left]
    omega
/-- the drift of a right walk -/
def dW (C : List (List (List Int))) (L : List (List S33)) : List Int := mk 3 (rt C L L.length)
theorem dW_len (C : List (List (List Int))) (L : List (List S33)) : (dW C L).length = 3 := mk_len _ _
theorem dW_get (C : List (List (List Int))) (L : List (List S33)) {t : Nat} (ht : t < 3) : (dW C L).getD t 0 = rt C L L.length t := by simp [dW, mk, ht]
theorem join_add {m1 m2 : Nat} (h1 : BW m1 C1 L1) (h2 : BW m2 C2 L2) (he : C1.getD (C1.length - 1) [] = C2.getD 0 []) (hm : m1 + m2 ≤ 20) : Ev (fun k => schismalaw51_add.f k (dW C1 L1) (dW C2 L2)) (dW (C1 ++ C2.drop 1) (L1 ++ L2)) := by
  have l1 := h1.vw.ll
  have l2 := h2.vw.ll
  have n1 := h1.len
  have n2 := h2.len
  have s1 := h1.rt_small L1.length (Nat.le_refl _)
  have s2 := h2.rt_small L2.length (Nat.le_refl _)
  have h := add_ev (dW C1 L1) (dW C2 L2) (by rw [dW_len, dW_len]) (by rw [dW_len]; decide)
    (fun t ht => by rw [dW_len] at ht; have := s1 t ht; show -1000000000 ≤ (dW C1 L1).getD t 0 ∧ (dW C1 L1).getD t 0 ≤ 1000000000; rw [dW_get _ _ ht]; omega)
    (fun t ht => by rw [dW_len] at ht; have := s2 t ht; show -1000000000 ≤ (dW C2 L2).getD t 0 ∧ (dW C2 L2).getD t 0 ≤ 1000000000; rw [dW_get _ _ ht]; omega)
  rw [dW_len] at h
  have e : mk 3 (fun t => (dW C1 L1).getD t 0 + (dW C2 L2).getD t 0) = dW (C1 ++ C2.drop 1) (L1 ++ L2) := mk_congr fun t ht => by
    rw [dW_get _ _ ht, dW_get _ _ ht, List.length_append, join_rt2 l1 he t _ (Nat.le_refl _)]
  rw [e] at h
  exact h
end
end Go.Proofs.Ytdcpmggjhmdmmaa.X

-- what is used of it (wip/tools/slim.py)
/- A plan, and the walk that is made of it: a right one. -/
import Derived.Test.YtdcpmggjhmdmmaaJDPure2
namespace Go.Proofs.Ytdcpmggjhmdmmaa.X
open Go.RowKit Go.Proofs.YtdcpmggjhmdmmaaW.PrintWords Go.Proofs.YtdcpmggjhmdmmaaW.PrintLast Go.Proofs.YtdcpmggjhmdmmaaW.PrintMore
set_option linter.unusedVariables false
def kdp (j : Nat) : IntKind := if j < 6 ∨ 51 ≤ j then .u8 else .i8
/-- the cells of a plan -/
structure PlanOk (cs : Array Value) (f : Nat → Int) : Prop where
  size : cs.size = 68
  cell : ∀ j, j < 68 → cs[j]? = some (.int (kdp j) (f j))
  u : ∀ j, j < 6 ∨ 51 ≤ j → 0 ≤ f j ∧ f j ≤ 255
  i : ∀ j, 6 ≤ j → j < 51 → -128 ≤ f j ∧ f j ≤ 127
def nCh (f : Nat → Int) : Nat := 1 + (f 0 % 5).toNat
def nNt (f : Nat → Int) (i : Nat) : Nat := 1 + (f (1 + i) % 3).toNat
def nt (f : Nat → Int) (i k : Nat) : List Int := [(f (6 + i * 9 + k * 3)).tmod 9, (f (6 + i * 9 + k * 3 + 1)).tmod 9, (f (6 + i * 9 + k * 3 + 2)).tmod 9]
def nts (f : Nat → Int) (i m : Nat) : List (List Int) := (List.range m).map (nt f i)
def mkC (f : Nat → Int) (m : Nat) : List (List (List Int)) := (List.range m).map (fun i => nts f i (nNt f i))
def nLk (f : Nat → Int) (i : Nat) : Nat := 1 + (f 67 / 2 ^ i % 2).toNat
def lk (f : Nat → Int) (i k : Nat) : S33 := ⟨f (51 + i * 4 + k * 2) % (nNt f i : Int), f (51 + i * 4 + k * 2 + 1) % (nNt f (i + 1) : Int)⟩
def lks (f : Nat → Int) (i m : Nat) : List S33 := (List.range m).map (lk f i)
def mkL (f : Nat → Int) (m : Nat) : List (List S33) := (List.range m).map (fun i => lks f i (nLk f i))
theorem nts_succ (f : Nat → Int) (i m : Nat) : nts f i m ++ [nt f i m] = nts f i (m + 1) := by simp [nts, List.range_succ]
theorem mkC_succ (f : Nat → Int) (m : Nat) : mkC f m ++ [nts f m (nNt f m)] = mkC f (m + 1) := by simp [mkC, List.range_succ]
theorem lks_succ (f : Nat → Int) (i m : Nat) : lks f i m ++ [lk f i m] = lks f i (m + 1) := by simp [lks, List.range_succ]
theorem mkL_succ (f : Nat → Int) (m : Nat) : mkL f m ++ [lks f m (nLk f m)] = mkL f (m + 1) := by simp [mkL, List.range_succ]
theorem mkC_len (f : Nat → Int) (m : Nat) : (mkC f m).length = m := by simp [mkC]
theorem mkL_len (f : Nat → Int) (m : Nat) : (mkL f m).length = m := by simp [mkL]
theorem mkC_get (f : Nat → Int) {m i : Nat} (h : i < m) : (mkC f m).getD i [] = nts f i (nNt f i) := by simp [mkC, h]
theorem mkL_get (f : Nat → Int) {m i : Nat} (h : i < m) : (mkL f m).getD i [] = lks f i (nLk f i) := by simp [mkL, h]
theorem nts_len (f : Nat → Int) (i m : Nat) : (nts f i m).length = m := by simp [nts]
theorem lks_len (f : Nat → Int) (i m : Nat) : (lks f i m).length = m := by simp [lks]
theorem nts_get (f : Nat → Int) {i m j : Nat} (h : j < m) : (nts f i m).getD j [] = nt f i j := by simp [nts, h]
theorem lks_get (f : Nat → Int) {i m j : Nat} (h : j < m) : (lks f i m).getD j z33 = lk f i j := by simp [lks, h]
theorem tm9 (z : Int) : -8 ≤ z.tmod 9 ∧ z.tmod 9 ≤ 8 := by
  have h1 := Int.lt_tmod_of_pos z (show (0 : Int) < 9 by decide)
  have h2 := Int.tmod_lt_of_pos z (show (0 : Int) < 9 by decide)
  omega
theorem nt_small (f : Nat → Int) (i k : Nat) : small 8 3 (fun t => (nt f i k).getD t 0) := fun t ht => by
  match t, ht with
  | 0, _ => exact tm9 _
  | 1, _ => exact tm9 _
  | 2, _ => exact tm9 _
theorem nNt_pos (f : Nat → Int) (i : Nat) : 1 ≤ nNt f i ∧ nNt f i ≤ 3 := by unfold nNt; omega
theorem nLk_pos (f : Nat → Int) (i : Nat) : 1 ≤ nLk f i ∧ nLk f i ≤ 2 := by unfold nLk; omega
theorem nCh_pos (f : Nat → Int) : 1 ≤ nCh f ∧ nCh f ≤ 5 := by unfold nCh; omega
theorem plan_vw (f : Nat → Int) : VW 3 (mkC f (nCh f)) (mkL f (nCh f - 1)) := by
  have hc := nCh_pos f
  refine ⟨by decide, by decide, by rw [mkC_len]; omega, by rw [mkL_len, mkC_len]; omega, fun i hi => ?_, fun i hi j hj => ?_, fun i hi => ?_, fun i hi j hj => ?_⟩
  · rw [mkC_len] at hi
    rw [mkC_get f hi, nts_len]
    have := nNt_pos f i
    omega
  · rw [mkC_len] at hi
    rw [mkC_get f hi, nts_len] at hj
    rw [mkC_get f hi, nts_get f hj]
    exact ⟨rfl, small_mono (nt_small f i j) (by decide)⟩
  · rw [mkL_len] at hi
    rw [mkL_get f hi, lks_len]
    have := nLk_pos f i
    omega
  · rw [mkL_len] at hi
    rw [mkL_get f hi, lks_len] at hj
    rw [mkL_get f hi, lks_get f hj]
    unfold inX
    rw [mkC_get f (by omega), mkC_get f (by omega), nts_len, nts_len]
    have h1 := nNt_pos f i
    have h2 := nNt_pos f (i + 1)
    have a1 := Int.emod_nonneg (f (51 + i * 4 + j * 2)) (show (nNt f i : Int) ≠ 0 by omega)
    have a2 := Int.emod_lt_of_pos (f (51 + i * 4 + j * 2)) (show 0 < (nNt f i : Int) by omega)
    have b1 := Int.emod_nonneg (f (51 + i * 4 + j * 2 + 1)) (show (nNt f (i + 1) : Int) ≠ 0 by omega)
    have b2 := Int.emod_lt_of_pos (f (51 + i * 4 + j * 2 + 1)) (show 0 < (nNt f (i + 1) : Int) by omega)
    exact ⟨a1, a2, b1, b2⟩
theorem note_small (f : Nat → Int) {i : Nat} (hi : i < nCh f) (j : Int) : small 8 3 (fun t => (note (mkC f (nCh f)) i j).getD t 0) := fun t ht => by
  show -8 ≤ ((((mkC f (nCh f)).getD i []).getD j.toNat []).getD t 0) ∧ ((((mkC f (nCh f)).getD i []).getD j.toNat []).getD t 0) ≤ 8
  rw [mkC_get f hi]
  by_cases h : j.toNat < nNt f i
  · rw [nts_get f h]
    exact nt_small f i _ t ht
  · rw [show (nts f i (nNt f i)).getD j.toNat [] = [] from by
      rw [List.getD_eq_getElem?_getD, List.getElem?_eq_none (by rw [nts_len]; omega)]; rfl]
    simp
theorem bad_small {n : Nat} {B : Int} {g : Nat → Int} (h : small B n g) (hB : B ≤ 1000) : bad (mk n g) = false := by
  rw [← Bool.not_eq_true, bad_mk]
  rintro ⟨t, ht, h1⟩
  have := h t ht
  omega
def pty (j : Nat) : Nat := if j < 6 ∨ 51 ≤ j then 5 else 45
def intAt (cs : Array Value) (j : Nat) : Int := match cs[j]? with | some (.int _ n) => n | _ => 0
theorem types53 : Try.prog.cellTypes Try.prog.depth 53 = some ((List.range 68).map pty) := by kernel_rfl
theorem cells53 : Try.prog.cellsOf 53 = 68 := by kernel_rfl
set_option maxRecDepth 100000 in
theorem cell_kind {w : World} {r : Reach} {b : Nat} {t : TypeId} {k : IntKind} {v : Value} (ht : Try.prog.underlying t = some (.int k)) (h : Cell.okWide Try.prog w r b t v) : ∃ n, v = .int k n ∧ k.has n := by
  unfold Cell.okWide Cell.ok at h
  rw [ht] at h
  cases v with
  | int k' n =>
    obtain ⟨rfl, h2⟩ := h
    exact ⟨n, rfl, h2⟩
  | _ => exact h.elim
set_option maxRecDepth 100000 in
theorem plan_open {w : World} {r : Reach} {b : Nat} {v : Value} (h : Value.okWide Try.prog w r b 53 v) : ∃ cs f, v = .agg cs ∧ PlanOk cs f := by
  unfold Value.okWide at h
  rw [Try.underlying53] at h
  obtain ⟨cs, rfl, hs, ts, hts, -, hc⟩ := h
  rw [cells53] at hs
  rw [types53] at hts
  obtain rfl := Option.some.inj hts
  have key : ∀ j, j < 68 → ∃ n, cs[j]? = some (.int (kdp j) n) ∧ (kdp j).has n := fun j hj => by
    obtain ⟨v, hv⟩ : ∃ v, cs[j]? = some v := ⟨cs[j], Array.getElem?_eq_getElem (by omega)⟩
    obtain ⟨u, hu, hk⟩ := hc j v hv
    have hu2 : u = pty j := by
      have : j % 68 = j := Nat.mod_eq_of_lt hj
      simp [this, hj] at hu
      exact hu.symm
    subst hu2
    by_cases hq : j < 6 ∨ 51 ≤ j
    · rw [show pty j = 5 from if_pos hq] at hk
      obtain ⟨n, rfl, h2⟩ := cell_kind Try.underlying5 hk
      exact ⟨n, by rw [show kdp j = .u8 from if_pos hq]; exact hv, by rw [show kdp j = .u8 from if_pos hq]; exact h2⟩
    · rw [show pty j = 45 from if_neg hq] at hk
      obtain ⟨n, rfl, h2⟩ := cell_kind Try.underlying45 hk
      exact ⟨n, by rw [show kdp j = .i8 from if_neg hq]; exact hv, by rw [show kdp j = .i8 from if_neg hq]; exact h2⟩
  have hf : ∀ j, j < 68 → cs[j]? = some (.int (kdp j) (intAt cs j)) ∧ (kdp j).has (intAt cs j) := fun j hj => by
    obtain ⟨n, h1, h2⟩ := key j hj
    have e : intAt cs j = n := by unfold intAt; rw [h1]
    rw [e]
    exact ⟨h1, h2⟩
  refine ⟨cs, fun j => if j < 68 then intAt cs j else 0, rfl, hs, fun j hj => ?_, fun j hj => ?_, fun j h1 h2 => ?_⟩
  · rw [if_pos hj]
    exact (hf j hj).1
  · by_cases h6 : j < 68
    · have h2 := (hf j h6).2
      rw [show kdp j = .u8 from if_pos hj] at h2
      simp only [if_pos h6]
      exact ⟨h2.1, h2.2⟩
    · simp only [if_neg h6]
      omega
  · have h3 := (hf j (by omega)).2
    rw [show kdp j = .i8 from if_neg (by omega)] at h3
    simp only [if_pos (show j < 68 by omega)]
    exact ⟨h3.1, h3.2⟩
end Go.Proofs.Ytdcpmggjhmdmmaa.X

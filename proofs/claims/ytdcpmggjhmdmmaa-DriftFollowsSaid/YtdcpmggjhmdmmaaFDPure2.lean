-- what is used of it (wip/tools/slim.py)
/- Plain laws: the law's own roots and strains, the program's strains. -/
import Derived.Test.YtdcpmggjhmdmmaaFDPure
namespace Go.Proofs.Ytdcpmggjhmdmmaa.X
open Go.RowKit Go.Proofs.YtdcpmggjhmdmmaaW.PrintWords Go.Proofs.YtdcpmggjhmdmmaaW.PrintLast Go.Proofs.YtdcpmggjhmdmmaaW.PrintMore
set_option linter.unusedVariables false
theorem mk_snoc (j : Nat) (f : Nat → Int) : mk j f ++ [f j] = mk (j + 1) f := by simp [mk, List.range_succ]
theorem add_l0 (x y : List Int) (hl : x.length = y.length) (hx : x.length < 1000) (bx : small 1000000000 x.length (fun t => x.getD t 0)) (by_ : small 1000000000 x.length (fun t => y.getD t 0)) (d : Nat) : ∀ j : Nat, j + d = x.length →
    Ev (fun k => schismalaw51_add.l0 k x y (mk j (fun t => x.getD t 0 + y.getD t 0)) (x.length : Int) (j : Int)) (mk x.length (fun t => x.getD t 0 + y.getD t 0)) := by
  induction d with
  | zero =>
    intro j hj
    obtain rfl : j = x.length := by omega
    exact Ev.val (fun k => by simp only [schismalaw51_add.l0]; rw [if_neg (by omega)])
  | succ d ih =>
    intro j hj
    have a : -1000000000 ≤ x.getD j 0 ∧ x.getD j 0 ≤ 1000000000 := bx j (by omega)
    have b : -1000000000 ≤ y.getD j 0 ∧ y.getD j 0 ≤ 1000000000 := by_ j (by omega)
    refine Ev.one (ih (j + 1) (by omega)) (fun k => ?_)
    simp only [schismalaw51_add.l0]
    rw [if_pos (by omega), if_pos (by omega), if_pos (by omega), if_pos (by omega), if_pos (by rw [mk_len]; omega), rdI, rdI, wrap_in (by omega) (by omega), wrap_succ j (by omega), mk_snoc j (fun t => x.getD t 0 + y.getD t 0)]
theorem add_ev (x y : List Int) (hl : x.length = y.length) (hx : x.length < 1000) (bx : small 1000000000 x.length (fun t => x.getD t 0)) (by_ : small 1000000000 x.length (fun t => y.getD t 0)) :
    Ev (fun k => schismalaw51_add.f k x y) (mk x.length (fun t => x.getD t 0 + y.getD t 0)) := add_l0 x y hl hx bx by_ x.length 0 (by omega)
theorem map_getD (a : Int) (y : List Int) (t : Nat) (h : t < y.length) : (y.map (fun z => a * z)).getD t 0 = a * y.getD t 0 := by simp [h]
theorem sub_ev (n : Nat) (x y : List Int) (lx : x.length = n) (ly : y.length = n) (hn : n < 1000) (bx : small 1000000 n (fun t => x.getD t 0)) (by_ : small 1000000 n (fun t => y.getD t 0)) :
    Ev (fun k => schismalaw51_sub.f k x y) (mk n (fun t => x.getD t 0 - y.getD t 0)) := by
  subst lx
  have h1 := times_ev (-1) y (by omega) (by omega) (by rw [ly]; exact by_)
  have h2 := add_ev x (y.map (fun z => -1 * z)) (by simp [ly]) hn (small_mono bx (by omega)) (fun t ht => by
    have := by_ t ht
    dsimp only
    rw [map_getD _ _ _ (by omega)]
    have h3 : -1000000 ≤ y.getD t 0 ∧ y.getD t 0 ≤ 1000000 := this
    omega)
  have e : mk x.length (fun t => x.getD t 0 + (y.map (fun z => -1 * z)).getD t 0) = mk x.length (fun t => x.getD t 0 - y.getD t 0) := mk_congr fun t ht => by rw [map_getD _ _ _ (by omega)]; omega
  rw [e] at h2
  exact Ev.bind (f := fun k t285 => (schismalaw51_add.f k x t285).bind fun t288 => some t288) h1 (Ev.bind (f := fun _ t288 => some t288) h2 (Ev.now _))
section
variable {n : Nat} {C : List (List (List Int))} {L : List (List S33)} (h : VW n C L)
include h
/-- the law's own lead -/
theorem llead_ev (P root : List Int) {i j : Nat} (hi : i < L.length) (hj : j < (L.getD i []).length) (hr : root.length = n) (br : small 200000 n (fun t => root.getD t 0)) :
    Ev (fun k => schismalaw51_lead.f k P C L (i : Int) root ((L.getD i []).getD j z33).f0 ((L.getD i []).getD j z33).f1) (mk n (fun t => root.getD t 0 + ld C L i j t)) := by
  have a := h.n1 hi hj
  have b := h.n2 hi hj
  have h1 := h.li i hi j hj
  unfold inX at h1
  have hl := h.ll
  have hc := h.cl
  have n6 := h.n6
  have s1 := add_ev root (note C i ((L.getD i []).getD j z33).f0) (by rw [a.1, hr]) (by omega) (by rw [hr]; exact small_mono br (by omega)) (by rw [hr]; exact small_mono a.2 (by omega))
  rw [hr] at s1
  have s2 := sub_ev n (mk n (fun t => root.getD t 0 + (note C i ((L.getD i []).getD j z33).f0).getD t 0)) (note C (i + 1) ((L.getD i []).getD j z33).f1) (mk_len _ _) b.1 (by omega) (fun t ht => by
    dsimp only
    rw [mk_getD ht]
    have h2 : -200000 ≤ root.getD t 0 ∧ root.getD t 0 ≤ 200000 := br t ht
    have h3 : -1000 ≤ (note C i ((L.getD i []).getD j z33).f0).getD t 0 ∧ (note C i ((L.getD i []).getD j z33).f0).getD t 0 ≤ 1000 := a.2 t ht
    omega) (small_mono b.2 (by omega))
  have e : mk n (fun t => (mk n (fun t => root.getD t 0 + (note C i ((L.getD i []).getD j z33).f0).getD t 0)).getD t 0 - (note C (i + 1) ((L.getD i []).getD j z33).f1).getD t 0) = mk n (fun t => root.getD t 0 + ld C L i j t) := mk_congr fun t ht => by
    rw [mk_getD ht]; unfold ld; omega
  rw [e] at s2
  have s3 := Ev.bind (f := fun k t295 => (schismalaw51_sub.f k t295 (note C (i + 1) ((L.getD i []).getD j z33).f1)).bind fun t300 => some t300) s1 (Ev.bind (f := fun _ t300 => some t300) s2 (Ev.now _))
  refine Ev.congr (fun k => ?_) s3
  unfold schismalaw51_lead.f
  have e1 : rd_L1 (C.getD i []) ((L.getD i []).getD j z33).f0 = note C i ((L.getD i []).getD j z33).f0 := rfl
  have e2 : rd_L1 (C.getD (i + 1) []) ((L.getD i []).getD j z33).f1 = note C (i + 1) ((L.getD i []).getD j z33).f1 := rfl
  rw [if_pos (by omega), if_pos (by omega), if_pos (by omega), rdL2, if_pos (by omega), e1]
  congr 1
  funext t295
  rw [wrap_succ i (by omega), if_pos (by omega), if_pos (by omega), if_pos (by omega), rdL2, if_pos (by omega), e2]
theorem lroots_l0 (P : List Int) (d : Nat) : ∀ i, i + d = L.length →
    Ev (fun k => schismalaw51_roots.l0 k (rts n C L (i + 1)) L (L.length : Int) (i : Int) P C L) (rts n C L (L.length + 1)) := by
  have hl := h.ll
  have hc := h.cl
  induction d with
  | zero =>
    intro i hi
    obtain rfl : i = L.length := by omega
    exact Ev.val (fun k => by simp only [schismalaw51_roots.l0]; rw [if_neg (by omega)])
  | succ d ih =>
    intro i hi
    have hlt : i < L.length := by omega
    have hs := h.rt_small i (by omega)
    have h0 := (h.ln i hlt).1
    have h1 := llead_ev h P (mk n (rt C L i)) hlt h0 (mk_len _ _) (fun t ht => by have := hs t ht; dsimp only; rw [mk_getD ht]; omega)
    have e : mk n (fun t => (mk n (rt C L i)).getD t 0 + ld C L i 0 t) = mk n (rt C L (i + 1)) := mk_congr fun t ht => by rw [mk_getD ht]; rfl
    rw [e] at h1
    have h2 := Ev.bind (f := fun k t313 => if (rts n C L (i + 1)).length < 5864062014805 then (schismalaw51_roots.l0 k (rts n C L (i + 1) ++ [t313]) L (L.length : Int) (((i + 1 : Nat)) : Int) P C L) else none) h1 (Ev.congr (fun k => by rw [if_pos (by rw [rts_len]; omega), rts_succ]) (ih (i + 1) (by omega)))
    refine Ev.one h2 (fun k => ?_)
    simp only [schismalaw51_roots.l0]
    rw [if_pos (by omega), if_pos (by omega), if_pos (by omega), if_pos (by rw [rts_len]; omega), rdL4, if_pos (by omega), rdL, rts_get (by omega), wrap_succ i (by omega)]
    rfl
theorem lroots_ev (P : List Int) (hP : P.length = n) : Ev (fun k => schismalaw51_roots.f k P C L) (rts n C L (L.length + 1)) := by
  have h1 := lroots_l0 h P L.length 0 (by omega)
  have n6 := h.n6
  refine Ev.congr (fun k => ?_) h1
  unfold schismalaw51_roots.f
  rw [if_pos (by omega), if_pos (by omega), Int.toNat_natCast, hP, mk_zero]
  rfl
end
/-! strains -/
def df (C : List (List (List Int))) (L : List (List S33)) (i j t : Nat) : Int := ld C L i j t - ld C L i 0 t
def nzr (x : List Int) : Bool := x.any (fun n => n != 0)
def stJ (n : Nat) (C : List (List (List Int))) (L : List (List S33)) (i : Nat) : Nat → Nat → List S62
  | _, 0 => []
  | j, d + 1 => (if nzr (mk n (df C L i j)) = true then [⟨(i : Int), (j : Int), mk n (df C L i j)⟩] else []) ++ stJ n C L i (j + 1) d
def stI (n : Nat) (C : List (List (List Int))) (L : List (List S33)) : Nat → Nat → List S62
  | _, 0 => []
  | i, d + 1 => stJ n C L i 1 ((L.getD i []).length - 1) ++ stI n C L (i + 1) d
theorem stJ_len (n : Nat) (C : List (List (List Int))) (L : List (List S33)) (i : Nat) : ∀ d j, (stJ n C L i j d).length ≤ d
  | 0, _ => by simp [stJ]
  | d + 1, j => by
    have := stJ_len n C L i d (j + 1)
    unfold stJ
    rw [List.length_append]
    split <;> simp <;> omega
theorem nzr_zero (n : Nat) : nzr (mk n (fun _ => 0)) = false := by simp [nzr, mk]
theorem stJ_zero (n : Nat) (C : List (List (List Int))) (L : List (List S33)) (i d : Nat) : stJ n C L i 0 (d + 1) = stJ n C L i 1 d := by
  have e : mk n (df C L i 0) = mk n (fun _ => 0) := mk_congr fun t _ => by unfold df; omega
  rw [stJ, e, nzr_zero]
  rfl
section
variable {n : Nat} {C : List (List (List Int))} {L : List (List S33)} (h : VW n C L)
include h
theorem lstr_l1 (P : List Int) (i : Nat) (hi : i < L.length) (r : List S62 → List S62) (hr : ∀ o : List S62, o.length ≤ 13 * (i + 1) → Ev (fun k => schismalaw51_strains.l0 k o (rts n C L (L.length + 1)) L (L.length : Int) (wrap64 ((i : Int) + 1)) P C L) (r o)) (d : Nat) : ∀ (j : Nat) (o : List S62), j + d = (L.getD i []).length → o.length + d ≤ 13 * (i + 1) →
    Ev (fun k => schismalaw51_strains.l1 k o (rts n C L (L.length + 1)) (i : Int) (L.getD i []) (j : Int) L (L.length : Int) (i : Int) P C L) (r (o ++ stJ n C L i j d)) := by
  have hl := h.ll
  have hc := h.cl
  induction d with
  | zero =>
    intro j o hj ho
    rw [stJ, List.append_nil]
    exact Ev.one (hr o (by omega)) (fun k => by simp only [schismalaw51_strains.l1]; rw [if_neg (by omega)])
  | succ d ih =>
    intro j o hj ho
    have hlt : j < (L.getD i []).length := by omega
    have h12 := (h.ln i hi).2
    have hs := h.rt_small i (by omega)
    have hs1 := h.rt_small (i + 1) (by omega)
    have h1 := llead_ev h P (mk n (rt C L i)) hi hlt (mk_len _ _) (fun t ht => by have := hs t ht; dsimp only; rw [mk_getD ht]; omega)
    have h2 := sub_ev n (mk n (fun t => (mk n (rt C L i)).getD t 0 + ld C L i j t)) (mk n (rt C L (i + 1))) (mk_len _ _) (mk_len _ _) (by have := h.n6; omega) (fun t ht => by
      have := hs t ht
      have h3 : -2000 ≤ ld C L i j t ∧ ld C L i j t ≤ 2000 := h.ld_small hi hlt t ht
      dsimp only; rw [mk_getD ht, mk_getD ht]; omega) (fun t ht => by have := hs1 t ht; dsimp only; rw [mk_getD ht]; omega)
    have e : mk n (fun t => (mk n (fun t => (mk n (rt C L i)).getD t 0 + ld C L i j t)).getD t 0 - (mk n (rt C L (i + 1))).getD t 0) = mk n (df C L i j) := mk_congr fun t ht => by
      rw [mk_getD ht, mk_getD ht, mk_getD ht]; unfold df; simp only [rt]; omega
    rw [e] at h2
    have hz : ∀ k : Nat, schismalaw51_zero.f (mk n (df C L i j)) = some (!nzr (mk n (df C L i j))) := fun _ => by
      unfold schismalaw51_zero.f; rw [if_pos (by rw [mk_len]; have := h.n6; omega)]; rfl
    have h3 : Ev (fun k => ((schismalaw51_zero.f (mk n (df C L i j))).bind fun t333 => (if t333 = true then (schismalaw51_strains.l1 k o (rts n C L (L.length + 1)) (i : Int) (L.getD i []) (((j + 1 : Nat)) : Int) L (L.length : Int) (i : Int) P C L) else (if o.length < 3518437208883 then (schismalaw51_strains.l1 k (o ++ [(⟨(i : Int), (j : Int), mk n (df C L i j)⟩ : S62)]) (rts n C L (L.length + 1)) (i : Int) (L.getD i []) (((j + 1 : Nat)) : Int) L (L.length : Int) (i : Int) P C L) else (none))))) (r (o ++ stJ n C L i j (d + 1))) := by
      rw [stJ]
      by_cases hn : nzr (mk n (df C L i j)) = true
      · rw [if_pos hn, ← List.append_assoc]
        exact Ev.congr (fun k => by rw [hz k, Option.bind_some, hn, if_neg (by decide), if_pos (by omega)]) (ih (j + 1) (o ++ [⟨(i : Int), (j : Int), mk n (df C L i j)⟩]) (by omega) (by simp; omega))
      · rw [if_neg hn, List.nil_append]
        exact Ev.congr (fun k => by rw [hz k, Option.bind_some, Bool.eq_false_iff.mpr hn, if_pos (by decide)]) (ih (j + 1) o (by omega) (by omega))
    have h4 := Ev.bind (f := fun k t326 => (schismalaw51_sub.f k t326 (mk n (rt C L (i + 1)))).bind fun t330 => ((schismalaw51_zero.f t330).bind fun t333 => (if t333 = true then (schismalaw51_strains.l1 k o (rts n C L (L.length + 1)) (i : Int) (L.getD i []) (((j + 1 : Nat)) : Int) L (L.length : Int) (i : Int) P C L) else (if o.length < 3518437208883 then (schismalaw51_strains.l1 k (o ++ [(⟨(i : Int), (j : Int), t330⟩ : S62)]) (rts n C L (L.length + 1)) (i : Int) (L.getD i []) (((j + 1 : Nat)) : Int) L (L.length : Int) (i : Int) P C L) else (none))))) h1 (Ev.bind (f := fun k t330 => ((schismalaw51_zero.f t330).bind fun t333 => (if t333 = true then (schismalaw51_strains.l1 k o (rts n C L (L.length + 1)) (i : Int) (L.getD i []) (((j + 1 : Nat)) : Int) L (L.length : Int) (i : Int) P C L) else (if o.length < 3518437208883 then (schismalaw51_strains.l1 k (o ++ [(⟨(i : Int), (j : Int), t330⟩ : S62)]) (rts n C L (L.length + 1)) (i : Int) (L.getD i []) (((j + 1 : Nat)) : Int) L (L.length : Int) (i : Int) P C L) else (none))))) h2 h3)
    refine Ev.one h4 (fun k => ?_)
    simp only [schismalaw51_strains.l1]
    rw [if_pos (by omega), if_pos (by omega), if_pos (by rw [rts_len]; omega), if_pos (by omega), rdL, rts_get (by omega), rdT]
    congr 1
    funext t326
    rw [wrap_succ i (by omega), if_pos (by omega), if_pos (by rw [rts_len]; omega), rdL, rts_get (by omega), wrap_succ j (by omega)]
theorem lstr_l0 (P : List Int) (d : Nat) : ∀ (i : Nat) (o : List S62), i + d = L.length → o.length ≤ 13 * i →
    Ev (fun k => schismalaw51_strains.l0 k o (rts n C L (L.length + 1)) L (L.length : Int) (i : Int) P C L) (o ++ stI n C L i d) := by
  have hl := h.ll
  have hc := h.cl
  induction d with
  | zero =>
    intro i o hi ho
    rw [stI, List.append_nil]
    exact Ev.val (fun k => by simp only [schismalaw51_strains.l0]; rw [if_neg (by omega)])
  | succ d ih =>
    intro i o hi ho
    have hlt : i < L.length := by omega
    have h0 := h.ln i hlt
    have h1 := lstr_l1 h P i hlt (fun q => q ++ stI n C L (i + 1) d) (fun q hq => by rw [wrap_succ i (by omega)]; exact ih (i + 1) q (by omega) hq) ((L.getD i []).length - 1) 1 o (by omega) (by omega)
    rw [stI, ← List.append_assoc]
    refine Ev.one h1 (fun k => ?_)
    simp only [schismalaw51_strains.l0]
    rw [if_pos (by omega), if_pos (by omega), if_pos (by omega), rdL4]
    rfl
theorem lstrains_ev (P : List Int) (hP : P.length = n) : Ev (fun k => schismalaw51_strains.f k P C L) (stI n C L 0 L.length) := by
  have h1 := lroots_ev h P hP
  have h2 := lstr_l0 h P L.length 0 [] (by omega) (by simp)
  rw [List.nil_append] at h2
  exact Ev.bind (f := fun k t320 => schismalaw51_strains.l0 k ([] : List S62) t320 L (L.length : Int) 0 P C L) h1 h2
/-- the program's own strains -/
theorem pstr_l1 (P : List Int) (i : Nat) (hi : i < L.length) (r : List S62 → List S62) (hr : ∀ o : List S62, o.length ≤ 13 * (i + 1) → Ev (fun k => drift_strains.l0 k o L (L.length : Int) (wrap64 ((i : Int) + 1)) P C L) (r o)) (d : Nat) : ∀ (j : Nat) (o : List S62), j + d = (L.getD i []).length → o.length + d ≤ 13 * (i + 1) →
    Ev (fun k => drift_strains.l1 k o (i : Int) (mk n (ld C L i 0)) L (L.length : Int) (i : Int) ((L.getD i []).length : Int) (j : Int) P C L) (r (o ++ stJ n C L i j d)) := by
  have hl := h.ll
  have hc := h.cl
  have h0 := (h.ln i hi).1
  have h12 := (h.ln i hi).2
  induction d with
  | zero =>
    intro j o hj ho
    rw [stJ, List.append_nil]
    exact Ev.one (hr o (by omega)) (fun k => by simp only [drift_strains.l1]; rw [if_neg (by omega)])
  | succ d ih =>
    intro j o hj ho
    have hlt : j < (L.getD i []).length := by omega
    have h1 := lead_ev h P hi hlt
    have h2 := sum_ev n (by have := h.n6; omega) (mk n (ld C L i j)) (mk n (ld C L i 0)) (mk_len _ _) (mk_len _ _) (fun t ht => by
      have h3 : -2000 ≤ ld C L i j t ∧ ld C L i j t ≤ 2000 := h.ld_small hi hlt t ht
      dsimp only; rw [mk_getD ht]; omega) (fun t ht => by
      have h3 : -2000 ≤ ld C L i 0 t ∧ ld C L i 0 t ≤ 2000 := h.ld_small hi h0 t ht
      dsimp only; rw [mk_getD ht]; omega)
    have e : mk n (fun t => (mk n (ld C L i j)).getD t 0 - (mk n (ld C L i 0)).getD t 0) = mk n (df C L i j) := mk_congr fun t ht => by rw [mk_getD ht, mk_getD ht]; rfl
    rw [e] at h2
    have hz : row_IsZero.f (mk n (df C L i j)) = some (!nzr (mk n (df C L i j))) := by
      unfold row_IsZero.f; rw [if_pos (by rw [mk_len]; have := h.n6; omega)]; rfl
    have h3 : Ev (fun k => ((row_IsZero.f (mk n (df C L i j))).bind fun t203 => (if t203 = true then (drift_strains.l1 k o (i : Int) (mk n (ld C L i 0)) L (L.length : Int) (i : Int) ((L.getD i []).length : Int) (((j + 1 : Nat)) : Int) P C L) else (if o.length < 3518437208883 then (drift_strains.l1 k (o ++ [(⟨(i : Int), (j : Int), mk n (df C L i j)⟩ : S62)]) (i : Int) (mk n (ld C L i 0)) L (L.length : Int) (i : Int) ((L.getD i []).length : Int) (((j + 1 : Nat)) : Int) P C L) else (none))))) (r (o ++ stJ n C L i j (d + 1))) := by
      rw [stJ]
      by_cases hn : nzr (mk n (df C L i j)) = true
      · rw [if_pos hn, ← List.append_assoc]
        exact Ev.congr (fun k => by rw [hz, Option.bind_some, hn, if_neg (by decide), if_pos (by omega)]) (ih (j + 1) (o ++ [⟨(i : Int), (j : Int), mk n (df C L i j)⟩]) (by omega) (by simp; omega))
      · rw [if_neg hn, List.nil_append]
        exact Ev.congr (fun k => by rw [hz, Option.bind_some, Bool.eq_false_iff.mpr hn, if_pos (by decide)]) (ih (j + 1) o (by omega) (by omega))
    have h4 := Ev.bind (f := fun k t197 => (drift_sum.f k [t197, mk n (ld C L i 0)]).bind fun t200 => ((row_IsZero.f t200).bind fun t203 => (if t203 = true then (drift_strains.l1 k o (i : Int) (mk n (ld C L i 0)) L (L.length : Int) (i : Int) ((L.getD i []).length : Int) (((j + 1 : Nat)) : Int) P C L) else (if o.length < 3518437208883 then (drift_strains.l1 k (o ++ [(⟨(i : Int), (j : Int), t200⟩ : S62)]) (i : Int) (mk n (ld C L i 0)) L (L.length : Int) (i : Int) ((L.getD i []).length : Int) (((j + 1 : Nat)) : Int) P C L) else (none))))) h1 (Ev.bind (f := fun k t200 => ((row_IsZero.f t200).bind fun t203 => (if t203 = true then (drift_strains.l1 k o (i : Int) (mk n (ld C L i 0)) L (L.length : Int) (i : Int) ((L.getD i []).length : Int) (((j + 1 : Nat)) : Int) P C L) else (if o.length < 3518437208883 then (drift_strains.l1 k (o ++ [(⟨(i : Int), (j : Int), t200⟩ : S62)]) (i : Int) (mk n (ld C L i 0)) L (L.length : Int) (i : Int) ((L.getD i []).length : Int) (((j + 1 : Nat)) : Int) P C L) else (none))))) h2 h3)
    refine Ev.one h4 (fun k => ?_)
    simp only [drift_strains.l1]
    rw [if_pos (by omega), wrap_succ j (by omega)]
    rfl
theorem pstr_l0 (P : List Int) (d : Nat) : ∀ (i : Nat) (o : List S62), i + d = L.length → o.length ≤ 13 * i →
    Ev (fun k => drift_strains.l0 k o L (L.length : Int) (i : Int) P C L) (o ++ stI n C L i d) := by
  have hl := h.ll
  have hc := h.cl
  induction d with
  | zero =>
    intro i o hi ho
    rw [stI, List.append_nil]
    exact Ev.val (fun k => by simp only [drift_strains.l0]; rw [if_neg (by omega)])
  | succ d ih =>
    intro i o hi ho
    have hlt : i < L.length := by omega
    have h0 := h.ln i hlt
    have h1 := pstr_l1 h P i hlt (fun q => q ++ stI n C L (i + 1) d) (fun q hq => by rw [wrap_succ i (by omega)]; exact ih (i + 1) q (by omega) hq) (L.getD i []).length 0 o (by omega) (by omega)
    have e : stJ n C L i 0 (L.getD i []).length = stJ n C L i 1 ((L.getD i []).length - 1) := by
      obtain ⟨m, hm⟩ : ∃ m, (L.getD i []).length = m + 1 := ⟨(L.getD i []).length - 1, by omega⟩
      rw [hm, stJ_zero]; rfl
    rw [e] at h1
    rw [stI, ← List.append_assoc]
    have h2 := Ev.bind (f := fun k t194 => drift_strains.l1 k o (i : Int) t194 L (L.length : Int) (i : Int) ((L.getD i []).length : Int) 0 P C L) (lead_ev h P hlt h0.1) h1
    refine Ev.one h2 (fun k => ?_)
    simp only [drift_strains.l0]
    rw [if_pos (by omega), if_pos (by omega), if_pos (by omega), rdL4]
    rfl
theorem pstrains_ev (P : List Int) : Ev (fun k => drift_strains.f k P C L) (stI n C L 0 L.length) := by
  have h2 := pstr_l0 h P L.length 0 [] (by omega) (by simp)
  rw [List.nil_append] at h2
  exact h2
theorem stI_bound : ∀ (d i : Nat), i + d = L.length → (stI n C L i d).length ≤ 13 * d := by
  intro d
  induction d with
  | zero => intro i _; simp [stI]
  | succ d ih =>
    intro i hi
    have := ih (i + 1) (by omega)
    have h1 := stJ_len n C L i ((L.getD i []).length - 1) 1
    have h2 := (h.ln i (by omega)).2
    rw [stI, List.length_append]
    omega
/-- Strains, where no strain is too great -/
theorem Strains_ev (P : List Int) (hP : P.length = n) (hp : Ev (fun k => prime_Check.f k P) 0) (hb : ∀ x ∈ stI n C L 0 L.length, x.f2.length = n ∧ bad x.f2 = false) :
    Ev (fun k => drift_Strains.f k P C L) (stI n C L 0 L.length, 0) := by
  have hc := h.cl
  have n6 := h.n6
  have hl := h.ll
  have h1 := check_ev P C L (by omega) (by omega) hp
  rw [hP, h.good] at h1
  have h2 := pstrains_ev h P
  have hsz := stI_bound h L.length 0 (by omega)
  have h3 : ∀ (d j : Nat), j + d = (stI n C L 0 L.length).length → Ev (fun k => drift_Strains.l0 k (stI n C L 0 L.length) (stI n C L 0 L.length) ((stI n C L 0 L.length).length : Int) (j : Int) P C L) (stI n C L 0 L.length, 0) := by
    intro d
    induction d with
    | zero => intro j hj; exact Ev.val (fun k => by simp only [drift_Strains.l0]; rw [if_neg (by omega)])
    | succ d ih =>
      intro j hj
      have hx := hb ((stI n C L 0 L.length).getD j z62) (by
        have hlt : j < (stI n C L 0 L.length).length := by omega
        have e : (stI n C L 0 L.length).getD j z62 = (stI n C L 0 L.length)[j] := by simp [hlt]
        rw [e]; exact List.getElem_mem hlt)
      have h4 := checkAll_ev P [((stI n C L 0 L.length).getD j z62).f2] (by simp) (by omega) hp
      rw [hP, ck_mk n _ (fun x hx2 => by obtain rfl := List.mem_singleton.1 hx2; exact hx.1)] at h4
      simp only [List.any_cons, List.any_nil, Bool.or_false, hx.2] at h4
      have h5 : Ev (fun k => drift_fit_v1.f k P ((stI n C L 0 L.length).getD j z62).f2) 0 := Ev.bind (f := fun _ t => some t) h4 (Ev.now _)
      have h6 := Ev.bind (f := fun k t214 => if t214 = 0 then (drift_Strains.l0 k (stI n C L 0 L.length) (stI n C L 0 L.length) ((stI n C L 0 L.length).length : Int) (((j + 1 : Nat)) : Int) P C L) else (some (([] : List S62), t214))) h5 (Ev.congr (fun k => if_pos rfl) (ih (j + 1) (by omega)))
      refine Ev.one h6 (fun k => ?_)
      simp only [drift_Strains.l0]
      rw [if_pos (by omega), if_pos (by omega), if_pos (by omega), show rd_T62 (stI n C L 0 L.length) (j : Int) = (stI n C L 0 L.length).getD j z62 by simp [rd_T62], wrap_succ j (by omega)]
  refine Ev.bind (f := fun k t208 => if t208 = 0 then ((drift_strains.f k P C L).bind fun t209 => (drift_Strains.l0 k t209 t209 (t209.length : Int) 0 P C L)) else (some (([] : List S62), t208))) h1 (Ev.congr (fun k => if_pos rfl) ?_)
  exact Ev.bind (f := fun k t209 => drift_Strains.l0 k t209 t209 (t209.length : Int) 0 P C L) h2 (h3 (stI n C L 0 L.length).length 0 (by omega))
end
end Go.Proofs.Ytdcpmggjhmdmmaa.X

-- what is used of it (wip/tools/slim.py)
/- Plain laws on the printed functions of drift. -/
import Derived.Test.YtdcpmggjhmdmmaaJXx
namespace Go.Proofs.Ytdcpmggjhmdmmaa.X
open Go.RowKit Go.Proofs.YtdcpmggjhmdmmaaW.PrintWords Go.Proofs.YtdcpmggjhmdmmaaW.PrintLast Go.Proofs.YtdcpmggjhmdmmaaW.PrintMore
theorem wrap_in {x : Int} (h0 : -9223372036854775808 ≤ x) (h1 : x ≤ 9223372036854775807) : wrap64 x = x := by unfold wrap64; omega
theorem wrap_succ (j : Nat) (h : j < 9223372036854775807) : wrap64 ((j : Int) + 1) = ((j + 1 : Nat) : Int) := by unfold wrap64; omega
/-- one round of a loop -/
theorem Ev.one {α : Type} {g f : Nat → Option α} {r : α} (k : Ev f r) (h : ∀ k, g (k + 1) = f k) : Ev g r := Ev.step h k
theorem Ev.val {α : Type} {g : Nat → Option α} {r : α} (h : ∀ k, g (k + 1) = some r) : Ev g r := Ev.step h (Ev.now r)
theorem rdL {xs : List (List Int)} {j : Nat} : rd_L1 xs (j : Int) = xs.getD j [] := by simp [rd_L1]
theorem rdI {xs : List Int} {j : Nat} : rd xs (j : Int) = xs.getD j 0 := by simp [rd]
def bad (x : List Int) : Bool := x.any (fun n => decide (n > 1000) || decide (n < -1000))
/-- the first error of rows -/
def ck (n : Nat) : List (List Int) → Int
  | [] => 0
  | x :: l => if x.length = n then (if bad x = true then 4 else ck n l) else 5
theorem checkAll_l1 (P : List Int) (l : List (List Int)) (n : Int) (i : Int) (x : List Int) (hx : x.length ≤ 9223372036854775807) (r : Int)
    (hr : Ev (fun k => monzo_CheckAll.l0 k P l n (wrap64 (i + 1))) r) (d : Nat) : ∀ j : Nat, j + d = x.length →
    Ev (fun k => monzo_CheckAll.l1 k P l n i x (x.length : Int) (j : Int)) (if bad (x.drop j) = true then 4 else r) := by
  induction d with
  | zero =>
    intro j hj
    rw [List.drop_of_length_le (by omega), if_neg (by simp [bad])]
    exact Ev.one hr (fun k => by simp only [monzo_CheckAll.l1]; rw [if_neg (by omega)])
  | succ d ih =>
    intro j hj
    have hlt : j < x.length := by omega
    have hd : x.drop j = x.getD j 0 :: x.drop (j + 1) := by
      rw [List.drop_eq_getElem_cons hlt]; simp [hlt]
    have hb : bad (x.drop j) = (decide (x.getD j 0 > 1000) || decide (x.getD j 0 < -1000) || bad (x.drop (j + 1))) := by
      rw [hd]; simp [bad]
    by_cases h1 : x.getD j 0 > 1000
    · rw [if_pos (by rw [hb, decide_eq_true h1]; rfl)]
      exact Ev.val (fun k => by simp only [monzo_CheckAll.l1]; rw [if_pos (by omega), if_pos (by omega), if_pos (by omega), rdI, if_pos h1])
    · by_cases h2 : x.getD j 0 < -1000
      · rw [if_pos (by rw [hb, decide_eq_true h2, Bool.or_true, Bool.true_or])]
        exact Ev.val (fun k => by simp only [monzo_CheckAll.l1]; rw [if_pos (by omega), if_pos (by omega), if_pos (by omega), rdI, if_neg h1, if_pos h2])
      · have := ih (j + 1) (by omega)
        rw [hb]
        simp only [h1, h2, decide_false, Bool.false_or]
        exact Ev.one this (fun k => by simp only [monzo_CheckAll.l1]; rw [if_pos (by omega), if_pos (by omega), if_pos (by omega), rdI, if_neg h1, if_neg h2, wrap_succ j (by omega)])
theorem checkAll_l0 (P : List Int) (l : List (List Int)) (hl : l.length ≤ 9223372036854775807) (hP : P.length ≤ 9223372036854775807) (d : Nat) : ∀ j : Nat, j + d = l.length →
    Ev (fun k => monzo_CheckAll.l0 k P l (l.length : Int) (j : Int)) (ck P.length (l.drop j)) := by
  induction d with
  | zero =>
    intro j hj
    rw [List.drop_of_length_le (by omega)]
    exact Ev.val (fun k => by simp only [monzo_CheckAll.l0]; rw [if_neg (by omega)]; rfl)
  | succ d ih =>
    intro j hj
    have hlt : j < l.length := by omega
    have hd : l.drop j = l.getD j [] :: l.drop (j + 1) := by
      rw [List.drop_eq_getElem_cons hlt]; simp [hlt]
    rw [hd, ck]
    by_cases h1 : (l.getD j []).length = P.length
    · rw [if_pos h1]
      have h := checkAll_l1 P l (l.length : Int) (j : Int) (l.getD j []) (by omega) (ck P.length (l.drop (j + 1))) (by rw [wrap_succ j (by omega)]; exact ih (j + 1) (by omega)) (l.getD j []).length 0 (by omega)
      exact Ev.one h (fun k => by simp only [monzo_CheckAll.l0]; rw [if_pos (by omega), if_pos (by omega), if_pos (by omega), rdL, if_pos (by omega)]; rfl)
    · rw [if_neg h1]
      exact Ev.val (fun k => by simp only [monzo_CheckAll.l0]; rw [if_pos (by omega), if_pos (by omega), if_pos (by omega), rdL, if_neg (by omega)])
theorem checkAll_ev (P : List Int) (l : List (List Int)) (hl : l.length ≤ 9223372036854775807) (hP : P.length ≤ 9223372036854775807) (hp : Ev (fun k => prime_Check.f k P) 0) :
    Ev (fun k => monzo_CheckAll.f k P l) (ck P.length l) := by
  have h := checkAll_l0 P l hl hP l.length 0 (by omega)
  rw [List.drop_zero] at h
  exact Ev.bind (f := fun k t => if t = 0 then monzo_CheckAll.l0 k P l (l.length : Int) 0 else some t) hp (Ev.congr (fun k => if_pos rfl) h)
def cnt (a : Int) (b : Int) : Int := if a = 0 then 13 else if a > b then 4 else 0
theorem count_f (a b : Int) : drift_count.f a b = some (cnt a b) := by
  by_cases h : a = 0
  · unfold drift_count.f cnt; rw [if_pos h, if_pos h]
  · by_cases h2 : a > b
    · unfold drift_count.f cnt; rw [if_neg h, if_neg h, if_pos h2, if_pos h2]
    · unfold drift_count.f cnt; rw [if_neg h, if_neg h, if_neg h2, if_neg h2]
def ckC (n : Nat) (rest : Int) : List (List (List Int)) → Int
  | [] => rest
  | c :: cs => if cnt c.length 12 = 0 then (if ck n c = 0 then ckC n rest cs else ck n c) else cnt c.length 12
def inX (C : List (List (List Int))) (i : Nat) (x : S33) : Prop := 0 ≤ x.f0 ∧ x.f0 < (C.getD i []).length ∧ 0 ≤ x.f1 ∧ x.f1 < (C.getD (i + 1) []).length
instance (C : List (List (List Int))) (i : Nat) (x : S33) : Decidable (inX C i x) := by unfold inX; infer_instance
def ckX (C : List (List (List Int))) (i : Nat) (rest : Int) : List S33 → Int
  | [] => rest
  | x :: l => if inX C i x then ckX C i rest l else 3
def ckL (C : List (List (List Int))) : Nat → List (List S33) → Int
  | _, [] => 0
  | i, l :: ls => if cnt l.length 12 = 0 then ckX C i (ckL C (i + 1) ls) l else cnt l.length 12
theorem rdL2 {xs : List (List (List Int))} {j : Nat} : rd_L2 xs (j : Int) = xs.getD j [] := by simp [rd_L2]
theorem rdL4 {xs : List (List S33)} {j : Nat} : rd_L4 xs (j : Int) = xs.getD j [] := by simp [rd_L4]
theorem rdT {xs : List S33} {j : Nat} : rd_T33 xs (j : Int) = xs.getD j z33 := by simp [rd_T33]
theorem drop_getD {α : Type} (l : List α) (z : α) (j : Nat) (h : j < l.length) : l.drop j = l.getD j z :: l.drop (j + 1) := by
  rw [List.drop_eq_getElem_cons h]; simp [h]
theorem check_l2 (P : List Int) (C : List (List (List Int))) (L : List (List S33)) (i : Nat) (hi : i + 1 < C.length) (hC : C.length ≤ 9223372036854775807) (l : List S33) (hl : l.length ≤ 9223372036854775807) (n : Int) (r : Int)
    (hr : Ev (fun k => drift_Check.l1 k L n (wrap64 ((i : Int) + 1)) P C L) r) (d : Nat) : ∀ j : Nat, j + d = l.length →
    Ev (fun k => drift_Check.l2 k (i : Int) L n (i : Int) l (l.length : Int) (j : Int) P C L) (ckX C i r (l.drop j)) := by
  induction d with
  | zero =>
    intro j hj
    rw [List.drop_of_length_le (by omega)]
    exact Ev.one hr (fun k => by simp only [drift_Check.l2]; rw [if_neg (by omega)])
  | succ d ih =>
    intro j hj
    have hlt : j < l.length := by omega
    rw [drop_getD l z33 j hlt, ckX]
    by_cases h : inX C i (l.getD j z33)
    · rw [if_pos h]
      obtain ⟨h0, h1, h2, h3⟩ := h
      exact Ev.one (ih (j + 1) (by omega)) (fun k => by
        simp only [drift_Check.l2]
        rw [if_pos (by omega), if_pos (by omega), if_pos (by omega), rdT, if_neg (by omega), if_pos (by omega), if_pos (by omega), rdL2, if_neg (by omega), if_neg (by omega), wrap_succ i (by omega), if_pos (by omega), if_pos (by omega), rdL2, if_neg (by omega), wrap_succ j (by omega)])
    · rw [if_neg h]
      refine Ev.val (fun k => ?_)
      simp only [drift_Check.l2]
      rw [if_pos (by omega), if_pos (by omega), if_pos (by omega), rdT]
      by_cases h0 : (l.getD j z33).f0 < 0
      · rw [if_pos h0]
      · rw [if_neg h0, if_pos (by omega), if_pos (by omega), rdL2]
        by_cases h1 : (l.getD j z33).f0 ≥ ((C.getD i []).length : Int)
        · rw [if_pos h1]
        · rw [if_neg h1]
          by_cases h2 : (l.getD j z33).f1 < 0
          · rw [if_pos h2]
          · rw [if_neg h2, wrap_succ i (by omega), if_pos (by omega), if_pos (by omega), rdL2, if_pos]
            unfold inX at h
            omega
theorem check_l1 (P : List Int) (C : List (List (List Int))) (L : List (List S33)) (hC : C.length ≤ 9223372036854775807) (hL : L.length + 1 = C.length) (d : Nat) : ∀ j : Nat, j + d = L.length →
    Ev (fun k => drift_Check.l1 k L (L.length : Int) (j : Int) P C L) (ckL C j (L.drop j)) := by
  induction d with
  | zero =>
    intro j hj
    rw [List.drop_of_length_le (by omega)]
    exact Ev.val (fun k => by simp only [drift_Check.l1]; rw [if_neg (by omega)]; rfl)
  | succ d ih =>
    intro j hj
    have hlt : j < L.length := by omega
    rw [drop_getD L [] j hlt, ckL]
    by_cases h : cnt ((L.getD j []).length : Int) 12 = 0
    · rw [if_pos h]
      have hlen : (L.getD j []).length ≤ 12 := by unfold cnt at h; split at h <;> simp_all; omega
      have h2 := check_l2 P C L j (by omega) hC (L.getD j []) (by omega) (L.length : Int) (ckL C (j + 1) (L.drop (j + 1))) (by rw [wrap_succ j (by omega)]; exact ih (j + 1) (by omega)) (L.getD j []).length 0 (by omega)
      exact Ev.one h2 (fun k => by
        simp only [drift_Check.l1]
        rw [if_pos (by omega), if_pos (by omega), if_pos (by omega), rdL4, count_f, Option.bind_some, if_pos h]; rfl)
    · rw [if_neg h]
      exact Ev.val (fun k => by
        simp only [drift_Check.l1]
        rw [if_pos (by omega), if_pos (by omega), if_pos (by omega), rdL4, count_f, Option.bind_some, if_neg h])
/-- what follows the chords -/
def ckR (C : List (List (List Int))) (L : List (List S33)) : Int := if L.length + 1 = C.length then ckL C 0 L else 5
theorem check_l0 (P : List Int) (C : List (List (List Int))) (L : List (List S33)) (hC : C.length ≤ 9223372036854775807) (hP : P.length ≤ 9223372036854775807) (hp : Ev (fun k => prime_Check.f k P) 0)
    (d : Nat) : ∀ j : Nat, j + d = C.length →
    Ev (fun k => drift_Check.l0 k C (C.length : Int) (j : Int) P C L) (ckC P.length (ckR C L) (C.drop j)) := by
  induction d with
  | zero =>
    intro j hj
    rw [List.drop_of_length_le (by omega), ckC, ckR]
    have hw : wrap64 ((C.length : Int) - 1) = (C.length : Int) - 1 := wrap_in (by omega) (by omega)
    by_cases h : L.length + 1 = C.length
    · rw [if_pos h]
      have h1 := check_l1 P C L hC h L.length 0 (by omega)
      rw [List.drop_zero] at h1
      exact Ev.one h1 (fun k => by simp only [drift_Check.l0]; rw [if_neg (by omega), hw, if_pos (by omega)]; rfl)
    · rw [if_neg h]
      exact Ev.val (fun k => by simp only [drift_Check.l0]; rw [if_neg (by omega), hw, if_neg (by omega)])
  | succ d ih =>
    intro j hj
    have hlt : j < C.length := by omega
    rw [drop_getD C [] j hlt, ckC]
    by_cases h : cnt ((C.getD j []).length : Int) 12 = 0
    · rw [if_pos h]
      have hlen : (C.getD j []).length ≤ 12 := by unfold cnt at h; split at h <;> simp_all; omega
      have h2 := checkAll_ev P (C.getD j []) (by omega) hP hp
      by_cases h3 : ck P.length (C.getD j []) = 0
      · rw [if_pos h3]
        rw [h3] at h2
        have h4 := Ev.bind (f := fun k t => if t = 0 then drift_Check.l0 k C (C.length : Int) (((j + 1 : Nat)) : Int) P C L else some t) h2 (Ev.congr (fun k => if_pos rfl) (ih (j + 1) (by omega)))
        exact Ev.one h4 (fun k => by
          simp only [drift_Check.l0]
          rw [if_pos (by omega), if_pos (by omega), if_pos (by omega), rdL2, count_f, Option.bind_some, if_pos h, wrap_succ j (by omega)])
      · rw [if_neg h3]
        have h4 := Ev.bind (f := fun k t => if t = 0 then drift_Check.l0 k C (C.length : Int) (((j + 1 : Nat)) : Int) P C L else some t) h2 (Ev.congr (fun k => if_neg h3) (Ev.now _))
        exact Ev.one h4 (fun k => by
          simp only [drift_Check.l0]
          rw [if_pos (by omega), if_pos (by omega), if_pos (by omega), rdL2, count_f, Option.bind_some, if_pos h, wrap_succ j (by omega)])
    · rw [if_neg h]
      exact Ev.val (fun k => by
        simp only [drift_Check.l0]
        rw [if_pos (by omega), if_pos (by omega), if_pos (by omega), rdL2, count_f, Option.bind_some, if_neg h])
/-- the first error of a walk over right primes -/
def ckW (n : Nat) (C : List (List (List Int))) (L : List (List S33)) : Int := if cnt C.length 64 = 0 then ckC n (ckR C L) C else cnt C.length 64
theorem check_ev (P : List Int) (C : List (List (List Int))) (L : List (List S33)) (hC : C.length ≤ 9223372036854775807) (hP : P.length ≤ 9223372036854775807) (hp : Ev (fun k => prime_Check.f k P) 0) :
    Ev (fun k => drift_Check.f k P C L) (ckW P.length C L) := by
  unfold ckW
  have h0 := check_l0 P C L hC hP hp C.length 0 (by omega)
  rw [List.drop_zero] at h0
  refine Ev.bind (f := fun k t => if t = 0 then ((drift_count.f (C.length : Int) 64).bind fun t109 => (if t109 = 0 then (drift_Check.l0 k C (C.length : Int) 0 P C L) else (some t109))) else (some t)) hp (Ev.congr (fun k => by rw [if_pos rfl, count_f, Option.bind_some]) ?_)
  by_cases h : cnt (C.length : Int) 64 = 0
  · rw [if_pos h]; exact Ev.congr (fun k => if_pos h) h0
  · rw [if_neg h]; exact Ev.congr (fun k => if_neg h) (Ev.now _)
/-! rows as functions -/
def mk (n : Nat) (f : Nat → Int) : List Int := (List.range n).map f
theorem mk_len (n : Nat) (f : Nat → Int) : (mk n f).length = n := by simp [mk]
theorem mk_getD {n : Nat} {f : Nat → Int} {t : Nat} (h : t < n) : (mk n f).getD t 0 = f t := by simp [mk, h]
theorem mk_congr {n : Nat} {f g : Nat → Int} (h : ∀ t, t < n → f t = g t) : mk n f = mk n g := by
  unfold mk
  exact List.map_congr_left fun t ht => h t (List.mem_range.1 ht)
theorem mk_set (n : Nat) (f : Nat → Int) (j : Nat) (v : Int) : (mk n f).set j v = mk n (fun t => if t = j then v else f t) := by
  apply List.ext_getElem
  · simp [mk]
  · intro t h1 h2
    simp only [mk, List.length_set, List.length_map, List.length_range] at h1 h2
    rw [List.getElem_set]
    simp only [mk, List.getElem_map, List.getElem_range]
    by_cases h : j = t
    · rw [if_pos h, if_pos h.symm]
    · rw [if_neg h, if_neg (fun e => h e.symm)]
theorem mk_zero (n : Nat) : List.replicate n (0 : Int) = mk n (fun _ => 0) := by
  apply List.ext_getElem
  · simp [mk]
  · intro t h1 h2
    simp [mk]
def sg (i : Nat) : Int := if Int.tmod (i : Int) 2 = 1 then -1 else 1
def small (B : Int) (n : Nat) (f : Nat → Int) : Prop := ∀ t, t < n → -B ≤ f t ∧ f t ≤ B
theorem sum_l1 (rows : List (List Int)) (N : Int) (i : Nat) (n : Nat) (hn : n < 1000) (row : List Int) (hrow : row.length = n) (hb : small 1000000 n (fun t => row.getD t 0)) (r : List Int) (d : Nat) : ∀ (j : Nat) (f : Nat → Int), j + d = n → (∀ t, j ≤ t → t < n → -1000000000 ≤ f t ∧ f t ≤ 1000000000) →
    Ev (fun k => drift_sum.l0 k (mk n (fun t => if j ≤ t then f t + sg i * row.getD t 0 else f t)) rows N (wrap64 ((i : Int) + 1))) r →
    Ev (fun k => drift_sum.l1 k (mk n f) (i : Int) rows N (i : Int) row (n : Int) (j : Int)) r := by
  induction d with
  | zero =>
    intro j f hj hf hr
    have e : mk n (fun t => if j ≤ t then f t + sg i * row.getD t 0 else f t) = mk n f := mk_congr fun t ht => if_neg (by omega)
    rw [e] at hr
    exact Ev.one hr (fun k => by simp only [drift_sum.l1]; rw [if_neg (by omega)])
  | succ d ih =>
    intro j f hj hf hr
    have hlt : j < n := by omega
    have hfj := hf j (Nat.le_refl _) hlt
    have hrj : -1000000 ≤ row.getD j 0 ∧ row.getD j 0 ≤ 1000000 := hb j hlt
    have h1 := ih (j + 1) (fun t => if t = j then f j + sg i * row.getD j 0 else f t) (by omega) (fun t h2 h3 => by rw [if_neg (by omega)]; exact hf t (by omega) h3)
    have e : mk n (fun t => if j + 1 ≤ t then (if t = j then f j + sg i * row.getD j 0 else f t) + sg i * row.getD t 0 else (if t = j then f j + sg i * row.getD j 0 else f t)) = mk n (fun t => if j ≤ t then f t + sg i * row.getD t 0 else f t) := by
      refine mk_congr fun t _ => ?_
      by_cases h : t = j
      · subst h; rw [if_neg (by omega), if_pos rfl, if_pos (Nat.le_refl _)]
      · by_cases h2 : j ≤ t
        · rw [if_pos (by omega), if_neg h, if_pos h2]
        · rw [if_neg (by omega), if_neg h, if_neg h2]
    rw [e] at h1
    have h2 := h1 hr
    refine Ev.one h2 (fun k => ?_)
    simp only [drift_sum.l1]
    rw [if_pos (by omega), if_pos (by omega), if_pos (by omega)]
    by_cases hs : Int.tmod (i : Int) 2 = 1
    · have hsg : sg i = -1 := if_pos hs
      rw [if_pos hs, if_pos (by rw [mk_len]; omega), rdI, rdI, mk_getD hlt, Int.toNat_natCast, mk_set, wrap_succ j (by omega), wrap_in (x := -(row.getD j 0)) (by omega) (by omega), wrap_in (by omega) (by omega), hsg]
      congr 2
      funext t
      by_cases h : t = j
      · rw [if_pos h, if_pos h]; omega
      · rw [if_neg h, if_neg h]
    · have hsg : sg i = 1 := if_neg hs
      rw [if_neg hs, if_pos (by rw [mk_len]; omega), rdI, rdI, mk_getD hlt, Int.toNat_natCast, mk_set, wrap_succ j (by omega), wrap_in (by omega) (by omega), hsg]
      congr 2
      funext t
      by_cases h : t = j
      · rw [if_pos h, if_pos h]; omega
      · rw [if_neg h, if_neg h]
/-- the difference of two rows -/
theorem sum_ev (n : Nat) (hn : n < 1000) (x y : List Int) (hx : x.length = n) (hy : y.length = n) (bx : small 1000000 n (fun t => x.getD t 0)) (by_ : small 1000000 n (fun t => y.getD t 0)) :
    Ev (fun k => drift_sum.f k [x, y]) (mk n (fun t => x.getD t 0 - y.getD t 0)) := by
  have e2 : Ev (fun k => drift_sum.l0 k (mk n (fun t => x.getD t 0 - y.getD t 0)) [x, y] 2 2) (mk n (fun t => x.getD t 0 - y.getD t 0)) := Ev.val (fun k => by simp only [drift_sum.l0]; rw [if_neg (by omega)])
  have h1 := sum_l1 [x, y] 2 1 n hn y hy by_ (mk n (fun t => x.getD t 0 - y.getD t 0)) n 0 (fun t => x.getD t 0) (by omega) (fun t _ h => by have h9 : -1000000 ≤ x.getD t 0 ∧ x.getD t 0 ≤ 1000000 := bx t h; omega) (by
    have e : mk n (fun t => if 0 ≤ t then x.getD t 0 + sg 1 * y.getD t 0 else x.getD t 0) = mk n (fun t => x.getD t 0 - y.getD t 0) := mk_congr fun t _ => by
      rw [if_pos (Nat.zero_le _), show sg 1 = -1 from rfl]; omega
    rw [e, wrap_succ 1 (by omega)]; exact e2)
  have h2 : Ev (fun k => drift_sum.l0 k (mk n (fun t => x.getD t 0)) [x, y] 2 1) (mk n (fun t => x.getD t 0 - y.getD t 0)) :=
    Ev.one h1 (fun k => by simp only [drift_sum.l0]; rw [if_pos (by omega), if_pos (by omega), if_pos (by simp)]; simp only [show rd_L1 [x, y] 1 = y from rfl, hy]; rfl)
  have h3 := sum_l1 [x, y] 2 0 n hn x hx bx (mk n (fun t => x.getD t 0 - y.getD t 0)) n 0 (fun _ => 0) (by omega) (fun t _ _ => by omega) (by
    have e : mk n (fun t => if 0 ≤ t then (0 : Int) + sg 0 * x.getD t 0 else 0) = mk n (fun t => x.getD t 0) := mk_congr fun t _ => by
      rw [if_pos (Nat.zero_le _), show sg 0 = 1 from rfl]; omega
    rw [e, wrap_succ 0 (by omega)]; exact h2)
  have h4 : Ev (fun k => drift_sum.l0 k (mk n (fun _ => 0)) [x, y] 2 0) (mk n (fun t => x.getD t 0 - y.getD t 0)) :=
    Ev.one h3 (fun k => by simp only [drift_sum.l0]; rw [if_pos (by omega), if_pos (by omega), if_pos (by simp)]; simp only [show rd_L1 [x, y] 0 = x from rfl, hx]; rfl)
  refine Ev.congr (fun k => ?_) h4
  unfold drift_sum.f
  rw [if_pos (by simp)]
  simp only [show rd_L1 [x, y] 0 = x from rfl, hx]
  rw [if_pos (by omega), if_pos (by omega), Int.toNat_natCast, mk_zero]
  rfl
/-! a right walk over n primes -/
structure VW (n : Nat) (C : List (List (List Int))) (L : List (List S33)) : Prop where
  n0 : 0 < n
  n6 : n ≤ 6
  cl : C.length ≤ 64
  ll : L.length + 1 = C.length
  cn : ∀ i, i < C.length → 1 ≤ (C.getD i []).length ∧ (C.getD i []).length ≤ 12
  row : ∀ i, i < C.length → ∀ j, j < (C.getD i []).length → ((C.getD i []).getD j []).length = n ∧ small 1000 n (fun t => ((C.getD i []).getD j []).getD t 0)
  ln : ∀ i, i < L.length → 1 ≤ (L.getD i []).length ∧ (L.getD i []).length ≤ 12
  li : ∀ i, i < L.length → ∀ j, j < (L.getD i []).length → inX C i ((L.getD i []).getD j z33)
def note (C : List (List (List Int))) (i : Nat) (j : Int) : List Int := (C.getD i []).getD j.toNat []
/-- by how much link j of step i leads upward -/
def ld (C : List (List (List Int))) (L : List (List S33)) (i j : Nat) (t : Nat) : Int :=
  (note C i ((L.getD i []).getD j z33).f0).getD t 0 - (note C (i + 1) ((L.getD i []).getD j z33).f1).getD t 0
theorem small_mono {B B' : Int} {n : Nat} {f : Nat → Int} (h : small B n f) (hB : B ≤ B') : small B' n f := fun t ht => by have := h t ht; omega
section
variable {n : Nat} {C : List (List (List Int))} {L : List (List S33)} (h : VW n C L)
include h
theorem VW.n1 {i j : Nat} (hi : i < L.length) (hj : j < (L.getD i []).length) : (note C i ((L.getD i []).getD j z33).f0).length = n ∧ small 1000 n (fun t => (note C i ((L.getD i []).getD j z33).f0).getD t 0) := by
  have h1 := h.li i hi j hj
  unfold inX at h1
  exact h.row i (by have := h.ll; omega) _ (by omega)
theorem VW.n2 {i j : Nat} (hi : i < L.length) (hj : j < (L.getD i []).length) : (note C (i + 1) ((L.getD i []).getD j z33).f1).length = n ∧ small 1000 n (fun t => (note C (i + 1) ((L.getD i []).getD j z33).f1).getD t 0) := by
  have h1 := h.li i hi j hj
  unfold inX at h1
  exact h.row (i + 1) (by have := h.ll; omega) _ (by omega)
theorem VW.ld_small {i j : Nat} (hi : i < L.length) (hj : j < (L.getD i []).length) : small 2000 n (ld C L i j) := fun t ht => by
  have a : -1000 ≤ (note C i ((L.getD i []).getD j z33).f0).getD t 0 ∧ (note C i ((L.getD i []).getD j z33).f0).getD t 0 ≤ 1000 := (h.n1 hi hj).2 t ht
  have b : -1000 ≤ (note C (i + 1) ((L.getD i []).getD j z33).f1).getD t 0 ∧ (note C (i + 1) ((L.getD i []).getD j z33).f1).getD t 0 ≤ 1000 := (h.n2 hi hj).2 t ht
  unfold ld
  omega
theorem lead_ev (P : List Int) {i j : Nat} (hi : i < L.length) (hj : j < (L.getD i []).length) : Ev (fun k => drift_lead.f k P C L (i : Int) (j : Int)) (mk n (ld C L i j)) := by
  have a := h.n1 hi hj
  have b := h.n2 hi hj
  have h1 := h.li i hi j hj
  unfold inX at h1
  have hl := h.ll
  have hc := h.cl
  have hs := sum_ev n (by have := h.n6; omega) _ _ a.1 b.1 (small_mono a.2 (by omega)) (small_mono b.2 (by omega))
  have hs2 := Ev.bind (f := fun _ t => some t) hs (Ev.now _)
  refine Ev.congr (fun k => ?_) hs2
  unfold drift_lead.f
  have e1 : rd_L1 (C.getD i []) ((L.getD i []).getD j z33).f0 = note C i ((L.getD i []).getD j z33).f0 := rfl
  have e2 : rd_L1 (C.getD (i + 1) []) ((L.getD i []).getD j z33).f1 = note C (i + 1) ((L.getD i []).getD j z33).f1 := rfl
  rw [if_pos (by omega), if_pos (by omega), if_pos (by omega), rdL4, if_pos (by omega), if_pos (by omega), rdT, if_pos (by omega), rdL2, if_pos (by omega), wrap_succ i (by omega), if_pos (by omega), if_pos (by omega), if_pos (by omega), rdL2, if_pos (by omega), e1, e2]
end
def rt (C : List (List (List Int))) (L : List (List S33)) : Nat → Nat → Int
  | 0, _ => 0
  | i + 1, t => rt C L i t + ld C L i 0 t
/-- the roots of a right walk -/
def rts (n : Nat) (C : List (List (List Int))) (L : List (List S33)) (m : Nat) : List (List Int) := (List.range m).map (fun i => mk n (rt C L i))
theorem rts_len (n : Nat) (C : List (List (List Int))) (L : List (List S33)) (m : Nat) : (rts n C L m).length = m := by simp [rts]
theorem rts_get {n : Nat} {C : List (List (List Int))} {L : List (List S33)} {m i : Nat} (h : i < m) : (rts n C L m).getD i [] = mk n (rt C L i) := by simp [rts, h]
theorem rts_succ (n : Nat) (C : List (List (List Int))) (L : List (List S33)) (m : Nat) : rts n C L m ++ [mk n (rt C L m)] = rts n C L (m + 1) := by simp [rts, List.range_succ]
section
variable {n : Nat} {C : List (List (List Int))} {L : List (List S33)} (h : VW n C L)
include h
theorem VW.rt_small : ∀ i, i ≤ L.length → small (2000 * i) n (rt C L i)
  | 0, _ => fun t _ => by simp [rt]
  | i + 1, hi => fun t ht => by
    have a := VW.rt_small i (by omega) t ht
    have b : -2000 ≤ ld C L i 0 t ∧ ld C L i 0 t ≤ 2000 := h.ld_small (by omega) (h.ln i (by omega)).1 t ht
    simp only [rt]
    omega
theorem roots_l1 (P : List Int) (x3 : List (List Int)) (N : Int) (i : Nat) (f g : Nat → Int) (hg : small 1000000 n g) (hx : x3.length < 5864062014805) (r : List (List Int))
    (hr : Ev (fun k => drift_roots.l0 k (x3 ++ [mk n (fun t => f t + g t)]) N (wrap64 ((i : Int) + 1)) P C L) r) (d : Nat) : ∀ (j : Nat) (q : Nat → Int), j + d = n → (∀ t, j ≤ t → t < n → q t = f t ∧ -1000000 ≤ f t ∧ f t ≤ 1000000) → (∀ t, t < j → q t = f t + g t) →
    Ev (fun k => drift_roots.l1 k x3 (mk n q) N (i : Int) (mk n g) (n : Int) (j : Int) P C L) r := by
  induction d with
  | zero =>
    intro j q hj _ hq
    have e : mk n q = mk n (fun t => f t + g t) := mk_congr fun t ht => hq t (by omega)
    rw [e]
    exact Ev.one hr (fun k => by simp only [drift_roots.l1]; rw [if_neg (by omega), if_pos hx])
  | succ d ih =>
    intro j q hj hq1 hq2
    have hlt : j < n := by omega
    have n6 := h.n6
    obtain ⟨e1, b1, b2⟩ := hq1 j (Nat.le_refl _) hlt
    have b3 : -1000000 ≤ g j ∧ g j ≤ 1000000 := hg j hlt
    have h1 := ih (j + 1) (fun t => if t = j then q j + g j else q t) (by omega) (fun t h2 h3 => by rw [if_neg (by omega)]; exact hq1 t (by omega) h3) (fun t h2 => by
      by_cases e : t = j
      · subst e; rw [if_pos rfl, e1]
      · rw [if_neg e]; exact hq2 t (by omega))
    refine Ev.one h1 (fun k => ?_)
    simp only [drift_roots.l1]
    rw [if_pos (by omega), if_pos (by omega), if_pos (by rw [mk_len]; omega), if_pos (by rw [mk_len]; omega), rdI, rdI, mk_getD hlt, mk_getD hlt, Int.toNat_natCast, mk_set, wrap_succ j (by omega), wrap_in (by omega) (by omega)]
theorem roots_l0 (P : List Int) (d : Nat) : ∀ i, i + d = L.length →
    Ev (fun k => drift_roots.l0 k (rts n C L (i + 1)) (L.length : Int) (i : Int) P C L) (rts n C L (L.length + 1)) := by
  have hl := h.ll
  have hc := h.cl
  induction d with
  | zero =>
    intro i hi
    obtain rfl : i = L.length := by omega
    exact Ev.val (fun k => by simp only [drift_roots.l0]; rw [if_neg (by omega)])
  | succ d ih =>
    intro i hi
    have hlt : i < L.length := by omega
    have hs := h.rt_small i (by omega)
    have h0 := (h.ln i hlt).1
    have h1 := roots_l1 h P (rts n C L (i + 1)) (L.length : Int) i (rt C L i) (ld C L i 0) (small_mono (h.ld_small hlt h0) (by omega)) (by rw [rts_len]; omega) (rts n C L (L.length + 1)) (by
      have e : rts n C L (i + 1) ++ [mk n (fun t => rt C L i t + ld C L i 0 t)] = rts n C L (i + 1 + 1) := rts_succ n C L (i + 1)
      rw [e, wrap_succ i (by omega)]
      exact ih (i + 1) (by omega)) n 0 (rt C L i) (by omega) (fun t _ ht => ⟨rfl, by have := hs t ht; omega⟩) (fun t ht => absurd ht (Nat.not_lt_zero _))
    have h2 := lead_ev h P hlt h0
    have h3 := Ev.bind (f := fun k t160 => drift_roots.l1 k (rts n C L (i + 1)) (mk n (rt C L i)) (L.length : Int) (i : Int) t160 (t160.length : Int) 0 P C L) h2 (Ev.congr (fun k => by rw [mk_len]; rfl) h1)
    refine Ev.one h3 (fun k => ?_)
    simp only [drift_roots.l0]
    rw [if_pos (by omega), if_pos (by omega), if_pos (by rw [rts_len]; omega), rdL, rts_get (by omega)]
    unfold api_Row_int_58.f
    rw [Option.bind_some, if_pos (by rw [mk_len]; simp; have := h.n6; omega), Option.bind_some, List.nil_append]
    rfl
theorem roots_ev (P : List Int) (hP : P.length = n) : Ev (fun k => drift_roots.f k P C L) (rts n C L (L.length + 1)) := by
  have h1 := roots_l0 h P L.length 0 (by omega)
  have n6 := h.n6
  refine Ev.congr (fun k => ?_) h1
  unfold drift_roots.f
  rw [if_pos (by omega), if_pos (by omega), Int.toNat_natCast, hP, mk_zero]
  rfl
theorem drift_ev (P : List Int) (hP : P.length = n) : Ev (fun k => drift_drift.f k P C L) (mk n (rt C L L.length)) := by
  have h1 := roots_ev h P hP
  have hl := h.ll
  have hc := h.cl
  have hw : wrap64 (((rts n C L (L.length + 1)).length : Int) - 1) = (L.length : Int) := by rw [rts_len, wrap_in (by omega) (by omega)]; omega
  refine Ev.bind (f := fun _ t177 => if 0 ≤ (wrap64 ((t177.length : Int) - 1)) then (if (wrap64 ((t177.length : Int) - 1)) < (t177.length : Int) then (some (rd_L1 t177 (wrap64 ((t177.length : Int) - 1)))) else (none)) else (none)) h1 (Ev.congr (fun k => ?_) (Ev.now _))
  rw [hw, if_pos (by omega), if_pos (by rw [rts_len]; omega), rdL, rts_get (by omega)]
/-- a right walk is accepted -/
theorem VW.good : ckW n C L = 0 := by
  have hl := h.ll
  have hc := h.cl
  have c0 : ∀ a : Nat, ∀ b : Int, 1 ≤ a → (a : Int) ≤ b → cnt (a : Int) b = 0 := fun a b h1 h2 => by unfold cnt; rw [if_neg (by omega), if_neg (by omega)]
  have kX : ∀ (i : Nat), i < L.length → ∀ (rest : Int) (d j : Nat), j + d = (L.getD i []).length → ckX C i rest ((L.getD i []).drop j) = rest := by
    intro i hi rest d
    induction d with
    | zero => intro j hj; rw [List.drop_of_length_le (by omega)]; rfl
    | succ d ih => intro j hj; rw [drop_getD _ z33 j (by omega), ckX, if_pos (h.li i hi j (by omega))]; exact ih (j + 1) (by omega)
  have kL : ∀ (d j : Nat), j + d = L.length → ckL C j (L.drop j) = 0 := by
    intro d
    induction d with
    | zero => intro j hj; rw [List.drop_of_length_le (by omega)]; rfl
    | succ d ih =>
      intro j hj
      rw [drop_getD _ [] j (by omega), ckL, if_pos (c0 _ _ (h.ln j (by omega)).1 (by have := (h.ln j (by omega)).2; omega))]
      have := kX j (by omega) (ckL C (j + 1) (L.drop (j + 1))) (L.getD j []).length 0 (by omega)
      rw [List.drop_zero] at this
      rw [this]
      exact ih (j + 1) (by omega)
  have kR : ∀ (i : Nat), i < C.length → ∀ (d j : Nat), j + d = (C.getD i []).length → ck n ((C.getD i []).drop j) = 0 := by
    intro i hi d
    induction d with
    | zero => intro j hj; rw [List.drop_of_length_le (by omega)]; rfl
    | succ d ih =>
      intro j hj
      have hr := h.row i hi j (by omega)
      rw [drop_getD _ [] j (by omega), ck, if_pos hr.1, if_neg, ih (j + 1) (by omega)]
      intro hb
      unfold bad at hb
      obtain ⟨y, hy, hy2⟩ := List.any_eq_true.1 hb
      obtain ⟨t, ht, rfl⟩ := List.getElem_of_mem hy
      have e9 : ∀ (l : List Int) (ht : t < l.length), l.getD t 0 = l[t] := fun l ht => by simp [ht]
      have h3 : -1000 ≤ ((C.getD i []).getD j []).getD t 0 ∧ ((C.getD i []).getD j []).getD t 0 ≤ 1000 := hr.2 t (by omega)
      rw [e9 _ ht] at h3
      simp only [Bool.or_eq_true, decide_eq_true_eq] at hy2
      omega
  have kC : ∀ (d j : Nat), j + d = C.length → ckC n (ckR C L) (C.drop j) = ckR C L := by
    intro d
    induction d with
    | zero => intro j hj; rw [List.drop_of_length_le (by omega)]; rfl
    | succ d ih =>
      intro j hj
      have := kR j (by omega) (C.getD j []).length 0 (by omega)
      rw [List.drop_zero] at this
      rw [drop_getD _ [] j (by omega), ckC, if_pos (c0 _ _ (h.cn j (by omega)).1 (by have := (h.cn j (by omega)).2; omega)), if_pos this]
      exact ih (j + 1) (by omega)
  unfold ckW
  rw [if_pos (c0 _ _ (by omega) (by omega))]
  have h1 := kC C.length 0 (by omega)
  rw [List.drop_zero] at h1
  rw [h1, ckR, if_pos hl]
  have h2 := kL L.length 0 (by omega)
  rw [List.drop_zero] at h2
  exact h2
end
theorem ck_mk (n : Nat) (l : List (List Int)) (hl : ∀ x ∈ l, x.length = n) : ck n l = if l.any bad = true then 4 else 0 := by
  induction l with
  | nil => rfl
  | cons x l ih =>
    rw [ck, if_pos (hl x (by simp)), ih (fun y hy => hl y (List.mem_cons_of_mem _ hy)), List.any_cons]
    by_cases hb : bad x = true
    · rw [if_pos hb, hb]; rfl
    · rw [if_neg hb, Bool.eq_false_iff.mpr hb]; rfl
section
variable {n : Nat} {C : List (List (List Int))} {L : List (List S33)} (h : VW n C L)
include h
theorem Drift_ev (P : List Int) (hP : P.length = n) (hp : Ev (fun k => prime_Check.f k P) 0) :
    Ev (fun k => drift_Drift.f k P C L) (if bad (mk n (rt C L L.length)) = true then ([], 4) else (mk n (rt C L L.length), 0)) := by
  have hc := h.cl
  have n6 := h.n6
  have hl := h.ll
  have h1 := check_ev P C L (by omega) (by omega) hp
  rw [hP, h.good] at h1
  have h2 := drift_ev h P hP
  have h3 := checkAll_ev P [mk n (rt C L L.length)] (by simp) (by omega) hp
  rw [hP, ck_mk n _ (fun x hx => by
    obtain rfl := List.mem_singleton.1 hx
    exact mk_len _ _)] at h3
  have h4 : Ev (fun k => drift_fit.f k P [mk n (rt C L L.length)]) _ := Ev.bind (f := fun _ t => some t) h3 (Ev.now _)
  refine Ev.bind (f := fun k t182 => if t182 = 0 then ((drift_drift.f k P C L).bind fun t183 => ((drift_fit.f k P (([t183] : List (List Int)))).bind fun t189 => (if t189 = 0 then (some (t183, 0)) else (some (([] : List Int), t189))))) else (some (([] : List Int), t182))) h1 (Ev.congr (fun k => if_pos rfl) ?_)
  refine Ev.bind (f := fun k t183 => (drift_fit.f k P (([t183] : List (List Int)))).bind fun t189 => (if t189 = 0 then (some (t183, 0)) else (some (([] : List Int), t189)))) h2 ?_
  refine Ev.bind (f := fun _ t189 => if t189 = 0 then (some (mk n (rt C L L.length), 0)) else (some (([] : List Int), t189))) h4 ?_
  simp only [List.any_cons, List.any_nil, Bool.or_false]
  by_cases hb : bad (mk n (rt C L L.length)) = true
  · rw [if_pos hb, if_pos hb]
    exact Ev.now _
  · rw [if_neg hb, if_neg hb]
    exact Ev.now _
end
theorem prime235 : Ev (fun k => prime_Check.f k [2, 3, 5]) 0 := Ev.of (prime_Check.mono [2, 3, 5]) (k := 20) (by kernel_rfl)
/-! the walk of DriftLimits -/
theorem bad_mk (n : Nat) (f : Nat → Int) : bad (mk n f) = true ↔ ∃ t, t < n ∧ (f t > 1000 ∨ f t < -1000) := by
  unfold bad mk
  simp only [List.any_map, List.any_eq_true, List.mem_range, Function.comp, Bool.or_eq_true, decide_eq_true_eq]
/-- slices.Equal on rows -/
theorem eq_l0 (x y : List Int) (hl : x.length = y.length) (hx : x.length ≤ 9223372036854775807) (d : Nat) : ∀ j : Nat, j + d = x.length →
    Ev (fun k => api_Row_int_12.l0 k x y (x.length : Int) (j : Int)) (decide (x.drop j = y.drop j)) := by
  induction d with
  | zero =>
    intro j hj
    rw [List.drop_of_length_le (by omega), List.drop_of_length_le (by omega)]
    exact Ev.val (fun k => by simp only [api_Row_int_12.l0]; rw [if_neg (by omega)]; rfl)
  | succ d ih =>
    intro j hj
    rw [drop_getD x 0 j (by omega), drop_getD y 0 j (by omega)]
    by_cases h : x.getD j 0 = y.getD j 0
    · have e : decide (x.getD j 0 :: x.drop (j + 1) = y.getD j 0 :: y.drop (j + 1)) = decide (x.drop (j + 1) = y.drop (j + 1)) := by rw [h]; simp
      rw [e]
      exact Ev.one (ih (j + 1) (by omega)) (fun k => by
        simp only [api_Row_int_12.l0]
        rw [if_pos (by omega), if_pos (by omega), if_pos (by omega), if_pos (by omega), rdI, rdI, if_pos h, wrap_succ j (by omega)])
    · rw [decide_eq_false (fun e => h (List.cons.inj e).1)]
      exact Ev.val (fun k => by
        simp only [api_Row_int_12.l0]
        rw [if_pos (by omega), if_pos (by omega), if_pos (by omega), if_pos (by omega), rdI, rdI, if_neg h])
theorem eq_ev (x y : List Int) (hx : x.length ≤ 9223372036854775807) : Ev (fun k => api_Row_int_12.f k x y) (decide (x = y)) := by
  by_cases hl : x.length = y.length
  · have h := eq_l0 x y hl hx x.length 0 (by omega)
    rw [List.drop_zero, List.drop_zero] at h
    exact Ev.congr (fun k => by unfold api_Row_int_12.f; rw [if_pos (by omega)]; rfl) h
  · rw [decide_eq_false (fun e : x = y => hl (congrArg List.length e))]
    exact Ev.congr (fun k => by unfold api_Row_int_12.f; rw [if_neg (by omega)]) (Ev.now _)
end Go.Proofs.Ytdcpmggjhmdmmaa.X

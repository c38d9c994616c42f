-- what is used of it (wip/tools/slim.py)
-- printed by the session's own program (wip/tools/xprint.py), over the kit's print
import Derived.Test.YtdcpmggjhmdmmaaJXx0
namespace Go.Proofs.Ytdcpmggjhmdmmaa.X
open Go.RowKit Go.Proofs.YtdcpmggjhmdmmaaW.PrintWords Go.Proofs.YtdcpmggjhmdmmaaW.PrintLast Go.Proofs.YtdcpmggjhmdmmaaW.PrintMore
attribute [local go_sem] max2_int min2_int max_two min_two max_three min_three max_four min_four   -- for this text's walks alone
set_option linter.unusedVariables false
set_option linter.unusedSimpArgs false
/-! ### drift_sum: function 61 -/
mutual
def drift_sum.l0 : Nat → List Int → List (List Int) → Int → Int → Option (List Int)
  | 0, _, _, _, _ => none
  | k + 1, x3, x13, x14, x15 => if x15 < x14 then (if 0 ≤ x15 then (if x15 < (x13.length : Int) then (drift_sum.l1 k x3 x15 x13 x14 x15 (rd_L1 x13 x15) ((rd_L1 x13 x15).length : Int) 0) else (none)) else (none)) else (some x3)
def drift_sum.l1 : Nat → List Int → Int → List (List Int) → Int → Int → List Int → Int → Int → Option (List Int)
  | 0, _, _, _, _, _, _, _, _ => none
  | k + 1, x3, x4, x13, x14, x15, x20, x21, x22 => if x22 < x21 then (if 0 ≤ x22 then (if x22 < (x20.length : Int) then (if (Int.tmod x4 2) = 1 then (if x22 < (x3.length : Int) then (drift_sum.l1 k (x3.set (x22 : Int).toNat (wrap64 ((rd x3 x22) + (wrap64 (-(rd x20 x22)))))) x4 x13 x14 x15 x20 x21 (wrap64 (x22 + 1))) else (none)) else (if x22 < (x3.length : Int) then (drift_sum.l1 k (x3.set (x22 : Int).toNat (wrap64 ((rd x3 x22) + (rd x20 x22)))) x4 x13 x14 x15 x20 x21 (wrap64 (x22 + 1))) else (none))) else (none)) else (none)) else (drift_sum.l0 k x3 x13 x14 (wrap64 (x15 + 1)))
end
def drift_sum.f (k : Nat) (l0 : List (List Int)) : Option (List Int) := if 0 < (l0.length : Int) then (if 0 ≤ ((rd_L1 l0 0).length : Int) then (if (((rd_L1 l0 0).length : Int) : Int).toNat ≤ 35184372088832 then (drift_sum.l0 k (List.replicate (((rd_L1 l0 0).length : Int) : Int).toNat 0) l0 (l0.length : Int) 0) else (none)) else (none)) else (none)
theorem drift_sum.mono_l : ∀ k, (∀ y0 y1 y2 y3, LeO (drift_sum.l0 k y0 y1 y2 y3) (drift_sum.l0 (k + 1) y0 y1 y2 y3)) ∧ (∀ y0 y1 y2 y3 y4 y5 y6 y7, LeO (drift_sum.l1 k y0 y1 y2 y3 y4 y5 y6 y7) (drift_sum.l1 (k + 1) y0 y1 y2 y3 y4 y5 y6 y7))
  | 0 => ⟨fun _ _ _ _ r h => by simp [drift_sum.l0] at h, fun _ _ _ _ _ _ _ _ r h => by simp [drift_sum.l1] at h⟩
  | k + 1 => by
    obtain ⟨ih0, ih1⟩ := drift_sum.mono_l k
    refine ⟨?_, ?_⟩
    · intro y0 y1 y2 y3
      unfold drift_sum.l0
      repeat' first
      | (with_reducible exact ih0 _ _ _ _)
      | (with_reducible exact ih1 _ _ _ _ _ _ _ _)
      | (with_reducible exact LeO.refl _)
      | (with_reducible exact LeO.none _)
      | (with_reducible refine LeO.ite ?_ ?_)
      | (with_reducible refine LeO.bind ?_ (fun _ => ?_))
      | exact ih0 _ _ _ _
      | exact ih1 _ _ _ _ _ _ _ _
      | exact LeO.none _
      | refine LeO.ite ?_ ?_
      | refine LeO.bind ?_ (fun _ => ?_)
    · intro y0 y1 y2 y3 y4 y5 y6 y7
      unfold drift_sum.l1
      repeat' first
      | (with_reducible exact ih0 _ _ _ _)
      | (with_reducible exact ih1 _ _ _ _ _ _ _ _)
      | (with_reducible exact LeO.refl _)
      | (with_reducible exact LeO.none _)
      | (with_reducible refine LeO.ite ?_ ?_)
      | (with_reducible refine LeO.bind ?_ (fun _ => ?_))
      | exact ih0 _ _ _ _
      | exact ih1 _ _ _ _ _ _ _ _
      | exact LeO.none _
      | refine LeO.ite ?_ ?_
      | refine LeO.bind ?_ (fun _ => ?_)
theorem drift_sum.mono : ∀ a0 k, LeO (drift_sum.f k a0) (drift_sum.f (k + 1) a0) := by
  intro a0 k
  obtain ⟨ih0, ih1⟩ := drift_sum.mono_l k
  unfold drift_sum.f
  repeat' first
      | (with_reducible exact ih0 _ _ _ _)
      | (with_reducible exact ih1 _ _ _ _ _ _ _ _)
      | (with_reducible exact LeO.refl _)
      | (with_reducible exact LeO.none _)
      | (with_reducible refine LeO.ite ?_ ?_)
      | (with_reducible refine LeO.bind ?_ (fun _ => ?_))
      | exact ih0 _ _ _ _
      | exact ih1 _ _ _ _ _ _ _ _
      | exact LeO.none _
      | refine LeO.ite ?_ ?_
      | refine LeO.bind ?_ (fun _ => ?_)
set_option maxHeartbeats 8000000 in
set_option maxRecDepth 100000 in
theorem drift_sum.calls (k : Nat) (A0 : Option Addr) (c0 : Nat) (l0 : List (List Int)) (r : List Int) (w : World) (hr0 : Kd.C (Kd.slice 3 (Kd.int .i64)) w A0 l0.length l0) (hc0 : l0.length ≤ c0) (h : drift_sum.f k l0 = some r) :
    Calls Try.prog 61 #[.slice A0 l0.length c0] w fun e w' => ∃ v0_ : Value, e = .returned (v0_) ∧ Kd.R (Kd.int .i64) 3 w' w.heap.size (fun _ => True) v0_ r ∧ Below w.heap.size w w' := by
  have HR0 := Aside0.mk hr0
  have HC0 := Aside0.mk hc0
  clear hr0 hc0
  have HB := Aside0.mk (Below.refl w.heap.size w)
  have H : (if 0 < (l0.length : Int) then (if 0 ≤ ((rd_L1 l0 0).length : Int) then (if (((rd_L1 l0 0).length : Int) : Int).toNat ≤ 35184372088832 then (drift_sum.l0 k (List.replicate (((rd_L1 l0 0).length : Int) : Int).toNat 0) l0 (l0.length : Int) 0) else (none)) else (none)) else (none)) = some r := h
  clear h
  by_cases c2 : 0 < (l0.length : Int)
  · rw [if_pos c2] at H
    have c2b0 : decide (0 < (l0.length : Int)) = true := decide_eq_true c2
    have c2b1 : decide (0 < l0.length) = true := decide_eq_true (by omega)
    clear c2
    by_cases c3 : 0 ≤ ((rd_L1 l0 0).length : Int)
    · rw [if_pos c3] at H
      have c3b0 := eq_true c3
      have c3b1 : decide (0 ≤ ((rd_L1 l0 0).length : Int)) = true := decide_eq_true c3
      clear c3
      by_cases c4 : (((rd_L1 l0 0).length : Int) : Int).toNat ≤ 35184372088832
      · rw [if_pos c4] at H
        have c4b0 := eq_true c4
        have c4b1 : decide ((((rd_L1 l0 0).length : Int) : Int).toNat ≤ 35184372088832) = true := decide_eq_true c4
        clear c4
        obtain ⟨y126, hy126⟩ : ∃ y_ : List Int, y_ = (List.replicate (((rd_L1 l0 0).length : Int) : Int).toNat 0) := ⟨_, rfl⟩
        replace H : (drift_sum.l0 k y126 l0 (l0.length : Int) 0) = some r := by first | (rw [hy126]; with_reducible exact H) | (have H2_ := (Option.bind_some _ _).symm.trans H; rw [hy126]; with_reducible exact H2_) | (have H2_ := (Option.bind_some _ _).symm.trans H; with_reducible exact H2_) | with_reducible exact H | (rw [hy126]; exact H) | exact H
        have Ny126 := Aside0.mk hy126
        clear hy126
        have H' := Aside0.mk H
        clear H
        have p125 : 0 ≤ (0 : Int) := (by omega)
        have q125 : 0 < (l0.length : Int) := of_decide_eq_true (by first | (with_reducible assumption) | assumption)
        obtain ⟨ad125, A125_0, c125_0, e125, hx125_0, hl125_0, hi125_0⟩ := at_L1 HR0.out 0 p125 q125
        cases e125
        have qi125 : (0 < l0.length) = True := eq_true (by omega)
        (try rw [show ((0 : Int)).toNat = 0 from rfl] at hx125_0)
        (try rw [Addr.add_zero'] at hx125_0)
        have HR125_0 := Aside0.mk hi125_0
        have HC125_0 := Aside0.mk hl125_0
        clear hi125_0 hl125_0
        replace p125 := eq_true p125
        replace q125 := eq_true q125
        go_enter Try.func61, Try.ntmps61
        go_wp2_with (first | ((with_reducible refine gate_dst (N := 12) rfl ?_); refine Kd.R_make (Kd.int .i64) _ 3 rfl (N := 12) rfl 25 _ _ rfl ((rd_L1 l0 0).length : Int) rfl rfl Try.underlying25 (.int .i64 0) 8 info3 rfl (by decide) (by omega) 0 (ok := fun _ => True) (okp := fun _ => True) rfl (fun _ hk => hk) trivial (of_decide_eq_true (by first | (with_reducible assumption) | assumption)) (Nat.le_trans (Nat.mul_le_mul_right _ (of_decide_eq_true (by first | (with_reducible assumption) | assumption) : ((rd_L1 l0 0).length : Int).toNat ≤ 35184372088832)) (by omega)) (Below.refl _ _) (Nat.le_refl _) ?_; intro v127 w5 ho6 hb hg_ hnew_; clear hg_ hnew_; (first | rw [← Ny126.out] at ho6 | (simp only [Int.reduceToNat] at ho6; rw [← Ny126.out] at ho6)); have n0_ := Aside0.mk (Kd.R_lower ho6 (below_size (by repeat (first | (with_reducible first | exact HB.out | apply below_alloc | apply pw_below_drewN | apply below_drew1) | exact HB.out)))); have n1_ := Aside0.mk (below_step (by repeat (first | (with_reducible first | exact HB.out | apply below_alloc | apply pw_below_drewN | apply below_drew1) | exact HB.out)) hb); clear HB; have HO128 := n0_; have HB := n1_; clear n0_ n1_; clear hb ho6))
        go_loopg [15] k (fun kq v15 w' => ∃ (x3_1 : List Int) (x15_1 : Int), v15 = .int .i64 x15_1 ∧ Aside0 (drift_sum.l0 kq x3_1 l0 (l0.length : Int) x15_1 = some r) ∧ Aside0 (kq ≤ k) ∧ Aside0 (Kd.R (Kd.int .i64) 3 w' w.heap.size (fun _ => True) v127 x3_1) ∧ Aside0 (Below w.heap.size w w'))
        case atStart => exact ⟨(y126), (0), (by first | rfl | (simp; done) | (simp [*]; done)), H', ⟨Nat.le_refl _⟩, ⟨by (with_reducible repeat (first | apply Kd.R_alloc | apply Kd.R_drewN | apply Kd.R_drew)); exact HO128.out⟩, ⟨by repeat (first | (with_reducible first | exact HB.out | apply below_alloc | apply pw_below_drewN | apply below_drew1) | exact HB.out)⟩⟩
        case round =>
          clear H'
          try clear c1
          try clear p1
          try clear q1
          try clear hx1
          try clear qi1
          try clear c2
          try clear c2b0
          try clear c2b1
          try clear p2
          try clear c3
          try clear c3b0
          try clear c3b1
          try clear c4
          try clear c4b0
          try clear c4b1
          try clear c6
          try clear hx125_0
          try clear p125
          try clear q125
          obtain ⟨x3_1, x15_1, rfl, HA, HK1, HO_3, HB⟩ := hrel
          cases gk with
          | zero => exact absurd HA.out (by simp [drift_sum.l0])
          | succ k1 =>
            have H := HA.out
            clear HA
            simp only [drift_sum.l0] at H
            by_cases c7 : x15_1 < (l0.length : Int)
            · rw [if_pos c7] at H
              have c7b0 : decide (x15_1 < (l0.length : Int)) = true := decide_eq_true c7
              clear c7
              by_cases c8 : 0 ≤ x15_1
              · rw [if_pos c8] at H
                have c8b0 : decide (0 ≤ x15_1) = true := decide_eq_true c8
                clear c8
                by_cases c9 : x15_1 < (l0.length : Int)
                · rw [if_pos c9] at H
                  have c9b0 : decide (x15_1 < (l0.length : Int)) = true := decide_eq_true c9
                  clear c9
                  have H' := Aside0.mk H
                  clear H
                  have p129 : 0 ≤ (x15_1 : Int) := of_decide_eq_true (by first | (with_reducible assumption) | assumption)
                  have q129 : x15_1 < (l0.length : Int) := of_decide_eq_true (by first | (with_reducible assumption) | assumption)
                  obtain ⟨ad129, A129_0, c129_0, e129, hx129_0, hl129_0, hi129_0⟩ := at_L1 HR0.out x15_1 p129 q129
                  obtain rfl : ad125 = ad129 := (by injection e129)
                  replace hx129_0 := (HB.out.cell (World.block_lt_of_cell? w _ hx129_0)).trans hx129_0
                  have HR129_0 := Aside0.mk hi129_0
                  have HC129_0 := Aside0.mk hl129_0
                  clear hi129_0 hl129_0
                  replace p129 := eq_true p129
                  replace q129 := eq_true q129
                  go_wp2
                  go_loopg [22] k1 (fun kq v22 w' => ∃ (x3_2 : List Int) (x22_2 : Int), v22 = .int .i64 x22_2 ∧ Aside0 (drift_sum.l1 kq x3_2 x15_1 l0 (l0.length : Int) x15_1 (rd_L1 l0 x15_1) ((rd_L1 l0 x15_1).length : Int) x22_2 = some r) ∧ Aside0 (kq ≤ k1) ∧ Aside0 (Kd.R (Kd.int .i64) 3 w' w.heap.size (fun _ => True) v127 x3_2) ∧ Aside0 (Below w.heap.size w w'))
                  case atStart => exact ⟨(x3_1), (0), (by first | rfl | (simp; done) | (simp [*]; done)), H', ⟨Nat.le_refl _⟩, ⟨by (with_reducible repeat (first | apply Kd.R_alloc | apply Kd.R_drewN | apply Kd.R_drew)); exact HO_3.out⟩, ⟨by repeat (first | (with_reducible first | exact HB.out | apply below_alloc | apply pw_below_drewN | apply below_drew1) | exact HB.out)⟩⟩
                  case round =>
                    clear H'
                    try clear c1
                    try clear p1
                    try clear q1
                    try clear hx1
                    try clear qi1
                    try clear c2
                    try clear c2b0
                    try clear c2b1
                    try clear p2
                    try clear c3
                    try clear c3b0
                    try clear c3b1
                    try clear c4
                    try clear c4b0
                    try clear c4b1
                    try clear c6
                    try clear c7
                    try clear c7b0
                    try clear c8
                    try clear c8b0
                    try clear c9
                    try clear c9b0
                    try clear hx125_0
                    try clear hx129_0
                    try clear p1
                    try clear p125
                    try clear p129
                    try clear p2
                    try clear q1
                    try clear q125
                    try clear q129
                    obtain ⟨x3_2, x22_2, rfl, HA, HK2, HO_3, HB⟩ := hrel
                    cases gk with
                    | zero => exact absurd HA.out (by simp [drift_sum.l1])
                    | succ k2 =>
                      have H := HA.out
                      clear HA
                      simp only [drift_sum.l1] at H
                      by_cases c10 : x22_2 < ((rd_L1 l0 x15_1).length : Int)
                      · rw [if_pos c10] at H
                        have c10b0 : decide (x22_2 < ((rd_L1 l0 x15_1).length : Int)) = true := decide_eq_true c10
                        clear c10
                        by_cases c11 : 0 ≤ x22_2
                        · rw [if_pos c11] at H
                          have c11b0 : decide (0 ≤ x22_2) = true := decide_eq_true c11
                          clear c11
                          by_cases c12 : x22_2 < ((rd_L1 l0 x15_1).length : Int)
                          · rw [if_pos c12] at H
                            have c12b0 : decide (x22_2 < ((rd_L1 l0 x15_1).length : Int)) = true := decide_eq_true c12
                            clear c12
                            by_cases c13 : (Int.tmod x15_1 2) = 1
                            · rw [if_pos c13] at H
                              have c13b0 : ((Int.tmod x15_1 2) == 1) = true := beq_iff_eq.mpr c13
                              have c13b1 : ((Int.tmod x15_1 2) != 1) = false := bne_eq_false_iff_eq.mpr c13
                              clear c13
                              by_cases c14 : x22_2 < (x3_2.length : Int)
                              · rw [if_pos c14] at H
                                have c14b0 : decide (x22_2 < (x3_2.length : Int)) = true := decide_eq_true c14
                                clear c14
                                obtain ⟨y132, hy132⟩ : ∃ y_ : List Int, y_ = (x3_2.set (x22_2 : Int).toNat (wrap64 ((rd x3_2 x22_2) + (wrap64 (-(rd (rd_L1 l0 x15_1) x22_2)))))) := ⟨_, rfl⟩
                                replace H : (drift_sum.l1 k2 y132 x15_1 l0 (l0.length : Int) x15_1 (rd_L1 l0 x15_1) ((rd_L1 l0 x15_1).length : Int) (wrap64 (x22_2 + 1))) = some r := by first | (rw [hy132]; with_reducible exact H) | (have H2_ := (Option.bind_some _ _).symm.trans H; rw [hy132]; with_reducible exact H2_) | (have H2_ := (Option.bind_some _ _).symm.trans H; with_reducible exact H2_) | with_reducible exact H | (rw [hy132]; exact H) | exact H
                                have Ny132 := Aside0.mk hy132
                                clear hy132
                                have H' := Aside0.mk H
                                clear H
                                have p130 : 0 ≤ (x22_2 : Int) := of_decide_eq_true (by first | (with_reducible assumption) | assumption)
                                have q130 : x22_2 < ((rd_L1 l0 x15_1).length : Int) := of_decide_eq_true (by first | (with_reducible assumption) | assumption)
                                obtain ⟨ad130, e130, hx130_0⟩ := Kd.at_int HR129_0.out x22_2 p130 q130
                                cases e130
                                replace hx130_0 := (HB.out.cell (World.block_lt_of_cell? w _ hx130_0)).trans hx130_0
                                replace p130 := eq_true p130
                                replace q130 := eq_true q130
                                obtain ⟨Ao16, co16, eo16⟩ := Kd.R_slice HO_3.out
                                subst eo16
                                have p131 : 0 ≤ (x22_2 : Int) := of_decide_eq_true (by first | (with_reducible assumption) | assumption)
                                have q131 : x22_2 < (x3_2.length : Int) := of_decide_eq_true (by first | (with_reducible assumption) | assumption)
                                obtain ⟨ad131, e131, hx131_0⟩ := Kd.at_int (Kd.R_reads' HO_3.out).2.2 x22_2 p131 q131
                                cases e131
                                replace p131 := eq_true p131
                                replace q131 := eq_true q131
                                have p15 : 0 ≤ (x22_2 : Int) := of_decide_eq_true (by first | (with_reducible assumption) | assumption)
                                have q15 : (x22_2 : Int) < ((x3_2.length : Int) : Int) := of_decide_eq_true (by first | (with_reducible assumption) | assumption)
                                obtain ⟨go15, co15, eo15, gb15, gl15, cl15, HG15⟩ := Kd.R_form HO_3.out (by omega)
                                (first | cases eo15 | (injection eo15 with ea_ en_ ec_; (first | subst ea_ | (injection ea_ with ea_; subst ea_)); subst ec_; clear en_))
                                have GB15 := Aside0.mk gb15
                                have GG15 := Aside0.mk HG15
                                clear gb15 gl15 HG15
                                (first | simp only [add_plain] at hx131_0 | skip)
                                obtain ⟨hx15_0, hf15_0⟩ := Kd.R_celln 0 HO_3.out (x22_2 : Int) p15 q15
                                replace p15 := eq_true p15
                                replace q15 := eq_true q15
                                have HP17 := Kd.R_putg HO_3.out (x22_2 : Int) (wrap64 ((rd x3_2 x22_2) + (wrap64 (-(rd (rd_L1 l0 x15_1) x22_2)))))
                                go_wp2_with (first | ((with_reducible refine gate_store (t := 3) (p := 38) rfl ?_); refine store_event (t := 3) (p := 38) (v := ?vo_w18) (w1 := (wr.setCell ⟨go15, (x22_2 : Int).toNat, none⟩ (.int .i64 (wrap64 ((rd x3_2 x22_2) + (wrap64 (-(rd (rd_L1 l0 x15_1) x22_2)))))))) ?hg ?ho ?hn ?hr ?_; (case ho => rfl); (case hg => rfl); (case hn => rfl); (case hr => first | (go_simp; done) | (go_simp; rfl)); intro w18 hw; have hg : wr.grownBy w18 (some go15) := (by rw [hw]; exact HP17.2); have hp_ : Kd.R (Kd.int .i64) 3 w18 w.heap.size (fun _ => True) (.slice (some ⟨go15, 0, none⟩) x3_2.length co16) y132 := (by rw [hw, Ny132.out]; exact HP17.1); clear HP17; have n0_ := Aside0.mk (hp_); have n1_ := Aside0.mk ((by rw [hw]; exact below_set (HB.out) GB15.out : Below w.heap.size w w18)); clear HO_3; clear HB; have HO_3 := n0_; have HB := n1_; clear n0_ n1_; clear hg hw hp_))
                                go_roundg k2
                                case measure => have := HK1.out; have := HK2.out; omega
                                case rel => exact ⟨(y132), (wrap64 (x22_2 + 1)), (by first | rfl | (simp; done) | (simp [*]; done)), H', ⟨by have := HK1.out; have := HK2.out; omega⟩, ⟨by (with_reducible repeat (first | apply Kd.R_alloc | apply Kd.R_drewN | apply Kd.R_drew)); exact HO_3.out⟩, ⟨by repeat (first | (with_reducible first | exact HB.out | apply below_alloc | apply pw_below_drewN | apply below_drew1) | exact HB.out)⟩⟩
                              · rw [if_neg c14] at H
                                exact absurd H (by simp)
                            · rw [if_neg c13] at H
                              have c13b0 : ((Int.tmod x15_1 2) == 1) = false := beq_eq_false_iff_ne.mpr c13
                              have c13b1 : ((Int.tmod x15_1 2) != 1) = true := bne_iff_ne.mpr c13
                              by_cases c19 : x22_2 < (x3_2.length : Int)
                              · rw [if_pos c19] at H
                                have c19b0 : decide (x22_2 < (x3_2.length : Int)) = true := decide_eq_true c19
                                clear c19
                                obtain ⟨y134, hy134⟩ : ∃ y_ : List Int, y_ = (x3_2.set (x22_2 : Int).toNat (wrap64 ((rd x3_2 x22_2) + (rd (rd_L1 l0 x15_1) x22_2)))) := ⟨_, rfl⟩
                                replace H : (drift_sum.l1 k2 y134 x15_1 l0 (l0.length : Int) x15_1 (rd_L1 l0 x15_1) ((rd_L1 l0 x15_1).length : Int) (wrap64 (x22_2 + 1))) = some r := by first | (rw [hy134]; with_reducible exact H) | (have H2_ := (Option.bind_some _ _).symm.trans H; rw [hy134]; with_reducible exact H2_) | (have H2_ := (Option.bind_some _ _).symm.trans H; with_reducible exact H2_) | with_reducible exact H | (rw [hy134]; exact H) | exact H
                                have Ny134 := Aside0.mk hy134
                                clear hy134
                                have H' := Aside0.mk H
                                clear H
                                have p130 : 0 ≤ (x22_2 : Int) := of_decide_eq_true (by first | (with_reducible assumption) | assumption)
                                have q130 : x22_2 < ((rd_L1 l0 x15_1).length : Int) := of_decide_eq_true (by first | (with_reducible assumption) | assumption)
                                obtain ⟨ad130, e130, hx130_0⟩ := Kd.at_int HR129_0.out x22_2 p130 q130
                                cases e130
                                replace hx130_0 := (HB.out.cell (World.block_lt_of_cell? w _ hx130_0)).trans hx130_0
                                replace p130 := eq_true p130
                                replace q130 := eq_true q130
                                obtain ⟨Ao21, co21, eo21⟩ := Kd.R_slice HO_3.out
                                subst eo21
                                have p133 : 0 ≤ (x22_2 : Int) := of_decide_eq_true (by first | (with_reducible assumption) | assumption)
                                have q133 : x22_2 < (x3_2.length : Int) := of_decide_eq_true (by first | (with_reducible assumption) | assumption)
                                obtain ⟨ad133, e133, hx133_0⟩ := Kd.at_int (Kd.R_reads' HO_3.out).2.2 x22_2 p133 q133
                                cases e133
                                replace p133 := eq_true p133
                                replace q133 := eq_true q133
                                have p20 : 0 ≤ (x22_2 : Int) := of_decide_eq_true (by first | (with_reducible assumption) | assumption)
                                have q20 : (x22_2 : Int) < ((x3_2.length : Int) : Int) := of_decide_eq_true (by first | (with_reducible assumption) | assumption)
                                obtain ⟨go20, co20, eo20, gb20, gl20, cl20, HG20⟩ := Kd.R_form HO_3.out (by omega)
                                (first | cases eo20 | (injection eo20 with ea_ en_ ec_; (first | subst ea_ | (injection ea_ with ea_; subst ea_)); subst ec_; clear en_))
                                have GB20 := Aside0.mk gb20
                                have GG20 := Aside0.mk HG20
                                clear gb20 gl20 HG20
                                (first | simp only [add_plain] at hx133_0 | skip)
                                obtain ⟨hx20_0, hf20_0⟩ := Kd.R_celln 0 HO_3.out (x22_2 : Int) p20 q20
                                replace p20 := eq_true p20
                                replace q20 := eq_true q20
                                have HP22 := Kd.R_putg HO_3.out (x22_2 : Int) (wrap64 ((rd x3_2 x22_2) + (rd (rd_L1 l0 x15_1) x22_2)))
                                go_wp2_with (first | ((with_reducible refine gate_store (t := 3) (p := 38) rfl ?_); refine store_event (t := 3) (p := 38) (v := ?vo_w23) (w1 := (wr.setCell ⟨go20, (x22_2 : Int).toNat, none⟩ (.int .i64 (wrap64 ((rd x3_2 x22_2) + (rd (rd_L1 l0 x15_1) x22_2)))))) ?hg ?ho ?hn ?hr ?_; (case ho => rfl); (case hg => rfl); (case hn => rfl); (case hr => first | (go_simp; done) | (go_simp; rfl)); intro w23 hw; have hg : wr.grownBy w23 (some go20) := (by rw [hw]; exact HP22.2); have hp_ : Kd.R (Kd.int .i64) 3 w23 w.heap.size (fun _ => True) (.slice (some ⟨go20, 0, none⟩) x3_2.length co21) y134 := (by rw [hw, Ny134.out]; exact HP22.1); clear HP22; have n0_ := Aside0.mk (hp_); have n1_ := Aside0.mk ((by rw [hw]; exact below_set (HB.out) GB20.out : Below w.heap.size w w23)); clear HO_3; clear HB; have HO_3 := n0_; have HB := n1_; clear n0_ n1_; clear hg hw hp_))
                                go_roundg k2
                                case measure => have := HK1.out; have := HK2.out; omega
                                case rel => exact ⟨(y134), (wrap64 (x22_2 + 1)), (by first | rfl | (simp; done) | (simp [*]; done)), H', ⟨by have := HK1.out; have := HK2.out; omega⟩, ⟨by (with_reducible repeat (first | apply Kd.R_alloc | apply Kd.R_drewN | apply Kd.R_drew)); exact HO_3.out⟩, ⟨by repeat (first | (with_reducible first | exact HB.out | apply below_alloc | apply pw_below_drewN | apply below_drew1) | exact HB.out)⟩⟩
                              · rw [if_neg c19] at H
                                exact absurd H (by simp)
                          · rw [if_neg c12] at H
                            exact absurd H (by simp)
                        · rw [if_neg c11] at H
                          exact absurd H (by simp)
                      · rw [if_neg c10] at H
                        have c10b0 : decide (x22_2 < ((rd_L1 l0 x15_1).length : Int)) = false := decide_eq_false c10
                        clear c10
                        have H' := Aside0.mk H
                        clear H
                        go_wp2
                        go_roundg k2
                        case measure => have := HK1.out; have := HK2.out; omega
                        case rel => exact ⟨(x3_2), (wrap64 (x15_1 + 1)), (by first | rfl | (simp; done) | (simp [*]; done)), H', ⟨by have := HK1.out; have := HK2.out; omega⟩, ⟨by (with_reducible repeat (first | apply Kd.R_alloc | apply Kd.R_drewN | apply Kd.R_drew)); exact HO_3.out⟩, ⟨by repeat (first | (with_reducible first | exact HB.out | apply below_alloc | apply pw_below_drewN | apply below_drew1) | exact HB.out)⟩⟩
                · rw [if_neg c9] at H
                  exact absurd H (by simp)
              · rw [if_neg c8] at H
                exact absurd H (by simp)
            · rw [if_neg c7] at H
              have c7b0 : decide (x15_1 < (l0.length : Int)) = false := decide_eq_false c7
              clear c7
              obtain rfl := Option.some.inj H
              go_wp2
              go_ret
              exact ⟨_, by first | rfl | (simp [errW_none, errW_some] <;> rfl) | (simp [*, errW_none, errW_some] <;> rfl), by (with_reducible repeat (first | apply Kd.R_alloc | apply Kd.R_drewN | apply Kd.R_drew)); exact HO_3.out, by repeat (first | (with_reducible first | exact HB.out | apply below_alloc | apply pw_below_drewN | apply below_drew1) | exact HB.out)⟩
      · rw [if_neg c4] at H
        exact absurd H (by simp)
    · rw [if_neg c3] at H
      exact absurd H (by simp)
  · rw [if_neg c2] at H
    exact absurd H (by simp)
/-! ### drift_lead: function 59 -/
def drift_lead.f (k : Nat) (l0_0 : List Int) (l0_1 : List (List (List Int))) (l0_2 : List (List (S33))) (a1 : Int) (a2 : Int) : Option (List Int) := if 0 ≤ a1 then (if a1 < (l0_2.length : Int) then (if 0 ≤ a2 then (if a2 < ((rd_L4 l0_2 a1).length : Int) then (if a1 < (l0_1.length : Int) then (if 0 ≤ ((rd_T33 (rd_L4 l0_2 a1) a2).f0) then (if ((rd_T33 (rd_L4 l0_2 a1) a2).f0) < ((rd_L2 l0_1 a1).length : Int) then (if 0 ≤ (wrap64 (a1 + 1)) then (if (wrap64 (a1 + 1)) < (l0_1.length : Int) then (if 0 ≤ ((rd_T33 (rd_L4 l0_2 a1) a2).f1) then (if ((rd_T33 (rd_L4 l0_2 a1) a2).f1) < ((rd_L2 l0_1 (wrap64 (a1 + 1))).length : Int) then ((drift_sum.f k (([rd_L1 (rd_L2 l0_1 a1) ((rd_T33 (rd_L4 l0_2 a1) a2).f0), rd_L1 (rd_L2 l0_1 (wrap64 (a1 + 1))) ((rd_T33 (rd_L4 l0_2 a1) a2).f1)] : List (List Int)))).bind fun t146 => (some t146)) else (none)) else (none)) else (none)) else (none)) else (none)) else (none)) else (none)) else (none)) else (none)) else (none)) else (none)
theorem drift_lead.mono : ∀ a0 a1 a2 a3 a4 k, LeO (drift_lead.f k a0 a1 a2 a3 a4) (drift_lead.f (k + 1) a0 a1 a2 a3 a4) := by
  intro a0 a1 a2 a3 a4 k
  unfold drift_lead.f
  repeat' first
      | (with_reducible exact drift_sum.mono _ _)
      | (with_reducible exact LeO.refl _)
      | (with_reducible exact LeO.none _)
      | (with_reducible refine LeO.ite ?_ ?_)
      | (with_reducible refine LeO.bind ?_ (fun _ => ?_))
      | exact drift_sum.mono _ _
      | exact LeO.none _
      | refine LeO.ite ?_ ?_
      | refine LeO.bind ?_ (fun _ => ?_)
def drift_lead.T2 : Bool × List (List Nat × List Nat) := (true, [([], []), ([0], [0]), ([], []), ([1, 2], [1, 2]), ([3], [3]), ([], []), ([5], [5]), ([4, 6], [4, 6]), ([7], [7]), ([], []), ([9], [9]), ([], []), ([11], [11]), ([10, 12], [10, 12]), ([13], [13]), ([], []), ([15], [15]), ([14, 16], [14, 16]), ([17], [17]), ([8, 18], [8, 18]), ([19], [19]), ([20, 20, 0, 1, 2, 3, 4, 5, 6, 7, 8, 9, 10, 11, 12, 13, 14, 15, 16, 17, 18, 19, 20], [20])])
def drift_lead.B2 : List Nat := [0, 1, 0, 7, 15, 0, 32, 127, 255, 0, 512, 0, 2048, 7680, 15872, 0, 32768, 130560, 261632, 524287, 1048575, 2097151]
theorem drift_lead.tab2 : rtab .any (opsOf Try.f59 2) = drift_lead.T2 := by kernel_rfl
theorem drift_lead.bits2 : waitsOk drift_lead.T2.2 drift_lead.B2 = true := by kernel_rfl
set_option maxHeartbeats 8000000 in
set_option maxRecDepth 100000 in
theorem drift_lead.calls0 (k : Nat) (A0_0 : Option Addr) (c0_0 : Nat) (l0_0 : List Int) (P0_1_ : Nat → Prop) (A0_1 : Option Addr) (c0_1 : Nat) (l0_1 : List (List (List Int))) (A0_2 : Option Addr) (c0_2 : Nat) (l0_2 : List (List (S33))) (a1 : Int) (a2 : Int) (r : List Int) (w : World) (hr0_0 : Kd.C (Kd.int .i64) w A0_0 l0_0.length l0_0) (hc0_0 : l0_0.length ≤ c0_0) (hs0_1 : Kd.V (Kd.slice 25 (Kd.slice 3 (Kd.int .i64))) 31 w w.heap.size (fun k_ => P0_1_ k_) (.slice A0_1 l0_1.length c0_1) l0_1) (hr0_2 : Kd.C (Kd.slice 33 k33) w A0_2 l0_2.length l0_2) (hc0_2 : l0_2.length ≤ c0_2) (h : drift_lead.f k l0_0 l0_1 l0_2 a1 a2 = some r) :
    Calls Try.prog 59 #[.agg #[.slice A0_0 l0_0.length c0_0, .slice A0_1 l0_1.length c0_1, .slice A0_2 l0_2.length c0_2], .int .i64 a1, .int .i64 a2] w fun e w' => ∃ v0_ : Value, e = .returned (v0_) ∧ Kd.R (Kd.int .i64) 3 w' w.heap.size (fun k_ => (w.heap.size ≤ k_)) v0_ r ∧ Below w.heap.size w w' := by
  have hu30 := Try.underlying30
  have hu33 := Try.underlying33
  have HR0_0 := Aside0.mk hr0_0
  have HC0_0 := Aside0.mk hc0_0
  clear hr0_0 hc0_0
  have HO0_1 := Aside0.mk (show Kd.V (Kd.slice 25 (Kd.slice 3 (Kd.int .i64))) 31 w w.heap.size (fun k_ => (P0_1_ k_ ∨ w.heap.size ≤ k_)) (.slice A0_1 l0_1.length c0_1) l0_1 from Kd.V_mono hs0_1 (fun k_ hk => .inl hk))
  have HR0_2 := Aside0.mk hr0_2
  have HC0_2 := Aside0.mk hc0_2
  clear hr0_2 hc0_2
  have HB := Aside0.mk (Below.refl w.heap.size w)
  have H : (if 0 ≤ a1 then (if a1 < (l0_2.length : Int) then (if 0 ≤ a2 then (if a2 < ((rd_L4 l0_2 a1).length : Int) then (if a1 < (l0_1.length : Int) then (if 0 ≤ ((rd_T33 (rd_L4 l0_2 a1) a2).f0) then (if ((rd_T33 (rd_L4 l0_2 a1) a2).f0) < ((rd_L2 l0_1 a1).length : Int) then (if 0 ≤ (wrap64 (a1 + 1)) then (if (wrap64 (a1 + 1)) < (l0_1.length : Int) then (if 0 ≤ ((rd_T33 (rd_L4 l0_2 a1) a2).f1) then (if ((rd_T33 (rd_L4 l0_2 a1) a2).f1) < ((rd_L2 l0_1 (wrap64 (a1 + 1))).length : Int) then ((drift_sum.f k (([rd_L1 (rd_L2 l0_1 a1) ((rd_T33 (rd_L4 l0_2 a1) a2).f0), rd_L1 (rd_L2 l0_1 (wrap64 (a1 + 1))) ((rd_T33 (rd_L4 l0_2 a1) a2).f1)] : List (List Int)))).bind fun t146 => (some t146)) else (none)) else (none)) else (none)) else (none)) else (none)) else (none)) else (none)) else (none)) else (none)) else (none)) else (none)) = some r := h
  clear h
  by_cases c4 : 0 ≤ a1
  · rw [if_pos c4] at H
    have c4b0 : decide (0 ≤ a1) = true := decide_eq_true c4
    clear c4
    by_cases c5 : a1 < (l0_2.length : Int)
    · rw [if_pos c5] at H
      have c5b0 : decide (a1 < (l0_2.length : Int)) = true := decide_eq_true c5
      clear c5
      by_cases c6 : 0 ≤ a2
      · rw [if_pos c6] at H
        have c6b0 : decide (0 ≤ a2) = true := decide_eq_true c6
        clear c6
        by_cases c7 : a2 < ((rd_L4 l0_2 a1).length : Int)
        · rw [if_pos c7] at H
          have c7b0 : decide (a2 < ((rd_L4 l0_2 a1).length : Int)) = true := decide_eq_true c7
          clear c7
          by_cases c8 : a1 < (l0_1.length : Int)
          · rw [if_pos c8] at H
            have c8b0 : decide (a1 < (l0_1.length : Int)) = true := decide_eq_true c8
            clear c8
            by_cases c9 : 0 ≤ ((rd_T33 (rd_L4 l0_2 a1) a2).f0)
            · rw [if_pos c9] at H
              have c9b0 : decide (0 ≤ ((rd_T33 (rd_L4 l0_2 a1) a2).f0)) = true := decide_eq_true c9
              clear c9
              by_cases c10 : ((rd_T33 (rd_L4 l0_2 a1) a2).f0) < ((rd_L2 l0_1 a1).length : Int)
              · rw [if_pos c10] at H
                have c10b0 : decide (((rd_T33 (rd_L4 l0_2 a1) a2).f0) < ((rd_L2 l0_1 a1).length : Int)) = true := decide_eq_true c10
                clear c10
                obtain ⟨ji11, hji11⟩ : ∃ j_ : Int, (wrap64 (a1 + 1)) = j_ := ⟨_, rfl⟩
                replace H : (if 0 ≤ (ji11) then (if (ji11) < (l0_1.length : Int) then (if 0 ≤ ((rd_T33 (rd_L4 l0_2 a1) a2).f1) then (if ((rd_T33 (rd_L4 l0_2 a1) a2).f1) < ((rd_L2 l0_1 (ji11)).length : Int) then ((drift_sum.f k (([rd_L1 (rd_L2 l0_1 a1) ((rd_T33 (rd_L4 l0_2 a1) a2).f0), rd_L1 (rd_L2 l0_1 (ji11)) ((rd_T33 (rd_L4 l0_2 a1) a2).f1)] : List (List Int)))).bind fun t146 => (some t146)) else (none)) else (none)) else (none)) else (none)) = some r := by first | (rw [hji11] at H; exact H) | (simp only [hji11] at H ⊢; exact H)
                have hji11w : (IntKind.i64.wrap (a1 + 1)) = ji11 := (i64_w _).trans hji11
                by_cases c12 : 0 ≤ (ji11)
                · rw [if_pos c12] at H
                  have c12b0 : decide (0 ≤ (ji11)) = true := decide_eq_true c12
                  clear c12
                  by_cases c13 : (ji11) < (l0_1.length : Int)
                  · rw [if_pos c13] at H
                    have c13b0 : decide ((ji11) < (l0_1.length : Int)) = true := decide_eq_true c13
                    clear c13
                    by_cases c14 : 0 ≤ ((rd_T33 (rd_L4 l0_2 a1) a2).f1)
                    · rw [if_pos c14] at H
                      have c14b0 : decide (0 ≤ ((rd_T33 (rd_L4 l0_2 a1) a2).f1)) = true := decide_eq_true c14
                      clear c14
                      by_cases c15 : ((rd_T33 (rd_L4 l0_2 a1) a2).f1) < ((rd_L2 l0_1 (ji11)).length : Int)
                      · rw [if_pos c15] at H
                        have c15b0 : decide (((rd_T33 (rd_L4 l0_2 a1) a2).f1) < ((rd_L2 l0_1 (ji11)).length : Int)) = true := decide_eq_true c15
                        clear c15
                        obtain ⟨y143, hy143⟩ : ∃ y_ : List (List Int), y_ = (([rd_L1 (rd_L2 l0_1 a1) ((rd_T33 (rd_L4 l0_2 a1) a2).f0), rd_L1 (rd_L2 l0_1 (ji11)) ((rd_T33 (rd_L4 l0_2 a1) a2).f1)] : List (List Int))) := ⟨_, rfl⟩
                        replace H : ((drift_sum.f k y143).bind fun t146 => (some t146)) = some r := by first | (rw [hy143]; with_reducible exact H) | (have H2_ := (Option.bind_some _ _).symm.trans H; rw [hy143]; with_reducible exact H2_) | (have H2_ := (Option.bind_some _ _).symm.trans H; with_reducible exact H2_) | with_reducible exact H | (rw [hy143]; exact H) | exact H
                        have Ny143 := Aside0.mk hy143
                        clear hy143
                        replace H := Option.bind_eq_some_iff.mp H
                        obtain ⟨t146, A160, H⟩ := H
                        replace H : (some t146) = some r := H
                        have A16 := Aside0.mk A160
                        clear A160
                        obtain rfl := Option.some.inj H
                        go_enter Try.func59, Try.ntmps59
                        try go_wp2_with (first | ((with_reducible refine gate_dst (N := 3) rfl ?_); refine box_event ?hg (N := 3) ?hd (cs := #[.slice A0_0 l0_0.length c0_0, .slice A0_1 l0_1.length c0_1, .slice A0_2 l0_2.length c0_2]) (t := 30) ?hr ?_; (case hd => rfl); (case hg => rfl); (case hr => first | (go_simp; done) | (go_simp; rfl)); intro gb135 hg w17 hbox hb; have n0_ := Aside0.mk (Kd.V_below (Kd.V_elderB (by (with_reducible repeat (first | apply Kd.V_alloc | apply Kd.V_drewN | apply Kd.V_drew)); exact HO0_1.out) gb135 (Nat.le_of_eq hg.symm)) hb); have n1_ := Aside0.mk (below_step (by repeat (first | (with_reducible first | exact HB.out | apply below_alloc | apply pw_below_drewN | apply below_drew1) | exact HB.out)) hb); have n2_ := Aside0.mk (hbox); have n3_ := Aside0.mk ((by rw [hg]; exact (below_size (by repeat (first | (with_reducible first | exact HB.out | apply below_alloc | apply pw_below_drewN | apply below_drew1) | exact HB.out))) : w.heap.size ≤ gb135)); have n4_ := Aside0.mk ((by rw [hg]; exact (below_size (by repeat (first | (with_reducible first | exact HB.out | apply below_alloc | apply pw_below_drewN | apply below_drew1) | exact HB.out))) : w.heap.size ≤ gb135)); clear HO0_1; clear HB; have HO0_1 := n0_; have HB := n1_; have BK135 := n2_; have GW135 := n3_; have GE135 := n4_; clear n0_ n1_ n2_ n3_ n4_; clear hb hbox hg; have hcz18_0 : w17.cell? ⟨gb135, 0, none⟩ = some (.slice A0_0 l0_0.length c0_0) := (blk_cell BK135.out 0).trans rfl; have hcz18_1 : w17.cell? ⟨gb135, 1, none⟩ = some (.slice A0_1 l0_1.length c0_1) := (blk_cell BK135.out 1).trans rfl; have hcz18_2 : w17.cell? ⟨gb135, 2, none⟩ = some (.slice A0_2 l0_2.length c0_2) := (blk_cell BK135.out 2).trans rfl; have hfz18_0 := blk_frozen BK135.out 0; have hfz18_1 := blk_frozen BK135.out 1; have hfz18_2 := blk_frozen BK135.out 2; have p136 : 0 ≤ (a1 : Int) := of_decide_eq_true (by first | (with_reducible assumption) | assumption); have q136 : a1 < (l0_2.length : Int) := of_decide_eq_true (by first | (with_reducible assumption) | assumption); obtain ⟨ad136, A136_0, c136_0, e136, hx136_0, hl136_0, hi136_0⟩ := at_L4 HR0_2.out a1 p136 q136; cases e136; replace hx136_0 := (HB.out.cell (World.block_lt_of_cell? w _ hx136_0)).trans hx136_0; have HR136_0 := Aside0.mk hi136_0; have HC136_0 := Aside0.mk hl136_0; clear hi136_0 hl136_0; replace p136 := eq_true p136; replace q136 := eq_true q136; have p137 : 0 ≤ (a2 : Int) := of_decide_eq_true (by first | (with_reducible assumption) | assumption); have q137 : a2 < ((rd_L4 l0_2 a1).length : Int) := of_decide_eq_true (by first | (with_reducible assumption) | assumption); obtain ⟨ad137, e137, hx137_0, hx137_1⟩ := at_T33 HR136_0.out a2 p137 q137; cases e137; replace hx137_0 := (HB.out.cell (World.block_lt_of_cell? w _ hx137_0)).trans hx137_0; replace hx137_1 := (HB.out.cell (World.block_lt_of_cell? w _ hx137_1)).trans hx137_1; replace p137 := eq_true p137; replace q137 := eq_true q137) | ((with_reducible refine gate_dst (N := 7) rfl ?_); refine box_event ?hg (N := 7) ?hd (cs := #[.int .i64 0, .int .i64 0]) (t := 33) ?hr ?_; (case hd => rfl); (case hg => rfl); (case hr => first | (go_simp; done) | (go_simp; rfl)); intro gb138 hg w19 hbox hb; have n0_ := Aside0.mk (Kd.V_below (Kd.V_elderB (by (with_reducible repeat (first | apply Kd.V_alloc | apply Kd.V_drewN | apply Kd.V_drew)); exact HO0_1.out) gb138 (Nat.le_of_eq hg.symm)) hb); have n1_ := Aside0.mk (blk_below (g := gb135) (o := .cells #[.slice A0_0 l0_0.length c0_0, .slice A0_1 l0_1.length c0_1, .slice (some ad136) l0_2.length c0_2] 30 (0, 0)) (by (with_reducible repeat (first | refine blk_drewN ?_ _ | refine blk_drew ?_ | refine blk_alloc ?_ _)); exact BK135.out) hb); have n2_ := Aside0.mk (below_step (by repeat (first | (with_reducible first | exact HB.out | apply below_alloc | apply pw_below_drewN | apply below_drew1 | refine below_set ?_ GE135.out) | exact HB.out)) hb); have n3_ := Aside0.mk (hbox); have n4_ := Aside0.mk ((by rw [hg]; exact (below_size (by repeat (first | (with_reducible first | exact HB.out | apply below_alloc | apply pw_below_drewN | apply below_drew1 | refine below_set ?_ GE135.out) | exact HB.out))) : w.heap.size ≤ gb138)); have n5_ := Aside0.mk ((by rw [hg]; exact (below_size (by repeat (first | (with_reducible first | exact HB.out | apply below_alloc | apply pw_below_drewN | apply below_drew1 | refine below_set ?_ GE135.out) | exact HB.out))) : w.heap.size ≤ gb138)); have n6_ := Aside0.mk ((by rw [hg]; exact Nat.ne_of_lt (blk_lt (g := gb135) (o := .cells #[.slice A0_0 l0_0.length c0_0, .slice A0_1 l0_1.length c0_1, .slice (some ad136) l0_2.length c0_2] 30 (0, 0)) (by (with_reducible repeat (first | refine blk_drewN ?_ _ | refine blk_drew ?_ | refine blk_alloc ?_ _)); exact BK135.out)) : gb135 ≠ gb138)); have n7_ := Aside0.mk ((by rw [hg]; exact Nat.ne_of_gt (blk_lt (g := gb135) (o := .cells #[.slice A0_0 l0_0.length c0_0, .slice A0_1 l0_1.length c0_1, .slice (some ad136) l0_2.length c0_2] 30 (0, 0)) (by (with_reducible repeat (first | refine blk_drewN ?_ _ | refine blk_drew ?_ | refine blk_alloc ?_ _)); exact BK135.out)) : gb138 ≠ gb135)); clear HO0_1; clear BK135; clear HB; have HO0_1 := n0_; have BK135 := n1_; have HB := n2_; have BK138 := n3_; have GW138 := n4_; have GE138 := n5_; have NB135_138 := n6_; have NB138_135 := n7_; clear n0_ n1_ n2_ n3_ n4_ n5_ n6_ n7_; clear hb hbox hg; have hnb20 := NB138_135.out; have hnc20 := NB135_138.out; have hcz21_0 : w19.cell? ⟨gb138, 0, none⟩ = some (.int .i64 0) := (blk_cell BK138.out 0).trans rfl; have hcz21_1 : w19.cell? ⟨gb138, 1, none⟩ = some (.int .i64 0) := (blk_cell BK138.out 1).trans rfl; have hfz21_0 := blk_frozen BK138.out 0; have hfz21_1 := blk_frozen BK138.out 1))
                        have n0_ : Aside0 (Kd.V (Kd.slice 25 (Kd.slice 3 (Kd.int .i64))) 31 ((w19.setCell ⟨gb138, 0, none⟩ (.int .i64 ((rd_T33 (rd_L4 l0_2 a1) a2).f0))).setCell ⟨gb138, 1, none⟩ (.int .i64 ((rd_T33 (rd_L4 l0_2 a1) a2).f1))) w.heap.size (fun k_ => (P0_1_ k_ ∨ w.heap.size ≤ k_) ∧ k_ ≠ gb135 ∧ k_ ≠ gb138) (.slice A0_1 l0_1.length c0_1) l0_1) := ⟨by (with_reducible repeat (first | apply Kd.V_alloc | apply Kd.V_drewN | apply Kd.V_drew)); exact Kd.V_mono (Kd.V_far (p := ⟨gb138, 1, none⟩) (Kd.V_far (p := ⟨gb138, 0, none⟩) (Kd.V_mono HO0_1.out (fun k_ hk => (⟨hk, hk.2⟩ : _ ∧ k_ ≠ gb138))) (fun _ hk => hk.2) (.int .i64 ((rd_T33 (rd_L4 l0_2 a1) a2).f0))) (fun _ hk => hk.2) (.int .i64 ((rd_T33 (rd_L4 l0_2 a1) a2).f1))) (fun _ hk => ⟨hk.1.1.1, ⟨hk.1.1.2, hk.1.2⟩⟩)⟩
                        have n1_ : Aside0 (((w19.setCell ⟨gb138, 0, none⟩ (.int .i64 ((rd_T33 (rd_L4 l0_2 a1) a2).f0))).setCell ⟨gb138, 1, none⟩ (.int .i64 ((rd_T33 (rd_L4 l0_2 a1) a2).f1))).heap[gb135]? = some (.cells #[.slice A0_0 l0_0.length c0_0, .slice A0_1 l0_1.length c0_1, .slice (some ad136) l0_2.length c0_2] 30 (0, 0))) := ⟨by (with_reducible repeat (first | refine blk_drewN ?_ _ | refine blk_drew ?_ | refine blk_alloc ?_ _)); refine blk_far ?_ NB135_138.out _; (with_reducible repeat (first | refine blk_drewN ?_ _ | refine blk_drew ?_ | refine blk_alloc ?_ _)); refine blk_far ?_ NB135_138.out _; (with_reducible repeat (first | refine blk_drewN ?_ _ | refine blk_drew ?_ | refine blk_alloc ?_ _)); exact BK135.out⟩
                        have n2_ : Aside0 (((w19.setCell ⟨gb138, 0, none⟩ (.int .i64 ((rd_T33 (rd_L4 l0_2 a1) a2).f0))).setCell ⟨gb138, 1, none⟩ (.int .i64 ((rd_T33 (rd_L4 l0_2 a1) a2).f1))).heap[gb138]? = some (.cells #[.int .i64 ((rd_T33 (rd_L4 l0_2 a1) a2).f0), .int .i64 ((rd_T33 (rd_L4 l0_2 a1) a2).f1)] 33 (0, 0))) := ⟨by (with_reducible repeat (first | refine blk_drewN ?_ _ | refine blk_drew ?_ | refine blk_alloc ?_ _)); refine blk_put (cs := #[.int .i64 ((rd_T33 (rd_L4 l0_2 a1) a2).f0), .int .i64 0]) ?_ 1 _ rfl; (with_reducible repeat (first | refine blk_drewN ?_ _ | refine blk_drew ?_ | refine blk_alloc ?_ _)); refine blk_put (cs := #[.int .i64 0, .int .i64 0]) ?_ 0 _ rfl; (with_reducible repeat (first | refine blk_drewN ?_ _ | refine blk_drew ?_ | refine blk_alloc ?_ _)); exact BK138.out⟩
                        have n3_ : Aside0 (Below w.heap.size w ((w19.setCell ⟨gb138, 0, none⟩ (.int .i64 ((rd_T33 (rd_L4 l0_2 a1) a2).f0))).setCell ⟨gb138, 1, none⟩ (.int .i64 ((rd_T33 (rd_L4 l0_2 a1) a2).f1)))) := ⟨by repeat (first | (with_reducible first | exact HB.out | apply below_alloc | apply pw_below_drewN | apply below_drew1 | refine below_set ?_ GE135.out | refine below_set ?_ GE138.out) | exact HB.out)⟩
                        (try clear HO0_1)
                        (try clear BK135)
                        (try clear BK138)
                        (try clear HB)
                        generalize ((w19.setCell ⟨gb138, 0, none⟩ (.int .i64 ((rd_T33 (rd_L4 l0_2 a1) a2).f0))).setCell ⟨gb138, 1, none⟩ (.int .i64 ((rd_T33 (rd_L4 l0_2 a1) a2).f1))) = w22 at n0_ n1_ n2_ n3_ ⊢
                        have HO0_1 := n0_
                        have BK135 := n1_
                        have BK138 := n2_
                        have HB := n3_
                        clear n0_ n1_ n2_ n3_
                        have n0_ := Aside0.mk (Kd.V_drew HO0_1.out)
                        have n1_ := Aside0.mk (blk_drew BK135.out)
                        have n2_ := Aside0.mk (blk_drew BK138.out)
                        have n3_ := Aside0.mk (below_drew1 HB.out)
                        clear HO0_1
                        clear BK135
                        clear BK138
                        clear HB
                        have HO0_1 := n0_
                        have BK135 := n1_
                        have BK138 := n2_
                        have HB := n3_
                        clear n0_ n1_ n2_ n3_
                        have p139 : 0 ≤ (a1 : Int) := of_decide_eq_true (by first | (with_reducible assumption) | assumption)
                        have q139 : a1 < (l0_1.length : Int) := of_decide_eq_true (by first | (with_reducible assumption) | assumption)
                        obtain ⟨ad139, A139_0, c139_0, e139, hx139_0, hl139_0, hi139_0⟩ := at_L2 (Kd.V_reads' HO0_1.out).2.2 a1 p139 q139
                        cases e139
                        obtain ⟨ce139, hce139, hMe139, hcc139⟩ := Kd.V_get HO0_1.out [] a1 p139 (by first | exact q139 | exact of_decide_eq_true (by first | (with_reducible assumption) | assumption) | (have e_ := (Kd.V_reads' HO0_1.out).1; omega))
                        obtain ⟨ua139_0, uc139_0, rfl, ul139_0, ge139_0⟩ := Kd.FK_slice_open hMe139
                        have hv139_0 := hcc139 0 _ rfl
                        rw [Nat.add_zero, show ((Kd.slice 25 (Kd.slice 3 (Kd.int .i64)))).sz = 1 from rfl, Nat.mul_one] at hv139_0
                        replace hv139_0 := Option.some.inj (hv139_0.symm.trans hx139_0)
                        injection hv139_0 with hva_ hvn_ hvc_
                        rw [hva_] at ge139_0
                        rw [hvc_] at ul139_0
                        have HL139_0 := Aside0.mk (show Kd.V (Kd.slice 3 (Kd.int .i64)) 25 _ w.heap.size _ _ (rd_L2 l0_1 a1) from Kd.V_mk ul139_0 ge139_0)
                        clear hva_ hvn_ hvc_ ge139_0 ul139_0
                        clear hcc139 hce139
                        have HR139_0 := Aside0.mk hi139_0
                        have HC139_0 := Aside0.mk hl139_0
                        clear hi139_0 hl139_0
                        replace p139 := eq_true p139
                        replace q139 := eq_true q139
                        have p140 : 0 ≤ (((rd_T33 (rd_L4 l0_2 a1) a2).f0) : Int) := of_decide_eq_true (by first | (with_reducible assumption) | assumption)
                        have q140 : ((rd_T33 (rd_L4 l0_2 a1) a2).f0) < ((rd_L2 l0_1 a1).length : Int) := of_decide_eq_true (by first | (with_reducible assumption) | assumption)
                        obtain ⟨ad140, A140_0, c140_0, e140, hx140_0, hl140_0, hi140_0⟩ := at_L1 (by repeat (first | (with_reducible exact HR139_0.out) | (with_reducible refine Kd.C_alloc ?_ _) | (with_reducible refine Kd.C_drewN ?_ _) | (with_reducible refine Kd.C_drew ?_) | exact HR139_0.out)) ((rd_T33 (rd_L4 l0_2 a1) a2).f0) p140 q140
                        cases e140
                        obtain ⟨ce140, hce140, hMe140, hcc140⟩ := Kd.V_get HL139_0.out [] ((rd_T33 (rd_L4 l0_2 a1) a2).f0) p140 (by first | exact q140 | exact of_decide_eq_true (by first | (with_reducible assumption) | assumption) | (have e_ := (Kd.V_reads' HL139_0.out).1; omega))
                        obtain ⟨ua140_0, uc140_0, rfl, ul140_0, ge140_0⟩ := Kd.FK_slice_open hMe140
                        have hv140_0 := hcc140 0 _ rfl
                        rw [Nat.add_zero, show ((Kd.slice 3 (Kd.int .i64))).sz = 1 from rfl, Nat.mul_one] at hv140_0
                        replace hv140_0 := Option.some.inj (hv140_0.symm.trans hx140_0)
                        injection hv140_0 with hva_ hvn_ hvc_
                        rw [hva_] at ge140_0
                        rw [hvc_] at ul140_0
                        have HL140_0 := Aside0.mk (show Kd.V (Kd.int .i64) 3 _ w.heap.size _ _ (rd_L1 (rd_L2 l0_1 a1) ((rd_T33 (rd_L4 l0_2 a1) a2).f0)) from Kd.V_mk ul140_0 ge140_0)
                        clear hva_ hvn_ hvc_ ge140_0 ul140_0
                        clear hcc140 hce140
                        have HR140_0 := Aside0.mk hi140_0
                        have HC140_0 := Aside0.mk hl140_0
                        clear hi140_0 hl140_0
                        replace p140 := eq_true p140
                        replace q140 := eq_true q140
                        have p141 : 0 ≤ ((ji11) : Int) := of_decide_eq_true (by first | (with_reducible assumption) | assumption)
                        have q141 : (ji11) < (l0_1.length : Int) := of_decide_eq_true (by first | (with_reducible assumption) | assumption)
                        obtain ⟨ad141, A141_0, c141_0, e141, hx141_0, hl141_0, hi141_0⟩ := at_L2 (Kd.V_reads' HO0_1.out).2.2 (ji11) p141 q141
                        obtain rfl : ad139 = ad141 := (by injection e141)
                        obtain ⟨ce141, hce141, hMe141, hcc141⟩ := Kd.V_get HO0_1.out [] (ji11) p141 (by first | exact q141 | exact of_decide_eq_true (by first | (with_reducible assumption) | assumption) | (have e_ := (Kd.V_reads' HO0_1.out).1; omega))
                        obtain ⟨ua141_0, uc141_0, rfl, ul141_0, ge141_0⟩ := Kd.FK_slice_open hMe141
                        have hv141_0 := hcc141 0 _ rfl
                        rw [Nat.add_zero, show ((Kd.slice 25 (Kd.slice 3 (Kd.int .i64)))).sz = 1 from rfl, Nat.mul_one] at hv141_0
                        replace hv141_0 := Option.some.inj (hv141_0.symm.trans hx141_0)
                        injection hv141_0 with hva_ hvn_ hvc_
                        rw [hva_] at ge141_0
                        rw [hvc_] at ul141_0
                        have HL141_0 := Aside0.mk (show Kd.V (Kd.slice 3 (Kd.int .i64)) 25 _ w.heap.size _ _ (rd_L2 l0_1 (ji11)) from Kd.V_mk ul141_0 ge141_0)
                        clear hva_ hvn_ hvc_ ge141_0 ul141_0
                        clear hcc141 hce141
                        have HR141_0 := Aside0.mk hi141_0
                        have HC141_0 := Aside0.mk hl141_0
                        clear hi141_0 hl141_0
                        replace p141 := eq_true p141
                        replace q141 := eq_true q141
                        have p142 : 0 ≤ (((rd_T33 (rd_L4 l0_2 a1) a2).f1) : Int) := of_decide_eq_true (by first | (with_reducible assumption) | assumption)
                        have q142 : ((rd_T33 (rd_L4 l0_2 a1) a2).f1) < ((rd_L2 l0_1 (ji11)).length : Int) := of_decide_eq_true (by first | (with_reducible assumption) | assumption)
                        obtain ⟨ad142, A142_0, c142_0, e142, hx142_0, hl142_0, hi142_0⟩ := at_L1 (by repeat (first | (with_reducible exact HR141_0.out) | (with_reducible refine Kd.C_alloc ?_ _) | (with_reducible refine Kd.C_drewN ?_ _) | (with_reducible refine Kd.C_drew ?_) | exact HR141_0.out)) ((rd_T33 (rd_L4 l0_2 a1) a2).f1) p142 q142
                        cases e142
                        obtain ⟨ce142, hce142, hMe142, hcc142⟩ := Kd.V_get HL141_0.out [] ((rd_T33 (rd_L4 l0_2 a1) a2).f1) p142 (by first | exact q142 | exact of_decide_eq_true (by first | (with_reducible assumption) | assumption) | (have e_ := (Kd.V_reads' HL141_0.out).1; omega))
                        obtain ⟨ua142_0, uc142_0, rfl, ul142_0, ge142_0⟩ := Kd.FK_slice_open hMe142
                        have hv142_0 := hcc142 0 _ rfl
                        rw [Nat.add_zero, show ((Kd.slice 3 (Kd.int .i64))).sz = 1 from rfl, Nat.mul_one] at hv142_0
                        replace hv142_0 := Option.some.inj (hv142_0.symm.trans hx142_0)
                        injection hv142_0 with hva_ hvn_ hvc_
                        rw [hva_] at ge142_0
                        rw [hvc_] at ul142_0
                        have HL142_0 := Aside0.mk (show Kd.V (Kd.int .i64) 3 _ w.heap.size _ _ (rd_L1 (rd_L2 l0_1 (ji11)) ((rd_T33 (rd_L4 l0_2 a1) a2).f1)) from Kd.V_mk ul142_0 ge142_0)
                        clear hva_ hvn_ hvc_ ge142_0 ul142_0
                        clear hcc142 hce142
                        have HR142_0 := Aside0.mk hi142_0
                        have HC142_0 := Aside0.mk hl142_0
                        clear hi142_0 hl142_0
                        replace p142 := eq_true p142
                        replace q142 := eq_true q142
                        refine start_ (n := 22) (S := fun w' => w'.cell? ⟨gb135, 0, none⟩ = some (.slice A0_0 l0_0.length c0_0) ∧ w'.cell? ⟨gb135, 1, none⟩ = some (.slice (some ad139) l0_1.length c0_1) ∧ w'.cell? ⟨gb135, 2, none⟩ = some (.slice (some ad136) l0_2.length c0_2) ∧ w'.cell? ⟨gb138, 0, none⟩ = some (.int .i64 ((rd_T33 (rd_L4 l0_2 a1) a2).f0)) ∧ w'.cell? ⟨gb138, 1, none⟩ = some (.int .i64 ((rd_T33 (rd_L4 l0_2 a1) a2).f1)) ∧ w'.cell? (ad139.add (a1).toNat) = some (.slice (some ad140) (rd_L2 l0_1 a1).length c139_0) ∧ w'.cell? (ad140.add (((rd_T33 (rd_L4 l0_2 a1) a2).f0)).toNat) = some (.slice A140_0 (rd_L1 (rd_L2 l0_1 a1) ((rd_T33 (rd_L4 l0_2 a1) a2).f0)).length c140_0) ∧ w'.cell? (ad139.add ((ji11)).toNat) = some (.slice (some ad142) (rd_L2 l0_1 (ji11)).length c141_0) ∧ w'.cell? (ad142.add (((rd_T33 (rd_L4 l0_2 a1) a2).f1)).toNat) = some (.slice A142_0 (rd_L1 (rd_L2 l0_1 (ji11)) ((rd_T33 (rd_L4 l0_2 a1) a2).f1)).length c142_0)) (ds := []) #[false, false, false, false, false, false, false, false, false, false, false, false, false, false, false, false, false, false, false, false, false, false] (by kernel_rfl) rfl rfl ⟨(blk_cell BK135.out 0).trans rfl, (blk_cell BK135.out 1).trans rfl, (blk_cell BK135.out 2).trans rfl, (blk_cell BK138.out 0).trans rfl, (blk_cell BK138.out 1).trans rfl, hx139_0, hx140_0, hx141_0, hx142_0⟩ (fun hHeld => ?_); refine with_tabW drift_lead.tab2 drift_lead.bits2 (fun HT_ HW_ => ?_)
                        generalize w22.drew = w23 at HO0_1 BK135 BK138 HB HL139_0 HL140_0 HL141_0 HL142_0 HR139_0 HR140_0 HR141_0 HR142_0 hx139_0 hx140_0 hx141_0 hx142_0 hHeld ⊢
                        refine pure_ (i := 0) (N := some 16) (v := ?_) (a' := ?_) #[true, false, false, false, false, false, false, false, false, false, false, false, false, false, false, false, false, false, false, false, false, false] rfl rfl (any_of HT_.out (by kernel_rfl)) (fun _ _ _ h => h) (Or.inl ⟨by rfl, ?_⟩) ?_ ?_
                        rotate_left
                        · intro w'
                          go_simp
                          with_reducible rfl
                        rotate_left
                        · simp only [Act.put, List.setIfInBounds_toArray, List.set_cons_zero, List.set_cons_succ, i64_w, i32_w]
                          rfl
                        refine pure_ (i := 2) (N := some 18) (v := ?_) (a' := ?_) #[true, false, true, false, false, false, false, false, false, false, false, false, false, false, false, false, false, false, false, false, false, false] rfl rfl (any_of HT_.out (by kernel_rfl)) (fun _ _ _ h => h) (Or.inl ⟨by rfl, ?_⟩) ?_ ?_
                        rotate_left
                        · intro w'
                          go_simp
                          with_reducible rfl
                        rotate_left
                        · simp only [Act.put, List.setIfInBounds_toArray, List.set_cons_zero, List.set_cons_succ, i64_w, i32_w]
                          rfl
                        refine pure_ (i := 5) (N := some 21) (v := ?_) (a' := ?_) #[true, false, true, false, false, true, false, false, false, false, false, false, false, false, false, false, false, false, false, false, false, false] rfl rfl (any_of HT_.out (by kernel_rfl)) (fun _ _ _ h => h) (Or.inl ⟨by rfl, ?_⟩) ?_ ?_
                        rotate_left
                        · intro w'
                          go_simp
                          with_reducible rfl
                        rotate_left
                        · simp only [Act.put, List.setIfInBounds_toArray, List.set_cons_zero, List.set_cons_succ, i64_w, i32_w]
                          rfl
                        refine pure_ (i := 9) (N := some 25) (v := ?_) (a' := ?_) #[true, false, true, false, false, true, false, false, false, true, false, false, false, false, false, false, false, false, false, false, false, false] rfl rfl (any_of HT_.out (by kernel_rfl)) (fun _ _ _ h => h) (Or.inl ⟨by rfl, ?_⟩) ?_ ?_
                        rotate_left
                        · intro w'
                          go_simp
                          with_reducible rfl
                        rotate_left
                        · simp only [Act.put, List.setIfInBounds_toArray, List.set_cons_zero, List.set_cons_succ, i64_w, i32_w]
                          rfl
                        refine pure_ (i := 11) (N := some 27) (v := ?_) (a' := ?_) #[true, false, true, false, false, true, false, false, false, true, false, true, false, false, false, false, false, false, false, false, false, false] rfl rfl (any_of HT_.out (by kernel_rfl)) (fun _ _ _ h => h) (Or.inl ⟨by rfl, ?_⟩) ?_ ?_
                        rotate_left
                        · intro w'
                          go_simp
                          with_reducible rfl
                        rotate_left
                        · simp only [Act.put, List.setIfInBounds_toArray, List.set_cons_zero, List.set_cons_succ, i64_w, i32_w]
                          rfl
                        refine pure_ (i := 12) (N := some 28) (v := ?_) (a' := ?_) #[true, false, true, false, false, true, false, false, false, true, false, true, true, false, false, false, false, false, false, false, false, false] rfl rfl (any_of HT_.out (by kernel_rfl)) (fun _ _ _ h => h) (Or.inl ⟨by rfl, ?_⟩) ?_ ?_
                        rotate_left
                        · intro w'
                          go_simp
                          with_reducible rfl
                        rotate_left
                        · simp only [Act.put, List.setIfInBounds_toArray, List.set_cons_zero, List.set_cons_succ, i64_w, i32_w]
                          rfl
                        refine pure_ (i := 15) (N := some 31) (v := ?_) (a' := ?_) #[true, false, true, false, false, true, false, false, false, true, false, true, true, false, false, true, false, false, false, false, false, false] rfl rfl (any_of HT_.out (by kernel_rfl)) (fun _ _ _ h => h) (Or.inl ⟨by rfl, ?_⟩) ?_ ?_
                        rotate_left
                        · intro w'
                          go_simp
                          with_reducible rfl
                        rotate_left
                        · simp only [Act.put, List.setIfInBounds_toArray, List.set_cons_zero, List.set_cons_succ, i64_w, i32_w]
                          rfl
                        refine take_ (i := 1) (N := some 17) (v := ?_) (a' := ?_) #[true, true, true, false, false, true, false, false, false, true, false, true, true, false, false, true, false, false, false, false, false, false] rfl rfl (take_ofW HT_.out HW_.out (by kernel_rfl)) (fun _ _ _ h => h) (Or.inl ⟨by rfl, ?_⟩) hHeld ?_ ?_
                        rotate_left
                        · rintro w' ⟨s0, s1, s2, s3, s4, s5, s6, s7, s8⟩
                          go_simp
                          with_reducible rfl
                        rotate_left
                        · simp only [Act.put, List.setIfInBounds_toArray, List.set_cons_zero, List.set_cons_succ, i64_w, i32_w]
                          rfl
                        refine pure_ (i := 3) (N := some 19) (v := ?_) (a' := ?_) #[true, true, true, true, false, true, false, false, false, true, false, true, true, false, false, true, false, false, false, false, false, false] rfl rfl (any_of HT_.out (by kernel_rfl)) (fun _ _ _ h => h) (Or.inl ⟨by rfl, ?_⟩) ?_ ?_
                        rotate_left
                        · intro w'
                          go_simp
                          with_reducible rfl
                        rotate_left
                        · simp only [Act.put, List.setIfInBounds_toArray, List.set_cons_zero, List.set_cons_succ, i64_w, i32_w]
                          rfl
                        refine take_ (i := 4) (N := some 20) (v := ?_) (a' := ?_) #[true, true, true, true, true, true, false, false, false, true, false, true, true, false, false, true, false, false, false, false, false, false] rfl rfl (take_ofW HT_.out HW_.out (by kernel_rfl)) (fun _ _ _ h => h) (Or.inl ⟨by rfl, ?_⟩) hHeld ?_ ?_
                        rotate_left
                        · rintro w' ⟨s0, s1, s2, s3, s4, s5, s6, s7, s8⟩
                          go_simp
                          with_reducible rfl
                        rotate_left
                        · simp only [Act.put, List.setIfInBounds_toArray, List.set_cons_zero, List.set_cons_succ, i64_w, i32_w]
                          rfl
                        refine take_ (i := 6) (N := some 22) (v := ?_) (a' := ?_) #[true, true, true, true, true, true, true, false, false, true, false, true, true, false, false, true, false, false, false, false, false, false] rfl rfl (take_ofW HT_.out HW_.out (by kernel_rfl)) (fun _ _ _ h => h) (Or.inl ⟨by rfl, ?_⟩) hHeld ?_ ?_
                        rotate_left
                        · rintro w' ⟨s0, s1, s2, s3, s4, s5, s6, s7, s8⟩
                          go_simp
                          with_reducible rfl
                        rotate_left
                        · simp only [Act.put, List.setIfInBounds_toArray, List.set_cons_zero, List.set_cons_succ, i64_w, i32_w]
                          rfl
                        refine pure_ (i := 7) (N := some 23) (v := ?_) (a' := ?_) #[true, true, true, true, true, true, true, true, false, true, false, true, true, false, false, true, false, false, false, false, false, false] rfl rfl (any_of HT_.out (by kernel_rfl)) (fun _ _ _ h => h) (Or.inl ⟨by rfl, ?_⟩) ?_ ?_
                        rotate_left
                        · intro w'
                          go_simp
                          with_reducible rfl
                        rotate_left
                        · simp only [Act.put, List.setIfInBounds_toArray, List.set_cons_zero, List.set_cons_succ, i64_w, i32_w]
                          rfl
                        refine take_ (i := 8) (N := some 24) (v := ?_) (a' := ?_) #[true, true, true, true, true, true, true, true, true, true, false, true, true, false, false, true, false, false, false, false, false, false] rfl rfl (take_ofW HT_.out HW_.out (by kernel_rfl)) (fun _ _ _ h => h) (Or.inl ⟨by rfl, ?_⟩) hHeld ?_ ?_
                        rotate_left
                        · rintro w' ⟨s0, s1, s2, s3, s4, s5, s6, s7, s8⟩
                          go_simp
                          with_reducible rfl
                        rotate_left
                        · simp only [Act.put, List.setIfInBounds_toArray, List.set_cons_zero, List.set_cons_succ, i64_w, i32_w]
                          rfl
                        refine take_ (i := 10) (N := some 26) (v := ?_) (a' := ?_) #[true, true, true, true, true, true, true, true, true, true, true, true, true, false, false, true, false, false, false, false, false, false] rfl rfl (take_ofW HT_.out HW_.out (by kernel_rfl)) (fun _ _ _ h => h) (Or.inl ⟨by rfl, ?_⟩) hHeld ?_ ?_
                        rotate_left
                        · rintro w' ⟨s0, s1, s2, s3, s4, s5, s6, s7, s8⟩
                          go_simp
                          with_reducible rfl
                        rotate_left
                        · simp only [Act.put, List.setIfInBounds_toArray, List.set_cons_zero, List.set_cons_succ, i64_w, i32_w]
                          rfl
                        refine pure_ (i := 13) (N := some 29) (v := ?_) (a' := ?_) #[true, true, true, true, true, true, true, true, true, true, true, true, true, true, false, true, false, false, false, false, false, false] rfl rfl (any_of HT_.out (by kernel_rfl)) (fun _ _ _ h => h) (Or.inl ⟨by rfl, ?_⟩) ?_ ?_
                        rotate_left
                        · intro w'
                          go_simp
                          with_reducible rfl
                        rotate_left
                        · simp only [Act.put, List.setIfInBounds_toArray, List.set_cons_zero, List.set_cons_succ, i64_w, i32_w]
                          rfl
                        refine take_ (i := 14) (N := some 30) (v := ?_) (a' := ?_) #[true, true, true, true, true, true, true, true, true, true, true, true, true, true, true, true, false, false, false, false, false, false] rfl rfl (take_ofW HT_.out HW_.out (by kernel_rfl)) (fun _ _ _ h => h) (Or.inl ⟨by rfl, ?_⟩) hHeld ?_ ?_
                        rotate_left
                        · rintro w' ⟨s0, s1, s2, s3, s4, s5, s6, s7, s8⟩
                          go_simp
                          with_reducible rfl
                        rotate_left
                        · simp only [Act.put, List.setIfInBounds_toArray, List.set_cons_zero, List.set_cons_succ, i64_w, i32_w]
                          rfl
                        refine take_ (i := 16) (N := some 32) (v := ?_) (a' := ?_) #[true, true, true, true, true, true, true, true, true, true, true, true, true, true, true, true, true, false, false, false, false, false] rfl rfl (take_ofW HT_.out HW_.out (by kernel_rfl)) (fun _ _ _ h => h) (Or.inl ⟨by rfl, ?_⟩) hHeld ?_ ?_
                        rotate_left
                        · rintro w' ⟨s0, s1, s2, s3, s4, s5, s6, s7, s8⟩
                          go_simp
                          with_reducible rfl
                        rotate_left
                        · simp only [Act.put, List.setIfInBounds_toArray, List.set_cons_zero, List.set_cons_succ, i64_w, i32_w]
                          rfl
                        refine pure_ (i := 17) (N := some 33) (v := ?_) (a' := ?_) #[true, true, true, true, true, true, true, true, true, true, true, true, true, true, true, true, true, true, false, false, false, false] rfl rfl (any_of HT_.out (by kernel_rfl)) (fun _ _ _ h => h) (Or.inl ⟨by rfl, ?_⟩) ?_ ?_
                        rotate_left
                        · intro w'
                          go_simp
                          with_reducible rfl
                        rotate_left
                        · simp only [Act.put, List.setIfInBounds_toArray, List.set_cons_zero, List.set_cons_succ, i64_w, i32_w]
                          rfl
                        refine take_ (i := 18) (N := some 34) (v := ?_) (a' := ?_) #[true, true, true, true, true, true, true, true, true, true, true, true, true, true, true, true, true, true, true, false, false, false] rfl rfl (take_ofW HT_.out HW_.out (by kernel_rfl)) (fun _ _ _ h => h) (Or.inl ⟨by rfl, ?_⟩) hHeld ?_ ?_
                        rotate_left
                        · rintro w' ⟨s0, s1, s2, s3, s4, s5, s6, s7, s8⟩
                          go_simp
                          with_reducible rfl
                        rotate_left
                        · simp only [Act.put, List.setIfInBounds_toArray, List.set_cons_zero, List.set_cons_succ, i64_w, i32_w]
                          rfl
                        refine one_ (i := 19) (N := some 35) #[true, true, true, true, true, true, true, true, true, true, true, true, true, true, true, true, true, true, true, true, false, false] rfl rfl (one_of HT_.out (by kernel_rfl)) (by decide) (fun K hK => ?_)
                        refine Kd.N_lit_step (Kd.slice 3 (Kd.int .i64)) _ 25 ?hg (N' := 35) ?hd (xs := ([rd_L1 (rd_L2 l0_1 a1) ((rd_T33 (rd_L4 l0_2 a1) a2).f0), rd_L1 (rd_L2 l0_1 (ji11)) ((rd_T33 (rd_L4 l0_2 a1) a2).f1)] : List (List Int))) (inner := [.slice A140_0 (rd_L1 (rd_L2 l0_1 a1) ((rd_T33 (rd_L4 l0_2 a1) a2).f0)).length c140_0, .slice A142_0 (rd_L1 (rd_L2 l0_1 (ji11)) ((rd_T33 (rd_L4 l0_2 a1) a2).f1)).length c142_0]) (ok := (fun k_ => (P0_1_ k_ ∨ w.heap.size ≤ k_) ∧ k_ ≠ gb135 ∧ k_ ≠ gb138)) (okp := (fun k_ => (P0_1_ k_ ∨ w.heap.size ≤ k_) ∧ k_ ≠ gb135 ∧ k_ ≠ gb138)) ?hr ?hp (fun _ hk => hk) ((show ∀ k_, w23.heap.size ≤ k_ → (fun k_ => (P0_1_ k_ ∨ w.heap.size ≤ k_) ∧ k_ ≠ gb135 ∧ k_ ≠ gb138) k_ from fun k_ hk => ⟨(.inr (Nat.le_trans (below_size (by repeat (first | (with_reducible first | exact HB.out | apply below_alloc | apply pw_below_drewN | apply below_drew1 | refine below_set ?_ GE135.out | refine below_set ?_ GE138.out) | exact HB.out))) hk)), Kd.freshB (g := gb135) (o := .cells #[.slice A0_0 l0_0.length c0_0, .slice (some ad139) l0_1.length c0_1, .slice (some ad136) l0_2.length c0_2] 30 (0, 0)) (by (with_reducible repeat (first | refine blk_drewN ?_ _ | refine blk_drew ?_ | refine blk_alloc ?_ _)); exact BK135.out) k_ hk, Kd.freshB (g := gb138) (o := .cells #[.int .i64 ((rd_T33 (rd_L4 l0_2 a1) a2).f0), .int .i64 ((rd_T33 (rd_L4 l0_2 a1) a2).f1)] 33 (0, 0)) (by (with_reducible repeat (first | refine blk_drewN ?_ _ | refine blk_drew ?_ | refine blk_alloc ?_ _)); exact BK138.out) k_ hk⟩) _ (Nat.le_refl _)) (Below.refl _ _) (Nat.le_refl _) (by simp) ?_; (case hd => rfl); (case hg => rfl); (case hr => first | (go_simp; done) | (go_simp; rfl)); (case hp => exact (Reps.one (show Kd.FK (Kd.slice 3 (Kd.int .i64)) _ _ (rd_L1 (rd_L2 l0_1 a1) ((rd_T33 (rd_L4 l0_2 a1) a2).f0)) [.slice A140_0 (rd_L1 (rd_L2 l0_1 a1) ((rd_T33 (rd_L4 l0_2 a1) a2).f0)).length c140_0] from (Kd.FK_slice_mk (Kd.V_reads' (Kd.V_mono (ok' := (fun k_ => (P0_1_ k_ ∨ w.heap.size ≤ k_) ∧ k_ ≠ gb135 ∧ k_ ≠ gb138)) (HL140_0.out) (fun k_ hk => ⟨hk.1, ⟨hk.2.1, hk.2.2⟩⟩))).2.1 (Kd.V_F (Kd.V_mono (ok' := (fun k_ => (P0_1_ k_ ∨ w.heap.size ≤ k_) ∧ k_ ≠ gb135 ∧ k_ ≠ gb138)) (HL140_0.out) (fun k_ hk => ⟨hk.1, ⟨hk.2.1, hk.2.2⟩⟩))))) (Reps.one (show Kd.FK (Kd.slice 3 (Kd.int .i64)) _ _ (rd_L1 (rd_L2 l0_1 (ji11)) ((rd_T33 (rd_L4 l0_2 a1) a2).f1)) [.slice A142_0 (rd_L1 (rd_L2 l0_1 (ji11)) ((rd_T33 (rd_L4 l0_2 a1) a2).f1)).length c142_0] from (Kd.FK_slice_mk (Kd.V_reads' (Kd.V_mono (ok' := (fun k_ => (P0_1_ k_ ∨ w.heap.size ≤ k_) ∧ k_ ≠ gb135 ∧ k_ ≠ gb138)) (HL142_0.out) (fun k_ hk => ⟨hk.1, ⟨hk.2.1, hk.2.2⟩⟩))).2.1 (Kd.V_F (Kd.V_mono (ok' := (fun k_ => (P0_1_ k_ ∨ w.heap.size ≤ k_) ∧ k_ ≠ gb135 ∧ k_ ≠ gb138)) (HL142_0.out) (fun k_ hk => ⟨hk.1, ⟨hk.2.1, hk.2.2⟩⟩))))) (Reps.none _ _))))
                        intro v144 w24 ho25 hb hg_ hnew_
                        have HS5_ := (hb.cell (World.block_lt_of_cell? _ _ (hHeld.2.2.2.2.2.1))).trans (hHeld.2.2.2.2.2.1)
                        have HS6_ := (hb.cell (World.block_lt_of_cell? _ _ (hHeld.2.2.2.2.2.2.1))).trans (hHeld.2.2.2.2.2.2.1)
                        have HS7_ := (hb.cell (World.block_lt_of_cell? _ _ (hHeld.2.2.2.2.2.2.2.1))).trans (hHeld.2.2.2.2.2.2.2.1)
                        have HS8_ := (hb.cell (World.block_lt_of_cell? _ _ (hHeld.2.2.2.2.2.2.2.2))).trans (hHeld.2.2.2.2.2.2.2.2)
                        clear hg_ hnew_
                        (first | rw [← Ny143.out] at ho25 | (simp only [Int.reduceToNat] at ho25; rw [← Ny143.out] at ho25))
                        have n0_ := Aside0.mk (Kd.V_elder' (by (with_reducible repeat (first | apply Kd.V_alloc | apply Kd.V_drewN | apply Kd.V_drew)); exact HO0_1.out) (Kd.N_base ho25) hb)
                        have n1_ := Aside0.mk (Kd.V_elder' (by (with_reducible repeat (first | apply Kd.V_alloc | apply Kd.V_drewN | apply Kd.V_drew)); exact HL139_0.out) (Kd.N_base ho25) hb)
                        have n2_ := Aside0.mk (Kd.V_elder' (by (with_reducible repeat (first | apply Kd.V_alloc | apply Kd.V_drewN | apply Kd.V_drew)); exact HL140_0.out) (Kd.N_base ho25) hb)
                        have n3_ := Aside0.mk (Kd.V_elder' (by (with_reducible repeat (first | apply Kd.V_alloc | apply Kd.V_drewN | apply Kd.V_drew)); exact HL141_0.out) (Kd.N_base ho25) hb)
                        have n4_ := Aside0.mk (Kd.V_elder' (by (with_reducible repeat (first | apply Kd.V_alloc | apply Kd.V_drewN | apply Kd.V_drew)); exact HL142_0.out) (Kd.N_base ho25) hb)
                        have n5_ := Aside0.mk (Kd.N_lower ho25 (below_size (by repeat (first | (with_reducible first | exact HB.out | apply below_alloc | apply pw_below_drewN | apply below_drew1 | refine below_set ?_ GE135.out | refine below_set ?_ GE138.out) | exact HB.out))))
                        have n6_ := Aside0.mk (blk_below (g := gb135) (o := .cells #[.slice A0_0 l0_0.length c0_0, .slice (some ad139) l0_1.length c0_1, .slice (some ad136) l0_2.length c0_2] 30 (0, 0)) (by (with_reducible repeat (first | refine blk_drewN ?_ _ | refine blk_drew ?_ | refine blk_alloc ?_ _)); exact BK135.out) hb)
                        have n7_ := Aside0.mk (blk_below (g := gb138) (o := .cells #[.int .i64 ((rd_T33 (rd_L4 l0_2 a1) a2).f0), .int .i64 ((rd_T33 (rd_L4 l0_2 a1) a2).f1)] 33 (0, 0)) (by (with_reducible repeat (first | refine blk_drewN ?_ _ | refine blk_drew ?_ | refine blk_alloc ?_ _)); exact BK138.out) hb)
                        have n8_ := Aside0.mk (Kd.C_below (by repeat (first | (with_reducible exact HR139_0.out) | (with_reducible refine Kd.C_alloc ?_ _) | (with_reducible refine Kd.C_drewN ?_ _) | (with_reducible refine Kd.C_drew ?_) | exact HR139_0.out)) hb)
                        have n9_ := Aside0.mk (Kd.C_below (by repeat (first | (with_reducible exact HR140_0.out) | (with_reducible refine Kd.C_alloc ?_ _) | (with_reducible refine Kd.C_drewN ?_ _) | (with_reducible refine Kd.C_drew ?_) | exact HR140_0.out)) hb)
                        have n10_ := Aside0.mk (Kd.C_below (by repeat (first | (with_reducible exact HR141_0.out) | (with_reducible refine Kd.C_alloc ?_ _) | (with_reducible refine Kd.C_drewN ?_ _) | (with_reducible refine Kd.C_drew ?_) | exact HR141_0.out)) hb)
                        have n11_ := Aside0.mk (Kd.C_below (by repeat (first | (with_reducible exact HR142_0.out) | (with_reducible refine Kd.C_alloc ?_ _) | (with_reducible refine Kd.C_drewN ?_ _) | (with_reducible refine Kd.C_drew ?_) | exact HR142_0.out)) hb)
                        have n12_ := Aside0.mk (below_step (by repeat (first | (with_reducible first | exact HB.out | apply below_alloc | apply pw_below_drewN | apply below_drew1 | refine below_set ?_ GE135.out | refine below_set ?_ GE138.out) | exact HB.out)) hb)
                        clear HO0_1
                        clear HL139_0
                        clear HL140_0
                        clear HL141_0
                        clear HL142_0
                        clear BK135
                        clear BK138
                        clear HR139_0
                        clear HR140_0
                        clear HR141_0
                        clear HR142_0
                        clear HB
                        have HO0_1 := n0_
                        have HL139_0 := n1_
                        have HL140_0 := n2_
                        have HL141_0 := n3_
                        have HL142_0 := n4_
                        have HO145 := n5_
                        have BK135 := n6_
                        have BK138 := n7_
                        have HR139_0 := n8_
                        have HR140_0 := n9_
                        have HR141_0 := n10_
                        have HR142_0 := n11_
                        have HB := n12_
                        clear n0_ n1_ n2_ n3_ n4_ n5_ n6_ n7_ n8_ n9_ n10_ n11_ n12_
                        clear hb ho25
                        obtain ⟨Ao26, co26, eo26⟩ := Kd.N_slice HO145.out
                        (first | subst eo26 | (injection eo26 with f1_ f2_ f3_; have f4_ := f1_.symm; have f5_ := f3_.symm; clear f1_ f2_ f3_; subst f4_; subst f5_))
                        refine hK.out _ _ ⟨(blk_cell BK135.out 0).trans rfl, (blk_cell BK135.out 1).trans rfl, (blk_cell BK135.out 2).trans rfl, (blk_cell BK138.out 0).trans rfl, (blk_cell BK138.out 1).trans rfl, HS5_, HS6_, HS7_, HS8_⟩ (fun hHeld => ?_)
                        clear hK K
                        refine norm_ (a' := ?_) ?_ ?_
                        rotate_left
                        · show Act.put _ (some 35) _ = _
                          simp only [Act.put, List.setIfInBounds_toArray, List.set_cons_zero, List.set_cons_succ, i64_w, i32_w]
                          rfl
                        refine one_ (i := 20) (N := some 36) #[true, true, true, true, true, true, true, true, true, true, true, true, true, true, true, true, true, true, true, true, true, false] rfl rfl (one_of HT_.out (by kernel_rfl)) (by decide) (fun K hK => ?_)
                        refine goes_ Try.func61 (by kernel_rfl) rfl #[.slice Ao26 y143.length co26] (by rfl) rfl rfl (by (try simp only [List.map_toArray, List.map_cons, List.map_nil]); first | done | rfl | (simp only [List.length_drop, List.length_take]; rfl)) ?_
                        with_reducible refine (drift_sum.calls k _ _ y143 t146 _ ?side1 ?side2 A16.out).mono ?_
                        (case side1 => repeat (first | exact (Kd.N_reads' HO145.out).2.2 | (with_reducible refine Kd.C_alloc ?_ _) | (with_reducible refine Kd.C_drewN ?_ _) | (with_reducible refine Kd.C_drew ?_)))
                        (case side2 => exact (Kd.N_reads' HO145.out).2.1)
                        rintro e w27 ⟨v147, rfl, ho0, hb⟩
                        have HS5_ := (hb.cell (World.block_lt_of_cell? _ _ (hHeld.2.2.2.2.2.1))).trans (hHeld.2.2.2.2.2.1)
                        have HS6_ := (hb.cell (World.block_lt_of_cell? _ _ (hHeld.2.2.2.2.2.2.1))).trans (hHeld.2.2.2.2.2.2.1)
                        have HS7_ := (hb.cell (World.block_lt_of_cell? _ _ (hHeld.2.2.2.2.2.2.2.1))).trans (hHeld.2.2.2.2.2.2.2.1)
                        have HS8_ := (hb.cell (World.block_lt_of_cell? _ _ (hHeld.2.2.2.2.2.2.2.2))).trans (hHeld.2.2.2.2.2.2.2.2)
                        refine ⟨_, rfl, ?_⟩
                        have n0_ := Aside0.mk (Kd.V_elder' (by (with_reducible repeat (first | apply Kd.V_alloc | apply Kd.V_drewN | apply Kd.V_drew)); exact HO0_1.out) (Kd.R_base ho0) hb)
                        have n1_ := Aside0.mk (Kd.V_elder' (by (with_reducible repeat (first | apply Kd.V_alloc | apply Kd.V_drewN | apply Kd.V_drew)); exact HL139_0.out) (Kd.R_base ho0) hb)
                        have n2_ := Aside0.mk (Kd.V_elder' (by (with_reducible repeat (first | apply Kd.V_alloc | apply Kd.V_drewN | apply Kd.V_drew)); exact HL140_0.out) (Kd.R_base ho0) hb)
                        have n3_ := Aside0.mk (Kd.V_elder' (by (with_reducible repeat (first | apply Kd.V_alloc | apply Kd.V_drewN | apply Kd.V_drew)); exact HL141_0.out) (Kd.R_base ho0) hb)
                        have n4_ := Aside0.mk (Kd.V_elder' (by (with_reducible repeat (first | apply Kd.V_alloc | apply Kd.V_drewN | apply Kd.V_drew)); exact HL142_0.out) (Kd.R_base ho0) hb)
                        have n5_ := Aside0.mk (Kd.N_elder' (by (with_reducible repeat (first | apply Kd.N_alloc | apply Kd.N_drewN | apply Kd.N_drew)); exact HO145.out) (Kd.R_base ho0) hb)
                        have n6_ := Aside0.mk (Kd.R_lower (Kd.R_newM (M := fun k_ => (w.heap.size ≤ k_)) ho0 (below_size (by repeat (first | (with_reducible first | exact HB.out | apply below_alloc | apply pw_below_drewN | apply below_drew1 | refine below_set ?_ GE135.out | refine below_set ?_ GE138.out) | exact HB.out))) (fun k_ h_ => h_)) (below_size (by repeat (first | (with_reducible first | exact HB.out | apply below_alloc | apply pw_below_drewN | apply below_drew1 | refine below_set ?_ GE135.out | refine below_set ?_ GE138.out) | exact HB.out))))
                        have n7_ := Aside0.mk (blk_below (g := gb135) (o := .cells #[.slice A0_0 l0_0.length c0_0, .slice (some ad139) l0_1.length c0_1, .slice (some ad136) l0_2.length c0_2] 30 (0, 0)) (by (with_reducible repeat (first | refine blk_drewN ?_ _ | refine blk_drew ?_ | refine blk_alloc ?_ _)); exact BK135.out) hb)
                        have n8_ := Aside0.mk (blk_below (g := gb138) (o := .cells #[.int .i64 ((rd_T33 (rd_L4 l0_2 a1) a2).f0), .int .i64 ((rd_T33 (rd_L4 l0_2 a1) a2).f1)] 33 (0, 0)) (by (with_reducible repeat (first | refine blk_drewN ?_ _ | refine blk_drew ?_ | refine blk_alloc ?_ _)); exact BK138.out) hb)
                        have n9_ := Aside0.mk (Kd.C_below (by repeat (first | (with_reducible exact HR139_0.out) | (with_reducible refine Kd.C_alloc ?_ _) | (with_reducible refine Kd.C_drewN ?_ _) | (with_reducible refine Kd.C_drew ?_) | exact HR139_0.out)) hb)
                        have n10_ := Aside0.mk (Kd.C_below (by repeat (first | (with_reducible exact HR140_0.out) | (with_reducible refine Kd.C_alloc ?_ _) | (with_reducible refine Kd.C_drewN ?_ _) | (with_reducible refine Kd.C_drew ?_) | exact HR140_0.out)) hb)
                        have n11_ := Aside0.mk (Kd.C_below (by repeat (first | (with_reducible exact HR141_0.out) | (with_reducible refine Kd.C_alloc ?_ _) | (with_reducible refine Kd.C_drewN ?_ _) | (with_reducible refine Kd.C_drew ?_) | exact HR141_0.out)) hb)
                        have n12_ := Aside0.mk (Kd.C_below (by repeat (first | (with_reducible exact HR142_0.out) | (with_reducible refine Kd.C_alloc ?_ _) | (with_reducible refine Kd.C_drewN ?_ _) | (with_reducible refine Kd.C_drew ?_) | exact HR142_0.out)) hb)
                        have n13_ := Aside0.mk (below_step (by repeat (first | (with_reducible first | exact HB.out | apply below_alloc | apply pw_below_drewN | apply below_drew1 | refine below_set ?_ GE135.out | refine below_set ?_ GE138.out) | exact HB.out)) hb)
                        clear HO0_1
                        clear HL139_0
                        clear HL140_0
                        clear HL141_0
                        clear HL142_0
                        clear HO145
                        clear BK135
                        clear BK138
                        clear HR139_0
                        clear HR140_0
                        clear HR141_0
                        clear HR142_0
                        clear HB
                        have HO0_1 := n0_
                        have HL139_0 := n1_
                        have HL140_0 := n2_
                        have HL141_0 := n3_
                        have HL142_0 := n4_
                        have HO145 := n5_
                        have HO148 := n6_
                        have BK135 := n7_
                        have BK138 := n8_
                        have HR139_0 := n9_
                        have HR140_0 := n10_
                        have HR141_0 := n11_
                        have HR142_0 := n12_
                        have HB := n13_
                        clear n0_ n1_ n2_ n3_ n4_ n5_ n6_ n7_ n8_ n9_ n10_ n11_ n12_ n13_
                        (try clear hb)
                        (try clear hb2)
                        (try clear hk)
                        (try clear hi)
                        (try clear ho0)
                        refine hK.out _ _ ⟨(blk_cell BK135.out 0).trans rfl, (blk_cell BK135.out 1).trans rfl, (blk_cell BK135.out 2).trans rfl, (blk_cell BK138.out 0).trans rfl, (blk_cell BK138.out 1).trans rfl, HS5_, HS6_, HS7_, HS8_⟩ (fun hHeld => ?_)
                        clear hK K
                        refine norm_ (a' := ?_) ?_ ?_
                        rotate_left
                        · show Act.put _ (some 36) _ = _
                          simp only [Act.put, List.setIfInBounds_toArray, List.set_cons_zero, List.set_cons_succ, i64_w, i32_w]
                          rfl
                        refine pure_ (i := 21) (N := some 6) (v := ?_) (a' := ?_) #[true, true, true, true, true, true, true, true, true, true, true, true, true, true, true, true, true, true, true, true, true, true] rfl rfl (any_of HT_.out (by kernel_rfl)) (fun _ _ _ h => h) (Or.inl ⟨by rfl, ?_⟩) ?_ ?_
                        rotate_left
                        · intro w'
                          go_simp
                          with_reducible rfl
                        rotate_left
                        · simp only [Act.put, List.setIfInBounds_toArray, List.set_cons_zero, List.set_cons_succ, i64_w, i32_w]
                          rfl
                        refine done_ (done_of HT_.out (by kernel_rfl)) ?_
                        try go_wp2
                        go_ret
                        exact ⟨_, by first | rfl | (simp [errW_none, errW_some] <;> rfl) | (simp only [← hji11]; first | rfl | (simp [errW_none, errW_some] <;> rfl)) | (simp [*, errW_none, errW_some] <;> rfl), by (with_reducible repeat (first | apply Kd.R_alloc | apply Kd.R_drewN | apply Kd.R_drew)); exact Kd.R_mono HO148.out (fun _ hk => hk.1), by repeat (first | (with_reducible first | exact HB.out | apply below_alloc | apply pw_below_drewN | apply below_drew1 | refine below_set ?_ GE135.out | refine below_set ?_ GE138.out) | exact HB.out)⟩
                      · rw [if_neg c15] at H
                        exact absurd H (by simp)
                    · rw [if_neg c14] at H
                      exact absurd H (by simp)
                  · rw [if_neg c13] at H
                    exact absurd H (by simp)
                · rw [if_neg c12] at H
                  exact absurd H (by simp)
              · rw [if_neg c10] at H
                exact absurd H (by simp)
            · rw [if_neg c9] at H
              exact absurd H (by simp)
          · rw [if_neg c8] at H
            exact absurd H (by simp)
        · rw [if_neg c7] at H
          exact absurd H (by simp)
      · rw [if_neg c6] at H
        exact absurd H (by simp)
    · rw [if_neg c5] at H
      exact absurd H (by simp)
  · rw [if_neg c4] at H
    exact absurd H (by simp)
theorem drift_lead.calls (k : Nat) (A0_0 : Option Addr) (c0_0 : Nat) (l0_0 : List Int) (A0_1 : Option Addr) (c0_1 : Nat) (l0_1 : List (List (List Int))) (A0_2 : Option Addr) (c0_2 : Nat) (l0_2 : List (List (S33))) (a1 : Int) (a2 : Int) (r : List Int) (w : World) (hr0_0 : Kd.C (Kd.int .i64) w A0_0 l0_0.length l0_0) (hc0_0 : l0_0.length ≤ c0_0) (hr0_1 : Kd.C (Kd.slice 25 (Kd.slice 3 (Kd.int .i64))) w A0_1 l0_1.length l0_1) (hc0_1 : l0_1.length ≤ c0_1) (hr0_2 : Kd.C (Kd.slice 33 k33) w A0_2 l0_2.length l0_2) (hc0_2 : l0_2.length ≤ c0_2) (h : drift_lead.f k l0_0 l0_1 l0_2 a1 a2 = some r) :
    Calls Try.prog 59 #[.agg #[.slice A0_0 l0_0.length c0_0, .slice A0_1 l0_1.length c0_1, .slice A0_2 l0_2.length c0_2], .int .i64 a1, .int .i64 a2] w fun e w' => ∃ v0_ : Value, e = .returned (v0_) ∧ Kd.R (Kd.int .i64) 3 w' w.heap.size (fun _ => True) v0_ r ∧ Below w.heap.size w w' :=
  (drift_lead.calls0 k A0_0 c0_0 l0_0 (fun k => k < w.heap.size) A0_1 c0_1 l0_1 A0_2 c0_2 l0_2 a1 a2 r w hr0_0 hc0_0 ⟨A0_1, c0_1, rfl, hc0_1, Kd.C_F (Kd.heap_slice 25 (Kd.heap_slice 3 (Kd.heap_int .i64))) hr0_1⟩ hr0_2 hc0_2 h).mono fun _ _ ⟨v, he, hR, hB⟩ => ⟨v, he, Kd.R_mono hR (fun _ _ => trivial), hB⟩
end Go.Proofs.Ytdcpmggjhmdmmaa.X

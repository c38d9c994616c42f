-- what is used of it (wip/tools/slim.py)
/- Repeat (function 21): the rows that roots and drift return lie in blocks of their own, not frozen. -/
import Derived.Test.YtdcpmggjhmdmmaaTDPlan
import Derived.Test.YtdcpmggjhmdmmaaTDLib
import Derived.Lib.Hide
namespace Go.Proofs.Ytdcpmggjhmdmmaa.X
open Go.RowKit Go.Proofs.YtdcpmggjhmdmmaaW.PrintWords Go.Proofs.YtdcpmggjhmdmmaaW.PrintLast Go.Proofs.YtdcpmggjhmdmmaaW.PrintMore
attribute [local go_sem] max2_int min2_int max_two min_two max_three min_three max_four min_four   -- for this text's walks alone
set_option linter.unusedVariables false
set_option linter.unusedSimpArgs false
/-- a row of ints in a block of its own -/
def dT : Kd (List Int) where
  sz := 1
  E := [3]
  K := fun w xs cs => ∃ A c, cs = [.slice A xs.length c] ∧ xs.length ≤ c ∧ (Kd.int .i64).C w A xs.length xs ∧ (0 < xs.length → ∃ g cells, A = some ⟨g, 0, none⟩ ∧ w.heap[g]? = some (.cells cells 3 (0, 0)))
  M := fun _ _ _ _ _ => False
  K_len := by
    rintro w x cs ⟨A, c, rfl, _⟩
    rfl
  K_one := by
    rintro w x cs ⟨A, c, rfl, _⟩ u hu
    rw [List.mem_singleton.1 hu]
    rfl
  K_below := by
    rintro w w1 x cs hb ⟨A, c, rfl, hl, hr, ht⟩
    refine ⟨A, c, rfl, hl, Kd.C_below hr hb, fun h0 => ?_⟩
    obtain ⟨g, cells, hA, hg⟩ := ht h0
    exact ⟨g, cells, hA, (hb.block g (Array.getElem?_eq_some_iff.1 hg).1).trans hg⟩
  K_of_M := fun h => h.elim
  M_mono := fun _ h => h.elim
  M_bound := fun h => h.elim
  M_move := fun _ h => h.elim
  M_lower := fun _ h => h.elim
theorem K_of_T {w : World} {x : List Int} {c : List Value} (h : dT.K w x c) : (Kd.slice 3 (Kd.int .i64)).K w x c := by
  obtain ⟨A, cc, h1, h2, h3, _⟩ := h
  exact ⟨A, cc, h1, h2, h3⟩
theorem FK_of_T {W : World} {ok : Nat → Prop} {x : List Int} {c : List Value} (h : Kd.FK dT W ok x c) : Kd.FK (Kd.slice 3 (Kd.int .i64)) W ok x c := fun W' hW => K_of_T (h W' hW)
theorem C_of_T {W : World} {A : Option Addr} {n : Nat} {xs : List (List Int)} (h : dT.C W A n xs) : (Kd.slice 3 (Kd.int .i64)).C W A n xs := by
  refine ⟨h.1, h.2.1, fun hn => ?_⟩
  obtain ⟨ad, hA, hel⟩ := h.2.2 hn
  refine ⟨ad, hA, fun j x hj => ?_⟩
  obtain ⟨c, hl, hK, hc⟩ := hel j x hj
  exact ⟨c, hl, K_of_T hK, hc⟩
theorem FKT_mk {W : World} {base : Nat} {ok : Nat → Prop} {A : Option Addr} {n c : Nat} {xs : List Int} (h : Kd.R (Kd.int .i64) 3 W base ok (.slice A n c) xs) : Kd.FK dT W ok xs [.slice A xs.length c] := by
  obtain ⟨hn, hc, hC⟩ := Kd.R_reads' h
  subst hn
  have hF := Kd.R_F h
  have ht := Kd.R_typed h
  have h0 := h.1
  have hl := Kd.R_lt h
  intro W' hW'
  refine ⟨A, c, rfl, hc, hF W' hW', fun hp => ?_⟩
  obtain ⟨g, cap, e, -⟩ := Kd.R_form h hp
  injection e with e1 e2 e3
  subst e1
  obtain ⟨cells, hg⟩ := ht g rfl
  exact ⟨g, cells, rfl, (hW' g (h0 g rfl) (hl g rfl)).trans hg⟩
set_option maxHeartbeats 8000000 in
set_option maxRecDepth 100000 in
theorem drift_roots.callsT (k : Nat) (A0_0 : Option Addr) (c0_0 : Nat) (l0_0 : List Int) (A0_1 : Option Addr) (c0_1 : Nat) (l0_1 : List (List (List Int))) (A0_2 : Option Addr) (c0_2 : Nat) (l0_2 : List (List (S33))) (r : List (List Int)) (w : World) (hr0_0 : Kd.C (Kd.int .i64) w A0_0 l0_0.length l0_0) (hc0_0 : l0_0.length ≤ c0_0) (hr0_1 : Kd.C (Kd.slice 25 (Kd.slice 3 (Kd.int .i64))) w A0_1 l0_1.length l0_1) (hc0_1 : l0_1.length ≤ c0_1) (hr0_2 : Kd.C (Kd.slice 33 k33) w A0_2 l0_2.length l0_2) (hc0_2 : l0_2.length ≤ c0_2) (h : drift_roots.f k l0_0 l0_1 l0_2 = some r) :
    Calls Try.prog 31 #[.agg #[.slice A0_0 l0_0.length c0_0, .slice A0_1 l0_1.length c0_1, .slice A0_2 l0_2.length c0_2]] w fun e w' => ∃ v0_ : Value, e = .returned (v0_) ∧ Kd.N dT 25 w' w.heap.size (fun k_ => (w.heap.size ≤ k_)) v0_ r ∧ Below w.heap.size w w' := by
  have hu30 := Try.underlying30
  have HR0_0 := Aside0.mk hr0_0
  have HC0_0 := Aside0.mk hc0_0
  clear hr0_0 hc0_0
  have HR0_1 := Aside0.mk hr0_1
  have HC0_1 := Aside0.mk hc0_1
  clear hr0_1 hc0_1
  have HR0_2 := Aside0.mk hr0_2
  have HC0_2 := Aside0.mk hc0_2
  clear hr0_2 hc0_2
  have HB := Aside0.mk (Below.refl w.heap.size w)
  have H : (if 0 ≤ (l0_0.length : Int) then (if ((l0_0.length : Int) : Int).toNat ≤ 35184372088832 then (drift_roots.l0 k (([(List.replicate ((l0_0.length : Int) : Int).toNat 0)] : List (List Int))) (l0_2.length : Int) 0 l0_0 l0_1 l0_2) else (none)) else (none)) = some r := h
  clear h
  by_cases c2 : 0 ≤ (l0_0.length : Int)
  · rw [if_pos c2] at H
    have c2b0 := eq_true c2
    have c2b1 : decide (0 ≤ (l0_0.length : Int)) = true := decide_eq_true c2
    clear c2
    by_cases c3 : ((l0_0.length : Int) : Int).toNat ≤ 35184372088832
    · rw [if_pos c3] at H
      have c3b0 := eq_true c3
      have c3b1 : decide (((l0_0.length : Int) : Int).toNat ≤ 35184372088832) = true := decide_eq_true c3
      clear c3
      obtain ⟨y150, hy150⟩ : ∃ y_ : List Int, y_ = (List.replicate ((l0_0.length : Int) : Int).toNat 0) := ⟨_, rfl⟩
      replace H : (drift_roots.l0 k (([y150] : List (List Int))) (l0_2.length : Int) 0 l0_0 l0_1 l0_2) = some r := by first | (rw [hy150]; with_reducible exact H) | (have H2_ := (Option.bind_some _ _).symm.trans H; rw [hy150]; with_reducible exact H2_) | (have H2_ := (Option.bind_some _ _).symm.trans H; with_reducible exact H2_) | with_reducible exact H | (rw [hy150]; exact H) | exact H
      have Ny150 := Aside0.mk hy150
      clear hy150
      obtain ⟨y153, hy153⟩ : ∃ y_ : List (List Int), y_ = (([y150] : List (List Int))) := ⟨_, rfl⟩
      replace H : (drift_roots.l0 k y153 (l0_2.length : Int) 0 l0_0 l0_1 l0_2) = some r := by first | (rw [hy153]; with_reducible exact H) | (have H2_ := (Option.bind_some _ _).symm.trans H; rw [hy153]; with_reducible exact H2_) | (have H2_ := (Option.bind_some _ _).symm.trans H; with_reducible exact H2_) | with_reducible exact H | (rw [hy153]; exact H) | exact H
      have Ny153 := Aside0.mk hy153
      clear hy153
      have H' := Aside0.mk H
      clear H
      go_enter Try.func31, Try.ntmps31
      go_wp2_with (first | ((with_reducible refine gate_dst (N := 1) rfl ?_); refine box_event ?hg (N := 1) ?hd (cs := #[.slice A0_0 l0_0.length c0_0, .slice A0_1 l0_1.length c0_1, .slice A0_2 l0_2.length c0_2]) (t := 30) ?hr ?_; (case hd => rfl); (case hg => rfl); (case hr => first | (go_simp; done) | (go_simp; rfl)); intro gb149 hg w4 hbox hb; have n0_ := Aside0.mk (below_step (by repeat (first | (with_reducible first | exact HB.out | apply below_alloc | apply pw_below_drewN | apply below_drew1) | exact HB.out)) hb); have n1_ := Aside0.mk (hbox); have n2_ := Aside0.mk ((by rw [hg]; exact (below_size (by repeat (first | (with_reducible first | exact HB.out | apply below_alloc | apply pw_below_drewN | apply below_drew1) | exact HB.out))) : w.heap.size ≤ gb149)); have n3_ := Aside0.mk ((by rw [hg]; exact (below_size (by repeat (first | (with_reducible first | exact HB.out | apply below_alloc | apply pw_below_drewN | apply below_drew1) | exact HB.out))) : w.heap.size ≤ gb149)); clear HB; have HB := n0_; have BK149 := n1_; have GW149 := n2_; have GE149 := n3_; clear n0_ n1_ n2_ n3_; clear hb hbox hg; have hcz5_0 : w4.cell? ⟨gb149, 0, none⟩ = some (.slice A0_0 l0_0.length c0_0) := (blk_cell BK149.out 0).trans rfl; have hcz5_1 : w4.cell? ⟨gb149, 1, none⟩ = some (.slice A0_1 l0_1.length c0_1) := (blk_cell BK149.out 1).trans rfl; have hcz5_2 : w4.cell? ⟨gb149, 2, none⟩ = some (.slice A0_2 l0_2.length c0_2) := (blk_cell BK149.out 2).trans rfl; have hfz5_0 := blk_frozen BK149.out 0; have hfz5_1 := blk_frozen BK149.out 1; have hfz5_2 := blk_frozen BK149.out 2) | ((with_reducible refine gate_dst (N := 11) rfl ?_); refine Kd.R_make (Kd.int .i64) _ 3 rfl (N := 11) rfl 25 _ _ rfl (l0_0.length : Int) rfl rfl Try.underlying25 (.int .i64 0) 8 info3 rfl (by decide) (by omega) 0 (ok := fun _ => True) (okp := fun _ => True) rfl (fun _ hk => hk) trivial (of_decide_eq_true (by first | (with_reducible assumption) | assumption)) (Nat.le_trans (Nat.mul_le_mul_right _ (of_decide_eq_true (by first | (with_reducible assumption) | assumption) : (l0_0.length : Int).toNat ≤ 35184372088832)) (by omega)) (Below.refl _ _) (Nat.le_refl _) ?_; intro v151 w6 ho7 hb hg_ hnew_; clear hg_ hnew_; (first | rw [← Ny150.out] at ho7 | (simp only [Int.reduceToNat] at ho7; rw [← Ny150.out] at ho7)); have n0_ := Aside0.mk (Kd.R_lower (Kd.R_newM (M := fun k_ => (w.heap.size ≤ k_)) ho7 (below_size (by repeat (first | (with_reducible first | exact HB.out | apply below_alloc | apply pw_below_drewN | apply below_drew1 | refine below_set ?_ GE149.out) | exact HB.out))) (fun k_ h_ => h_)) (below_size (by repeat (first | (with_reducible first | exact HB.out | apply below_alloc | apply pw_below_drewN | apply below_drew1 | refine below_set ?_ GE149.out) | exact HB.out)))); have n1_ := Aside0.mk (blk_below (g := gb149) (o := .cells #[.slice A0_0 l0_0.length c0_0, .slice A0_1 l0_1.length c0_1, .slice A0_2 l0_2.length c0_2] 30 (0, 0)) (by (with_reducible repeat (first | refine blk_drewN ?_ _ | refine blk_drew ?_ | refine blk_alloc ?_ _)); exact BK149.out) hb); have n2_ := Aside0.mk (below_step (by repeat (first | (with_reducible first | exact HB.out | apply below_alloc | apply pw_below_drewN | apply below_drew1 | refine below_set ?_ GE149.out) | exact HB.out)) hb); clear BK149; clear HB; have HO152 := n0_; have BK149 := n1_; have HB := n2_; clear n0_ n1_ n2_; clear hb ho7; obtain ⟨Ao8, co8, eo8⟩ := Kd.R_slice HO152.out; subst eo8) | ((with_reducible refine gate_dst (N := 12) rfl ?_); refine Kd.N_lit dT _ 25 ?hg (N' := 12) ?hd (xs := ([y150] : List (List Int))) (inner := [.slice Ao8 y150.length co8]) (ok := (fun k_ => (w.heap.size ≤ k_) ∧ k_ ≠ gb149)) (okp := (fun k_ => (w.heap.size ≤ k_) ∧ k_ ≠ gb149)) ?hr ?hp (fun _ hk => hk) ((show ∀ k_, w6.heap.size ≤ k_ → (fun k_ => (w.heap.size ≤ k_) ∧ k_ ≠ gb149) k_ from fun k_ hk => ⟨(Nat.le_trans (below_size (by repeat (first | (with_reducible first | exact HB.out | apply below_alloc | apply pw_below_drewN | apply below_drew1 | refine below_set ?_ GE149.out) | exact HB.out))) hk), Kd.freshB (g := gb149) (o := .cells #[.slice A0_0 l0_0.length c0_0, .slice A0_1 l0_1.length c0_1, .slice A0_2 l0_2.length c0_2] 30 (0, 0)) (by (with_reducible repeat (first | refine blk_drewN ?_ _ | refine blk_drew ?_ | refine blk_alloc ?_ _)); exact BK149.out) k_ hk⟩) _ (Nat.le_refl _)) (Below.refl _ _) (Nat.le_refl _) (by simp) ?_; (case hd => rfl); (case hg => rfl); (case hr => first | (go_simp; done) | (go_simp; rfl)); (case hp => exact (Reps.one (show Kd.FK dT _ _ y150 [.slice Ao8 y150.length co8] from (FKT_mk (Kd.R_mono (ok' := (fun k_ => (w.heap.size ≤ k_) ∧ k_ ≠ gb149)) (Kd.R_types (HO152.out) BK149.out (by decide)) (fun k_ hk => ⟨hk.1.1, hk.2⟩)))) (Reps.none _ _))); intro v154 w9 ho10 hb hg_ hnew_; clear hg_ hnew_; (first | rw [← Ny153.out] at ho10 | (simp only [Int.reduceToNat] at ho10; rw [← Ny153.out] at ho10)); have n0_ := Aside0.mk (Kd.N_lower ho10 (below_size (by repeat (first | (with_reducible first | exact HB.out | apply below_alloc | apply pw_below_drewN | apply below_drew1 | refine below_set ?_ GE149.out) | exact HB.out)))); have n1_ := Aside0.mk (blk_below (g := gb149) (o := .cells #[.slice A0_0 l0_0.length c0_0, .slice A0_1 l0_1.length c0_1, .slice A0_2 l0_2.length c0_2] 30 (0, 0)) (by (with_reducible repeat (first | refine blk_drewN ?_ _ | refine blk_drew ?_ | refine blk_alloc ?_ _)); exact BK149.out) hb); have n2_ := Aside0.mk (below_step (by repeat (first | (with_reducible first | exact HB.out | apply below_alloc | apply pw_below_drewN | apply below_drew1 | refine below_set ?_ GE149.out) | exact HB.out)) hb); clear BK149; clear HB; clear HO152; have HO155 := n0_; have BK149 := n1_; have HB := n2_; clear n0_ n1_ n2_; clear hb ho10; have hcz11_0 : w9.cell? ⟨gb149, 0, none⟩ = some (.slice A0_0 l0_0.length c0_0) := (blk_cell BK149.out 0).trans rfl; have hcz11_1 : w9.cell? ⟨gb149, 1, none⟩ = some (.slice A0_1 l0_1.length c0_1) := (blk_cell BK149.out 1).trans rfl; have hcz11_2 : w9.cell? ⟨gb149, 2, none⟩ = some (.slice A0_2 l0_2.length c0_2) := (blk_cell BK149.out 2).trans rfl; have hfz11_0 := blk_frozen BK149.out 0; have hfz11_1 := blk_frozen BK149.out 1; have hfz11_2 := blk_frozen BK149.out 2))
      go_loopg [3, 16] k (fun kq v3 v16 w' => ∃ (x3_1 : List (List Int)) (x16_1 : Int), v16 = .int .i64 x16_1 ∧ Aside0 (drift_roots.l0 kq x3_1 (l0_2.length : Int) x16_1 l0_0 l0_1 l0_2 = some r) ∧ Aside0 (kq ≤ k) ∧ Aside0 (Kd.N dT 25 w' w.heap.size (fun k_ => (w.heap.size ≤ k_) ∧ k_ ≠ gb149) v3 x3_1) ∧ Aside0 (w'.heap[gb149]? = some (.cells #[(.slice A0_0 l0_0.length c0_0), (.slice A0_1 l0_1.length c0_1), (.slice A0_2 l0_2.length c0_2)] 30 (0, 0))) ∧ Aside0 (Below w.heap.size w w'))
      case atStart => exact ⟨(y153), (0), (by first | rfl | (simp; done) | (simp [*]; done)), H', ⟨Nat.le_refl _⟩, ⟨by (with_reducible repeat (first | apply Kd.N_alloc | apply Kd.N_drewN | apply Kd.N_drew)); exact HO155.out⟩, ⟨by (with_reducible repeat (first | refine blk_drewN ?_ _ | refine blk_drew ?_ | refine blk_alloc ?_ _)); exact BK149.out⟩, ⟨by repeat (first | (with_reducible first | exact HB.out | apply below_alloc | apply pw_below_drewN | apply below_drew1 | refine below_set ?_ GE149.out) | exact HB.out)⟩⟩
      case round =>
        clear H'
        try clear c2
        try clear c2b0
        try clear c2b1
        try clear p2
        try clear c3
        try clear c3b0
        try clear c3b1
        try clear hcz11_0
        try clear hcz11_1
        try clear hcz11_2
        try clear hcz5_0
        try clear hcz5_1
        try clear hcz5_2
        try clear hfz11_0
        try clear hfz11_1
        try clear hfz11_2
        try clear hfz5_0
        try clear hfz5_1
        try clear hfz5_2
        obtain ⟨x3_1, x16_1, rfl, HA, HK1, HO_3, BK149, HB⟩ := hrel
        cases gk with
        | zero => exact absurd HA.out (by simp [drift_roots.l0])
        | succ k1 =>
          have H := HA.out
          clear HA
          simp only [drift_roots.l0] at H
          by_cases c12 : x16_1 < (l0_2.length : Int)
          · rw [if_pos c12] at H
            have c12b0 : decide (x16_1 < (l0_2.length : Int)) = true := decide_eq_true c12
            clear c12
            by_cases c13 : 0 ≤ x16_1
            · rw [if_pos c13] at H
              have c13b0 : decide (0 ≤ x16_1) = true := decide_eq_true c13
              clear c13
              by_cases c14 : x16_1 < (x3_1.length : Int)
              · rw [if_pos c14] at H
                have c14b0 : decide (x16_1 < (x3_1.length : Int)) = true := decide_eq_true c14
                clear c14
                replace H := Option.bind_eq_some_iff.mp H
                obtain ⟨t157, A150, H⟩ := H
                replace H : ((drift_lead.f k1 l0_0 l0_1 l0_2 x16_1 0).bind fun t160 => (drift_roots.l1 k1 x3_1 t157 (l0_2.length : Int) x16_1 t160 (t160.length : Int) 0 l0_0 l0_1 l0_2)) = some r := H
                have A15 := Aside0.mk A150
                clear A150
                replace H := Option.bind_eq_some_iff.mp H
                obtain ⟨t160, A160, H⟩ := H
                replace H : (drift_roots.l1 k1 x3_1 t157 (l0_2.length : Int) x16_1 t160 (t160.length : Int) 0 l0_0 l0_1 l0_2) = some r := H
                have A16 := Aside0.mk A160
                clear A160
                have H' := Aside0.mk H
                clear H
                obtain ⟨Ao17, co17, eo17⟩ := Kd.N_slice HO_3.out
                subst eo17
                have p156 : 0 ≤ (x16_1 : Int) := of_decide_eq_true (by first | (with_reducible assumption) | assumption)
                have q156 : x16_1 < (x3_1.length : Int) := of_decide_eq_true (by first | (with_reducible assumption) | assumption)
                obtain ⟨ad156, A156_0, c156_0, e156, hx156_0, hl156_0, hi156_0⟩ := at_L1 (C_of_T (Kd.N_reads' HO_3.out).2.2) x16_1 p156 q156
                cases e156
                obtain ⟨ce156, hce156, hMe156, hcc156⟩ := Kd.N_get HO_3.out [] x16_1 p156 (by first | exact q156 | exact of_decide_eq_true (by first | (with_reducible assumption) | assumption) | (have e_ := (Kd.N_reads' HO_3.out).1; omega))
                obtain ⟨ua156_0, uc156_0, rfl, ul156_0, ge156_0⟩ := Kd.FK_slice_open (FK_of_T hMe156)
                have hv156_0 := hcc156 0 _ rfl
                rw [Nat.add_zero, show (dT).sz = 1 from rfl, Nat.mul_one] at hv156_0
                replace hv156_0 := Option.some.inj (hv156_0.symm.trans hx156_0)
                injection hv156_0 with hva_ hvn_ hvc_
                rw [hva_] at ge156_0
                rw [hvc_] at ul156_0
                have HL156_0 := Aside0.mk (show Kd.V (Kd.int .i64) 3 _ w.heap.size _ _ (rd_L1 x3_1 x16_1) from Kd.V_mk ul156_0 ge156_0)
                clear hva_ hvn_ hvc_ ge156_0 ul156_0
                clear hcc156 hce156
                have HR156_0 := Aside0.mk hi156_0
                have HC156_0 := Aside0.mk hl156_0
                clear hi156_0 hl156_0
                replace p156 := eq_true p156
                replace q156 := eq_true q156
                go_wp2_with (first | ((with_reducible refine gate_callee (f := 58) rfl ?_); refine goesL_ (some 23) rfl rfl Try.func58 (by kernel_rfl) rfl #[.slice A156_0 (rd_L1 x3_1 x16_1).length c156_0] rfl (by (try simp only [List.map_toArray, List.map_cons, List.map_nil]); first | done | rfl | (simp only [List.length_drop, List.length_take]; rfl)) ?_; (with_reducible refine (api_Row_int_58.calls _ _ (rd_L1 x3_1 x16_1) t157 _ ?side1 ?side2 A15.out).mono ?_); (case side1 => repeat (first | exact (by repeat (first | (with_reducible exact HR156_0.out) | (with_reducible refine Kd.C_alloc ?_ _) | (with_reducible refine Kd.C_drewN ?_ _) | (with_reducible refine Kd.C_drew ?_) | exact HR156_0.out)) | (with_reducible refine Kd.C_alloc ?_ _) | (with_reducible refine Kd.C_drewN ?_ _) | (with_reducible refine Kd.C_drew ?_))); (case side2 => exact HC156_0.out); rintro e w18 ⟨v158, rfl, ho0, hb⟩; refine ⟨_, rfl, ?_⟩; have n0_ := Aside0.mk (Kd.N_elder' (by (with_reducible repeat (first | apply Kd.N_alloc | apply Kd.N_drewN | apply Kd.N_drew)); exact HO_3.out) (Kd.R_base ho0) hb); have n1_ := Aside0.mk (Kd.V_elder' (by (with_reducible repeat (first | apply Kd.V_alloc | apply Kd.V_drewN | apply Kd.V_drew)); exact HL156_0.out) (Kd.R_base ho0) hb); have n2_ := Aside0.mk (Kd.R_lower (Kd.R_newM (M := fun k_ => (w.heap.size ≤ k_)) ho0 (below_size (by repeat (first | (with_reducible first | exact HB.out | apply below_alloc | apply pw_below_drewN | apply below_drew1 | refine below_set ?_ GE149.out) | exact HB.out))) (fun k_ h_ => h_)) (below_size (by repeat (first | (with_reducible first | exact HB.out | apply below_alloc | apply pw_below_drewN | apply below_drew1 | refine below_set ?_ GE149.out) | exact HB.out)))); have n3_ := Aside0.mk (blk_below (g := gb149) (o := .cells #[.slice A0_0 l0_0.length c0_0, .slice A0_1 l0_1.length c0_1, .slice A0_2 l0_2.length c0_2] 30 (0, 0)) (by (with_reducible repeat (first | refine blk_drewN ?_ _ | refine blk_drew ?_ | refine blk_alloc ?_ _)); exact BK149.out) hb); have n4_ := Aside0.mk (Kd.C_below (by repeat (first | (with_reducible exact HR156_0.out) | (with_reducible refine Kd.C_alloc ?_ _) | (with_reducible refine Kd.C_drewN ?_ _) | (with_reducible refine Kd.C_drew ?_) | exact HR156_0.out)) hb); have n5_ := Aside0.mk (below_step (by repeat (first | (with_reducible first | exact HB.out | apply below_alloc | apply pw_below_drewN | apply below_drew1 | refine below_set ?_ GE149.out) | exact HB.out)) hb); clear HO_3; clear HL156_0; clear BK149; clear HR156_0; clear HB; have HO_3 := n0_; have HL156_0 := n1_; have HO159 := n2_; have BK149 := n3_; have HR156_0 := n4_; have HB := n5_; clear n0_ n1_ n2_ n3_ n4_ n5_; (try clear hb); (try clear hb2); (try clear hk); (try clear hi); (try clear ho0); have hcz19_0 : w18.cell? ⟨gb149, 0, none⟩ = some (.slice A0_0 l0_0.length c0_0) := (blk_cell BK149.out 0).trans rfl; have hcz19_1 : w18.cell? ⟨gb149, 1, none⟩ = some (.slice A0_1 l0_1.length c0_1) := (blk_cell BK149.out 1).trans rfl; have hcz19_2 : w18.cell? ⟨gb149, 2, none⟩ = some (.slice A0_2 l0_2.length c0_2) := (blk_cell BK149.out 2).trans rfl; have hfz19_0 := blk_frozen BK149.out 0; have hfz19_1 := blk_frozen BK149.out 1; have hfz19_2 := blk_frozen BK149.out 2) | ((with_reducible refine gate_callee (f := 59) rfl ?_); refine goesL_ (some 26) rfl rfl Try.func59 (by kernel_rfl) rfl #[.agg #[.slice A0_0 l0_0.length c0_0, .slice A0_1 l0_1.length c0_1, .slice A0_2 l0_2.length c0_2], .int .i64 x16_1, .int .i64 0] rfl (by (try simp only [List.map_toArray, List.map_cons, List.map_nil]); first | done | rfl | (simp only [List.length_drop, List.length_take]; rfl)) ?_; (with_reducible refine (drift_lead.calls k1 _ _ l0_0 _ _ l0_1 _ _ l0_2 x16_1 0 t160 _ ?side1 ?side2 ?side3 ?side4 ?side5 ?side6 A16.out).mono ?_); (case side1 => repeat (first | exact (Kd.C_below HR0_0.out HB.out) | (with_reducible refine Kd.C_alloc ?_ _) | (with_reducible refine Kd.C_drewN ?_ _) | (with_reducible refine Kd.C_drew ?_))); (case side2 => exact HC0_0.out); (case side3 => repeat (first | exact (Kd.C_below HR0_1.out HB.out) | (with_reducible refine Kd.C_alloc ?_ _) | (with_reducible refine Kd.C_drewN ?_ _) | (with_reducible refine Kd.C_drew ?_))); (case side4 => exact HC0_1.out); (case side5 => repeat (first | exact (Kd.C_below HR0_2.out HB.out) | (with_reducible refine Kd.C_alloc ?_ _) | (with_reducible refine Kd.C_drewN ?_ _) | (with_reducible refine Kd.C_drew ?_))); (case side6 => exact HC0_2.out); rintro e w20 ⟨v161, rfl, ho0, hb⟩; refine ⟨_, rfl, ?_⟩; have n0_ := Aside0.mk (Kd.N_elder' (by (with_reducible repeat (first | apply Kd.N_alloc | apply Kd.N_drewN | apply Kd.N_drew)); exact HO_3.out) (Kd.R_base ho0) hb); have n1_ := Aside0.mk (Kd.V_elder' (by (with_reducible repeat (first | apply Kd.V_alloc | apply Kd.V_drewN | apply Kd.V_drew)); exact HL156_0.out) (Kd.R_base ho0) hb); have n2_ := Aside0.mk (Kd.R_elder' (by (with_reducible repeat (first | apply Kd.R_alloc | apply Kd.R_drewN | apply Kd.R_drew)); exact HO159.out) (Kd.R_base ho0) hb); have n3_ := Aside0.mk (Kd.R_lower (Kd.R_new' (Kd.R_newM (M := fun k_ => (w.heap.size ≤ k_)) ho0 (below_size (by repeat (first | (with_reducible first | exact HB.out | apply below_alloc | apply pw_below_drewN | apply below_drew1 | refine below_set ?_ GE149.out) | exact HB.out))) (fun k_ h_ => h_)) (Kd.R_lt (by (with_reducible repeat (first | apply Kd.R_alloc | apply Kd.R_drewN | apply Kd.R_drew)); exact HO159.out))) (below_size (by repeat (first | (with_reducible first | exact HB.out | apply below_alloc | apply pw_below_drewN | apply below_drew1 | refine below_set ?_ GE149.out) | exact HB.out)))); have n4_ := Aside0.mk (blk_below (g := gb149) (o := .cells #[.slice A0_0 l0_0.length c0_0, .slice A0_1 l0_1.length c0_1, .slice A0_2 l0_2.length c0_2] 30 (0, 0)) (by (with_reducible repeat (first | refine blk_drewN ?_ _ | refine blk_drew ?_ | refine blk_alloc ?_ _)); exact BK149.out) hb); have n5_ := Aside0.mk (Kd.C_below (by repeat (first | (with_reducible exact HR156_0.out) | (with_reducible refine Kd.C_alloc ?_ _) | (with_reducible refine Kd.C_drewN ?_ _) | (with_reducible refine Kd.C_drew ?_) | exact HR156_0.out)) hb); have n6_ := Aside0.mk (below_step (by repeat (first | (with_reducible first | exact HB.out | apply below_alloc | apply pw_below_drewN | apply below_drew1 | refine below_set ?_ GE149.out) | exact HB.out)) hb); clear HO_3; clear HL156_0; clear HO159; clear BK149; clear HR156_0; clear HB; have HO_3 := n0_; have HL156_0 := n1_; have HO159 := n2_; have HO162 := n3_; have BK149 := n4_; have HR156_0 := n5_; have HB := n6_; clear n0_ n1_ n2_ n3_ n4_ n5_ n6_; (try clear hb); (try clear hb2); (try clear hk); (try clear hi); (try clear ho0); obtain ⟨Ao21, co21, eo21⟩ := Kd.R_slice HO162.out; subst eo21))
                go_loopg [28] k1 (fun kq v28 w' => ∃ (x5_2 : List Int) (x28_2 : Int), v28 = .int .i64 x28_2 ∧ Aside0 (drift_roots.l1 kq x3_1 x5_2 (l0_2.length : Int) x16_1 t160 (t160.length : Int) x28_2 l0_0 l0_1 l0_2 = some r) ∧ Aside0 (kq ≤ k1) ∧ Aside0 (Kd.N dT 25 w' w.heap.size (fun k_ => (w.heap.size ≤ k_) ∧ some k_ ≠ (v158 : Value).ownBlock ∧ some k_ ≠ ((.slice Ao21 t160.length co21) : Value).ownBlock ∧ k_ ≠ gb149) (.slice (some ad156) x3_1.length co17) x3_1) ∧ Aside0 (Kd.R (Kd.int .i64) 3 w' w.heap.size (fun k_ => (w.heap.size ≤ k_) ∧ some k_ ≠ ((.slice Ao21 t160.length co21) : Value).ownBlock) v158 x5_2) ∧ Aside0 (Kd.R (Kd.int .i64) 3 w' w.heap.size (fun k_ => (w.heap.size ≤ k_) ∧ some k_ ≠ (v158 : Value).ownBlock) (.slice Ao21 t160.length co21) t160) ∧ Aside0 (w'.heap[gb149]? = some (.cells #[(.slice A0_0 l0_0.length c0_0), (.slice A0_1 l0_1.length c0_1), (.slice A0_2 l0_2.length c0_2)] 30 (0, 0))) ∧ Aside0 (Below w.heap.size w w'))
                case atStart => exact ⟨(t157), (0), (by first | rfl | (simp; done) | (simp [*]; done)), H', ⟨Nat.le_refl _⟩, ⟨by (with_reducible repeat (first | apply Kd.N_alloc | apply Kd.N_drewN | apply Kd.N_drew)); exact Kd.N_mono HO_3.out (fun _ hk => ⟨hk.1.1.1, ⟨hk.1.2, ⟨hk.2, hk.1.1.2⟩⟩⟩)⟩, ⟨by (with_reducible repeat (first | apply Kd.R_alloc | apply Kd.R_drewN | apply Kd.R_drew)); exact Kd.R_mono HO159.out (fun _ hk => ⟨hk.1.1, hk.2⟩)⟩, ⟨by (with_reducible repeat (first | apply Kd.R_alloc | apply Kd.R_drewN | apply Kd.R_drew)); exact Kd.R_mono HO162.out (fun _ hk => ⟨hk.1.1, hk.2⟩)⟩, ⟨by (with_reducible repeat (first | refine blk_drewN ?_ _ | refine blk_drew ?_ | refine blk_alloc ?_ _)); exact BK149.out⟩, ⟨by repeat (first | (with_reducible first | exact HB.out | apply below_alloc | apply pw_below_drewN | apply below_drew1 | refine below_set ?_ GE149.out) | exact HB.out)⟩⟩
                case round =>
                  clear H'
                  try clear c1
                  try clear p1
                  try clear q1
                  try clear hx1
                  try clear c2
                  try clear c2b0
                  try clear c2b1
                  try clear p2
                  try clear c3
                  try clear c3b0
                  try clear c3b1
                  try clear c5
                  try clear c12
                  try clear c12b0
                  try clear c13
                  try clear c13b0
                  try clear c14
                  try clear c14b0
                  try clear c15
                  try clear p15
                  try clear q15
                  try clear hx15
                  try clear hcz11_0
                  try clear hcz11_1
                  try clear hcz11_2
                  try clear hcz19_0
                  try clear hcz19_1
                  try clear hcz19_2
                  try clear hcz5_0
                  try clear hcz5_1
                  try clear hcz5_2
                  try clear hfz11_0
                  try clear hfz11_1
                  try clear hfz11_2
                  try clear hfz19_0
                  try clear hfz19_1
                  try clear hfz19_2
                  try clear hfz5_0
                  try clear hfz5_1
                  try clear hfz5_2
                  try clear hx156_0
                  try clear p156
                  try clear p2
                  try clear q156
                  obtain ⟨x5_2, x28_2, rfl, HA, HK2, HO_3, HO_5, HO_26, BK149, HB⟩ := hrel
                  cases gk with
                  | zero => exact absurd HA.out (by simp [drift_roots.l1])
                  | succ k2 =>
                    have H := HA.out
                    clear HA
                    simp only [drift_roots.l1] at H
                    by_cases c22 : x28_2 < (t160.length : Int)
                    · rw [if_pos c22] at H
                      have c22b0 : decide (x28_2 < (t160.length : Int)) = true := decide_eq_true c22
                      clear c22
                      by_cases c23 : 0 ≤ x28_2
                      · rw [if_pos c23] at H
                        have c23b0 : decide (0 ≤ x28_2) = true := decide_eq_true c23
                        clear c23
                        by_cases c24 : x28_2 < (t160.length : Int)
                        · rw [if_pos c24] at H
                          have c24b0 : decide (x28_2 < (t160.length : Int)) = true := decide_eq_true c24
                          clear c24
                          by_cases c25 : x28_2 < (x5_2.length : Int)
                          · rw [if_pos c25] at H
                            have c25b0 : decide (x28_2 < (x5_2.length : Int)) = true := decide_eq_true c25
                            clear c25
                            obtain ⟨y165, hy165⟩ : ∃ y_ : List Int, y_ = (x5_2.set (x28_2 : Int).toNat (wrap64 ((rd x5_2 x28_2) + (rd t160 x28_2)))) := ⟨_, rfl⟩
                            replace H : (drift_roots.l1 k2 x3_1 y165 (l0_2.length : Int) x16_1 t160 (t160.length : Int) (wrap64 (x28_2 + 1)) l0_0 l0_1 l0_2) = some r := by first | (rw [hy165]; with_reducible exact H) | (have H2_ := (Option.bind_some _ _).symm.trans H; rw [hy165]; with_reducible exact H2_) | (have H2_ := (Option.bind_some _ _).symm.trans H; with_reducible exact H2_) | with_reducible exact H | (rw [hy165]; exact H) | exact H
                            have Ny165 := Aside0.mk hy165
                            clear hy165
                            have H' := Aside0.mk H
                            clear H
                            have p163 : 0 ≤ (x28_2 : Int) := of_decide_eq_true (by first | (with_reducible assumption) | assumption)
                            have q163 : x28_2 < (t160.length : Int) := of_decide_eq_true (by first | (with_reducible assumption) | assumption)
                            obtain ⟨ad163, e163, hx163_0⟩ := Kd.at_int (Kd.R_reads' HO_26.out).2.2 x28_2 p163 q163
                            cases e163
                            replace p163 := eq_true p163
                            replace q163 := eq_true q163
                            obtain ⟨Ao27, co27, eo27⟩ := Kd.R_slice HO_5.out
                            subst eo27
                            have p164 : 0 ≤ (x28_2 : Int) := of_decide_eq_true (by first | (with_reducible assumption) | assumption)
                            have q164 : x28_2 < (x5_2.length : Int) := of_decide_eq_true (by first | (with_reducible assumption) | assumption)
                            obtain ⟨ad164, e164, hx164_0⟩ := Kd.at_int (Kd.R_reads' HO_5.out).2.2 x28_2 p164 q164
                            cases e164
                            replace p164 := eq_true p164
                            replace q164 := eq_true q164
                            have p26 : 0 ≤ (x28_2 : Int) := of_decide_eq_true (by first | (with_reducible assumption) | assumption)
                            have q26 : (x28_2 : Int) < ((x5_2.length : Int) : Int) := of_decide_eq_true (by first | (with_reducible assumption) | assumption)
                            obtain ⟨go26, co26, eo26, gb26, gl26, cl26, HG26⟩ := Kd.R_form HO_5.out (by omega)
                            (first | cases eo26 | (injection eo26 with ea_ en_ ec_; (first | subst ea_ | (injection ea_ with ea_; subst ea_)); subst ec_; clear en_))
                            have GB26 := Aside0.mk gb26
                            have GG26 := Aside0.mk HG26
                            clear gb26 gl26 HG26
                            (first | simp only [add_plain] at hx164_0 | skip)
                            obtain ⟨hx26_0, hf26_0⟩ := Kd.R_celln 0 HO_5.out (x28_2 : Int) p26 q26
                            replace p26 := eq_true p26
                            replace q26 := eq_true q26
                            have HP28 := Kd.R_putg HO_5.out (x28_2 : Int) (wrap64 ((rd x5_2 x28_2) + (rd t160 x28_2)))
                            go_wp2_with (first | ((with_reducible refine gate_store (t := 3) (p := 39) rfl ?_); refine store_event (t := 3) (p := 39) (v := ?vo_w29) (w1 := (wr.setCell ⟨go26, (x28_2 : Int).toNat, none⟩ (.int .i64 (wrap64 ((rd x5_2 x28_2) + (rd t160 x28_2)))))) ?hg ?ho ?hn ?hr ?_; (case ho => rfl); (case hg => rfl); (case hn => rfl); (case hr => first | (go_simp; done) | (go_simp; rfl)); intro w29 hw; have hg : wr.grownBy w29 (some go26) := (by rw [hw]; exact HP28.2); have hp_ : Kd.R (Kd.int .i64) 3 w29 w.heap.size (fun k_ => (w.heap.size ≤ k_) ∧ some k_ ≠ (.slice (some ad163) t160.length co21 : Value).ownBlock) (.slice (some ⟨go26, 0, none⟩) x5_2.length co27) y165 := (by rw [hw, Ny165.out]; exact HP28.1); clear HP28; have n0_ := Aside0.mk (Kd.N_afterv (v := (.slice (some ⟨go26, 0, none⟩) x5_2.length co27)) (v1 := (.slice (some ⟨go26, 0, none⟩) x5_2.length co27)) (ok := (fun k_ => (w.heap.size ≤ k_) ∧ some k_ ≠ (.slice (some ad163) t160.length co21 : Value).ownBlock ∧ k_ ≠ gb149)) (by (with_reducible repeat (first | apply Kd.N_alloc | apply Kd.N_drewN | apply Kd.N_drew)); exact Kd.N_mono HO_3.out (fun _ hk => ⟨⟨hk.1, ⟨hk.2.2.1, hk.2.2.2⟩⟩, hk.2.1⟩)) hg (.inl rfl)); have n1_ := Aside0.mk (hp_); have n2_ := Aside0.mk (Kd.R_after (v := (.slice (some ⟨go26, 0, none⟩) x5_2.length co27)) (v1 := (.slice (some ⟨go26, 0, none⟩) x5_2.length co27)) (ok := (fun k_ => (w.heap.size ≤ k_))) (by (with_reducible repeat (first | apply Kd.R_alloc | apply Kd.R_drewN | apply Kd.R_drew)); exact HO_26.out) hg (.inl rfl)); have n3_ := Aside0.mk (blk_grown (g := gb149) (o := .cells #[.slice A0_0 l0_0.length c0_0, .slice A0_1 l0_1.length c0_1, .slice A0_2 l0_2.length c0_2] 30 (0, 0)) (by (with_reducible repeat (first | refine blk_drewN ?_ _ | refine blk_drew ?_ | refine blk_alloc ?_ _)); exact BK149.out) hg (Kd.R_ne HO_5.out BK149.out (by decide))); have n4_ := Aside0.mk ((by rw [hw]; exact below_set (HB.out) GB26.out : Below w.heap.size w w29)); clear HO_3; clear HO_5; clear HO_26; clear BK149; clear HB; have HO_3 := n0_; have HO_5 := n1_; have HO_26 := n2_; have BK149 := n3_; have HB := n4_; clear n0_ n1_ n2_ n3_ n4_; clear hg hw hp_))
                            go_roundg k2
                            case measure => have := HK1.out; have := HK2.out; omega
                            case rel => exact ⟨(y165), (wrap64 (x28_2 + 1)), (by first | rfl | (simp; done) | (simp [*]; done)), H', ⟨by have := HK1.out; have := HK2.out; omega⟩, ⟨by (with_reducible repeat (first | apply Kd.N_alloc | apply Kd.N_drewN | apply Kd.N_drew)); exact Kd.N_mono HO_3.out (fun _ hk => ⟨hk.1.1, ⟨hk.2, ⟨hk.1.2.1, hk.1.2.2⟩⟩⟩)⟩, ⟨by (with_reducible repeat (first | apply Kd.R_alloc | apply Kd.R_drewN | apply Kd.R_drew)); exact HO_5.out⟩, ⟨by (with_reducible repeat (first | apply Kd.R_alloc | apply Kd.R_drewN | apply Kd.R_drew)); exact HO_26.out⟩, ⟨by (with_reducible repeat (first | refine blk_drewN ?_ _ | refine blk_drew ?_ | refine blk_alloc ?_ _)); exact BK149.out⟩, ⟨by repeat (first | (with_reducible first | exact HB.out | apply below_alloc | apply pw_below_drewN | apply below_drew1 | refine below_set ?_ GE149.out) | exact HB.out)⟩⟩
                          · rw [if_neg c25] at H
                            exact absurd H (by simp)
                        · rw [if_neg c24] at H
                          exact absurd H (by simp)
                      · rw [if_neg c23] at H
                        exact absurd H (by simp)
                    · rw [if_neg c22] at H
                      have c22b0 : decide (x28_2 < (t160.length : Int)) = false := decide_eq_false c22
                      clear c22
                      by_cases c30 : x3_1.length < 5864062014805
                      · rw [if_pos c30] at H
                        have LMc30 := Aside0.mk c30
                        clear c30
                        obtain ⟨y166, hy166⟩ : ∃ y_ : List (List Int), y_ = (x3_1 ++ [x5_2]) := ⟨_, rfl⟩
                        replace H : (drift_roots.l0 k2 y166 (l0_2.length : Int) (wrap64 (x16_1 + 1)) l0_0 l0_1 l0_2) = some r := by first | (rw [hy166]; with_reducible exact H) | (have H2_ := (Option.bind_some _ _).symm.trans H; rw [hy166]; with_reducible exact H2_) | (have H2_ := (Option.bind_some _ _).symm.trans H; with_reducible exact H2_) | with_reducible exact H | (rw [hy166]; exact H) | exact H
                        have Ny166 := Aside0.mk hy166
                        clear hy166
                        have H' := Aside0.mk H
                        clear H
                        obtain ⟨Ao32, co32, eo32⟩ := Kd.R_slice HO_5.out
                        subst eo32
                        go_wp2_with (first | ((with_reducible refine gate_builtin (b := .append) (xs := #[.tmp 41, .tmp 43]) rfl ?_); at_builtin; refine Kd.N_append dT (w0 := w) w.heap.size rfl (.tmp 41) (.tmp 43) 31 25 (.slice none 0 0) 24 rfl Try.underlying31 info25 rfl (by decide) (by omega) (.slice (some ad156) x3_1.length co17) x3_1 x5_2 [.slice Ao32 x5_2.length co32] (fun k_ => (w.heap.size ≤ k_) ∧ some k_ ≠ (.slice Ao21 t160.length co21 : Value).ownBlock ∧ k_ ≠ gb149) (fun k_ => ((fun k_ => (w.heap.size ≤ k_) ∧ some k_ ≠ (.slice Ao21 t160.length co21 : Value).ownBlock ∧ k_ ≠ gb149)) k_ ∧ some k_ ≠ (.slice (some ad156) x3_1.length co17 : Value).ownBlock) rfl rfl ?aP (fun _ hk => hk) ?aF ?aO ?aB ?aS ?aL ?_; (case aP => exact (FKT_mk (Kd.R_mono (ok' := (fun k_ => ((fun k_ => (w.heap.size ≤ k_) ∧ some k_ ≠ (.slice Ao21 t160.length co21 : Value).ownBlock ∧ k_ ≠ gb149)) k_ ∧ some k_ ≠ (.slice (some ad156) x3_1.length co17 : Value).ownBlock)) (Kd.R_types (Kd.R_apart' (HO_5.out) (Kd.N_typed HO_3.out) (by decide)) BK149.out (by decide)) (fun k_ hk => ⟨⟨hk.1.1.1, ⟨hk.1.1.2, hk.2⟩⟩, hk.1.2⟩)))); (case aB => exact (by repeat (first | (with_reducible first | exact HB.out | apply below_alloc | apply pw_below_drewN | apply below_drew1 | refine below_set ?_ GE149.out) | exact HB.out))); (case aF => exact (fun k_ hk => ⟨(Nat.le_trans (below_size (by repeat (first | (with_reducible first | exact HB.out | apply below_alloc | apply pw_below_drewN | apply below_drew1 | refine below_set ?_ GE149.out) | exact HB.out))) hk), Kd.fresh' (Kd.R_lt (by (with_reducible repeat (first | apply Kd.R_alloc | apply Kd.R_drewN | apply Kd.R_drew)); exact HO_26.out)) k_ hk, Kd.freshB (g := gb149) (o := .cells #[.slice A0_0 l0_0.length c0_0, .slice A0_1 l0_1.length c0_1, .slice A0_2 l0_2.length c0_2] 30 (0, 0)) (by (with_reducible repeat (first | refine blk_drewN ?_ _ | refine blk_drew ?_ | refine blk_alloc ?_ _)); exact BK149.out) k_ hk⟩)); (case aO => exact (by (with_reducible repeat (first | apply Kd.N_alloc | apply Kd.N_drewN | apply Kd.N_drew)); exact Kd.N_mono HO_3.out (fun _ hk => ⟨hk.1, ⟨hk.2.2.1, hk.2.2.2⟩⟩))); (case aS => exact (below_size (by repeat (first | (with_reducible first | exact HB.out | apply below_alloc | apply pw_below_drewN | apply below_drew1 | refine below_set ?_ GE149.out) | exact HB.out)))); (case aL => have := LMc30.out; omega); intro v167 w31 ho hb hg hat; rw [← Ny166.out] at ho; have n0_ := Aside0.mk (Kd.R_over' (by (with_reducible repeat (first | apply Kd.R_alloc | apply Kd.R_drewN | apply Kd.R_drew)); exact HO_26.out) (Kd.N_typed (by (with_reducible repeat (first | apply Kd.N_alloc | apply Kd.N_drewN | apply Kd.N_drew)); exact HO_3.out)) (by decide) hg); have n1_ := Aside0.mk (blk_grown (g := gb149) (o := .cells #[.slice A0_0 l0_0.length c0_0, .slice A0_1 l0_1.length c0_1, .slice A0_2 l0_2.length c0_2] 30 (0, 0)) (by (with_reducible repeat (first | refine blk_drewN ?_ _ | refine blk_drew ?_ | refine blk_alloc ?_ _)); exact BK149.out) hg (Kd.N_ne HO_3.out BK149.out (by decide))); have n2_ := Aside0.mk (hb); have n3_ := Aside0.mk (ho); clear HO_26; clear BK149; clear HB; clear HO_3; clear HO_5; have HO_26 := n0_; have BK149 := n1_; have HB := n2_; have HO168 := n3_; clear n0_ n1_ n2_ n3_; clear ho hb hg hat))
                        go_roundg k2
                        case measure => have := HK1.out; have := HK2.out; omega
                        case rel => exact ⟨(y166), (wrap64 (x16_1 + 1)), (by first | rfl | (simp; done) | (simp [*]; done)), H', ⟨by have := HK1.out; have := HK2.out; omega⟩, ⟨by (with_reducible repeat (first | apply Kd.N_alloc | apply Kd.N_drewN | apply Kd.N_drew)); exact Kd.N_mono HO168.out (fun _ hk => ⟨hk.1, hk.2.2⟩)⟩, ⟨by (with_reducible repeat (first | refine blk_drewN ?_ _ | refine blk_drew ?_ | refine blk_alloc ?_ _)); exact BK149.out⟩, ⟨by repeat (first | (with_reducible first | exact HB.out | apply below_alloc | apply pw_below_drewN | apply below_drew1 | refine below_set ?_ GE149.out) | exact HB.out)⟩⟩
                      · rw [if_neg c30] at H
                        exact absurd H (by simp)
              · rw [if_neg c14] at H
                exact absurd H (by simp)
            · rw [if_neg c13] at H
              exact absurd H (by simp)
          · rw [if_neg c12] at H
            have c12b0 : decide (x16_1 < (l0_2.length : Int)) = false := decide_eq_false c12
            clear c12
            obtain rfl := Option.some.inj H
            go_wp2
            go_ret
            exact ⟨_, by first | rfl | (simp [errW_none, errW_some] <;> rfl) | (simp [*, errW_none, errW_some] <;> rfl), by (with_reducible repeat (first | apply Kd.N_alloc | apply Kd.N_drewN | apply Kd.N_drew)); exact Kd.N_mono HO_3.out (fun _ hk => hk.1), by repeat (first | (with_reducible first | exact HB.out | apply below_alloc | apply pw_below_drewN | apply below_drew1 | refine below_set ?_ GE149.out) | exact HB.out)⟩
    · rw [if_neg c3] at H
      exact absurd H (by simp)
  · rw [if_neg c2] at H
    exact absurd H (by simp)
theorem foot_int' {W : World} {g : Nat} {x : List Int} (h : (Kd.int .i64).C W (some ⟨g, 0, none⟩) x.length x) {j : Nat} (hj : j < x.length) : W.cell? ⟨g, j, none⟩ = some (.int .i64 (x.getD j 0)) := by
  have h1 := Kd.foot_int h (j : Int) (by omega) (by omega)
  rw [Int.toNat_natCast] at h1
  have e : (⟨g, 0, none⟩ : Addr).add j = ⟨g, j, none⟩ := by unfold Addr.add; split <;> simp_all
  rw [e] at h1
  rw [h1]
  simp [rd]
/-- what drift hands back: a row in a block of its own, born in the call -/
def OwnT (base : Nat) (W : World) (v : Value) (x : List Int) : Prop := ∃ g c cells, v = .slice (some ⟨g, 0, none⟩) x.length c ∧ x.length ≤ c ∧ base ≤ g ∧ W.heap[g]? = some (.cells cells 3 (0, 0)) ∧ ∀ j, j < x.length → cells[j]? = some (.int .i64 (x.getD j 0))
theorem own_of {W : World} {base : Nat} {x : List Int} {c : List Value} (hx : 0 < x.length) (h : Kd.FK dT W (fun k => base ≤ k) x c) : ∃ v, c = [v] ∧ OwnT base W v x := by
  obtain ⟨A, cc, rfl, hl, hC, ht⟩ := Kd.FK_now h
  obtain ⟨A', cc', e, -, hF⟩ := Kd.FK_slice_open (FK_of_T h)
  injection e with e
  injection e with e1 e2 e3
  subst e1
  obtain ⟨g, cells, rfl, hg⟩ := ht hx
  obtain ⟨ad, c, hA, -, -, -, hok⟩ := Kd.F_get hF 0 0 (Int.le_refl _) (by omega)
  obtain rfl := Option.some.inj hA
  refine ⟨_, rfl, g, cc, cells, rfl, hl, hok (by decide), hg, fun j hj => ?_⟩
  have h1 := foot_int' hC hj
  rw [← h1]
  exact (blk_cell hg j).symm
set_option maxRecDepth 100000 in
set_option maxHeartbeats 1000000 in
theorem drift_callsT (k : Nat) (A0 A1 A2 : Option Addr) (c0 c1 c2 : Nat) (P : List Int) (C : List (List (List Int))) (L : List (List S33)) (rs : List (List Int)) (w : World)
    (h0 : Kd.C (Kd.int .i64) w A0 P.length P) (l0 : P.length ≤ c0) (h1 : Kd.C (Kd.slice 25 (Kd.slice 3 (Kd.int .i64))) w A1 C.length C) (l1 : C.length ≤ c1) (h2 : Kd.C (Kd.slice 33 k33) w A2 L.length L) (l2 : L.length ≤ c2)
    (hk : drift_roots.f k P C L = some rs) (n : Nat) (hn : rs.length = n + 1) (hn2 : n ≤ 1000) (hx : 0 < (rs.getD n []).length) :
    Calls Try.prog 33 #[.agg #[.slice A0 P.length c0, .slice A1 C.length c1, .slice A2 L.length c2]] w fun e w' => ∃ v, e = .returned v ∧ OwnT w.heap.size w' v (rs.getD n []) ∧ Below w.heap.size w w' := by
  have hu30 := Try.underlying30
  have HRC := Lib.hid (fun (W : World) (hW : Below w.heap.size w W) => drift_roots.callsT k A0 c0 P A1 c1 C A2 c2 L rs W (Kd.C_below h0 hW) l0 (Kd.C_below h1 hW) l1 (Kd.C_below h2 hW) l2 hk)
  have HX := Aside0.mk hx
  have HN := Aside0.mk hn
  clear h0 l0 h1 l1 h2 l2 hk hx hn
  go_enter Try.func33, Try.ntmps33
  go_wp2_with fail
  refine (HRC.out _ (below_alloc (Below.refl _ _) _)).mono ?_
  rintro e w3 ⟨v3, rfl, h3, hB3⟩
  obtain ⟨A3, c3, rfl⟩ := Kd.N_slice h3
  obtain ⟨ad, B, c, rfl, hc, hl, hC⟩ := at_L1 (C_of_T (Kd.N_reads' h3).2.2) (n : Int) (by omega) (by rw [HN.out]; omega)
  obtain ⟨cs, hcl, hF, hcc⟩ := Kd.N_get h3 [] (n : Int) (by omega) (by rw [HN.out]; omega)
  rw [Int.toNat_natCast] at hF hcc hc
  obtain ⟨v, rfl, hO⟩ := own_of (base := w.heap.size) HX.out (Kd.FK_mono hF (fun k hk => by have h9 := hk.1; rw [World.size_alloc] at h9; omega))
  have h5 := hcc 0 v rfl
  rw [Nat.add_zero, show dT.sz = 1 from rfl, Nat.mul_one] at h5
  have HO := Aside0.mk hO
  have B3 := Aside0.mk (below_step (below_alloc (Below.refl w.heap.size w) _) hB3)
  have hwr : IntKind.i64.wrap ((rs.length : Int) - 1) = (n : Int) := by rw [IntKind.wrap_i64, HN.out]; omega
  have hix0 : (0 : Int) ≤ (n : Int) := by omega
  have hix1 : (n : Int) < (rs.length : Int) := by rw [HN.out]; omega
  clear hO hF hcc hcl hB3 h3 hl hC hc
  go_wp2
  go_ret
  exact ⟨v, rfl, HO.out, B3.out⟩
/-- the multiple of the drift -/
def pM (f : Nat → Int) (m : Int) : List Int := (pD f).map (fun y => m * y)
def pRep (f : Nat → Int) (m : Int) : List Int × Int := if m < 0 ∨ m > 1000 then ([], 3) else if bad (pM f m) = true then ([], 4) else (pM f m, 0)
theorem pM_len (f : Nat → Int) (m : Int) : (pM f m).length = 3 := by simp [pM, pD_len]
theorem pD_small (f : Nat → Int) (j : Nat) (hj : j < 3) : -64 ≤ (pD f).getD j 0 ∧ (pD f).getD j 0 ≤ 64 := by
  have h5 := nCh_pos f
  have h := plan_rt f (nCh f - 1) (by omega) j hj
  have e : (pD f).getD j 0 = rt (mkC f (nCh f)) (mkL f (nCh f - 1)) (nCh f - 1) j := by simp [pD, mk, hj]
  rw [e]
  omega
theorem set3_0 (c : Array Value) (a b d : Value) (h : 2 < c.size) : (((c.setIfInBounds 0 a).setIfInBounds 1 b).setIfInBounds 2 d)[0]? = some a := by
  rw [Array.getElem?_setIfInBounds_ne (by decide), Array.getElem?_setIfInBounds_ne (by decide), Array.getElem?_setIfInBounds_self_of_lt (by omega)]
theorem set3_1 (c : Array Value) (a b d : Value) (h : 2 < c.size) : (((c.setIfInBounds 0 a).setIfInBounds 1 b).setIfInBounds 2 d)[1]? = some b := by
  rw [Array.getElem?_setIfInBounds_ne (by decide), Array.getElem?_setIfInBounds_self_of_lt (by simp; omega)]
theorem set3_2 (c : Array Value) (a b d : Value) (h : 2 < c.size) : (((c.setIfInBounds 0 a).setIfInBounds 1 b).setIfInBounds 2 d)[2]? = some d := by
  rw [Array.getElem?_setIfInBounds_self_of_lt (by simp; omega)]
theorem mul_wrap (m y : Int) (h0 : 0 ≤ m) (h1 : m ≤ 1000) (hy : -64 ≤ y ∧ y ≤ 64) : wrap64 (y * m) = m * y := by
  have h3 : (y * m).natAbs ≤ 64 * 1000 := by
    rw [Int.natAbs_mul]
    exact Nat.mul_le_mul (by omega) (by omega)
  rw [Int.mul_comm m y]
  exact wrap_in (by omega) (by omega)
theorem fit_ev (f : Nat → Int) (m : Int) : Ev (fun k => drift_fit_v1.f k [2, 3, 5] (pM f m)) (if bad (pM f m) = true then 4 else 0) := by
  have h3 := checkAll_ev [2, 3, 5] [pM f m] (by simp) (by show 3 ≤ _; omega) prime235
  rw [show ([2, 3, 5] : List Int).length = 3 from rfl, ck_mk 3 _ (fun x hx => by
    obtain rfl := List.mem_singleton.1 hx
    exact pM_len f m)] at h3
  simp only [List.any_cons, List.any_nil, Bool.or_false] at h3
  exact Ev.bind (f := fun _ t => some t) h3 (Ev.now _)
set_option maxRecDepth 100000 in
set_option maxHeartbeats 1000000 in
theorem repeat_walk (f : Nat → Int) (m : Int) (A0 A1 A2 : Option Addr) (c0 c1 c2 : Nat) (w : World)
    (h0 : Kd.C (Kd.int .i64) w A0 3 [2, 3, 5]) (l0 : 3 ≤ c0) (h1 : Kd.C (Kd.slice 25 (Kd.slice 3 (Kd.int .i64))) w A1 (mkC f (nCh f)).length (mkC f (nCh f))) (l1 : (mkC f (nCh f)).length ≤ c1) (h2 : Kd.C (Kd.slice 33 k33) w A2 (mkL f (nCh f - 1)).length (mkL f (nCh f - 1))) (l2 : (mkL f (nCh f - 1)).length ≤ c2) :
    Calls Try.prog 21 #[.agg #[.slice A0 3 c0, .slice A1 (mkC f (nCh f)).length c1, .slice A2 (mkL f (nCh f - 1)).length c2], .int .i64 m] w fun e w' => ∃ A c, e = .returned (.tuple #[.slice A (pRep f m).1.length c, .int .i64 (pRep f m).2]) ∧ (pRep f m).1.length ≤ c ∧ Kd.C (Kd.int .i64) w' A (pRep f m).1.length (pRep f m).1 ∧ Below w.heap.size w w' := by
  have hu30 := Try.underlying30
  have h5 := nCh_pos f
  obtain ⟨kc, hkc⟩ : ∃ k, drift_Check.f k [2, 3, 5] (mkC f (nCh f)) (mkL f (nCh f - 1)) = some 0 := by
    have h3 := check_ev [2, 3, 5] (mkC f (nCh f)) (mkL f (nCh f - 1)) (by rw [mkC_len]; omega) (by show 3 ≤ _; omega) prime235
    rw [show ([2, 3, 5] : List Int).length = 3 from rfl, (plan_vw f).good] at h3
    exact h3.rounds
  obtain ⟨kr, hkr⟩ : ∃ k, drift_roots.f k [2, 3, 5] (mkC f (nCh f)) (mkL f (nCh f - 1)) = some (pR f) := by
    have h3 := roots_ev (plan_vw f) [2, 3, 5] rfl
    rw [len1] at h3
    exact h3.rounds
  obtain ⟨kf, hkf⟩ := (fit_ev f m).rounds
  have HCC := Lib.hid (fun (W : World) (hW : Below w.heap.size w W) => drift_Check.calls kc A0 c0 [2, 3, 5] A1 c1 (mkC f (nCh f)) A2 c2 (mkL f (nCh f - 1)) 0 W (Kd.C_below h0 hW) l0 (Kd.C_below h1 hW) l1 (Kd.C_below h2 hW) l2 hkc)
  have HDC := Lib.hid (fun (W : World) (hW : Below w.heap.size w W) => drift_callsT kr A0 A1 A2 c0 c1 c2 [2, 3, 5] (mkC f (nCh f)) (mkL f (nCh f - 1)) (pR f) W (Kd.C_below h0 hW) l0 (Kd.C_below h1 hW) l1 (Kd.C_below h2 hW) l2 hkr (nCh f - 1) (by rw [pR_len]; omega) (by omega) (by rw [pR_last, pD_len]; omega))
  have HFC := Lib.hid (fun (W : World) (hW : Below w.heap.size w W) (A : Option Addr) (c : Nat) (hA : Kd.C (Kd.int .i64) W A (pM f m).length (pM f m)) (hc : (pM f m).length ≤ c) => drift_fit_v1.calls kf A0 c0 [2, 3, 5] A c (pM f m) _ W (Kd.C_below h0 hW) l0 hA hc hkf)
  rw [pR_last] at HDC
  clear h0 l0 h1 l1 h2 l2 hkc hkr hkf h5
  go_enter Try.func21, Try.ntmps21
  go_wp2_with fail
  refine (HCC.out _ (below_alloc (Below.refl _ _) _)).mono ?_
  rintro e w3 ⟨rfl, hB3⟩
  obtain ⟨bp, hbp⟩ : ∃ bp, bp = w.heap.size := ⟨_, rfl⟩
  have bx : w3.heap[bp]? = some (.cells #[.slice A0 3 c0, .slice A1 (mkC f (nCh f)).length c1, .slice A2 (mkL f (nCh f - 1)).length c2] 30 (0, 0)) := by
    subst hbp
    have h1 := blk_new w (.cells #[.slice A0 3 c0, .slice A1 (mkC f (nCh f)).length c1, .slice A2 (mkL f (nCh f - 1)).length c2] 30)
    exact (hB3.block _ (Array.getElem?_eq_some_iff.1 h1).1).trans h1
  have BX := Aside0.mk bx
  have HBP := Aside0.mk hbp
  have B3 := Aside0.mk (below_step (below_alloc (Below.refl w.heap.size w) _) hB3)
  rw [← hbp]
  clear hbp hB3
  by_cases hm : m < 0 ∨ m > 1000
  · have HR := Aside0.mk (show pRep f m = ([], 3) from if_pos hm)
    by_cases hm0 : m < 0
    · have hd0 : decide (m < 0) = true := decide_eq_true hm0
      clear bx
      go_wp2
      go_ret2
      rw [HR.out]
      exact ⟨none, 0, rfl, Nat.le_refl _, Kd.C_nil _ _, B3.out⟩
    · have hd0 : decide (m < 0) = false := decide_eq_false hm0
      have hd1 : decide (m > 1000) = true := decide_eq_true (by omega)
      clear bx
      go_wp2
      go_ret2
      rw [HR.out]
      exact ⟨none, 0, rfl, Nat.le_refl _, Kd.C_nil _ _, B3.out⟩
  · have hm0 : 0 ≤ m := by omega
    have hm1 : m ≤ 1000 := by omega
    have hd0 : decide (m < 0) = false := decide_eq_false (by omega)
    have hd1 : decide (m > 1000) = false := decide_eq_false (by omega)
    have e0 := blk_cell bx 0
    have e1 := blk_cell bx 1
    have e2 := blk_cell bx 2
    simp only [List.getElem?_toArray, List.getElem?_cons_zero, List.getElem?_cons_succ] at e0 e1 e2
    clear bx
    go_wp2_with fail
    refine (HDC.out _ B3.out).mono ?_
    rintro e w4 ⟨v, rfl, hO, hB4⟩
    obtain ⟨g, c, cells, rfl, hgl, hgb, hg, hcell⟩ := hO
    rw [pD_len] at hgl hcell ⊢
    obtain ⟨x0, x1, x2, hx⟩ : ∃ x0 x1 x2, pD f = [x0, x1, x2] := by
      have h3 := pD_len f
      match hp : pD f, h3 with
      | [x0, x1, x2], _ => exact ⟨x0, x1, x2, rfl⟩
    have s0 := pD_small f 0 (by omega)
    have s1 := pD_small f 1 (by omega)
    have s2 := pD_small f 2 (by omega)
    have k0 := hcell 0 (by omega)
    have k1 := hcell 1 (by omega)
    have k2 := hcell 2 (by omega)
    rw [hx] at s0 s1 s2 k0 k1 k2
    simp only [List.getD_cons_zero, List.getD_cons_succ] at s0 s1 s2 k0 k1 k2
    have w0 := mul_wrap m x0 hm0 hm1 s0
    have w1 := mul_wrap m x1 hm0 hm1 s1
    have w2 := mul_wrap m x2 hm0 hm1 s2
    have hM := Aside0.mk (show pM f m = [m * x0, m * x1, m * x2] by rw [pM, hx]; rfl)
    have hgw : g < w4.heap.size := (Array.getElem?_eq_some_iff.1 hg).1
    have hgb3 : w3.heap.size ≤ g := hgb
    have hbp3 : bp < w3.heap.size := (Array.getElem?_eq_some_iff.1 BX.out).1
    have bx4 := (hB4.block bp hbp3).trans BX.out
    -- the cells and what the three stores make of them
    have p0 := blk_cell hg 0
    have f0 := blk_frozen hg 0
    have g1 := blk_put hg 0 (.int .i64 (m * x0)) rfl
    have p1 := blk_cell g1 1
    have f1 := blk_frozen g1 1
    have g2 := blk_put g1 1 (.int .i64 (m * x1)) rfl
    have p2 := blk_cell g2 2
    have f2 := blk_frozen g2 2
    have g3 := blk_put g2 2 (.int .i64 (m * x2)) rfl
    have hne : bp ≠ g := by omega
    have bx5 := blk_far (blk_far (blk_far bx4 (p := ⟨g, 0, none⟩) hne (.int .i64 (m * x0))) (p := ⟨g, 1, none⟩) hne (.int .i64 (m * x1))) (p := ⟨g, 2, none⟩) hne (.int .i64 (m * x2))
    rw [k0] at p0
    rw [Array.getElem?_setIfInBounds_ne (by decide), k1] at p1
    rw [Array.getElem?_setIfInBounds_ne (by decide), Array.getElem?_setIfInBounds_ne (by decide), k2] at p2
    have B4 := Aside0.mk (below_step B3.out hB4)
    have G3 := Aside0.mk g3
    have BX5 := Aside0.mk bx5
    have HH := Aside0.mk (And.intro hgb3 (And.intro k0 (And.intro k1 k2)))
    have i0 := blk_cell bx5 0
    simp only [List.getElem?_toArray, List.getElem?_cons_zero, List.getElem?_cons_succ] at i0
    clear hcell k0 k1 k2 hg g1 g2 g3 bx4 bx5 hB4 hgw hgb hgb3 hbp3 hne e0 e1 e2 s0 s1 s2 hx
    go_wp2
    go_loopw [25] (fun v wr => (v = .int .i64 0 ∧ wr = w4) ∨ (v = .int .i64 1 ∧ wr = w4.setCell ⟨g, 0, none⟩ (.int .i64 (m * x0))) ∨ (v = .int .i64 2 ∧ wr = (w4.setCell ⟨g, 0, none⟩ (.int .i64 (m * x0))).setCell ⟨g, 1, none⟩ (.int .i64 (m * x1))) ∨ (v = .int .i64 3 ∧ wr = ((w4.setCell ⟨g, 0, none⟩ (.int .i64 (m * x0))).setCell ⟨g, 1, none⟩ (.int .i64 (m * x1))).setCell ⟨g, 2, none⟩ (.int .i64 (m * x2)))) (fun v _ => 3 - (intOf v).toNat)
    case atStart => exact .inl ⟨rfl, rfl⟩
    case round =>
      rcases hrel with ⟨rfl, rfl⟩ | ⟨rfl, rfl⟩ | ⟨rfl, rfl⟩ | ⟨rfl, rfl⟩
      · go_wp2
        go_roundw
        case rel => exact .inr (.inl ⟨by go_num, by first | rfl | trivial⟩)
        case measure => simp [intOf]
      · go_wp2
        go_roundw
        case rel => exact .inr (.inr (.inl ⟨by go_num, by first | rfl | trivial⟩))
        case measure => simp [intOf]
      · go_wp2
        go_roundw
        case rel => exact .inr (.inr (.inr ⟨by go_num, by first | rfl | trivial⟩))
        case measure => simp [intOf]
      · obtain ⟨W3, hW3⟩ : ∃ W3, W3 = ((w4.setCell ⟨g, 0, none⟩ (.int .i64 (m * x0))).setCell ⟨g, 1, none⟩ (.int .i64 (m * x1))).setCell ⟨g, 2, none⟩ (.int .i64 (m * x2)) := ⟨_, rfl⟩
        rw [← hW3]
        rw [← hW3] at i0 G3 BX5
        have B5 := Aside0.mk (show Below w.heap.size w W3 from by
          have h9 := HH.out.1
          have h8 := below_size B3.out
          rw [hW3]
          exact below_set (below_set (below_set B4.out (by omega)) (by omega)) (by omega))
        clear p0 f0 p1 f1 p2 f2 hW3
        have hz : 2 < cells.size := (Array.getElem?_eq_some_iff.1 HH.out.2.2.2).1
        have hC : Kd.C (Kd.int .i64) W3 (some ⟨g, 0, none⟩) (pM f m).length (pM f m) := by
          rw [hM.out]
          refine Kd.F_now (ok := fun _ => True) (F_lit rfl G3.out trivial (by simp) (fun j x hj => ?_))
          match j, hj with
          | 0, hj => exact ⟨.int .i64 (m * x0), set3_0 cells _ _ _ hz, by
              obtain rfl : m * x0 = x := by simpa using hj
              exact FK_int _⟩
          | 1, hj => exact ⟨.int .i64 (m * x1), set3_1 cells _ _ _ hz, by
              obtain rfl : m * x1 = x := by simpa using hj
              exact FK_int _⟩
          | 2, hj => exact ⟨.int .i64 (m * x2), set3_2 cells _ _ _ hz, by
              obtain rfl : m * x2 = x := by simpa using hj
              exact FK_int _⟩
          | j + 3, hj => simp at hj
        have HF := HFC.out W3 B5.out (some ⟨g, 0, none⟩) c hC (by rw [pM_len]; exact hgl)
        have HF' := Lib.hid HF
        have HCZ := Aside0.mk hC
        rw [pM_len] at HF'
        have hgl' := hgl
        clear HF hC w0 w1 w2 hz
        cases hb : bad (pM f m) with
        | true =>
          have HR := Aside0.mk (show pRep f m = ([], 4) from by rw [pRep, if_neg hm, if_pos hb])
          rw [hb, if_pos rfl] at HF'
          clear hb
          go_wp2_with fail
          refine HF'.out.mono ?_
          rintro e w6 ⟨rfl, hB6⟩
          have B6 := Aside0.mk (below_step B5.out hB6)
          clear hB6 i0
          go_wp2
          go_ret2
          rw [HR.out]
          exact ⟨none, 0, rfl, Nat.le_refl _, Kd.C_nil _ _, B6.out⟩
        | false =>
          have HR := Aside0.mk (show pRep f m = (pM f m, 0) from by rw [pRep, if_neg hm, if_neg (by rw [hb]; decide)])
          rw [hb, if_neg (by decide)] at HF'
          clear hb
          go_wp2_with fail
          refine HF'.out.mono ?_
          rintro e w6 ⟨rfl, hB6⟩
          have T6 := Aside0.mk hB6
          clear hB6 i0
          go_wp2
          go_ret2
          rw [HR.out]
          exact ⟨some ⟨g, 0, none⟩, c, by (rw [pM_len]; rfl), by rw [pM_len]; exact hgl', Kd.C_below HCZ.out T6.out, below_step B5.out T6.out⟩
end Go.Proofs.Ytdcpmggjhmdmmaa.X

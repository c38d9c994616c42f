-- what is used of it (wip/tools/slim.py)
/- The walk of the law DriftFollows: for any plan it answers true. -/
import Derived.Test.YtdcpmggjhmdmmaaFDMake
import Derived.Test.YtdcpmggjhmdmmaaFDEqS
import Derived.Test.YtdcpmggjhmdmmaaFDEq
namespace Go.Proofs.Ytdcpmggjhmdmmaa.X
open Go.RowKit Go.Proofs.YtdcpmggjhmdmmaaW.PrintWords Go.Proofs.YtdcpmggjhmdmmaaW.PrintLast Go.Proofs.YtdcpmggjhmdmmaaW.PrintMore
set_option linter.unusedVariables false
theorem info53sz : (Try.prog.info? 53).map (·.size) = some 68 := by kernel_rfl
set_option maxRecDepth 100000 in
set_option maxHeartbeats 2000000 in
theorem follows_walk (cs : Array Value) (f : Nat → Int) (hp : PlanOk cs f) (w : World) :
    Calls Try.prog 4 #[.agg cs] w fun e w' => e = .returned (.bool true) ∧ Below w.heap.size w w' := by
  have hu30 := Try.underlying30
  have hu53 := Try.underlying53
  have HP := Aside0.mk hp
  clear hp
  have h5 := nCh_pos f
  obtain ⟨k1, hk1⟩ := (plan_Roots f).rounds
  obtain ⟨k2, hk2⟩ := (plan_Drift f).rounds
  obtain ⟨k3, hk3⟩ := (plan_Strains f).rounds
  obtain ⟨k4, hk4⟩ := (plan_roots f).rounds
  obtain ⟨k5, hk5⟩ := (plan_strains f).rounds
  obtain ⟨k6, hk6⟩ := (pD_eq f).rounds
  have K1 := Aside0.mk hk1
  have K2 := Aside0.mk hk2
  have K3 := Aside0.mk hk3
  have K4 := Aside0.mk hk4
  have K5 := Aside0.mk hk5
  have K6 := Aside0.mk hk6
  have LR := Aside0.mk (pR_len f)
  have PL := Aside0.mk (pR_last f)
  clear hk1 hk2 hk3 hk4 hk5 hk6
  go_enter Try.func4, Try.ntmps4
  go_upto_region 1 with ((with_reducible refine gate_dst (N := 1) rfl ?_); refine box_event ?hg (N := 1) ?hd (cs := cs) (t := 53) ?hr ?_; (case hd => rfl); (case hg => rfl); (case hr => first | (go_simp; done) | (go_simp; rfl)); intro gb hgb w6 hbox hb; have HBX := Aside0.mk hbox; have HB6 := Aside0.mk hb; have HGB := Aside0.mk hgb; clear hbox hb hgb)
  go_wp2_with fail
  refine (schismalaw51_known.calls true _ rfl).mono ?_
  rintro e w1 ⟨rfl, hB⟩
  have HB := Aside0.mk (below_step HB6.out hB)
  have HX1 := Aside0.mk ((hB.block gb (Array.getElem?_eq_some_iff.1 HBX.out).1).trans HBX.out)
  clear hB
  go_wp2_with (first | ((with_reducible refine gate_dst (N := 13) rfl ?_); refine wpList_load_row rfl 53 _ rfl gb rfl 53 cs (0, 0) _ HX1.out hu53 rfl ?_ ?_; exact info53sz.trans (congrArg some HP.out.size.symm)))
  refine (make_walk cs f HP.out _).mono ?_
  rintro e w2 ⟨gp, vC, vL, rfl, hB2, hP, hC, hL⟩
  obtain ⟨AC, cC, rfl⟩ := Kd.N_slice hC
  obtain ⟨AL, cL, rfl⟩ := Kd.N_slice hL
  have B2 := Aside0.mk (below_step HB.out hB2)
  have FP := Aside0.mk (Kd.F_now hP)
  have C1 := Aside0.mk (Kd.N_reads' hC)
  have C2 := Aside0.mk (Kd.N_reads' hL)
  clear hB2 hP hC hL
  have HRC := Lib.hid (fun (W : World) (hW : Below w2.heap.size w2 W) => drift_Roots.calls k1 (some ⟨gp, 0, none⟩) 3 [2, 3, 5] _ _ (mkC f (nCh f)) _ _ (mkL f (nCh f - 1)) (pR f) 0 W (Kd.C_below FP.out hW) (Nat.le_refl _) (Kd.C_below C1.out.2.2 hW) C1.out.2.1 (Kd.C_below C2.out.2.2 hW) C2.out.2.1 K1.out)
  have HDC := Lib.hid (fun (W : World) (hW : Below w2.heap.size w2 W) => drift_Drift.calls k2 (some ⟨gp, 0, none⟩) 3 [2, 3, 5] _ _ (mkC f (nCh f)) _ _ (mkL f (nCh f - 1)) (pD f) 0 W (Kd.C_below FP.out hW) (Nat.le_refl _) (Kd.C_below C1.out.2.2 hW) C1.out.2.1 (Kd.C_below C2.out.2.2 hW) C2.out.2.1 K2.out)
  have HSC := Lib.hid (fun (W : World) (hW : Below w2.heap.size w2 W) => drift_Strains.calls k3 (some ⟨gp, 0, none⟩) 3 [2, 3, 5] _ _ (mkC f (nCh f)) _ _ (mkL f (nCh f - 1)) (pS f) 0 W (Kd.C_below FP.out hW) (Nat.le_refl _) (Kd.C_below C1.out.2.2 hW) C1.out.2.1 (Kd.C_below C2.out.2.2 hW) C2.out.2.1 K3.out)
  have HOC := Lib.hid (fun (W : World) (hW : Below w2.heap.size w2 W) => schismalaw51_roots.calls k4 (some ⟨gp, 0, none⟩) 3 [2, 3, 5] _ _ (mkC f (nCh f)) _ _ (mkL f (nCh f - 1)) (pR f) W (Kd.C_below FP.out hW) (Nat.le_refl _) (Kd.C_below C1.out.2.2 hW) C1.out.2.1 (Kd.C_below C2.out.2.2 hW) C2.out.2.1 K4.out)
  have HTC := Lib.hid (fun (W : World) (hW : Below w2.heap.size w2 W) => schismalaw51_strains.calls k5 (some ⟨gp, 0, none⟩) 3 [2, 3, 5] _ _ (mkC f (nCh f)) _ _ (mkL f (nCh f - 1)) (pS f) W (Kd.C_below FP.out hW) (Nat.le_refl _) (Kd.C_below C1.out.2.2 hW) C1.out.2.1 (Kd.C_below C2.out.2.2 hW) C2.out.2.1 K5.out)
  have BX := Aside0.mk (blk_new w2 (.cells #[.slice (some ⟨gp, 0, none⟩) 3 3, .slice AC (mkC f (nCh f)).length cC, .slice AL (mkL f (nCh f - 1)).length cL] 30))
  clear FP
  go_wp2_with fail
  refine (HRC.out _ (below_alloc (Below.refl _ _) _)).mono ?_
  rintro e w3 ⟨v3, rfl, h3, hB3⟩
  obtain ⟨A3, c3, rfl⟩ := Kd.N_slice h3
  have R3 := Aside0.mk (Kd.N_reads' h3)
  have hbk := (hB3.block _ (Array.getElem?_eq_some_iff.1 BX.out).1).trans BX.out
  have X3 := Aside0.mk hbk
  have e0 := blk_cell hbk 0
  have e1 := blk_cell hbk 1
  have e2 := blk_cell hbk 2
  simp only [List.getElem?_toArray, List.getElem?_cons_zero, List.getElem?_cons_succ] at e0 e1 e2
  have B3 := Aside0.mk (below_step (below_alloc (Below.refl w2.heap.size w2) _) hB3)
  clear hbk h3 hB3
  go_wp2_with fail
  refine (HDC.out _ B3.out).mono ?_
  rintro e w4 ⟨v4, rfl, h4, hB4⟩
  obtain ⟨A4, c4, rfl⟩ := Kd.V_slice h4
  have R4 := Aside0.mk (Kd.V_reads' h4)
  have hbk := (hB4.block _ (Array.getElem?_eq_some_iff.1 X3.out).1).trans X3.out
  have X4 := Aside0.mk hbk
  clear e0 e1 e2
  have e0 := blk_cell hbk 0
  have e1 := blk_cell hbk 1
  have e2 := blk_cell hbk 2
  simp only [List.getElem?_toArray, List.getElem?_cons_zero, List.getElem?_cons_succ] at e0 e1 e2
  have B4 := Aside0.mk (below_step B3.out hB4)
  have T4 := Aside0.mk hB4
  clear hbk h4 hB4
  go_wp2_with fail
  refine (HSC.out _ B4.out).mono ?_
  rintro e w5 ⟨v5, rfl, h5_, hB5⟩
  obtain ⟨A5, c5, rfl⟩ := Kd.S_slice h5_
  have R5 := Aside0.mk (Kd.S_reads' h5_)
  have hbk := (hB5.block _ (Array.getElem?_eq_some_iff.1 X4.out).1).trans X4.out
  have X5 := Aside0.mk hbk
  clear e0 e1 e2
  have e0 := blk_cell hbk 0
  have e1 := blk_cell hbk 1
  have e2 := blk_cell hbk 2
  simp only [List.getElem?_toArray, List.getElem?_cons_zero, List.getElem?_cons_succ] at e0 e1 e2
  have B5 := Aside0.mk (below_step B4.out hB5)
  have T5 := Aside0.mk hB5
  clear hbk h5_ hB5
  go_wp2_with fail
  refine (HOC.out _ B5.out).mono ?_
  rintro e w7 ⟨v7, rfl, h7, hB7⟩
  obtain ⟨A7, c7, rfl⟩ := Kd.N_slice h7
  have R7 := Aside0.mk (Kd.N_reads' h7)
  have X7 := Aside0.mk ((hB7.block _ (Array.getElem?_eq_some_iff.1 X5.out).1).trans X5.out)
  clear e0 e1 e2
  have B7 := Aside0.mk (below_step B5.out hB7)
  have T7 := Aside0.mk hB7
  clear h7 hB7
  go_wp2_with fail
  refine (schismalaw51_rowsEqual.calls A3 c3 (pR f) A7 c7 (pR f) true w7 (Kd.C_below R3.out.2.2 (below_step T4.out (below_step T5.out T7.out))) R3.out.2.1 R7.out.2.2 R7.out.2.1 (by simp [schismalaw51_rowsEqual.f])).mono ?_
  rintro e w8 ⟨rfl, ⟨nd, rfl⟩⟩
  obtain ⟨n1, hn1⟩ : ∃ n1, n1 = nCh f - 1 := ⟨_, rfl⟩
  obtain ⟨ad, B8, c8, rfl, e8, l8, D8'⟩ := at_L1 R7.out.2.2 (n1 : Int) (by omega) (by rw [LR.out]; omega)
  rw [show rd_L1 (pR f) (n1 : Int) = pD f from by rw [rd_L1, Int.toNat_natCast, hn1]; exact PL.out] at e8 l8 D8'
  rw [Int.toNat_natCast] at e8
  have C8 := Aside0.mk D8'
  have L8 := Aside0.mk l8
  have hwr : IntKind.i64.wrap (((pR f).length : Int) - 1) = (n1 : Int) := by rw [IntKind.wrap_i64, LR.out]; omega
  have hix0 : (0 : Int) ≤ (n1 : Int) := by omega
  have hix1 : (n1 : Int) < ((pR f).length : Int) := by rw [LR.out]; omega
  clear D8' l8 hn1
  go_wp2_with fail
  refine (api_Row_int_12.calls k6 _ _ (pD f) _ _ (pD f) true _ ?b1 R4.out.2.1 ?b2 L8.out K6.out).mono ?_
  case b1 => exact Kd.C_below R4.out.2.2 (below_step T5.out (below_step T7.out (pw_below_drewN (Below.refl _ _) nd)))
  case b2 => exact Kd.C_below C8.out (pw_below_drewN (Below.refl _ _) nd)
  rintro e w9 ⟨rfl, ⟨nd2, rfl⟩⟩
  have hbk := X7.out
  have e0 := blk_cell hbk 0
  have e1 := blk_cell hbk 1
  have e2 := blk_cell hbk 2
  simp only [List.getElem?_toArray, List.getElem?_cons_zero, List.getElem?_cons_succ] at e0 e1 e2
  have B9 := Aside0.mk (pw_below_drewN B7.out (nd + nd2))
  clear hbk e8 hwr hix0 hix1
  go_wp2_with fail
  refine (HTC.out _ B9.out).mono ?_
  rintro e w10 ⟨v10, rfl, h10, hB10⟩
  obtain ⟨A10, c10, rfl⟩ := Kd.N_slice h10
  have R10 := Aside0.mk (Kd.N_reads' h10)
  have T10 := Aside0.mk hB10
  clear e0 e1 e2 h10 hB10
  go_wp2_with fail
  refine (equalStrains.holds A5 c5 (pS f) A10 c10 (pS f) w10 ?b3 R10.out.2.2).mono ?_
  case b3 => exact Kd.C_below R5.out.2.2 (below_step T7.out (below_step (pw_below_drewN (Below.refl _ _) (nd + nd2)) T10.out))
  rintro e w11 ⟨rfl, hB11⟩
  have T11 := Aside0.mk hB11
  clear hB11
  rw [decide_eq_true rfl]
  go_wp2
  go_ret
  exact ⟨rfl, below_step B2.out (below_step B9.out (below_step T10.out T11.out))⟩
end Go.Proofs.Ytdcpmggjhmdmmaa.X

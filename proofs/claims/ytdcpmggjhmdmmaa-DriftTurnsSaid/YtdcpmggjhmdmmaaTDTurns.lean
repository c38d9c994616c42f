-- what is used of it (wip/tools/slim.py)
/- The walk of the law DriftTurns: for any plan and any number it answers true. -/
import Derived.Test.YtdcpmggjhmdmmaaTDTurnP
import Derived.Test.YtdcpmggjhmdmmaaTDMake
import Derived.Test.YtdcpmggjhmdmmaaTDSame
import Derived.Test.YtdcpmggjhmdmmaaTDRepeat
namespace Go.Proofs.Ytdcpmggjhmdmmaa.X
open Go.RowKit Go.Proofs.YtdcpmggjhmdmmaaW.PrintWords Go.Proofs.YtdcpmggjhmdmmaaW.PrintLast Go.Proofs.YtdcpmggjhmdmmaaW.PrintMore
set_option linter.unusedVariables false
theorem turns_fresh {w5 wr : World} {b5 b12 gp cp n2 : Nat} {ro : Obj} {C : List (List (List Int))} {L : List (List S33)} {vC vL : Value} (h : MQ w5 b5 b12 gp cp ro [] C L vC vL wr) (h2 : n2 ≤ w5.heap.size) (h12 : b12 = w5.heap.size) (h5 : b5 = n2) :
    (∀ k, k < n2 → Out (some b12 :: some b5 :: vL.ownBlock :: []) k ∧ some k ≠ vC.ownBlock) ∧ ∀ k, wr.heap.size ≤ k → Out (some b12 :: some b5 :: vL.ownBlock :: []) k := by
  refine ⟨fun k hk => ?_, fun k hk => ?_⟩
  · have hL : some k ≠ vL.ownBlock := fun e => by have := Kd.N_base h.L k e.symm; omega
    have hC : some k ≠ vC.ownBlock := fun e => by have := Kd.N_base h.C k e.symm; omega
    simp only [Out, List.mem_cons, List.not_mem_nil, or_false, not_or]
    exact ⟨⟨by simp; omega, by simp; omega, hL⟩, hC⟩
  · have h1 := h.fresh k hk
    simp only [Out, List.mem_cons, List.not_mem_nil, or_false, not_or] at h1 ⊢
    exact ⟨h1.1, h1.2.1, h1.2.2.2⟩
theorem turns_end (C : List (List (List Int))) (h : 1 ≤ C.length) : C.reverse.take (C.length - 1 - 0) ++ [C.getD 0 []] = C.reverse := by
  have h1 : C.length - 1 < C.reverse.length := by rw [List.length_reverse]; omega
  have h2 := List.take_succ_eq_append_getElem h1
  rw [show C.length - 1 + 1 = C.reverse.length by rw [List.length_reverse]; omega, List.take_length] at h2
  rw [Nat.sub_zero]
  have h3 : C.reverse[C.length - 1] = C.getD 0 [] := by
    have := rev_get C [] (i := C.length - 1) (by omega)
    rw [List.getD_eq_getElem?_getD, List.getElem?_eq_getElem h1, show C.length - 1 - (C.length - 1) = 0 by omega] at this
    exact this
  rw [← h3, ← h2]
theorem turns_endL (L : List (List S33)) {n : Nat} (h : (revL L).length ≤ n) : (revL L).take n = revL L := List.take_of_length_le h
theorem turns_next (C : List (List (List Int))) {i : Nat} (h : i + 1 < C.length) : C.reverse.take (C.length - 1 - (i + 1)) ++ [C.getD (i + 1) []] = C.reverse.take (C.length - 1 - i) := by
  have h1 : C.length - 1 - (i + 1) < C.reverse.length := by rw [List.length_reverse]; omega
  have h2 := List.take_succ_eq_append_getElem h1
  have h3 : C.reverse[C.length - 1 - (i + 1)] = C.getD (i + 1) [] := by
    have := rev_get C [] (i := C.length - 1 - (i + 1)) (by omega)
    rw [List.getD_eq_getElem?_getD, List.getElem?_eq_getElem h1, show C.length - 1 - (C.length - 1 - (i + 1)) = i + 1 by omega] at this
    exact this
  rw [← h3, ← h2]
  congr 1
  omega
theorem turns_nextL (C : List (List (List Int))) (L : List (List S33)) (hL : L.length + 1 = C.length) {i : Nat} (h : i + 1 < C.length) : (revL L).take (C.length - 1 - (i + 1)) ++ [(L.getD i []).map swp] = (revL L).take (C.length - 1 - i) := by
  have h1 : C.length - 1 - (i + 1) < (revL L).length := by rw [revL_len]; omega
  have h2 := List.take_succ_eq_append_getElem h1
  have h3 : (revL L)[C.length - 1 - (i + 1)] = (L.getD i []).map swp := by
    have := revL_get L (i := C.length - 1 - (i + 1)) (by omega)
    rw [List.getD_eq_getElem?_getD, List.getElem?_eq_getElem h1, show L.length - 1 - (C.length - 1 - (i + 1)) = i by omega] at this
    exact this
  rw [← h3, ← h2]
  congr 1
  omega
theorem turns_grown {w2 w5 wr : World} {b5 b12 gp cp : Nat} {ro : Obj} {T : List (Option Nat)} {C : List (List (List Int))} {L : List (List S33)} {vC vL : Value} (h : MQ w5 b5 b12 gp cp ro T C L vC vL wr) (hb : Below w2.heap.size w2 wr) (h2 : w2.heap.size ≤ w5.heap.size) (o : Obj) (w' : World) {row : Option Nat} (hg : (wr.alloc o).grownBy w' row) (hr : ∀ k, row = some k → w5.heap.size ≤ k) : Below w2.heap.size w2 w' :=
  (below_alloc hb o).grown hg (by rw [World.size_alloc]; have := hb.size; omega) (fun k e => Nat.le_trans h2 (hr k e))
theorem primes45 : Ev (fun k => api_Primes_int_45.f k [2, 3, 5] [2, 3, 5]) true := Ev.of (api_Primes_int_45.mono _ _) (k := 20) (by kernel_rfl)
theorem info53sz' : (Try.prog.info? 53).map (·.size) = some 68 := by kernel_rfl
set_option maxRecDepth 100000 in
set_option maxHeartbeats 8000000 in
theorem turns_walk (cs : Array Value) (f : Nat → Int) (hp : PlanOk cs f) (m : Int) (w : World) :
    Calls Try.prog 5 #[.agg cs, .int .i64 m] w fun e w' => e = .returned (.bool true) ∧ Below w.heap.size w w' := by
  have hu30 := Try.underlying30
  have hu53 := Try.underlying53
  have HP := Aside0.mk hp
  clear hp
  go_enter Try.func5, Try.ntmps5
  go_upto_region 1 with ((with_reducible refine gate_dst (N := 2) rfl ?_); refine box_event ?hg (N := 2) ?hd (cs := cs) (t := 53) ?hr ?_; (case hd => rfl); (case hg => rfl); (case hr => first | (go_simp; done) | (go_simp; rfl)); intro gb hgb w6 hbox hb; have HBX := Aside0.mk hbox; have HB6 := Aside0.mk hb; clear hbox hb hgb)
  go_wp2_with fail
  refine (schismalaw51_known.calls true _ rfl).mono ?_
  rintro e w1 ⟨rfl, hB⟩
  have HB := Aside0.mk (below_step HB6.out hB)
  have HX1 := Aside0.mk ((hB.block gb (Array.getElem?_eq_some_iff.1 HBX.out).1).trans HBX.out)
  clear hB
  go_wp2_with (first | ((with_reducible refine gate_dst (N := 23) rfl ?_); refine wpList_load_row rfl 53 _ rfl gb rfl 53 cs (0, 0) _ HX1.out hu53 rfl ?_ ?_; exact info53sz'.trans (congrArg some HP.out.size.symm)))
  refine (make_walk cs f HP.out _).mono ?_
  rintro e w2 ⟨gp, vC, vL, rfl, hB2, hP, hC, hL⟩
  obtain ⟨C, hCe⟩ : ∃ C, C = mkC f (nCh f) := ⟨_, rfl⟩
  obtain ⟨L, hLe⟩ : ∃ L, L = mkL f (nCh f - 1) := ⟨_, rfl⟩
  have HVW : VW 3 C L := by rw [hCe, hLe]; exact plan_vw f
  have hCl : C.length = nCh f := by rw [hCe, mkC_len]
  have hLl : L.length = nCh f - 1 := by rw [hLe, mkL_len]
  rw [← hCe] at hC
  rw [← hLe] at hL
  obtain ⟨AC, cC, rfl⟩ := Kd.N_slice hC
  obtain ⟨AL, cL, rfl⟩ := Kd.N_slice hL
  have B2 := Aside0.mk (below_step HB.out hB2)
  have FP := Aside0.mk (Kd.F_now hP)
  have PF := Aside0.mk hP
  have NC := Aside0.mk hC
  have NL := Aside0.mk hL
  have C1 := Aside0.mk (Kd.N_reads' hC)
  have C2 := Aside0.mk (Kd.N_reads' hL)
  have HE := Aside0.mk (And.intro hCe (And.intro hLe (And.intro hCl hLl)))
  have hv := HVW
  have hvr := rev_vw HVW
  clear hB2 hP hC hL hCe hLe hCl hLl
  have HRV := Lib.hid (fun (W : World) (hW : Below w2.heap.size w2 W) => reverse_walk (some ⟨gp, 0, none⟩) AC AL 3 cC cL C L hv W (Kd.C_below FP.out hW) (Nat.le_refl _) (Kd.C_below C1.out.2.2 hW) C1.out.2.1 (Kd.C_below C2.out.2.2 hW) C2.out.2.1)
  have HRP := Lib.hid (fun (W : World) (hW : Below w2.heap.size w2 W) => repeat_walk f m (some ⟨gp, 0, none⟩) AC AL 3 cC cL W (Kd.C_below FP.out hW) (Nat.le_refl _) (by rw [← HE.out.1]; exact Kd.C_below C1.out.2.2 hW) (by rw [← HE.out.1]; exact C1.out.2.1) (by rw [← HE.out.2.1]; exact Kd.C_below C2.out.2.2 hW) (by rw [← HE.out.2.1]; exact C2.out.2.1))
  rw [← HE.out.1, ← HE.out.2.1] at HRP
  clear hv
  have bx2 := blk_new w2 (.cells #[.slice (some ⟨gp, 0, none⟩) 3 3, .slice AC C.length cC, .slice AL L.length cL] 30)
  have BX2 := Aside0.mk bx2
  obtain ⟨b5, hb5⟩ : ∃ b5, b5 = w2.heap.size := ⟨_, rfl⟩
  rw [← hb5] at bx2
  go_wp2_with fail
  refine (HRV.out _ (below_alloc (Below.refl _ _) _)).mono ?_
  rintro e w3 ⟨gp3, cp3, A31, c31, A32, c32, rfl, hB3, hP3, hc3, hC3, hl3, hL3, hl33⟩
  have hvl := blk_below BX2.out hB3
  rw [← hb5] at hvl ⊢
  have HRV2 := fun (W : World) (hW : Below w3.heap.size w3 W) => reverse_walk (some ⟨gp3, 0, none⟩) A31 A32 cp3 c31 c32 C.reverse (revL L) hvr W (Kd.C_below hP3 hW) hc3 (by rw [List.length_reverse]; exact Kd.C_below hC3 hW) (by rw [List.length_reverse]; exact hl3) (by rw [revL_len]; exact Kd.C_below hL3 hW) (by rw [revL_len]; exact hl33)
  simp only [List.length_reverse, revL_len, List.reverse_reverse, revL_revL] at HRV2
  have HRV2' := Lib.hid HRV2
  have V3 := Aside0.mk (And.intro hP3 (And.intro hc3 (And.intro hC3 (And.intro hl3 (And.intro hL3 hl33)))))
  have B3 := Aside0.mk (below_step (below_alloc (Below.refl w2.heap.size w2) _) hB3)
  have W3 := Aside0.mk hvl
  have bv3 := blk_new w3 (.cells #[.slice (some ⟨gp3, 0, none⟩) 3 cp3, .slice A31 C.length c31, .slice A32 L.length c32] 30 (0, 0))
  have BV3 := Aside0.mk bv3
  obtain ⟨b6, hb6⟩ : ∃ b6, b6 = w3.heap.size := ⟨_, rfl⟩
  have HB5 := Aside0.mk hb5
  clear hb5 HRV2 hP3 hc3 hC3 hl3 hL3 hl33 hvr hvl bx2 hB3 bv3
  go_wp2_with fail
  refine (HRV2'.out _ (below_alloc (Below.refl _ _) _)).mono ?_
  rintro e w4 ⟨gp4, cp4, A41, c41, A42, c42, rfl, hB4, hP4, hc4, hC4, hl4, hL4, hl44⟩
  have hv4 := blk_below BV3.out hB4
  have hw4 := blk_below (blk_alloc W3.out (.cells #[.slice (some ⟨gp3, 0, none⟩) 3 cp3, .slice A31 C.length c31, .slice A32 L.length c32] 30 (0, 0))) hB4
  rw [← hb6] at hv4 ⊢
  have V4 := Aside0.mk (And.intro hP4 (And.intro hc4 (And.intro hC4 (And.intro hl4 (And.intro hL4 hl44)))))
  have T4 := Aside0.mk (below_step (below_alloc (Below.refl w3.heap.size w3) _) hB4)
  have BK4 := Aside0.mk (blk_new w4 (.cells #[.slice (some ⟨gp4, 0, none⟩) 3 cp4, .slice A41 C.length c41, .slice A42 L.length c42] 30 (0, 0)))
  have W4 := Aside0.mk (And.intro hw4 hv4)
  obtain ⟨b8, hb8⟩ : ∃ b8, b8 = w4.heap.size := ⟨_, rfl⟩
  have HB6' := Aside0.mk hb6
  have e0 := fun (o : Obj) => blk_cell (blk_alloc hw4 o) 0
  have e1 := fun (o : Obj) => blk_cell (blk_alloc hw4 o) 1
  have e2 := fun (o : Obj) => blk_cell (blk_alloc hw4 o) 2
  simp only [List.getElem?_toArray, List.getElem?_cons_zero, List.getElem?_cons_succ] at e0 e1 e2
  clear hb6 hB4 hP4 hc4 hC4 hl4 hL4 hl44 hv4 hw4
  go_wp2_with fail
  refine (HRP.out _ (below_step B3.out (below_step T4.out (below_alloc (Below.refl _ _) _)))).mono ?_
  rintro e w5 ⟨AX, cX, rfl, hlX, hCX, hB5⟩
  have hk5 := blk_below BK4.out hB5
  have hw5 := blk_below (blk_alloc W4.out.1 (.cells #[.slice (some ⟨gp4, 0, none⟩) 3 cp4, .slice A41 C.length c41, .slice A42 L.length c42] 30 (0, 0))) hB5
  have hv5 := blk_below (blk_alloc W4.out.2 (.cells #[.slice (some ⟨gp4, 0, none⟩) 3 cp4, .slice A41 C.length c41, .slice A42 L.length c42] 30 (0, 0))) hB5
  rw [← hb8] at hk5 ⊢
  have V5 := Aside0.mk (And.intro hlX hCX)
  have T5 := Aside0.mk (below_step (below_alloc (Below.refl w4.heap.size w4) _) hB5)
  have W5 := Aside0.mk (And.intro hw5 (And.intro hv5 hk5))
  clear e0 e1 e2
  have e0 := blk_cell hw5 0
  have e1 := fun (o : Obj) => blk_cell (blk_alloc hw5 o) 1
  simp only [List.getElem?_toArray, List.getElem?_cons_zero, List.getElem?_cons_succ] at e0 e1
  have HB8 := Aside0.mk hb8
  obtain ⟨r1, r2, hr⟩ : ∃ r1 r2, pRep f m = (r1, r2) := ⟨_, _, rfl⟩
  rw [hr] at hlX hCX V5 ⊢
  have HR := Aside0.mk hr
  clear hb8 hlX hCX hk5 hw5 hv5 hB5 hr
  go_wp2
  have hCl := HE.out.2.2.1
  have hLl := HE.out.2.2.2
  have h5 := nCh_pos f
  obtain ⟨gC, capC, eC, -⟩ := Kd.N_form NC.out (by omega)
  injection eC with eC1 eC2 eC3
  subst eC1
  clear eC2 eC3 capC
  obtain ⟨W7, hW7⟩ : ∃ W7, W7 = w5.alloc (.cells #[.slice (some ⟨gp, 0, none⟩) 3 3, .slice none 0 0, .slice none 0 0] 30) := ⟨_, rfl⟩
  obtain ⟨b12, hb12⟩ : ∃ b12, b12 = w5.heap.size := ⟨_, rfl⟩
  have hb55 : b5 < w5.heap.size := (Array.getElem?_eq_some_iff.1 W5.out.1).1
  have B25 := Aside0.mk (below_step B3.out (below_step T4.out T5.out))
  have hs25 := below_size B25.out
  have M7 : MQ w5 b5 b12 gp 3 (.cells #[.slice (some ⟨gp, 0, none⟩) 3 3, .slice (some ⟨gC, 0, none⟩) C.length cC, .slice AL L.length cL] 30 (0, 0)) [] [] [] (.slice none 0 0) (.slice none 0 0) W7 := by
    rw [hW7]
    refine ⟨below_alloc (Below.refl _ _) _, by omega, by omega, blk_alloc W5.out.1 _, by rw [hb12]; exact blk_new _ _, Kd.N_nil _ _ _ _ _, Kd.N_nil _ _ _ _ _, ?_, fun b hm => absurd hm (by simp)⟩
    refine Kd.F_mono (Kd.F_below (Kd.F_bound PF.out) (below_step B25.out (below_alloc (Below.refl _ _) _))) (fun k hk => ?_)
    have h9 := HB5.out
    simp only [Out, List.mem_cons, List.not_mem_nil, or_false, not_or, Value.ownBlock]
    exact ⟨by simp; omega, by simp; omega, by simp, by simp⟩
  rw [← hW7, ← hb12]
  have M7' := Aside0.mk M7
  have HN := Aside0.mk (And.intro hb12 (And.intro hb55 hs25))
  have HLEN := Aside0.mk (And.intro hCl (And.intro hLl h5))
  have hC1 : 1 ≤ C.length := by omega
  have hC5 : C.length ≤ 5 := by omega
  have hLC : L.length + 1 = C.length := by omega
  clear M7 hb12 hb55 hs25 hW7 hCl hLl h5
  go_loopw [13] (fun v wr => ∃ wC wL, (∃ i : Nat, i < C.length ∧ v = .int .i64 i ∧ Aside0 (MQ w5 b5 b12 gp 3 (.cells #[.slice (some ⟨gp, 0, none⟩) 3 3, .slice (some ⟨gC, 0, none⟩) C.length cC, .slice AL L.length cL] 30 (0, 0)) [] (C.reverse.take (C.length - 1 - i)) ((revL L).take (C.length - 1 - i)) wC wL wr)) ∨ (v = .int .i64 (-1) ∧ Aside0 (MQ w5 b5 b12 gp 3 (.cells #[.slice (some ⟨gp, 0, none⟩) 3 3, .slice (some ⟨gC, 0, none⟩) C.length cC, .slice AL L.length cL] 30 (0, 0)) [] C.reverse (revL L) wC wL wr))) (fun v _ => (intOf v + 1).toNat)
  case atStart =>
    refine ⟨.slice none 0 0, .slice none 0 0, .inl ⟨C.length - 1, by omega, ?_, ?_⟩⟩
    · rw [show wrap64 ((C.length : Int) - 1) = ((C.length - 1 : Nat) : Int) by unfold wrap64; omega]
    · rw [show C.length - 1 - (C.length - 1) = 0 by omega, List.take_zero, List.take_zero]
      exact M7'
  case round =>
    obtain ⟨wC, wL, hh⟩ := hrel
    rcases hh with ⟨i, hi, rfl, HSt⟩ | ⟨rfl, HSt⟩
    · clear M7'
      have hwi : IntKind.i64.wrap ((i : Int) - 1) = (i : Int) - 1 := by rw [IntKind.wrap_i64]; omega
      obtain ⟨cs1, hcl, hF, hcc, -⟩ := Kd.N_elem NC.out [] (i : Int) (by omega) (by omega)
      rw [Int.toNat_natCast] at hF hcc
      obtain ⟨B0, cc, rfl, hlc, -⟩ := Kd.FK_slice_open hF
      have hcell := hcc 0 _ rfl
      rw [Nat.add_zero, show (Kd.slice 25 (Kd.slice 3 (Kd.int .i64))).sz = 1 from rfl, Nat.mul_one] at hcell
      obtain ⟨row, hrow⟩ : ∃ row, row = C.getD i [] := ⟨_, rfl⟩
      rw [← hrow] at hF hcell
      have B2r := Aside0.mk (below_step B25.out HSt.out.bel)
      have hgC : gC < w2.heap.size := Kd.N_lt NC.out gC rfl
      have hcr := (B2r.out.cell (p := ⟨gC, i, none⟩) hgC).trans hcell
      have FKr := Aside0.mk (Kd.FK_mono (Kd.FK_step (Kd.FK_bound hF) (fun k hk hlt => (B2r.out.block k hk.2))) (fun k hk => hk.2) : Kd.FK (Kd.slice 25 (Kd.slice 3 (Kd.int .i64))) wr (fun k => k < w2.heap.size) row [.slice B0 row.length cc])
      have HROW := Aside0.mk hrow
      clear hcl hF hcc hcell hrow hlc
      go_upto_region 11 with (fail)
      go_cut [13] (fun v13 wc => ∃ wC1, v13 = .int .i64 i ∧ Aside0 (MQ w5 b5 b12 gp 3 (.cells #[.slice (some ⟨gp, 0, none⟩) 3 3, .slice (some ⟨gC, 0, none⟩) C.length cC, .slice AL L.length cL] 30 (0, 0)) [] (C.reverse.take (C.length - 1 - i) ++ [row]) ((revL L).take (C.length - 1 - i)) wC1 wL wc))
      case first =>
        obtain ⟨A5, N5, c5, rfl⟩ := N_val3 HSt.out.C
        have hbk := HSt.out.box
        have hbw := HSt.out.res
        have eB := fun (o : Obj) => blk_cell (blk_alloc hbk o) 1
        have eB' := blk_cell hbk 1
        have eW := fun (o : Obj) => blk_cell (blk_alloc hbw o) 1
        have eW' := blk_cell hbw 1
        simp only [List.getElem?_toArray, List.getElem?_cons_zero, List.getElem?_cons_succ] at eB eB' eW eW'
        have MD := Aside0.mk (HSt.out.later (below_drew (Below.refl wr.heap.size wr)))
        have FKd := Aside0.mk (Kd.FK_below FKr.out (below_drew (Below.refl wr.heap.size wr)))
        have hsw : Aside0 (∀ o, (wr.alloc o).drew = (wr.drew).alloc o) := ⟨fun o => rfl⟩
        have hsz8 : Aside0 (wr.drew.heap.size = wr.heap.size) := ⟨rfl⟩
        have PL := Aside0.mk (show ((C.reverse.take (C.length - 1 - i)).length + 1) * 24 ≤ 140737488355328 by rw [List.length_take, List.length_reverse]; omega)
        have PF := Aside0.mk (turns_fresh HSt.out HN.out.2.2 HN.out.1 HB5.out)
        have hix0 : (0 : Int) ≤ (i : Int) := by omega
        have hix1 : (i : Int) < (C.length : Int) := by omega
        clear hbk hbw
        go_wp2
        go_region_law (rw [hsw.out]; refine Kd.N_append_step (Kd.slice 25 (Kd.slice 3 (Kd.int .i64))) (W := wr.drew) (w0 := w5) w5.heap.size ?_ (.tmp 53) (.tmp 59) 27 31 (.slice none 0 0) 24 ?_ ?_ ?_ ?_ ?_ ?_ (.slice A5 N5 c5) (C.reverse.take (C.length - 1 - i)) row [.slice B0 row.length cc] (Out (some b12 :: some b5 :: wL.ownBlock :: [])) (fun k => k < w2.heap.size) ?_ ?_ ?_ ?_ ?_ ?_ ?_ ?_ ?_ ?_; exact rfl; exact rfl; exact Try.underlying27; exact info31; exact rfl; decide; omega; exact rfl; exact rfl; exact FKd.out; exact PF.out.1; exact PF.out.2; exact MD.out.C; exact MD.out.bel; exact MD.out.bel.size; exact PL.out; intro v1 w2' hN hB hg hat; obtain ⟨A8, N8, c8, rfl⟩ := N_val3 hN; have HNN := Aside0.mk (MD.out.stepC hN hB hg hat); have hbk := (MD.out.keepC hg).1; have s1 := blk_cell hbk 1; have s2 := blk_frozen hbk 1; simp only [List.getElem?_toArray, List.getElem?_cons_zero, List.getElem?_cons_succ] at s1; clear hN hB hg hat hbk)
        all_goals
          (try go_wp2)
          refine Met.intro ?_
          go_step
          (repeat apply Exists.intro)
          refine ⟨?_, rfl⟩
          exact ⟨_, rfl, HNN⟩
      case rest =>
        obtain ⟨wC1, rfl, HS2⟩ := hcut
        by_cases hi0 : i = 0
        · subst hi0
          clear HSt
          go_wp2
          go_roundw
          case rel => exact ⟨wC1, wL, .inr ⟨by go_num, by
            have h1 := HS2.out
            rw [HROW.out, turns_end C (by omega), turns_endL L (by rw [revL_len]; omega)] at h1
            exact ⟨h1⟩⟩⟩
          case measure => simp [intOf]
        · have hd0 : decide ((i : Int) = 0) = false := by simp; omega
          obtain ⟨j, hj⟩ : ∃ j, i = j + 1 := ⟨i - 1, by omega⟩
          have hwr : IntKind.i64.wrap ((i : Int) - 1) = (j : Int) := by rw [IntKind.wrap_i64]; omega
          obtain ⟨gL, capL, eL, -⟩ := Kd.N_form NL.out (by omega)
          injection eL with eL1 eL2 eL3
          subst eL1
          obtain ⟨cs2, hcl2, hF2, hcc2, -⟩ := Kd.N_elem NL.out [] (j : Int) (by omega) (by omega)
          rw [Int.toNat_natCast] at hF2 hcc2
          obtain ⟨B1, c1', rfl, hl1, hFl⟩ := Kd.FK_slice_open hF2
          have hcell2 := hcc2 0 _ rfl
          rw [Nat.add_zero, show (Kd.slice 33 k33).sz = 1 from rfl, Nat.mul_one] at hcell2
          obtain ⟨lrow, hlrow⟩ : ∃ lrow, lrow = L.getD j [] := ⟨_, rfl⟩
          rw [← hlrow] at hFl hcell2 hl1
          have hll : lrow.length ≤ 12 := by rw [hlrow]; exact (HVW.ln j (by omega)).2
          have B2c := Aside0.mk (below_step B25.out HS2.out.bel)
          have hgL : gL < w2.heap.size := Kd.N_lt NL.out gL rfl
          have hcr2 := (B2c.out.cell (p := ⟨gL, j, none⟩) hgL).trans hcell2
          have HCL := Aside0.mk (Kd.F_now hFl)
          have HLR := Aside0.mk hlrow
          have HJI := Aside0.mk hj
          have hjx0 : (0 : Int) ≤ (j : Int) := by omega
          have hjx1 : (j : Int) < (L.length : Int) := by omega
          have e52 := blk_cell HS2.out.res 2
          simp only [List.getElem?_toArray, List.getElem?_cons_zero, List.getElem?_cons_succ] at e52
          clear hcl2 hF2 hcc2 hcell2 hlrow hj eL2 eL3 hl1 hFl HSt hwi hcr
          go_wp2
          rw [show ((i : Int) == 0) = false from beq_false_of_ne (by omega)]
          go_loopw [14, 71] (fun v14 v wr2 => ∃ k : Nat, k ≤ lrow.length ∧ v = .int .i64 k ∧ Aside0 (MQ w5 b5 b12 gp 3 (.cells #[.slice (some ⟨gp, 0, none⟩) 3 3, .slice (some ⟨gC, 0, none⟩) C.length cC, .slice (some ⟨gL, 0, none⟩) L.length cL] 30 (0, 0)) (v14.ownBlock :: []) (C.reverse.take (C.length - 1 - i) ++ [row]) ((revL L).take (C.length - 1 - i)) wC1 wL wr2 ∧ Kd.N k33 33 wr2 w5.heap.size (Out (some b12 :: some b5 :: wC1.ownBlock :: wL.ownBlock :: [])) v14 ((lrow.take k).map swp) ∧ Below w2.heap.size w2 wr2)) (fun _ v _ => lrow.length - (intOf v).toNat)
          case atStart => exact ⟨0, Nat.zero_le _, rfl, ⟨HS2.out.nil, Kd.N_nil _ _ _ _ _, B2c.out⟩⟩
          case round =>
            obtain ⟨k, hk, rfl, HJ⟩ := hrel
            by_cases hlt : k < lrow.length
            · obtain ⟨a0, rfl, h00, h01⟩ := at_T33 (Kd.C_below HCL.out HJ.out.2.2) (k : Int) (by omega) (by omega)
              rw [Int.toNat_natCast] at h00 h01
              rw [rdT] at h00 h01
              obtain ⟨y, hy⟩ : ∃ y, y = lrow.getD k z33 := ⟨_, rfl⟩
              rw [← hy] at h00 h01
              have HY := Aside0.mk hy
              clear hy
              obtain ⟨A5, N5, c5, rfl⟩ := N_val3 HJ.out.2.1
              have MA := Aside0.mk (fun (o : Obj) => HJ.out.1.later (below_alloc (Below.refl _ _) o))
              have NA := Aside0.mk (fun (o : Obj) => Kd.N_alloc HJ.out.2.1 o)
              have FA := Aside0.mk (show ∀ (o : Obj) q, (wr.alloc o).heap.size ≤ q → Out (some b12 :: some b5 :: wC1.ownBlock :: wL.ownBlock :: []) q from fun o q hq => HJ.out.1.drop.fresh q (by rw [World.size_alloc] at hq; omega))
              have PL5 := Aside0.mk (show (((lrow.take k).map swp).length + 1) * 16 ≤ 140737488355328 by rw [List.length_map, List.length_take]; omega)
              have hsz := Aside0.mk (show ∀ o : Obj, (wr.alloc o).heap.size = wr.heap.size + 1 from fun o => World.size_alloc _ _)
              have PE := Aside0.mk (turns_grown HJ.out.1 HJ.out.2.2 HN.out.2.2)
              go_wp2_with (first | ((with_reducible refine gate_builtin (b := .append) (xs := #[.tmp 75, .tmp 81]) rfl ?_); at_builtin; (refine Kd.N_append k33 (w0 := w5) w5.heap.size ?_ (.tmp 75) (.tmp 81) 34 33 (.agg #[.int .i64 0, .int .i64 0]) 16 ?_ ?_ ?_ ?_ ?_ ?_ (.slice A5 N5 c5) ((lrow.take k).map swp) (swp y) [.int .i64 y.f1, .int .i64 y.f0] (Out (some b12 :: some b5 :: wC1.ownBlock :: wL.ownBlock :: [])) (fun _ => False) ?_ ?_ ?_ ?_ ?_ ?_ ?_ ?_ ?_ ?_; exact rfl; exact rfl; exact Try.underlying34; exact info33; exact rfl; decide; omega; exact rfl; rw [hsz.out]; exact rfl; exact k33_mkF _ _ _; exact fun _ hk => hk.elim; exact FA.out _; exact NA.out _; exact (MA.out _).bel; exact (MA.out _).bel.size; exact PL5.out; intro v1 w2' hN hB hg hat; have HNN := Aside0.mk (And.intro ((MA.out _).grown hg hB hat (Kd.N_lt hN)) (And.intro hN (PE.out _ _ hg (Kd.N_base HJ.out.2.1)))); clear hN hB hg hat)))
              go_roundw
              case rel => exact ⟨k + 1, by omega, by go_num, by rw [← take_swp lrow k hlt, ← HY.out]; exact HNN⟩
              case measure => simp [intOf]; omega
            · obtain rfl : k = lrow.length := by omega
              have HMd := Aside0.mk HJ.out.1.drop
              have hJ2 := HJ.out.2.1
              rw [List.take_length] at hJ2
              obtain ⟨A8, N8, c8, rfl⟩ := N_val3 hJ2
              obtain ⟨AW, NW, cW, rfl⟩ := N_val3 HMd.out.L
              have hbk := HMd.out.box
              have e2 := blk_cell hbk 2
              simp only [List.getElem?_toArray, List.getElem?_cons_zero, List.getElem?_cons_succ] at e2
              have PK := Aside0.mk (show Kd.FK (Kd.slice 33 k33) wr (Out (some b12 :: some b5 :: wC1.ownBlock :: (Value.slice AW NW cW).ownBlock :: [])) (lrow.map swp) [.slice A8 N8 c8] from by
                obtain ⟨h1, h2, -⟩ := Kd.N_reads' hJ2
                subst h1
                exact Kd.FK_slice_mk h2 (Kd.N_F hJ2))
              have PF := Aside0.mk (rev_freshL HMd.out)
              have PLN := Aside0.mk (show (((revL L).take (C.length - 1 - i)).length + 1) * 24 ≤ 140737488355328 by rw [List.length_take, revL_len]; omega)
              clear hbk hJ2
              go_wp2_with (first | ((with_reducible refine gate_builtin (b := .append) (xs := #[.tmp 85, .tmp 87]) rfl ?_); at_builtin; (refine Kd.N_append (Kd.slice 33 k33) (w0 := w5) w5.heap.size ?_ (.tmp 85) (.tmp 87) 28 34 (.slice none 0 0) 24 ?_ ?_ ?_ ?_ ?_ ?_ (.slice AW NW cW) ((revL L).take (C.length - 1 - i)) (lrow.map swp) [.slice A8 N8 c8] (Out (some b12 :: some b5 :: wC1.ownBlock :: [])) (Out (some b12 :: some b5 :: wC1.ownBlock :: (Value.slice AW NW cW).ownBlock :: [])) ?_ ?_ ?_ ?_ ?_ ?_ ?_ ?_ ?_ ?_; exact rfl; exact rfl; exact Try.underlying28; exact info34; exact rfl; decide; omega; exact rfl; exact rfl; exact PK.out; exact PF.out.1; exact PF.out.2; exact HMd.out.L; exact HMd.out.bel; exact HMd.out.bel.size; exact PLN.out; intro v1 w2' hN hB hg hat; obtain ⟨A9, N9, c9, rfl⟩ := N_val3 hN; have HNN := Aside0.mk (HMd.out.stepL hN hB hg hat); have hbk := (HMd.out.keepL hg).1; have s1 := blk_cell hbk 2; have s2 := blk_frozen hbk 2; simp only [List.getElem?_toArray, List.getElem?_cons_zero, List.getElem?_cons_succ] at s1; clear hN hB hg hat hbk)))
              go_roundw
              case rel => exact ⟨_, _, .inl ⟨j, by have := HJI.out; omega, by go_num, by
                have h1 := HNN.out
                have hji := HJI.out
                subst hji
                rw [HROW.out, HLR.out, turns_next C hi, turns_nextL C L hLC hi] at h1
                exact ⟨h1⟩⟩⟩
              case measure => have := HJI.out; simp [intOf]; omega
    · clear M7'
      have MZ := Aside0.mk HSt.out
      have BZ := Aside0.mk (below_step B25.out HSt.out.bel)
      have hx5 := (HSt.out.bel.block b5 HN.out.2.1).trans W5.out.1
      have hx6 := (HSt.out.bel.block b6 (Array.getElem?_eq_some_iff.1 W5.out.2.1).1).trans W5.out.2.1
      have hx8 := (HSt.out.bel.block b8 (Array.getElem?_eq_some_iff.1 W5.out.2.2).1).trans W5.out.2.2
      obtain ⟨AW1, NW1, cW1, rfl⟩ := N_val3 HSt.out.C
      obtain ⟨AW2, NW2, cW2, rfl⟩ := N_val3 HSt.out.L
      obtain ⟨hn1, hc1, hC1'⟩ := Kd.N_reads' HSt.out.C
      obtain ⟨hn2, hc2, hL1'⟩ := Kd.N_reads' HSt.out.L
      rw [List.length_reverse] at hn1
      rw [revL_len] at hn2
      subst hn1 hn2
      have hP1 := Kd.F_now HSt.out.p
      have hx12 := HSt.out.box
      have kV : ∀ W, Below wr.heap.size wr W → Below w3.heap.size w3 W := fun W hW => below_step T4.out (below_step T5.out (below_step HSt.out.bel hW))
      have kK : ∀ W, Below wr.heap.size wr W → Below w4.heap.size w4 W := fun W hW => below_step T5.out (below_step HSt.out.bel hW)
      have kW : ∀ W, Below wr.heap.size wr W → Below w2.heap.size w2 W := fun W hW => below_step BZ.out hW
      have HS1 := fun (W : World) (hW : Below wr.heap.size wr W) => same_alike (some ⟨gp3, 0, none⟩) A31 A32 (some ⟨gp, 0, none⟩) AW1 AW2 cp3 c31 c32 3 cW1 cW2 [2, 3, 5] C.reverse (revL L) W (Kd.C_below V3.out.1 (kV W hW)) V3.out.2.1 (by rw [List.length_reverse]; exact Kd.C_below V3.out.2.2.1 (kV W hW)) (by rw [revL_len]; exact Kd.C_below V3.out.2.2.2.2.1 (kV W hW)) (Kd.C_below hP1 hW) (Nat.le_refl _) (Kd.C_below hC1' hW) (Kd.C_below hL1' hW) primes45
      have HS2 := fun (W : World) (hW : Below wr.heap.size wr W) => same_alike (some ⟨gp4, 0, none⟩) A41 A42 (some ⟨gp, 0, none⟩) (some ⟨gC, 0, none⟩) AL cp4 c41 c42 3 cC cL [2, 3, 5] C L W (Kd.C_below V4.out.1 (kK W hW)) V4.out.2.1 (Kd.C_below V4.out.2.2.1 (kK W hW)) (Kd.C_below V4.out.2.2.2.2.1 (kK W hW)) (Kd.C_below hP1 hW) (Nat.le_refl _) (Kd.C_below C1.out.2.2 (kW W hW)) (Kd.C_below C2.out.2.2 (kW W hW)) primes45
      simp only [List.length_reverse, revL_len] at HS1
      have hk1 := plan_Drift f
      have hk2 := plan_DriftU f
      rw [← HE.out.1, ← HE.out.2.1] at hk1 hk2
      obtain ⟨k1, hk1⟩ := hk1.rounds
      obtain ⟨k2, hk2⟩ := hk2.rounds
      obtain ⟨k3, hk3⟩ := (plan_addU f).rounds
      have HD1 := fun (W : World) (hW : Below wr.heap.size wr W) => drift_Drift.calls k1 (some ⟨gp, 0, none⟩) 3 [2, 3, 5] (some ⟨gC, 0, none⟩) cC C AL cL L (pD f) 0 W (Kd.C_below hP1 hW) (Nat.le_refl _) (Kd.C_below C1.out.2.2 (kW W hW)) C1.out.2.1 (Kd.C_below C2.out.2.2 (kW W hW)) C2.out.2.1 hk1
      have HD2 := fun (W : World) (hW : Below wr.heap.size wr W) => drift_Drift.calls k2 (some ⟨gp3, 0, none⟩) cp3 [2, 3, 5] A31 c31 C.reverse A32 c32 (revL L) (pU f) 0 W (Kd.C_below V3.out.1 (kV W hW)) V3.out.2.1 (by rw [List.length_reverse]; exact Kd.C_below V3.out.2.2.1 (kV W hW)) (by rw [List.length_reverse]; exact V3.out.2.2.2.1) (by rw [revL_len]; exact Kd.C_below V3.out.2.2.2.2.1 (kV W hW)) (by rw [revL_len]; exact V3.out.2.2.2.2.2) hk2
      simp only [List.length_reverse, revL_len] at HD2
      have HS1' := Lib.hid HS1
      have HS2' := Lib.hid HS2
      have HD1' := Lib.hid HD1
      have HD2' := Lib.hid HD2
      have K3 := Aside0.mk hk3
      have VX := Aside0.mk (Kd.C_below V5.out.2 HSt.out.bel)
      have LX := Aside0.mk V5.out.1
      have e60 := blk_cell hx6 0
      have e61 := blk_cell hx6 1
      have e62 := blk_cell hx6 2
      have e120 := blk_cell hx12 0
      have e121 := blk_cell hx12 1
      have e122 := blk_cell hx12 2
      simp only [List.getElem?_toArray, List.getElem?_cons_zero, List.getElem?_cons_succ] at e60 e61 e62 e120 e121 e122
      have X5 := Aside0.mk hx5
      have X6 := Aside0.mk hx6
      have X8 := Aside0.mk hx8
      clear HS1 HS2 HD1 HD2 hk1 hk2 hk3 kV kK kW hP1 hc1 hc2 hC1' hL1' hx5 hx6 hx8 hx12 HSt
      go_wp2_with fail
      refine (HS1'.out _ (Below.refl _ _)).mono ?_
      rintro e wa ⟨rfl, hBa⟩
      have Ba := Aside0.mk hBa
      have hy8 := blk_below X8.out hBa
      have hy5 := blk_below X5.out hBa
      have Y5 := Aside0.mk hy5
      have Y6 := Aside0.mk (blk_below X6.out hBa)
      clear e60 e61 e62 e120 e121 e122
      have e80 := blk_cell hy8 0
      have e81 := blk_cell hy8 1
      have e82 := blk_cell hy8 2
      have e50 := blk_cell hy5 0
      have e51 := blk_cell hy5 1
      have e52 := blk_cell hy5 2
      simp only [List.getElem?_toArray, List.getElem?_cons_zero, List.getElem?_cons_succ] at e80 e81 e82 e50 e51 e52
      clear hBa hy8 hy5
      go_wp2_with fail
      refine (HS2'.out _ Ba.out).mono ?_
      rintro e wb ⟨rfl, hBb⟩
      have Bb := Aside0.mk (below_step Ba.out hBb)
      have hy5 := blk_below Y5.out hBb
      have Z6 := Aside0.mk (blk_below Y6.out hBb)
      clear e80 e81 e82 e50 e51 e52
      have e50 := blk_cell hy5 0
      have e51 := blk_cell hy5 1
      have e52 := blk_cell hy5 2
      simp only [List.getElem?_toArray, List.getElem?_cons_zero, List.getElem?_cons_succ] at e50 e51 e52
      clear hBb hy5
      go_wp2_with fail
      refine (HD1'.out _ Bb.out).mono ?_
      rintro e wd ⟨vd, rfl, hd, hBd⟩
      obtain ⟨Ad, cd, rfl⟩ := Kd.V_slice hd
      have RD := Aside0.mk (Kd.V_reads' hd)
      have Bd := Aside0.mk (below_step Bb.out hBd)
      have hy6 := blk_below Z6.out hBd
      clear e50 e51 e52
      have e60 := blk_cell hy6 0
      have e61 := blk_cell hy6 1
      have e62 := blk_cell hy6 2
      simp only [List.getElem?_toArray, List.getElem?_cons_zero, List.getElem?_cons_succ] at e60 e61 e62
      clear hBd hd hy6
      go_wp2_with fail
      refine (HD2'.out _ Bd.out).mono ?_
      rintro e wu ⟨vu, rfl, hu, hBu⟩
      obtain ⟨Au, cu, rfl⟩ := Kd.V_slice hu
      have RU := Aside0.mk (Kd.V_reads' hu)
      have Tu := Aside0.mk hBu
      have Bu := Aside0.mk (below_step Bd.out hBu)
      clear e60 e61 e62 hu hBu
      go_wp2_with fail
      refine (schismalaw51_add.calls k3 Ad cd (pD f) Au cu (pU f) [0, 0, 0] wu (Kd.C_below RD.out.2.2 Tu.out) RD.out.2.1 RU.out.2.2 RU.out.2.1 K3.out).mono ?_
      rintro e wz ⟨vz, rfl, hz, hBz⟩
      obtain ⟨Az, cz, rfl⟩ := Kd.R_slice hz
      have RZ := Aside0.mk (Kd.R_reads' hz)
      have Tz := Aside0.mk (below_step Tu.out hBz)
      have Bz := Aside0.mk (below_step Bu.out hBz)
      clear hz hBz
      go_wp2_with fail
      refine (schismalaw51_zero.calls Az cz [0, 0, 0] true wz RZ.out.2.2 RZ.out.2.1 rfl).mono ?_
      rintro e wy ⟨rfl, ⟨nd, rfl⟩⟩
      have BF := Aside0.mk (below_step B2.out (below_step BZ.out (pw_below_drewN Bz.out nd)))
      have RD' := Aside0.mk (Kd.C_below RD.out.2.2 (below_step Tz.out (pw_below_drewN (Below.refl _ _) nd)))
      have VX' := Aside0.mk (Kd.C_below VX.out (pw_below_drewN Bz.out nd))
      go_upto_region 26 with (fail)
      by_cases hm : m < 0 ∨ m > 1000
      · have hr := HR.out
        rw [pRep, if_pos hm] at hr
        obtain ⟨rfl, rfl⟩ := Prod.mk.inj hr
        clear hr
        by_cases hm0 : m < 0
        · have hd0 : decide (m < 0) = true := decide_eq_true hm0
          go_wp2
          go_ret
          exact ⟨rfl, BF.out⟩
        · have hd0 : decide (m < 0) = false := decide_eq_false hm0
          have hd1 : decide (m > 1000) = true := decide_eq_true (by omega)
          go_wp2
          go_ret
          exact ⟨rfl, BF.out⟩
      · have hm0 : 0 ≤ m := by omega
        have hm1 : m ≤ 1000 := by omega
        have hd0 : decide (m < 0) = false := decide_eq_false (by omega)
        have hd1 : decide (m > 1000) = false := decide_eq_false (by omega)
        obtain ⟨kt, hkt⟩ := (plan_times f m hm0 hm1).rounds
        have HT := Lib.hid (fun (W : World) (hW : Below (wz.drewN nd).heap.size (wz.drewN nd) W) => schismalaw51_times.calls kt Ad cd (pD f) m (pM f m) W (Kd.C_below RD'.out hW) RD.out.2.1 hkt)
        have hlg : schismalaw51_long.f (pM f m) = some (bad (pM f m)) := by
          unfold schismalaw51_long.f
          rw [if_pos (by rw [pM_len]; decide)]
          rfl
        have HLG := Aside0.mk hlg
        obtain ⟨ke, hke⟩ := (eq_ev (pM f m) (pM f m) (by rw [pM_len]; decide)).rounds
        rw [decide_eq_true rfl] at hke
        have KE := Aside0.mk hke
        clear hkt hlg hke hm0 hm1
        go_wp2_with fail
        refine (HT.out _ (Below.refl _ _)).mono ?_
        rintro e wt ⟨vt, rfl, ht, hBt⟩
        obtain ⟨At, ct, rfl⟩ := Kd.R_slice ht
        have RT := Aside0.mk (Kd.R_reads' ht)
        have Bt := Aside0.mk hBt
        clear ht hBt
        go_wp2_with fail
        refine (schismalaw51_long.calls At ct (pM f m) _ wt RT.out.2.2 RT.out.2.1 HLG.out).mono ?_
        rintro e wl ⟨rfl, ⟨nd2, rfl⟩⟩
        have BF2 := Aside0.mk (below_step BF.out (pw_below_drewN Bt.out nd2))
        cases hb : bad (pM f m) with
        | true =>
          have hr := HR.out
          rw [pRep, if_neg hm, if_pos hb] at hr
          obtain ⟨rfl, rfl⟩ := Prod.mk.inj hr
          clear hr
          go_wp2
          go_ret
          exact ⟨rfl, BF2.out⟩
        | false =>
          have hr := HR.out
          rw [pRep, if_neg hm, if_neg (by rw [hb]; decide)] at hr
          obtain ⟨rfl, rfl⟩ := Prod.mk.inj hr
          clear hr
          go_wp2_with fail
          refine (HT.out _ (pw_below_drewN Bt.out nd2)).mono ?_
          rintro e ws ⟨vs, rfl, hs, hBs⟩
          obtain ⟨As, cs', rfl⟩ := Kd.R_slice hs
          have RS := Aside0.mk (Kd.R_reads' hs)
          have Bs := Aside0.mk hBs
          clear hs hBs
          go_wp2_with fail
          refine (api_Row_int_12.calls ke AX cX (pM f m) As cs' (pM f m) true ws (Kd.C_below VX'.out (below_step (pw_below_drewN Bt.out nd2) Bs.out)) LX.out RS.out.2.2 RS.out.2.1 KE.out).mono ?_
          rintro e wq ⟨rfl, ⟨nd3, rfl⟩⟩
          go_wp2
          go_ret
          exact ⟨rfl, pw_below_drewN (below_step BF2.out Bs.out) nd3⟩
end Go.Proofs.Ytdcpmggjhmdmmaa.X

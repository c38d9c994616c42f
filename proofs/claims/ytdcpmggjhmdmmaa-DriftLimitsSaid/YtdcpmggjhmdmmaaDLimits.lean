/- The walk of the law DriftLimits, and its row. -/
import Derived.Test.YtdcpmggjhmdmmaaDPure
import Derived.Test.YtdcpmggjhmdmmaaDLib
import Derived.Lib.Hide
namespace Go.Proofs.Ytdcpmggjhmdmmaa.X
open Go.RowKit Go.Proofs.YtdcpmggjhmdmmaaW.PrintWords Go.Proofs.YtdcpmggjhmdmmaaW.PrintLast Go.Proofs.YtdcpmggjhmdmmaaW.PrintMore
set_option maxRecDepth 100000 in
set_option maxHeartbeats 1000000 in
theorem limits_walk (a b c : Int) (w : World) (ha0 : -32768 ≤ a) (ha1 : a ≤ 32767) (hb0 : -32768 ≤ b) (hb1 : b ≤ 32767) (hc0 : 0 ≤ c) (hc1 : c ≤ 255) :
    Calls Try.prog 3 #[.int .i16 a, .int .i16 b, .int .u8 c] w fun e w' => e = .returned (.bool true) ∧ Below w.heap.size w w' := by
  have hu30 := Try.underlying30
  go_enter Try.func3, Try.ntmps3
  go_wp2_with fail
  refine (schismalaw51_known.calls true _ rfl).mono ?_
  rintro e w1 ⟨rfl, hB⟩
  have HB := Aside0.mk hB
  clear hB
  go_wp2
  have H0 := st_start w1 (a.tmod 1001) (b.tmod 1001)
  obtain ⟨n, hn, hn1, hn5⟩ : ∃ n : Nat, 1 + c % 5 = (n : Int) ∧ 1 ≤ n ∧ n ≤ 5 := ⟨(1 + c % 5).toNat, by omega, by omega, by omega⟩
  simp only [hn]
  have tm : ∀ z : Int, -1000 ≤ z.tmod 1001 ∧ z.tmod 1001 ≤ 1000 := fun z => by
    have h1 := Int.lt_tmod_of_pos z (show (0 : Int) < 1001 by decide)
    have h2 := Int.tmod_lt_of_pos z (show (0 : Int) < 1001 by decide)
    omega
  obtain ⟨hx0, hx1⟩ := tm a
  obtain ⟨hy0, hy1⟩ := tm b
  clear tm
  generalize a.tmod 1001 = x0 at H0 hx0 hx1 ⊢
  generalize b.tmod 1001 = x1 at H0 hy0 hy1 ⊢
  have HS := Aside0.mk H0
  clear H0 hn
  obtain ⟨gw, hgw⟩ : ∃ gw, gw = w1.heap.size + 1 + 1 := ⟨_, rfl⟩
  obtain ⟨gp, hgp⟩ : ∃ gp, gp = w1.heap.size + 1 := ⟨_, rfl⟩
  obtain ⟨gx, hgx⟩ : ∃ gx, gx = w1.heap.size := ⟨_, rfl⟩
  rw [← hgw, ← hgp, ← hgx] at HS
  rw [← hgw, ← hgp, ← hgx]
  have HG := Aside0.mk (And.intro hgw (And.intro hgp hgx))
  clear hgw hgp hgx
  have HP := Aside0.mk (fun i h1 h5 => limits_pure x0 x1 i h1 h5 hx0 hx1 hy0 hy1)
  clear hx0 hx1 hy0 hy1
  go_loopw [32] (fun v wr => ∃ (i : Nat) (vC vL : Value), i ≤ n ∧ v = .int .i64 i ∧ Aside0 (St w1 gw gp gx x0 x1 i (i - 1) vC vL wr)) (fun v _ => n - (intOf v).toNat)
  case atStart => exact ⟨0, _, _, Nat.zero_le _, rfl, HS⟩
  case round =>
    obtain ⟨i, vC, vL, hi, rfl, HSt⟩ := hrel
    clear HS
    by_cases hlt : i < n
    · go_upto_region 9 with (fail)
      go_cut [10] (fun v10 wc => ∃ (vC vL : Value), v10 = .int .i64 i ∧ Aside0 (St w1 gw gp gx x0 x1 (i + 1) (i - 1) vC vL wc))
      case first =>
        obtain ⟨AC, NC, cC, rfl⟩ := N_val3 HSt.out.C
        have hbk := HSt.out.box
        have e1 := blk_cell hbk 1
        simp only [List.getElem?_toArray, List.getElem?_cons_zero, List.getElem?_cons_succ] at e1
        clear hbk
        have nC := fun k hk => ne_own HSt.out.C k hk
        have nL := fun k hk => ne_own HSt.out.L k hk
        have hgw := HSt.out.lt
        have PK := Aside0.mk (fk_chord HSt.out.x (by simp only [List.mem_cons, List.not_mem_nil, or_false, not_or]; exact ⟨by simp; omega, nC _ (Nat.le_refl _), nL _ (Nat.le_refl _)⟩) (by simp only [List.mem_cons, List.not_mem_nil, or_false, not_or]; exact ⟨by simp; omega, nC _ (by omega), nL _ (by omega)⟩))
        have PO := Aside0.mk (fun (o1 o2 : Obj) => (HSt.out.alloc o1).alloc o2)
        have hsz : Aside0 (∀ o1 o2, ((wr.alloc o1).alloc o2).heap.size = wr.heap.size + 1 + 1) := ⟨fun o1 o2 => by simp⟩
        have PF := Aside0.mk (show ∀ (o1 o2 : Obj) k, ((wr.alloc o1).alloc o2).heap.size ≤ k → Out [some gw, vL.ownBlock] k from fun o1 o2 k hk => by
          rw [hsz.out] at hk
          simp only [Out, List.mem_cons, List.not_mem_nil, or_false, not_or]
          exact ⟨by simp; omega, nL _ (by omega)⟩)
        have PL := Aside0.mk (show ((wC [x0, x1] i).length + 1) * 24 ≤ 140737488355328 by simp [wC]; omega)
        have PA := Aside0.mk (show ∀ k, Out [some gw, (Value.slice AC NC cC).ownBlock, vL.ownBlock] k → Out [some gw, vL.ownBlock] k ∧ some k ≠ (Value.slice AC NC cC).ownBlock from fun k hk => by
          simp only [Out, List.mem_cons, List.not_mem_nil, or_false, not_or] at hk ⊢
          exact ⟨⟨hk.1, hk.2.2⟩, hk.2.1⟩)
        clear nC nL hgw
        go_wp2_with (first | ((with_reducible refine gate_builtin (b := .append) (xs := #[.tmp 36, .tmp 40]) rfl ?_); at_builtin; (refine Kd.N_append (Kd.slice 25 (Kd.slice 3 (Kd.int .i64))) (w0 := w1) w1.heap.size ?_ (.tmp 36) (.tmp 40) 27 31 (.slice none 0 0) 24 ?_ ?_ ?_ ?_ ?_ ?_ (.slice AC NC cC) (wC [x0, x1] i) (ch [x0, x1]) [.slice (some ⟨wr.heap.size + 1, 0, none⟩) 2 2] (Out [some gw, vL.ownBlock]) (Out [some gw, (Value.slice AC NC cC).ownBlock, vL.ownBlock]) ?_ ?_ ?_ ?_ ?_ ?_ ?_ ?_ ?_ ?_; exact rfl; exact rfl; exact Try.underlying27; exact info31; exact rfl; decide; omega; exact rfl; rw [hsz.out]; exact rfl; exact PK.out; exact PA.out; exact PF.out _ _; exact (PO.out _ _).C; exact (PO.out _ _).bel; exact (PO.out _ _).bel.size; exact PL.out; intro v1 w2 hN hB hg hat; obtain ⟨A1, N1, c1, rfl⟩ := N_val3 hN; have HN := Aside0.mk ((PO.out _ _).stepC hN hB hg hat); have hbk := (PO.out _ _).boxC hg; have e1 := blk_cell hbk 1; have f1 := blk_frozen hbk 1; simp only [List.getElem?_toArray, List.getElem?_cons_zero, List.getElem?_cons_succ] at e1; clear hN hB hg hat hbk)))
        go_meet
        case rel => exact ⟨_, _, rfl, HN⟩
      case rest =>
        obtain ⟨vC1, vL1, rfl, HSt2⟩ := hcut
        have nL := fun k hk => ne_own HSt2.out.L k hk
        have nC := fun k hk => ne_own HSt2.out.C k hk
        have hgw := HSt2.out.lt
        obtain ⟨AL, NL, cL, rfl⟩ := N_val3 HSt2.out.L
        have hbk := HSt2.out.box
        have e2 := blk_cell hbk 2
        simp only [List.getElem?_toArray, List.getElem?_cons_zero, List.getElem?_cons_succ] at e2
        clear hbk
        by_cases hi0 : 0 < i
        · have hd0 : decide ((i : Int) > 0) = true := by simp; omega
          have PK := Aside0.mk (fk_links (wr := wc) (S := [some gw, vC1.ownBlock, (Value.slice AL NL cL).ownBlock]) (by simp only [List.mem_cons, List.not_mem_nil, or_false, not_or]; exact ⟨by simp; omega, nC _ (Nat.le_refl _), nL _ (Nat.le_refl _)⟩))
          have PO := Aside0.mk (fun (o1 : Obj) => (HSt2.out.alloc o1))
          have hsz : Aside0 (∀ o1, (wc.alloc o1).heap.size = wc.heap.size + 1) := ⟨fun o1 => by simp⟩
          have PF := Aside0.mk (show ∀ (o1 : Obj) k, (wc.alloc o1).heap.size ≤ k → Out [some gw, vC1.ownBlock] k from fun o1 k hk => by
            rw [hsz.out] at hk
            simp only [Out, List.mem_cons, List.not_mem_nil, or_false, not_or]
            exact ⟨by simp; omega, nC _ (by omega)⟩)
          have PL := Aside0.mk (show ((List.replicate (i - 1) [(⟨1, 0⟩ : S33)]).length + 1) * 24 ≤ 140737488355328 by simp; omega)
          have PA := Aside0.mk (show ∀ k, Out [some gw, vC1.ownBlock, (Value.slice AL NL cL).ownBlock] k → Out [some gw, vC1.ownBlock] k ∧ some k ≠ (Value.slice AL NL cL).ownBlock from fun k hk => by
            simp only [Out, List.mem_cons, List.not_mem_nil, or_false, not_or] at hk ⊢
            exact ⟨⟨hk.1, hk.2.1⟩, hk.2.2⟩)
          clear nC nL hgw
          go_wp2_with (first | ((with_reducible refine gate_builtin (b := .append) (xs := #[.tmp 46, .tmp 49]) rfl ?_); at_builtin; (refine Kd.N_append (Kd.slice 33 k33) (w0 := w1) w1.heap.size ?_ (.tmp 46) (.tmp 49) 28 34 (.slice none 0 0) 24 ?_ ?_ ?_ ?_ ?_ ?_ (.slice AL NL cL) (List.replicate (i - 1) [(⟨1, 0⟩ : S33)]) [⟨1, 0⟩] [.slice (some ⟨wc.heap.size, 0, none⟩) 1 1] (Out [some gw, vC1.ownBlock]) (Out [some gw, vC1.ownBlock, (Value.slice AL NL cL).ownBlock]) ?_ ?_ ?_ ?_ ?_ ?_ ?_ ?_ ?_ ?_; exact rfl; exact rfl; exact Try.underlying28; exact info34; exact rfl; decide; omega; exact rfl; rw [hsz.out]; exact rfl; exact PK.out; exact PA.out; exact PF.out _; exact (PO.out _).L; exact (PO.out _).bel; exact (PO.out _).bel.size; exact PL.out; intro v1 w2 hN hB hg hat; obtain ⟨A1, N1, c1, rfl⟩ := N_val3 hN; have HN := Aside0.mk ((PO.out _).stepL hN hB hg hat); have hbk := (PO.out _).boxL hg; have e2 := blk_cell hbk 2; have f2 := blk_frozen hbk 2; simp only [List.getElem?_toArray, List.getElem?_cons_zero, List.getElem?_cons_succ] at e2; clear hN hB hg hat hbk)))
          go_roundw
          case rel => exact ⟨i + 1, _, _, by omega, by go_num, by rw [show i + 1 - 1 = (i - 1) + 1 from by omega]; exact HN⟩
          case measure => simp [intOf]; omega
        · obtain rfl : i = 0 := by omega
          clear nC nL hgw
          go_wp2
          go_roundw
          case rel => exact ⟨1, _, _, by omega, rfl, HSt2⟩
          case measure => simp [intOf]; omega
    · obtain rfl : i = n := by omega
      obtain ⟨AC, cC, rfl⟩ := Kd.N_slice HSt.out.C
      obtain ⟨AL, cL, rfl⟩ := Kd.N_slice HSt.out.L
      have hbk := HSt.out.box
      have e0 := blk_cell hbk 0
      have e1 := blk_cell hbk 1
      have e2 := blk_cell hbk 2
      simp only [List.getElem?_toArray, List.getElem?_cons_zero, List.getElem?_cons_succ] at e0 e1 e2
      clear hbk
      obtain ⟨ap, cp, hap⟩ : ∃ (ap : Option Addr) (cp : Nat), ap = some ⟨gp, 0, none⟩ ∧ cp = 2 := ⟨_, _, rfl, rfl⟩
      obtain ⟨k, far, hf2, hft, hfl, hfe, hbad, hgood⟩ := HP.out i (by omega) (by omega)
      have C0 := Aside0.mk HSt.out.p
      have BX := Aside0.mk HSt.out.box
      have FX := Aside0.mk HSt.out.x
      have C1 := Aside0.mk (Kd.N_reads' HSt.out.C)
      have C2 := Aside0.mk (Kd.N_reads' HSt.out.L)
      have BB := Aside0.mk (below_step HB.out HSt.out.bel)
      have HT := Aside0.mk hft
      have HL := Aside0.mk hfl
      have HE := Aside0.mk hfe
      have HF := Aside0.mk hf2
      clear hft hfl hfe hf2 hap HSt
      cases hb : bad far with
      | true =>
        obtain ⟨hR, hD⟩ := hbad hb
        rw [hb] at HL
        have HR := Aside0.mk hR
        have HD := Aside0.mk hD
        clear hR hD hbad hgood hb
        have eL : (wL' i).length = i - 1 := by simp [wL']
        have HRC := drift_Roots.calls k _ _ [2, 3] _ _ (wC' x0 x1 i) _ _ (wL' i) _ _ _ (Kd.F_now C0.out) (Nat.le_refl _) C1.out.2.2 C1.out.2.1 C2.out.2.2 C2.out.2.1 HR.out
        have HDC := fun (W : World) (hW : Below wr.heap.size wr W) => drift_Drift.calls k _ _ [2, 3] _ _ (wC' x0 x1 i) _ _ (wL' i) _ _ W (Kd.C_below (Kd.F_now C0.out) hW) (Nat.le_refl _) (Kd.C_below C1.out.2.2 hW) C1.out.2.1 (Kd.C_below C2.out.2.2 hW) C2.out.2.1 HD.out
        rw [eL] at HRC
        rw [eL] at HDC
        have HRC' := Lib.hid HRC
        have HDC' := Lib.hid HDC
        have HTC := Lib.hid (fun (W : World) (hW : Below wr.heap.size wr W) => schismalaw51_times.calls k _ _ [x0, x1] ((i : Int) - 1) far W (Kd.C_below (Kd.F_now FX.out) hW) (Nat.le_refl _) HT.out)
        clear HRC HDC eL
        go_wp2_with fail
        refine HRC'.out.mono ?_
        rintro e w3 ⟨v3, rfl, h3, hB3⟩
        obtain ⟨A3, c3, rfl⟩ := Kd.N_slice h3
        have hbk : w3.heap[gw]? = _ := (hB3.block _ (Array.getElem?_eq_some_iff.1 BX.out).1).trans BX.out
        have e0 := blk_cell hbk 0
        have e1 := blk_cell hbk 1
        have e2 := blk_cell hbk 2
        simp only [List.getElem?_toArray, List.getElem?_cons_zero, List.getElem?_cons_succ] at e0 e1 e2
        have B3 := Aside0.mk hB3
        clear hbk hB3 h3
        go_wp2_with fail
        refine (HDC'.out _ B3.out).mono ?_
        rintro e w4 ⟨v4, rfl, h4, hB4⟩
        obtain ⟨A4, c4, rfl⟩ := Kd.V_slice h4
        have R4 := Aside0.mk (Kd.V_reads' h4)
        have B4 := Aside0.mk (below_step B3.out hB4)
        clear h4 hB4
        go_wp2_with fail
        refine (HTC.out _ B4.out).mono ?_
        rintro e w5 ⟨v5, rfl, h5, hB5⟩
        obtain ⟨A5, c5, rfl⟩ := Kd.R_slice h5
        have R5 := Aside0.mk (Kd.R_reads' h5)
        have B5 := Aside0.mk hB5
        clear h5 hB5
        go_wp2_with fail
        refine (schismalaw51_long.calls _ _ far _ _ R5.out.2.2 R5.out.2.1 HL.out).mono ?_
        rintro e w6 ⟨rfl, ⟨nd, rfl⟩⟩
        go_wp2
        go_ret
        exact ⟨rfl, pw_below_drewN (below_step BB.out (below_step B4.out B5.out)) nd⟩
      | false =>
        obtain ⟨rs, hrs, hR, hD⟩ := hgood hb
        rw [hb] at HL
        have HR := Aside0.mk hR
        have HD := Aside0.mk hD
        have HN := Aside0.mk hrs
        clear hR hD hbad hgood hb hrs
        have eL : (wL' i).length = i - 1 := by simp [wL']
        have HRC := drift_Roots.calls k _ _ [2, 3] _ _ (wC' x0 x1 i) _ _ (wL' i) _ _ _ (Kd.F_now C0.out) (Nat.le_refl _) C1.out.2.2 C1.out.2.1 C2.out.2.2 C2.out.2.1 HR.out
        have HDC := fun (W : World) (hW : Below wr.heap.size wr W) => drift_Drift.calls k _ _ [2, 3] _ _ (wC' x0 x1 i) _ _ (wL' i) _ _ W (Kd.C_below (Kd.F_now C0.out) hW) (Nat.le_refl _) (Kd.C_below C1.out.2.2 hW) C1.out.2.1 (Kd.C_below C2.out.2.2 hW) C2.out.2.1 HD.out
        rw [eL] at HRC
        rw [eL] at HDC
        have HRC' := Lib.hid HRC
        have HDC' := Lib.hid HDC
        have HTC := Lib.hid (fun (W : World) (hW : Below wr.heap.size wr W) => schismalaw51_times.calls k _ _ [x0, x1] ((i : Int) - 1) far W (Kd.C_below (Kd.F_now FX.out) hW) (Nat.le_refl _) HT.out)
        clear HRC HDC eL
        go_wp2_with fail
        refine HRC'.out.mono ?_
        rintro e w3 ⟨v3, rfl, h3, hB3⟩
        obtain ⟨A3, c3, rfl⟩ := Kd.N_slice h3
        have hbk : w3.heap[gw]? = _ := (hB3.block _ (Array.getElem?_eq_some_iff.1 BX.out).1).trans BX.out
        have e0 := blk_cell hbk 0
        have e1 := blk_cell hbk 1
        have e2 := blk_cell hbk 2
        simp only [List.getElem?_toArray, List.getElem?_cons_zero, List.getElem?_cons_succ] at e0 e1 e2
        have B3 := Aside0.mk hB3
        clear hbk hB3 h3
        go_wp2_with fail
        refine (HDC'.out _ B3.out).mono ?_
        rintro e w4 ⟨v4, rfl, h4, hB4⟩
        obtain ⟨A4, c4, rfl⟩ := Kd.V_slice h4
        have R4 := Aside0.mk (Kd.V_reads' h4)
        have B4 := Aside0.mk (below_step B3.out hB4)
        clear h4 hB4
        go_wp2_with fail
        refine (HTC.out _ B4.out).mono ?_
        rintro e w5 ⟨v5, rfl, h5, hB5⟩
        obtain ⟨A5, c5, rfl⟩ := Kd.R_slice h5
        have R5 := Aside0.mk (Kd.R_reads' h5)
        have B5 := Aside0.mk hB5
        clear h5 hB5
        go_wp2_with fail
        refine (schismalaw51_long.calls _ _ far _ _ R5.out.2.2 R5.out.2.1 HL.out).mono ?_
        rintro e w6 ⟨rfl, ⟨nd, rfl⟩⟩
        rw [HN.out]
        go_wp2_with fail
        refine (api_Row_int_12.calls k _ _ far _ _ far true _ ?b1 R4.out.2.1 ?b2 R5.out.2.1 HE.out).mono ?_
        case b1 => exact Kd.C_below R4.out.2.2 (pw_below_drewN B5.out nd)
        case b2 => exact Kd.C_below R5.out.2.2 (pw_below_drewN (Below.refl _ _) nd)
        rintro e w7 ⟨rfl, ⟨nd2, rfl⟩⟩
        go_wp2
        go_ret
        exact ⟨rfl, pw_below_drewN (below_step BB.out (below_step B4.out B5.out)) (nd + nd2)⟩
theorem wf_i16 {a : Int} (h : (Lit.int .i16 a).wf = true) : -32768 ≤ a ∧ a ≤ 32767 := by
  simp [Lit.wf, show IntKind.i16.min = -32768 from rfl, show IntKind.i16.max = 32767 from rfl] at h
  omega
theorem wf_u8 {a : Int} (h : (Lit.int .u8 a).wf = true) : 0 ≤ a ∧ a ≤ 255 := by
  simp [Lit.wf, show IntKind.u8.min = 0 from rfl, show IntKind.u8.max = 255 from rfl] at h
  omega
theorem schismalaw51_DriftLimits.walk (a b c : Int) (w : World) (ha : (Lit.int .i16 a).wf = true) (hb : (Lit.int .i16 b).wf = true) (hc : (Lit.int .u8 c).wf = true) :
    Calls Try.prog 3 #[.int .i16 a, .int .i16 b, .int .u8 c] w fun e w' => e = .returned (.bool true) ∧ Below w.heap.size w w' :=
  limits_walk a b c w (wf_i16 ha).1 (wf_i16 ha).2 (wf_i16 hb).1 (wf_i16 hb).2 (wf_u8 hc).1 (wf_u8 hc).2
end Go.Proofs.Ytdcpmggjhmdmmaa.X

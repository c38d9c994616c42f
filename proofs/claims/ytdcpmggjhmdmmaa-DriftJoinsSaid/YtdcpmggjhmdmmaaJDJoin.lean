-- what is used of it (wip/tools/slim.py)
/- Join (function 25). -/
import Derived.Test.YtdcpmggjhmdmmaaJDCat
import Derived.Test.YtdcpmggjhmdmmaaJDReverse
import Derived.Test.YtdcpmggjhmdmmaaJDSame
import Derived.Test.YtdcpmggjhmdmmaaJDTurnP
import Derived.Deep.RegionLaw
namespace Go.Proofs.Ytdcpmggjhmdmmaa.X
open Go.RowKit Go.Proofs.YtdcpmggjhmdmmaaW.PrintWords Go.Proofs.YtdcpmggjhmdmmaaW.PrintLast Go.Proofs.YtdcpmggjhmdmmaaW.PrintMore
set_option linter.unusedVariables false
set_option linter.unusedSimpArgs false
theorem primes45' : Ev (fun k => api_Primes_int_45.f k [2, 3, 5] [2, 3, 5]) true := Ev.of (api_Primes_int_45.mono _ _) (k := 20) (by kernel_rfl)
theorem rowEq_at (x y : List Int) (Ax Ay : Option Addr) (cx cy : Nat) (W : World) (hx : Kd.C (Kd.int .i64) W Ax x.length x) (lx : x.length ≤ cx) (hy : Kd.C (Kd.int .i64) W Ay y.length y) (ly : y.length ≤ cy) :
    Calls Try.prog 51 #[.slice Ax x.length cx, .slice Ay y.length cy] W fun e w' => e = .returned (.bool (decide (x = y))) ∧ ∃ n, w' = W.drewN n := by
  obtain ⟨k, hk⟩ := (eq_ev x y hx.2.1).rounds
  exact (row_Equal.calls k Ax cx x Ay cy y _ W hx lx hy ly (by unfold row_Equal.f; rw [hk]; rfl)).mono fun e w' ⟨h, ⟨n, hn⟩⟩ => ⟨h, n, hn⟩
theorem cat_drop {w : World} {ad : Addr} {c n : Nat} {xs : List (List (List Int))} (h : Kd.C (Kd.slice 25 (Kd.slice 3 (Kd.int .i64))) w (if c = 1 then some ad else (some ad).map (·.add (1 * (Kd.slice 25 (Kd.slice 3 (Kd.int .i64))).sz))) n xs) : Kd.C (Kd.slice 25 (Kd.slice 3 (Kd.int .i64))) w (if c = 1 then some ad else some { block := ad.block, off := ad.off + 1 }) n xs := by
  by_cases hc : c = 1
  · rw [if_pos hc] at h ⊢
    exact h
  · rw [if_neg hc] at h ⊢
    have e : (some ad).map (·.add (1 * (Kd.slice 25 (Kd.slice 3 (Kd.int .i64))).sz)) = some { block := ad.block, off := ad.off + 1 } := by
      show some (ad.add (1 * 1)) = _
      unfold Addr.add
      split <;> simp_all
    rw [e] at h
    exact h
theorem take_getD {α : Type} (l : List α) (z : α) {i : Nat} (h : i < l.length) : l.take (i + 1) = l.take i ++ [l.getD i z] := by
  rw [List.take_succ_eq_append_getElem h]
  simp [h]
theorem join_rowL {C1 C2 : List (List (List Int))} {L1 L2 : List (List S33)} (v1 : VW 3 C1 L1) (v2 : VW 3 C2 L2) {j : Nat} (hj : j < (L1 ++ L2).length) : ((L1 ++ L2).getD j []).length ≤ 12 := by
  rw [List.length_append] at hj
  by_cases hl : j < L1.length
  · rw [show (L1 ++ L2).getD j [] = L1.getD j [] from by simp only [List.getD_eq_getElem?_getD, List.getElem?_append_left hl]]
    exact (v1.ln j hl).2
  · rw [show (L1 ++ L2).getD j [] = L2.getD (j - L1.length) [] from by simp only [List.getD_eq_getElem?_getD, List.getElem?_append_right (Nat.le_of_not_lt hl)]]
    exact (v2.ln _ (by omega)).2
theorem link54 (x : List S33) (h : x.length < 8796093022208) : api_Link_54.f x = some x := by
  unfold api_Link_54.f
  simp [h]
theorem link_fk {w1 : World} {base : Nat} {A : Option Addr} {c : Nat} {row : List S33} (h : Kd.R k33 33 w1 base (fun _ => True) (.slice A row.length c) row) : Kd.FK (Kd.slice 33 k33) w1 (fun k => base ≤ k) row [.slice A row.length c] := by
  have h1 := Kd.R_bound h
  exact Kd.FK_slice_mk (Kd.R_reads' h1).2.1 (Kd.F_mono (Kd.R_F h1) (fun k hk => hk.2.1))
theorem join_freshL {w W w1 : World} {gr gw gp cp : Nat} {ro : Obj} {T : List (Option Nat)} {C : List (List (List Int))} {L : List (List S33)} {vC vL : Value} (h : MQ w gr gw gp cp ro T C L vC vL W) (hb : Below W.heap.size W w1) : (∀ k, W.drew.heap.size ≤ k → Out (some gw :: some gr :: vC.ownBlock :: T) k ∧ some k ≠ vL.ownBlock) ∧ ∀ k, w1.heap.size ≤ k → Out (some gw :: some gr :: vC.ownBlock :: T) k := by
  have key : ∀ k, W.heap.size ≤ k → Out (some gw :: some gr :: vC.ownBlock :: T) k ∧ some k ≠ vL.ownBlock := fun k hk => by
    have h1 := h.fresh k hk
    simp only [Out, List.mem_cons, not_or] at h1 ⊢
    exact ⟨⟨h1.1, h1.2.1, h1.2.2.1, h1.2.2.2.2⟩, h1.2.2.2.1⟩
  exact ⟨fun k hk => key k hk, fun k hk => (key k (Nat.le_trans hb.size hk)).1⟩
theorem join_row {C1 C2 : List (List (List Int))} {L1 L2 : List (List S33)} (v1 : VW 3 C1 L1) (v2 : VW 3 C2 L2) (h2 : 1 ≤ C2.length) {j : Nat} (hj : j < (C1 ++ C2.drop 1).length) : ((C1 ++ C2.drop 1).getD j []).length ≤ 12 ∧ ∀ x ∈ (C1 ++ C2.drop 1).getD j [], x.length = 3 := by
  rw [List.length_append, List.length_drop] at hj
  by_cases hl : j < C1.length
  · rw [show (C1 ++ C2.drop 1).getD j [] = C1.getD j [] from by simp only [List.getD_eq_getElem?_getD, List.getElem?_append_left hl]]
    exact vw_row v1 hl
  · rw [show (C1 ++ C2.drop 1).getD j [] = C2.getD (1 + (j - C1.length)) [] from by simp only [List.getD_eq_getElem?_getD, List.getElem?_append_right (Nat.le_of_not_lt hl), List.getElem?_drop]]
    exact vw_row v2 (by omega)
set_option maxRecDepth 100000 in
set_option maxHeartbeats 8000000 in
theorem join_walk (C1 C2 : List (List (List Int))) (L1 L2 : List (List S33)) (v1 : VW 3 C1 L1) (v2 : VW 3 C2 L2) (s1 : C1.length ≤ 5) (s2 : C2.length ≤ 5)
    (P1 A11 A12 P2 A21 A22 : Option Addr) (p1 c11 c12 p2 c21 c22 : Nat) (w : World)
    (hP1 : Kd.C (Kd.int .i64) w P1 3 [2, 3, 5]) (lP1 : 3 ≤ p1) (hC1 : Kd.C (Kd.slice 25 (Kd.slice 3 (Kd.int .i64))) w A11 C1.length C1) (lC1 : C1.length ≤ c11) (hL1 : Kd.C (Kd.slice 33 k33) w A12 L1.length L1) (lL1 : L1.length ≤ c12)
    (hP2 : Kd.C (Kd.int .i64) w P2 3 [2, 3, 5]) (lP2 : 3 ≤ p2) (hC2 : Kd.C (Kd.slice 25 (Kd.slice 3 (Kd.int .i64))) w A21 C2.length C2) (lC2 : C2.length ≤ c21) (hL2 : Kd.C (Kd.slice 33 k33) w A22 L2.length L2) (lL2 : L2.length ≤ c22) :
    Calls Try.prog 25 #[.agg #[.slice P1 3 p1, .slice A11 C1.length c11, .slice A12 L1.length c12], .agg #[.slice P2 3 p2, .slice A21 C2.length c21, .slice A22 L2.length c22]] w fun e w' => Below w.heap.size w w' ∧
      ((¬ C1.getD (C1.length - 1) [] = C2.getD 0 [] ∧ e = .returned (.tuple #[.agg #[.slice none 0 0, .slice none 0 0, .slice none 0 0], .int .i64 14])) ∨
       (C1.getD (C1.length - 1) [] = C2.getD 0 [] ∧ ∃ gp cp A c A' c', e = .returned (.tuple #[.agg #[.slice (some ⟨gp, 0, none⟩) 3 cp, .slice A (C1.length + (C2.length - 1)) c, .slice A' (L1.length + L2.length) c'], .int .i64 0]) ∧
        Kd.C (Kd.int .i64) w' (some ⟨gp, 0, none⟩) 3 [2, 3, 5] ∧ 3 ≤ cp ∧ Kd.C (Kd.slice 25 (Kd.slice 3 (Kd.int .i64))) w' A (C1.length + (C2.length - 1)) (C1 ++ C2.drop 1) ∧ C1.length + (C2.length - 1) ≤ c ∧ Kd.C (Kd.slice 33 k33) w' A' (L1.length + L2.length) (L1 ++ L2) ∧ L1.length + L2.length ≤ c')) := by
  have hu30 := Try.underlying30
  obtain ⟨k1, hk1⟩ : ∃ k, drift_Check.f k [2, 3, 5] C1 L1 = some 0 := by
    have h3 := check_ev [2, 3, 5] C1 L1 (by omega) (by show 3 ≤ _; omega) prime235
    rw [show ([2, 3, 5] : List Int).length = 3 from rfl, v1.good] at h3
    exact h3.rounds
  obtain ⟨k2, hk2⟩ : ∃ k, drift_Check.f k [2, 3, 5] C2 L2 = some 0 := by
    have h3 := check_ev [2, 3, 5] C2 L2 (by omega) (by show 3 ≤ _; omega) prime235
    rw [show ([2, 3, 5] : List Int).length = 3 from rfl, v2.good] at h3
    exact h3.rounds
  obtain ⟨k3, hk3⟩ := primes45'.rounds
  have HC1 := Lib.hid (fun (W : World) (hW : Below w.heap.size w W) => drift_Check.calls k1 P1 p1 [2, 3, 5] A11 c11 C1 A12 c12 L1 0 W (Kd.C_below hP1 hW) lP1 (Kd.C_below hC1 hW) lC1 (Kd.C_below hL1 hW) lL1 hk1)
  have HC2 := Lib.hid (fun (W : World) (hW : Below w.heap.size w W) => drift_Check.calls k2 P2 p2 [2, 3, 5] A21 c21 C2 A22 c22 L2 0 W (Kd.C_below hP2 hW) lP2 (Kd.C_below hC2 hW) lC2 (Kd.C_below hL2 hW) lL2 hk2)
  have HEQ := Lib.hid (fun (W : World) (hW : Below w.heap.size w W) => api_Primes_int_45.calls k3 P1 p1 [2, 3, 5] P2 p2 [2, 3, 5] true W (Kd.C_below hP1 hW) lP1 (Kd.C_below hP2 hW) lP2 hk3)
  have HCL := Lib.hid (fun (W : World) (hW : Below w.heap.size w W) => api_Primes_int_41.calls P1 p1 [2, 3, 5] [2, 3, 5] W (Kd.C_below hP1 hW) lP1 rfl)
  clear hk1 hk2 hk3
  go_enter Try.func25, Try.ntmps25
  go_wp2
  obtain ⟨b2, hb2⟩ : ∃ b2, b2 = w.heap.size := ⟨_, rfl⟩
  obtain ⟨b3, hb3⟩ : ∃ b3, b3 = b2 + 1 := ⟨_, rfl⟩
  obtain ⟨b4, hb4⟩ : ∃ b4, b4 = b3 + 1 := ⟨_, rfl⟩
  obtain ⟨b97, hb97⟩ : ∃ b97, b97 = b4 + 1 := ⟨_, rfl⟩
  rw [← hb2, ← hb3, ← hb4, ← hb97]
  obtain ⟨W1, hW1⟩ : ∃ W1, W1 = (((w.alloc (.cells #[.slice P1 3 p1, .slice A11 C1.length c11, .slice A12 L1.length c12] 30 (0, 0))).alloc (.cells #[.slice P2 3 p2, .slice A21 C2.length c21, .slice A22 L2.length c22] 30 (0, 0))).alloc (.cells #[.slice none 0 0, .slice none 0 0, .slice none 0 0] 30 (0, 0))).alloc (.cells #[.slice P1 3 p1, .slice A11 C1.length c11, .slice A12 L1.length c12, .slice P2 3 p2, .slice A21 C2.length c21, .slice A22 L2.length c22] 30 (0, 0)) := ⟨_, rfl⟩
  have x2 : W1.heap[b2]? = some (.cells #[.slice P1 3 p1, .slice A11 C1.length c11, .slice A12 L1.length c12] 30 (0, 0)) := by rw [hW1, hb2]; exact blk_alloc (blk_alloc (blk_alloc (blk_new w _) _) _) _
  have x3 : W1.heap[b3]? = some (.cells #[.slice P2 3 p2, .slice A21 C2.length c21, .slice A22 L2.length c22] 30 (0, 0)) := by
    have h := blk_new (w.alloc (.cells #[.slice P1 3 p1, .slice A11 C1.length c11, .slice A12 L1.length c12] 30 (0, 0))) (.cells #[.slice P2 3 p2, .slice A21 C2.length c21, .slice A22 L2.length c22] 30 (0, 0))
    rw [World.size_alloc, ← hb2, ← hb3] at h
    rw [hW1]
    exact blk_alloc (blk_alloc h _) _
  have x4 : W1.heap[b4]? = some (.cells #[.slice none 0 0, .slice none 0 0, .slice none 0 0] 30 (0, 0)) := by
    have h := blk_new ((w.alloc (.cells #[.slice P1 3 p1, .slice A11 C1.length c11, .slice A12 L1.length c12] 30 (0, 0))).alloc (.cells #[.slice P2 3 p2, .slice A21 C2.length c21, .slice A22 L2.length c22] 30 (0, 0))) (.cells #[.slice none 0 0, .slice none 0 0, .slice none 0 0] 30 (0, 0))
    rw [World.size_alloc, World.size_alloc, ← hb2, ← hb3, ← hb4] at h
    rw [hW1]
    exact blk_alloc h _
  have x97 : W1.heap[b97]? = some (.cells #[.slice P1 3 p1, .slice A11 C1.length c11, .slice A12 L1.length c12, .slice P2 3 p2, .slice A21 C2.length c21, .slice A22 L2.length c22] 30 (0, 0)) := by
    have h := blk_new (((w.alloc (.cells #[.slice P1 3 p1, .slice A11 C1.length c11, .slice A12 L1.length c12] 30 (0, 0))).alloc (.cells #[.slice P2 3 p2, .slice A21 C2.length c21, .slice A22 L2.length c22] 30 (0, 0))).alloc (.cells #[.slice none 0 0, .slice none 0 0, .slice none 0 0] 30 (0, 0))) (.cells #[.slice P1 3 p1, .slice A11 C1.length c11, .slice A12 L1.length c12, .slice P2 3 p2, .slice A21 C2.length c21, .slice A22 L2.length c22] 30 (0, 0))
    rw [World.size_alloc, World.size_alloc, World.size_alloc, ← hb2, ← hb3, ← hb4, ← hb97] at h
    rw [hW1]
    exact h
  have B1 := Aside0.mk (show Below w.heap.size w W1 from by rw [hW1]; exact below_alloc (below_alloc (below_alloc (below_alloc (Below.refl _ _) _) _) _) _)
  have HBB := Aside0.mk (And.intro hb2 (And.intro hb3 (And.intro hb4 hb97)))
  rw [← hW1]
  have X2 := Aside0.mk x2
  have X3 := Aside0.mk x3
  have X4 := Aside0.mk x4
  have X97 := Aside0.mk x97
  have HV := Aside0.mk (And.intro hP1 (And.intro hP2 (And.intro hC1 (And.intro hC2 (And.intro hL1 hL2)))))
  clear hb2 hb3 hb4 hb97 hW1 x2 x3 x4 x97 hP1 hP2 hC1 hC2 hL1 hL2
  go_loopw [18] (fun v wr => (v = .int .i64 0 ∨ v = .int .i64 1 ∨ v = .int .i64 2) ∧ Aside0 (Below W1.heap.size W1 wr)) (fun v _ => 2 - (intOf v).toNat)
  case atStart => exact ⟨.inl rfl, ⟨Below.refl _ _⟩⟩
  case round =>
    obtain ⟨hv, HW⟩ := hrel
    have y97 := (HW.out.block b97 (Array.getElem?_eq_some_iff.1 X97.out).1).trans X97.out
    have f0 := blk_cell y97 0
    have f1 := blk_cell y97 1
    have f2 := blk_cell y97 2
    have f3 := blk_cell y97 3
    have f4 := blk_cell y97 4
    have f5 := blk_cell y97 5
    simp only [List.getElem?_toArray, List.getElem?_cons_zero, List.getElem?_cons_succ] at f0 f1 f2 f3 f4 f5
    clear y97
    rcases hv with rfl | rfl | rfl
    · go_wp2_with fail
      refine (HC1.out _ (below_step B1.out (below_step HW.out (below_alloc (Below.refl _ _) _)))).mono ?_
      rintro e w3 ⟨rfl, hB3⟩
      have HW3 := Aside0.mk (below_step HW.out (below_step (below_alloc (Below.refl wr.heap.size wr) _) hB3))
      clear hB3 f0 f1 f2 f3 f4 f5
      go_wp2
      go_roundw
      case rel => exact ⟨.inr (.inl (by first | rfl | go_num)), HW3⟩
      case measure => simp [intOf]
    · go_wp2_with fail
      refine (HC2.out _ (below_step B1.out (below_step HW.out (below_alloc (Below.refl _ _) _)))).mono ?_
      rintro e w3 ⟨rfl, hB3⟩
      have HW3 := Aside0.mk (below_step HW.out (below_step (below_alloc (Below.refl wr.heap.size wr) _) hB3))
      clear hB3 f0 f1 f2 f3 f4 f5
      go_wp2
      go_roundw
      case rel => exact ⟨.inr (.inr (by first | rfl | go_num)), HW3⟩
      case measure => simp [intOf]
    · clear f0 f1 f2 f3 f4 f5
      have y2 := (HW.out.block b2 (Array.getElem?_eq_some_iff.1 X2.out).1).trans X2.out
      have y3 := (HW.out.block b3 (Array.getElem?_eq_some_iff.1 X3.out).1).trans X3.out
      have y4 := (HW.out.block b4 (Array.getElem?_eq_some_iff.1 X4.out).1).trans X4.out
      have BWr := Aside0.mk (below_step B1.out HW.out)
      obtain ⟨n1, hn1⟩ : ∃ n1, n1 = C1.length - 1 := ⟨_, rfl⟩
      have hc1 := v1.cn 0 (by have := v1.ll; omega)
      have hlen1 : 1 ≤ C1.length := by have := v1.ll; omega
      have hlen2 : 1 ≤ C2.length := by have := v2.ll; omega
      obtain ⟨ad1, Bl, cl, rfl, hx1, hlx1, hCx1⟩ := at_L2 (Kd.C_below HV.out.2.2.1 BWr.out) (n1 : Int) (by omega) (by omega)
      rw [Int.toNat_natCast] at hx1
      rw [rdL2] at hx1 hlx1 hCx1
      obtain ⟨ad2, Bf, cf, rfl, hx2, hlx2, hCx2⟩ := at_L2 (Kd.C_below HV.out.2.2.2.1 BWr.out) ((0 : Nat) : Int) (by omega) (by omega)
      rw [Int.toNat_natCast] at hx2
      rw [rdL2] at hx2 hlx2 hCx2
      rw [Addr.add_zero'] at hx2
      obtain ⟨rl, hrl⟩ : ∃ rl, rl = C1.getD n1 [] := ⟨_, rfl⟩
      obtain ⟨rf, hrf⟩ : ∃ rf, rf = C2.getD 0 [] := ⟨_, rfl⟩
      rw [← hrl] at hx1 hlx1 hCx1
      rw [← hrf] at hx2 hlx2 hCx2
      have HEQ2 := Lib.hid (fun (n : Nat) => equalRows.holds 51 (enters_of Try.func51 (by kernel_rfl) rfl) rowEq_at Bl cl rl Bf cf rf (wr.drewN n) (Kd.C_drewN hCx1 n) (Kd.C_drewN hCx2 n))
      have HRL := Aside0.mk (And.intro hrl (And.intro hrf hn1))
      have hwn : IntKind.i64.wrap ((C1.length : Int) - 1) = (n1 : Int) := by rw [IntKind.wrap_i64]; omega
      have hin0 : (0 : Int) ≤ (n1 : Int) := by omega
      have hin1 : (n1 : Int) < (C1.length : Int) := by omega
      have hin2 : (0 : Int) < (C2.length : Int) := by omega
      have hin2' : 0 < C2.length := by omega
      have z0 := blk_cell y2 0
      have z1 := blk_cell y2 1
      have q0 := blk_cell y3 0
      have q1 := blk_cell y3 1
      simp only [List.getElem?_toArray, List.getElem?_cons_zero, List.getElem?_cons_succ] at z0 z1 q0 q1
      clear hrl hrf hn1 hlx1 hlx2 hCx1 hCx2 hc1
      go_upto_region 8 with (fail)
      go_cut [50] (fun v50 wc => v50 = .bool (!(decide (rl = rf))) ∧ Drawn0 wr wc)
      case first =>
        go_region_law (first | (go_simp; go_at_call 45; refine (HEQ.out _ (below_step BWr.out (below_drew (Below.refl _ _)))).mono ?_; rintro e w' ⟨rfl, ⟨nn, rfl⟩⟩) | (go_simp; go_at_call 38; refine (HEQ2.out _).mono ?_; rintro e w' ⟨rfl, nn2, rfl⟩))
        all_goals
          (try go_wp2)
          refine Met.intro ?_
          go_step
          (repeat apply Exists.intro)
          refine ⟨?_, rfl⟩
          exact ⟨rfl, ⟨_, rfl⟩⟩
      case rest =>
        obtain ⟨rfl, ⟨nd, rfl⟩⟩ := hcut
        have hy4 := blk_drewN y4 nd
        by_cases hal : rl = rf
        · have hd : (!(decide (rl = rf))) = false := by rw [decide_eq_true hal]; rfl
          rw [hd]
          have hwa : IntKind.i64.wrap ((C1.length : Int) + (C2.length : Int)) = (C1.length : Int) + (C2.length : Int) := by rw [IntKind.wrap_i64]; omega
          have hwb : IntKind.i64.wrap ((C1.length : Int) + (C2.length : Int) - 1) = (C1.length : Int) + (C2.length : Int) - 1 := by rw [IntKind.wrap_i64]; omega
          have hgt : decide ((C1.length : Int) + (C2.length : Int) - 1 > 64) = false := decide_eq_false (by omega)
          clear hd z0 z1 q0 q1 hx1 hx2 hwn hin0 hin1 hin2
          have z0 := blk_cell y2 0
          have z1 := blk_cell y2 1
          have q1 := blk_cell y3 1
          simp only [List.getElem?_toArray, List.getElem?_cons_zero, List.getElem?_cons_succ] at z0 z1 q1
          have Y2 := Aside0.mk y2
          have Y3 := Aside0.mk y3
          have HY4 := Aside0.mk hy4
          clear y2 y3 y4 hy4
          go_wp2_with fail
          refine (HCL.out _ (pw_below_drewN BWr.out nd)).mono ?_
          rintro e w4 ⟨v4, rfl, hR4, hB4⟩
          obtain ⟨inner, ho⟩ := Kd.R_own hR4
          obtain ⟨gp, cp, rfl⟩ := ownsRow_succ (k := 2) ho
          have R4 := Aside0.mk (Kd.R_reads' hR4)
          have FP := Aside0.mk (F_int_one (Kd.R_reads' hR4).2.2)
          have hpl : gp < w4.heap.size := Kd.R_lt hR4 gp rfl
          have hpg : (wr.drewN nd).heap.size ≤ gp := Kd.R_base hR4 gp rfl
          have B4 := Aside0.mk (below_step (pw_below_drewN BWr.out nd) hB4)
          have V2 := Aside0.mk (blk_below (blk_drewN Y2.out nd) hB4)
          have V3 := Aside0.mk (blk_below (blk_drewN Y3.out nd) hB4)
          have V4 := Aside0.mk (blk_below HY4.out hB4)
          obtain ⟨gw, hgw⟩ : ∃ gw, gw = w4.heap.size := ⟨_, rfl⟩
          obtain ⟨w5, hw5⟩ : ∃ w5, w5 = w4.alloc (.cells #[.slice (some ⟨gp, 0, none⟩) 3 cp, .slice none 0 0, .slice none 0 0] 30) := ⟨_, rfl⟩
          have h24 : b2 < wr.heap.size ∧ b3 < wr.heap.size ∧ b4 < wr.heap.size := by
            have h1 := (Array.getElem?_eq_some_iff.1 Y2.out).1
            have h2 := (Array.getElem?_eq_some_iff.1 Y3.out).1
            have h3 := (Array.getElem?_eq_some_iff.1 HY4.out).1
            exact ⟨h1, h2, h3⟩
          have hsz : wr.heap.size ≤ w4.heap.size := hB4.size
          have hpg' : wr.heap.size ≤ gp := hpg
          have M5 : MQ w4 b4 gw gp cp (.cells #[.slice none 0 0, .slice none 0 0, .slice none 0 0] 30 (0, 0)) [] [] [] (.slice none 0 0) (.slice none 0 0) w5 := by
            rw [hw5]
            refine ⟨below_alloc (Below.refl _ _) _, by omega, by omega, blk_alloc V4.out _, by rw [hgw]; exact blk_new _ _, Kd.N_nil _ _ _ _ _, Kd.N_nil _ _ _ _ _, ?_, fun b hm => absurd hm (by simp)⟩
            refine Kd.F_mono (Kd.F_alloc FP.out _) (fun k hk => ?_)
            simp only [Out, List.mem_cons, List.not_mem_nil, or_false, not_or, Value.ownBlock]
            subst hk
            exact ⟨by simp; omega, by simp; omega, by simp, by simp⟩
          have HM5 := Aside0.mk M5
          have HW5 := Aside0.mk hw5
          have T2 := Aside0.mk (show w5.heap[b2]? = some (.cells #[.slice P1 3 p1, .slice (some ad1) C1.length c11, .slice A12 L1.length c12] 30 (0, 0)) from by rw [hw5]; exact blk_alloc V2.out _)
          have T3 := Aside0.mk (show w5.heap[b3]? = some (.cells #[.slice P2 3 p2, .slice (some ad2) C2.length c21, .slice A22 L2.length c22] 30 (0, 0)) from by rw [hw5]; exact blk_alloc V3.out _)
          have B5 := Aside0.mk (show Below w.heap.size w w5 from by rw [hw5]; exact below_alloc B4.out _)
          have HGW := Aside0.mk (And.intro hgw (And.intro hpl (And.intro hpg' (And.intro h24 hsz))))
          clear z0 z1 q1 hR4 ho hB4 hpg M5 h24 hsz hpg' hpl
          simp only [Nat.reduceAdd]
          go_upto_region 13 with (fail)
          rw [← hw5, ← hgw]
          clear hw5 hgw
          have t1 := blk_cell T2.out 1
          have t3 := blk_cell T3.out 1
          have t1' := fun (o : Obj) => blk_cell (blk_alloc T2.out o) 1
          have t3' := fun (o : Obj) => blk_cell (blk_alloc T3.out o) 1
          simp only [List.getElem?_toArray, List.getElem?_cons_zero, List.getElem?_cons_succ] at t1 t3 t1' t3'
          have hs1 : (1 : Int) ≤ (C2.length : Int) := by omega
          have hs2 : C2.length ≤ c21 := lC2
          have hs3 : (1 : Nat) ≤ C2.length := by omega
          obtain ⟨AD, hAD⟩ : ∃ AD : Option Addr, AD = if c21 = 1 then some ad2 else some { block := ad2.block, off := ad2.off + 1 } := ⟨_, rfl⟩
          have hD : Kd.C (Kd.slice 25 (Kd.slice 3 (Kd.int .i64))) w AD (C2.length - 1) (C2.drop 1) := by
            have h1 := Kd.C_drop (m := 1) (c := c21) HV.out.2.2.2.1 hs3 hs2
            rw [List.length_drop] at h1
            rw [hAD]
            exact cat_drop h1
          have HBX : Below w.heap.size w ((w5.alloc (.cells #[.slice (some ad1) C1.length c11, .slice AD (C2.length - 1) (c21 - 1)] 27 (0, 0))).drew) := below_drew (below_alloc B5.out _)
          have HCAT := concat52 w5.heap.size (some ad1) AD c11 (c21 - 1) C1 (C2.drop 1) ((w5.alloc (.cells #[.slice (some ad1) C1.length c11, .slice AD (C2.length - 1) (c21 - 1)] 27 (0, 0))).drew) (by rw [List.length_drop]; exact blk_drew (blk_new w5 _)) (fun k => k < w.heap.size) (fun k hk => Nat.lt_of_lt_of_le hk HBX.size) (Kd.F_below (F_chords HV.out.2.2.1) HBX) (by rw [List.length_drop]; exact Kd.F_below (F_chords hD) HBX) (by omega) (by rw [List.length_drop]; omega)
          simp only [List.length_drop] at HCAT
          rw [hAD] at HCAT
          have HCAT' := Lib.hid HCAT
          have hlw : (((C1.length + (C2.length - 1) : Nat)) : Int) = (C1.length : Int) + ((C2.length - 1 : Nat) : Int) := by omega
          clear HCAT hAD hD HBX
          go_cut [72, 73, 74] (fun v72 v73 v74 wc => ∃ A c, v72 = .slice A (C1.length + (C2.length - 1)) c ∧ v73 = .int .i64 ((C1.length + (C2.length - 1) : Nat) : Int) ∧ v74 = .int .i64 0 ∧ Aside0 (C1.length + (C2.length - 1) ≤ c ∧ Below w5.heap.size w5 wc ∧ Kd.F (Kd.slice 25 (Kd.slice 3 (Kd.int .i64))) wc (fun k => w5.heap.size ≤ k ∨ k < w.heap.size) A (C1.length + (C2.length - 1)) (C1 ++ C2.drop 1)))
          case first =>
            rename_i J9 K9 hJ9 hK9
            go_region_law (go_simp; go_at_call 52; refine HCAT'.out.mono ?_; rintro e wc ⟨AR, cR, rfl, hlR, hCR, hBR⟩; have HCR := Aside0.mk (And.intro hlR (And.intro (below_step (below_drew (below_alloc (Below.refl w5.heap.size w5) _)) hBR) (Kd.F_mono hCR (fun k hk => hk.imp (fun h => Nat.le_trans (below_drew (below_alloc (Below.refl w5.heap.size w5) _)).size h) id)))); clear hCR hBR hlR)
            all_goals go_simp
            all_goals refine hK9 _ _ (Met.intro (hJ9 _ _ ?_))
            all_goals (repeat apply Exists.intro)
            all_goals refine ⟨?_, rfl⟩
            all_goals exact ⟨AR, cR, rfl, by rw [hlw], rfl, HCR⟩
          case rest =>
            clear t1 t3 t1' t3' HCAT'
            obtain ⟨A6, c6, rfl, rfl, rfl, HCR⟩ := hcut
            obtain ⟨CC, hCC⟩ : ∃ CC, CC = C1 ++ C2.drop 1 := ⟨_, rfl⟩
            have hnC : C1.length + (C2.length - 1) = CC.length := by rw [hCC]; simp
            have hrow : ∀ j, j < CC.length → (CC.getD j []).length ≤ 12 ∧ ∀ x ∈ CC.getD j [], x.length = 3 := fun j hj => by rw [hCC]; exact join_row v1 v2 hlen2 (by rw [hCC] at hj; exact hj)
            rw [← hCC, hnC] at HCR
            rw [hnC]
            have hCC1 : 1 ≤ CC.length := by omega
            have hCC9 : CC.length ≤ 9 := by omega
            have FC := Aside0.mk (show Kd.F (Kd.slice 25 (Kd.slice 3 (Kd.int .i64))) wc (Out [some gw, (Value.slice none 0 0).ownBlock]) A6 CC.length CC from Kd.F_mono HCR.out.2.2 (fun k hk => by
              have h1 := HGW.out
              have h2 := below_size B4.out
              have h3 : w5.heap.size = w4.heap.size + 1 := by rw [HW5.out]; simp
              simp only [Out, List.mem_cons, List.not_mem_nil, or_false, not_or, Value.ownBlock]
              refine ⟨fun e => ?_, by simp⟩
              injection e with e
              omega))
            have M6 := Aside0.mk (HM5.out.later HCR.out.2.1)
            have HCL := Aside0.mk (And.intro hCC hrow)
            obtain ⟨ad6, B6, cB6, rfl, -⟩ := at_L2 (Kd.F_now FC.out) ((0 : Nat) : Int) (by omega) (by omega)
            clear hCC hrow hnC T2 T3 HM5
            go_wp2
            go_loopw [74] (fun v wr => ∃ (i : Nat) (vC : Value), i ≤ CC.length ∧ v = .int .i64 i ∧ Aside0 (MQ w4 b4 gw gp cp (.cells #[.slice none 0 0, .slice none 0 0, .slice none 0 0] 30 (0, 0)) [] (CC.take i) [] vC (.slice none 0 0) wr ∧ Kd.F (Kd.slice 25 (Kd.slice 3 (Kd.int .i64))) wr (Out [some gw, vC.ownBlock]) (some ad6) CC.length CC)) (fun v _ => CC.length - (intOf v).toNat)
            case atStart => exact ⟨0, _, Nat.zero_le _, rfl, ⟨M6.out, FC.out⟩⟩
            case round =>
              obtain ⟨i, vC, hi, rfl, HL⟩ := hrel
              clear M6 FC
              by_cases hlt : i < CC.length
              · obtain ⟨adx, B0, c0, hax, hx, hlx, hCx⟩ := at_L2 (Kd.F_now HL.out.2) (i : Int) (by omega) (by omega)
                obtain rfl := Option.some.inj hax
                clear hax
                rw [Int.toNat_natCast] at hx
                rw [rdL2] at hx hlx hCx
                obtain ⟨row, hrw⟩ : ∃ row, row = CC.getD i [] := ⟨_, rfl⟩
                rw [← hrw] at hx hlx hCx
                obtain ⟨AC, NC, cC, rfl⟩ := N_val3 HL.out.1.C
                obtain ⟨kc, hkc⟩ := (copied_ev row (by rw [hrw]; exact HCL.out.2 i hlt)).rounds
                have HROW := Aside0.mk hrw
                clear hrw
                have PLN := Aside0.mk (show ((CC.take i).length + 1) * 24 ≤ 140737488355328 by rw [List.length_take]; omega)
                have HMb := Aside0.mk HL.out.1
                have HFb := Aside0.mk HL.out.2
                have HCP := Aside0.mk (drift_copied.calls kc B0 c0 row row wr.drew (Kd.C_drew hCx) hlx hkc)
                have g1 := blk_cell HMb.out.box 1
                simp only [List.getElem?_toArray, List.getElem?_cons_zero, List.getElem?_cons_succ] at g1
                have hin0 : (0 : Int) ≤ (i : Int) := by omega
                have hin1 : (i : Int) < (CC.length : Int) := by omega
                clear HL hCx hkc
                go_upto_region 16 with (fail)
                clear hx hin0 hin1
                go_region_law (first
                  | (go_simp; go_at_call 43; refine HCP.out.mono ?_; rintro e w1 ⟨v9, rfl, hS, hB1⟩; obtain ⟨A9, c9, rfl⟩ := Kd.S_slice hS; have PB := Aside0.mk (below_step (below_drew (Below.refl wr.heap.size wr)) hB1); have M1 := Aside0.mk (HMb.out.later PB.out); have PK := Aside0.mk (rev_fk hS); have FB := Aside0.mk (foot_below HFb.out PB.out); have hbk := M1.out.box; have g2 := fun (o : Obj) => blk_cell (blk_alloc hbk o) 1; have g1' := blk_cell hbk 1; simp only [List.getElem?_toArray, List.getElem?_cons_zero, List.getElem?_cons_succ] at g1' g2; have PF := Aside0.mk (rev_fresh HMb.out PB.out); clear hS hB1 hbk)
                  | (refine Kd.N_append_step (Kd.slice 25 (Kd.slice 3 (Kd.int .i64))) (W := w1) (w0 := w4) w4.heap.size ?_ (.tmp 79) (.tmp 82) 27 31 (.slice none 0 0) 24 ?_ ?_ ?_ ?_ ?_ ?_ (.slice AC NC cC) (CC.take i) row [.slice A9 row.length c9] (Out (some gw :: some b4 :: (Value.slice none 0 0).ownBlock :: [])) (fun k => wr.drew.heap.size ≤ k) ?_ ?_ ?_ ?_ ?_ ?_ ?_ ?_ ?_ ?_; exact rfl; exact rfl; exact Try.underlying27; exact info31; exact rfl; decide; omega; exact rfl; exact rfl; exact PK.out; exact PF.out.1; exact PF.out.2; exact M1.out.C; exact M1.out.bel; exact M1.out.bel.size; exact PLN.out; intro v8 w2 hN hB hg hat; obtain ⟨A8, N8, c8, rfl⟩ := N_val3 hN; have HN := Aside0.mk (M1.out.stepC hN hB hg hat); have HFN := Aside0.mk (foot_set (foot_swap (T := [some gw, (Value.slice A8 N8 c8).ownBlock]) FB.out hg (.inl (by simp)) hat (by intro x hx; simp only [List.mem_cons, List.not_mem_nil, or_false] at hx ⊢; rcases hx with rfl | rfl <;> simp)) ⟨gw, 1, none⟩ (.slice A8 N8 c8) (by simp)); have hbk := (M1.out.keepC hg).1; have f1 := blk_cell hbk 1; have f2 := blk_frozen hbk 1; simp only [List.getElem?_toArray, List.getElem?_cons_zero, List.getElem?_cons_succ] at f1; clear hN hB hg hat hbk))
                all_goals (try go_wp2)
                all_goals (go_roundw; (case rel => exact ⟨i + 1, _, by omega, by go_num, ⟨by rw [take_getD CC [] hlt, ← HROW.out]; exact HN.out, HFN.out⟩⟩); (case measure => simp [intOf]; omega))
              · obtain rfl : i = CC.length := by omega
                rw [List.take_length] at HL
                have hlt24 : b2 < w4.heap.size ∧ b3 < w4.heap.size := by have := HGW.out; omega
                have q2 := (HL.out.1.bel.block b2 hlt24.1).trans V2.out
                have q3 := (HL.out.1.bel.block b3 hlt24.2).trans V3.out
                have z2 := blk_cell q2 2
                have z3 := blk_cell q3 2
                simp only [List.getElem?_toArray, List.getElem?_cons_zero, List.getElem?_cons_succ] at z2 z3
                have HBX : Below w.heap.size w (wr.alloc (.cells #[.slice A12 L1.length c12, .slice A22 L2.length c22] 28 (0, 0))) := below_alloc (below_step B4.out HL.out.1.bel) _
                have HCAT := Lib.hid (concat53 wr.heap.size A12 A22 c12 c22 L1 L2 (wr.alloc (.cells #[.slice A12 L1.length c12, .slice A22 L2.length c22] 28 (0, 0))) (blk_new wr _) (fun k => k < w.heap.size) (fun k hk => Nat.lt_of_lt_of_le hk HBX.size) (Kd.F_below (F_lists HV.out.2.2.2.2.1) HBX) (Kd.F_below (F_lists HV.out.2.2.2.2.2) HBX) (by have := v1.ll; omega) (by have := v2.ll; omega))
                clear hlt24 q2 q3 HBX
                go_wp2_with fail
                refine HCAT.out.mono ?_
                rintro e w7 ⟨A7, c7, rfl, hl7, hF7, hB7⟩
                obtain ⟨LL, hLL⟩ : ∃ LL, LL = L1 ++ L2 := ⟨_, rfl⟩
                have hnL : L1.length + L2.length = LL.length := by rw [hLL]; simp
                have hrowL : ∀ j, j < LL.length → (LL.getD j []).length ≤ 12 := fun j hj => by rw [hLL]; exact join_rowL v1 v2 (by rw [hLL] at hj; exact hj)
                rw [← hLL, hnL] at hF7
                rw [hnL]
                have hLL9 : LL.length ≤ 8 := by have := v1.ll; have := v2.ll; omega
                have B7 := Aside0.mk (below_step (below_alloc (Below.refl wr.heap.size wr) _) hB7)
                have M7 := Aside0.mk (HL.out.1.later B7.out)
                have FL := Aside0.mk (show Kd.F (Kd.slice 33 k33) w7 (Out [some gw, (Value.slice none 0 0).ownBlock]) A7 LL.length LL from Kd.F_mono hF7 (fun k hk => by
                  have h1 := HGW.out
                  have h2 := below_size B4.out
                  have h3 : (wr.alloc (.cells #[.slice A12 L1.length c12, .slice A22 L2.length c22] 28 (0, 0))).heap.size = wr.heap.size + 1 := by simp
                  have h4 := HL.out.1.ltw
                  simp only [Out, List.mem_cons, List.not_mem_nil, or_false, not_or, Value.ownBlock]
                  refine ⟨fun e => ?_, by simp⟩
                  injection e with e
                  omega))
                have HLL := Aside0.mk (And.intro hLL hrowL)
                have hnL' := Aside0.mk hnL
                clear hLL hrowL hnL hl7 hF7 hB7 HL HCAT
                go_wp2
                go_loopw [93] (fun v wr => ∃ (i : Nat) (vL : Value), i ≤ LL.length ∧ v = .int .i64 i ∧ Aside0 (MQ w4 b4 gw gp cp (.cells #[.slice none 0 0, .slice none 0 0, .slice none 0 0] 30 (0, 0)) [] CC (LL.take i) vC vL wr ∧ Kd.F (Kd.slice 33 k33) wr (Out [some gw, vL.ownBlock]) A7 LL.length LL)) (fun v _ => LL.length - (intOf v).toNat)
                case atStart => exact ⟨0, _, Nat.zero_le _, rfl, ⟨M7.out, FL.out⟩⟩
                case round =>
                  obtain ⟨i, vL, hi, rfl, HL⟩ := hrel
                  clear M7 FL
                  by_cases hlt : i < LL.length
                  · obtain ⟨ad7, B0, c0, rfl, hx, hlx, hCx⟩ := at_L4 (Kd.F_now HL.out.2) (i : Int) (by omega) (by omega)
                    rw [Int.toNat_natCast] at hx
                    rw [rdL4] at hx hlx hCx
                    obtain ⟨row, hrw⟩ : ∃ row, row = LL.getD i [] := ⟨_, rfl⟩
                    rw [← hrw] at hx hlx hCx
                    obtain ⟨AL, NL, cL, rfl⟩ := N_val3 HL.out.1.L
                    have HROW := Aside0.mk hrw
                    have hkc := link54 row (by rw [hrw]; have := HLL.out.2 i hlt; omega)
                    clear hrw
                    have PLN := Aside0.mk (show ((LL.take i).length + 1) * 24 ≤ 140737488355328 by rw [List.length_take]; omega)
                    have HMb := Aside0.mk HL.out.1
                    have HFb := Aside0.mk HL.out.2
                    have HCP := Aside0.mk (api_Link_54.calls B0 c0 row row wr.drew (Kd.C_drew hCx) hlx hkc)
                    have g1 := blk_cell HMb.out.box 2
                    simp only [List.getElem?_toArray, List.getElem?_cons_zero, List.getElem?_cons_succ] at g1
                    have hin0 : (0 : Int) ≤ (i : Int) := by omega
                    have hin1 : (i : Int) < (LL.length : Int) := by omega
                    clear HL hCx hkc
                    go_upto_region 21 with (fail)
                    clear hx hin0 hin1
                    go_region_law (first
                      | (go_simp; go_at_call 54; refine HCP.out.mono ?_; rintro e w1 ⟨v9, rfl, hS, hB1⟩; obtain ⟨A9, c9, rfl⟩ := Kd.R_slice hS; have PB := Aside0.mk (below_step (below_drew (Below.refl wr.heap.size wr)) hB1); have M1 := Aside0.mk (HMb.out.later PB.out); have PK := Aside0.mk (link_fk hS); have FB := Aside0.mk (foot_below HFb.out PB.out); have hbk := M1.out.box; have g2 := fun (o : Obj) => blk_cell (blk_alloc hbk o) 2; have g1' := blk_cell hbk 2; simp only [List.getElem?_toArray, List.getElem?_cons_zero, List.getElem?_cons_succ] at g1' g2; have PF := Aside0.mk (join_freshL HMb.out PB.out); clear hS hB1 hbk)
                      | (refine Kd.N_append_step (Kd.slice 33 k33) (W := w1) (w0 := w4) w4.heap.size ?_ (.tmp 98) (.tmp 101) 28 34 (.slice none 0 0) 24 ?_ ?_ ?_ ?_ ?_ ?_ (.slice AL NL cL) (LL.take i) row [.slice A9 row.length c9] (Out (some gw :: some b4 :: vC.ownBlock :: [])) (fun k => wr.drew.heap.size ≤ k) ?_ ?_ ?_ ?_ ?_ ?_ ?_ ?_ ?_ ?_; exact rfl; exact rfl; exact Try.underlying28; exact info34; exact rfl; decide; omega; exact rfl; exact rfl; exact PK.out; exact PF.out.1; exact PF.out.2; exact M1.out.L; exact M1.out.bel; exact M1.out.bel.size; exact PLN.out; intro v8 w2 hN hB hg hat; obtain ⟨A8, N8, c8, rfl⟩ := N_val3 hN; have HN := Aside0.mk (M1.out.stepL hN hB hg hat); have HFN := Aside0.mk (foot_set (foot_swap (T := [some gw, (Value.slice A8 N8 c8).ownBlock]) FB.out hg (.inl (by simp)) hat (by intro x hx; simp only [List.mem_cons, List.not_mem_nil, or_false] at hx ⊢; rcases hx with rfl | rfl <;> simp)) ⟨gw, 2, none⟩ (.slice A8 N8 c8) (by simp)); have hbk := (M1.out.keepL hg).1; have f1 := blk_cell hbk 2; have f2 := blk_frozen hbk 2; simp only [List.getElem?_toArray, List.getElem?_cons_zero, List.getElem?_cons_succ] at f1; clear hN hB hg hat hbk))
                    all_goals (try go_wp2)
                    all_goals (go_roundw; (case rel => exact ⟨i + 1, _, by omega, by go_num, ⟨by rw [take_getD LL [] hlt, ← HROW.out]; exact HN.out, HFN.out⟩⟩); (case measure => simp [intOf]; omega))
                  · obtain rfl : i = LL.length := by omega
                    rw [List.take_length] at HL
                    have HMz := Aside0.mk HL.out.1
                    obtain ⟨AC, NC, cC, rfl⟩ := N_val3 HMz.out.C
                    obtain ⟨AL, NL, cL, rfl⟩ := N_val3 HMz.out.L
                    have hbk := HMz.out.box
                    have e0 := blk_cell hbk 0
                    have e1 := blk_cell hbk 1
                    have e2 := blk_cell hbk 2
                    have q0 := HMz.out.res
                    have r0 := blk_cell q0 0
                    have g0 := blk_frozen q0 0
                    have q1 := blk_put q0 0 (Value.slice (some ⟨gp, 0, none⟩) 3 cp) rfl
                    have r1 := blk_cell q1 1
                    have g1 := blk_frozen q1 1
                    have q2 := blk_put q1 1 (Value.slice AC NC cC) rfl
                    have r2 := blk_cell q2 2
                    have g2 := blk_frozen q2 2
                    have q3 := blk_put q2 2 (Value.slice AL NL cL) rfl
                    have H3 := Aside0.mk q3
                    simp only [List.getElem?_toArray, List.getElem?_cons_zero, List.getElem?_cons_succ] at e0 e1 e2
                    have r0' := r0.trans (show _ = some (Value.slice none 0 0) from rfl)
                    have r1' := r1.trans (show _ = some (Value.slice none 0 0) from rfl)
                    have r2' := r2.trans (show _ = some (Value.slice none 0 0) from rfl)
                    clear hbk q0 q1 q2 q3 r0 r1 r2 HL
                    go_wp2
                    refine bodyPost_ret (results_ct rfl _ _ b4 30 #[.slice (some ⟨gp, 0, none⟩) 3 cp, .slice AC NC cC, .slice AL NL cL] (0, 0) _ rfl H3.out Try.underlying30 rfl (by kernel_rfl)) rfl ?_
                    have hle : w.heap.size ≤ b4 := by have := HBB.out; omega
                    obtain ⟨Wz, hWz⟩ : ∃ Wz, Wz = ((wr.setCell ⟨b4, 0, none⟩ (.slice (some ⟨gp, 0, none⟩) 3 cp)).setCell ⟨b4, 1, none⟩ (.slice AC NC cC)).setCell ⟨b4, 2, none⟩ (.slice AL NL cL) := ⟨_, rfl⟩
                    have bz : Below w.heap.size w Wz := by rw [hWz]; exact below_set (below_set (below_set (below_step B4.out HMz.out.bel) hle) hle) hle
                    have pz : Kd.F (Kd.int .i64) Wz (Out (some gw :: some b4 :: (Value.slice AC NC cC).ownBlock :: (Value.slice AL NL cL).ownBlock :: [])) (some ⟨gp, 0, none⟩) 3 [2, 3, 5] := by
                      rw [hWz]
                      exact foot_set (foot_set (foot_set HMz.out.p _ _ (by simp)) _ _ (by simp)) _ _ (by simp)
                    have Cz : Kd.N (Kd.slice 25 (Kd.slice 3 (Kd.int .i64))) 31 Wz w4.heap.size (Out (some gw :: some b4 :: (Value.slice AL NL cL).ownBlock :: [])) (.slice AC NC cC) CC := by
                      rw [hWz]
                      exact Kd.N_far (Kd.N_far (Kd.N_far HMz.out.C (fun k hk e => hk (by rw [e]; simp)) _) (fun k hk e => hk (by rw [e]; simp)) _) (fun k hk e => hk (by rw [e]; simp)) _
                    have Lz : Kd.N (Kd.slice 33 k33) 34 Wz w4.heap.size (Out (some gw :: some b4 :: (Value.slice AC NC cC).ownBlock :: [])) (.slice AL NL cL) LL := by
                      rw [hWz]
                      exact Kd.N_far (Kd.N_far (Kd.N_far HMz.out.L (fun k hk e => hk (by rw [e]; simp)) _) (fun k hk e => hk (by rw [e]; simp)) _) (fun k hk e => hk (by rw [e]; simp)) _
                    rw [← hWz]
                    clear hWz
                    obtain ⟨hn1, hc1, hC⟩ := Kd.N_reads' Cz
                    obtain ⟨hn2, hc2, hL⟩ := Kd.N_reads' Lz
                    have hnC : C1.length + (C2.length - 1) = CC.length := by rw [HCL.out.1]; simp
                    refine ⟨bz, .inr ⟨by rw [← HRL.out.2.2, ← HRL.out.1, ← HRL.out.2.1]; exact hal, gp, cp, AC, cC, AL, cL, ?_, Kd.F_now pz, R4.out.2.1, ?_, ?_, ?_, ?_⟩⟩
                    · rw [hnC, hnL'.out, ← hn1, ← hn2]
                      rfl
                    · rw [hnC, ← HCL.out.1]
                      exact hC
                    · rw [hnC, ← hn1]
                      exact hc1
                    · rw [hnL'.out, ← HLL.out.1]
                      exact hL
                    · rw [hnL'.out, ← hn2]
                      exact hc2
        · have hd : (!(decide (rl = rf))) = true := by rw [decide_eq_false hal]; rfl
          rw [hd]
          have r0 := blk_cell y4 0
          have g0 := blk_frozen y4 0
          have g0' := blk_frozen hy4 0
          have r0' := (blk_cell hy4 0).trans (show _ = some (Value.slice none 0 0) from rfl)
          have q1' := blk_put hy4 0 (Value.slice none 0 0) rfl
          have r1 := blk_cell q1' 1
          have g1 := blk_frozen q1' 1
          have q2' := blk_put q1' 1 (Value.slice none 0 0) rfl
          have r2 := blk_cell q2' 2
          have g2 := blk_frozen q2' 2
          simp only [List.getElem?_toArray, List.getElem?_cons_zero, List.getElem?_cons_succ] at r0
          have r1' := r1.trans (show _ = some (Value.slice none 0 0) from rfl)
          have r2' := r2.trans (show _ = some (Value.slice none 0 0) from rfl)
          have q3' := Aside0.mk (blk_put q2' 2 (Value.slice none 0 0) rfl)
          have hne := Aside0.mk (show ¬ C1.getD (C1.length - 1) [] = C2.getD 0 [] by rw [← HRL.out.2.2, ← HRL.out.1, ← HRL.out.2.1]; exact hal)
          clear r1 r2 q1' q2' hd
          go_wp2
          refine bodyPost_ret (results_ct rfl _ _ b4 30 #[.slice none 0 0, .slice none 0 0, .slice none 0 0] (0, 0) _ rfl q3'.out Try.underlying30 rfl (by kernel_rfl)) rfl ?_
          have hle : w.heap.size ≤ b4 := by have := HBB.out; omega
          exact ⟨below_set (below_set (below_set (pw_below_drewN BWr.out nd) hle) hle) hle, .inl ⟨hne.out, rfl⟩⟩
end Go.Proofs.Ytdcpmggjhmdmmaa.X

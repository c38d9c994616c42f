-- what is used of it (wip/tools/slim.py)
/- slices.Equal on links, slices.EqualFunc on lists of rows and of links; same (function 22). -/
import Derived.Test.YtdcpmggjhmdmmaaJDEq
import Derived.Test.YtdcpmggjhmdmmaaJDLib
import Derived.Lib.Hide
namespace Go.Proofs.Ytdcpmggjhmdmmaa.X
set_option linter.unusedVariables false
open Go.RowKit Go.Proofs.YtdcpmggjhmdmmaaW.PrintWords Go.Proofs.YtdcpmggjhmdmmaaW.PrintLast Go.Proofs.YtdcpmggjhmdmmaaW.PrintMore
instance : DecidableEq S33 := fun x y => if h : x.f0 = y.f0 ∧ x.f1 = y.f1 then .isTrue (by cases x; cases y; simp_all) else .isFalse (fun e => h (by rw [e]; exact ⟨rfl, rfl⟩))
set_option maxRecDepth 100000 in
set_option maxHeartbeats 1000000 in
theorem equalLinks.holds (A0 : Option Addr) (c0 : Nat) (l0 : List S33) (A1 : Option Addr) (c1 : Nat) (l1 : List S33) (w : World) (hr0 : Kd.C k33 w A0 l0.length l0) (hr1 : Kd.C k33 w A1 l1.length l1) :
    Calls Try.prog 49 #[.slice A0 l0.length c0, .slice A1 l1.length c1] w fun e w' => e = .returned (.bool (decide (l0 = l1))) ∧ ∃ n, w' = w.drewN n := by
  have hm := hr0.2.1
  have hu33 := Try.underlying33
  have HR0 := Aside0.mk hr0
  have HR1 := Aside0.mk hr1
  clear hr0 hr1
  by_cases hl : l0.length = l1.length
  · have hb : ((l0.length : Int) != (l1.length : Int)) = false := by simp [hl]
    have HL := Aside0.mk hl
    go_enter Try.func49, Try.ntmps49
    clear hl
    go_wp2
    go_loopw [13] (fun v wr => ∃ k : Nat, k ≤ l0.length ∧ v = .int .i64 k ∧ Aside0 (l0.take k = l1.take k) ∧ Drawn0 w wr) (fun v _ => l0.length - (intOf v).toNat)
    case atStart => exact ⟨0, Nat.zero_le _, rfl, ⟨rfl⟩, Drawn0.refl _⟩
    case round =>
      obtain ⟨k, hk, rfl, hN, ⟨nd, rfl⟩⟩ := hrel
      by_cases hlt : k < l0.length
      · have hlt1 : k < l1.length := by have := HL.out; omega
        obtain ⟨a0, rfl, h00, h01⟩ := at_T33 HR0.out (k : Int) (by omega) (by omega)
        obtain ⟨a1, rfl, h10, h11⟩ := at_T33 HR1.out (k : Int) (by omega) (by omega)
        rw [Int.toNat_natCast] at h00 h01 h10 h11
        have E0 := Aside0.mk (show rd_T33 l0 (k : Int) = l0.getD k z33 from rdT)
        have E1 := Aside0.mk (show rd_T33 l1 (k : Int) = l1.getD k z33 from rdT)
        generalize rd_T33 l0 (k : Int) = x at h00 h01 E0
        generalize rd_T33 l1 (k : Int) = y at h10 h11 E1
        have hlt1' : (k : Int) < (l1.length : Int) := by omega
        by_cases h0 : x.f0 = y.f0
        · by_cases h1 : x.f1 = y.f1
          · have HX := Aside0.mk (show x = y by cases x; cases y; simp_all)
            go_wp2
            go_region
            all_goals go_wp2
            all_goals
              refine ⟨?_, ?_⟩
              · first
                  | exact ⟨k + 1, by omega, by go_num, ⟨take_eq_succ z33 l0 l1 k hlt hlt1 hN.out (by rw [← E0.out, ← E1.out]; exact HX.out)⟩, ⟨_, rfl⟩⟩
                  | ((repeat apply Exists.intro); refine ⟨?_, rfl⟩; exact ⟨k + 1, by omega, by go_num, ⟨take_eq_succ z33 l0 l1 k hlt hlt1 hN.out (by rw [← E0.out, ← E1.out]; exact HX.out)⟩, ⟨_, rfl⟩⟩)
              · simp [intOf]; omega
          · have HX := Aside0.mk (getD_ne z33 l0 l1 k (by rw [← E0.out, ← E1.out]; exact fun e => h1 (by rw [e])))
            go_wp2
            go_region
            all_goals go_wp2
            all_goals go_ret
            all_goals exact ⟨by rw [HX.out]; rfl, _, rfl⟩
        · have HX := Aside0.mk (getD_ne z33 l0 l1 k (by rw [← E0.out, ← E1.out]; exact fun e => h0 (by rw [e])))
          go_wp2
          go_region
          all_goals go_wp2
          all_goals go_ret
          all_goals exact ⟨by rw [HX.out]; rfl, _, rfl⟩
      · obtain rfl : k = l0.length := by omega
        go_wp2
        go_ret
        refine ⟨?_, _, rfl⟩
        have := hN.out
        rw [List.take_length, HL.out, List.take_length] at this
        rw [decide_eq_true this]
        rfl
  · have hb : ((l0.length : Int) != (l1.length : Int)) = true := by simp; omega
    have HX := Aside0.mk (show decide (l0 = l1) = false from decide_eq_false (fun e => hl (by rw [e])))
    go_enter Try.func49, Try.ntmps49
    go_wp2
    go_ret
    exact ⟨by rw [HX.out]; rfl, 0, rfl⟩
set_option maxHeartbeats 1000000 in
theorem equalChords.holds (g : Nat) (eg : ∀ args w, (callFunc g args).run Try.prog w = .ok (.enter g args) w)
    (hp : ∀ (x y : List (List Int)) (Ax Ay : Option Addr) (cx cy : Nat) (W : World), Kd.C (Kd.slice 3 (Kd.int .i64)) W Ax x.length x → x.length ≤ cx → Kd.C (Kd.slice 3 (Kd.int .i64)) W Ay y.length y → y.length ≤ cy →
      Calls Try.prog g #[.slice Ax x.length cx, .slice Ay y.length cy] W fun e w' => e = .returned (.bool (decide (x = y))) ∧ ∃ n, w' = W.drewN n)
    (A0 : Option Addr) (c0 : Nat) (l0 : List (List (List Int))) (A1 : Option Addr) (c1 : Nat) (l1 : List (List (List Int))) (w : World) (hr0 : Kd.C (Kd.slice 25 (Kd.slice 3 (Kd.int .i64))) w A0 l0.length l0) (hr1 : Kd.C (Kd.slice 25 (Kd.slice 3 (Kd.int .i64))) w A1 l1.length l1) :
    Calls Try.prog 46 #[.slice A0 l0.length c0, .slice A1 l1.length c1, .func (.func g) #[] #[]] w fun e w' => e = .returned (.bool (decide (l0 = l1))) ∧ ∃ n, w' = w.drewN n := by
  have hm := hr0.2.1
  have HR0 := Aside0.mk hr0
  have HR1 := Aside0.mk hr1
  have HP := Aside0.mk hp
  clear hr0 hr1 hp
  by_cases hl : l0.length = l1.length
  · have hb : ((l0.length : Int) != (l1.length : Int)) = false := by simp [hl]
    have HL := Aside0.mk hl
    go_enter Try.func46, Try.ntmps46
    clear hl
    go_wp2
    go_loopw [17] (fun v wr => ∃ k : Nat, k ≤ l0.length ∧ v = .int .i64 k ∧ Aside0 (l0.take k = l1.take k) ∧ Drawn0 w wr) (fun v _ => l0.length - (intOf v).toNat)
    case atStart => exact ⟨0, Nat.zero_le _, rfl, ⟨rfl⟩, Drawn0.refl _⟩
    case round =>
      obtain ⟨k, hk, rfl, hN, ⟨nd, rfl⟩⟩ := hrel
      by_cases hlt : k < l0.length
      · have hlt1 : k < l1.length := by have := HL.out; omega
        obtain ⟨a0, B0, d0, rfl, h0, i0, j0⟩ := at_L2 HR0.out (k : Int) (by omega) (by omega)
        obtain ⟨a1, B1, d1, rfl, h1, i1, j1⟩ := at_L2 HR1.out (k : Int) (by omega) (by omega)
        rw [Int.toNat_natCast] at h0 h1
        have E0 := Aside0.mk (show rd_L2 l0 (k : Int) = l0.getD k [] from rdL2)
        have E1 := Aside0.mk (show rd_L2 l1 (k : Int) = l1.getD k [] from rdL2)
        generalize rd_L2 l0 (k : Int) = x at h0 i0 j0 E0
        generalize rd_L2 l1 (k : Int) = y at h1 i1 j1 E1
        have hcall := fun (n : Nat) => HP.out x y B0 B1 d0 d1 (w.drewN n) (Kd.C_drewN j0 n) i0 (Kd.C_drewN j1 n) i1
        have J := Aside0.mk (And.intro i0 (And.intro j0 (And.intro i1 j1)))
        clear i0 j0 i1 j1
        by_cases hxy : x = y
        · rw [decide_eq_true hxy] at hcall
          have HX := Aside0.mk hxy
          clear hxy
          have HC := Aside0.mk hcall
          clear hcall
          go_wp2_with (go_at_fn g; refine (HC.out _).mono ?_; rintro e w' ⟨rfl, q', rfl⟩)
          go_roundw
          case rel => exact ⟨k + 1, by omega, by go_num, ⟨take_eq_succ [] l0 l1 k hlt hlt1 hN.out (by rw [← E0.out, ← E1.out]; exact HX.out)⟩, ⟨_, rfl⟩⟩
          case measure => simp [intOf]; omega
        · rw [decide_eq_false hxy] at hcall
          have HX := Aside0.mk (getD_ne [] l0 l1 k (by rw [← E0.out, ← E1.out]; exact hxy))
          clear hxy
          have HC := Aside0.mk hcall
          clear hcall
          go_wp2_with (go_at_fn g; refine (HC.out _).mono ?_; rintro e w' ⟨rfl, q', rfl⟩)
          go_ret
          exact ⟨by rw [HX.out]; rfl, _, rfl⟩
      · obtain rfl : k = l0.length := by omega
        go_wp2
        go_ret
        refine ⟨?_, _, rfl⟩
        have := hN.out
        rw [List.take_length, HL.out, List.take_length] at this
        rw [decide_eq_true this]
        rfl
  · have hb : ((l0.length : Int) != (l1.length : Int)) = true := by simp; omega
    have HX := Aside0.mk (show decide (l0 = l1) = false from decide_eq_false (fun e => hl (by rw [e])))
    go_enter Try.func46, Try.ntmps46
    go_wp2
    go_ret
    exact ⟨by rw [HX.out]; rfl, 0, rfl⟩
set_option maxHeartbeats 1000000 in
theorem equalLists.holds (g : Nat) (eg : ∀ args w, (callFunc g args).run Try.prog w = .ok (.enter g args) w)
    (hp : ∀ (x y : List (S33)) (Ax Ay : Option Addr) (cx cy : Nat) (W : World), Kd.C (k33) W Ax x.length x → x.length ≤ cx → Kd.C (k33) W Ay y.length y → y.length ≤ cy →
      Calls Try.prog g #[.slice Ax x.length cx, .slice Ay y.length cy] W fun e w' => e = .returned (.bool (decide (x = y))) ∧ ∃ n, w' = W.drewN n)
    (A0 : Option Addr) (c0 : Nat) (l0 : List (List (S33))) (A1 : Option Addr) (c1 : Nat) (l1 : List (List (S33))) (w : World) (hr0 : Kd.C (Kd.slice 33 (k33)) w A0 l0.length l0) (hr1 : Kd.C (Kd.slice 33 (k33)) w A1 l1.length l1) :
    Calls Try.prog 47 #[.slice A0 l0.length c0, .slice A1 l1.length c1, .func (.func g) #[] #[]] w fun e w' => e = .returned (.bool (decide (l0 = l1))) ∧ ∃ n, w' = w.drewN n := by
  have hm := hr0.2.1
  have HR0 := Aside0.mk hr0
  have HR1 := Aside0.mk hr1
  have HP := Aside0.mk hp
  clear hr0 hr1 hp
  by_cases hl : l0.length = l1.length
  · have hb : ((l0.length : Int) != (l1.length : Int)) = false := by simp [hl]
    have HL := Aside0.mk hl
    go_enter Try.func47, Try.ntmps47
    clear hl
    go_wp2
    go_loopw [17] (fun v wr => ∃ k : Nat, k ≤ l0.length ∧ v = .int .i64 k ∧ Aside0 (l0.take k = l1.take k) ∧ Drawn0 w wr) (fun v _ => l0.length - (intOf v).toNat)
    case atStart => exact ⟨0, Nat.zero_le _, rfl, ⟨rfl⟩, Drawn0.refl _⟩
    case round =>
      obtain ⟨k, hk, rfl, hN, ⟨nd, rfl⟩⟩ := hrel
      by_cases hlt : k < l0.length
      · have hlt1 : k < l1.length := by have := HL.out; omega
        obtain ⟨a0, B0, d0, rfl, h0, i0, j0⟩ := at_L4 HR0.out (k : Int) (by omega) (by omega)
        obtain ⟨a1, B1, d1, rfl, h1, i1, j1⟩ := at_L4 HR1.out (k : Int) (by omega) (by omega)
        rw [Int.toNat_natCast] at h0 h1
        have E0 := Aside0.mk (show rd_L4 l0 (k : Int) = l0.getD k [] from rdL4)
        have E1 := Aside0.mk (show rd_L4 l1 (k : Int) = l1.getD k [] from rdL4)
        generalize rd_L4 l0 (k : Int) = x at h0 i0 j0 E0
        generalize rd_L4 l1 (k : Int) = y at h1 i1 j1 E1
        have hcall := fun (n : Nat) => HP.out x y B0 B1 d0 d1 (w.drewN n) (Kd.C_drewN j0 n) i0 (Kd.C_drewN j1 n) i1
        have J := Aside0.mk (And.intro i0 (And.intro j0 (And.intro i1 j1)))
        clear i0 j0 i1 j1
        by_cases hxy : x = y
        · rw [decide_eq_true hxy] at hcall
          have HX := Aside0.mk hxy
          clear hxy
          have HC := Aside0.mk hcall
          clear hcall
          go_wp2_with (go_at_fn g; refine (HC.out _).mono ?_; rintro e w' ⟨rfl, q', rfl⟩)
          go_roundw
          case rel => exact ⟨k + 1, by omega, by go_num, ⟨take_eq_succ [] l0 l1 k hlt hlt1 hN.out (by rw [← E0.out, ← E1.out]; exact HX.out)⟩, ⟨_, rfl⟩⟩
          case measure => simp [intOf]; omega
        · rw [decide_eq_false hxy] at hcall
          have HX := Aside0.mk (getD_ne [] l0 l1 k (by rw [← E0.out, ← E1.out]; exact hxy))
          clear hxy
          have HC := Aside0.mk hcall
          clear hcall
          go_wp2_with (go_at_fn g; refine (HC.out _).mono ?_; rintro e w' ⟨rfl, q', rfl⟩)
          go_ret
          exact ⟨by rw [HX.out]; rfl, _, rfl⟩
      · obtain rfl : k = l0.length := by omega
        go_wp2
        go_ret
        refine ⟨?_, _, rfl⟩
        have := hN.out
        rw [List.take_length, HL.out, List.take_length] at this
        rw [decide_eq_true this]
        rfl
  · have hb : ((l0.length : Int) != (l1.length : Int)) = true := by simp; omega
    have HX := Aside0.mk (show decide (l0 = l1) = false from decide_eq_false (fun e => hl (by rw [e])))
    go_enter Try.func47, Try.ntmps47
    go_wp2
    go_ret
    exact ⟨by rw [HX.out]; rfl, 0, rfl⟩
theorem sameLinks_lit (x y : List S33) (Ax Ay : Option Addr) (cx cy : Nat) (W : World) (hx : Kd.C k33 W Ax x.length x) (lx : x.length ≤ cx) (hy : Kd.C k33 W Ay y.length y) (ly : y.length ≤ cy) :
    Calls Try.prog 48 #[.slice Ax x.length cx, .slice Ay y.length cy] W fun e w' => e = .returned (.bool (decide (x = y))) ∧ ∃ n, w' = W.drewN n := by
  have HC := Aside0.mk (equalLinks.holds Ax cx x Ay cy y W hx hy)
  clear hx lx hy ly
  go_enter Try.func48, Try.ntmps48
  go_wp2_with (go_at_call 49; refine HC.out.mono ?_; rintro e w' ⟨rfl, ⟨n, rfl⟩⟩)
  go_ret
  exact ⟨rfl, n, rfl⟩
theorem rowsEqual_at (x y : List (List Int)) (Ax Ay : Option Addr) (cx cy : Nat) (W : World) (hx : Kd.C (Kd.slice 3 (Kd.int .i64)) W Ax x.length x) (lx : x.length ≤ cx) (hy : Kd.C (Kd.slice 3 (Kd.int .i64)) W Ay y.length y) (ly : y.length ≤ cy) :
    Calls Try.prog 16 #[.slice Ax x.length cx, .slice Ay y.length cy] W fun e w' => e = .returned (.bool (decide (x = y))) ∧ ∃ n, w' = W.drewN n :=
  (schismalaw51_rowsEqual.calls Ax cx x Ay cy y _ W hx lx hy ly rfl).mono fun e w' ⟨h, ⟨n, hn⟩⟩ => ⟨h, n, hn⟩
set_option maxRecDepth 100000 in
set_option maxHeartbeats 1000000 in
/-- same, on two walks that are alike -/
theorem same_alike (A0 A1 A2 B0 B1 B2 : Option Addr) (c0 c1 c2 d0 d1 d2 : Nat) (P : List Int) (C : List (List (List Int))) (L : List (List S33)) (w : World)
    (h0 : Kd.C (Kd.int .i64) w A0 P.length P) (l0 : P.length ≤ c0) (h1 : Kd.C (Kd.slice 25 (Kd.slice 3 (Kd.int .i64))) w A1 C.length C) (h2 : Kd.C (Kd.slice 33 k33) w A2 L.length L)
    (g0 : Kd.C (Kd.int .i64) w B0 P.length P) (m0 : P.length ≤ d0) (g1 : Kd.C (Kd.slice 25 (Kd.slice 3 (Kd.int .i64))) w B1 C.length C) (g2 : Kd.C (Kd.slice 33 k33) w B2 L.length L)
    (hP : Ev (fun k => api_Primes_int_45.f k P P) true) :
    Calls Try.prog 22 #[.agg #[.slice A0 P.length c0, .slice A1 C.length c1, .slice A2 L.length c2], .agg #[.slice B0 P.length d0, .slice B1 C.length d1, .slice B2 L.length d2]] w fun e w' => e = .returned (.bool true) ∧ Below w.heap.size w w' := by
  have hu30 := Try.underlying30
  obtain ⟨kp, hkp⟩ := hP.rounds
  have H0 := Lib.hid (fun (W : World) (hW : Below w.heap.size w W) => api_Primes_int_45.calls kp A0 c0 P B0 d0 P true W (Kd.C_below h0 hW) l0 (Kd.C_below g0 hW) m0 hkp)
  have H1 := Lib.hid (fun (W : World) (hW : Below w.heap.size w W) => equalChords.holds 16 (enters_of Try.func16 (by kernel_rfl) rfl) rowsEqual_at A1 c1 C B1 d1 C W (Kd.C_below h1 hW) (Kd.C_below g1 hW))
  have H2 := Lib.hid (fun (W : World) (hW : Below w.heap.size w W) => equalLists.holds 48 (enters_of Try.func48 (by kernel_rfl) rfl) sameLinks_lit A2 c2 L B2 d2 L W (Kd.C_below h2 hW) (Kd.C_below g2 hW))
  clear h0 l0 h1 h2 g0 m0 g1 g2 hP hkp
  rw [decide_eq_true rfl] at H1 H2
  go_enter Try.func22, Try.ntmps22
  go_wp2_with fail
  refine (H0.out _ (below_alloc (below_alloc (Below.refl _ _) _) _)).mono ?_
  rintro e w3 ⟨rfl, ⟨n0, rfl⟩⟩
  go_wp2_with fail
  refine (H1.out _ (pw_below_drewN (below_alloc (below_alloc (Below.refl _ _) _) _) _)).mono ?_
  rintro e w3 ⟨rfl, ⟨n1, rfl⟩⟩
  go_wp2_with fail
  refine (H2.out _ (pw_below_drewN (below_alloc (below_alloc (Below.refl _ _) _) _) _)).mono ?_
  rintro e w3 ⟨rfl, ⟨n2, rfl⟩⟩
  go_wp2
  go_ret
  exact ⟨rfl, pw_below_drewN (below_alloc (below_alloc (Below.refl _ _) _) _) _⟩
end Go.Proofs.Ytdcpmggjhmdmmaa.X

-- what is used of it (wip/tools/slim.py)
/- slices.EqualFunc on rows; rowsEqual. -/
import Derived.Test.YtdcpmggjhmdmmaaJDPure
import Derived.Shelf.Abstract
namespace Go.Proofs.Ytdcpmggjhmdmmaa.X
set_option linter.unusedVariables false
open Go.RowKit Go.Proofs.YtdcpmggjhmdmmaaW.PrintWords Go.Proofs.YtdcpmggjhmdmmaaW.PrintLast Go.Proofs.YtdcpmggjhmdmmaaW.PrintMore
theorem getD_ne {α : Type} [DecidableEq α] (z : α) (l0 l1 : List α) (k : Nat) (h : l0.getD k z ≠ l1.getD k z) : decide (l0 = l1) = false := decide_eq_false (fun e => h (by rw [e]))
theorem take_eq_succ {α : Type} (z : α) (l0 l1 : List α) (k : Nat) (h0 : k < l0.length) (h1 : k < l1.length) (ht : l0.take k = l1.take k) (h : l0.getD k z = l1.getD k z) : l0.take (k + 1) = l1.take (k + 1) := by
  rw [List.take_succ_eq_append_getElem h0, List.take_succ_eq_append_getElem h1, ht]
  have e0 : l0.getD k z = l0[k] := by simp [h0]
  have e1 : l1.getD k z = l1[k] := by simp [h1]
  rw [e0, e1] at h
  rw [h]
set_option maxHeartbeats 1000000 in
theorem equalRows.holds (g : Nat) (eg : ∀ args w, (callFunc g args).run Try.prog w = .ok (.enter g args) w)
    (hp : ∀ (x y : List Int) (Ax Ay : Option Addr) (cx cy : Nat) (W : World), Kd.C (Kd.int .i64) W Ax x.length x → x.length ≤ cx → Kd.C (Kd.int .i64) W Ay y.length y → y.length ≤ cy →
      Calls Try.prog g #[.slice Ax x.length cx, .slice Ay y.length cy] W fun e w' => e = .returned (.bool (decide (x = y))) ∧ ∃ n, w' = W.drewN n)
    (A0 : Option Addr) (c0 : Nat) (l0 : List (List Int)) (A1 : Option Addr) (c1 : Nat) (l1 : List (List Int)) (w : World) (hr0 : Kd.C (Kd.slice 3 (Kd.int .i64)) w A0 l0.length l0) (hr1 : Kd.C (Kd.slice 3 (Kd.int .i64)) w A1 l1.length l1) :
    Calls Try.prog 38 #[.slice A0 l0.length c0, .slice A1 l1.length c1, .func (.func g) #[] #[]] w fun e w' => e = .returned (.bool (decide (l0 = l1))) ∧ ∃ n, w' = w.drewN n := by
  have hm := hr0.2.1
  have HR0 := Aside0.mk hr0
  have HR1 := Aside0.mk hr1
  have HP := Aside0.mk hp
  clear hr0 hr1 hp
  by_cases hl : l0.length = l1.length
  · have hb : ((l0.length : Int) != (l1.length : Int)) = false := by simp [hl]
    have HL := Aside0.mk hl
    go_enter Try.func38, Try.ntmps38
    clear hl
    go_wp2
    go_loopw [17] (fun v wr => ∃ k : Nat, k ≤ l0.length ∧ v = .int .i64 k ∧ Aside0 (l0.take k = l1.take k) ∧ Drawn0 w wr) (fun v _ => l0.length - (intOf v).toNat)
    case atStart => exact ⟨0, Nat.zero_le _, rfl, ⟨rfl⟩, Drawn0.refl _⟩
    case round =>
      obtain ⟨k, hk, rfl, hN, ⟨nd, rfl⟩⟩ := hrel
      by_cases hlt : k < l0.length
      · have hlt1 : k < l1.length := by have := HL.out; omega
        obtain ⟨a0, B0, d0, rfl, h0, i0, j0⟩ := at_L1 HR0.out (k : Int) (by omega) (by omega)
        obtain ⟨a1, B1, d1, rfl, h1, i1, j1⟩ := at_L1 HR1.out (k : Int) (by omega) (by omega)
        rw [Int.toNat_natCast] at h0 h1
        have E0 := Aside0.mk (show rd_L1 l0 (k : Int) = l0.getD k [] from rdL)
        have E1 := Aside0.mk (show rd_L1 l1 (k : Int) = l1.getD k [] from rdL)
        generalize rd_L1 l0 (k : Int) = x at h0 i0 j0 E0
        generalize rd_L1 l1 (k : Int) = y at h1 i1 j1 E1
        have hcall := fun (n : Nat) => HP.out x y B0 B1 d0 d1 (w.drewN n) (Kd.C_drewN j0 n) i0 (Kd.C_drewN j1 n) i1
        have J := Aside0.mk (And.intro i0 (And.intro j0 (And.intro i1 j1)))
        clear i0 j0 i1 j1
        by_cases hxy : x = y
        · rw [decide_eq_true hxy] at hcall
          have HX := Aside0.mk hxy
          clear hxy
          have HC := Aside0.mk hcall
          clear hcall
          go_wp2_with (go_at_fn g; refine (HC.out _).mono ?_; rintro e w' ⟨rfl, q', rfl⟩)
          go_roundw
          case rel => exact ⟨k + 1, by omega, by go_num, ⟨take_eq_succ [] l0 l1 k hlt hlt1 hN.out (by rw [← E0.out, ← E1.out]; exact HX.out)⟩, ⟨_, rfl⟩⟩
          case measure => simp [intOf]; omega
        · rw [decide_eq_false hxy] at hcall
          have HX := Aside0.mk (getD_ne [] l0 l1 k (by rw [← E0.out, ← E1.out]; exact hxy))
          clear hxy
          have HC := Aside0.mk hcall
          clear hcall
          go_wp2_with (go_at_fn g; refine (HC.out _).mono ?_; rintro e w' ⟨rfl, q', rfl⟩)
          go_ret
          exact ⟨by rw [HX.out]; rfl, _, rfl⟩
      · obtain rfl : k = l0.length := by omega
        go_wp2
        go_ret
        refine ⟨?_, _, rfl⟩
        have := hN.out
        rw [List.take_length, HL.out, List.take_length] at this
        rw [decide_eq_true this]
        rfl
  · have hb : ((l0.length : Int) != (l1.length : Int)) = true := by simp; omega
    have HX := Aside0.mk (show decide (l0 = l1) = false from decide_eq_false (fun e => hl (by rw [e])))
    go_enter Try.func38, Try.ntmps38
    go_wp2
    go_ret
    exact ⟨by rw [HX.out]; rfl, 0, rfl⟩
theorem rowsEqual_lit (x y : List Int) (Ax Ay : Option Addr) (cx cy : Nat) (W : World) (hx : Kd.C (Kd.int .i64) W Ax x.length x) (lx : x.length ≤ cx) (hy : Kd.C (Kd.int .i64) W Ay y.length y) (ly : y.length ≤ cy) :
    Calls Try.prog 39 #[.slice Ax x.length cx, .slice Ay y.length cy] W fun e w' => e = .returned (.bool (decide (x = y))) ∧ ∃ n, w' = W.drewN n := by
  obtain ⟨k, hk⟩ := (eq_ev x y hx.2.1).rounds
  have HC := Aside0.mk (api_Row_int_12.calls k Ax cx x Ay cy y _ W hx lx hy ly hk)
  clear hx lx hy ly hk
  go_enter Try.func39, Try.ntmps39
  go_wp2_with (go_at_call 12; refine HC.out.mono ?_; rintro e w' ⟨rfl, ⟨n, rfl⟩⟩)
  go_ret
  exact ⟨rfl, n, rfl⟩
def schismalaw51_rowsEqual.f (l0 l1 : List (List Int)) : Option Bool := some (decide (l0 = l1))
theorem schismalaw51_rowsEqual.calls (A0 : Option Addr) (c0 : Nat) (l0 : List (List Int)) (A1 : Option Addr) (c1 : Nat) (l1 : List (List Int)) (r : Bool) (w : World) (hr0 : Kd.C (Kd.slice 3 (Kd.int .i64)) w A0 l0.length l0) (hc0 : l0.length ≤ c0) (hr1 : Kd.C (Kd.slice 3 (Kd.int .i64)) w A1 l1.length l1) (hc1 : l1.length ≤ c1) (h : schismalaw51_rowsEqual.f l0 l1 = some r) :
    Calls Try.prog 16 #[.slice A0 l0.length c0, .slice A1 l1.length c1] w fun e w' => e = .returned (.bool r) ∧ Drawn0 w w' := by
  obtain rfl := Option.some.inj h
  have HI := Aside0.mk (equalRows.holds 39 (enters_of Try.func39 (by kernel_rfl) rfl) rowsEqual_lit A0 c0 l0 A1 c1 l1 w hr0 hr1)
  clear hr0 hr1 hc0 hc1
  go_enter Try.func16, Try.ntmps16
  go_wp2_with (go_at_call 38; refine HI.out.mono ?_; rintro e w' ⟨rfl, n, rfl⟩)
  go_ret
  exact ⟨rfl, ⟨n, rfl⟩⟩
end Go.Proofs.Ytdcpmggjhmdmmaa.X

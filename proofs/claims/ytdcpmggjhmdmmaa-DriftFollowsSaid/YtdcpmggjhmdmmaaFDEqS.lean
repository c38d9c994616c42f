-- what is used of it (wip/tools/slim.py)
/- slices.EqualFunc on strains, with the literal of DriftFollows. -/
import Derived.Test.YtdcpmggjhmdmmaaFDPure
import Derived.Shelf.Abstract
namespace Go.Proofs.Ytdcpmggjhmdmmaa.X
open Go.RowKit Go.Proofs.YtdcpmggjhmdmmaaW.PrintWords Go.Proofs.YtdcpmggjhmdmmaaW.PrintLast Go.Proofs.YtdcpmggjhmdmmaaW.PrintMore
set_option linter.unusedVariables false
instance : DecidableEq S62 := fun a b => decidable_of_iff (a.f0 = b.f0 ∧ a.f1 = b.f1 ∧ a.f2 = b.f2) (by cases a; cases b; simp)
def sEq (x y : S62) : Bool := x.f0 == y.f0 && (x.f1 == y.f1 && decide (x.f2 = y.f2))
theorem sEq_iff (x y : S62) : sEq x y = decide (x = y) := by
  obtain ⟨a, b, c⟩ := x
  obtain ⟨a', b', c'⟩ := y
  unfold sEq
  rw [Bool.eq_iff_iff]
  simp
set_option maxRecDepth 100000 in
theorem strainEq_lit (x y : S62) (Ax Ay : Option Addr) (cx cy : Nat) (W : World) (hx : Kd.C (Kd.int .i64) W Ax x.f2.length x.f2) (lx : x.f2.length ≤ cx) (hy : Kd.C (Kd.int .i64) W Ay y.f2.length y.f2) (ly : y.f2.length ≤ cy) :
    Calls Try.prog 19 #[.agg #[.int .i64 x.f0, .int .i64 x.f1, .slice Ax x.f2.length cx], .agg #[.int .i64 y.f0, .int .i64 y.f1, .slice Ay y.f2.length cy]] W fun e w' => e = .returned (.bool (sEq x y)) ∧ Below W.heap.size W w' := by
  obtain ⟨k, hk⟩ := (eq_ev x.f2 y.f2 hx.2.1).rounds
  have HC := Aside0.mk (fun (W1 : World) (hb : Below W.heap.size W W1) => api_Row_int_12.calls k Ax cx x.f2 Ay cy y.f2 _ W1 (Kd.C_below hx hb) lx (Kd.C_below hy hb) ly hk)
  clear hx lx hy ly hk
  have hu := Try.underlying62
  unfold sEq
  cases h0 : (x.f0 == y.f0) with
  | false =>
    go_enter Try.func19, Try.ntmps19
    go_wp2
    go_ret
    exact ⟨rfl, by repeat (first | exact Below.refl _ _ | apply below_alloc | apply pw_below_drewN | apply below_drew1)⟩
  | true =>
    cases h1 : (x.f1 == y.f1) with
    | false =>
      go_enter Try.func19, Try.ntmps19
      go_wp2
      go_ret
      exact ⟨rfl, by repeat (first | exact Below.refl _ _ | apply below_alloc | apply pw_below_drewN | apply below_drew1)⟩
    | true =>
      go_enter Try.func19, Try.ntmps19
      go_wp2_with (go_at_call 12; refine (HC.out _ (below_alloc (below_alloc (Below.refl _ _) _) _)).mono ?_; rintro e w' ⟨rfl, ⟨n, rfl⟩⟩)
      go_ret
      exact ⟨by simp, by repeat (first | exact Below.refl _ _ | apply below_alloc | apply pw_below_drewN | apply below_drew1)⟩
theorem rdT62 {xs : List S62} {j : Nat} : rd_T62 xs (j : Int) = xs.getD j z62 := by simp [rd_T62]
theorem getD_ne' {α : Type} (z : α) (l0 l1 : List α) (k : Nat) (h : l0.getD k z ≠ l1.getD k z) : ¬ l0 = l1 := fun e => h (by rw [e])
theorem take_eq_succ' {α : Type} (z : α) (l0 l1 : List α) (k : Nat) (h0 : k < l0.length) (h1 : k < l1.length) (ht : l0.take k = l1.take k) (h : l0.getD k z = l1.getD k z) : l0.take (k + 1) = l1.take (k + 1) := by
  rw [List.take_succ_eq_append_getElem h0, List.take_succ_eq_append_getElem h1, ht]
  have e0 : l0.getD k z = l0[k] := by simp [h0]
  have e1 : l1.getD k z = l1[k] := by simp [h1]
  rw [e0, e1] at h
  rw [h]
set_option maxRecDepth 100000 in
set_option maxHeartbeats 1000000 in
theorem equalStrains.holds (A0 : Option Addr) (c0 : Nat) (l0 : List S62) (A1 : Option Addr) (c1 : Nat) (l1 : List S62) (w : World) (hr0 : Kd.C k62 w A0 l0.length l0) (hr1 : Kd.C k62 w A1 l1.length l1) :
    Calls Try.prog 17 #[.slice A0 l0.length c0, .slice A1 l1.length c1, .func (.func 19) #[] #[]] w fun e w' => e = .returned (.bool (decide (l0 = l1))) ∧ Below w.heap.size w w' := by
  have hm := hr0.2.1
  have HR0 := Aside0.mk hr0
  have HR1 := Aside0.mk hr1
  have eg : ∀ args w, (callFunc 19 args).run Try.prog w = .ok (.enter 19 args) w := enters_of Try.func19 (by kernel_rfl) rfl
  have hu := Try.underlying62
  clear hr0 hr1
  by_cases hl : l0.length = l1.length
  · have hb : ((l0.length : Int) != (l1.length : Int)) = false := by simp [hl]
    have HL := Aside0.mk hl
    go_enter Try.func17, Try.ntmps17
    clear hl
    go_wp2
    go_loopw [17] (fun v wr => ∃ k : Nat, k ≤ l0.length ∧ v = .int .i64 k ∧ Aside0 (l0.take k = l1.take k) ∧ Aside0 (Below w.heap.size w wr)) (fun v _ => l0.length - (intOf v).toNat)
    case atStart => exact ⟨0, Nat.zero_le _, rfl, ⟨rfl⟩, ⟨Below.refl _ _⟩⟩
    case round =>
      obtain ⟨k, hk, rfl, hN, hB⟩ := hrel
      by_cases hlt : k < l0.length
      · have hlt1 : k < l1.length := by have := HL.out; omega
        obtain ⟨a0, B0, d0, rfl, h00, h01, h02, i0, j0⟩ := at_T62 (Kd.C_below HR0.out hB.out) (k : Int) (by omega) (by omega)
        obtain ⟨a1, B1, d1, rfl, h10, h11, h12, i1, j1⟩ := at_T62 (Kd.C_below HR1.out hB.out) (k : Int) (by omega) (by omega)
        rw [Int.toNat_natCast] at h00 h01 h02 h10 h11 h12
        have h10' := fun (o : Obj) => (World.cell?_alloc_lt _ o _ (World.block_lt_of_cell? _ _ h10)).trans h10
        have h11' := fun (o : Obj) => (World.cell?_alloc_lt _ o _ (World.block_lt_of_cell? _ _ h11)).trans h11
        have h12' := fun (o : Obj) => (World.cell?_alloc_lt _ o _ (World.block_lt_of_cell? _ _ h12)).trans h12
        clear h10 h11 h12
        have E0 := Aside0.mk (show rd_T62 l0 (k : Int) = l0.getD k z62 from rdT62)
        have E1 := Aside0.mk (show rd_T62 l1 (k : Int) = l1.getD k z62 from rdT62)
        generalize rd_T62 l0 (k : Int) = x at h00 h01 h02 i0 j0 E0
        generalize rd_T62 l1 (k : Int) = y at h10' h11' h12' i1 j1 E1
        have hcall := fun (W : World) (hW : Below wr.heap.size wr W) => strainEq_lit x y B0 B1 d0 d1 W (Kd.C_below j0 hW) i0 (Kd.C_below j1 hW) i1
        clear i0 j0 i1 j1
        rw [sEq_iff] at hcall
        by_cases hxy : x = y
        · rw [decide_eq_true hxy] at hcall
          have HX := Aside0.mk hxy
          clear hxy
          have HC := Aside0.mk hcall
          clear hcall
          go_wp2_with (go_at_call 19; refine (HC.out _ (by repeat (first | exact Below.refl _ _ | apply below_alloc | apply pw_below_drewN | apply below_drew1))).mono ?_; rintro e w' ⟨rfl, hb2⟩; have HB2 := Aside0.mk (below_step hB.out (below_step (below_alloc (below_alloc (Below.refl _ _) _) _) hb2)); clear hb2)
          go_roundw
          case rel => exact ⟨k + 1, by omega, by go_num, ⟨take_eq_succ' z62 l0 l1 k hlt hlt1 hN.out (by rw [← E0.out, ← E1.out]; exact HX.out)⟩, HB2⟩
          case measure => simp [intOf]; omega
        · rw [decide_eq_false hxy] at hcall
          have HX := Aside0.mk (decide_eq_false (getD_ne' z62 l0 l1 k (by rw [← E0.out, ← E1.out]; exact hxy)))
          clear hxy
          have HC := Aside0.mk hcall
          clear hcall
          go_wp2_with (go_at_call 19; refine (HC.out _ (by repeat (first | exact Below.refl _ _ | apply below_alloc | apply pw_below_drewN | apply below_drew1))).mono ?_; rintro e w' ⟨rfl, hb2⟩; have HB2 := Aside0.mk (below_step hB.out (below_step (below_alloc (below_alloc (Below.refl _ _) _) _) hb2)); clear hb2)
          go_ret
          exact ⟨by rw [HX.out]; rfl, HB2.out⟩
      · obtain rfl : k = l0.length := by omega
        go_wp2
        go_ret
        refine ⟨?_, hB.out⟩
        have := hN.out
        rw [List.take_length, HL.out, List.take_length] at this
        rw [decide_eq_true this]
        rfl
  · have hb : ((l0.length : Int) != (l1.length : Int)) = true := by simp; omega
    have HX := Aside0.mk (show decide (l0 = l1) = false from decide_eq_false (fun e => hl (by rw [e])))
    go_enter Try.func17, Try.ntmps17
    go_wp2
    go_ret
    exact ⟨by rw [HX.out]; rfl, Below.refl _ _⟩
end Go.Proofs.Ytdcpmggjhmdmmaa.X

-- what is used of it (wip/tools/slim.py)
/- slices.Grow, slices.Clone, slices.Concat on lists of chords and of lists of links. -/
import Derived.Test.YtdcpmggjhmdmmaaJDMq
import Derived.Lib.Hide
namespace Go.Proofs.Ytdcpmggjhmdmmaa.X
open Go.RowKit Go.Proofs.YtdcpmggjhmdmmaaW.PrintWords Go.Proofs.YtdcpmggjhmdmmaaW.PrintLast Go.Proofs.YtdcpmggjhmdmmaaW.PrintMore
set_option linter.unusedVariables false
section
variable {α : Type} {d : Kd α} {W : World} {A : Option Addr} {n : Nat} {xs : List α}
/-- what is read now is read in whatever world that agrees on the blocks of now -/
theorem F_of_C (hk : ∀ x c, d.K W x c → Kd.FK d W (fun k => k < W.heap.size) x c) (h : d.C W A n xs) : Kd.F d W (fun k => k < W.heap.size) A n xs := by
  intro W' hW'
  refine ⟨h.1, h.2.1, fun hn => ?_⟩
  obtain ⟨ad, hA, hel⟩ := h.2.2 hn
  refine ⟨ad, hA, fun j x hj => ?_⟩
  obtain ⟨c, hl, hK, hc⟩ := hel j x hj
  refine ⟨c, hl, hk x c hK W' hW', fun i u hi => ?_⟩
  have hc1 := hc i u hi
  have hb := Cl.of_cell hc1
  rw [add_blk] at hb
  have hlt : ad.block < W.heap.size := by
    obtain ⟨cs, t, fr, hcs⟩ := hb
    exact (Array.getElem?_eq_some_iff.1 hcs).1
  rw [← hc1]
  unfold World.cell?
  rw [show (ad.add (j * d.sz + i)).block = ad.block from add_blk _ _, hW' ad.block hlt hlt]
theorem FK_int_of {k : IntKind} (x : Int) (c : List Value) (h : (Kd.int k).K W x c) : Kd.FK (Kd.int k) W (fun q => q < W.heap.size) x c := fun W' _ => (show (Kd.int k).K W x c from h)
theorem FK_k33_of (x : S33) (c : List Value) (h : k33.K W x c) : Kd.FK k33 W (fun q => q < W.heap.size) x c := fun W' _ => (show k33.K W x c from h)
theorem FK_slice_of {e : Nat} (hk : ∀ x c, d.K W x c → Kd.FK d W (fun k => k < W.heap.size) x c) (x : List α) (c : List Value) (h : (Kd.slice e d).K W x c) : Kd.FK (Kd.slice e d) W (fun k => k < W.heap.size) x c := by
  obtain ⟨A, cc, rfl, hl, hC⟩ := h
  exact Kd.FK_slice_mk hl (F_of_C hk hC)
end
theorem F_chords {W : World} {A : Option Addr} {n : Nat} {C : List (List (List Int))} (h : (Kd.slice 25 (Kd.slice 3 (Kd.int .i64))).C W A n C) : Kd.F (Kd.slice 25 (Kd.slice 3 (Kd.int .i64))) W (fun k => k < W.heap.size) A n C :=
  F_of_C (fun x c h => FK_slice_of (fun x c h => FK_slice_of (fun x c h => FK_int_of x c h) x c h) x c h) h
theorem F_lists {W : World} {A : Option Addr} {n : Nat} {L : List (List S33)} (h : (Kd.slice 33 k33).C W A n L) : Kd.F (Kd.slice 33 k33) W (fun k => k < W.heap.size) A n L :=
  F_of_C (fun x c h => FK_slice_of (fun x c h => FK_k33_of x c h) x c h) h
set_option maxRecDepth 100000 in
set_option maxHeartbeats 1000000 in
theorem grow65 (m : Nat) (hm : m ≤ 1000) (w : World) : Calls Try.prog 65 #[.slice none 0 0, .int .i64 m] w fun e w' => ∃ A c, e = .returned (.slice A 0 c) ∧ Kd.N (Kd.slice 25 (Kd.slice 3 (Kd.int .i64))) 31 w' w.heap.size (fun k => w.heap.size ≤ k) (.slice A 0 c) [] ∧ Below w.heap.size w w' := by
  have hd0 : decide ((m : Int) < 0) = false := decide_eq_false (by omega)
  go_enter Try.func65, Try.ntmps65
  rcases Nat.eq_zero_or_pos m with rfl | h0
  · go_wp2
    go_ret
    exact ⟨none, 0, rfl, Kd.N_nil _ _ _ _ _, Below.refl _ _⟩
  · have hd1 : decide ((m : Int) > 0) = true := decide_eq_true (by omega)
    go_wp2_with (first | ((with_reducible refine gate_builtin (b := .append) (xs := #[.tmp 20, .tmp 21]) rfl ?_); at_builtin; (refine Kd.N_append_zeros (Kd.slice 25 (Kd.slice 3 (Kd.int .i64))) (w0 := w) w.heap.size ?_ (.tmp 20) (.tmp 21) 27 3 31 (.slice none 0 0) 24 ?_ ?_ (k := .i64) ?_ ?_ ?_ ?_ ?_ (.slice none 0 0) [] [] (kx := .i64) m (fun k => w.heap.size ≤ k) ?_ ?_ ?_ ?_ ?_ ?_ ?_ ?_ ?_ ?_; exact rfl; exact rfl; exact Try.underlying27; exact Try.underlying3; exact info31; exact rfl; decide; omega; exact rfl; exact rfl; exact Kd.FK_slice_mk (Nat.le_refl _) (Kd.F_nil _ _ _); exact fun _ h => h; exact Kd.N_nil _ _ _ _ _; omega; exact Below.refl _ _; exact Nat.le_refl _; (rw [Int.toNat_natCast]; show (0 + m) * 24 ≤ _; omega); intro v1 w2 hN hB hg hat; obtain ⟨A1, N1, c1, rfl⟩ := N_val3 hN; have HN := Aside0.mk hN; have HB := Aside0.mk hB; clear hN hB hg hat)))
    go_ret
    exact ⟨A1, c1, rfl, by have := Kd.N_take HN.out (m := 0) (Nat.zero_le _); simpa using this, HB.out⟩
theorem cat_ok {v : Value} {n : Nat} {okp : Nat → Prop} (hok : ∀ k, okp k → k < n) (h : ∀ k, v.ownBlock = some k → n ≤ k) : ∀ k, okp k → (n ≤ k ∨ okp k) ∧ some k ≠ v.ownBlock := fun k hk => ⟨.inr hk, fun e => by have := h k e.symm; have := hok k hk; omega⟩
theorem cat_any {n : Nat} {okp : Nat → Prop} {m : Nat} (h : n ≤ m) : ∀ k, m ≤ k → (n ≤ k ∨ okp k) := fun k hk => .inl (Nat.le_trans h hk)
theorem cat_lt {w : World} {B : Nat} {o : Obj} {v : Value} (hB : w.heap[B]? = some o) (h : ∀ k, v.ownBlock = some k → w.heap.size ≤ k) : some B ≠ v.ownBlock := fun e => by
  have := h B e.symm
  have := (Array.getElem?_eq_some_iff.1 hB).1
  omega
theorem cat_below {w wr w2 : World} {row : Option Nat} (hb : Below w.heap.size w wr) (hg : wr.grownBy w2 row) (hr : ∀ k, row = some k → w.heap.size ≤ k) : Below w.heap.size w w2 := hb.grown hg hb.size hr
theorem cat_keep {wr w2 : World} {B : Nat} {o : Obj} {row : Option Nat} (hB : wr.heap[B]? = some o) (hg : wr.grownBy w2 row) (hr : some B ≠ row) : w2.heap[B]? = some o := (hg.block B (Array.getElem?_eq_some_iff.1 hB).1 hr).trans hB
theorem C_none {α : Type} {d : Kd α} {W : World} {xs : List α} (h : d.C W none xs.length xs) : xs = [] := by
  cases xs with
  | nil => rfl
  | cons x xs =>
    obtain ⟨ad, hA, _⟩ := h.2.2 (by simp)
    cases hA
set_option maxRecDepth 100000 in
set_option maxHeartbeats 2000000 in
theorem concat52 (B : Nat) (A1 A2 : Option Addr) (c1 c2 : Nat) (C1 C2 : List (List (List Int))) (w : World) (hB : w.heap[B]? = some (.cells #[.slice A1 C1.length c1, .slice A2 C2.length c2] 27 (0, 0)))
    (okp : Nat → Prop) (hok : ∀ k, okp k → k < w.heap.size) (h1 : Kd.F (Kd.slice 25 (Kd.slice 3 (Kd.int .i64))) w okp A1 C1.length C1) (h2 : Kd.F (Kd.slice 25 (Kd.slice 3 (Kd.int .i64))) w okp A2 C2.length C2) (l1 : C1.length ≤ 100) (l2 : C2.length ≤ 100) :
    Calls Try.prog 52 #[.slice (some ⟨B, 0, none⟩) 2 2] w fun e w' => ∃ A c, e = .returned (.slice A (C1.length + C2.length) c) ∧ C1.length + C2.length ≤ c ∧ Kd.F (Kd.slice 25 (Kd.slice 3 (Kd.int .i64))) w' (fun k => w.heap.size ≤ k ∨ okp k) A (C1.length + C2.length) (C1 ++ C2) ∧ Below w.heap.size w w' := by
  have F1 := Aside0.mk h1
  have F2 := Aside0.mk h2
  have HOK := Aside0.mk hok
  have HBk := Aside0.mk hB
  clear h1 h2 hok
  have e0 := blk_cell hB 0
  have e1 := blk_cell hB 1
  simp only [List.getElem?_toArray, List.getElem?_cons_zero, List.getElem?_cons_succ] at e0 e1
  clear hB
  go_enter Try.func52, Try.ntmps52
  go_wp2
  have w1 : wrap64 (C1.length : Int) = (C1.length : Int) := wrap_in (by omega) (by omega)
  have w2 : wrap64 ((C1.length : Int) + (C2.length : Int)) = (C1.length : Int) + (C2.length : Int) := wrap_in (by omega) (by omega)
  have d1 : decide ((C1.length : Int) < 0) = false := decide_eq_false (by omega)
  have d2 : decide ((C1.length : Int) + (C2.length : Int) < 0) = false := decide_eq_false (by omega)
  go_loopw [3, 11] (fun v3 v11 wr => w = wr ∧ ((v3 = .int .i64 0 ∧ v11 = .int .i64 0) ∨ (v3 = .int .i64 C1.length ∧ v11 = .int .i64 1) ∨ (v3 = .int .i64 ((C1.length : Int) + (C2.length : Int)) ∧ v11 = .int .i64 2))) (fun _ v _ => 2 - (intOf v).toNat)
  case atStart => exact ⟨rfl, .inl ⟨rfl, rfl⟩⟩
  case round =>
    obtain ⟨rfl, hrel⟩ := hrel
    rcases hrel with ⟨rfl, rfl⟩ | ⟨rfl, rfl⟩ | ⟨rfl, rfl⟩
    · go_wp2
      go_roundw
      case rel => exact ⟨by first | rfl | trivial, .inr (.inl ⟨by first | rfl | simp [w1], by first | rfl | trivial | go_num⟩)⟩
      case measure => simp [intOf]
    · go_wp2
      go_roundw
      case rel => exact ⟨by first | rfl | trivial, .inr (.inr ⟨by first | rfl | simp [w2], by first | rfl | trivial | go_num⟩)⟩
      case measure => simp [intOf]
    · have hg := grow65 (C1.length + C2.length) (by omega)
      rw [show ((C1.length + C2.length : Nat) : Int) = (C1.length : Int) + (C2.length : Int) by omega] at hg
      have HG := Lib.hid hg
      clear hg e0 e1
      go_wp2_with fail
      refine (HG.out _).mono ?_
      rintro e w3 ⟨A, c, rfl, hN, hBw⟩
      have HN := Aside0.mk hN
      have HW := Aside0.mk hBw
      have HB3 := Aside0.mk (blk_below HBk.out hBw)
      clear hN hBw
      go_wp2
      go_loopw [6, 27] (fun v6 v27 wr => Aside0 (Below w.heap.size w wr ∧ wr.heap[B]? = some (.cells #[.slice A1 C1.length c1, .slice A2 C2.length c2] 27 (0, 0))) ∧ ((v27 = .int .i64 0 ∧ Aside0 (Kd.N (Kd.slice 25 (Kd.slice 3 (Kd.int .i64))) 31 wr w.heap.size (fun k => w.heap.size ≤ k ∨ okp k) v6 [])) ∨ (v27 = .int .i64 1 ∧ Aside0 (Kd.N (Kd.slice 25 (Kd.slice 3 (Kd.int .i64))) 31 wr w.heap.size (fun k => w.heap.size ≤ k ∨ okp k) v6 C1)) ∨ (v27 = .int .i64 2 ∧ Aside0 (Kd.N (Kd.slice 25 (Kd.slice 3 (Kd.int .i64))) 31 wr w.heap.size (fun k => w.heap.size ≤ k ∨ okp k) v6 (C1 ++ C2))))) (fun _ v _ => 2 - (intOf v).toNat)
      case atStart => exact ⟨⟨HW.out, HB3.out⟩, .inl ⟨rfl, ⟨Kd.N_mono HN.out (fun k hk => .inl hk)⟩⟩⟩
      case round =>
        obtain ⟨HI, hh⟩ := hrel
        have e0 := blk_cell HI.out.2 0
        have e1 := blk_cell HI.out.2 1
        simp only [List.getElem?_toArray, List.getElem?_cons_zero, List.getElem?_cons_succ] at e0 e1
        have G1 := Aside0.mk (Kd.F_step F1.out (fun k hk hlt => HI.out.1.block k (HOK.out k hk)))
        have G2 := Aside0.mk (Kd.F_step F2.out (fun k hk hlt => HI.out.1.block k (HOK.out k hk)))
        rcases hh with ⟨rfl, HO⟩ | ⟨rfl, HO⟩ | ⟨rfl, HO⟩
        · have PLN := Aside0.mk (show (([] : List (List (List Int))).length + C1.length) * 24 ≤ 140737488355328 by simp; omega)
          obtain ⟨A9, N9, c9, rfl⟩ := N_val3 HO.out
          have HNB := Aside0.mk (fun k e => Kd.N_base HO.out k e)
          have HAP := Aside0.mk (cat_ok HOK.out HNB.out)
          go_wp2_with (first | ((with_reducible refine gate_builtin (b := .append) (xs := #[.tmp 31, .tmp 32]) rfl ?_); at_builtin; (refine Kd.N_append_rows (Kd.slice 25 (Kd.slice 3 (Kd.int .i64))) (w0 := w) w.heap.size ?_ (.tmp 31) (.tmp 32) 27 31 (.slice none 0 0) 24 ?_ ?_ ?_ ?_ ?_ ?_ (.slice A9 N9 c9) [] C1 A1 C1.length c1 (fun k => w.heap.size ≤ k ∨ okp k) okp ?_ ?_ ?_ ?_ ?_ ?_ ?_ ?_ ?_ ?_; exact rfl; exact rfl; exact Try.underlying27; exact info31; exact rfl; decide; omega; exact rfl; exact rfl; exact HO.out; exact G1.out; exact HAP.out; exact cat_any HI.out.1.size; exact HI.out.1; exact HI.out.1.size; exact PLN.out; intro v1 w2' hN hB2 hg hat; have HN1 := Aside0.mk hN; have HI1 := Aside0.mk (And.intro (cat_below HI.out.1 hg HNB.out) (cat_keep HI.out.2 hg (cat_lt HBk.out HNB.out))); clear hN hB2 hg hat)))
          go_roundw
          case rel => exact ⟨HI1, .inr (.inl ⟨by first | rfl | go_num, HN1⟩)⟩
          case measure => simp [intOf]
        · have PLN := Aside0.mk (show (C1.length + C2.length) * 24 ≤ 140737488355328 by omega)
          obtain ⟨A9, N9, c9, rfl⟩ := N_val3 HO.out
          have HNB := Aside0.mk (fun k e => Kd.N_base HO.out k e)
          have HAP := Aside0.mk (cat_ok HOK.out HNB.out)
          go_wp2_with (first | ((with_reducible refine gate_builtin (b := .append) (xs := #[.tmp 31, .tmp 32]) rfl ?_); at_builtin; (refine Kd.N_append_rows (Kd.slice 25 (Kd.slice 3 (Kd.int .i64))) (w0 := w) w.heap.size ?_ (.tmp 31) (.tmp 32) 27 31 (.slice none 0 0) 24 ?_ ?_ ?_ ?_ ?_ ?_ (.slice A9 N9 c9) C1 C2 A2 C2.length c2 (fun k => w.heap.size ≤ k ∨ okp k) okp ?_ ?_ ?_ ?_ ?_ ?_ ?_ ?_ ?_ ?_; exact rfl; exact rfl; exact Try.underlying27; exact info31; exact rfl; decide; omega; exact rfl; exact rfl; exact HO.out; exact G2.out; exact HAP.out; exact cat_any HI.out.1.size; exact HI.out.1; exact HI.out.1.size; exact PLN.out; intro v1 w2' hN hB2 hg hat; have HN1 := Aside0.mk hN; have HI1 := Aside0.mk (And.intro (cat_below HI.out.1 hg HNB.out) (cat_keep HI.out.2 hg (cat_lt HBk.out HNB.out))); clear hN hB2 hg hat)))
          go_roundw
          case rel => exact ⟨HI1, .inr (.inr ⟨by first | rfl | go_num, HN1⟩)⟩
          case measure => simp [intOf]
        · obtain ⟨A9, N9, c9, rfl⟩ := N_val3 HO.out
          have R9 := Aside0.mk (Kd.N_reads' HO.out)
          have hn := R9.out.1
          rw [List.length_append] at hn
          subst hn
          go_wp2
          go_ret
          refine ⟨A9, c9, rfl, R9.out.2.1, ?_, HI.out.1⟩
          exact Kd.N_F HO.out
set_option maxRecDepth 100000 in
set_option maxHeartbeats 1000000 in
theorem grow66 (m : Nat) (hm : m ≤ 1000) (w : World) : Calls Try.prog 66 #[.slice none 0 0, .int .i64 m] w fun e w' => ∃ A c, e = .returned (.slice A 0 c) ∧ Kd.N (Kd.slice 33 k33) 34 w' w.heap.size (fun k => w.heap.size ≤ k) (.slice A 0 c) [] ∧ Below w.heap.size w w' := by
  have hd0 : decide ((m : Int) < 0) = false := decide_eq_false (by omega)
  go_enter Try.func66, Try.ntmps66
  rcases Nat.eq_zero_or_pos m with rfl | h0
  · go_wp2
    go_ret
    exact ⟨none, 0, rfl, Kd.N_nil _ _ _ _ _, Below.refl _ _⟩
  · have hd1 : decide ((m : Int) > 0) = true := decide_eq_true (by omega)
    go_wp2_with (first | ((with_reducible refine gate_builtin (b := .append) (xs := #[.tmp 20, .tmp 21]) rfl ?_); at_builtin; (refine Kd.N_append_zeros (Kd.slice 33 k33) (w0 := w) w.heap.size ?_ (.tmp 20) (.tmp 21) 28 3 34 (.slice none 0 0) 24 ?_ ?_ (k := .i64) ?_ ?_ ?_ ?_ ?_ (.slice none 0 0) [] [] (kx := .i64) m (fun k => w.heap.size ≤ k) ?_ ?_ ?_ ?_ ?_ ?_ ?_ ?_ ?_ ?_; exact rfl; exact rfl; exact Try.underlying28; exact Try.underlying3; exact info34; exact rfl; decide; omega; exact rfl; exact rfl; exact Kd.FK_slice_mk (Nat.le_refl _) (Kd.F_nil _ _ _); exact fun _ h => h; exact Kd.N_nil _ _ _ _ _; omega; exact Below.refl _ _; exact Nat.le_refl _; (rw [Int.toNat_natCast]; show (0 + m) * 24 ≤ _; omega); intro v1 w2 hN hB hg hat; obtain ⟨A1, N1, c1, rfl⟩ := N_val3 hN; have HN := Aside0.mk hN; have HB := Aside0.mk hB; clear hN hB hg hat)))
    go_ret
    exact ⟨A1, c1, rfl, by have := Kd.N_take HN.out (m := 0) (Nat.zero_le _); simpa using this, HB.out⟩
set_option maxRecDepth 100000 in
set_option maxHeartbeats 2000000 in
theorem concat53 (B : Nat) (A1 A2 : Option Addr) (c1 c2 : Nat) (C1 C2 : List (List S33)) (w : World) (hB : w.heap[B]? = some (.cells #[.slice A1 C1.length c1, .slice A2 C2.length c2] 28 (0, 0)))
    (okp : Nat → Prop) (hok : ∀ k, okp k → k < w.heap.size) (h1 : Kd.F (Kd.slice 33 k33) w okp A1 C1.length C1) (h2 : Kd.F (Kd.slice 33 k33) w okp A2 C2.length C2) (l1 : C1.length ≤ 100) (l2 : C2.length ≤ 100) :
    Calls Try.prog 53 #[.slice (some ⟨B, 0, none⟩) 2 2] w fun e w' => ∃ A c, e = .returned (.slice A (C1.length + C2.length) c) ∧ C1.length + C2.length ≤ c ∧ Kd.F (Kd.slice 33 k33) w' (fun k => w.heap.size ≤ k ∨ okp k) A (C1.length + C2.length) (C1 ++ C2) ∧ Below w.heap.size w w' := by
  have F1 := Aside0.mk h1
  have F2 := Aside0.mk h2
  have HOK := Aside0.mk hok
  have HBk := Aside0.mk hB
  clear h1 h2 hok
  have e0 := blk_cell hB 0
  have e1 := blk_cell hB 1
  simp only [List.getElem?_toArray, List.getElem?_cons_zero, List.getElem?_cons_succ] at e0 e1
  clear hB
  go_enter Try.func53, Try.ntmps53
  go_wp2
  have w1 : wrap64 (C1.length : Int) = (C1.length : Int) := wrap_in (by omega) (by omega)
  have w2 : wrap64 ((C1.length : Int) + (C2.length : Int)) = (C1.length : Int) + (C2.length : Int) := wrap_in (by omega) (by omega)
  have d1 : decide ((C1.length : Int) < 0) = false := decide_eq_false (by omega)
  have d2 : decide ((C1.length : Int) + (C2.length : Int) < 0) = false := decide_eq_false (by omega)
  go_loopw [3, 11] (fun v3 v11 wr => w = wr ∧ ((v3 = .int .i64 0 ∧ v11 = .int .i64 0) ∨ (v3 = .int .i64 C1.length ∧ v11 = .int .i64 1) ∨ (v3 = .int .i64 ((C1.length : Int) + (C2.length : Int)) ∧ v11 = .int .i64 2))) (fun _ v _ => 2 - (intOf v).toNat)
  case atStart => exact ⟨rfl, .inl ⟨rfl, rfl⟩⟩
  case round =>
    obtain ⟨rfl, hrel⟩ := hrel
    rcases hrel with ⟨rfl, rfl⟩ | ⟨rfl, rfl⟩ | ⟨rfl, rfl⟩
    · go_wp2
      go_roundw
      case rel => exact ⟨by first | rfl | trivial, .inr (.inl ⟨by first | rfl | simp [w1], by first | rfl | trivial | go_num⟩)⟩
      case measure => simp [intOf]
    · go_wp2
      go_roundw
      case rel => exact ⟨by first | rfl | trivial, .inr (.inr ⟨by first | rfl | simp [w2], by first | rfl | trivial | go_num⟩)⟩
      case measure => simp [intOf]
    · have hg := grow66 (C1.length + C2.length) (by omega)
      rw [show ((C1.length + C2.length : Nat) : Int) = (C1.length : Int) + (C2.length : Int) by omega] at hg
      have HG := Lib.hid hg
      clear hg e0 e1
      go_wp2_with fail
      refine (HG.out _).mono ?_
      rintro e w3 ⟨A, c, rfl, hN, hBw⟩
      have HN := Aside0.mk hN
      have HW := Aside0.mk hBw
      have HB3 := Aside0.mk (blk_below HBk.out hBw)
      clear hN hBw
      go_wp2
      go_loopw [6, 27] (fun v6 v27 wr => Aside0 (Below w.heap.size w wr ∧ wr.heap[B]? = some (.cells #[.slice A1 C1.length c1, .slice A2 C2.length c2] 28 (0, 0))) ∧ ((v27 = .int .i64 0 ∧ Aside0 (Kd.N (Kd.slice 33 k33) 34 wr w.heap.size (fun k => w.heap.size ≤ k ∨ okp k) v6 [])) ∨ (v27 = .int .i64 1 ∧ Aside0 (Kd.N (Kd.slice 33 k33) 34 wr w.heap.size (fun k => w.heap.size ≤ k ∨ okp k) v6 C1)) ∨ (v27 = .int .i64 2 ∧ Aside0 (Kd.N (Kd.slice 33 k33) 34 wr w.heap.size (fun k => w.heap.size ≤ k ∨ okp k) v6 (C1 ++ C2))))) (fun _ v _ => 2 - (intOf v).toNat)
      case atStart => exact ⟨⟨HW.out, HB3.out⟩, .inl ⟨rfl, ⟨Kd.N_mono HN.out (fun k hk => .inl hk)⟩⟩⟩
      case round =>
        obtain ⟨HI, hh⟩ := hrel
        have e0 := blk_cell HI.out.2 0
        have e1 := blk_cell HI.out.2 1
        simp only [List.getElem?_toArray, List.getElem?_cons_zero, List.getElem?_cons_succ] at e0 e1
        have G1 := Aside0.mk (Kd.F_step F1.out (fun k hk hlt => HI.out.1.block k (HOK.out k hk)))
        have G2 := Aside0.mk (Kd.F_step F2.out (fun k hk hlt => HI.out.1.block k (HOK.out k hk)))
        rcases hh with ⟨rfl, HO⟩ | ⟨rfl, HO⟩ | ⟨rfl, HO⟩
        · have PLN := Aside0.mk (show (([] : List (List S33)).length + C1.length) * 24 ≤ 140737488355328 by simp; omega)
          obtain ⟨A9, N9, c9, rfl⟩ := N_val3 HO.out
          have HNB := Aside0.mk (fun k e => Kd.N_base HO.out k e)
          have HAP := Aside0.mk (cat_ok HOK.out HNB.out)
          go_wp2_with (first | ((with_reducible refine gate_builtin (b := .append) (xs := #[.tmp 31, .tmp 32]) rfl ?_); at_builtin; (refine Kd.N_append_rows (Kd.slice 33 k33) (w0 := w) w.heap.size ?_ (.tmp 31) (.tmp 32) 28 34 (.slice none 0 0) 24 ?_ ?_ ?_ ?_ ?_ ?_ (.slice A9 N9 c9) [] C1 A1 C1.length c1 (fun k => w.heap.size ≤ k ∨ okp k) okp ?_ ?_ ?_ ?_ ?_ ?_ ?_ ?_ ?_ ?_; exact rfl; exact rfl; exact Try.underlying28; exact info34; exact rfl; decide; omega; exact rfl; exact rfl; exact HO.out; exact G1.out; exact HAP.out; exact cat_any HI.out.1.size; exact HI.out.1; exact HI.out.1.size; exact PLN.out; intro v1 w2' hN hB2 hg hat; have HN1 := Aside0.mk hN; have HI1 := Aside0.mk (And.intro (cat_below HI.out.1 hg HNB.out) (cat_keep HI.out.2 hg (cat_lt HBk.out HNB.out))); clear hN hB2 hg hat)))
          go_roundw
          case rel => exact ⟨HI1, .inr (.inl ⟨by first | rfl | go_num, HN1⟩)⟩
          case measure => simp [intOf]
        · have PLN := Aside0.mk (show (C1.length + C2.length) * 24 ≤ 140737488355328 by omega)
          obtain ⟨A9, N9, c9, rfl⟩ := N_val3 HO.out
          have HNB := Aside0.mk (fun k e => Kd.N_base HO.out k e)
          have HAP := Aside0.mk (cat_ok HOK.out HNB.out)
          go_wp2_with (first | ((with_reducible refine gate_builtin (b := .append) (xs := #[.tmp 31, .tmp 32]) rfl ?_); at_builtin; (refine Kd.N_append_rows (Kd.slice 33 k33) (w0 := w) w.heap.size ?_ (.tmp 31) (.tmp 32) 28 34 (.slice none 0 0) 24 ?_ ?_ ?_ ?_ ?_ ?_ (.slice A9 N9 c9) C1 C2 A2 C2.length c2 (fun k => w.heap.size ≤ k ∨ okp k) okp ?_ ?_ ?_ ?_ ?_ ?_ ?_ ?_ ?_ ?_; exact rfl; exact rfl; exact Try.underlying28; exact info34; exact rfl; decide; omega; exact rfl; exact rfl; exact HO.out; exact G2.out; exact HAP.out; exact cat_any HI.out.1.size; exact HI.out.1; exact HI.out.1.size; exact PLN.out; intro v1 w2' hN hB2 hg hat; have HN1 := Aside0.mk hN; have HI1 := Aside0.mk (And.intro (cat_below HI.out.1 hg HNB.out) (cat_keep HI.out.2 hg (cat_lt HBk.out HNB.out))); clear hN hB2 hg hat)))
          go_roundw
          case rel => exact ⟨HI1, .inr (.inr ⟨by first | rfl | go_num, HN1⟩)⟩
          case measure => simp [intOf]
        · obtain ⟨A9, N9, c9, rfl⟩ := N_val3 HO.out
          have R9 := Aside0.mk (Kd.N_reads' HO.out)
          have hn := R9.out.1
          rw [List.length_append] at hn
          subst hn
          go_wp2
          go_ret
          refine ⟨A9, c9, rfl, R9.out.2.1, ?_, HI.out.1⟩
          exact Kd.N_F HO.out
end Go.Proofs.Ytdcpmggjhmdmmaa.X

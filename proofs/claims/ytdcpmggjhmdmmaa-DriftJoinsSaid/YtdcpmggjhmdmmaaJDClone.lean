-- what is used of it (wip/tools/slim.py)
/- slices.Clone with its footprint. -/
import Derived.Test.YtdcpmggjhmdmmaaJDCat
namespace Go.Proofs.Ytdcpmggjhmdmmaa.X
open Go.RowKit Go.Proofs.YtdcpmggjhmdmmaaW.PrintWords Go.Proofs.YtdcpmggjhmdmmaaW.PrintLast Go.Proofs.YtdcpmggjhmdmmaaW.PrintMore
set_option linter.unusedVariables false
theorem cat_aparto {v : Value} {n : Nat} {okf okp : Nat → Prop} (h : ∃ b, v.ownBlock = some b ∧ n ≤ b) (hold : ∀ k, okp k → k < n ∧ okf k) : ∀ k, okp k → okf k ∧ some k ≠ v.ownBlock := fun k hk => by
  obtain ⟨b, e, hb⟩ := h
  refine ⟨(hold k hk).2, fun e2 => ?_⟩
  have := (hold k hk).1
  rw [e] at e2
  injection e2 with e2
  omega
set_option maxRecDepth 100000 in
set_option maxHeartbeats 1000000 in
theorem clone27o (okf okp : Nat → Prop) (A : Option Addr) (c : Nat) (C : List (List (List Int))) (w : World) (hfr : ∀ k, w.heap.size ≤ k → okf k) (hold : ∀ k, okp k → k < w.heap.size ∧ okf k) (h : Kd.F (Kd.slice 25 (Kd.slice 3 (Kd.int .i64))) w okp A C.length C) (hl : C.length ≤ 1000) : Calls Try.prog 27 #[.slice A C.length c] w fun e w' => ∃ v, e = .returned v ∧ Kd.N (Kd.slice 25 (Kd.slice 3 (Kd.int .i64))) 31 w' w.heap.size okf v C ∧ Below w.heap.size w w' := by
  have HF := Aside0.mk h
  have HFR := Aside0.mk hfr
  have HOL := Aside0.mk hold
  have h := Kd.F_now h
  clear hfr hold
  cases A with
  | none =>
    obtain rfl := C_none h
    clear h
    have he : ∀ W : World, (binOp .eql 27 (.slice none 0 c) (.slice none 0 0)).run Try.prog W = .ok (.bool true) W := fun _ => rfl
    go_enter Try.func27, Try.ntmps27
    go_wp2
    go_ret
    exact ⟨_, rfl, Kd.N_nil _ _ _ _ _, Below.refl _ _⟩
  | some ad =>
    clear h
    have he : ∀ W : World, (binOp .eql 27 (.slice (some ad) C.length c) (.slice none 0 0)).run Try.prog W = .ok (.bool false) W := fun _ => rfl
    go_enter Try.func27, Try.ntmps27
    go_wp2_with (first | ((with_reducible refine gate_dst (N := 5) rfl ?_); (refine Kd.N_lit (Kd.slice 25 (Kd.slice 3 (Kd.int .i64))) (w0 := w) w.heap.size 31 ?_ (N' := 5) ?_ (xs := []) (inner := []) (ok := okf) (okp := fun _ => False) ?_ ?_ ?_ ?_ ?_ ?_ ?_ ?_; exact rfl; exact rfl; (first | (focus (go_simp; done)) | (focus (go_simp; rfl))); exact Reps.none _ _; exact fun _ h => h.elim; exact HFR.out _ (Nat.le_refl _); exact Below.refl _ _; exact Nat.le_refl _; exact Nat.zero_le _; intro v1 w2 hN hB hg hat; obtain ⟨A1, N1, c1, rfl⟩ := N_val3 hN; have HN := Aside0.mk hN; have HB := Aside0.mk hB; have HF2 := Aside0.mk (Kd.F_below HF.out hB); have HO := Aside0.mk hat; clear hN hB hg hat)) | ((with_reducible refine gate_builtin (b := .append) (xs := #[.tmp 5, .tmp 6]) rfl ?_); at_builtin; (refine Kd.N_append_rows (Kd.slice 25 (Kd.slice 3 (Kd.int .i64))) (w0 := w) w.heap.size ?_ (.tmp 5) (.tmp 6) 27 31 (.slice none 0 0) 24 ?_ ?_ ?_ ?_ ?_ ?_ (.slice A1 N1 c1) [] C (some ad) C.length c okf okp ?_ ?_ ?_ ?_ ?_ ?_ ?_ ?_ ?_ ?_; exact rfl; exact rfl; exact Try.underlying27; exact info31; exact rfl; decide; omega; exact rfl; exact rfl; exact HN.out; exact HF2.out; exact cat_aparto HO.out HOL.out; exact fun k hk => HFR.out k (Nat.le_trans HB.out.size hk); exact HB.out; exact HB.out.size; (show (0 + C.length) * 24 ≤ _; omega); intro v2 w3 hN hB hg hat; have HN2 := Aside0.mk hN; have HB2 := Aside0.mk hB; clear hN hB hg hat)))
    go_ret
    exact ⟨v2, rfl, HN2.out, HB2.out⟩
set_option maxRecDepth 100000 in
set_option maxHeartbeats 1000000 in
theorem clone28o (okf okp : Nat → Prop) (A : Option Addr) (c : Nat) (C : List (List S33)) (w : World) (hfr : ∀ k, w.heap.size ≤ k → okf k) (hold : ∀ k, okp k → k < w.heap.size ∧ okf k) (h : Kd.F (Kd.slice 33 k33) w okp A C.length C) (hl : C.length ≤ 1000) : Calls Try.prog 28 #[.slice A C.length c] w fun e w' => ∃ v, e = .returned v ∧ Kd.N (Kd.slice 33 k33) 34 w' w.heap.size okf v C ∧ Below w.heap.size w w' := by
  have HF := Aside0.mk h
  have HFR := Aside0.mk hfr
  have HOL := Aside0.mk hold
  have h := Kd.F_now h
  clear hfr hold
  cases A with
  | none =>
    obtain rfl := C_none h
    clear h
    have he : ∀ W : World, (binOp .eql 28 (.slice none 0 c) (.slice none 0 0)).run Try.prog W = .ok (.bool true) W := fun _ => rfl
    go_enter Try.func28, Try.ntmps28
    go_wp2
    go_ret
    exact ⟨_, rfl, Kd.N_nil _ _ _ _ _, Below.refl _ _⟩
  | some ad =>
    clear h
    have he : ∀ W : World, (binOp .eql 28 (.slice (some ad) C.length c) (.slice none 0 0)).run Try.prog W = .ok (.bool false) W := fun _ => rfl
    go_enter Try.func28, Try.ntmps28
    go_wp2_with (first | ((with_reducible refine gate_dst (N := 5) rfl ?_); (refine Kd.N_lit (Kd.slice 33 k33) (w0 := w) w.heap.size 34 ?_ (N' := 5) ?_ (xs := []) (inner := []) (ok := okf) (okp := fun _ => False) ?_ ?_ ?_ ?_ ?_ ?_ ?_ ?_; exact rfl; exact rfl; (first | (focus (go_simp; done)) | (focus (go_simp; rfl))); exact Reps.none _ _; exact fun _ h => h.elim; exact HFR.out _ (Nat.le_refl _); exact Below.refl _ _; exact Nat.le_refl _; exact Nat.zero_le _; intro v1 w2 hN hB hg hat; obtain ⟨A1, N1, c1, rfl⟩ := N_val3 hN; have HN := Aside0.mk hN; have HB := Aside0.mk hB; have HF2 := Aside0.mk (Kd.F_below HF.out hB); have HO := Aside0.mk hat; clear hN hB hg hat)) | ((with_reducible refine gate_builtin (b := .append) (xs := #[.tmp 5, .tmp 6]) rfl ?_); at_builtin; (refine Kd.N_append_rows (Kd.slice 33 k33) (w0 := w) w.heap.size ?_ (.tmp 5) (.tmp 6) 28 34 (.slice none 0 0) 24 ?_ ?_ ?_ ?_ ?_ ?_ (.slice A1 N1 c1) [] C (some ad) C.length c okf okp ?_ ?_ ?_ ?_ ?_ ?_ ?_ ?_ ?_ ?_; exact rfl; exact rfl; exact Try.underlying28; exact info34; exact rfl; decide; omega; exact rfl; exact rfl; exact HN.out; exact HF2.out; exact cat_aparto HO.out HOL.out; exact fun k hk => HFR.out k (Nat.le_trans HB.out.size hk); exact HB.out; exact HB.out.size; (show (0 + C.length) * 24 ≤ _; omega); intro v2 w3 hN hB hg hat; have HN2 := Aside0.mk hN; have HB2 := Aside0.mk hB; clear hN hB hg hat)))
    go_ret
    exact ⟨v2, rfl, HN2.out, HB2.out⟩
end Go.Proofs.Ytdcpmggjhmdmmaa.X

-- what is used of it (wip/tools/slim.py)
/- A walk that is being made, field by field. -/
import Derived.Test.YtdcpmggjhmdmmaaJDPure2
import Derived.Test.YtdcpmggjhmdmmaaJDLib
import Derived.Lib.Hide
namespace Go.Proofs.Ytdcpmggjhmdmmaa.X
open Go.RowKit Go.Proofs.YtdcpmggjhmdmmaaW.PrintWords Go.Proofs.YtdcpmggjhmdmmaaW.PrintLast Go.Proofs.YtdcpmggjhmdmmaaW.PrintMore
set_option linter.unusedVariables false
/-- a walk in the making, apart from the rows of T -/
structure MS (w6 : World) (gr gw gp : Nat) (T : List (Option Nat)) (C : List (List (List Int))) (L : List (List S33)) (vC vL : Value) (wr : World) : Prop where
  bel : Below w6.heap.size w6 wr
  ler : w6.heap.size ≤ gr
  lew : w6.heap.size ≤ gw
  ne : gr ≠ gw
  res : wr.heap[gr]? = some (.cells #[.slice none 0 0, .slice none 0 0, .slice none 0 0] 30 (0, 0))
  box : wr.heap[gw]? = some (.cells #[.slice (some ⟨gp, 0, none⟩) 3 3, vC, vL] 30 (0, 0))
  C : Kd.N (Kd.slice 25 (Kd.slice 3 (Kd.int .i64))) 31 wr w6.heap.size (Out (some gw :: some gr :: vL.ownBlock :: T)) vC C
  L : Kd.N (Kd.slice 33 k33) 34 wr w6.heap.size (Out (some gw :: some gr :: vC.ownBlock :: T)) vL L
  p : Kd.F (Kd.int .i64) wr (Out (some gw :: some gr :: vC.ownBlock :: vL.ownBlock :: T)) (some ⟨gp, 0, none⟩) [(2 : Int), 3, 5].length [2, 3, 5]
  t : ∀ b ∈ T, b ≠ some gr ∧ b ≠ some gw ∧ ∀ k, b = some k → k < wr.heap.size
section
variable {w6 wr w2 : World} {gr gw gp : Nat} {T T2 : List (Option Nat)} {C : List (List (List Int))} {L : List (List S33)} {vC vL v1 : Value} {b b1 : Option Nat}
theorem MS.ltw (h : MS w6 gr gw gp T C L vC vL wr) : gw < wr.heap.size := (Array.getElem?_eq_some_iff.1 h.box).1
theorem MS.ltr (h : MS w6 gr gw gp T C L vC vL wr) : gr < wr.heap.size := (Array.getElem?_eq_some_iff.1 h.res).1
theorem MS.later (h : MS w6 gr gw gp T C L vC vL wr) (hb : Below wr.heap.size wr w2) : MS w6 gr gw gp T C L vC vL w2 :=
  ⟨below_step h.bel hb, h.ler, h.lew, h.ne, (hb.block _ h.ltr).trans h.res, (hb.block _ h.ltw).trans h.box, Kd.N_below h.C hb, Kd.N_below h.L hb, foot_below h.p hb, fun b hm => ⟨(h.t b hm).1, (h.t b hm).2.1, fun k hk => Nat.lt_of_lt_of_le ((h.t b hm).2.2 k hk) hb.size⟩⟩
/-- a write into a row of T, which may be a new row behind it -/
theorem MS.grown (h : MS w6 gr gw gp [b] C L vC vL wr) (hg : wr.grownBy w2 b) (hB : Below w6.heap.size w6 w2) (hat : b1 = b ∨ ∃ q, b1 = some q ∧ wr.heap.size ≤ q) (hlt : ∀ k, b1 = some k → k < w2.heap.size) : MS w6 gr gw gp [b1] C L vC vL w2 := by
  have ht := h.t b (by simp)
  refine ⟨hB, h.ler, h.lew, h.ne, (hg.block _ h.ltr (fun e => ht.1 e.symm)).trans h.res, (hg.block _ h.ltw (fun e => ht.2.1 e.symm)).trans h.box, ?_, ?_, ?_, ?_⟩
  · exact N_swap h.C hg (.inl (by simp)) hat (by intro x hx; simp only [List.mem_cons, List.not_mem_nil, or_false] at hx ⊢; rcases hx with rfl | rfl | rfl | rfl <;> simp)
  · exact N_swap h.L hg (.inl (by simp)) hat (by intro x hx; simp only [List.mem_cons, List.not_mem_nil, or_false] at hx ⊢; rcases hx with rfl | rfl | rfl | rfl <;> simp)
  · exact foot_swap h.p hg (.inl (by simp)) hat (by intro x hx; simp only [List.mem_cons, List.not_mem_nil, or_false] at hx ⊢; rcases hx with rfl | rfl | rfl | rfl | rfl <;> simp)
  · intro x hx
    obtain rfl : x = b1 := by simpa using hx
    rcases hat with e | ⟨q, e, hq⟩
    · exact ⟨by rw [e]; exact ht.1, by rw [e]; exact ht.2.1, hlt⟩
    · have h1 := h.ltr
      have h2 := h.ltw
      refine ⟨?_, ?_, hlt⟩ <;> rw [e] <;> intro e2 <;> injection e2 with e2 <;> omega
theorem out_mono {S S' : List (Option Nat)} (h : ∀ x ∈ S', x ∈ S ∨ x = none) (k : Nat) (hk : Out S k) : Out S' k := fun hm => by
  rcases h _ hm with h1 | h1
  · exact hk h1
  · cases h1
theorem MS.drop (h : MS w6 gr gw gp T C L vC vL wr) : MS w6 gr gw gp [] C L vC vL wr :=
  ⟨h.bel, h.ler, h.lew, h.ne, h.res, h.box, Kd.N_mono h.C (out_mono (by intro x hx; simp only [List.mem_cons, List.not_mem_nil, or_false] at hx ⊢; rcases hx with rfl | rfl | rfl <;> simp)), Kd.N_mono h.L (out_mono (by intro x hx; simp only [List.mem_cons, List.not_mem_nil, or_false] at hx ⊢; rcases hx with rfl | rfl | rfl <;> simp)), Kd.F_mono h.p (out_mono (by intro x hx; simp only [List.mem_cons, List.not_mem_nil, or_false] at hx ⊢; rcases hx with rfl | rfl | rfl | rfl <;> simp)), fun b hm => absurd hm (by simp)⟩
theorem MS.nil (h : MS w6 gr gw gp [] C L vC vL wr) : MS w6 gr gw gp [none] C L vC vL wr :=
  ⟨h.bel, h.ler, h.lew, h.ne, h.res, h.box, Kd.N_mono h.C (out_mono (by intro x hx; simp only [List.mem_cons, List.not_mem_nil, or_false] at hx ⊢; rcases hx with rfl | rfl | rfl | rfl <;> simp)), Kd.N_mono h.L (out_mono (by intro x hx; simp only [List.mem_cons, List.not_mem_nil, or_false] at hx ⊢; rcases hx with rfl | rfl | rfl | rfl <;> simp)), Kd.F_mono h.p (out_mono (by intro x hx; simp only [List.mem_cons, List.not_mem_nil, or_false] at hx ⊢; rcases hx with rfl | rfl | rfl | rfl | rfl <;> simp)), fun b hm => by
    obtain rfl : b = none := by simpa using hm
    exact ⟨by simp, by simp, fun k hk => by cases hk⟩⟩
theorem MS.keepC (h : MS w6 gr gw gp [] C L vC vL wr) (hg : wr.grownBy w2 vC.ownBlock) : w2.heap[gw]? = some (.cells #[.slice (some ⟨gp, 0, none⟩) 3 3, vC, vL] 30 (0, 0)) ∧ w2.heap[gr]? = some (.cells #[.slice none 0 0, .slice none 0 0, .slice none 0 0] 30 (0, 0)) :=
  ⟨(hg.block _ h.ltw (fun e => absurd (own_ne h.C (some gw) (by simp) e.symm) (by simp))).trans h.box, (hg.block _ h.ltr (fun e => absurd (own_ne h.C (some gr) (by simp) e.symm) (by simp))).trans h.res⟩
theorem MS.keepL (h : MS w6 gr gw gp [] C L vC vL wr) (hg : wr.grownBy w2 vL.ownBlock) : w2.heap[gw]? = some (.cells #[.slice (some ⟨gp, 0, none⟩) 3 3, vC, vL] 30 (0, 0)) ∧ w2.heap[gr]? = some (.cells #[.slice none 0 0, .slice none 0 0, .slice none 0 0] 30 (0, 0)) :=
  ⟨(hg.block _ h.ltw (fun e => absurd (own_ne h.L (some gw) (by simp) e.symm) (by simp))).trans h.box, (hg.block _ h.ltr (fun e => absurd (own_ne h.L (some gr) (by simp) e.symm) (by simp))).trans h.res⟩
theorem MS.stepC {x : List (List Int)} (h : MS w6 gr gw gp [] C L vC vL wr) (hN : Kd.N (Kd.slice 25 (Kd.slice 3 (Kd.int .i64))) 31 w2 w6.heap.size (Out [some gw, some gr, vL.ownBlock]) v1 (C ++ [x])) (hB : Below w6.heap.size w6 w2) (hg : wr.grownBy w2 vC.ownBlock) (hat : v1.ownBlock = vC.ownBlock ∨ ∃ b, v1.ownBlock = some b ∧ wr.heap.size ≤ b) :
    MS w6 gr gw gp [] (C ++ [x]) L v1 vL (w2.setCell ⟨gw, 1, none⟩ v1) := by
  have hk := h.keepC hg
  refine ⟨below_set hB h.lew, h.ler, h.lew, h.ne, blk_far hk.2 h.ne _, blk_put hk.1 1 v1 rfl, ?_, ?_, ?_, fun b hm => absurd hm (by simp)⟩
  · exact Kd.N_far hN (fun k hk e => hk (by rw [e]; simp)) v1
  · exact Kd.N_far (N_swap (T := [some gw, some gr, v1.ownBlock]) h.L hg (.inl (by simp)) hat (by intro x hx; simp only [List.mem_cons, List.not_mem_nil, or_false] at hx ⊢; rcases hx with rfl | rfl | rfl <;> simp)) (fun k hk e => hk (by rw [e]; simp)) v1
  · exact foot_set (foot_swap (T := [some gw, some gr, v1.ownBlock, vL.ownBlock]) h.p hg (.inl (by simp)) hat (by intro x hx; simp only [List.mem_cons, List.not_mem_nil, or_false] at hx ⊢; rcases hx with rfl | rfl | rfl | rfl <;> simp)) _ _ (by simp)
theorem MS.stepL {x : List S33} (h : MS w6 gr gw gp [] C L vC vL wr) (hN : Kd.N (Kd.slice 33 k33) 34 w2 w6.heap.size (Out [some gw, some gr, vC.ownBlock]) v1 (L ++ [x])) (hB : Below w6.heap.size w6 w2) (hg : wr.grownBy w2 vL.ownBlock) (hat : v1.ownBlock = vL.ownBlock ∨ ∃ b, v1.ownBlock = some b ∧ wr.heap.size ≤ b) :
    MS w6 gr gw gp [] C (L ++ [x]) vC v1 (w2.setCell ⟨gw, 2, none⟩ v1) := by
  have hk := h.keepL hg
  refine ⟨below_set hB h.lew, h.ler, h.lew, h.ne, blk_far hk.2 h.ne _, blk_put hk.1 2 v1 rfl, ?_, ?_, ?_, fun b hm => absurd hm (by simp)⟩
  · exact Kd.N_far (N_swap (T := [some gw, some gr, v1.ownBlock]) h.C hg (.inl (by simp)) hat (by intro x hx; simp only [List.mem_cons, List.not_mem_nil, or_false] at hx ⊢; rcases hx with rfl | rfl | rfl <;> simp)) (fun k hk e => hk (by rw [e]; simp)) v1
  · exact Kd.N_far hN (fun k hk e => hk (by rw [e]; simp)) v1
  · exact foot_set (foot_swap (T := [some gw, some gr, vC.ownBlock, v1.ownBlock]) h.p hg (.inl (by simp)) hat (by intro x hx; simp only [List.mem_cons, List.not_mem_nil, or_false] at hx ⊢; rcases hx with rfl | rfl | rfl | rfl <;> simp)) _ _ (by simp)
end
/-- the beginning -/
theorem MS.start (w6 : World) : MS w6 w6.heap.size (w6.heap.size + 1 + 1) (w6.heap.size + 1) [] [] [] (.slice none 0 0) (.slice none 0 0)
    (((w6.alloc (.cells #[.slice none 0 0, .slice none 0 0, .slice none 0 0] 30)).alloc (.cells #[.int .i64 2, .int .i64 3, .int .i64 5] 3)).alloc (.cells #[.slice (some ⟨w6.heap.size + 1, 0, none⟩) 3 3, .slice none 0 0, .slice none 0 0] 30)) := by
  have b0 := blk_alloc (blk_alloc (blk_new w6 (.cells #[.slice none 0 0, .slice none 0 0, .slice none 0 0] 30)) (.cells #[.int .i64 2, .int .i64 3, .int .i64 5] 3)) (.cells #[.slice (some ⟨w6.heap.size + 1, 0, none⟩) 3 3, .slice none 0 0, .slice none 0 0] 30)
  have b1 := blk_alloc (blk_new (w6.alloc (.cells #[.slice none 0 0, .slice none 0 0, .slice none 0 0] 30)) (.cells #[.int .i64 2, .int .i64 3, .int .i64 5] 3)) (.cells #[.slice (some ⟨w6.heap.size + 1, 0, none⟩) 3 3, .slice none 0 0, .slice none 0 0] 30)
  have b2 := blk_new ((w6.alloc (.cells #[.slice none 0 0, .slice none 0 0, .slice none 0 0] 30)).alloc (.cells #[.int .i64 2, .int .i64 3, .int .i64 5] 3)) (.cells #[.slice (some ⟨w6.heap.size + 1, 0, none⟩) 3 3, .slice none 0 0, .slice none 0 0] 30)
  simp only [show ∀ (w : World) (o : Obj), (w.alloc o).heap.size = w.heap.size + 1 from fun w o => by simp] at b1 b2
  refine ⟨below_alloc (below_alloc (below_alloc (Below.refl _ _) _) _) _, Nat.le_refl _, by omega, by omega, b0, b2, Kd.N_nil _ _ _ _ _, Kd.N_nil _ _ _ _ _, ?_, fun b hm => absurd hm (by simp)⟩
  refine F_lit rfl b1 (by simp [Out, Value.ownBlock]) (by simp) (fun j x hj => ?_)
  match j, hj with
  | 0, hj => exact ⟨.int .i64 2, rfl, by obtain rfl : 2 = x := by simpa using hj
                                         exact FK_int _⟩
  | 1, hj => exact ⟨.int .i64 3, rfl, by obtain rfl : 3 = x := by simpa using hj
                                         exact FK_int _⟩
  | 2, hj => exact ⟨.int .i64 5, rfl, by obtain rfl : 5 = x := by simpa using hj
                                         exact FK_int _⟩
  | j + 3, hj => simp at hj
end Go.Proofs.Ytdcpmggjhmdmmaa.X

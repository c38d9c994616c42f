-- what is used of it (wip/tools/slim.py)
/- A walk that is being made, its rows in blocks of known types. -/
import Derived.Test.YtdcpmggjhmdmmaaJDMs
import Derived.Test.YtdcpmggjhmdmmaaJDRepeat
import Derived.RangeFuncRecord
namespace Go.Proofs.Ytdcpmggjhmdmmaa.X
open Go.RowKit Go.Proofs.YtdcpmggjhmdmmaaW.PrintWords Go.Proofs.YtdcpmggjhmdmmaaW.PrintLast Go.Proofs.YtdcpmggjhmdmmaaW.PrintMore
set_option linter.unusedVariables false
/-- a chord: rows in blocks of their own, in a block of its own -/
def dCh : Kd (List (List Int)) where
  sz := 1
  E := []
  K := fun w xs cs => ∃ A c, cs = [.slice A xs.length c] ∧ xs.length ≤ c ∧ dT.C w A xs.length xs ∧ (0 < xs.length → ∃ g cells, A = some ⟨g, 0, none⟩ ∧ w.heap[g]? = some (.cells cells 25 (0, 0)))
  M := fun _ _ _ _ _ => False
  K_len := by
    rintro w x cs ⟨A, c, rfl, _⟩
    rfl
  K_one := by
    rintro w x cs ⟨A, c, rfl, _⟩ u hu
    rw [List.mem_singleton.1 hu]
    rfl
  K_below := by
    rintro w w1 x cs hb ⟨A, c, rfl, hl, hr, ht⟩
    refine ⟨A, c, rfl, hl, Kd.C_below hr hb, fun h0 => ?_⟩
    obtain ⟨g, cells, hA, hg⟩ := ht h0
    exact ⟨g, cells, hA, (hb.block g (Array.getElem?_eq_some_iff.1 hg).1).trans hg⟩
  K_of_M := fun h => h.elim
  M_mono := fun _ h => h.elim
  M_bound := fun h => h.elim
  M_move := fun _ h => h.elim
  M_lower := fun _ h => h.elim
/-- a list of links in the block that is told with it -/
def dG : Kd (List S33 × Nat) where
  sz := 1
  E := []
  K := fun w x cs => ∃ c cells, cs = [.slice (some ⟨x.2, 0, none⟩) x.1.length c] ∧ x.1.length ≤ c ∧ k33.C w (some ⟨x.2, 0, none⟩) x.1.length x.1 ∧ w.heap[x.2]? = some (.cells cells 33 (0, 0))
  M := fun _ _ _ _ _ => False
  K_len := by
    rintro w x cs ⟨c, cells, rfl, _⟩
    rfl
  K_one := by
    rintro w x cs ⟨c, cells, rfl, _⟩ u hu
    rw [List.mem_singleton.1 hu]
    rfl
  K_below := by
    rintro w w1 x cs hb ⟨c, cells, rfl, hl, hr, ht⟩
    exact ⟨c, cells, rfl, hl, Kd.C_below hr hb, (hb.block _ (Array.getElem?_eq_some_iff.1 ht).1).trans ht⟩
  K_of_M := fun h => h.elim
  M_mono := fun _ h => h.elim
  M_bound := fun h => h.elim
  M_move := fun _ h => h.elim
  M_lower := fun _ h => h.elim
theorem FKT_lit {W : World} {g : Nat} {ok : Nat → Prop} {a0 b0 c0 : Int} (hb : W.heap[g]? = some (.cells #[.int .i64 a0, .int .i64 b0, .int .i64 c0] 3 (0, 0))) (hok : ok g) (a b c : Int) (ha : a0 = a := by rfl) (hb' : b0 = b := by rfl) (hc : c0 = c := by rfl) : Kd.FK dT W ok [a, b, c] [.slice (some ⟨g, 0, none⟩) 3 3] := by
  subst ha hb' hc
  have hlt : g < W.heap.size := (Array.getElem?_eq_some_iff.1 hb).1
  have h1 := F_lit (d := Kd.int .i64) (xs := [a0, b0, c0]) rfl hb hok (by simp) (fun j x hj => by
    match j, hj with
    | 0, hj => exact ⟨.int .i64 a0, rfl, by obtain rfl : a0 = x := by simpa using hj
                                            exact FK_int _⟩
    | 1, hj => exact ⟨.int .i64 b0, rfl, by obtain rfl : b0 = x := by simpa using hj
                                            exact FK_int _⟩
    | 2, hj => exact ⟨.int .i64 c0, rfl, by obtain rfl : c0 = x := by simpa using hj
                                            exact FK_int _⟩
    | j + 3, hj => simp at hj)
  intro W' hW'
  exact ⟨some ⟨g, 0, none⟩, 3, rfl, Nat.le_refl _, h1 W' hW', fun _ => ⟨g, _, rfl, (hW' g hok hlt).trans hb⟩⟩
theorem FKCh_mk {W : World} {base : Nat} {ok : Nat → Prop} {A : Option Addr} {n c : Nat} {xs : List (List Int)} (h : Kd.N dT 25 W base ok (.slice A n c) xs) : Kd.FK dCh W ok xs [.slice A xs.length c] := by
  obtain ⟨hn, hc, hC⟩ := Kd.N_reads' h
  subst hn
  have hF := Kd.N_F h
  have ht := Kd.N_typed h
  have h0 := h.1
  have hl := Kd.N_lt h
  intro W' hW'
  refine ⟨A, c, rfl, hc, hF W' hW', fun hp => ?_⟩
  obtain ⟨g, cap, e, -⟩ := Kd.N_form h hp
  injection e with e1 e2 e3
  subst e1
  obtain ⟨cells, hg⟩ := ht g rfl
  exact ⟨g, cells, rfl, (hW' g (h0 g rfl) (hl g rfl)).trans hg⟩
theorem FKG_mk {W : World} {base g : Nat} {ok : Nat → Prop} {n c : Nat} {xs : List S33} (h : Kd.N k33 33 W base ok (.slice (some ⟨g, 0, none⟩) n c) xs) : Kd.FK dG W ok (xs, g) [.slice (some ⟨g, 0, none⟩) xs.length c] := by
  obtain ⟨hn, hc, hC⟩ := Kd.N_reads' h
  subst hn
  have hF := Kd.N_F h
  obtain ⟨cells, hg⟩ := Kd.N_typed h g rfl
  have h0 := h.1 g rfl
  have hl := Kd.N_lt h g rfl
  intro W' hW'
  exact ⟨c, cells, rfl, hc, hF W' hW', (hW' g h0 hl).trans hg⟩
/-- a list of links lies where it may be read -/
theorem FKG_ok {W : World} {ok : Nat → Prop} {x : List S33 × Nat} {c : List Value} (h : Kd.FK dG W ok x c) : ok x.2 := by
  refine Classical.byContradiction fun hn => ?_
  obtain ⟨_, cells, _, _, _, hb⟩ := Kd.FK_now h
  have hlt : x.2 < W.heap.size := (Array.getElem?_eq_some_iff.1 hb).1
  obtain ⟨_, cells2, _, _, _, hb2⟩ := h (W.putObj x.2 (.deferred none)) (fun k hk _ => World.putObj_heap_other (fun e => hn (by first | exact e ▸ hk | exact e.symm ▸ hk)))
  rw [World.putObj_heap_same hlt] at hb2
  cases hb2
/-- a walk in the making, apart from the rows of T -/
structure MG (w6 : World) (gr gw gp : Nat) (T : List (Option Nat)) (C : List (List (List Int))) (L : List (List S33 × Nat)) (vC vL : Value) (wr : World) : Prop where
  bel : Below w6.heap.size w6 wr
  ler : w6.heap.size ≤ gr
  lew : w6.heap.size ≤ gw
  ne : gr ≠ gw
  res : wr.heap[gr]? = some (.cells #[.slice none 0 0, .slice none 0 0, .slice none 0 0] 30 (0, 0))
  box : wr.heap[gw]? = some (.cells #[.slice (some ⟨gp, 0, none⟩) 3 3, vC, vL] 30 (0, 0))
  C : Kd.N dCh 31 wr w6.heap.size (Out (some gw :: some gr :: vL.ownBlock :: T)) vC C
  L : Kd.N dG 34 wr w6.heap.size (Out (some gw :: some gr :: vC.ownBlock :: T)) vL L
  p : Kd.FK dT wr (Out (some gw :: some gr :: vC.ownBlock :: vL.ownBlock :: T)) [2, 3, 5] [.slice (some ⟨gp, 0, none⟩) 3 3]
  t : ∀ b ∈ T, b ≠ some gr ∧ b ≠ some gw ∧ ∀ k, b = some k → k < wr.heap.size
section
variable {w6 wr w2 : World} {gr gw gp : Nat} {T T2 : List (Option Nat)} {C : List (List (List Int))} {L : List (List S33 × Nat)} {vC vL v1 : Value} {b b1 : Option Nat}
theorem MG.ltw (h : MG w6 gr gw gp T C L vC vL wr) : gw < wr.heap.size := (Array.getElem?_eq_some_iff.1 h.box).1
theorem MG.ltr (h : MG w6 gr gw gp T C L vC vL wr) : gr < wr.heap.size := (Array.getElem?_eq_some_iff.1 h.res).1
theorem MG.later (h : MG w6 gr gw gp T C L vC vL wr) (hb : Below wr.heap.size wr w2) : MG w6 gr gw gp T C L vC vL w2 :=
  ⟨below_step h.bel hb, h.ler, h.lew, h.ne, (hb.block _ h.ltr).trans h.res, (hb.block _ h.ltw).trans h.box, Kd.N_below h.C hb, Kd.N_below h.L hb, foot_below h.p hb, fun b hm => ⟨(h.t b hm).1, (h.t b hm).2.1, fun k hk => Nat.lt_of_lt_of_le ((h.t b hm).2.2 k hk) hb.size⟩⟩
/-- a write into a row of T, which may be a new row behind it -/
theorem MG.grown (h : MG w6 gr gw gp [b] C L vC vL wr) (hg : wr.grownBy w2 b) (hB : Below w6.heap.size w6 w2) (hat : b1 = b ∨ ∃ q, b1 = some q ∧ wr.heap.size ≤ q) (hlt : ∀ k, b1 = some k → k < w2.heap.size) : MG w6 gr gw gp [b1] C L vC vL w2 := by
  have ht := h.t b (by simp)
  refine ⟨hB, h.ler, h.lew, h.ne, (hg.block _ h.ltr (fun e => ht.1 e.symm)).trans h.res, (hg.block _ h.ltw (fun e => ht.2.1 e.symm)).trans h.box, ?_, ?_, ?_, ?_⟩
  · exact N_swap h.C hg (.inl (by simp)) hat (by intro x hx; simp only [List.mem_cons, List.not_mem_nil, or_false] at hx ⊢; rcases hx with rfl | rfl | rfl | rfl <;> simp)
  · exact N_swap h.L hg (.inl (by simp)) hat (by intro x hx; simp only [List.mem_cons, List.not_mem_nil, or_false] at hx ⊢; rcases hx with rfl | rfl | rfl | rfl <;> simp)
  · exact foot_swap h.p hg (.inl (by simp)) hat (by intro x hx; simp only [List.mem_cons, List.not_mem_nil, or_false] at hx ⊢; rcases hx with rfl | rfl | rfl | rfl | rfl <;> simp)
  · intro x hx
    obtain rfl : x = b1 := by simpa using hx
    rcases hat with e | ⟨q, e, hq⟩
    · exact ⟨by rw [e]; exact ht.1, by rw [e]; exact ht.2.1, hlt⟩
    · have h1 := h.ltr
      have h2 := h.ltw
      refine ⟨?_, ?_, hlt⟩ <;> rw [e] <;> intro e2 <;> injection e2 with e2 <;> omega
theorem MG.drop (h : MG w6 gr gw gp T C L vC vL wr) : MG w6 gr gw gp [] C L vC vL wr :=
  ⟨h.bel, h.ler, h.lew, h.ne, h.res, h.box, Kd.N_mono h.C (out_mono (by intro x hx; simp only [List.mem_cons, List.not_mem_nil, or_false] at hx ⊢; rcases hx with rfl | rfl | rfl <;> simp)), Kd.N_mono h.L (out_mono (by intro x hx; simp only [List.mem_cons, List.not_mem_nil, or_false] at hx ⊢; rcases hx with rfl | rfl | rfl <;> simp)), Kd.FK_mono h.p (out_mono (by intro x hx; simp only [List.mem_cons, List.not_mem_nil, or_false] at hx ⊢; rcases hx with rfl | rfl | rfl | rfl <;> simp)), fun b hm => absurd hm (by simp)⟩
theorem MG.nil (h : MG w6 gr gw gp [] C L vC vL wr) : MG w6 gr gw gp [none] C L vC vL wr :=
  ⟨h.bel, h.ler, h.lew, h.ne, h.res, h.box, Kd.N_mono h.C (out_mono (by intro x hx; simp only [List.mem_cons, List.not_mem_nil, or_false] at hx ⊢; rcases hx with rfl | rfl | rfl | rfl <;> simp)), Kd.N_mono h.L (out_mono (by intro x hx; simp only [List.mem_cons, List.not_mem_nil, or_false] at hx ⊢; rcases hx with rfl | rfl | rfl | rfl <;> simp)), Kd.FK_mono h.p (out_mono (by intro x hx; simp only [List.mem_cons, List.not_mem_nil, or_false] at hx ⊢; rcases hx with rfl | rfl | rfl | rfl | rfl <;> simp)), fun b hm => by
    obtain rfl : b = none := by simpa using hm
    exact ⟨by simp, by simp, fun k hk => by cases hk⟩⟩
theorem MG.keepC (h : MG w6 gr gw gp [] C L vC vL wr) (hg : wr.grownBy w2 vC.ownBlock) : w2.heap[gw]? = some (.cells #[.slice (some ⟨gp, 0, none⟩) 3 3, vC, vL] 30 (0, 0)) ∧ w2.heap[gr]? = some (.cells #[.slice none 0 0, .slice none 0 0, .slice none 0 0] 30 (0, 0)) :=
  ⟨(hg.block _ h.ltw (fun e => absurd (own_ne h.C (some gw) (by simp) e.symm) (by simp))).trans h.box, (hg.block _ h.ltr (fun e => absurd (own_ne h.C (some gr) (by simp) e.symm) (by simp))).trans h.res⟩
theorem MG.keepL (h : MG w6 gr gw gp [] C L vC vL wr) (hg : wr.grownBy w2 vL.ownBlock) : w2.heap[gw]? = some (.cells #[.slice (some ⟨gp, 0, none⟩) 3 3, vC, vL] 30 (0, 0)) ∧ w2.heap[gr]? = some (.cells #[.slice none 0 0, .slice none 0 0, .slice none 0 0] 30 (0, 0)) :=
  ⟨(hg.block _ h.ltw (fun e => absurd (own_ne h.L (some gw) (by simp) e.symm) (by simp))).trans h.box, (hg.block _ h.ltr (fun e => absurd (own_ne h.L (some gr) (by simp) e.symm) (by simp))).trans h.res⟩
theorem MG.stepC {x : List (List Int)} (h : MG w6 gr gw gp [] C L vC vL wr) (hN : Kd.N dCh 31 w2 w6.heap.size (Out [some gw, some gr, vL.ownBlock]) v1 (C ++ [x])) (hB : Below w6.heap.size w6 w2) (hg : wr.grownBy w2 vC.ownBlock) (hat : v1.ownBlock = vC.ownBlock ∨ ∃ b, v1.ownBlock = some b ∧ wr.heap.size ≤ b) :
    MG w6 gr gw gp [] (C ++ [x]) L v1 vL (w2.setCell ⟨gw, 1, none⟩ v1) := by
  have hk := h.keepC hg
  refine ⟨below_set hB h.lew, h.ler, h.lew, h.ne, blk_far hk.2 h.ne _, blk_put hk.1 1 v1 rfl, ?_, ?_, ?_, fun b hm => absurd hm (by simp)⟩
  · exact Kd.N_far hN (fun k hk e => hk (by rw [e]; simp)) v1
  · exact Kd.N_far (N_swap (T := [some gw, some gr, v1.ownBlock]) h.L hg (.inl (by simp)) hat (by intro x hx; simp only [List.mem_cons, List.not_mem_nil, or_false] at hx ⊢; rcases hx with rfl | rfl | rfl <;> simp)) (fun k hk e => hk (by rw [e]; simp)) v1
  · exact foot_set (foot_swap (T := [some gw, some gr, v1.ownBlock, vL.ownBlock]) h.p hg (.inl (by simp)) hat (by intro x hx; simp only [List.mem_cons, List.not_mem_nil, or_false] at hx ⊢; rcases hx with rfl | rfl | rfl | rfl <;> simp)) _ _ (by simp)
theorem MG.stepL {x : List S33 × Nat} (h : MG w6 gr gw gp [] C L vC vL wr) (hN : Kd.N dG 34 w2 w6.heap.size (Out [some gw, some gr, vC.ownBlock]) v1 (L ++ [x])) (hB : Below w6.heap.size w6 w2) (hg : wr.grownBy w2 vL.ownBlock) (hat : v1.ownBlock = vL.ownBlock ∨ ∃ b, v1.ownBlock = some b ∧ wr.heap.size ≤ b) :
    MG w6 gr gw gp [] C (L ++ [x]) vC v1 (w2.setCell ⟨gw, 2, none⟩ v1) := by
  have hk := h.keepL hg
  refine ⟨below_set hB h.lew, h.ler, h.lew, h.ne, blk_far hk.2 h.ne _, blk_put hk.1 2 v1 rfl, ?_, ?_, ?_, fun b hm => absurd hm (by simp)⟩
  · exact Kd.N_far (N_swap (T := [some gw, some gr, v1.ownBlock]) h.C hg (.inl (by simp)) hat (by intro x hx; simp only [List.mem_cons, List.not_mem_nil, or_false] at hx ⊢; rcases hx with rfl | rfl | rfl <;> simp)) (fun k hk e => hk (by rw [e]; simp)) v1
  · exact Kd.N_far hN (fun k hk e => hk (by rw [e]; simp)) v1
  · exact foot_set (foot_swap (T := [some gw, some gr, vC.ownBlock, v1.ownBlock]) h.p hg (.inl (by simp)) hat (by intro x hx; simp only [List.mem_cons, List.not_mem_nil, or_false] at hx ⊢; rcases hx with rfl | rfl | rfl | rfl <;> simp)) _ _ (by simp)
end
/-- the beginning -/
theorem MG.start (w6 : World) : MG w6 w6.heap.size (w6.heap.size + 1 + 1) (w6.heap.size + 1) [] [] [] (.slice none 0 0) (.slice none 0 0)
    (((w6.alloc (.cells #[.slice none 0 0, .slice none 0 0, .slice none 0 0] 30)).alloc (.cells #[.int .i64 2, .int .i64 3, .int .i64 5] 3)).alloc (.cells #[.slice (some ⟨w6.heap.size + 1, 0, none⟩) 3 3, .slice none 0 0, .slice none 0 0] 30)) := by
  have b0 := blk_alloc (blk_alloc (blk_new w6 (.cells #[.slice none 0 0, .slice none 0 0, .slice none 0 0] 30)) (.cells #[.int .i64 2, .int .i64 3, .int .i64 5] 3)) (.cells #[.slice (some ⟨w6.heap.size + 1, 0, none⟩) 3 3, .slice none 0 0, .slice none 0 0] 30)
  have b1 := blk_alloc (blk_new (w6.alloc (.cells #[.slice none 0 0, .slice none 0 0, .slice none 0 0] 30)) (.cells #[.int .i64 2, .int .i64 3, .int .i64 5] 3)) (.cells #[.slice (some ⟨w6.heap.size + 1, 0, none⟩) 3 3, .slice none 0 0, .slice none 0 0] 30)
  have b2 := blk_new ((w6.alloc (.cells #[.slice none 0 0, .slice none 0 0, .slice none 0 0] 30)).alloc (.cells #[.int .i64 2, .int .i64 3, .int .i64 5] 3)) (.cells #[.slice (some ⟨w6.heap.size + 1, 0, none⟩) 3 3, .slice none 0 0, .slice none 0 0] 30)
  simp only [show ∀ (w : World) (o : Obj), (w.alloc o).heap.size = w.heap.size + 1 from fun w o => by simp] at b1 b2
  refine ⟨below_alloc (below_alloc (below_alloc (Below.refl _ _) _) _) _, Nat.le_refl _, by omega, by omega, b0, b2, Kd.N_nil _ _ _ _ _, Kd.N_nil _ _ _ _ _, ?_, fun b hm => absurd hm (by simp)⟩
  exact FKT_lit b1 (by simp [Out, Value.ownBlock]) 2 3 5
end Go.Proofs.Ytdcpmggjhmdmmaa.X

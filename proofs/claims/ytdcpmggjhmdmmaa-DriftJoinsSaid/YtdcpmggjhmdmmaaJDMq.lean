-- what is used of it (wip/tools/slim.py)
/- A walk that is being made, field by field, with a row of primes of whatever capacity; what a turned block that is no cells leaves. -/
import Derived.Test.YtdcpmggjhmdmmaaJDMs
import Derived.Test.YtdcpmggjhmdmmaaJDIn
namespace Go.Proofs.Ytdcpmggjhmdmmaa.X
open Go.RowKit Go.Proofs.YtdcpmggjhmdmmaaW.PrintWords Go.Proofs.YtdcpmggjhmdmmaaW.PrintLast Go.Proofs.YtdcpmggjhmdmmaaW.PrintMore
set_option linter.unusedVariables false
/-- a walk in the making, apart from the rows of T -/
structure MQ (w6 : World) (gr gw gp cp : Nat) (ro : Obj) (T : List (Option Nat)) (C : List (List (List Int))) (L : List (List S33)) (vC vL : Value) (wr : World) : Prop where
  bel : Below w6.heap.size w6 wr
  lew : w6.heap.size ≤ gw
  ne : gr ≠ gw
  res : wr.heap[gr]? = some ro
  box : wr.heap[gw]? = some (.cells #[.slice (some ⟨gp, 0, none⟩) 3 cp, vC, vL] 30 (0, 0))
  C : Kd.N (Kd.slice 25 (Kd.slice 3 (Kd.int .i64))) 31 wr w6.heap.size (Out (some gw :: some gr :: vL.ownBlock :: T)) vC C
  L : Kd.N (Kd.slice 33 k33) 34 wr w6.heap.size (Out (some gw :: some gr :: vC.ownBlock :: T)) vL L
  p : Kd.F (Kd.int .i64) wr (Out (some gw :: some gr :: vC.ownBlock :: vL.ownBlock :: T)) (some ⟨gp, 0, none⟩) [(2 : Int), 3, 5].length [2, 3, 5]
  t : ∀ b ∈ T, b ≠ some gr ∧ b ≠ some gw ∧ ∀ k, b = some k → k < wr.heap.size
section
variable {w6 wr w2 : World} {gr gw gp cp : Nat} {ro : Obj} {T T2 : List (Option Nat)} {C : List (List (List Int))} {L : List (List S33)} {vC vL v1 : Value} {b b1 : Option Nat}
theorem set_size (w : World) (a : Addr) (v : Value) : (w.setCell a v).heap.size = w.heap.size := by
  show (w.heap.modify _ _).size = _
  rw [Array.size_modify]
theorem MQ.ltw (h : MQ w6 gr gw gp cp ro T C L vC vL wr) : gw < wr.heap.size := (Array.getElem?_eq_some_iff.1 h.box).1
theorem MQ.ltr (h : MQ w6 gr gw gp cp ro T C L vC vL wr) : gr < wr.heap.size := (Array.getElem?_eq_some_iff.1 h.res).1
theorem MQ.later (h : MQ w6 gr gw gp cp ro T C L vC vL wr) (hb : Below wr.heap.size wr w2) : MQ w6 gr gw gp cp ro T C L vC vL w2 :=
  ⟨below_step h.bel hb, h.lew, h.ne, (hb.block _ h.ltr).trans h.res, (hb.block _ h.ltw).trans h.box, Kd.N_below h.C hb, Kd.N_below h.L hb, foot_below h.p hb, fun b hm => ⟨(h.t b hm).1, (h.t b hm).2.1, fun k hk => Nat.lt_of_lt_of_le ((h.t b hm).2.2 k hk) hb.size⟩⟩
/-- a write into a row of T, which may be a new row behind it -/
theorem MQ.grown (h : MQ w6 gr gw gp cp ro (b :: T) C L vC vL wr) (hg : wr.grownBy w2 b) (hB : Below w6.heap.size w6 w2) (hat : b1 = b ∨ ∃ q, b1 = some q ∧ wr.heap.size ≤ q) (hlt : ∀ k, b1 = some k → k < w2.heap.size) : MQ w6 gr gw gp cp ro (b1 :: T) C L vC vL w2 := by
  have ht := h.t b (by simp)
  refine ⟨hB, h.lew, h.ne, (hg.block _ h.ltr (fun e => ht.1 e.symm)).trans h.res, (hg.block _ h.ltw (fun e => ht.2.1 e.symm)).trans h.box, ?_, ?_, ?_, ?_⟩
  · exact N_swap h.C hg (.inl (by simp)) hat (by intro x hx; simp only [List.mem_cons] at hx ⊢; rcases hx with rfl | rfl | rfl | rfl | hx <;> simp [*])
  · exact N_swap h.L hg (.inl (by simp)) hat (by intro x hx; simp only [List.mem_cons] at hx ⊢; rcases hx with rfl | rfl | rfl | rfl | hx <;> simp [*])
  · exact foot_swap h.p hg (.inl (by simp)) hat (by intro x hx; simp only [List.mem_cons] at hx ⊢; rcases hx with rfl | rfl | rfl | rfl | rfl | hx <;> simp [*])
  · intro x hx
    rcases List.mem_cons.1 hx with rfl | hx
    · rcases hat with e | ⟨q, e, hq⟩
      · exact ⟨by rw [e]; exact ht.1, by rw [e]; exact ht.2.1, hlt⟩
      · have h1 := h.ltr
        have h2 := h.ltw
        refine ⟨?_, ?_, hlt⟩ <;> rw [e] <;> intro e2 <;> injection e2 with e2 <;> omega
    · have h3 := h.t x (List.mem_cons_of_mem _ hx)
      exact ⟨h3.1, h3.2.1, fun k hk => Nat.lt_of_lt_of_le (h3.2.2 k hk) hg.size⟩
theorem MQ.drop (h : MQ w6 gr gw gp cp ro (b :: T) C L vC vL wr) : MQ w6 gr gw gp cp ro T C L vC vL wr :=
  ⟨h.bel, h.lew, h.ne, h.res, h.box, Kd.N_mono h.C (out_mono (by intro x hx; simp only [List.mem_cons] at hx ⊢; rcases hx with rfl | rfl | rfl | hx <;> simp [*])), Kd.N_mono h.L (out_mono (by intro x hx; simp only [List.mem_cons] at hx ⊢; rcases hx with rfl | rfl | rfl | hx <;> simp [*])), Kd.F_mono h.p (out_mono (by intro x hx; simp only [List.mem_cons] at hx ⊢; rcases hx with rfl | rfl | rfl | rfl | hx <;> simp [*])), fun x hx => h.t x (List.mem_cons_of_mem _ hx)⟩
theorem MQ.nil (h : MQ w6 gr gw gp cp ro T C L vC vL wr) : MQ w6 gr gw gp cp ro (none :: T) C L vC vL wr :=
  ⟨h.bel, h.lew, h.ne, h.res, h.box, Kd.N_mono h.C (out_mono (by intro x hx; simp only [List.mem_cons] at hx ⊢; rcases hx with rfl | rfl | rfl | rfl | hx <;> simp [*])), Kd.N_mono h.L (out_mono (by intro x hx; simp only [List.mem_cons] at hx ⊢; rcases hx with rfl | rfl | rfl | rfl | hx <;> simp [*])), Kd.F_mono h.p (out_mono (by intro x hx; simp only [List.mem_cons] at hx ⊢; rcases hx with rfl | rfl | rfl | rfl | rfl | hx <;> simp [*])), fun x hx => by
    rcases List.mem_cons.1 hx with rfl | hx
    · exact ⟨by simp, by simp, fun k hk => by cases hk⟩
    · exact h.t x hx⟩
/-- a block that lies apart from what is own may be told apart -/
theorem MQ.keepC (h : MQ w6 gr gw gp cp ro T C L vC vL wr) (hg : wr.grownBy w2 vC.ownBlock) : w2.heap[gw]? = some (.cells #[.slice (some ⟨gp, 0, none⟩) 3 cp, vC, vL] 30 (0, 0)) ∧ w2.heap[gr]? = some ro :=
  ⟨(hg.block _ h.ltw (fun e => absurd (own_ne h.C (some gw) (by simp) e.symm) (by simp))).trans h.box, (hg.block _ h.ltr (fun e => absurd (own_ne h.C (some gr) (by simp) e.symm) (by simp))).trans h.res⟩
theorem MQ.keepL (h : MQ w6 gr gw gp cp ro T C L vC vL wr) (hg : wr.grownBy w2 vL.ownBlock) : w2.heap[gw]? = some (.cells #[.slice (some ⟨gp, 0, none⟩) 3 cp, vC, vL] 30 (0, 0)) ∧ w2.heap[gr]? = some ro :=
  ⟨(hg.block _ h.ltw (fun e => absurd (own_ne h.L (some gw) (by simp) e.symm) (by simp))).trans h.box, (hg.block _ h.ltr (fun e => absurd (own_ne h.L (some gr) (by simp) e.symm) (by simp))).trans h.res⟩
theorem MQ.stepC {x : List (List Int)} (h : MQ w6 gr gw gp cp ro T C L vC vL wr) (hN : Kd.N (Kd.slice 25 (Kd.slice 3 (Kd.int .i64))) 31 w2 w6.heap.size (Out (some gw :: some gr :: vL.ownBlock :: T)) v1 (C ++ [x])) (hB : Below w6.heap.size w6 w2) (hg : wr.grownBy w2 vC.ownBlock) (hat : v1.ownBlock = vC.ownBlock ∨ ∃ b, v1.ownBlock = some b ∧ wr.heap.size ≤ b) :
    MQ w6 gr gw gp cp ro T (C ++ [x]) L v1 vL (w2.setCell ⟨gw, 1, none⟩ v1) := by
  have hk := h.keepC hg
  refine ⟨below_set hB h.lew, h.lew, h.ne, (Below.heap_setCell w2 ⟨gw, 1, none⟩ v1 gr h.ne).trans hk.2, blk_put hk.1 1 v1 rfl, ?_, ?_, ?_, fun b hm => ⟨(h.t b hm).1, (h.t b hm).2.1, fun k hk2 => Nat.lt_of_lt_of_le ((h.t b hm).2.2 k hk2) (by rw [set_size]; exact hg.size)⟩⟩
  · exact Kd.N_far hN (fun k hk e => hk (by rw [e]; simp)) v1
  · exact Kd.N_far (N_swap (T := some gw :: some gr :: v1.ownBlock :: T) h.L hg (.inl (by simp)) hat (by intro x hx; simp only [List.mem_cons] at hx ⊢; rcases hx with rfl | rfl | rfl | hx <;> simp [*])) (fun k hk e => hk (by rw [e]; simp)) v1
  · exact foot_set (foot_swap (T := some gw :: some gr :: v1.ownBlock :: vL.ownBlock :: T) h.p hg (.inl (by simp)) hat (by intro x hx; simp only [List.mem_cons] at hx ⊢; rcases hx with rfl | rfl | rfl | rfl | hx <;> simp [*])) _ _ (by simp)
theorem MQ.stepL {x : List S33} (h : MQ w6 gr gw gp cp ro T C L vC vL wr) (hN : Kd.N (Kd.slice 33 k33) 34 w2 w6.heap.size (Out (some gw :: some gr :: vC.ownBlock :: T)) v1 (L ++ [x])) (hB : Below w6.heap.size w6 w2) (hg : wr.grownBy w2 vL.ownBlock) (hat : v1.ownBlock = vL.ownBlock ∨ ∃ b, v1.ownBlock = some b ∧ wr.heap.size ≤ b) :
    MQ w6 gr gw gp cp ro T C (L ++ [x]) vC v1 (w2.setCell ⟨gw, 2, none⟩ v1) := by
  have hk := h.keepL hg
  refine ⟨below_set hB h.lew, h.lew, h.ne, (Below.heap_setCell w2 ⟨gw, 2, none⟩ v1 gr h.ne).trans hk.2, blk_put hk.1 2 v1 rfl, ?_, ?_, ?_, fun b hm => ⟨(h.t b hm).1, (h.t b hm).2.1, fun k hk2 => Nat.lt_of_lt_of_le ((h.t b hm).2.2 k hk2) (by rw [set_size]; exact hg.size)⟩⟩
  · exact Kd.N_far (N_swap (T := some gw :: some gr :: v1.ownBlock :: T) h.C hg (.inl (by simp)) hat (by intro x hx; simp only [List.mem_cons] at hx ⊢; rcases hx with rfl | rfl | rfl | hx <;> simp [*])) (fun k hk e => hk (by rw [e]; simp)) v1
  · exact Kd.N_far hN (fun k hk e => hk (by rw [e]; simp)) v1
  · exact foot_set (foot_swap (T := some gw :: some gr :: vC.ownBlock :: v1.ownBlock :: T) h.p hg (.inl (by simp)) hat (by intro x hx; simp only [List.mem_cons] at hx ⊢; rcases hx with rfl | rfl | rfl | rfl | hx <;> simp [*])) _ _ (by simp)
theorem MQ.fresh (h : MQ w6 gr gw gp cp ro T C L vC vL wr) (q : Nat) (hq : wr.heap.size ≤ q) : some q ∉ some gw :: some gr :: vC.ownBlock :: vL.ownBlock :: T := by
  have h1 := h.ltr
  have h2 := h.ltw
  simp only [List.mem_cons, not_or]
  exact ⟨by simp; omega, by simp; omega, ne_own h.C q hq, ne_own h.L q hq, fun hm => by have := (h.t _ hm).2.2 q rfl; omega⟩
end
def Cl (W : World) (k : Nat) : Prop := ∃ cells t fr, W.heap[k]? = some (.cells cells t fr)
theorem Cl.of_cell {W : World} {a : Addr} {v : Value} (h : W.cell? a = some v) : Cl W a.block := by
  unfold World.cell? at h
  cases hb : W.heap[a.block]? with
  | none => rw [hb] at h; simp at h
  | some o =>
    rw [hb] at h
    cases o with
    | cells c t fr => exact ⟨c, t, fr, hb⟩
    | _ => simp at h
theorem Cl.grown {A B : World} {row : Option Nat} {k : Nat} (h : Cl A k) (hr : ∀ r, row = some r → ∃ o : Obj, A.heap[r]? = some o ∧ o.isCells = false) : some k ≠ row := fun e => by
  obtain ⟨o, ho, hn⟩ := hr k e.symm
  obtain ⟨c, t, fr, hc⟩ := h
  rw [hc] at ho
  rw [← Option.some.inj ho] at hn
  exact absurd hn (by simp [Obj.isCells])
theorem F_int_one {k : IntKind} {W : World} {ad : Addr} {n : Nat} {xs : List Int} (h : (Kd.int k).C W (some ad) n xs) : Kd.F (Kd.int k) W (fun q => q = ad.block) (some ad) n xs := by
  intro W' hW'
  refine ⟨h.1, h.2.1, fun hn => ?_⟩
  obtain ⟨ad', hA, hel⟩ := h.2.2 hn
  obtain rfl := Option.some.inj hA
  refine ⟨ad, rfl, fun j x hj => ?_⟩
  obtain ⟨c, hl, hK, hc⟩ := hel j x hj
  refine ⟨c, hl, hK, fun i u hi => ?_⟩
  have hc1 := hc i u hi
  have hb := Cl.of_cell hc1
  rw [add_blk] at hb
  have hlt : ad.block < W.heap.size := by
    obtain ⟨cs, t, fr, hcs⟩ := hb
    exact (Array.getElem?_eq_some_iff.1 hcs).1
  have heq := hW' ad.block rfl hlt
  rw [← hc1]
  unfold World.cell?
  rw [show (ad.add (j * (Kd.int k).sz + i)).block = ad.block from add_blk _ _, heq]
end Go.Proofs.Ytdcpmggjhmdmmaa.X

-- what is used of it (wip/tools/slim.py)
/- Reverse (function 20). -/
import Derived.Test.YtdcpmggjhmdmmaaJDMq
import Derived.RangeFuncFrom
namespace Go.Proofs.Ytdcpmggjhmdmmaa.X
open Go.RowKit Go.Shelf Go.Proofs.YtdcpmggjhmdmmaaW.PrintWords Go.Proofs.YtdcpmggjhmdmmaaW.PrintLast Go.Proofs.YtdcpmggjhmdmmaaW.PrintMore
set_option linter.unusedVariables false
attribute [local go_sem] Oper.semAt_some
theorem clone58 (x : List Int) (h : x.length < 17592186044416) : api_Row_int_58.f x = some x := by
  unfold api_Row_int_58.f
  simp [h]
theorem copied_l0 (l : List (List Int)) (hl : l.length ≤ 12) (hr : ∀ x ∈ l, x.length = 3) (d : Nat) : ∀ (j : Nat) (o : List (List Int)), j + d = l.length → o.length = j →
    Ev (fun k => drift_copied.l0 k o l (l.length : Int) (j : Int)) (o ++ l.drop j) := by
  induction d with
  | zero =>
    intro j o hj ho
    rw [List.drop_of_length_le (by omega)]
    exact Ev.val (fun k => by simp only [drift_copied.l0]; rw [if_neg (by omega)]; simp)
  | succ d ih =>
    intro j o hj ho
    have h := ih (j + 1) (o ++ [l.getD j []]) (by omega) (by simp [ho])
    rw [drop_getD l [] j (by omega)]
    rw [List.append_assoc, List.singleton_append] at h
    refine Ev.one h (fun k => ?_)
    have hx : (l.getD j []).length = 3 := by
      have hlt : j < l.length := by omega
      rw [show l.getD j [] = l[j] from by simp [hlt]]
      exact hr _ (List.getElem_mem hlt)
    simp only [drift_copied.l0]
    rw [if_pos (by omega), if_pos (by omega), if_pos (by omega), show rd_L1 l (j : Int) = l.getD j [] from rdL, clone58 _ (by omega), Option.bind_some, if_pos (by omega), wrap_succ j (by omega)]
theorem copied_ev (l : List (List Int)) (h : l.length ≤ 12 ∧ ∀ x ∈ l, x.length = 3) : Ev (fun k => drift_copied.f k l) l := by
  have h1 := copied_l0 l h.1 h.2 l.length 0 [] (by omega) rfl
  rw [List.drop_zero, List.nil_append] at h1
  exact h1
theorem vw_row {C : List (List (List Int))} {L : List (List S33)} (h : VW 3 C L) {i : Nat} (hi : i < C.length) : (C.getD i []).length ≤ 12 ∧ ∀ x ∈ C.getD i [], x.length = 3 := by
  refine ⟨(h.cn i hi).2, fun x hx => ?_⟩
  obtain ⟨j, hj, e⟩ := List.getElem_of_mem hx
  have h1 := (h.row i hi j hj).1
  rw [show (C.getD i []).getD j [] = x from by rw [← e, List.getD_eq_getElem?_getD, List.getElem?_eq_getElem hj]; rfl] at h1
  exact h1
theorem rev_fk {w1 : World} {base : Nat} {A : Option Addr} {c : Nat} {row : List (List Int)} (h : Kd.S (Kd.slice 3 (Kd.int .i64)) 25 w1 base (fun _ => True) (.slice A row.length c) row) : Kd.FK (Kd.slice 25 (Kd.slice 3 (Kd.int .i64))) w1 (fun k => base ≤ k) row [.slice A row.length c] := by
  have h1 := Kd.S_R (Kd.S_bound h)
  exact Kd.FK_slice_mk (Kd.R_reads' h1).2.1 (Kd.F_mono (Kd.R_F h1) (fun k hk => hk.2.1))
section
variable {w W w1 w2 : World} {gr gw gp cp Bs bp : Nat} {ro o1 o2 : Obj} {T : List (Option Nat)} {C : List (List (List Int))} {L : List (List S33)} {vC vL : Value}
theorem rev_fresh (h : MQ w gr gw gp cp ro T C L vC vL W) (hb : Below W.heap.size W w1) : (∀ k, W.drew.heap.size ≤ k → Out (some gw :: some gr :: vL.ownBlock :: T) k ∧ some k ≠ vC.ownBlock) ∧ ∀ k, w1.heap.size ≤ k → Out (some gw :: some gr :: vL.ownBlock :: T) k := by
  have key : ∀ k, W.heap.size ≤ k → Out (some gw :: some gr :: vL.ownBlock :: T) k ∧ some k ≠ vC.ownBlock := fun k hk => by
    have h1 := h.fresh k hk
    simp only [Out, List.mem_cons, not_or] at h1 ⊢
    exact ⟨⟨h1.1, h1.2.1, h1.2.2.2.1, h1.2.2.2.2⟩, h1.2.2.1⟩
  exact ⟨fun k hk => key k hk, fun k hk => (key k (Nat.le_trans hb.size hk)).1⟩
end
end Go.Proofs.Ytdcpmggjhmdmmaa.X

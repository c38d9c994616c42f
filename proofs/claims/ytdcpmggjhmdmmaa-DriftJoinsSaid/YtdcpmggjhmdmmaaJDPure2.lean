-- what is used of it (wip/tools/slim.py)
/- Plain laws: the law's own roots and strains, the program's strains. -/
import Derived.Test.YtdcpmggjhmdmmaaJDPure
namespace Go.Proofs.Ytdcpmggjhmdmmaa.X
open Go.RowKit Go.Proofs.YtdcpmggjhmdmmaaW.PrintWords Go.Proofs.YtdcpmggjhmdmmaaW.PrintLast Go.Proofs.YtdcpmggjhmdmmaaW.PrintMore
set_option linter.unusedVariables false
theorem mk_snoc (j : Nat) (f : Nat → Int) : mk j f ++ [f j] = mk (j + 1) f := by simp [mk, List.range_succ]
theorem add_l0 (x y : List Int) (hl : x.length = y.length) (hx : x.length < 1000) (bx : small 1000000000 x.length (fun t => x.getD t 0)) (by_ : small 1000000000 x.length (fun t => y.getD t 0)) (d : Nat) : ∀ j : Nat, j + d = x.length →
    Ev (fun k => schismalaw51_add.l0 k x y (mk j (fun t => x.getD t 0 + y.getD t 0)) (x.length : Int) (j : Int)) (mk x.length (fun t => x.getD t 0 + y.getD t 0)) := by
  induction d with
  | zero =>
    intro j hj
    obtain rfl : j = x.length := by omega
    exact Ev.val (fun k => by simp only [schismalaw51_add.l0]; rw [if_neg (by omega)])
  | succ d ih =>
    intro j hj
    have a : -1000000000 ≤ x.getD j 0 ∧ x.getD j 0 ≤ 1000000000 := bx j (by omega)
    have b : -1000000000 ≤ y.getD j 0 ∧ y.getD j 0 ≤ 1000000000 := by_ j (by omega)
    refine Ev.one (ih (j + 1) (by omega)) (fun k => ?_)
    simp only [schismalaw51_add.l0]
    rw [if_pos (by omega), if_pos (by omega), if_pos (by omega), if_pos (by omega), if_pos (by rw [mk_len]; omega), rdI, rdI, wrap_in (by omega) (by omega), wrap_succ j (by omega), mk_snoc j (fun t => x.getD t 0 + y.getD t 0)]
theorem add_ev (x y : List Int) (hl : x.length = y.length) (hx : x.length < 1000) (bx : small 1000000000 x.length (fun t => x.getD t 0)) (by_ : small 1000000000 x.length (fun t => y.getD t 0)) :
    Ev (fun k => schismalaw51_add.f k x y) (mk x.length (fun t => x.getD t 0 + y.getD t 0)) := add_l0 x y hl hx bx by_ x.length 0 (by omega)
section
variable {n : Nat} {C : List (List (List Int))} {L : List (List S33)} (h : VW n C L)
include h
end
/-! strains -/
section
variable {n : Nat} {C : List (List (List Int))} {L : List (List S33)} (h : VW n C L)
include h
end
end Go.Proofs.Ytdcpmggjhmdmmaa.X

-- what is used of it (wip/tools/slim.py)
/- Make: the walk of a plan (function 13). -/
import Derived.Test.YtdcpmggjhmdmmaaJDMs
import Derived.Test.YtdcpmggjhmdmmaaJDPlan
import Derived.Deep.RegionLaw
namespace Go.Proofs.Ytdcpmggjhmdmmaa.X
open Go.RowKit Go.Proofs.YtdcpmggjhmdmmaaW.PrintWords Go.Proofs.YtdcpmggjhmdmmaaW.PrintLast Go.Proofs.YtdcpmggjhmdmmaaW.PrintMore
set_option linter.unusedVariables false
theorem plan_cell {cs : Array Value} {f : Nat → Int} (hp : PlanOk cs f) {w6 W : World} {gb : Nat} (hb : w6.heap[gb]? = some (.cells cs 53 (0, 0))) (hB : Below w6.heap.size w6 W) (j : Nat) (hj : j < 68) : W.cell? ⟨gb, j, none⟩ = some (.int (kdp j) (f j)) := by
  have h2 := (hB.block gb (Array.getElem?_eq_some_iff.1 hb).1).trans hb
  exact (blk_cell h2 j).trans (hp.cell j hj)
theorem MS.start' {w6 : World} {gr gw gp : Nat} (h1 : gr = w6.heap.size) (h2 : gp = w6.heap.size + 1) (h3 : gw = w6.heap.size + 1 + 1) : MS w6 gr gw gp [] [] [] (.slice none 0 0) (.slice none 0 0)
    (((w6.alloc (.cells #[.slice none 0 0, .slice none 0 0, .slice none 0 0] 30)).alloc (.cells #[.int .i64 2, .int .i64 3, .int .i64 5] 3)).alloc (.cells #[.slice (some ⟨gp, 0, none⟩) 3 3, .slice none 0 0, .slice none 0 0] 30)) := by
  subst h1 h2 h3
  exact MS.start w6
theorem MS.fresh {w6 wr : World} {gr gw gp : Nat} {T : List (Option Nat)} {C : List (List (List Int))} {L : List (List S33)} {vC vL : Value} (h : MS w6 gr gw gp T C L vC vL wr) (q : Nat) (hq : wr.heap.size ≤ q) : some q ∉ [some gw, some gr, vC.ownBlock, vL.ownBlock] := by
  have h1 := h.ltr
  have h2 := h.ltw
  simp only [List.mem_cons, List.not_mem_nil, or_false, not_or]
  exact ⟨by simp; omega, by simp; omega, ne_own h.C q hq, ne_own h.L q hq⟩
set_option maxRecDepth 100000 in
theorem bits_and1 (x : Int) (h0 : 0 ≤ x) (h1 : x ≤ 255) : Go.bits .and .u8 x 1 = x % 2 := by
  obtain ⟨n, rfl⟩ := Int.eq_ofNat_of_zero_le h0
  have h2 : n < 256 := by omega
  have H : ∀ n : Fin 256, Go.bits .and .u8 (n.val : Int) 1 = (n.val : Int) % 2 := by decide
  exact H ⟨n, h2⟩
theorem shr_bits (x : Int) (j : Nat) (h0 : 0 ≤ x) (h1 : x ≤ 255) : Go.bits .and .u8 (x / 2 ^ j) 1 = x / 2 ^ j % 2 := by
  have hp : (0 : Int) < 2 ^ j := Int.pow_pos (by omega)
  have h2 : 0 ≤ x / 2 ^ j := Int.ediv_nonneg h0 (by omega)
  have h3 : x / 2 ^ j ≤ x := Int.ediv_le_self _ h0
  exact bits_and1 _ h2 (by omega)
end Go.Proofs.Ytdcpmggjhmdmmaa.X

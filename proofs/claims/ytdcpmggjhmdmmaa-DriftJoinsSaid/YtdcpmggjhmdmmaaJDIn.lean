-- what is used of it (wip/tools/slim.py)
/- A plain step carried into a round of a range over a function; slices.Backward (functions 42, 44) and its closures (63, 64). -/
import Derived.RangeFuncNested
import Derived.RangeFuncFrom
import Derived.RangeFuncBox
import Derived.RangeFuncBound
import Derived.RangeFuncCalls
import Derived.RangeFuncLeaves
import Derived.Shelf.Abstract
import Derived.Shelf.RegionOpen
import Derived.WalkKit
import Derived.OwnWalkIn
import Derived.TacticsInMore
import Derived.LoopNIn
import Derived.LoopIn
import Derived.Test.YtdcpmggjhmdmmaaJDLib
namespace Go.Proofs.Ytdcpmggjhmdmmaa.X
open Go.RowKit Go.Shelf Go.Proofs.YtdcpmggjhmdmmaaW.PrintWords Go.Proofs.YtdcpmggjhmdmmaaW.PrintLast Go.Proofs.YtdcpmggjhmdmmaaW.PrintMore
set_option linter.unusedVariables false
attribute [local go_sem] Oper.semAt_some
/-- what a round keeps for the iterator: its own box, and what lay below n₀ -/
def KB (Bs n₀ : Nat) (W W' : World) : Prop := W'.heap[Bs]? = W.heap[Bs]? ∧ Below n₀ W W'
theorem KB.trans {Bs n₀ : Nat} {A B C : World} (h : KB Bs n₀ A B) (k : KB Bs n₀ B C) : KB Bs n₀ A C := ⟨k.1.trans h.1, h.2.trans k.2⟩
theorem KB.put {Bs n₀ : Nat} {w : World} (hn : n₀ ≤ w.heap.size) (hb : Bs < w.heap.size) (W : World) (l : Nat) (o o' : Obj) (hl : w.heap.size ≤ l) (h : W.heap[l]? = some o) (h1 : o.isCells = false) (h2 : o.isWalk = false) : KB Bs n₀ W (W.putObj l o') :=
  ⟨World.putObj_heap_other (by omega), belowK_b hn W l o o' hl h h1 h2⟩
theorem KB.cell {Bs n₀ : Nat} {W W' : World} (h : KB Bs n₀ W W') : W'.cell? ⟨Bs, 0, none⟩ = W.cell? ⟨Bs, 0, none⟩ := by
  unfold World.cell?
  rw [h.1]
theorem add_blk (ad : Addr) (m : Nat) : (ad.add m).block = ad.block := by unfold Addr.add; split <;> rfl
end Go.Proofs.Ytdcpmggjhmdmmaa.X

-- what is used of it (wip/tools/slim.py)
/- Repeat (function 21): the rows that roots and drift return lie in blocks of their own, not frozen. -/
import Derived.Test.YtdcpmggjhmdmmaaJDPlan
import Derived.Test.YtdcpmggjhmdmmaaJDLib
import Derived.Lib.Hide
namespace Go.Proofs.Ytdcpmggjhmdmmaa.X
open Go.RowKit Go.Proofs.YtdcpmggjhmdmmaaW.PrintWords Go.Proofs.YtdcpmggjhmdmmaaW.PrintLast Go.Proofs.YtdcpmggjhmdmmaaW.PrintMore
attribute [local go_sem] max2_int min2_int max_two min_two max_three min_three max_four min_four   -- for this text's walks alone
set_option linter.unusedVariables false
set_option linter.unusedSimpArgs false
/-- a row of ints in a block of its own -/
def dT : Kd (List Int) where
  sz := 1
  E := [3]
  K := fun w xs cs => ∃ A c, cs = [.slice A xs.length c] ∧ xs.length ≤ c ∧ (Kd.int .i64).C w A xs.length xs ∧ (0 < xs.length → ∃ g cells, A = some ⟨g, 0, none⟩ ∧ w.heap[g]? = some (.cells cells 3 (0, 0)))
  M := fun _ _ _ _ _ => False
  K_len := by
    rintro w x cs ⟨A, c, rfl, _⟩
    rfl
  K_one := by
    rintro w x cs ⟨A, c, rfl, _⟩ u hu
    rw [List.mem_singleton.1 hu]
    rfl
  K_below := by
    rintro w w1 x cs hb ⟨A, c, rfl, hl, hr, ht⟩
    refine ⟨A, c, rfl, hl, Kd.C_below hr hb, fun h0 => ?_⟩
    obtain ⟨g, cells, hA, hg⟩ := ht h0
    exact ⟨g, cells, hA, (hb.block g (Array.getElem?_eq_some_iff.1 hg).1).trans hg⟩
  K_of_M := fun h => h.elim
  M_mono := fun _ h => h.elim
  M_bound := fun h => h.elim
  M_move := fun _ h => h.elim
  M_lower := fun _ h => h.elim
theorem K_of_T {w : World} {x : List Int} {c : List Value} (h : dT.K w x c) : (Kd.slice 3 (Kd.int .i64)).K w x c := by
  obtain ⟨A, cc, h1, h2, h3, _⟩ := h
  exact ⟨A, cc, h1, h2, h3⟩
theorem FK_of_T {W : World} {ok : Nat → Prop} {x : List Int} {c : List Value} (h : Kd.FK dT W ok x c) : Kd.FK (Kd.slice 3 (Kd.int .i64)) W ok x c := fun W' hW => K_of_T (h W' hW)
theorem C_of_T {W : World} {A : Option Addr} {n : Nat} {xs : List (List Int)} (h : dT.C W A n xs) : (Kd.slice 3 (Kd.int .i64)).C W A n xs := by
  refine ⟨h.1, h.2.1, fun hn => ?_⟩
  obtain ⟨ad, hA, hel⟩ := h.2.2 hn
  refine ⟨ad, hA, fun j x hj => ?_⟩
  obtain ⟨c, hl, hK, hc⟩ := hel j x hj
  exact ⟨c, hl, K_of_T hK, hc⟩
end Go.Proofs.Ytdcpmggjhmdmmaa.X

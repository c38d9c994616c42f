-- what is used of it (wip/tools/slim.py)
/- A plain step carried into a round of a range over a function; slices.Backward (functions 42, 44) and its closures (63, 64). -/
import Derived.RangeFuncNested
import Derived.RangeFuncFrom
import Derived.RangeFuncBox
import Derived.RangeFuncBound
import Derived.RangeFuncCalls
import Derived.RangeFuncLeaves
import Derived.Shelf.Abstract
import Derived.Shelf.RegionOpen
import Derived.WalkKit
import Derived.OwnWalkIn
import Derived.TacticsInMore
import Derived.LoopNIn
import Derived.LoopIn
import Derived.Test.YtdcpmggjhmdmmaaTDLib
namespace Go.Proofs.Ytdcpmggjhmdmmaa.X
open Go.RowKit Go.Shelf Go.Proofs.YtdcpmggjhmdmmaaW.PrintWords Go.Proofs.YtdcpmggjhmdmmaaW.PrintLast Go.Proofs.YtdcpmggjhmdmmaaW.PrintMore
set_option linter.unusedVariables false
attribute [local go_sem] Oper.semAt_some
section
variable {l n : Nat} {P : Program} {ops : Array Oper} {o : Oper} {a : Act} {w : World} {K : Act → World → Prop} {Q : Exit → Act → World → Prop}
theorem oper_in (hd : ∀ c, o.op ≠ .defer c) (h : o.wp P a w K Q) : o.wpIn (Fence.wide.inRound l) n P a w K Q := by
  refine ⟨fun f _ => trivial, ?_⟩
  rw [show (Fence.wide.inRound l).round = some l from rfl, Oper.semAt_some l a.eval o hd]
  unfold Oper.wp Oper.upon at h
  generalize (execOp a.eval o).run P w = r at h
  unfold Oper.uponIn
  split at h
  · exact h
  · exact h
  · exact h
  · exact ⟨fun h0 => (by cases h0), CallsIn.inRound l (callsIn_wide.2 h)⟩
  · exact ⟨fun h0 => (by cases h0), fun c cs _ => let ⟨v, w', r, s⟩ := h c cs; ⟨v, w', r, stepsIn_wide.2 s⟩⟩
  · exact h
  · exact h.elim
theorem opIn_of (hd : ∀ (i : Nat) (o : Oper), ops[i]? = some o → ∀ c, o.op ≠ .defer c) (hq : ¬ LetsOut Q) {i : Nat} {K' : Act → World → Prop} (hK : ∀ a w, K a w → K' a w) (h : wpOp P ops Q i K a w) : wpOpIn (Fence.wide.inRound l) n P ops Q i K' a w := by
  unfold wpOp at h
  unfold wpOpIn
  cases ho : ops[i]? with
  | none => rw [ho] at h; exact hK _ _ h
  | some o =>
    simp only [ho] at h ⊢
    split
    · rename_i hw
      rw [if_pos hw] at h
      rcases h with h | ⟨_, h⟩
      · exact oper_in (hd i o ho) (Oper.wp_mono hK h)
      · exact absurd h hq
    · rename_i hw
      rw [if_neg hw] at h
      exact ⟨fun f _ => trivial, hK _ _ h⟩
theorem anyIn_of {md : Region.Mode} (hd : ∀ (i : Nat) (o : Oper), ops[i]? = some o → ∀ c, o.op ≠ .defer c) (hq : ¬ LetsOut Q) : ∀ (fuel : Nat) (listed : Array Bool) (a : Act) (w : World), wpAny P md ops Q fuel listed a w → wpAnyIn (Fence.wide.inRound l) n P md ops Q fuel listed a w
  | 0, _, _, _, h => h
  | fuel + 1, listed, a, w, h => ⟨h.1, fun i hi => opIn_of hd hq (fun a w h => anyIn_of hd hq fuel _ a w h) (h.2 i hi)⟩
/-- one step of a plain region in a round -/
theorem listIn_step {rest : List Oper} (hd : ∀ c, o.op ≠ .defer c) (hw : Region.wanted o (yielded ops a.tmps) = true) (h : if Region.wanted o (yielded ops a.tmps) = true then Oper.wp P o a w (wpListIn (Fence.wide.inRound l) n P ops Q rest) Q else wpListIn (Fence.wide.inRound l) n P ops Q rest (a.put o.dst undef) w) : wpListIn (Fence.wide.inRound l) n P ops Q (o :: rest) a w := by
  rw [if_pos hw] at h
  unfold wpListIn
  rw [if_pos hw]
  exact oper_in hd h
end
/-- what a round keeps for the iterator: its own box, and what lay below n₀ -/
def KB (Bs n₀ : Nat) (W W' : World) : Prop := W'.heap[Bs]? = W.heap[Bs]? ∧ Below n₀ W W'
theorem KB.trans {Bs n₀ : Nat} {A B C : World} (h : KB Bs n₀ A B) (k : KB Bs n₀ B C) : KB Bs n₀ A C := ⟨k.1.trans h.1, h.2.trans k.2⟩
theorem KB.put {Bs n₀ : Nat} {w : World} (hn : n₀ ≤ w.heap.size) (hb : Bs < w.heap.size) (W : World) (l : Nat) (o o' : Obj) (hl : w.heap.size ≤ l) (h : W.heap[l]? = some o) (h1 : o.isCells = false) (h2 : o.isWalk = false) : KB Bs n₀ W (W.putObj l o') :=
  ⟨World.putObj_heap_other (by omega), belowK_b hn W l o o' hl h h1 h2⟩
theorem KB.cell {Bs n₀ : Nat} {W W' : World} (h : KB Bs n₀ W W') : W'.cell? ⟨Bs, 0, none⟩ = W.cell? ⟨Bs, 0, none⟩ := by
  unfold World.cell?
  rw [h.1]
def bw (len : Nat) : (k : Nat) → k ≤ len → List {j : Nat // j < len}
  | 0, _ => []
  | k + 1, h => bw len k (by omega) ++ [⟨len - 1 - k, by omega⟩]
theorem bw_length (len : Nat) : ∀ k h, (bw len k h).length = k
  | 0, _ => rfl
  | k + 1, h => by rw [bw, List.length_append, bw_length len k]; rfl
theorem bw_congr (len : Nat) : ∀ {k k' : Nat} (h : k ≤ len) (h' : k' ≤ len), k = k' → bw len k h = bw len k' h' := fun h h' e => by subst e; rfl
theorem bw_snoc (len k : Nat) (h : k + 1 ≤ len) : bw len (k + 1) h = bw len k (by omega) ++ [⟨len - 1 - k, by omega⟩] := rfl
theorem bw_down (len m : Nat) (hm : m + 1 < len) : bw len (len - 1 - m) (by omega) = bw len (len - 1 - (m + 1)) (by omega) ++ [⟨m + 1, hm⟩] := by
  rw [bw_congr len (k' := (len - 1 - (m + 1)) + 1) _ (by omega) (by omega), bw_snoc]
  congr 2
  exact Subtype.ext (by show len - 1 - (len - 1 - (m + 1)) = m + 1; omega)
theorem bw_end (len m : Nat) (hm : 0 < len) : bw len len (Nat.le_refl _) = bw len (len - 1 - 0) (by omega) ++ [⟨0, hm⟩] := by
  rw [bw_congr len (k' := (len - 1 - 0) + 1) _ (by omega) (by omega), bw_snoc]
  congr 2
  exact Subtype.ext (by show len - 1 - (len - 1 - 0) = 0; omega)
theorem add_blk (ad : Addr) (m : Nat) : (ad.add m).block = ad.block := by unfold Addr.add; split <;> rfl
set_option maxRecDepth 100000 in
set_option maxHeartbeats 2000000 in
theorem back63_in (n : Nat) (hn : 1 ≤ n) (l Bs n₀ : Nat) (A : Option Addr) (len cap : Nat) (vf : Nat → Value) (hlen : len ≤ 1000) (hb : ∀ j, j < len → ∃ ad : Addr, A = some ad ∧ ad.block < n₀) (J Jx : List {j : Nat // j < len} → World → Prop)
    (hY : ∀ pre x W, J pre W → pre.length < len → YieldAt Fence.wide (n - 1) Try.prog l #[.int .i64 (x.1 : Nat), vf x.1] W fun e W' =>
      (e = .returned (.bool true) ∧ J (pre ++ [x]) W' ∧ KB Bs n₀ W W') ∨ (e = .returned (.bool false) ∧ Jx (pre ++ [x]) W'))
    (W : World) (hB : W.cell? ⟨Bs, 0, none⟩ = some (.slice A len cap)) (hc : ∀ j ad, j < len → A = some ad → W.cell? (ad.add j) = some (vf j)) (h0 : J [] W) :
    CallsIn Fence.wide n Try.prog 63 #[.func (.yield l) #[] #[], .pointer (some ⟨Bs, 0, none⟩)] W fun e W' => (∃ v, e = .returned v) ∧
      ((∃ ys, ys = bw len len (Nat.le_refl _) ∧ J ys W') ∨ (∃ pre, True ∧ Jx pre W')) := by
  refine callsIn_of_wp Try.func63 rfl trivial ?_ rfl
  simp only [Try.ntmps63, List.size_toArray, List.length_cons, List.length_nil, Nat.reduceAdd, Nat.reduceSub, Array.replicate_succ, Array.replicate_zero, List.push_toArray, List.append_toArray, List.nil_append, List.cons_append]
  gi_wp2
  gi_loopw [3] (fun i wr => (∃ m : Nat, ∃ h : m < len, i = .int .i64 m ∧ J (bw len (len - 1 - m) (by omega)) wr ∧ KB Bs n₀ W wr) ∨ (i = .int .i64 (-1) ∧ J (bw len len (Nat.le_refl _)) wr))
    (fun i _ => (intOf i + 1).toNat)
  case atStart =>
    rcases Nat.eq_zero_or_pos len with h | h
    · refine .inr ⟨?_, ?_⟩
      · subst h
        go_num
      · subst h
        exact h0
    · refine .inl ⟨len - 1, by omega, ?_, ?_, rfl, Below.refl _ _⟩
      · rw [show ((len - 1 : Nat) : Int) = (len : Int) - 1 by omega]
      · have e : len - 1 - (len - 1) = 0 := by omega
        simp only [e]
        exact h0
  case round =>
    rcases hrel with ⟨m, hm, rfl, hJs, hBl⟩ | ⟨rfl, hJs⟩
    · obtain ⟨ad, rfl, had⟩ := hb m hm
      have hbx := hBl.cell.trans hB
      have hcx := (hBl.2.cell (p := ad.add m) (by rw [add_blk]; exact had)).trans (hc m ad hm rfl)
      obtain ⟨fn, tmps, assign, body, hy, hR⟩ := hY _ ⟨m, hm⟩ wr hJs (by rw [bw_length]; omega)
      dsimp only at hy
      clear hc hB
      gi_wp2
      refine hR.mono ?_
      rintro e W3 (⟨rfl, hJ3, hk3⟩ | ⟨rfl, hJx3⟩)
      · gi_wp2
        go_roundw
        case rel =>
          cases m with
          | zero =>
            refine .inr ⟨by go_num, ?_⟩
            have e : bw len len (Nat.le_refl _) = bw len (len - 1 - 0) (by omega) ++ [⟨0, hm⟩] := bw_end len 0 hm
            rw [e]
            exact hJ3
          | succ m =>
            refine .inl ⟨m, by omega, by go_num, ?_, hBl.trans hk3⟩
            rw [bw_down len m hm]
            exact hJ3
        case measure => simp [intOf] <;> omega
      · gi_wp2
        refine bodyPost_ret (results_none rfl _ _ _) rfl ?_
        exact ⟨⟨_, rfl⟩, .inr ⟨_, trivial, hJx3⟩⟩
    · gi_wp2
      go_end0
      exact ⟨⟨_, rfl⟩, .inl ⟨_, rfl, hJs⟩⟩
set_option maxHeartbeats 1000000 in
theorem back42_in (n : Nat) (A : Option Addr) (len cap : Nat) (w : World) :
    CallsIn Fence.wide n Try.prog 42 #[.slice A len cap] w fun e w' => e = .returned (.func (.func 63) #[] #[.pointer (some ⟨w.heap.size, 0, none⟩)]) ∧ w' = w.alloc (.cells #[.slice A len cap] 27) := by
  refine callsIn_of_wp Try.func42 rfl trivial ?_ rfl
  simp only [Try.ntmps42, List.size_toArray, List.length_cons, List.length_nil, Nat.reduceAdd, Nat.reduceSub, Array.replicate_succ, Array.replicate_zero, List.push_toArray, List.append_toArray, List.nil_append, List.cons_append]
  gi_wp2
  go_ret
  exact ⟨rfl, rfl⟩
theorem back63_stops (n : Nat) (hn : 1 ≤ n) (Bs n₀ : Nat) (A : Option Addr) (len cap : Nat) (vf : Nat → Value) (hlen : len ≤ 1000) (hb : ∀ j, j < len → ∃ ad : Addr, A = some ad ∧ ad.block < n₀) (w : World) (hn₀ : n₀ ≤ w.heap.size) (hBs : Bs < w.heap.size)
    (hB : w.cell? ⟨Bs, 0, none⟩ = some (.slice A len cap)) (hc : ∀ j ad, j < len → A = some ad → w.cell? (ad.add j) = some (vf j)) :
    SeqStopsK Fence.wide n Try.prog 63 #[.pointer (some ⟨Bs, 0, none⟩)] (fun x : {j : Nat // j < len} => #[.int .i64 (x.1 : Nat), vf x.1]) (KB Bs n₀) (fun ys => ys = bw len len (Nat.le_refl _)) (fun _ => True) len w := fun l J Jx W hW _ _ hY h0 => by
  have hW' := hW.mono hn₀
  refine back63_in n hn l Bs n₀ A len cap vf hlen hb J Jx hY W ((hW.cell (p := ⟨Bs, 0, none⟩) hBs).trans hB) (fun j ad hj hA => ?_) h0
  obtain ⟨ad', hA', had⟩ := hb j hj
  obtain rfl : ad = ad' := by rw [hA] at hA'; exact Option.some.inj hA'
  exact (hW'.cell (p := ad.add j) (by rw [add_blk]; exact had)).trans (hc j ad hj hA)
set_option maxRecDepth 100000 in
set_option maxHeartbeats 2000000 in
theorem back64_in (n : Nat) (hn : 1 ≤ n) (l Bs n₀ : Nat) (A : Option Addr) (len cap : Nat) (vf : Nat → Value) (hlen : len ≤ 1000) (hb : ∀ j, j < len → ∃ ad : Addr, A = some ad ∧ ad.block < n₀) (J Jx : List {j : Nat // j < len} → World → Prop)
    (hY : ∀ pre x W, J pre W → pre.length < len → YieldAt Fence.wide (n - 1) Try.prog l #[.int .i64 (x.1 : Nat), vf x.1] W fun e W' =>
      (e = .returned (.bool true) ∧ J (pre ++ [x]) W' ∧ KB Bs n₀ W W') ∨ (e = .returned (.bool false) ∧ Jx (pre ++ [x]) W'))
    (W : World) (hB : W.cell? ⟨Bs, 0, none⟩ = some (.slice A len cap)) (hc : ∀ j ad, j < len → A = some ad → W.cell? (ad.add j) = some (vf j)) (h0 : J [] W) :
    CallsIn Fence.wide n Try.prog 64 #[.func (.yield l) #[] #[], .pointer (some ⟨Bs, 0, none⟩)] W fun e W' => (∃ v, e = .returned v) ∧
      ((∃ ys, ys = bw len len (Nat.le_refl _) ∧ J ys W') ∨ (∃ pre, True ∧ Jx pre W')) := by
  refine callsIn_of_wp Try.func64 rfl trivial ?_ rfl
  simp only [Try.ntmps64, List.size_toArray, List.length_cons, List.length_nil, Nat.reduceAdd, Nat.reduceSub, Array.replicate_succ, Array.replicate_zero, List.push_toArray, List.append_toArray, List.nil_append, List.cons_append]
  gi_wp2
  gi_loopw [3] (fun i wr => (∃ m : Nat, ∃ h : m < len, i = .int .i64 m ∧ J (bw len (len - 1 - m) (by omega)) wr ∧ KB Bs n₀ W wr) ∨ (i = .int .i64 (-1) ∧ J (bw len len (Nat.le_refl _)) wr))
    (fun i _ => (intOf i + 1).toNat)
  case atStart =>
    rcases Nat.eq_zero_or_pos len with h | h
    · refine .inr ⟨?_, ?_⟩
      · subst h
        go_num
      · subst h
        exact h0
    · refine .inl ⟨len - 1, by omega, ?_, ?_, rfl, Below.refl _ _⟩
      · rw [show ((len - 1 : Nat) : Int) = (len : Int) - 1 by omega]
      · have e : len - 1 - (len - 1) = 0 := by omega
        simp only [e]
        exact h0
  case round =>
    rcases hrel with ⟨m, hm, rfl, hJs, hBl⟩ | ⟨rfl, hJs⟩
    · obtain ⟨ad, rfl, had⟩ := hb m hm
      have hbx := hBl.cell.trans hB
      have hcx := (hBl.2.cell (p := ad.add m) (by rw [add_blk]; exact had)).trans (hc m ad hm rfl)
      obtain ⟨fn, tmps, assign, body, hy, hR⟩ := hY _ ⟨m, hm⟩ wr hJs (by rw [bw_length]; omega)
      dsimp only at hy
      clear hc hB
      gi_wp2
      refine hR.mono ?_
      rintro e W3 (⟨rfl, hJ3, hk3⟩ | ⟨rfl, hJx3⟩)
      · gi_wp2
        go_roundw
        case rel =>
          cases m with
          | zero =>
            refine .inr ⟨by go_num, ?_⟩
            have e : bw len len (Nat.le_refl _) = bw len (len - 1 - 0) (by omega) ++ [⟨0, hm⟩] := bw_end len 0 hm
            rw [e]
            exact hJ3
          | succ m =>
            refine .inl ⟨m, by omega, by go_num, ?_, hBl.trans hk3⟩
            rw [bw_down len m hm]
            exact hJ3
        case measure => simp [intOf] <;> omega
      · gi_wp2
        refine bodyPost_ret (results_none rfl _ _ _) rfl ?_
        exact ⟨⟨_, rfl⟩, .inr ⟨_, trivial, hJx3⟩⟩
    · gi_wp2
      go_end0
      exact ⟨⟨_, rfl⟩, .inl ⟨_, rfl, hJs⟩⟩
set_option maxHeartbeats 1000000 in
theorem back44_in (n : Nat) (A : Option Addr) (len cap : Nat) (w : World) :
    CallsIn Fence.wide n Try.prog 44 #[.slice A len cap] w fun e w' => e = .returned (.func (.func 64) #[] #[.pointer (some ⟨w.heap.size, 0, none⟩)]) ∧ w' = w.alloc (.cells #[.slice A len cap] 28) := by
  refine callsIn_of_wp Try.func44 rfl trivial ?_ rfl
  simp only [Try.ntmps44, List.size_toArray, List.length_cons, List.length_nil, Nat.reduceAdd, Nat.reduceSub, Array.replicate_succ, Array.replicate_zero, List.push_toArray, List.append_toArray, List.nil_append, List.cons_append]
  gi_wp2
  go_ret
  exact ⟨rfl, rfl⟩
theorem back64_stops (n : Nat) (hn : 1 ≤ n) (Bs n₀ : Nat) (A : Option Addr) (len cap : Nat) (vf : Nat → Value) (hlen : len ≤ 1000) (hb : ∀ j, j < len → ∃ ad : Addr, A = some ad ∧ ad.block < n₀) (w : World) (hn₀ : n₀ ≤ w.heap.size) (hBs : Bs < w.heap.size)
    (hB : w.cell? ⟨Bs, 0, none⟩ = some (.slice A len cap)) (hc : ∀ j ad, j < len → A = some ad → w.cell? (ad.add j) = some (vf j)) :
    SeqStopsK Fence.wide n Try.prog 64 #[.pointer (some ⟨Bs, 0, none⟩)] (fun x : {j : Nat // j < len} => #[.int .i64 (x.1 : Nat), vf x.1]) (KB Bs n₀) (fun ys => ys = bw len len (Nat.le_refl _)) (fun _ => True) len w := fun l J Jx W hW _ _ hY h0 => by
  have hW' := hW.mono hn₀
  refine back64_in n hn l Bs n₀ A len cap vf hlen hb J Jx hY W ((hW.cell (p := ⟨Bs, 0, none⟩) hBs).trans hB) (fun j ad hj hA => ?_) h0
  obtain ⟨ad', hA', had⟩ := hb j hj
  obtain rfl : ad = ad' := by rw [hA] at hA'; exact Option.some.inj hA'
  exact (hW'.cell (p := ad.add j) (by rw [add_blk]; exact had)).trans (hc j ad hj hA)
end Go.Proofs.Ytdcpmggjhmdmmaa.X

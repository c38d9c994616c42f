-- what is used of it (wip/tools/slim.py)
/- Reverse (function 20). -/
import Derived.Test.YtdcpmggjhmdmmaaTDMq
import Derived.RangeFuncFrom
namespace Go.Proofs.Ytdcpmggjhmdmmaa.X
open Go.RowKit Go.Shelf Go.Proofs.YtdcpmggjhmdmmaaW.PrintWords Go.Proofs.YtdcpmggjhmdmmaaW.PrintLast Go.Proofs.YtdcpmggjhmdmmaaW.PrintMore
set_option linter.unusedVariables false
attribute [local go_sem] Oper.semAt_some
theorem gateIn_builtin {F : Fence} {n : Nat} {P : Program} {ops : Array Oper} {rest : List Oper} {o : Oper} {a : Act} {Q : Exit → Act → World → Prop} {W : World} {b : Builtin} {xs : Array Operand} {ts : Array TypeId} (_ho : o.op = .call { callee := .builtin b, args := xs, argTypes := ts }) (h : wpListIn F n P ops Q (o :: rest) a W) : wpListIn F n P ops Q (o :: rest) a W := h
def noDefer (ops : List Oper) : Bool := ops.all (fun o => match o.op with | .defer _ => false | _ => true)
theorem noDefer_of {ops : List Oper} (h : noDefer ops = true) (i : Nat) (o : Oper) (hi : ops.toArray[i]? = some o) (c : Call) : o.op ≠ .defer c := fun e => by
  have h1 := List.all_eq_true.1 h o (List.mem_of_getElem? (i := i) (by simpa using hi))
  rw [e] at h1
  cases h1
def swp (x : S33) : S33 := ⟨x.f1, x.f0⟩
def revL (L : List (List S33)) : List (List S33) := L.reverse.map (fun l => l.map swp)
theorem bw_map {α : Type} (len : Nat) (f : Nat → α) : ∀ (k : Nat) (h : k ≤ len), (bw len k h).map (fun x => f x.1) = (List.range k).map (fun t => f (len - 1 - t))
  | 0, _ => rfl
  | k + 1, h => by
    rw [bw_snoc, List.map_append, bw_map len f k, List.range_succ, List.map_append]
    rfl
theorem bw_rev {α β : Type} (l : List α) (z : α) (g : α → β) : (bw l.length l.length (Nat.le_refl _)).map (fun x => g (l.getD x.1 z)) = l.reverse.map g := by
  rw [bw_map l.length (fun j => g (l.getD j z))]
  apply List.ext_getElem
  · simp
  · intro i h1 h2
    simp only [List.length_map, List.length_range] at h1
    have h3 : l.length - 1 - i < l.length := by omega
    simp [h3]
theorem clone58 (x : List Int) (h : x.length < 17592186044416) : api_Row_int_58.f x = some x := by
  unfold api_Row_int_58.f
  simp [h]
theorem copied_l0 (l : List (List Int)) (hl : l.length ≤ 12) (hr : ∀ x ∈ l, x.length = 3) (d : Nat) : ∀ (j : Nat) (o : List (List Int)), j + d = l.length → o.length = j →
    Ev (fun k => drift_copied.l0 k o l (l.length : Int) (j : Int)) (o ++ l.drop j) := by
  induction d with
  | zero =>
    intro j o hj ho
    rw [List.drop_of_length_le (by omega)]
    exact Ev.val (fun k => by simp only [drift_copied.l0]; rw [if_neg (by omega)]; simp)
  | succ d ih =>
    intro j o hj ho
    have h := ih (j + 1) (o ++ [l.getD j []]) (by omega) (by simp [ho])
    rw [drop_getD l [] j (by omega)]
    rw [List.append_assoc, List.singleton_append] at h
    refine Ev.one h (fun k => ?_)
    have hx : (l.getD j []).length = 3 := by
      have hlt : j < l.length := by omega
      rw [show l.getD j [] = l[j] from by simp [hlt]]
      exact hr _ (List.getElem_mem hlt)
    simp only [drift_copied.l0]
    rw [if_pos (by omega), if_pos (by omega), if_pos (by omega), show rd_L1 l (j : Int) = l.getD j [] from rdL, clone58 _ (by omega), Option.bind_some, if_pos (by omega), wrap_succ j (by omega)]
theorem copied_ev (l : List (List Int)) (h : l.length ≤ 12 ∧ ∀ x ∈ l, x.length = 3) : Ev (fun k => drift_copied.f k l) l := by
  have h1 := copied_l0 l h.1 h.2 l.length 0 [] (by omega) rfl
  rw [List.drop_zero, List.nil_append] at h1
  exact h1
theorem vw_row {C : List (List (List Int))} {L : List (List S33)} (h : VW 3 C L) {i : Nat} (hi : i < C.length) : (C.getD i []).length ≤ 12 ∧ ∀ x ∈ C.getD i [], x.length = 3 := by
  refine ⟨(h.cn i hi).2, fun x hx => ?_⟩
  obtain ⟨j, hj, e⟩ := List.getElem_of_mem hx
  have h1 := (h.row i hi j hj).1
  rw [show (C.getD i []).getD j [] = x from by rw [← e, List.getD_eq_getElem?_getD, List.getElem?_eq_getElem hj]; rfl] at h1
  exact h1
theorem rev_fk {w1 : World} {base : Nat} {A : Option Addr} {c : Nat} {row : List (List Int)} (h : Kd.S (Kd.slice 3 (Kd.int .i64)) 25 w1 base (fun _ => True) (.slice A row.length c) row) : Kd.FK (Kd.slice 25 (Kd.slice 3 (Kd.int .i64))) w1 (fun k => base ≤ k) row [.slice A row.length c] := by
  have h1 := Kd.S_R (Kd.S_bound h)
  exact Kd.FK_slice_mk (Kd.R_reads' h1).2.1 (Kd.F_mono (Kd.R_F h1) (fun k hk => hk.2.1))
section
variable {w W w1 w2 : World} {gr gw gp cp Bs bp : Nat} {ro o1 o2 : Obj} {T : List (Option Nat)} {C : List (List (List Int))} {L : List (List S33)} {vC vL : Value}
theorem rev_fresh (h : MQ w gr gw gp cp ro T C L vC vL W) (hb : Below W.heap.size W w1) : (∀ k, W.drew.heap.size ≤ k → Out (some gw :: some gr :: vL.ownBlock :: T) k ∧ some k ≠ vC.ownBlock) ∧ ∀ k, w1.heap.size ≤ k → Out (some gw :: some gr :: vL.ownBlock :: T) k := by
  have key : ∀ k, W.heap.size ≤ k → Out (some gw :: some gr :: vL.ownBlock :: T) k ∧ some k ≠ vC.ownBlock := fun k hk => by
    have h1 := h.fresh k hk
    simp only [Out, List.mem_cons, not_or] at h1 ⊢
    exact ⟨⟨h1.1, h1.2.1, h1.2.2.2.1, h1.2.2.2.2⟩, h1.2.2.1⟩
  exact ⟨fun k hk => key k hk, fun k hk => (key k (Nat.le_trans hb.size hk)).1⟩
theorem rev_freshL (h : MQ w gr gw gp cp ro T C L vC vL W) : (∀ k, Out (some gw :: some gr :: vC.ownBlock :: vL.ownBlock :: T) k → Out (some gw :: some gr :: vC.ownBlock :: T) k ∧ some k ≠ vL.ownBlock) ∧ ∀ k, W.heap.size ≤ k → Out (some gw :: some gr :: vC.ownBlock :: T) k := by
  have key : ∀ k, Out (some gw :: some gr :: vC.ownBlock :: vL.ownBlock :: T) k → Out (some gw :: some gr :: vC.ownBlock :: T) k ∧ some k ≠ vL.ownBlock := fun k h1 => by
    simp only [Out, List.mem_cons, not_or] at h1 ⊢
    exact ⟨⟨h1.1, h1.2.1, h1.2.2.1, h1.2.2.2.2⟩, h1.2.2.2.1⟩
  exact ⟨key, fun k hk => (key k (h.fresh k hk)).1⟩
theorem rev_put {Sp Sc Sl : List (Option Nat)} {A : Option Addr} {xs : List Int} {nn D : Nat} (hk : W.heap[D]? = some (.deferred (some []))) (hD : w.heap.size ≤ D) (hb : Below w.heap.size w W) (hp : Kd.F (Kd.int .i64) W (Out Sp) A nn xs)
    (hC : Kd.N (Kd.slice 25 (Kd.slice 3 (Kd.int .i64))) 31 W w.heap.size (Out Sc) vC C) (hL : Kd.N (Kd.slice 33 k33) 34 W w.heap.size (Out Sl) vL L) :
    Below w.heap.size w (W.putObj D (.deferred none)) ∧ Kd.F (Kd.int .i64) (W.putObj D (.deferred none)) (Out Sp) A nn xs ∧ Kd.N (Kd.slice 25 (Kd.slice 3 (Kd.int .i64))) 31 (W.putObj D (.deferred none)) w.heap.size (Out Sc) vC C ∧ Kd.N (Kd.slice 33 k33) 34 (W.putObj D (.deferred none)) w.heap.size (Out Sl) vL L := by
  have hg := grownBy_putObj' W D (.deferred none)
  have hr : ∀ r, some D = some r → ∃ o : Obj, W.heap[r]? = some o ∧ o.isCells = false := fun r e => by
    injection e with e
    subst e
    exact ⟨_, hk, rfl⟩
  exact ⟨hb.grown hg hb.size (fun k e => by injection e with e; omega), F_turn 0 (by decide) (fun ok x c h => FK_int_cl ok x c h) hp hg hr, N_turn clC hC hg hr, N_turn clL hL hg hr⟩
theorem rev_core (h : MQ w gr gw gp cp ro T C L vC vL W) (hb : Below W.heap.size W w1) (hg : w1.grownBy w2 vC.ownBlock) (v : Value) (k : Nat) (hk : k < W.heap.size) (h1 : k ≠ gw) (h2 : some k ≠ vC.ownBlock) : (w2.setCell ⟨gw, 1, none⟩ v).heap[k]? = W.heap[k]? :=
  (Below.heap_setCell w2 ⟨gw, 1, none⟩ v k h1).trans ((hg.block k (Nat.lt_of_lt_of_le hk hb.size) h2).trans (hb.block k hk))
theorem rev_close (h : MQ w gr gw gp cp ro T C L vC vL W) (hTb : some Bs ∈ T) (hTp : some bp ∈ T) (hb : Below W.heap.size W w1) (hg : w1.grownBy w2 vC.ownBlock) (hp : W.heap[bp]? = some o1) (hs : W.heap[Bs]? = some o2) (v : Value) :
    KeepsOthers W (w2.setCell ⟨gw, 1, none⟩ v) ∧ KB Bs w.heap.size W (w2.setCell ⟨gw, 1, none⟩ v) ∧ (w2.setCell ⟨gw, 1, none⟩ v).heap[bp]? = some o1 ∧ (w2.setCell ⟨gw, 1, none⟩ v).heap[Bs]? = some o2 := by
  have ht : ∀ b, some b ∈ T → b < W.heap.size ∧ b ≠ gw ∧ some b ≠ vC.ownBlock := fun b hm =>
    ⟨(h.t _ hm).2.2 b rfl, fun e => (h.t _ hm).2.1 (by rw [e]), fun e => absurd (own_ne h.C (some b) (by simp [hm]) e.symm) (by simp)⟩
  have hbs := rev_core h hb hg v Bs (ht Bs hTb).1 (ht Bs hTb).2.1 (ht Bs hTb).2.2
  have hbp := rev_core h hb hg v bp (ht bp hTp).1 (ht bp hTp).2.1 (ht bp hTp).2.2
  refine ⟨⟨by rw [set_size]; exact Nat.le_trans hb.size hg.size, fun k o ho hn => ?_⟩, ⟨hbs, ?_⟩, hbp.trans hp, hbs.trans hs⟩
  · refine (rev_core h hb hg v k (Array.getElem?_eq_some_iff.1 ho).1 (fun e => ?_) (fun e => ?_)).trans ho
    · subst e
      rw [h.box] at ho
      rw [← Option.some.inj ho] at hn
      exact absurd hn (by simp [Obj.isCells])
    · obtain ⟨cells, hc⟩ := Kd.N_typed h.C k e.symm
      rw [hc] at ho
      rw [← Option.some.inj ho] at hn
      exact absurd hn (by simp [Obj.isCells])
  · exact ((hb.mono h.bel.size).grown hg (Nat.le_trans h.bel.size hb.size) (fun k e => Kd.N_base h.C k e)).setCell (p := ⟨gw, 1, none⟩) h.lew v
theorem rev_coreL (h : MQ w gr gw gp cp ro T C L vC vL W) (hb : Below W.heap.size W w1) (hg : w1.grownBy w2 vL.ownBlock) (v : Value) (k : Nat) (hk : k < W.heap.size) (h1 : k ≠ gw) (h2 : some k ≠ vL.ownBlock) : (w2.setCell ⟨gw, 2, none⟩ v).heap[k]? = W.heap[k]? :=
  (Below.heap_setCell w2 ⟨gw, 2, none⟩ v k h1).trans ((hg.block k (Nat.lt_of_lt_of_le hk hb.size) h2).trans (hb.block k hk))
theorem rev_closeL (h : MQ w gr gw gp cp ro T C L vC vL W) (hTb : some Bs ∈ T) (hTp : some bp ∈ T) (hb : Below W.heap.size W w1) (hg : w1.grownBy w2 vL.ownBlock) (hp : W.heap[bp]? = some o1) (hs : W.heap[Bs]? = some o2) (v : Value) :
    KeepsOthers W (w2.setCell ⟨gw, 2, none⟩ v) ∧ KB Bs w.heap.size W (w2.setCell ⟨gw, 2, none⟩ v) ∧ (w2.setCell ⟨gw, 2, none⟩ v).heap[bp]? = some o1 ∧ (w2.setCell ⟨gw, 2, none⟩ v).heap[Bs]? = some o2 := by
  have ht : ∀ b, some b ∈ T → b < W.heap.size ∧ b ≠ gw ∧ some b ≠ vL.ownBlock := fun b hm =>
    ⟨(h.t _ hm).2.2 b rfl, fun e => (h.t _ hm).2.1 (by rw [e]), fun e => absurd (own_ne h.L (some b) (by simp [hm]) e.symm) (by simp)⟩
  have hbs := rev_coreL h hb hg v Bs (ht Bs hTb).1 (ht Bs hTb).2.1 (ht Bs hTb).2.2
  have hbp := rev_coreL h hb hg v bp (ht bp hTp).1 (ht bp hTp).2.1 (ht bp hTp).2.2
  refine ⟨⟨by rw [set_size]; exact Nat.le_trans hb.size hg.size, fun k o ho hn => ?_⟩, ⟨hbs, ?_⟩, hbp.trans hp, hbs.trans hs⟩
  · refine (rev_coreL h hb hg v k (Array.getElem?_eq_some_iff.1 ho).1 (fun e => ?_) (fun e => ?_)).trans ho
    · subst e
      rw [h.box] at ho
      rw [← Option.some.inj ho] at hn
      exact absurd hn (by simp [Obj.isCells])
    · obtain ⟨cells, hc⟩ := Kd.N_typed h.L k e.symm
      rw [hc] at ho
      rw [← Option.some.inj ho] at hn
      exact absurd hn (by simp [Obj.isCells])
  · exact ((hb.mono h.bel.size).grown hg (Nat.le_trans h.bel.size hb.size) (fun k e => Kd.N_base h.L k e)).setCell (p := ⟨gw, 2, none⟩) h.lew v
theorem MQ.new (h : MQ w gr gw gp cp ro T C L vC vL W) (o : Obj) : MQ w gr gw gp cp ro (some W.heap.size :: T) C L vC vL (W.alloc o) := by
  have h1 := h.ltr
  have h2 := h.ltw
  refine ⟨below_alloc h.bel _, h.lew, h.ne, (Below.heap_alloc W o gr h1).trans h.res, (Below.heap_alloc W o gw h2).trans h.box, ?_, ?_, ?_, fun b hb => ?_⟩
  · refine Kd.N_mono (Kd.N_alloc (Kd.N_bound h.C) o) (fun k hk hm => ?_)
    simp only [List.mem_cons] at hm
    rcases hm with e | e | e | e | e
    · exact hk.1 (by rw [e]; simp)
    · exact hk.1 (by rw [e]; simp)
    · exact hk.1 (by rw [e]; simp)
    · have := hk.2; injection e with e; omega
    · exact hk.1 (by simp [e])
  · refine Kd.N_mono (Kd.N_alloc (Kd.N_bound h.L) o) (fun k hk hm => ?_)
    simp only [List.mem_cons] at hm
    rcases hm with e | e | e | e | e
    · exact hk.1 (by rw [e]; simp)
    · exact hk.1 (by rw [e]; simp)
    · exact hk.1 (by rw [e]; simp)
    · have := hk.2; injection e with e; omega
    · exact hk.1 (by simp [e])
  · refine Kd.F_mono (Kd.F_alloc (Kd.F_bound h.p) o) (fun k hk hm => ?_)
    simp only [List.mem_cons] at hm
    rcases hm with e | e | e | e | e | e
    · exact hk.1 (by rw [e]; simp)
    · exact hk.1 (by rw [e]; simp)
    · exact hk.1 (by rw [e]; simp)
    · exact hk.1 (by rw [e]; simp)
    · have := hk.2; injection e with e; omega
    · exact hk.1 (by simp [e])
  · rcases List.mem_cons.1 hb with rfl | hb
    · refine ⟨by simp; omega, by simp; omega, fun k hk => ?_⟩
      obtain rfl := Option.some.inj hk
      rw [World.size_alloc]
      omega
    · have := h.t b hb
      exact ⟨this.1, this.2.1, fun k hk => by have := this.2.2 k hk; rw [World.size_alloc]; omega⟩
theorem rev_own {v v1 : Value} {n m : Nat} (hat : v1.ownBlock = v.ownBlock ∨ ∃ b, v1.ownBlock = some b ∧ m ≤ b) (h : ∀ q, v.ownBlock = some q → n ≤ q) (hm : n ≤ m) : ∀ q, v1.ownBlock = some q → n ≤ q := fun q hq => by
  rcases hat with e | ⟨b, e, hb⟩
  · exact h q (e ▸ hq)
  · rw [e] at hq
    injection hq with hq
    omega
theorem rev_back (h : MQ w gr gw gp cp ro T C L vC vL W) : ∀ k, W.heap.size ≤ k → Out (some gw :: some gr :: vC.ownBlock :: vL.ownBlock :: T) k := fun k hk => h.fresh k hk
theorem take_swp (row : List S33) (k : Nat) (hk : k < row.length) : (row.take k).map swp ++ [swp (row.getD k z33)] = (row.take (k + 1)).map swp := by
  rw [List.take_succ_eq_append_getElem hk, List.map_append]
  simp [hk]
end
theorem revL_len (L : List (List S33)) : (revL L).length = L.length := by simp [revL]
theorem chords_vf {w : World} {A : Option Addr} {C : List (List (List Int))} (h : Kd.C (Kd.slice 25 (Kd.slice 3 (Kd.int .i64))) w A C.length C) : ∃ vf : Nat → Value,
    (∀ j, j < C.length → ∃ ad : Addr, A = some ad ∧ ad.block < w.heap.size) ∧ (∀ j ad, j < C.length → A = some ad → w.cell? (ad.add j) = some (vf j)) ∧
    ∀ j, j < C.length → ∃ A0 c0, vf j = .slice A0 (C.getD j []).length c0 ∧ (C.getD j []).length ≤ c0 ∧ Kd.C (Kd.slice 3 (Kd.int .i64)) w A0 (C.getD j []).length (C.getD j []) := by
  refine ⟨fun j => (w.cell? ((A.getD ⟨0, 0, none⟩).add j)).getD undef, fun j hj => ?_, fun j ad hj hA => ?_, fun j hj => ?_⟩
  · obtain ⟨ad, B, c, rfl, hc, _⟩ := at_L2 h (j : Int) (by omega) (by omega)
    have hb := Cl.of_cell hc
    rw [add_blk] at hb
    obtain ⟨cs, t, fr, hcs⟩ := hb
    exact ⟨ad, rfl, (Array.getElem?_eq_some_iff.1 hcs).1⟩
  · subst hA
    obtain ⟨ad', B, c, hA, hc, _⟩ := at_L2 h (j : Int) (by omega) (by omega)
    obtain rfl := Option.some.inj hA
    rw [Int.toNat_natCast] at hc
    simp only [Option.getD_some, hc]
  · obtain ⟨ad, B, c, rfl, hc, hl, hC⟩ := at_L2 h (j : Int) (by omega) (by omega)
    rw [Int.toNat_natCast] at hc
    rw [rdL2] at hc hl hC
    exact ⟨B, c, by simp only [Option.getD_some, hc], hl, hC⟩
theorem lists_vf {w : World} {A : Option Addr} {C : List (List S33)} (h : Kd.C (Kd.slice 33 k33) w A C.length C) : ∃ vf : Nat → Value,
    (∀ j, j < C.length → ∃ ad : Addr, A = some ad ∧ ad.block < w.heap.size) ∧ (∀ j ad, j < C.length → A = some ad → w.cell? (ad.add j) = some (vf j)) ∧
    ∀ j, j < C.length → ∃ A0 c0, vf j = .slice A0 (C.getD j []).length c0 ∧ (C.getD j []).length ≤ c0 ∧ Kd.C k33 w A0 (C.getD j []).length (C.getD j []) := by
  refine ⟨fun j => (w.cell? ((A.getD ⟨0, 0, none⟩).add j)).getD undef, fun j hj => ?_, fun j ad hj hA => ?_, fun j hj => ?_⟩
  · obtain ⟨ad, B, c, rfl, hc, _⟩ := at_L4 h (j : Int) (by omega) (by omega)
    have hb := Cl.of_cell hc
    rw [add_blk] at hb
    obtain ⟨cs, t, fr, hcs⟩ := hb
    exact ⟨ad, rfl, (Array.getElem?_eq_some_iff.1 hcs).1⟩
  · subst hA
    obtain ⟨ad', B, c, hA, hc, _⟩ := at_L4 h (j : Int) (by omega) (by omega)
    obtain rfl := Option.some.inj hA
    rw [Int.toNat_natCast] at hc
    simp only [Option.getD_some, hc]
  · obtain ⟨ad, B, c, rfl, hc, hl, hC⟩ := at_L4 h (j : Int) (by omega) (by omega)
    rw [Int.toNat_natCast] at hc
    rw [rdL4] at hc hl hC
    exact ⟨B, c, by simp only [Option.getD_some, hc], hl, hC⟩
set_option maxRecDepth 100000 in
set_option maxHeartbeats 4000000 in
theorem reverse_walk (A0 A1 A2 : Option Addr) (c0 c1 c2 : Nat) (C : List (List (List Int))) (L : List (List S33)) (h : VW 3 C L) (w : World)
    (h0 : Kd.C (Kd.int .i64) w A0 3 [2, 3, 5]) (l0 : 3 ≤ c0) (h1 : Kd.C (Kd.slice 25 (Kd.slice 3 (Kd.int .i64))) w A1 C.length C) (l1 : C.length ≤ c1) (h2 : Kd.C (Kd.slice 33 k33) w A2 L.length L) (l2 : L.length ≤ c2) :
    Calls Try.prog 20 #[.agg #[.slice A0 3 c0, .slice A1 C.length c1, .slice A2 L.length c2]] w fun e w' => ∃ gp cp A1' c1' A2' c2', e = .returned (.tuple #[.agg #[.slice (some ⟨gp, 0, none⟩) 3 cp, .slice A1' C.length c1', .slice A2' L.length c2'], .int .i64 0]) ∧ Below w.heap.size w w' ∧
      Kd.C (Kd.int .i64) w' (some ⟨gp, 0, none⟩) 3 [2, 3, 5] ∧ 3 ≤ cp ∧ Kd.C (Kd.slice 25 (Kd.slice 3 (Kd.int .i64))) w' A1' C.length C.reverse ∧ C.length ≤ c1' ∧ Kd.C (Kd.slice 33 k33) w' A2' L.length (revL L) ∧ L.length ≤ c2' := by
  have hu30 := Try.underlying30
  obtain ⟨k, hk⟩ : ∃ k, drift_Check.f k [2, 3, 5] C L = some 0 := by
    have h3 := check_ev [2, 3, 5] C L (by have := h.cl; omega) (by show 3 ≤ _; omega) prime235
    rw [show ([2, 3, 5] : List Int).length = 3 from rfl, h.good] at h3
    exact h3.rounds
  have HC := Lib.hid (fun (W : World) (hW : Below w.heap.size w W) => drift_Check.calls k A0 c0 [2, 3, 5] A1 c1 C A2 c2 L 0 W (Kd.C_below h0 hW) l0 (Kd.C_below h1 hW) l1 (Kd.C_below h2 hW) l2 hk)
  have HP := Lib.hid (fun (W : World) (hW : Below w.heap.size w W) => api_Primes_int_41.calls A0 c0 [2, 3, 5] [2, 3, 5] W (Kd.C_below h0 hW) l0 rfl)
  clear hk
  refine (callsIn_wide (n := 5)).1 ?_
  refine callsIn_of_wp_marks Try.func20 rfl trivial ?_ rfl
  simp only [Try.ntmps20, List.size_toArray, List.length_cons, List.length_nil, Nat.reduceAdd, Nat.reduceSub, Array.replicate_succ, Array.replicate_zero, List.push_toArray, List.append_toArray, List.nil_append, List.cons_append]
  gi_wp2_with fail
  refine ⟨trivial, ?_⟩
  refine (callsIn_wide.2 (HC.out _ (below_alloc (below_alloc (Below.refl _ _) _) _))).mono ?_
  rintro e w3 ⟨rfl, hB3⟩
  obtain ⟨bp, hbp⟩ : ∃ bp, bp = w.heap.size := ⟨_, rfl⟩
  obtain ⟨gr, hgr⟩ : ∃ gr, gr = w.heap.size + 1 := ⟨_, rfl⟩
  have bx : w3.heap[bp]? = some (.cells #[.slice A0 3 c0, .slice A1 C.length c1, .slice A2 L.length c2] 30 (0, 0)) := by
    subst hbp
    have h1 := blk_alloc (blk_new w (.cells #[.slice A0 3 c0, .slice A1 C.length c1, .slice A2 L.length c2] 30)) (.cells #[.slice none 0 0, .slice none 0 0, .slice none 0 0] 30)
    exact (hB3.block _ (Array.getElem?_eq_some_iff.1 h1).1).trans h1
  have rs : w3.heap[gr]? = some (.cells #[.slice none 0 0, .slice none 0 0, .slice none 0 0] 30 (0, 0)) := by
    subst hgr
    have h1 := blk_new (w.alloc (.cells #[.slice A0 3 c0, .slice A1 C.length c1, .slice A2 L.length c2] 30)) (.cells #[.slice none 0 0, .slice none 0 0, .slice none 0 0] 30)
    rw [show (w.alloc (.cells #[.slice A0 3 c0, .slice A1 C.length c1, .slice A2 L.length c2] 30)).heap.size = w.heap.size + 1 from by simp] at h1
    exact (hB3.block _ (Array.getElem?_eq_some_iff.1 h1).1).trans h1
  have B3 := Aside0.mk (below_step (below_alloc (below_alloc (Below.refl w.heap.size w) _) _) hB3)
  rw [← hgr, ← hbp]
  have e0 := blk_cell bx 0
  have BX3 := Aside0.mk bx
  have RS3 := Aside0.mk rs
  have HG := Aside0.mk (And.intro hbp hgr)
  simp only [List.getElem?_toArray, List.getElem?_cons_zero] at e0
  clear hB3 bx rs hbp hgr HC
  gi_wp2_with fail
  refine ⟨trivial, ?_⟩
  refine (callsIn_wide.2 (HP.out _ B3.out)).mono ?_
  rintro e w4 ⟨v4, rfl, hR4, hB4⟩
  obtain ⟨inner, ho⟩ := Kd.R_own hR4
  obtain ⟨gp, cp, rfl⟩ := ownsRow_succ (k := 2) ho
  have R4 := Aside0.mk (Kd.R_reads' hR4)
  have FP := Aside0.mk (F_int_one (Kd.R_reads' hR4).2.2)
  have hpl : gp < w4.heap.size := Kd.R_lt hR4 gp rfl
  have hpg : w3.heap.size ≤ gp := Kd.R_base hR4 gp rfl
  have hgr3 : gr < w3.heap.size := (Array.getElem?_eq_some_iff.1 RS3.out).1
  have hbp3 : bp < w3.heap.size := (Array.getElem?_eq_some_iff.1 BX3.out).1
  have BX4 := Aside0.mk ((hB4.block _ hbp3).trans BX3.out)
  have B4 := Aside0.mk (below_step B3.out hB4)
  obtain ⟨gw, hgw⟩ : ∃ gw, gw = w4.heap.size := ⟨_, rfl⟩
  obtain ⟨Bs, hBs⟩ : ∃ Bs, Bs = gw + 1 := ⟨_, rfl⟩
  have hs5 : (w4.alloc (.cells #[.slice (some ⟨gp, 0, none⟩) 3 cp, .slice none 0 0, .slice none 0 0] 30)).heap.size = gw + 1 := by rw [hgw]; simp
  have M4 : MQ w gr gw gp cp (.cells #[.slice none 0 0, .slice none 0 0, .slice none 0 0] 30 (0, 0)) [some Bs, some bp] [] [] (.slice none 0 0) (.slice none 0 0) ((w4.alloc (.cells #[.slice (some ⟨gp, 0, none⟩) 3 cp, .slice none 0 0, .slice none 0 0] 30)).alloc (.cells #[.slice A1 C.length c1] 27)) := by
    have hs3 := below_size B3.out
    have hs4 := hB4.size
    have hg1 := HG.out.1
    have hg2 := HG.out.2
    refine ⟨below_alloc (below_alloc B4.out _) _, by omega, by omega, blk_alloc (blk_alloc ((hB4.block _ hgr3).trans RS3.out) _) _, blk_alloc (by rw [hgw]; exact blk_new _ _) _, Kd.N_nil _ _ _ _ _, Kd.N_nil _ _ _ _ _, ?_, fun b hm => ?_⟩
    · refine Kd.F_mono (Kd.F_alloc (Kd.F_alloc FP.out _) _) (fun k hk => ?_)
      simp only [Out, List.mem_cons, List.not_mem_nil, or_false, not_or, Value.ownBlock]
      subst hk
      exact ⟨by simp; omega, by simp; omega, by simp, by simp, by simp; omega, by simp; omega⟩
    · simp only [List.mem_cons, List.not_mem_nil, or_false] at hm
      rcases hm with rfl | rfl
      · refine ⟨by simp; omega, by simp; omega, fun k hk => ?_⟩
        obtain rfl := Option.some.inj hk
        rw [World.size_alloc, hs5]
        omega
      · refine ⟨by simp; omega, by simp; omega, fun k hk => ?_⟩
        obtain rfl := Option.some.inj hk
        rw [World.size_alloc, hs5]
        omega
  have HM := Aside0.mk M4
  have HGW := Aside0.mk (And.intro hgw (And.intro hpl (And.intro hpg (And.intro hgr3 hbp3))))
  have e1 := blk_cell (blk_alloc BX4.out (.cells #[.slice (some ⟨gp, 0, none⟩) 3 cp, .slice none 0 0, .slice none 0 0] 30)) 1
  simp only [List.getElem?_toArray, List.getElem?_cons_zero, List.getElem?_cons_succ] at e1
  clear e0 M4 hB4 hR4 ho hpl hpg hgr3 hbp3
  simp only [Nat.reduceAdd]
  gi_wp2_with fail
  refine ⟨trivial, ?_⟩
  refine (back42_in 4 A1 C.length c1 _).mono ?_
  rintro e W5 ⟨rfl, rfl⟩
  gi_wp2
  rw [← hgw, ← hBs]
  obtain ⟨vf, hvA, hvc, hvf⟩ := chords_vf h1
  obtain ⟨W7, hW7⟩ : ∃ W7, W7 = (w4.alloc (.cells #[.slice (some ⟨gp, 0, none⟩) 3 cp, .slice none 0 0, .slice none 0 0] 30)).alloc (.cells #[.slice A1 C.length c1] 27) := ⟨_, rfl⟩
  have hbs7 : W7.heap[Bs]? = some (.cells #[.slice A1 C.length c1] 27 (0, 0)) := by
    have h1 := blk_new (w4.alloc (.cells #[.slice (some ⟨gp, 0, none⟩) 3 cp, .slice none 0 0, .slice none 0 0] 30)) (.cells #[.slice A1 C.length c1] 27)
    rw [hs5] at h1
    rw [hW7, hBs]
    exact h1
  have hbp7 : W7.heap[bp]? = some (.cells #[.slice A0 3 c0, .slice A1 C.length c1, .slice A2 L.length c2] 30 (0, 0)) := by
    rw [hW7]
    exact blk_alloc (blk_alloc BX4.out _) _
  have B7 : Below w.heap.size w W7 := by rw [hW7]; exact below_alloc (below_alloc B4.out _) _
  have hsz7 : W7.heap.size = gw + 2 := by rw [hW7, World.size_alloc, hs5]
  rw [← hW7]
  rw [← hW7] at HM
  have hBs7 : Bs < W7.heap.size := by omega
  have hbn : bp < gw ∧ gr < gw ∧ gp < gw ∧ w.heap.size ≤ gw ∧ w.heap.size ≤ bp ∧ w.heap.size ≤ gr := by
    have h1 := HGW.out
    have h2 := HG.out
    have h3 := below_size B4.out
    have h4 := BX4.out
    have h5 := (Array.getElem?_eq_some_iff.1 h4).1
    have h6 := (Array.getElem?_eq_some_iff.1 BX3.out).1
    refine ⟨by omega, ?_, by omega, by omega, by omega, by omega⟩
    have := h1.2.2.2.1
    have := (Kd.F_now FP.out).1
    omega
  have NE := Aside0.mk (And.intro hBs hbn)
  clear hgw hBs hW7 hs5 hsz7 HGW hbn HG
  refine wpIn_rangeFunc_ownF (n := 5) rfl (by omega) (gf := 63) (lb := #[.pointer (some ⟨Bs, 0, none⟩)]) rfl trivial (enters_of Try.func63 (by kernel_rfl) rfl)
    (back63_stops 4 (by omega) Bs w.heap.size A1 C.length c1 vf (by have := h.cl; omega) hvA W7 (below_size B7) hBs7 ((blk_cell hbs7 0).trans rfl) (fun j ad hj hA => ?c1))
    (fun h k => KB.trans h k) (KB.put (below_size B7) hBs7) (Below.refl _ _) (fun _ => rfl)
    (fun pre W => ∃ vC, MQ w gr gw gp cp (.cells #[.slice none 0 0, .slice none 0 0, .slice none 0 0] 30 (0, 0)) [some Bs, some bp] (pre.map (fun x => C.getD x.1 [])) [] vC (.slice none 0 0) W ∧ W.heap[bp]? = some (.cells #[.slice A0 3 c0, .slice A1 C.length c1, .slice A2 L.length c2] 30 (0, 0)) ∧ W.heap[Bs]? = some (.cells #[.slice A1 C.length c1] 27 (0, 0)))
    (fun _ _ _ => False) ?hI (fun _ _ _ _ _ hs _ _ => hs) ⟨_, HM.out, hbp7, hbs7⟩
    (fun x => { tmps := #[Value.agg #[Value.slice A0 3 c0, Value.slice A1 C.length c1, Value.slice A2 L.length c2],
          Value.pointer (some { block := bp, off := 0 }), Value.pointer (some { block := gr, off := 0 }),
          Value.int IntKind.i64 0, Value.int IntKind.i64 0, Value.pointer (some { block := gw, off := 0 }), undef,
          vf x.1, undef, undef, undef, undef, undef,
          Value.agg #[Value.slice A0 3 c0, Value.slice A1 C.length c1, Value.slice A2 L.length c2],
          Value.int IntKind.i64 0, Value.int IntKind.i64 0, Value.bool false, undef, undef,
          Value.pointer (some { block := bp, off := 0 }), Value.slice A0 3 c0,
          Value.slice (some { block := gp, off := 0 }) 3 cp,
          Value.agg #[Value.slice (some { block := gp, off := 0 }) 3 cp, Value.slice none 0 0, Value.slice none 0 0],
          Value.pointer (some { block := bp, off := 1 }), Value.slice A1 C.length c1,
          Value.func (Fn.func 63) #[] #[Value.pointer (some { block := Bs, off := 0 })], Value.int .i64 (x.1 : Nat), vf x.1, undef, undef,
          undef, undef, undef, undef, undef, undef, undef, undef, undef, undef, undef, undef, undef, undef, undef,
          undef, undef, undef, undef, undef, undef, undef, undef, undef, undef, undef, undef, undef, undef, undef,
          undef, undef], defers := [] }) ?assign ?body ?done ?stop
  case c1 => exact (B7.cell (by obtain ⟨ad', hA', hlt⟩ := hvA j hj; rw [hA] at hA'; rw [add_blk, Option.some.inj hA']; exact hlt)).trans (hvc j ad hj hA)
  case hI =>
    rintro pre X Y row ⟨vC, hM, hb, hs⟩ hg hr
    refine ⟨vC, hM.turn rfl hg (fun r e => ⟨by have := (hr r e).1; have := below_size B7; omega, (hr r e).2⟩), ?_, ?_⟩
    · refine (hg.block _ (Array.getElem?_eq_some_iff.1 hb).1 (fun e => ?_)).trans hb
      exact Cl.grown (B := Y) ⟨_, _, _, hb⟩ (fun r e => (hr r e).2) e
    · refine (hg.block _ (Array.getElem?_eq_some_iff.1 hs).1 (fun e => ?_)).trans hs
      exact Cl.grown (B := Y) ⟨_, _, _, hs⟩ (fun r e => (hr r e).2) e
  case assign =>
    intro l x W K hK
    gi_wp2
    exact hK
  case body =>
    rintro l pre x W ⟨vC, hM, hbp, hbs⟩ hlen
    obtain ⟨B0, cc, hv, hcl, hCc⟩ := hvf x.1 x.2
    rw [hv]
    obtain ⟨row, hrow⟩ : ∃ row, row = C.getD x.1 [] := ⟨_, rfl⟩
    rw [← hrow] at hcl hCc ⊢
    have HROW := Aside0.mk hrow
    have hrow' := HROW.out
    clear hrow
    obtain ⟨AC, NC, cC, rfl⟩ := N_val3 hM.C
    have HMb := Aside0.mk hM
    have HBP := Aside0.mk hbp
    have HBS := Aside0.mk hbs
    have BW := Aside0.mk hM.bel
    have HV := Aside0.mk (And.intro hcl hCc)
    have g1 := blk_cell hM.box 1
    simp only [List.getElem?_toArray, List.getElem?_cons_zero, List.getElem?_cons_succ] at g1
    obtain ⟨kc, hkc⟩ := (copied_ev row (by rw [hrow']; exact vw_row h x.2)).rounds
    have HCP := Aside0.mk (drift_copied.calls kc B0 cc row row W.drew (Kd.C_below hCc (below_drew BW.out)) hcl hkc)
    have PLN := Aside0.mk (show ((pre.map (fun x => C.getD x.1 [])).length + 1) * 24 ≤ 140737488355328 by rw [List.length_map]; have := h.cl; omega)
    clear hM hbp hbs hv hcl hCc hkc hrow'
    gi_wp2
    refine wpIn_region_any (by kernel_rfl) ?_
    refine anyIn_of (noDefer_of (by kernel_rfl)) (fun ⟨_, _, h⟩ => h) _ _ _ _ ?_
    change wpAny _ _ _ _ _ _ _ (World.drew _)
    refine wpAny_take (i := 0) (v := ?_) rfl (by kernel_rfl) (by kernel_rfl) (by kernel_rfl) (fun _ _ _ h => h) (Or.inl ⟨by rfl, ?_⟩) ?_
    rotate_left
    · (intro w; go_simp; with_reducible rfl)
    refine wpAny_take (i := 2) (v := ?_) rfl (by kernel_rfl) (by kernel_rfl) (by kernel_rfl) (fun _ _ _ h => h) (Or.inl ⟨by rfl, ?_⟩) ?_
    rotate_left
    · (intro w; go_simp; with_reducible rfl)
    refine wpAny_ready (rs := [1, 3]) (by kernel_rfl) (by simp) ?_
    refine AllReady.cons (o := { dst := some 29, op := Op.load 27 (Operand.tmp 28), type := 27, pos := "drift.go:245", after := #[{ on := 0, ground := Ground.data }], guard := none }) rfl ?_ ?_
    · intro K hK
      go_simp
      refine hK _ _ ?_
      clear hK K
      refine wpAny_ready (rs := [3]) (by kernel_rfl) (by simp) ?_
      refine AllReady.cons (o := { dst := some 31, op := Op.call { callee := Callee.value (Operand.func 43), args := #[Operand.tmp 30], argTypes := #[31] }, type := 31, pos := "drift.go:245", after := #[{ on := 2, ground := Ground.data }], guard := none }) rfl ?_ ?_
      · intro K hK
        go_simp
        refine HCP.out.mono ?_
        rintro e w1 ⟨v1, rfl, hS, hB1⟩
        refine hK _ _ ?_
        clear hK K
        obtain ⟨A9, c9, rfl⟩ := Kd.S_slice hS
        have PB := Aside0.mk (below_step (below_drew (Below.refl W.heap.size W)) hB1)
        have M1 := Aside0.mk (HMb.out.later PB.out)
        have PK := Aside0.mk (rev_fk hS)
        have hbk := M1.out.box
        have g2 := fun (o : Obj) => blk_cell (blk_alloc hbk o) 1
        have g1' := blk_cell hbk 1
        simp only [List.getElem?_toArray, List.getElem?_cons_zero, List.getElem?_cons_succ] at g1' g2
        have PF := Aside0.mk (rev_fresh HMb.out PB.out)
        clear hS hB1 hbk
        refine wpAny_ready (rs := [4]) (by kernel_rfl) (by simp) ?_
        refine AllReady.cons (o := { dst := some 32, op := Op.buildSlice 27 1 #[(0, Operand.tmp 31)], type := 27, pos := "drift.go:245", after := #[{ on := 3, ground := Ground.data }], guard := none }) rfl ?_ ?_
        · intro K hK
          go_simp
          refine hK _ _ ?_
          clear hK K
          refine wpAny_ready (rs := [5]) (by kernel_rfl) (by simp) ?_
          refine AllReady.cons (o := { dst := some 33, op := Op.call { callee := Callee.builtin Builtin.append, args := #[Operand.tmp 29, Operand.tmp 32], argTypes := #[27, 27] }, type := 27, pos := "drift.go:245", after := #[{ on := 1, ground := Ground.data }, { on := 4, ground := Ground.data }, { on := 3, ground := Ground.chain }], guard := none }) rfl ?_ ?_
          · intro K hK
            refine Kd.N_append_step (Kd.slice 25 (Kd.slice 3 (Kd.int .i64))) (W := w1) (w0 := w) w.heap.size ?_ (.tmp 29) (.tmp 32) 27 31 (.slice none 0 0) 24 ?_ ?_ ?_ ?_ ?_ ?_ (.slice AC NC cC) (pre.map (fun x => C.getD x.1 [])) row [.slice A9 row.length c9] (Out (some gw :: some gr :: (Value.slice none 0 0).ownBlock :: [some Bs, some bp])) (fun k => W.drew.heap.size ≤ k) ?_ ?_ ?_ ?_ ?_ ?_ ?_ ?_ ?_ ?_
            · exact rfl
            · exact rfl
            · exact Try.underlying27
            · exact info31
            · exact rfl
            · decide
            · omega
            · exact rfl
            · exact rfl
            · exact PK.out
            · exact PF.out.1
            · exact PF.out.2
            · exact M1.out.C
            · exact M1.out.bel
            · exact M1.out.bel.size
            · exact PLN.out
            intro v2 w2 hN hB hg hat
            obtain ⟨A8, N8, c8, rfl⟩ := N_val3 hN
            have HN := Aside0.mk (M1.out.stepC hN hB hg hat)
            have HX := Aside0.mk (rev_close HMb.out (by simp) (by simp) PB.out hg HBP.out HBS.out (.slice A8 N8 c8))
            have hbk := (M1.out.keepC hg).1
            have f1 := blk_cell hbk 1
            have f2 := blk_frozen hbk 1
            simp only [List.getElem?_toArray, List.getElem?_cons_zero, List.getElem?_cons_succ] at f1
            clear hN hB hg hat hbk
            try go_simp
            refine hK _ _ ?_
            clear hK K
            refine wpAny_take (i := 6) (v := ?_) rfl (by kernel_rfl) (by kernel_rfl) (by kernel_rfl) (fun _ _ _ h => h) (Or.inl ⟨by rfl, ?_⟩) ?_
            rotate_left
            · (intro w; go_simp; with_reducible rfl)
            refine wpAny_ready (rs := [7]) (by kernel_rfl) (by simp) ?_
            refine AllReady.cons (o := { dst := none, op := Op.store 27 (Operand.tmp 34) (Operand.tmp 33), type := 0, pos := "drift.go:245", after := #[{ on := 6, ground := Ground.data }, { on := 5, ground := Ground.data }, { on := 5, ground := Ground.chain }, { on := 0, ground := Ground.phase }, { on := 1, ground := Ground.phase }, { on := 2, ground := Ground.phase }, { on := 3, ground := Ground.phase }, { on := 4, ground := Ground.phase }, { on := 5, ground := Ground.phase }], guard := none }) rfl ?_ ?_
            · intro K hK
              go_simp
              refine hK _ _ ?_
              clear hK K
              refine wpAny_done (by kernel_rfl) ?_ _
              exact ⟨HX.out.1, HX.out.2.1, _, by rw [List.map_append, List.map_cons, List.map_nil, ← HROW.out]; exact HN.out, HX.out.2.2.1, HX.out.2.2.2⟩
            exact AllReady.nil
          exact AllReady.nil
        exact AllReady.nil
      exact AllReady.nil
    refine AllReady.cons (o := { dst := some 31, op := Op.call { callee := Callee.value (Operand.func 43), args := #[Operand.tmp 30], argTypes := #[31] }, type := 31, pos := "drift.go:245", after := #[{ on := 2, ground := Ground.data }], guard := none }) rfl ?_ ?_
    · intro K hK
      go_simp
      refine HCP.out.mono ?_
      rintro e w1 ⟨v1, rfl, hS, hB1⟩
      refine hK _ _ ?_
      clear hK K
      obtain ⟨A9, c9, rfl⟩ := Kd.S_slice hS
      have PB := Aside0.mk (below_step (below_drew (Below.refl W.heap.size W)) hB1)
      have M1 := Aside0.mk (HMb.out.later PB.out)
      have PK := Aside0.mk (rev_fk hS)
      have hbk := M1.out.box
      have g2 := fun (o : Obj) => blk_cell (blk_alloc hbk o) 1
      have g1' := blk_cell hbk 1
      simp only [List.getElem?_toArray, List.getElem?_cons_zero, List.getElem?_cons_succ] at g1' g2
      have PF := Aside0.mk (rev_fresh HMb.out PB.out)
      clear hS hB1 hbk
      refine wpAny_ready (rs := [1, 4]) (by kernel_rfl) (by simp) ?_
      refine AllReady.cons (o := { dst := some 29, op := Op.load 27 (Operand.tmp 28), type := 27, pos := "drift.go:245", after := #[{ on := 0, ground := Ground.data }], guard := none }) rfl ?_ ?_
      · intro K hK
        go_simp
        refine hK _ _ ?_
        clear hK K
        refine wpAny_ready (rs := [4]) (by kernel_rfl) (by simp) ?_
        refine AllReady.cons (o := { dst := some 32, op := Op.buildSlice 27 1 #[(0, Operand.tmp 31)], type := 27, pos := "drift.go:245", after := #[{ on := 3, ground := Ground.data }], guard := none }) rfl ?_ ?_
        · intro K hK
          go_simp
          refine hK _ _ ?_
          clear hK K
          refine wpAny_ready (rs := [5]) (by kernel_rfl) (by simp) ?_
          refine AllReady.cons (o := { dst := some 33, op := Op.call { callee := Callee.builtin Builtin.append, args := #[Operand.tmp 29, Operand.tmp 32], argTypes := #[27, 27] }, type := 27, pos := "drift.go:245", after := #[{ on := 1, ground := Ground.data }, { on := 4, ground := Ground.data }, { on := 3, ground := Ground.chain }], guard := none }) rfl ?_ ?_
          · intro K hK
            refine Kd.N_append_step (Kd.slice 25 (Kd.slice 3 (Kd.int .i64))) (W := w1) (w0 := w) w.heap.size ?_ (.tmp 29) (.tmp 32) 27 31 (.slice none 0 0) 24 ?_ ?_ ?_ ?_ ?_ ?_ (.slice AC NC cC) (pre.map (fun x => C.getD x.1 [])) row [.slice A9 row.length c9] (Out (some gw :: some gr :: (Value.slice none 0 0).ownBlock :: [some Bs, some bp])) (fun k => W.drew.heap.size ≤ k) ?_ ?_ ?_ ?_ ?_ ?_ ?_ ?_ ?_ ?_
            · exact rfl
            · exact rfl
            · exact Try.underlying27
            · exact info31
            · exact rfl
            · decide
            · omega
            · exact rfl
            · exact rfl
            · exact PK.out
            · exact PF.out.1
            · exact PF.out.2
            · exact M1.out.C
            · exact M1.out.bel
            · exact M1.out.bel.size
            · exact PLN.out
            intro v2 w2 hN hB hg hat
            obtain ⟨A8, N8, c8, rfl⟩ := N_val3 hN
            have HN := Aside0.mk (M1.out.stepC hN hB hg hat)
            have HX := Aside0.mk (rev_close HMb.out (by simp) (by simp) PB.out hg HBP.out HBS.out (.slice A8 N8 c8))
            have hbk := (M1.out.keepC hg).1
            have f1 := blk_cell hbk 1
            have f2 := blk_frozen hbk 1
            simp only [List.getElem?_toArray, List.getElem?_cons_zero, List.getElem?_cons_succ] at f1
            clear hN hB hg hat hbk
            try go_simp
            refine hK _ _ ?_
            clear hK K
            refine wpAny_take (i := 6) (v := ?_) rfl (by kernel_rfl) (by kernel_rfl) (by kernel_rfl) (fun _ _ _ h => h) (Or.inl ⟨by rfl, ?_⟩) ?_
            rotate_left
            · (intro w; go_simp; with_reducible rfl)
            refine wpAny_ready (rs := [7]) (by kernel_rfl) (by simp) ?_
            refine AllReady.cons (o := { dst := none, op := Op.store 27 (Operand.tmp 34) (Operand.tmp 33), type := 0, pos := "drift.go:245", after := #[{ on := 6, ground := Ground.data }, { on := 5, ground := Ground.data }, { on := 5, ground := Ground.chain }, { on := 0, ground := Ground.phase }, { on := 1, ground := Ground.phase }, { on := 2, ground := Ground.phase }, { on := 3, ground := Ground.phase }, { on := 4, ground := Ground.phase }, { on := 5, ground := Ground.phase }], guard := none }) rfl ?_ ?_
            · intro K hK
              go_simp
              refine hK _ _ ?_
              clear hK K
              refine wpAny_done (by kernel_rfl) ?_ _
              exact ⟨HX.out.1, HX.out.2.1, _, by rw [List.map_append, List.map_cons, List.map_nil, ← HROW.out]; exact HN.out, HX.out.2.2.1, HX.out.2.2.2⟩
            exact AllReady.nil
          exact AllReady.nil
        exact AllReady.nil
      refine AllReady.cons (o := { dst := some 32, op := Op.buildSlice 27 1 #[(0, Operand.tmp 31)], type := 27, pos := "drift.go:245", after := #[{ on := 3, ground := Ground.data }], guard := none }) rfl ?_ ?_
      · intro K hK
        go_simp
        refine hK _ _ ?_
        clear hK K
        refine wpAny_ready (rs := [1]) (by kernel_rfl) (by simp) ?_
        refine AllReady.cons (o := { dst := some 29, op := Op.load 27 (Operand.tmp 28), type := 27, pos := "drift.go:245", after := #[{ on := 0, ground := Ground.data }], guard := none }) rfl ?_ ?_
        · intro K hK
          go_simp
          refine hK _ _ ?_
          clear hK K
          refine wpAny_ready (rs := [5]) (by kernel_rfl) (by simp) ?_
          refine AllReady.cons (o := { dst := some 33, op := Op.call { callee := Callee.builtin Builtin.append, args := #[Operand.tmp 29, Operand.tmp 32], argTypes := #[27, 27] }, type := 27, pos := "drift.go:245", after := #[{ on := 1, ground := Ground.data }, { on := 4, ground := Ground.data }, { on := 3, ground := Ground.chain }], guard := none }) rfl ?_ ?_
          · intro K hK
            refine Kd.N_append_step (Kd.slice 25 (Kd.slice 3 (Kd.int .i64))) (W := w1) (w0 := w) w.heap.size ?_ (.tmp 29) (.tmp 32) 27 31 (.slice none 0 0) 24 ?_ ?_ ?_ ?_ ?_ ?_ (.slice AC NC cC) (pre.map (fun x => C.getD x.1 [])) row [.slice A9 row.length c9] (Out (some gw :: some gr :: (Value.slice none 0 0).ownBlock :: [some Bs, some bp])) (fun k => W.drew.heap.size ≤ k) ?_ ?_ ?_ ?_ ?_ ?_ ?_ ?_ ?_ ?_
            · exact rfl
            · exact rfl
            · exact Try.underlying27
            · exact info31
            · exact rfl
            · decide
            · omega
            · exact rfl
            · exact rfl
            · exact PK.out
            · exact PF.out.1
            · exact PF.out.2
            · exact M1.out.C
            · exact M1.out.bel
            · exact M1.out.bel.size
            · exact PLN.out
            intro v2 w2 hN hB hg hat
            obtain ⟨A8, N8, c8, rfl⟩ := N_val3 hN
            have HN := Aside0.mk (M1.out.stepC hN hB hg hat)
            have HX := Aside0.mk (rev_close HMb.out (by simp) (by simp) PB.out hg HBP.out HBS.out (.slice A8 N8 c8))
            have hbk := (M1.out.keepC hg).1
            have f1 := blk_cell hbk 1
            have f2 := blk_frozen hbk 1
            simp only [List.getElem?_toArray, List.getElem?_cons_zero, List.getElem?_cons_succ] at f1
            clear hN hB hg hat hbk
            try go_simp
            refine hK _ _ ?_
            clear hK K
            refine wpAny_take (i := 6) (v := ?_) rfl (by kernel_rfl) (by kernel_rfl) (by kernel_rfl) (fun _ _ _ h => h) (Or.inl ⟨by rfl, ?_⟩) ?_
            rotate_left
            · (intro w; go_simp; with_reducible rfl)
            refine wpAny_ready (rs := [7]) (by kernel_rfl) (by simp) ?_
            refine AllReady.cons (o := { dst := none, op := Op.store 27 (Operand.tmp 34) (Operand.tmp 33), type := 0, pos := "drift.go:245", after := #[{ on := 6, ground := Ground.data }, { on := 5, ground := Ground.data }, { on := 5, ground := Ground.chain }, { on := 0, ground := Ground.phase }, { on := 1, ground := Ground.phase }, { on := 2, ground := Ground.phase }, { on := 3, ground := Ground.phase }, { on := 4, ground := Ground.phase }, { on := 5, ground := Ground.phase }], guard := none }) rfl ?_ ?_
            · intro K hK
              go_simp
              refine hK _ _ ?_
              clear hK K
              refine wpAny_done (by kernel_rfl) ?_ _
              exact ⟨HX.out.1, HX.out.2.1, _, by rw [List.map_append, List.map_cons, List.map_nil, ← HROW.out]; exact HN.out, HX.out.2.2.1, HX.out.2.2.2⟩
            exact AllReady.nil
          exact AllReady.nil
        exact AllReady.nil
      exact AllReady.nil
    exact AllReady.nil
  case done =>
    rintro D xs W hD rfl ⟨vC, hM, hbp, hbs⟩ hK
    rw [show (bw C.length C.length (Nat.le_refl _)).map (fun x => C.getD x.1 []) = C.reverse from by rw [bw_rev C [] (fun r => r), List.map_id']] at hM
    have HM9 := Aside0.mk hM
    have HBP := Aside0.mk hbp
    have HK := Aside0.mk hK
    have e2 := blk_cell hbp 2
    simp only [List.getElem?_toArray, List.getElem?_cons_zero, List.getElem?_cons_succ] at e2
    clear hM hbp hbs hK
    gi_wp2_with fail
    refine ⟨trivial, ?_⟩
    refine (back44_in 4 A2 L.length c2 _).mono ?_
    rintro e W5 ⟨rfl, rfl⟩
    gi_wp2
    obtain ⟨Bs2, hBs2⟩ : ∃ Bs2, Bs2 = W.heap.size := ⟨_, rfl⟩
    rw [← hBs2]
    obtain ⟨uf, huA, huc, huf⟩ := lists_vf h2
    obtain ⟨W9, hW9⟩ : ∃ W9, W9 = W.alloc (.cells #[.slice A2 L.length c2] 28) := ⟨_, rfl⟩
    have hbs9 : W9.heap[Bs2]? = some (.cells #[.slice A2 L.length c2] 28 (0, 0)) := by rw [hW9, hBs2]; exact blk_new _ _
    have hbp9 : W9.heap[bp]? = some (.cells #[.slice A0 3 c0, .slice A1 C.length c1, .slice A2 L.length c2] 30 (0, 0)) := by rw [hW9]; exact blk_alloc HBP.out _
    have B9 : Below w.heap.size w W9 := by rw [hW9]; exact below_alloc HM9.out.bel _
    have hK9 : W9.heap[D]? = some (.deferred (some [])) := by rw [hW9]; exact (Below.heap_alloc W _ D (Array.getElem?_eq_some_iff.1 HK.out).1).trans HK.out
    have hBs9 : Bs2 < W9.heap.size := by rw [hW9, World.size_alloc]; omega
    have M9 : MQ w gr gw gp cp (.cells #[.slice none 0 0, .slice none 0 0, .slice none 0 0] 30 (0, 0)) [some Bs2, some Bs, some bp] C.reverse [] vC (.slice none 0 0) W9 := by rw [hW9, hBs2]; exact HM9.out.new _
    have hD9 : D < W9.heap.size := (Array.getElem?_eq_some_iff.1 hK9).1
    rw [← hW9]
    clear hBs2 hW9 e2
    refine wpIn_rangeFunc_ownF (n := 5) rfl (by omega) (gf := 64) (lb := #[.pointer (some ⟨Bs2, 0, none⟩)]) rfl trivial (enters_of Try.func64 (by kernel_rfl) rfl)
      (back64_stops 4 (by omega) Bs2 w.heap.size A2 L.length c2 uf (by have := h.ll; have := h.cl; omega) huA W9 (below_size B9) hBs9 ((blk_cell hbs9 0).trans rfl) (fun j ad hj hA => ?c2))
      (fun h k => KB.trans h k) (KB.put (below_size B9) hBs9) (Below.refl _ _) (fun _ => rfl)
      (fun pre W' => ∃ vL, MQ w gr gw gp cp (.cells #[.slice none 0 0, .slice none 0 0, .slice none 0 0] 30 (0, 0)) [some Bs2, some Bs, some bp] C.reverse (pre.map (fun x => (L.getD x.1 []).map swp)) vC vL W' ∧ W'.heap[bp]? = some (.cells #[.slice A0 3 c0, .slice A1 C.length c1, .slice A2 L.length c2] 30 (0, 0)) ∧ W'.heap[Bs2]? = some (.cells #[.slice A2 L.length c2] 28 (0, 0)) ∧ W'.heap[D]? = some (.deferred (some [])))
      (fun _ _ _ => False) ?hI2 (fun _ _ _ _ _ hs _ _ => hs) ⟨_, M9, hbp9, hbs9, hK9⟩
      (fun x => { tmps := #[Value.agg #[Value.slice A0 3 c0, Value.slice A1 C.length c1, Value.slice A2 L.length c2], Value.pointer (some { block := bp, off := 0 }), Value.pointer (some { block := gr, off := 0 }), Value.int IntKind.i64 0, Value.int IntKind.i64 0, Value.pointer (some { block := gw, off := 0 }), undef, undef, undef, (uf x.1), undef, undef, undef, Value.agg #[Value.slice A0 3 c0, Value.slice A1 C.length c1, Value.slice A2 L.length c2], Value.int IntKind.i64 0, Value.int IntKind.i64 0, Value.bool false, undef, undef, Value.pointer (some { block := bp, off := 0 }), Value.slice A0 3 c0, Value.slice (some { block := gp, off := 0 }) 3 cp, Value.agg #[Value.slice (some { block := gp, off := 0 }) 3 cp, Value.slice none 0 0, Value.slice none 0 0], Value.pointer (some { block := bp, off := 1 }), Value.slice A1 C.length c1, Value.func (Fn.func 63) #[] #[Value.pointer (some { block := Bs, off := 0 })], undef, undef, undef, undef, undef, undef, undef, undef, undef, Value.pointer (some { block := bp, off := 2 }), Value.slice A2 L.length c2, Value.func (Fn.func 64) #[] #[Value.pointer (some { block := Bs2, off := 0 })], Value.int .i64 (x.1 : Nat), (uf x.1), undef, undef, undef, undef, undef, undef, undef, undef, undef, undef, undef, undef, undef, undef, undef, undef, undef, undef, undef, undef, undef, undef], defers := [] }) ?assign2 ?body2 ?done2 ?stop2
    case c2 => exact (B9.cell (by obtain ⟨ad', hA', hlt⟩ := huA j hj; rw [hA] at hA'; rw [add_blk, Option.some.inj hA']; exact hlt)).trans (huc j ad hj hA)
    case hI2 =>
      rintro pre X Y row ⟨vL, hM, hb, hs, hd⟩ hg hr
      refine ⟨vL, hM.turn rfl hg (fun r e => ⟨by have := (hr r e).1; have := below_size B9; omega, (hr r e).2⟩), ?_, ?_, ?_⟩
      · refine (hg.block _ (Array.getElem?_eq_some_iff.1 hb).1 (fun e => ?_)).trans hb
        exact Cl.grown (B := Y) ⟨_, _, _, hb⟩ (fun r e => (hr r e).2) e
      · refine (hg.block _ (Array.getElem?_eq_some_iff.1 hs).1 (fun e => ?_)).trans hs
        exact Cl.grown (B := Y) ⟨_, _, _, hs⟩ (fun r e => (hr r e).2) e
      · refine (hg.block _ (Array.getElem?_eq_some_iff.1 hd).1 (fun e => ?_)).trans hd
        have := (hr D e.symm).1
        omega
    case assign2 =>
      intro l x W K hK
      gi_wp2
      exact hK
    case stop2 =>
      rintro D c pre W hD _ hx _
      exact hx.elim
    case body2 =>
      rintro l pre x W2 ⟨vL, hM, hb, hs, hd⟩ hlen
      obtain ⟨B0, cc, hv, hcl, hCc⟩ := huf x.1 x.2
      rw [hv]
      obtain ⟨row, hrow⟩ : ∃ row, row = L.getD x.1 [] := ⟨_, rfl⟩
      rw [← hrow] at hcl hCc ⊢
      have HROW := Aside0.mk hrow
      have hrl : row.length ≤ 12 := by rw [hrow]; exact (h.ln x.1 x.2).2
      clear hrow
      have HMb := Aside0.mk hM
      have HB2 := Aside0.mk hb
      have HS2 := Aside0.mk hs
      have HD2 := Aside0.mk hd
      have HV := Aside0.mk hCc
      have PLN := Aside0.mk (show ((pre.map (fun x => (L.getD x.1 []).map swp)).length + 1) * 24 ≤ 140737488355328 by rw [List.length_map]; have := h.ll; have := h.cl; omega)
      clear hM hb hs hd hv hcl hCc
      gi_wp2
      gi_loopw [10, 42] (fun v10 v wr => ∃ k : Nat, k ≤ row.length ∧ v = .int .i64 k ∧ Aside0 (MQ w gr gw gp cp (.cells #[.slice none 0 0, .slice none 0 0, .slice none 0 0] 30 (0, 0)) (v10.ownBlock :: [some Bs2, some Bs, some bp]) C.reverse (pre.map (fun x => (L.getD x.1 []).map swp)) vC vL wr ∧ Kd.N k33 33 wr w.heap.size (Out (some gw :: some gr :: vC.ownBlock :: vL.ownBlock :: [some Bs2, some Bs, some bp])) v10 ((row.take k).map swp) ∧ Below W2.heap.size W2 wr ∧ ∀ q, v10.ownBlock = some q → W2.heap.size ≤ q)) (fun _ v _ => row.length - (intOf v).toNat)
      case atStart => exact ⟨0, Nat.zero_le _, rfl, ⟨HMb.out.nil, Kd.N_nil _ _ _ _ _, Below.refl _ _, fun q hq => by cases hq⟩⟩
      case round =>
        obtain ⟨k, hk, rfl, HJ⟩ := hrel
        by_cases hlt : k < row.length
        · obtain ⟨a0, rfl, h00, h01⟩ := at_T33 (Kd.C_below (Kd.C_below HV.out HMb.out.bel) HJ.out.2.2.1) (k : Int) (by omega) (by omega)
          rw [Int.toNat_natCast] at h00 h01
          rw [rdT] at h00 h01
          obtain ⟨y, hy⟩ : ∃ y, y = row.getD k z33 := ⟨_, rfl⟩
          rw [← hy] at h00 h01
          have HY := Aside0.mk hy
          clear hy
          obtain ⟨A5, N5, c5, rfl⟩ := N_val3 HJ.out.2.1
          have MA := Aside0.mk (fun (o : Obj) => HJ.out.1.later (below_alloc (Below.refl _ _) o))
          have NA := Aside0.mk (fun (o : Obj) => Kd.N_alloc HJ.out.2.1 o)
          have FA := Aside0.mk (show ∀ (o : Obj) q, (wr.alloc o).heap.size ≤ q → Out (some gw :: some gr :: vC.ownBlock :: vL.ownBlock :: [some Bs2, some Bs, some bp]) q from fun o q hq => rev_back HJ.out.1.drop q (by rw [World.size_alloc] at hq; omega))
          have PL5 := Aside0.mk (show (((row.take k).map swp).length + 1) * 16 ≤ 140737488355328 by rw [List.length_map, List.length_take]; omega)
          have hsz := Aside0.mk (show ∀ o : Obj, (wr.alloc o).heap.size = wr.heap.size + 1 from fun o => World.size_alloc _ _)
          gi_wp2_with ((with_reducible refine gateIn_builtin (b := .append) (xs := #[.tmp 46, .tmp 52]) rfl ?_); gi_at_builtin; refine listIn_step (fun c hc => (by cases hc)) rfl ?_; refine Kd.N_append_step k33 (W := wr.alloc (.cells #[.int .i64 y.f0, .int .i64 y.f1] 33)) (w0 := w) w.heap.size ?_ (.tmp 46) (.tmp 52) 34 33 (.agg #[.int .i64 0, .int .i64 0]) 16 ?_ ?_ ?_ ?_ ?_ ?_ (.slice A5 N5 c5) ((row.take k).map swp) (swp y) [.int .i64 y.f1, .int .i64 y.f0] (Out (some gw :: some gr :: vC.ownBlock :: vL.ownBlock :: [some Bs2, some Bs, some bp])) (fun _ => False) ?_ ?_ ?_ ?_ ?_ ?_ ?_ ?_ ?_ ?_; exact rfl; exact rfl; exact Try.underlying34; exact info33; exact rfl; decide; omega; exact rfl; rw [hsz.out]; exact rfl; exact k33_mkF _ _ _; exact fun _ hk => hk.elim; exact FA.out _; exact NA.out _; exact (MA.out _).bel; exact (MA.out _).bel.size; exact PL5.out; intro v1 w2 hN hB hg hat; have HN := Aside0.mk (And.intro ((MA.out _).grown hg hB hat (Kd.N_lt hN)) (And.intro hN (And.intro ((below_step HJ.out.2.2.1 (below_alloc (Below.refl _ _) _)).grown hg (by rw [hsz.out]; have := HJ.out.2.2.1.size; omega) HJ.out.2.2.2) (rev_own hat HJ.out.2.2.2 (by rw [hsz.out]; have := HJ.out.2.2.1.size; omega))))); clear hN hB hg hat)
          go_roundw
          case rel => exact ⟨k + 1, by omega, by go_num, by rw [← take_swp row k hlt, ← HY.out]; exact HN⟩
          case measure => simp [intOf]; omega
        · obtain rfl : k = row.length := by omega
          have HMd := Aside0.mk HJ.out.1.drop
          have PB := Aside0.mk HJ.out.2.2.1
          have hJ2 := HJ.out.2.1
          rw [List.take_length] at hJ2
          obtain ⟨A8, N8, c8, rfl⟩ := N_val3 hJ2
          obtain ⟨AL, NL, cL, rfl⟩ := N_val3 HMb.out.L
          have hbk := HMd.out.box
          have e2 := blk_cell hbk 2
          simp only [List.getElem?_toArray, List.getElem?_cons_zero, List.getElem?_cons_succ] at e2
          have PK := Aside0.mk (show Kd.FK (Kd.slice 33 k33) wr (Out (some gw :: some gr :: vC.ownBlock :: (Value.slice AL NL cL).ownBlock :: [some Bs2, some Bs, some bp])) (row.map swp) [.slice A8 N8 c8] from by
            obtain ⟨h1, h2, -⟩ := Kd.N_reads' hJ2
            subst h1
            exact Kd.FK_slice_mk h2 (Kd.N_F hJ2))
          have PF := Aside0.mk (rev_freshL HMd.out)
          clear hbk hJ2
          gi_wp2_with ((with_reducible refine gateIn_builtin (b := .append) (xs := #[.tmp 56, .tmp 58]) rfl ?_); gi_at_builtin; refine listIn_step (fun c hc => (by cases hc)) rfl ?_; refine Kd.N_append_step (Kd.slice 33 k33) (W := wr) (w0 := w) w.heap.size ?_ (.tmp 56) (.tmp 58) 28 34 (.slice none 0 0) 24 ?_ ?_ ?_ ?_ ?_ ?_ (.slice AL NL cL) (pre.map (fun x => (L.getD x.1 []).map swp)) (row.map swp) [.slice A8 N8 c8] (Out (some gw :: some gr :: vC.ownBlock :: [some Bs2, some Bs, some bp])) (Out (some gw :: some gr :: vC.ownBlock :: (Value.slice AL NL cL).ownBlock :: [some Bs2, some Bs, some bp])) ?_ ?_ ?_ ?_ ?_ ?_ ?_ ?_ ?_ ?_; exact rfl; exact rfl; exact Try.underlying28; exact info34; exact rfl; decide; omega; exact rfl; exact rfl; exact PK.out; exact PF.out.1; exact PF.out.2; exact HMd.out.L; exact HMd.out.bel; exact HMd.out.bel.size; exact PLN.out; intro v1 w2 hN hB hg hat; obtain ⟨A1', N1', c1', rfl⟩ := N_val3 hN; have HN := Aside0.mk (HMd.out.stepL hN hB hg hat); have HX := Aside0.mk (rev_closeL HMb.out (Bs := Bs2) (bp := bp) (by simp) (by simp) PB.out hg HB2.out HS2.out (.slice A1' N1' c1')); have hbk := (HMd.out.keepL hg).1; have f1 := blk_cell hbk 2; have f2 := blk_frozen hbk 2; simp only [List.getElem?_toArray, List.getElem?_cons_zero, List.getElem?_cons_succ] at f1; clear hN hB hg hat hbk)
          exact ⟨HX.out.1, HX.out.2.1, _, by rw [List.map_append, List.map_cons, List.map_nil, ← HROW.out]; exact HN.out, HX.out.2.2.1, HX.out.2.2.2, HX.out.1.same D _ HD2.out rfl⟩
    case done2 =>
      rintro D2 xs W3 hD2 rfl ⟨vL, hM, hb, hs, hd1⟩ hd2
      rw [show (bw L.length L.length (Nat.le_refl _)).map (fun x => (L.getD x.1 []).map swp) = revL L from bw_rev L [] (fun r => r.map swp)] at hM
      obtain ⟨AC, NC, cC, rfl⟩ := N_val3 hM.C
      obtain ⟨AL, NL, cL, rfl⟩ := N_val3 hM.L
      have RC := Aside0.mk (Kd.N_reads' hM.C)
      have RL := Aside0.mk (Kd.N_reads' hM.L)
      have HMz := Aside0.mk hM
      have HD1 := Aside0.mk hd1
      have HD2 := Aside0.mk hd2
      have HDD := Aside0.mk (show D < D2 ∧ w.heap.size ≤ D from ⟨by omega, by have := below_size B7; omega⟩)
      have hbk := hM.box
      have e0 := blk_cell hbk 0
      have e1 := blk_cell hbk 1
      have e2 := blk_cell hbk 2
      have q0 := hM.res
      have r0 := blk_cell q0 0
      have g0 := blk_frozen q0 0
      have q1 := blk_put q0 0 (Value.slice (some ⟨gp, 0, none⟩) 3 cp) rfl
      have r1 := blk_cell q1 1
      have g1 := blk_frozen q1 1
      have q2 := blk_put q1 1 (Value.slice AC NC cC) rfl
      have r2 := blk_cell q2 2
      have g2 := blk_frozen q2 2
      have q3 := blk_put q2 2 (Value.slice AL NL cL) rfl
      have H3 := Aside0.mk q3
      simp only [List.getElem?_toArray, List.getElem?_cons_zero, List.getElem?_cons_succ] at e0 e1 e2
      have r0' := r0.trans (show _ = some (Value.slice none 0 0) from rfl)
      have r1' := r1.trans (show _ = some (Value.slice none 0 0) from rfl)
      have r2' := r2.trans (show _ = some (Value.slice none 0 0) from rfl)
      clear hM hb hs hd1 hd2 hbk q0 q1 q2 q3 r0 r1 r2 hD2
      gi_wp2
      obtain ⟨Wz, hWz⟩ : ∃ Wz, Wz = ((W3.setCell ⟨gr, 0, none⟩ (.slice (some ⟨gp, 0, none⟩) 3 cp)).setCell ⟨gr, 1, none⟩ (.slice AC NC cC)).setCell ⟨gr, 2, none⟩ (.slice AL NL cL) := ⟨_, rfl⟩
      have kz : KeepsOthers W3 Wz := by rw [hWz]; exact ((KeepsOthers.setCell _ _ _).trans (KeepsOthers.setCell _ _ _)).trans (KeepsOthers.setCell _ _ _)
      have k2 := kz.same D2 _ HD2.out rfl
      have k1 := kz.same D _ HD1.out rfl
      have h3 : Wz.heap[gr]? = some (.cells #[.slice (some ⟨gp, 0, none⟩) 3 cp, .slice AC NC cC, .slice AL NL cL] 30 (0, 0)) := by rw [hWz]; exact H3.out
      have bz : Below w.heap.size w Wz := by rw [hWz]; exact below_set (below_set (below_set HMz.out.bel NE.out.2.2.2.2.2.2) NE.out.2.2.2.2.2.2) NE.out.2.2.2.2.2.2
      have pz : Kd.F (Kd.int .i64) Wz (Out (some gw :: some gr :: (Value.slice AC NC cC).ownBlock :: (Value.slice AL NL cL).ownBlock :: [some Bs2, some Bs, some bp])) (some ⟨gp, 0, none⟩) 3 [2, 3, 5] := by
        rw [hWz]
        exact foot_set (foot_set (foot_set HMz.out.p _ _ (by simp)) _ _ (by simp)) _ _ (by simp)
      have Cz : Kd.N (Kd.slice 25 (Kd.slice 3 (Kd.int .i64))) 31 Wz w.heap.size (Out (some gw :: some gr :: (Value.slice AL NL cL).ownBlock :: [some Bs2, some Bs, some bp])) (.slice AC NC cC) C.reverse := by
        rw [hWz]
        exact Kd.N_far (Kd.N_far (Kd.N_far HMz.out.C (fun k hk e => hk (by rw [e]; simp)) _) (fun k hk e => hk (by rw [e]; simp)) _) (fun k hk e => hk (by rw [e]; simp)) _
      have Lz : Kd.N (Kd.slice 33 k33) 34 Wz w.heap.size (Out (some gw :: some gr :: (Value.slice AC NC cC).ownBlock :: [some Bs2, some Bs, some bp])) (.slice AL NL cL) (revL L) := by
        rw [hWz]
        exact Kd.N_far (Kd.N_far (Kd.N_far HMz.out.L (fun k hk e => hk (by rw [e]; simp)) _) (fun k hk e => hk (by rw [e]; simp)) _) (fun k hk e => hk (by rw [e]; simp)) _
      rw [← hWz]
      clear hWz
      have n2 : gr ≠ D2 := fun e => by rw [e, k2] at h3; cases h3
      have n1 : gr ≠ D := fun e => by rw [e, k1] at h3; cases h3
      have hlt2 : w.heap.size ≤ D2 := by have := HDD.out; omega
      have t2 := rev_put k2 hlt2 bz pz Cz Lz
      have k1' : (Wz.putObj D2 (.deferred none)).heap[D]? = some (.deferred (some [])) := (World.putObj_heap_other (by have := HDD.out; omega)).trans k1
      have t1 := rev_put k1' HDD.out.2 t2.1 t2.2.1 t2.2.2.1 t2.2.2.2
      have h4 : ((Wz.putObj D2 (.deferred none)).putObj D (.deferred none)).heap[gr]? = some (.cells #[.slice (some ⟨gp, 0, none⟩) 3 cp, .slice AC NC cC, .slice AL NL cL] 30 (0, 0)) := (World.putObj_heap_other n1).trans ((World.putObj_heap_other n2).trans h3)
      refine ⟨by simp, .inl ⟨_, _, rfl, run_takeDeferred k2, ?_⟩⟩
      refine ⟨by simp, .inl ⟨_, _, rfl, run_takeDeferred k1', ?_⟩⟩
      obtain ⟨hn1, hc1, hC⟩ := Kd.N_reads' t1.2.2.1
      obtain ⟨hn2, hc2, hL⟩ := Kd.N_reads' t1.2.2.2
      refine ⟨_, results_ct rfl _ _ gr 30 #[.slice (some ⟨gp, 0, none⟩) 3 cp, .slice AC NC cC, .slice AL NL cL] (0, 0) _ rfl h4 Try.underlying30 rfl (by kernel_rfl), gp, cp, AC, cC, AL, cL, ?_, t1.1, Kd.F_now t1.2.1, R4.out.2.1, ?_, ?_, ?_, ?_⟩
      · rw [hn1, hn2, List.length_reverse, revL_len]
        rfl
      · rw [List.length_reverse] at hC
        exact hC
      · rw [hn1, List.length_reverse] at hc1
        exact hc1
      · rw [revL_len] at hL
        exact hL
      · rw [hn2, revL_len] at hc2
        exact hc2
  case stop =>
    rintro D c pre W hD _ hx _
    exact hx.elim
end Go.Proofs.Ytdcpmggjhmdmmaa.X

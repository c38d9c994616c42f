-- what is used of it (wip/tools/slim.py)
/- Words for walks by hand. -/
import Derived.Test.YtdcpmggjhmdmmaaJXx
namespace Go.Proofs.Ytdcpmggjhmdmmaa.X
open Go.RowKit Go.Proofs.YtdcpmggjhmdmmaaW.PrintWords Go.Proofs.YtdcpmggjhmdmmaaW.PrintLast Go.Proofs.YtdcpmggjhmdmmaaW.PrintMore
/-- the blocks that are none of S -/
def Out (S : List (Option Nat)) (k : Nat) : Prop := some k ∉ S
section
variable {α : Type} {d : Kd α} {W W1 : World} {S T : List (Option Nat)} {A : Option Addr} {n : Nat} {xs : List α} {b b1 : Option Nat}
/-- a write into one of S; its row may be a new one behind it -/
theorem foot_swap {P : World → Prop} (h : Foot P W (Out S)) (hg : W.grownBy W1 b) (hb : b ∈ S ∨ b = none) (hat : b1 = b ∨ ∃ q, b1 = some q ∧ W.heap.size ≤ q)
    (hT' : ∀ x ∈ T, x ∈ S ∨ x = b1) : Foot P W1 (Out T) := by
  intro W' hW'
  refine (h.bound) W' (fun k hk hlt => ?_)
  have hne : some k ≠ b := by
    rintro rfl
    rcases hb with hb | hb
    · exact hk.1 hb
    · cases hb
  have hs := hg.block k hlt hne
  have h1 : k < W1.heap.size := heap_lt hs hlt
  refine (hW' k ?_ h1).trans hs
  intro hm
  rcases hT' _ hm with h' | h'
  · exact hk.1 h'
  · rcases hat with e | ⟨q, e, hq⟩
    · exact hne (h'.trans e)
    · rw [e] at h'
      injection h' with h'
      omega
/-- behind a store into a block of S -/
theorem foot_set {P : World → Prop} (h : Foot P W (Out S)) (p : Addr) (v : Value) (hp : some p.block ∈ S) : Foot P (W.setCell p v) (Out S) :=
  h.step (fun k hk _ => Below.heap_setCell W p v k (fun e => hk (e ▸ hp)))
theorem foot_below {P : World → Prop} (h : Foot P W (Out S)) (hb : Below W.heap.size W W1) : Foot P W1 (Out S) := h.step (fun k _ hlt => hb.block k hlt)
/-- a literal's row, in a block that is known -/
theorem F_lit (hd : d.sz = 1) {ok : Nat → Prop} {g e : Nat} {cells : Array Value} (hW : W.heap[g]? = some (.cells cells e (0, 0))) (hok : ok g) (hm : xs.length ≤ 9223372036854775807)
    (hel : ∀ (j : Nat) (x : α), xs[j]? = some x → ∃ u, cells[j]? = some u ∧ Kd.FK d W ok x [u]) : Kd.F d W ok (some ⟨g, 0, none⟩) xs.length xs := by
  have hlt : g < W.heap.size := (Array.getElem?_eq_some_iff.1 hW).1
  intro W' hW'
  refine ⟨rfl, hm, fun _ => ⟨_, rfl, fun j x hj => ?_⟩⟩
  obtain ⟨u, hu, hF⟩ := hel j x hj
  refine ⟨[u], hd.symm, hF W' hW', fun i v hv => ?_⟩
  match i, hv with
  | 0, hv =>
    obtain rfl : u = v := by simpa using hv
    have hb : W'.heap[g]? = some (.cells cells e (0, 0)) := (hW' g hok hlt).trans hW
    rw [hd, Nat.mul_one, Nat.add_zero]
    have := blk_cell hb j
    rw [hu] at this
    by_cases hj0 : j = 0
    · subst hj0; exact this
    · rw [show (Addr.add ⟨g, 0, none⟩ j) = ⟨g, j, none⟩ from by simp [Addr.add, hj0]]; exact this
  | i + 1, hv => simp at hv
theorem FK_int {ok : Nat → Prop} (x : Int) : Kd.FK (Kd.int .i64) W ok x [.int .i64 x] := fun _ _ => rfl
end
def ch (x : List Int) : List (List Int) := [[0, 0], x]
def wC (x : List Int) (i : Nat) : List (List (List Int)) := List.replicate i (ch x)
theorem wC_snoc (x : List Int) (i : Nat) : wC x i ++ [ch x] = wC x (i + 1) := by unfold wC; rw [List.replicate_succ']
structure St (w1 : World) (gw gp gx : Nat) (x0 x1 : Int) (nC nL : Nat) (vC vL : Value) (wr : World) : Prop where
  bel : Below w1.heap.size w1 wr
  le : w1.heap.size ≤ gw
  box : wr.heap[gw]? = some (.cells #[.slice (some ⟨gp, 0, none⟩) 2 2, vC, vL] 30 (0, 0))
  C : Kd.N (Kd.slice 25 (Kd.slice 3 (Kd.int .i64))) 31 wr w1.heap.size (Out [some gw, vL.ownBlock]) vC (wC [x0, x1] nC)
  L : Kd.N (Kd.slice 33 k33) 34 wr w1.heap.size (Out [some gw, vC.ownBlock]) vL (List.replicate nL [⟨1, 0⟩])
  x : Kd.F (Kd.int .i64) wr (Out [some gw, vC.ownBlock, vL.ownBlock]) (some ⟨gx, 0, none⟩) [x0, x1].length [x0, x1]
  p : Kd.F (Kd.int .i64) wr (Out [some gw, vC.ownBlock, vL.ownBlock]) (some ⟨gp, 0, none⟩) [(2 : Int), 3].length [2, 3]
theorem ne_own {α : Type} {d : Kd α} {e base : Nat} {ok : Nat → Prop} {w : World} {v : Value} {xs : List α} (h : Kd.N d e w base ok v xs) (k : Nat) (hk : w.heap.size ≤ k) : some k ≠ v.ownBlock := fun e1 => by
  have := Kd.N_lt h k e1.symm
  omega
theorem own_ne {α : Type} {d : Kd α} {e base : Nat} {S : List (Option Nat)} {w : World} {v : Value} {xs : List α} (h : Kd.N d e w base (Out S) v xs) (b : Option Nat) (hb : b ∈ S) : v.ownBlock = b → b = none := fun e1 => by
  cases hv : v.ownBlock with
  | none => rw [← e1, hv]
  | some k => exact absurd (by rw [← hv, e1]; exact hb) (h.1 k hv)
/-- behind an append to another row -/
theorem N_swap {α : Type} {d : Kd α} {e base : Nat} {S T : List (Option Nat)} {W W1 : World} {v : Value} {xs : List α} {b b1 : Option Nat} (h : Kd.N d e W base (Out S) v xs) (hg : W.grownBy W1 b) (hb : b ∈ S ∨ b = none) (hat : b1 = b ∨ ∃ q, b1 = some q ∧ W.heap.size ≤ q)
    (hT' : ∀ x ∈ T, x ∈ S ∨ x = b1) : Kd.N d e W1 base (Out T) v xs := by
  have h2 := Kd.N_bound h
  refine Kd.N_mono (Kd.N_step h2 (fun k hk hlt => hg.block k hlt ?_)) ?_
  · rintro rfl
    rcases hb with hb | hb
    · exact hk.1 hb
    · cases hb
  · intro k hk hm
    rcases hT' _ hm with h' | h'
    · exact hk.1 h'
    · rcases hat with e1 | ⟨q, e1, hq⟩
      · rw [← h'] at e1
        rcases hb with hb | hb
        · exact hk.1 (e1 ▸ hb)
        · rw [hb] at e1; cases e1
      · rw [e1] at h'
        injection h' with h'
        have := hk.2
        omega
section
variable {w1 wr w2 : World} {gw gp gx nC nL : Nat} {x0 x1 : Int} {vC vL v1 : Value}
theorem St.lt (h : St w1 gw gp gx x0 x1 nC nL vC vL wr) : gw < wr.heap.size := (Array.getElem?_eq_some_iff.1 h.box).1
theorem St.alloc (h : St w1 gw gp gx x0 x1 nC nL vC vL wr) (o : Obj) : St w1 gw gp gx x0 x1 nC nL vC vL (wr.alloc o) :=
  ⟨below_alloc h.bel o, h.le, blk_alloc h.box o, Kd.N_alloc h.C o, Kd.N_alloc h.L o, Kd.F_alloc h.x o, Kd.F_alloc h.p o⟩
theorem St.boxC (h : St w1 gw gp gx x0 x1 nC nL vC vL wr) (hg : wr.grownBy w2 vC.ownBlock) : w2.heap[gw]? = some (.cells #[.slice (some ⟨gp, 0, none⟩) 2 2, vC, vL] 30 (0, 0)) :=
  (hg.block gw h.lt (fun e => by have := own_ne h.L (some gw) (by simp); exact absurd (own_ne h.C (some gw) (by simp) e.symm) (by simp))).trans h.box
theorem St.boxL (h : St w1 gw gp gx x0 x1 nC nL vC vL wr) (hg : wr.grownBy w2 vL.ownBlock) : w2.heap[gw]? = some (.cells #[.slice (some ⟨gp, 0, none⟩) 2 2, vC, vL] 30 (0, 0)) :=
  (hg.block gw h.lt (fun e => absurd (own_ne h.L (some gw) (by simp) e.symm) (by simp))).trans h.box
theorem St.stepC (h : St w1 gw gp gx x0 x1 nC nL vC vL wr) (hN : Kd.N (Kd.slice 25 (Kd.slice 3 (Kd.int .i64))) 31 w2 w1.heap.size (Out [some gw, vL.ownBlock]) v1 (wC [x0, x1] nC ++ [ch [x0, x1]])) (hB : Below w1.heap.size w1 w2) (hg : wr.grownBy w2 vC.ownBlock) (hat : v1.ownBlock = vC.ownBlock ∨ ∃ b, v1.ownBlock = some b ∧ wr.heap.size ≤ b) :
    St w1 gw gp gx x0 x1 (nC + 1) nL v1 vL (w2.setCell ⟨gw, 1, none⟩ v1) := by
  refine ⟨below_set hB h.le, h.le, blk_put (h.boxC hg) 1 v1 rfl, ?_, ?_, ?_, ?_⟩
  · rw [← wC_snoc]
    exact Kd.N_far hN (fun k hk e => hk (by rw [e]; simp)) v1
  · exact Kd.N_far (N_swap (T := [some gw, v1.ownBlock]) h.L hg (.inl (by simp)) hat (by intro x hx; simp only [List.mem_cons, List.not_mem_nil, or_false] at hx ⊢; rcases hx with rfl | rfl <;> simp)) (fun k hk e => hk (by rw [e]; simp)) v1
  · exact foot_set (foot_swap (T := [some gw, v1.ownBlock, vL.ownBlock]) h.x hg (.inl (by simp)) hat (by intro x hx; simp only [List.mem_cons, List.not_mem_nil, or_false] at hx ⊢; rcases hx with rfl | rfl | rfl <;> simp)) _ _ (by simp)
  · exact foot_set (foot_swap (T := [some gw, v1.ownBlock, vL.ownBlock]) h.p hg (.inl (by simp)) hat (by intro x hx; simp only [List.mem_cons, List.not_mem_nil, or_false] at hx ⊢; rcases hx with rfl | rfl | rfl <;> simp)) _ _ (by simp)
theorem St.stepL (h : St w1 gw gp gx x0 x1 nC nL vC vL wr) (hN : Kd.N (Kd.slice 33 k33) 34 w2 w1.heap.size (Out [some gw, vC.ownBlock]) v1 (List.replicate nL [⟨1, 0⟩] ++ [[⟨1, 0⟩]])) (hB : Below w1.heap.size w1 w2) (hg : wr.grownBy w2 vL.ownBlock) (hat : v1.ownBlock = vL.ownBlock ∨ ∃ b, v1.ownBlock = some b ∧ wr.heap.size ≤ b) :
    St w1 gw gp gx x0 x1 nC (nL + 1) vC v1 (w2.setCell ⟨gw, 2, none⟩ v1) := by
  refine ⟨below_set hB h.le, h.le, blk_put (h.boxL hg) 2 v1 rfl, ?_, ?_, ?_, ?_⟩
  · exact Kd.N_far (N_swap (T := [some gw, v1.ownBlock]) h.C hg (.inl (by simp)) hat (by intro x hx; simp only [List.mem_cons, List.not_mem_nil, or_false] at hx ⊢; rcases hx with rfl | rfl <;> simp)) (fun k hk e => hk (by rw [e]; simp)) v1
  · rw [List.replicate_succ']
    exact Kd.N_far hN (fun k hk e => hk (by rw [e]; simp)) v1
  · exact foot_set (foot_swap (T := [some gw, vC.ownBlock, v1.ownBlock]) h.x hg (.inl (by simp)) hat (by intro x hx; simp only [List.mem_cons, List.not_mem_nil, or_false] at hx ⊢; rcases hx with rfl | rfl | rfl <;> simp)) _ _ (by simp)
  · exact foot_set (foot_swap (T := [some gw, vC.ownBlock, v1.ownBlock]) h.p hg (.inl (by simp)) hat (by intro x hx; simp only [List.mem_cons, List.not_mem_nil, or_false] at hx ⊢; rcases hx with rfl | rfl | rfl <;> simp)) _ _ (by simp)
end
theorem N_val3 {α : Type} {d : Kd α} {e base : Nat} {ok : Nat → Prop} {w : World} {v : Value} {xs : List α} (h : Kd.N d e w base ok v xs) : ∃ A N c, v = .slice A N c := by
  obtain ⟨A, c, e1⟩ := Kd.N_slice h
  exact ⟨A, _, c, e1⟩
end Go.Proofs.Ytdcpmggjhmdmmaa.X

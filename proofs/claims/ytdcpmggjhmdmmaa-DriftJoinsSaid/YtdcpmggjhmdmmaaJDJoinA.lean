-- what is used of it (wip/tools/slim.py)
/- The second walk takes the last chord of the first: the writes. -/
import Derived.Test.YtdcpmggjhmdmmaaJDJoinW
namespace Go.Proofs.Ytdcpmggjhmdmmaa.X
open Go.RowKit Go.Proofs.YtdcpmggjhmdmmaaW.PrintWords Go.Proofs.YtdcpmggjhmdmmaaW.PrintLast Go.Proofs.YtdcpmggjhmdmmaaW.PrintMore
set_option linter.unusedVariables false
theorem cs_same {w : World} {a : Addr} {u : Value} (h : w.cell? a = some u) (v : Value) : (w.setCell a v).cell? a = some v := World.cell?_setCell_same w a v h
theorem cs_other {w : World} {a b : Addr} (h : a ≠ b) (v : Value) : (w.setCell a v).cell? b = w.cell? b := World.cell?_setCell_other w a b v h
/-- a chord is put at the head of a row of chords -/
theorem like_F {w : World} {base gC cC : Nat} {ok : Nat → Prop} {C : List (List (List Int))} {row : List (List Int)} {Al : Option Addr} {cl : Nat} (h : Kd.N dCh 31 w base ok (.slice (some ⟨gC, 0, none⟩) C.length cC) C) (h0 : 0 < C.length)
    (hr : Kd.FK dCh w (fun k => ok k ∧ k ≠ gC) row [.slice Al row.length cl]) :
    Kd.F (Kd.slice 25 (Kd.slice 3 (Kd.int .i64))) (w.setCell ⟨gC, 0, none⟩ (.slice Al row.length cl)) ok (some ⟨gC, 0, none⟩) C.length (row :: C.drop 1) := by
  obtain ⟨-, hmax, hC⟩ := Kd.N_reads' h
  obtain ⟨cells, hb⟩ := Kd.N_typed h gC rfl
  have hok := h.1 gC rfl
  have hlt := (Array.getElem?_eq_some_iff.1 hb).1
  have hput := blk_put hb 0 (.slice Al row.length cl) rfl
  have hlt' := (Array.getElem?_eq_some_iff.1 hput).1
  have c0 : (w.setCell ⟨gC, 0, none⟩ (.slice Al row.length cl)).cell? ⟨gC, 0, none⟩ = some (.slice Al row.length cl) := by
    obtain ⟨cs, hcl, -, hcell, -⟩ := Kd.N_elem h [] 0 (by omega) (by omega)
    cases cs with
    | nil => exact absurd hcl (by decide)
    | cons u cs => exact cs_same (hcell 0 u rfl) _
  intro W' hW'
  have far : ∀ k, (ok k ∧ k ≠ gC) → k < w.heap.size → W'.heap[k]? = w.heap[k]? := fun k hk hl => (hW' k hk.1 (by rw [set_size]; exact hl)).trans (Below.heap_setCell w ⟨gC, 0, none⟩ _ k hk.2)
  have here : ∀ i, W'.cell? ⟨gC, i, none⟩ = (w.setCell ⟨gC, 0, none⟩ (.slice Al row.length cl)).cell? ⟨gC, i, none⟩ := fun i => by
    have := hW' gC hok hlt'
    unfold World.cell?
    rw [this]
  refine ⟨by rw [List.length_cons, List.length_drop]; omega, hC.2.1, fun _ => ⟨_, rfl, fun j x hj => ?_⟩⟩
  cases j with
  | zero =>
    obtain rfl : row = x := by simpa using hj
    refine ⟨[.slice Al row.length cl], rfl, K_of_Ch (hr W' far), fun i u hi => ?_⟩
    cases i with
    | zero =>
      rw [List.getElem?_cons_zero] at hi
      obtain rfl := Option.some.inj hi
      rw [add_at]
      exact (here 0).trans c0
    | succ i => simp at hi
  | succ j =>
    rw [List.getElem?_cons_succ, List.getElem?_drop] at hj
    have hjl := (List.getElem?_eq_some_iff.1 hj).1
    obtain ⟨cs, hcl, hF, hcell, -⟩ := Kd.N_elem h [] ((1 + j : Nat) : Int) (by omega) (by omega)
    rw [Int.toNat_natCast] at hF hcell
    rw [show C.getD (1 + j) [] = x from by rw [List.getD_eq_getElem?_getD, hj]; rfl] at hF
    refine ⟨cs, hcl, K_of_Ch (hF W' far), fun i u hi => ?_⟩
    have h1 := hcell i u hi
    rw [show dCh.sz = 1 from rfl, Nat.mul_one] at h1
    rw [add_at, Nat.zero_add, show (Kd.slice 25 (Kd.slice 3 (Kd.int .i64))).sz = 1 from rfl, Nat.mul_one, here, Nat.add_comm j 1]
    rw [cs_other (fun e => by injection e with _ e; omega)]
    exact h1
/-- a link's first number is written -/
theorem k33_put {w : World} {g n : Nat} {xs : List S33} {cells : Array Value} (h : k33.C w (some ⟨g, 0, none⟩) n xs) (hb : w.heap[g]? = some (.cells cells 33 (0, 0))) {k : Nat} (hk : k < xs.length) (m : Int) :
    k33.C (w.setCell ⟨g, k * 2, none⟩ (.int .i64 m)) (some ⟨g, 0, none⟩) n (xs.set k ⟨m, (xs.getD k z33).f1⟩) := by
  refine ⟨by rw [List.length_set]; exact h.1, h.2.1, fun hn => ⟨_, rfl, fun j x hj => ?_⟩⟩
  obtain ⟨ad, hA, hel⟩ := h.2.2 hn
  obtain rfl := Option.some.inj hA
  have cel : ∀ j x, xs[j]? = some x → w.cell? ⟨g, j * 2, none⟩ = some (.int .i64 x.f0) ∧ w.cell? ⟨g, j * 2 + 1, none⟩ = some (.int .i64 x.f1) := fun j x hj => by
    obtain ⟨c, hl, hK, hc⟩ := hel j x hj
    obtain rfl := k33_open hK
    have h0 := hc 0 _ rfl
    have h1 := hc 1 _ rfl
    rw [add_at, Nat.zero_add] at h0 h1
    exact ⟨h0, h1⟩
  refine ⟨[.int .i64 x.f0, .int .i64 x.f1], rfl, k33_mk _ x, fun i u hi => ?_⟩
  rw [add_at, Nat.zero_add, show k33.sz = 2 from rfl]
  by_cases hjk : j = k
  · subst hjk
    rw [List.getElem?_set_self hk] at hj
    obtain rfl := Option.some.inj hj
    have hc := cel j _ (List.getElem?_eq_getElem hk)
    match i, hi with
    | 0, hi =>
      rw [List.getElem?_cons_zero] at hi
      obtain rfl := Option.some.inj hi
      exact cs_same hc.1 _
    | 1, hi =>
      rw [List.getElem?_cons_succ, List.getElem?_cons_zero] at hi
      obtain rfl := Option.some.inj hi
      rw [cs_other (fun e => by injection e with _ e; omega), hc.2]
      rw [List.getD_eq_getElem?_getD, List.getElem?_eq_getElem hk]
      rfl
    | i + 2, hi => simp at hi
  · rw [List.getElem?_set_ne (fun e => hjk e.symm)] at hj
    have hc := cel j _ hj
    match i, hi with
    | 0, hi =>
      rw [List.getElem?_cons_zero] at hi
      obtain rfl := Option.some.inj hi
      rw [cs_other (fun e => by injection e with _ e; omega)]
      exact hc.1
    | 1, hi =>
      rw [List.getElem?_cons_succ, List.getElem?_cons_zero] at hi
      obtain rfl := Option.some.inj hi
      rw [cs_other (fun e => by injection e with _ e; omega)]
      exact hc.2
    | i + 2, hi => simp at hi
/-- the list of links with the first list written anew -/
theorem like_L {w W : World} {base gL g0 cL : Nat} {ok : Nat → Prop} {l0 l : List S33} {r : List (List S33 × Nat)} (h : Kd.N dG 34 w base ok (.slice (some ⟨gL, 0, none⟩) ((l0, g0) :: r).length cL) ((l0, g0) :: r)) (hp : ((l0, g0) :: r).Pairwise (fun a b => a.2 < b.2))
    (hW : ∀ k, k ≠ g0 → W.heap[k]? = w.heap[k]?) (hl : l.length = l0.length) (hk : k33.C W (some ⟨g0, 0, none⟩) l.length l) :
    Kd.C (Kd.slice 33 k33) W (some ⟨gL, 0, none⟩) ((l0, g0) :: r).length (l :: r.map Prod.fst) := by
  obtain ⟨-, hmax, hC⟩ := Kd.N_reads' h
  obtain ⟨cells, hb⟩ := Kd.N_typed h gL rfl
  obtain ⟨cs0, hcl0, hF0, hcell0, -⟩ := Kd.N_elem h (([] : List S33), 0) 0 (by omega) (by simp)
  obtain ⟨c0, cells0, rfl, hlc, -, hb0⟩ := Kd.FK_now hF0
  have hne : gL ≠ g0 := typed_ne hb hb0 (by decide)
  have here : ∀ i, W.cell? ⟨gL, i, none⟩ = w.cell? ⟨gL, i, none⟩ := fun i => by
    have := hW gL hne
    unfold World.cell?
    rw [this]
  refine ⟨by simp, hC.2.1, fun _ => ⟨_, rfl, fun j x hj => ?_⟩⟩
  cases j with
  | zero =>
    obtain rfl : l = x := by simpa using hj
    refine ⟨[.slice (some ⟨g0, 0, none⟩) l.length c0], rfl, ⟨_, c0, rfl, by rw [hl]; exact hlc, hk⟩, fun i u hi => ?_⟩
    cases i with
    | zero =>
      rw [List.getElem?_cons_zero] at hi
      obtain rfl := Option.some.inj hi
      rw [add_at]
      refine (here 0).trans ?_
      rw [hl]
      exact hcell0 0 _ rfl
    | succ i => simp at hi
  | succ j =>
    rw [List.getElem?_cons_succ, List.getElem?_map] at hj
    cases hx : r[j]? with
    | none => rw [hx] at hj; cases hj
    | some y =>
      rw [hx] at hj
      obtain rfl := Option.some.inj hj
      have hjl := (List.getElem?_eq_some_iff.1 hx).1
      obtain ⟨cs, hcl, hF, hcell, -⟩ := Kd.N_elem h (([] : List S33), 0) ((j + 1 : Nat) : Int) (by omega) (by rw [List.length_cons]; omega)
      rw [Int.toNat_natCast] at hF hcell
      rw [show ((l0, g0) :: r).getD (j + 1) (([] : List S33), 0) = y from by rw [List.getD_cons_succ, List.getD_eq_getElem?_getD, hx]; rfl] at hF
      have hy : g0 < y.2 := List.rel_of_pairwise_cons hp (List.mem_of_getElem? hx)
      have hF' := FKG_not' (g := g0) (by omega) _ _ hF
      refine ⟨cs, hcl, K_of_G (hF' W (fun k hk _ => hW k hk.2)), fun i u hi => ?_⟩
      have h1 := hcell i u hi
      rw [show dG.sz = 1 from rfl, Nat.mul_one] at h1
      rw [add_at, Nat.zero_add, show (Kd.slice 33 k33).sz = 1 from rfl, Nat.mul_one, here]
      exact h1
/-- the first k links reduced -/
def redK (n : Nat) (l : List S33) (k : Nat) : List S33 := (l.take k).map (fun x => (⟨x.f0 % (n : Int), x.f1⟩ : S33)) ++ l.drop k
theorem redK_len (n : Nat) (l : List S33) (k : Nat) : (redK n l k).length = l.length := by simp [redK]; omega
theorem redK_zero (n : Nat) (l : List S33) : redK n l 0 = l := by simp [redK]
theorem redK_all (n : Nat) (l : List S33) : redK n l l.length = l.map (fun x => (⟨x.f0 % (n : Int), x.f1⟩ : S33)) := by simp [redK]
theorem redK_get (n : Nat) (l : List S33) (k : Nat) (hk : k < l.length) : (redK n l k).getD k z33 = l.getD k z33 := by
  unfold redK
  rw [List.getD_eq_getElem?_getD, List.getElem?_append_right (by simp; omega), List.getElem?_drop, List.getD_eq_getElem?_getD]
  simp only [List.length_map, List.length_take]
  rw [show k + (k - min k l.length) = k by omega]
theorem redK_set (n : Nat) (l : List S33) (k : Nat) (hk : k < l.length) : (redK n l k).set k ⟨(l.getD k z33).f0 % (n : Int), (l.getD k z33).f1⟩ = redK n l (k + 1) := by
  apply List.ext_getElem?
  intro j
  rcases Nat.lt_trichotomy j k with h | rfl | h
  · rw [List.getElem?_set_ne (by omega)]
    unfold redK
    rw [List.getElem?_append_left (by simp; omega), List.getElem?_append_left (by simp; omega), List.getElem?_map, List.getElem?_map, List.getElem?_take_of_lt h, List.getElem?_take_of_lt (by omega)]
  · rw [List.getElem?_set_self (by rw [redK_len]; exact hk)]
    unfold redK
    rw [List.getElem?_append_left (by simp; omega), List.getElem?_map, List.getElem?_take_of_lt (by omega), List.getElem?_eq_getElem hk, List.getD_eq_getElem?_getD, List.getElem?_eq_getElem hk]
    rfl
  · rw [List.getElem?_set_ne (by omega)]
    unfold redK
    rw [List.getElem?_append_right (by simp; omega), List.getElem?_append_right (by simp; omega), List.getElem?_drop, List.getElem?_drop]
    congr 1
    simp only [List.length_map, List.length_take]
    omega
end Go.Proofs.Ytdcpmggjhmdmmaa.X

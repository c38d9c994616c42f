-- what is used of it (wip/tools/slim.py)
/- The walk of the law DriftJoins: for any two plans it answers true. -/
import Derived.Test.YtdcpmggjhmdmmaaJDJoinA
import Derived.Test.YtdcpmggjhmdmmaaJDJoin
import Derived.Test.YtdcpmggjhmdmmaaJDClone
namespace Go.Proofs.Ytdcpmggjhmdmmaa.X
open Go.RowKit Go.Proofs.YtdcpmggjhmdmmaaW.PrintWords Go.Proofs.YtdcpmggjhmdmmaaW.PrintLast Go.Proofs.YtdcpmggjhmdmmaaW.PrintMore
set_option linter.unusedVariables false
attribute [local go_sem] max2_int min2_int max_two min_two   -- for this text's walks alone
theorem yields_load53 {a : Act} {o : Oper} {x : Operand} (ho : o.op = .load 53 x) {g : Nat} {cs : Array Value} (hx : a.eval x = .pointer (some ⟨g, 0, none⟩)) (hs : cs.size = 68) (w : World) (hg : w.heap[g]? = some (.cells cs 53 (0, 0))) :
    (execOp a.eval o).run Try.prog w = .ok (.value (.agg cs)) w := by
  have hi : (Try.prog.info? 53).map (·.size) = some cs.size := (show (Try.prog.info? 53).map (·.size) = some 68 from by kernel_rfl).trans (congrArg some hs.symm)
  unfold execOp
  simp only [ho, hx, Instr.loadAt, Instr.sureAddr, Sem.run_bind, Sem.run_pure, Result.andThen_ok, run_loadVar_row w g 53 53 cs (0, 0) _ hg Try.underlying53 rfl hi]
theorem step_alloc30 {ops : Array Oper} {o : Oper} {a : Act} {w : World} {K : Act → World → Prop} {Q : Exit → Act → World → Prop} {E : Prop} (d : Nat) (hg : o.guard = none) (hd : o.dst = some d) (ho : o.op = .alloc 30)
    (h : ∀ g w', g = w.heap.size → Below w.heap.size w w' → w'.heap[g]? = some (.cells #[.slice none 0 0, .slice none 0 0, .slice none 0 0] 30 (0, 0)) → K (a.put o.dst (.pointer (some ⟨g, 0, none⟩))) w') :
    if Region.wanted o (yielded ops a.tmps) = true then Oper.wp Try.prog o a w K Q else E := by
  have hu30 := Try.underlying30
  have hw : Region.wanted o (yielded ops a.tmps) = true := by simp [Region.wanted, hg]
  rw [if_pos hw]
  obtain ⟨dst, op, ty, pos, after, guard⟩ := o
  obtain rfl : op = .alloc 30 := ho
  go_simp
  exact h _ _ rfl (below_alloc (Below.refl _ _) _) (blk_new _ _)
theorem step_store30 {ops : Array Oper} {o : Oper} {a : Act} {w : World} {K : Act → World → Prop} {Q : Exit → Act → World → Prop} {E : Prop} (hg : o.guard = none) (hd : o.dst = none) (x y : Nat) (ho : o.op = .store 30 (.tmp x) (.tmp y))
    {g : Nat} {A0 A1 A2 : Option Addr} {n0 n1 n2 c0 c1 c2 : Nat} (hx : a.tmps[x]?.getD undef = .pointer (some ⟨g, 0, none⟩)) (hy : a.tmps[y]?.getD undef = .agg #[.slice A0 n0 c0, .slice A1 n1 c1, .slice A2 n2 c2])
    (hb : w.heap[g]? = some (.cells #[.slice none 0 0, .slice none 0 0, .slice none 0 0] 30 (0, 0)))
    (h : ∀ w', w'.heap[g]? = some (.cells #[.slice A0 n0 c0, .slice A1 n1 c1, .slice A2 n2 c2] 30 (0, 0)) → (∀ k, k ≠ g → w'.heap[k]? = w.heap[k]?) → (∀ n (v : World), Below n v w → n ≤ g → Below n v w') → K a w') :
    if Region.wanted o (yielded ops a.tmps) = true then Oper.wp Try.prog o a w K Q else E := by
  have hu30 := Try.underlying30
  have hw : Region.wanted o (yielded ops a.tmps) = true := by simp [Region.wanted, hg]
  rw [if_pos hw]
  obtain ⟨dst, op, ty, pos, after, guard⟩ := o
  obtain rfl : op = .store 30 (.tmp x) (.tmp y) := ho
  obtain rfl : dst = none := hd
  have r0 := blk_cell hb 0
  have g0 := blk_frozen hb 0
  have q1 := blk_put hb 0 (Value.slice A0 n0 c0) rfl
  have r1 := blk_cell q1 1
  have g1 := blk_frozen q1 1
  have q2 := blk_put q1 1 (Value.slice A1 n1 c1) rfl
  have r2 := blk_cell q2 2
  have g2 := blk_frozen q2 2
  have q3 := blk_put q2 2 (Value.slice A2 n2 c2) rfl
  have r0' := r0.trans (show _ = some (Value.slice none 0 0) from rfl)
  have r1' := r1.trans (show _ = some (Value.slice none 0 0) from rfl)
  have r2' := r2.trans (show _ = some (Value.slice none 0 0) from rfl)
  have hh := h _ q3 (fun k hk => ((Below.heap_setCell _ ⟨g, 2, none⟩ _ k hk).trans (Below.heap_setCell _ ⟨g, 1, none⟩ _ k hk)).trans (Below.heap_setCell _ ⟨g, 0, none⟩ _ k hk)) (fun n v hB hn => ((hB.setCell (p := ⟨g, 0, none⟩) hn _).setCell (p := ⟨g, 1, none⟩) hn _).setCell (p := ⟨g, 2, none⟩) hn _)
  clear r0 r1 r2 q1 q2 q3 hb h
  go_simp
  exact hh
/-- the two walks in their boxes -/
structure J2 (w1 : World) (n1 g7 g8 gp1 gp2 : Nat) (v1 u1 v2 u2 : Value) (C1 C2 : List (List (List Int))) (L1 L2 : List (List S33)) (G1 G2 : List (List S33 × Nat)) (wc : World) : Prop where
  bel : Below w1.heap.size w1 wc
  le : w1.heap.size ≤ n1
  k7 : wc.heap[g7]? = some (.cells #[.slice (some ⟨gp1, 0, none⟩) 3 3, v1, u1] 30 (0, 0))
  k8 : wc.heap[g8]? = some (.cells #[.slice (some ⟨gp2, 0, none⟩) 3 3, v2, u2] 30 (0, 0))
  a : AF wc w1.heap.size (fun k => k < n1) gp1 v1 u1 C1 G1
  b : AF wc n1 (fun _ => True) gp2 v2 u2 C2 G2
  ga : G1.map Prod.fst = L1
  gb : GOk n1 G2 L2
theorem j_ne {w : World} {g : Nat} {o : Obj} (hb : w.heap[g]? = some o) (e : g = w.heap.size) : False := by
  have := (Array.getElem?_eq_some_iff.1 hb).1
  omega
theorem AF.past30 {w w' : World} {base g gp : Nat} {ok : Nat → Prop} {vC vL : Value} {C : List (List (List Int))} {G : List (List S33 × Nat)} {cells : Array Value} (h : AF w base ok gp vC vL C G) (hb : w.heap[g]? = some (.cells cells 30 (0, 0))) (hk : ∀ k, k ≠ g → w'.heap[k]? = w.heap[k]?) : AF w' base ok gp vC vL C G :=
  ((h.not30 hb).step (fun k hk2 _ => hk k hk2.2)).mono (fun k hk => hk.1)
theorem j_second {w1 w wB : World} {gp1 gp2 : Nat} {v1 u1 v2 u2 : Value} {C1 C2 : List (List (List Int))} {G1 G2 : List (List S33 × Nat)} {L2 : List (List S33)} {p q r : Nat → Prop} (hS : Below w1.heap.size w1 w) (hA : AF w w1.heap.size (fun _ => True) gp1 v1 u1 C1 G1) (hB : Below w.heap.size w wB)
    (hG : GOk w.heap.size G2 L2) (hP : Kd.FK dT wB p [2, 3, 5] [.slice (some ⟨gp2, 0, none⟩) 3 3]) (hC : Kd.N dCh 31 wB w.heap.size q v2 C2) (hL : Kd.N dG 34 wB w.heap.size r u2 G2) :
    ∃ n1, w1.heap.size ≤ n1 ∧ GOk n1 G2 L2 ∧ AF wB w1.heap.size (fun k => k < n1) gp1 v1 u1 C1 G1 ∧ AF wB n1 (fun _ => True) gp2 v2 u2 C2 G2 :=
  ⟨w.heap.size, hS.size, hG, ((hA.bound.mono (fun k hk => hk.2)).later hB), ⟨Kd.FK_mono hP (fun _ _ => trivial), Kd.N_mono hC (fun _ _ => trivial), Kd.N_mono hL (fun _ _ => trivial)⟩⟩
/-- the two walks, of which the second one may begin with the last chord of the first -/
structure J3 (w1 : World) (n1 g7 g8 gp1 gp2 : Nat) (v1 u1 : Value) (A2 B2 : Option Addr) (c2 d2 : Nat) (C1 : List (List (List Int))) (G1 : List (List S33 × Nat)) (row : List (List Int)) (Al : Option Addr) (cl : Nat) (C : List (List (List Int))) (L : List (List S33)) (wc : World) : Prop where
  bel : Below w1.heap.size w1 wc
  k7 : wc.heap[g7]? = some (.cells #[.slice (some ⟨gp1, 0, none⟩) 3 3, v1, u1] 30 (0, 0))
  k8 : wc.heap[g8]? = some (.cells #[.slice (some ⟨gp2, 0, none⟩) 3 3, .slice A2 C.length c2, .slice B2 L.length d2] 30 (0, 0))
  a : AF wc w1.heap.size (fun k => k < n1) gp1 v1 u1 C1 G1
  r : Kd.FK dCh wc (fun k => k < n1) row [.slice Al row.length cl]
  p : Kd.C (Kd.int .i64) wc (some ⟨gp2, 0, none⟩) 3 [2, 3, 5]
  c : Kd.C (Kd.slice 25 (Kd.slice 3 (Kd.int .i64))) wc A2 C.length C
  cn : C.length ≤ c2
  l : Kd.C (Kd.slice 33 k33) wc B2 L.length L
  ln : L.length ≤ d2
def Ca (al : Bool) (row : List (List Int)) (C : List (List (List Int))) : List (List (List Int)) := if al = true then row :: C.drop 1 else C
def La (al : Bool) (n : Nat) (L : List (List S33)) : List (List S33) := if al = true then redL n L else L
theorem GOk.fst_len {base : Nat} {G : List (List S33 × Nat)} {L : List (List S33)} (h : GOk base G L) : L.length = G.length := h.len.symm
/-- the first list of links is being written -/
structure IL (w1 Wa wr : World) (g0 : Nat) (l : List S33) : Prop where
  far : ∀ b, b ≠ g0 → wr.heap[b]? = Wa.heap[b]?
  typ : ∃ cells, wr.heap[g0]? = some (.cells cells 33 (0, 0))
  lk : k33.C wr (some ⟨g0, 0, none⟩) l.length l
  bel : Below w1.heap.size w1 wr
theorem IL.cell {w1 Wa wr : World} {g0 : Nat} {l : List S33} (h : IL w1 Wa wr g0 l) {a : Addr} {v : Value} (hc : Wa.cell? a = some v) (hne : a.block ≠ g0) : wr.cell? a = some v := by
  rw [← hc]
  unfold World.cell?
  rw [h.far a.block hne]
theorem IL.get {w1 Wa wr : World} {g0 : Nat} {l : List S33} (h : IL w1 Wa wr g0 l) {k : Nat} (hk : k < l.length) : wr.cell? ⟨g0, k * 2, none⟩ = some (.int .i64 (l.getD k z33).f0) := by
  obtain ⟨ad, e, h0, -⟩ := at_T33 h.lk (k : Int) (by omega) (by omega)
  obtain rfl := Option.some.inj e
  rw [Int.toNat_natCast, add_at, Nat.zero_add, rdT] at h0
  exact h0
theorem IL.frozen {w1 Wa wr : World} {g0 : Nat} {l : List S33} (h : IL w1 Wa wr g0 l) (i : Nat) : wr.frozen? ⟨g0, i, none⟩ = false := by
  obtain ⟨cells, hb⟩ := h.typ
  exact blk_frozen hb i
theorem IL.put {w1 Wa wr : World} {g0 n : Nat} {l0 : List S33} {k : Nat} (h : IL w1 Wa wr g0 (redK n l0 k)) (hk : k < l0.length) (hg : w1.heap.size ≤ g0) : IL w1 Wa (wr.setCell ⟨g0, k * 2, none⟩ (.int .i64 ((l0.getD k z33).f0 % (n : Int)))) g0 (redK n l0 (k + 1)) := by
  obtain ⟨cells, hb⟩ := h.typ
  have h1 := k33_put h.lk hb (k := k) (by rw [redK_len]; exact hk) ((l0.getD k z33).f0 % (n : Int))
  rw [redK_get n l0 k hk, redK_set n l0 k hk, redK_len, ← redK_len n l0 (k + 1)] at h1
  exact ⟨fun b hb2 => (Below.heap_setCell wr ⟨g0, k * 2, none⟩ _ b hb2).trans (h.far b hb2), ⟨_, blk_put hb (k * 2) _ rfl⟩, h1, h.bel.setCell (p := ⟨g0, k * 2, none⟩) hg _⟩
theorem empty0 : schismalaw51_empty.f [] [] [] = some true := by kernel_rfl
theorem j_fresh {w : World} {g : Nat} {o : Obj} (hb : w.heap[g]? = some o) (k : Nat) (hk : w.heap.size ≤ k) : k ≠ g := by
  have := (Array.getElem?_eq_some_iff.1 hb).1
  omega
theorem j_old {α : Type} {d : Kd α} {e n : Nat} {ok ok' : Nat → Prop} {w : World} {v : Value} {xs : List α} (h : Kd.N d e w n ok v xs) (ho : ∀ k, k < n → ok' k) : ∀ k, k < n → ok' k ∧ some k ≠ v.ownBlock := fun k hk => ⟨ho k hk, fun e1 => by
  have := Kd.N_base h k e1.symm
  omega⟩
theorem j_al {α : Type} {d : Kd α} {e n g : Nat} {ok : Nat → Prop} {w w' : World} {v : Value} {xs : List α} (h : Kd.N d e w n ok v xs) (hg : g = w.heap.size) (hB : Below w.heap.size w w') : Kd.N d e w' n (fun k => k ≠ g ∧ ok k) v xs :=
  Kd.N_below (Kd.N_mono (Kd.N_bound h) (fun k hk => ⟨by have := hk.2; omega, hk.1⟩)) hB
theorem j_clone2 {wq w w' : World} {ok : Nat → Prop} {v v' : Value} {C : List (List (List Int))} {L : List (List S33)} {okf : Nat → Prop} (hS : Below wq.heap.size wq w) (h : Kd.N (Kd.slice 25 (Kd.slice 3 (Kd.int .i64))) 31 w wq.heap.size ok v C) (hB : Below w.heap.size w w') (hM : Kd.N (Kd.slice 33 k33) 34 w' w.heap.size okf v' L) :
    ∃ w28 : World, Below wq.heap.size wq w28 ∧ Below w28.heap.size w28 w' ∧ Kd.N (Kd.slice 25 (Kd.slice 3 (Kd.int .i64))) 31 w' wq.heap.size (fun k => ok k ∧ k < w28.heap.size) v C ∧ Kd.N (Kd.slice 33 k33) 34 w' w28.heap.size okf v' L :=
  ⟨w, hS, hB, Kd.N_below (Kd.N_bound h) hB, hM⟩
theorem j_apart {α β : Type} {d : Kd α} {d' : Kd β} {e e' n n' : Nat} {ok ok' : Nat → Prop} {w w' : World} {v v' : Value} {xs : List α} {ys : List β} (h : Kd.N d e w n (fun k => ok k ∧ k < n') v xs) (hM : Kd.N d' e' w n' ok' v' ys) (hg : w.grownBy w' v'.ownBlock) : Kd.N d e w' n (fun k => ok k ∧ k < n') v xs :=
  Kd.N_grown h hg (fun k hk e1 => by
    have := Kd.N_base hM k e1.symm
    have := hk.2
    omega)
/-- the wanted walk -/
structure JW (wq : World) (g14 gp1 : Nat) (A B : Option Addr) (c d : Nat) (C : List (List (List Int))) (L : List (List S33)) (w : World) : Prop where
  bel : Below wq.heap.size wq w
  k : w.heap[g14]? = some (.cells #[.slice (some ⟨gp1, 0, none⟩) 3 3, .slice A C.length c, .slice B L.length d] 30 (0, 0))
  c : Kd.C (Kd.slice 25 (Kd.slice 3 (Kd.int .i64))) w A C.length C
  l : Kd.C (Kd.slice 33 k33) w B L.length L
theorem j_drop {w : World} {ad : Addr} {c : Nat} {C : List (List (List Int))} (h : Kd.C (Kd.slice 25 (Kd.slice 3 (Kd.int .i64))) w (some ad) C.length C) (h1 : 1 ≤ C.length) (hc : C.length ≤ c) : Kd.C (Kd.slice 25 (Kd.slice 3 (Kd.int .i64))) w (if c = 1 then some ad else some { block := ad.block, off := ad.off + 1 }) (C.length - 1) (C.drop 1) := by
  have h2 := Kd.C_drop (m := 1) (c := c) h h1 hc
  rw [List.length_drop] at h2
  exact cat_drop h2
theorem j_five {wq : World} {g7 g8 : Nat} {x0 x1 x2 y0 y1 y2 : Value} (h7 : wq.heap[g7]? = some (.cells #[x0, x1, x2] 30 (0, 0))) (h8 : wq.heap[g8]? = some (.cells #[y0, y1, y2] 30 (0, 0))) (w : World) (hB : Below wq.heap.size wq w) :
    w.cell? ⟨g7, 0, none⟩ = some x0 ∧ w.cell? ⟨g7, 1, none⟩ = some x1 ∧ w.cell? ⟨g7, 2, none⟩ = some x2 ∧ w.cell? ⟨g8, 1, none⟩ = some y1 ∧ w.cell? ⟨g8, 2, none⟩ = some y2 := by
  have k7 := blk_below h7 hB
  have k8 := blk_below h8 hB
  exact ⟨blk_cell k7 0, blk_cell k7 1, blk_cell k7 2, blk_cell k8 1, blk_cell k8 2⟩
theorem j_leaf {wq w : World} {g14 gp1 n : Nat} {A B : Option Addr} {N M c d : Nat} {C : List (List (List Int))} {L : List (List S33)} {ok ok' : Nat → Prop} (hB : Below wq.heap.size wq w) (hk : w.heap[g14]? = some (.cells #[.slice (some ⟨gp1, 0, none⟩) 3 3, .slice A N c, .slice B M d] 30 (0, 0)))
    (hN : Kd.N (Kd.slice 25 (Kd.slice 3 (Kd.int .i64))) 31 w wq.heap.size ok (.slice A N c) C) (hM : Kd.N (Kd.slice 33 k33) 34 w n ok' (.slice B M d) L) :
    ∃ g14' AX cX AY cY, Value.pointer (some ⟨g14, 0, none⟩) = .pointer (some ⟨g14', 0, none⟩) ∧ Aside0 (JW wq g14' gp1 AX AY cX cY C L w) := by
  obtain ⟨h1, -, h2⟩ := Kd.N_reads' hN
  obtain ⟨h3, -, h4⟩ := Kd.N_reads' hM
  subst h1 h3
  exact ⟨g14, A, c, B, d, rfl, ⟨⟨hB, hk, h2, h4⟩⟩⟩
set_option maxRecDepth 100000 in
set_option maxHeartbeats 8000000 in
theorem joins_walk (cs1 cs2 : Array Value) (f1 f2 : Nat → Int) (hp1 : PlanOk cs1 f1) (hp2 : PlanOk cs2 f2) (al : Bool) (w : World) :
    Calls Try.prog 6 #[.agg cs1, .agg cs2, .bool al] w fun e w' => e = .returned (.bool true) ∧ Below w.heap.size w w' := by
  have hu30 := Try.underlying30
  have hu53 := Try.underlying53
  have HP1 := Aside0.mk hp1
  have HP2 := Aside0.mk hp2
  clear hp1 hp2
  go_enter Try.func6, Try.ntmps6
  go_upto_region 1 with (first | ((with_reducible refine gate_dst (N := 3) rfl ?_); refine box_event ?hg (N := 3) ?hd (cs := cs1) (t := 53) ?hr ?_; (case hd => rfl); (case hg => rfl); (case hr => first | (go_simp; done) | (go_simp; rfl)); intro gb1 hgb w5 hbox hb; have HBX1 := Aside0.mk hbox; have HB5 := Aside0.mk hb; clear hbox hb hgb) | ((with_reducible refine gate_dst (N := 4) rfl ?_); refine box_event ?hg (N := 4) ?hd (cs := cs2) (t := 53) ?hr ?_; (case hd => rfl); (case hg => rfl); (case hr => first | (go_simp; done) | (go_simp; rfl)); intro gb2 hgb w6 hbox hb; have HBX2 := Aside0.mk hbox; have HB6 := Aside0.mk (below_step HB5.out hb); have HBX1 := Aside0.mk (blk_below HBX1.out hb); clear hbox hb hgb))
  go_wp2_with fail
  refine (schismalaw51_known.calls true _ rfl).mono ?_
  rintro e w1 ⟨rfl, hB⟩
  have HB := Aside0.mk (below_step HB6.out hB)
  have HX1 := Aside0.mk ((hB.block gb1 (Array.getElem?_eq_some_iff.1 HBX1.out).1).trans HBX1.out)
  have HX2 := Aside0.mk ((hB.block gb2 (Array.getElem?_eq_some_iff.1 HBX2.out).1).trans HBX2.out)
  clear hB
  go_upto_region 3 with (fail)
  go_cut [7, 8] (fun v7 v8 wc => ∃ n1 g7 g8 gp1 gp2 A1 B1 A2 B2 c1 d1 c2 d2 G1 G2, v7 = .pointer (some ⟨g7, 0, none⟩) ∧ v8 = .pointer (some ⟨g8, 0, none⟩) ∧ Aside0 (J2 w1 n1 g7 g8 gp1 gp2 (.slice A1 (mkC f1 (nCh f1)).length c1) (.slice B1 G1.length d1) (.slice A2 (mkC f2 (nCh f2)).length c2) (.slice B2 G2.length d2) (mkC f1 (nCh f1)) (mkC f2 (nCh f2)) (mkL f1 (nCh f1 - 1)) (mkL f2 (nCh f2 - 1)) G1 G2 wc))
  case first =>
    rename_i J0 K0 hJ0 hK0
    have MK1 : True := trivial
    obtain ⟨wd, hwd⟩ : ∃ wd, wd = w1.drew := ⟨_, rfl⟩
    refine wp_region_held_drew (S := fun w' => Below w1.heap.size w1 w') (by kernel_rfl) (below_drew (Below.refl _ _)) (fun hHeld => ?_)
    rw [← hwd] at hHeld ⊢
    clear hwd
    have BS := Aside0.mk hHeld
    refine wpAnyH_take (i := 0) (oi := { dst := some 23, op := Op.load 53 (Operand.tmp 3), type := 53, pos := "law.go:342", after := #[], guard := none }) (v := .agg cs1) rfl (by kernel_rfl) (by kernel_rfl) (by kernel_rfl) (fun _ _ _ h => h) (Or.inl ⟨by rfl, fun w hS => yields_load53 rfl rfl HP1.out.size w (blk_below HX1.out hS)⟩) hHeld ?_
    refine wpAnyH_take (i := 2) (oi := { dst := some 25, op := Op.load 53 (Operand.tmp 4), type := 53, pos := "law.go:342", after := #[], guard := none }) (v := .agg cs2) rfl (by kernel_rfl) (by kernel_rfl) (by kernel_rfl) (fun _ _ _ h => h) (Or.inl ⟨by rfl, fun w hS => yields_load53 rfl rfl HP2.out.size w (blk_below HX2.out hS)⟩) hHeld ?_
    clear hHeld
    (try simp only [Act.put, List.setIfInBounds_toArray, List.set_cons_zero, List.set_cons_succ])
    repeat' (first
      | (exact AllReadyH.nil)
      | (refine AllReadyH.cons (i := 1) (o := { dst := some 24, op := Op.call { callee := Callee.value (Operand.func 13), args := #[Operand.tmp 23], argTypes := #[53] }, type := 30, pos := "law.go:342", after := #[{ on := 0, ground := Ground.data }], guard := none }) rfl (fun K hK => ?_) ?_; (focus (clear MK1; go_simp; go_at_call 13; refine (makeG_walk cs1 f1 HP1.out _).mono ?_; rintro e wA ⟨gp1, vC1, vL1, G1, rfl, hB, hGO, hP, hC, hL⟩; obtain ⟨A1, c1, rfl⟩ := Kd.N_slice hC; obtain ⟨B1, d1, rfl⟩ := Kd.N_slice hL; have HA := Aside0.mk (AF.mk (ok := fun _ => True) (Kd.FK_mono hP (fun _ _ => trivial)) (Kd.N_lower (Kd.N_mono hC (fun _ _ => trivial)) BS.out.size) (Kd.N_lower (Kd.N_mono hL (fun _ _ => trivial)) BS.out.size)); have HG1 := Aside0.mk hGO.map; replace BS := Aside0.mk (below_step BS.out hB); (try replace K7 := Aside0.mk (blk_below K7.out hB)); (try replace K8 := Aside0.mk (blk_below K8.out hB)); clear hB hGO hP hC hL; refine hK.out _ _ BS.out (fun hHeld => ?_); clear hHeld hK K; (try simp only [Act.put, List.setIfInBounds_toArray, List.set_cons_zero, List.set_cons_succ]))))
      | (refine AllReadyH.cons (i := 3) (o := { dst := some 26, op := Op.call { callee := Callee.value (Operand.func 13), args := #[Operand.tmp 25], argTypes := #[53] }, type := 30, pos := "law.go:342", after := #[{ on := 2, ground := Ground.data }, { on := 1, ground := Ground.chain }], guard := none }) rfl (fun K hK => ?_) ?_; (focus (go_simp; go_at_call 13; refine (makeG_walk cs2 f2 HP2.out _).mono ?_; rintro e wB ⟨gp2, vC2, vL2, G2, rfl, hB, hGO, hP, hC, hL⟩; obtain ⟨A2, c2, rfl⟩ := Kd.N_slice hC; obtain ⟨B2, d2, rfl⟩ := Kd.N_slice hL; obtain ⟨n1, hn1⟩ := j_second BS.out HA.out hB hGO hP hC hL; have N1 := Aside0.mk hn1.1; have HG2 := Aside0.mk hn1.2.1; have HBf := Aside0.mk hn1.2.2.2; replace HA := Aside0.mk hn1.2.2.1; replace BS := Aside0.mk (below_step BS.out hB); (try replace K7 := Aside0.mk (blk_below K7.out hB)); (try replace K8 := Aside0.mk (blk_below K8.out hB)); clear hB hGO hP hC hL hn1; refine hK.out _ _ BS.out (fun hHeld => ?_); clear hHeld hK K; (try simp only [Act.put, List.setIfInBounds_toArray, List.set_cons_zero, List.set_cons_succ]))))
      | (refine AllReadyH.cons (i := 4) (o := { dst := some 7, op := Op.alloc 30, type := 0, pos := "law.go:342", after := #[], guard := none }) rfl (fun K hK => ?_) ?_; (focus (refine step_alloc30 7 rfl rfl rfl (fun g7 w' hg hB hk => ?_); have G7 := Aside0.mk (show w1.heap.size ≤ g7 from hg ▸ BS.out.size); (try have NE := Aside0.mk (show g7 ≠ g8 from fun e => j_ne K8.out (e.symm.trans hg))); replace BS := Aside0.mk (below_step BS.out hB); (try replace K7 := Aside0.mk (blk_below K7.out hB)); (try replace K8 := Aside0.mk (blk_below K8.out hB)); (try replace HA := Aside0.mk (HA.out.later hB)); (try replace HBf := Aside0.mk (HBf.out.later hB)); have K7 := Aside0.mk hk; clear hg hB hk; refine hK.out _ _ BS.out (fun hHeld => ?_); clear hHeld hK K; (try simp only [Act.put, List.setIfInBounds_toArray, List.set_cons_zero, List.set_cons_succ]))))
      | (refine AllReadyH.cons (i := 5) (o := { dst := some 8, op := Op.alloc 30, type := 0, pos := "law.go:342", after := #[], guard := none }) rfl (fun K hK => ?_) ?_; (focus (refine step_alloc30 8 rfl rfl rfl (fun g8 w' hg hB hk => ?_); have G8 := Aside0.mk (show w1.heap.size ≤ g8 from hg ▸ BS.out.size); (try have NE := Aside0.mk (show g7 ≠ g8 from fun e => j_ne K7.out (e.trans hg))); replace BS := Aside0.mk (below_step BS.out hB); (try replace K7 := Aside0.mk (blk_below K7.out hB)); (try replace K8 := Aside0.mk (blk_below K8.out hB)); (try replace HA := Aside0.mk (HA.out.later hB)); (try replace HBf := Aside0.mk (HBf.out.later hB)); have K8 := Aside0.mk hk; clear hg hB hk; refine hK.out _ _ BS.out (fun hHeld => ?_); clear hHeld hK K; (try simp only [Act.put, List.setIfInBounds_toArray, List.set_cons_zero, List.set_cons_succ]))))
      | (refine AllReadyH.cons (i := 6) (o := { dst := none, op := Op.store 30 (Operand.tmp 7) (Operand.tmp 24), type := 0, pos := "law.go:342", after := #[{ on := 4, ground := Ground.data }, { on := 1, ground := Ground.data }, { on := 3, ground := Ground.chain }, { on := 0, ground := Ground.phase }, { on := 1, ground := Ground.phase }, { on := 2, ground := Ground.textOnly Departure.lateStores }, { on := 3, ground := Ground.textOnly Departure.lateStoresUnsure }, { on := 4, ground := Ground.phase }, { on := 5, ground := Ground.phase }], guard := none }) rfl (fun K hK => ?_) ?_; (focus (refine step_store30 rfl rfl 7 24 rfl rfl rfl K7.out (fun w' hk hk' hB' => ?_); replace HA := Aside0.mk (HA.out.past30 K7.out hk'); replace HBf := Aside0.mk (HBf.out.past30 K7.out hk'); replace K8 := Aside0.mk ((hk' g8 (fun e => NE.out e.symm)).trans K8.out); replace K7 := Aside0.mk hk; replace BS := Aside0.mk (hB' _ _ BS.out G7.out); clear hk hk' hB'; refine hK.out _ _ BS.out (fun hHeld => ?_); clear hHeld hK K; (try simp only [Act.put, List.setIfInBounds_toArray, List.set_cons_zero, List.set_cons_succ]))))
      | (refine AllReadyH.cons (i := 7) (o := { dst := none, op := Op.store 30 (Operand.tmp 8) (Operand.tmp 26), type := 0, pos := "law.go:342", after := #[{ on := 5, ground := Ground.data }, { on := 3, ground := Ground.data }, { on := 6, ground := Ground.chain }, { on := 0, ground := Ground.phase }, { on := 1, ground := Ground.phase }, { on := 2, ground := Ground.phase }, { on := 3, ground := Ground.phase }, { on := 4, ground := Ground.phase }, { on := 5, ground := Ground.phase }, { on := 6, ground := Ground.phase }], guard := none }) rfl (fun K hK => ?_) ?_; (focus (refine step_store30 rfl rfl 8 26 rfl rfl rfl K8.out (fun w' hk hk' hB' => ?_); replace HA := Aside0.mk (HA.out.past30 K8.out hk'); replace HBf := Aside0.mk (HBf.out.past30 K8.out hk'); replace K7 := Aside0.mk ((hk' g7 NE.out).trans K7.out); replace K8 := Aside0.mk hk; replace BS := Aside0.mk (hB' _ _ BS.out G8.out); clear hk hk' hB'; refine hK.out _ _ BS.out (fun hHeld => ?_); clear hHeld hK K; (try simp only [Act.put, List.setIfInBounds_toArray, List.set_cons_zero, List.set_cons_succ]))))
      | (refine wpAnyH_ready (rs := [1, 4, 5]) ?_ (by simp) ?_; (focus (decide +kernel)))
      | (refine wpAnyH_ready (rs := [1, 5]) ?_ (by simp) ?_; (focus (decide +kernel)))
      | (refine wpAnyH_ready (rs := [1, 4]) ?_ (by simp) ?_; (focus (decide +kernel)))
      | (refine wpAnyH_ready (rs := [1]) ?_ (by simp) ?_; (focus (decide +kernel)))
      | (refine wpAnyH_ready (rs := [3, 4, 5]) ?_ (by simp) ?_; (focus (decide +kernel)))
      | (refine wpAnyH_ready (rs := [3, 5]) ?_ (by simp) ?_; (focus (decide +kernel)))
      | (refine wpAnyH_ready (rs := [3, 4]) ?_ (by simp) ?_; (focus (decide +kernel)))
      | (refine wpAnyH_ready (rs := [3]) ?_ (by simp) ?_; (focus (decide +kernel)))
      | (refine wpAnyH_ready (rs := [4, 5]) ?_ (by simp) ?_; (focus (decide +kernel)))
      | (refine wpAnyH_ready (rs := [4]) ?_ (by simp) ?_; (focus (decide +kernel)))
      | (refine wpAnyH_ready (rs := [5]) ?_ (by simp) ?_; (focus (decide +kernel)))
      | (refine wpAnyH_ready (rs := [6]) ?_ (by simp) ?_; (focus (decide +kernel)))
      | (refine wpAnyH_ready (rs := [7]) ?_ (by simp) ?_; (focus (decide +kernel)))
      | (refine wpAnyH_done ?_ ?_ _; (focus (decide +kernel)); refine hK0 _ _ (Met.intro (hJ0 _ _ ?_)); (repeat apply Exists.intro); refine ⟨?_, rfl⟩; exact ⟨n1, g7, g8, gp1, gp2, A1, B1, A2, B2, c1, d1, c2, d2, G1, G2, rfl, rfl, ⟨⟨BS.out, N1.out, K7.out, K8.out, HA.out, HBf.out, HG1.out, HG2.out⟩⟩⟩))
  case rest =>
    obtain ⟨n1, g7, g8, gp1, gp2, A1, B1, A2, B2, c1, d1, c2, d2, G1, G2, rfl, rfl, H2⟩ := hcut
    obtain ⟨C1, hC1⟩ : ∃ C1, C1 = mkC f1 (nCh f1) := ⟨_, rfl⟩
    obtain ⟨C2, hC2⟩ : ∃ C2, C2 = mkC f2 (nCh f2) := ⟨_, rfl⟩
    obtain ⟨L1, hL1⟩ : ∃ L1, L1 = mkL f1 (nCh f1 - 1) := ⟨_, rfl⟩
    obtain ⟨L2, hL2⟩ : ∃ L2, L2 = mkL f2 (nCh f2 - 1) := ⟨_, rfl⟩
    have W1 : Aside0 (BW 5 C1 L1) := ⟨by rw [hC1, hL1]; exact plan_bw f1⟩
    have W2 : Aside0 (BW 5 C2 L2) := ⟨by rw [hC2, hL2]; exact plan_bw f2⟩
    rw [← hC1, ← hC2, ← hL1, ← hL2] at H2
    clear hC1 hC2 hL1 hL2 HP1 HP2 HX1 HX2 HBX2 HBX1 HB5 HB6
    have hl1 := W1.out.vw.ll
    have hm1 := W1.out.len
    have hl2 := W2.out.vw.ll
    have hm2 := W2.out.len
    have hlc1 : 1 ≤ C1.length := by omega
    have hlc2 : 1 ≤ C2.length := by omega
    obtain ⟨gA, capA, eA, -⟩ := Kd.N_form H2.out.a.c hlc1
    injection eA with eA1 _ eA3
    subst eA1
    subst eA3
    obtain ⟨i0, hi0⟩ : ∃ i0, i0 = C1.length - 1 := ⟨_, rfl⟩
    obtain ⟨cs, hcl, hF, hcc, -⟩ := Kd.N_elem H2.out.a.c [] (i0 : Int) (by omega) (by omega)
    rw [Int.toNat_natCast] at hF hcc
    obtain ⟨row, hrow⟩ : ∃ row, row = C1.getD i0 [] := ⟨_, rfl⟩
    rw [← hrow] at hF
    obtain ⟨Al, cl, rfl, hll, -, -⟩ := Kd.FK_now hF
    have hcell := hcc 0 _ rfl
    rw [Nat.add_zero, show dCh.sz = 1 from rfl, Nat.mul_one] at hcell
    have k7 := H2.out.k7
    have e71 := blk_cell k7 1
    simp only [List.getElem?_toArray, List.getElem?_cons_zero, List.getElem?_cons_succ] at e71
    have hwn : IntKind.i64.wrap ((C1.length : Int) - 1) = (i0 : Int) := by rw [IntKind.wrap_i64]; omega
    have hin0 : (0 : Int) ≤ (i0 : Int) := by omega
    have hin1 : (i0 : Int) < (C1.length : Int) := by omega
    have hn3 : 1 ≤ row.length ∧ row.length ≤ 12 := by rw [hrow]; exact W1.out.vw.cn i0 (by omega)
    have FR := Aside0.mk (show Kd.FK dCh wc (fun k => k < n1) row [.slice Al row.length cl] from Kd.FK_mono hF (fun k hk => hk.1))
    have HROW := Aside0.mk (And.intro hrow hi0)
    have LLL := Aside0.mk hll
    clear hcl hF hcc k7 hrow hi0 hll
    go_upto_if 35 with (fail)
    go_cut [] (fun wd => Aside0 (J3 w1 n1 g7 g8 gp1 gp2 (.slice (some ⟨gA, 0, none⟩) C1.length c1) (.slice B1 G1.length d1) A2 B2 c2 d2 C1 G1 row Al cl (Ca al row C2) (La al row.length L2) wd))
    case first =>
      cases al with
      | false =>
        go_wp2
        go_meet
        case rel =>
          obtain ⟨-, hc2, hC2⟩ := Kd.N_reads' H2.out.b.c
          obtain ⟨-, hd2, hL2⟩ := Kd.N_reads' H2.out.b.l
          have h9 := C_of_G hL2
          rw [H2.out.gb.map, ← H2.out.gb.fst_len] at h9
          refine ⟨⟨H2.out.bel, H2.out.k7, ?_, H2.out.a, FR.out, H2.out.b.P, C_of_Ch hC2, hc2, h9, by show L2.length ≤ _; rw [H2.out.gb.fst_len]; exact hd2⟩⟩
          show wc.heap[g8]? = some (.cells #[_, .slice A2 C2.length c2, .slice B2 L2.length d2] 30 (0, 0))
          rw [H2.out.gb.fst_len]
          exact H2.out.k8
      | true =>
        obtain ⟨gC, capC, eC, -⟩ := Kd.N_form H2.out.b.c hlc2
        injection eC with eC1 _ eC3
        subst eC1
        subst eC3
        obtain ⟨cs3, hcl3, -, hcc3, hfr3⟩ := Kd.N_elem H2.out.b.c [] 0 (by omega) (by omega)
        obtain ⟨x3, hx3⟩ : ∃ x3, wc.cell? ⟨gC, 0, none⟩ = some x3 := by
          cases cs3 with
          | nil => exact absurd hcl3 (by decide)
          | cons u cs3 => exact ⟨u, hcc3 0 u rfl⟩
        have hfr : wc.frozen? ⟨gC, 0, none⟩ = false := hfr3 0
        obtain ⟨cellsC, hbC⟩ := Kd.N_typed H2.out.b.c gC rfl
        have ne8 : g8 ≠ gC := typed_ne H2.out.k8 hbC (by decide)
        have ne7 : g7 ≠ gC := typed_ne H2.out.k7 hbC (by decide)
        have k8 := H2.out.k8
        have e81 := blk_cell k8 1
        simp only [List.getElem?_toArray, List.getElem?_cons_zero, List.getElem?_cons_succ] at e81
        have hi2 : (0 : Int) < (C2.length : Int) := by omega
        clear hcl3 hcc3 hfr3 k8
        go_upto_region 7 with (fail)
        obtain ⟨Wa, hWa⟩ : ∃ Wa, Wa = wc.setCell ⟨gC, 0, none⟩ (.slice Al row.length cl) := ⟨_, rfl⟩
        rw [← hWa]
        have hgC := H2.out.b.c.1 gC rfl
        have hgn : n1 ≤ gC := Kd.N_base H2.out.b.c gC rfl
        have hset : ∀ k, k ≠ gC → Wa.heap[k]? = wc.heap[k]? := fun k hk => by rw [hWa]; exact Below.heap_setCell wc ⟨gC, 0, none⟩ _ k hk
        have BW := Aside0.mk (show Below w1.heap.size w1 Wa from by rw [hWa]; exact H2.out.bel.setCell (p := ⟨gC, 0, none⟩) (Nat.le_trans H2.out.le hgn) _)
        have KA7 := Aside0.mk ((hset g7 ne7).trans H2.out.k7)
        have KA8 := Aside0.mk ((hset g8 ne8).trans H2.out.k8)
        have AFA := Aside0.mk (show AF Wa w1.heap.size (fun k => k < n1) gp1 _ _ C1 G1 from H2.out.a.step (fun k hk _ => hset k (by omega)))
        have FRA := Aside0.mk (show Kd.FK dCh Wa (fun k => k < n1) row [.slice Al row.length cl] from Kd.FK_step FR.out (fun k hk _ => hset k (by omega)))
        have PA := Aside0.mk (Kd.FK_step (FKT_not hbC (by decide) _ _ _ H2.out.b.p) (fun k hk _ => hset k hk.2))
        have NLA := Aside0.mk (Kd.N_step (N_not hbC (by decide) (FKG_not hbC (by decide)) H2.out.b.l) (fun k hk _ => hset k hk.2))
        have e82 := blk_cell KA8.out 2
        simp only [List.getElem?_toArray, List.getElem?_cons_zero, List.getElem?_cons_succ] at e82
        cases G2 with
        | nil =>
          rw [show (([] : List (List S33 × Nat)).length) = 0 from rfl] at e82
          have hz : L2.length = 0 := H2.out.gb.fst_len
          have hz2 : L2 = [] := List.eq_nil_of_length_eq_zero hz
          have POST : Aside0 (J3 w1 n1 g7 g8 gp1 gp2 (.slice (some ⟨gA, 0, none⟩) C1.length c1) (.slice B1 G1.length d1) (some ⟨gC, 0, none⟩) B2 c2 d2 C1 G1 row Al cl (Ca true row C2) (La true row.length L2) Wa) := by
            have hF := like_F (H2.out.b.c) hlc2 (Kd.FK_mono FR.out (fun k hk => ⟨trivial, by omega⟩))
            have h4 := Kd.F_now hF
            rw [← hWa] at h4
            have e1 : (Ca true row C2).length = C2.length := by show (row :: C2.drop 1).length = _; rw [List.length_cons, List.length_drop]; omega
            have e2 : La true row.length L2 = [] := by rw [hz2]; rfl
            obtain ⟨-, hc2, -⟩ := Kd.N_reads' H2.out.b.c
            obtain ⟨-, hd2, hL2⟩ := Kd.N_reads' NLA.out
            refine ⟨BW.out, KA7.out, by rw [e1, e2]; exact KA8.out, AFA.out, FRA.out, ?_, by rw [e1]; exact h4, by rw [e1]; exact hc2, by rw [e2]; exact C_of_G hL2, by rw [e2]; exact hd2⟩
            obtain ⟨A, c, q1, -, q2, -⟩ := Kd.FK_now PA.out
            injection q1 with q1 _
            injection q1 with q1 _ _
            subst q1
            exact q2
          clear e81 hz hz2 hWa hset
          cases B2 with
          | none =>
            go_wp2
            go_loopw [48] (fun v wr => v = .int .i64 0 ∧ Wa = wr) (fun _ _ => 0)
            case atStart => exact ⟨rfl, rfl⟩
            case round =>
              obtain ⟨rfl, rfl⟩ := hrel
              go_wp2
              go_meet
              case rel => exact POST
          | some ab =>
            go_wp2
            go_loopw [48] (fun v wr => v = .int .i64 0 ∧ Wa = wr) (fun _ _ => 0)
            case atStart => exact ⟨rfl, rfl⟩
            case round =>
              obtain ⟨rfl, rfl⟩ := hrel
              go_wp2
              go_meet
              case rel => exact POST
        | cons x0 r =>
          obtain ⟨l0, g0⟩ := x0
          obtain ⟨gL, capL, eL, -⟩ := Kd.N_form NLA.out (by simp)
          injection eL with eL1 _ eL3
          subst eL1
          subst eL3
          obtain ⟨cs0, hcl0, hF0, hcell0, -⟩ := Kd.N_elem NLA.out (([] : List S33), 0) 0 (by omega) (by simp)
          obtain ⟨c0, cells0, rfl, hlc, hk0, hb0⟩ := Kd.FK_now hF0
          have hg0 : n1 ≤ g0 := H2.out.gb.ge (l0, g0) (by simp)
          have hcL : Wa.cell? ⟨gL, 0, none⟩ = some (.slice (some ⟨g0, 0, none⟩) l0.length c0) := hcell0 0 _ rfl
          obtain ⟨cellsL, hbL⟩ := Kd.N_typed NLA.out gL rfl
          have ne08 : g8 ≠ g0 := typed_ne KA8.out hb0 (by decide)
          have ne07 : g7 ≠ g0 := typed_ne KA7.out hb0 (by decide)
          have neL0 : gL ≠ g0 := typed_ne hbL hb0 (by decide)
          have hlen : L2.length = r.length + 1 := H2.out.gb.fst_len
          have hl00 : L2.getD 0 [] = l0 := by rw [← H2.out.gb.map]; rfl
          have hl0n : 1 ≤ l0.length ∧ l0.length ≤ 12 := by rw [← hl00]; exact W2.out.vw.ln 0 (by omega)
          have hl0x : ∀ j, j < l0.length → 0 ≤ (l0.getD j z33).f0 := fun j hj => by
            have := W2.out.vw.li 0 (by omega) j (by rw [hl00]; exact hj)
            rw [hl00] at this
            exact this.1
          have K0 := Aside0.mk (show k33.C Wa (some ⟨g0, 0, none⟩) l0.length l0 from hk0)
          have B0 := Aside0.mk hb0
          have HWA := Aside0.mk hWa
          have HSET := Aside0.mk hset
          have HX0 := Aside0.mk hl0x
          obtain ⟨nr, hnr⟩ : ∃ nr, nr = r.length + 1 := ⟨_, rfl⟩
          have hmn : (if (1 : Int) < (nr : Int) then (1 : Int) else (nr : Int)) = 1 := by split <;> omega
          have hcap : 1 ≤ d2 := by have := (Kd.N_reads' NLA.out).2.1; simp only [List.length_cons] at this; omega
          rw [show ((l0, g0) :: r).length = r.length + 1 from rfl, ← hnr] at e82
          have HNR := Aside0.mk hnr
          clear hnr e81 hWa hset hcl0 hF0 hcell0 hk0 hb0 hl0x hbL
          have hbCa : Wa.heap[gC]? = some (.cells (cellsC.setIfInBounds 0 (.slice Al row.length cl)) 31 (0, 0)) := by rw [HWA.out]; exact blk_put hbC 0 _ rfl
          have ne0C : g0 ≠ gC := typed_ne B0.out hbCa (by decide)
          have b0c := Aside0.mk ((HSET.out g0 ne0C).symm.trans B0.out)
          clear hbCa
          have hw1g : w1.heap.size ≤ g0 := Nat.le_trans H2.out.le hg0
          have I0 := Aside0.mk (IL.mk (w1 := w1) (Wa := Wa) (wr := Wa) (g0 := g0) (l := redK row.length l0 0) (fun b _ => rfl) ⟨_, B0.out⟩ (by rw [redK_zero]; exact K0.out) BW.out)
          have E82 := Aside0.mk e82
          have ECL := Aside0.mk hcL
          have hnr1 : (0 : Int) < (nr : Int) := by have := HNR.out; omega
          clear hcL
          go_wp2
          clear e82 hmn
          go_loopw [48] (fun v wr => (v = .int .i64 0 ∧ Aside0 (IL w1 Wa wr g0 (redK row.length l0 0))) ∨ (v = .int .i64 1 ∧ Aside0 (IL w1 Wa wr g0 (redK row.length l0 l0.length)))) (fun v _ => (1 - intOf v).toNat)
          case atStart => exact .inl ⟨rfl, I0⟩
          case round =>
            clear I0
            rcases hrel with ⟨rfl, HI⟩ | ⟨rfl, HI⟩
            · have e82 := HI.out.cell E82.out ne08
              have hcL := HI.out.cell ECL.out neL0
              go_wp2
              clear e82 hcL
              go_loopw [57] (fun v wr => ∃ k : Nat, k ≤ l0.length ∧ v = .int .i64 k ∧ Aside0 (IL w1 Wa wr g0 (redK row.length l0 k))) (fun v _ => l0.length - (intOf v).toNat)
              case atStart => exact ⟨0, Nat.zero_le _, rfl, HI⟩
              case round =>
                obtain ⟨k, hk, rfl, HJ⟩ := hrel
                by_cases hlt : k < l0.length
                · have e82 := HJ.out.cell E82.out ne08
                  have hcL := HJ.out.cell ECL.out neL0
                  have hget := HJ.out.get (k := k) (by rw [redK_len]; exact hlt)
                  rw [redK_get _ _ _ hlt] at hget
                  obtain ⟨xv, hxv⟩ : ∃ xv, xv = l0.getD k z33 := ⟨_, rfl⟩
                  rw [← hxv] at hget
                  have HXV := Aside0.mk hxv
                  clear hxv
                  have hfz := HJ.out.frozen (k * 2)
                  have hin0 : (0 : Int) ≤ (k : Int) := by omega
                  have hin1 : (k : Int) < (l0.length : Int) := by omega
                  have hrn : ¬ row.length = 0 := by omega
                  go_wp2
                  go_roundw
                  case rel => exact ⟨k + 1, by omega, by go_num, ⟨by
                    rw [HXV.out, Int.tmod_eq_emod_of_nonneg (HX0.out k hlt)]
                    exact HJ.out.put hlt hw1g⟩⟩
                  case measure => simp [intOf]; omega
                · obtain rfl : k = l0.length := by omega
                  go_wp2
                  go_roundw
                  case rel => exact .inr ⟨by go_num, HJ⟩
                  case measure => simp [intOf]
            · go_wp2
              go_meet
              case rel =>
                have hN := N_not b0c.out (by decide) (FKCh_not b0c.out (by decide) (by decide)) H2.out.b.c
                have hF := like_F hN hlc2 (Kd.FK_mono FR.out (fun k hk => ⟨⟨trivial, by omega⟩, by omega⟩))
                rw [← HWA.out] at hF
                have h4 := Kd.F_now (Kd.F_step hF (fun k hk _ => HI.out.far k hk.2))
                have h5 := like_L NLA.out H2.out.gb.pw HI.out.far (redK_len _ _ _) HI.out.lk
                rw [redK_all] at h5
                have e1 : (Ca true row C2).length = C2.length := by show (row :: C2.drop 1).length = _; rw [List.length_cons, List.length_drop]; omega
                have e2 : La true row.length L2 = l0.map (fun x => (⟨x.f0 % (row.length : Int), x.f1⟩ : S33)) :: r.map Prod.fst := by rw [← H2.out.gb.map]; rfl
                have e3 : (La true row.length L2).length = ((l0, g0) :: r).length := by rw [e2]; simp
                obtain ⟨-, hc2, -⟩ := Kd.N_reads' H2.out.b.c
                obtain ⟨-, hd2, hL2⟩ := Kd.N_reads' NLA.out
                refine ⟨⟨HI.out.bel, (HI.out.far g7 ne07).trans KA7.out, by rw [e1, e3]; exact (HI.out.far g8 ne08).trans KA8.out, AFA.out.step (fun k hk _ => HI.out.far k (by omega)), Kd.FK_step FRA.out (fun k hk _ => HI.out.far k (by omega)), ?_, by rw [e1]; exact h4, by rw [e1]; exact hc2, by rw [e3, e2]; exact h5, by rw [e3]; exact hd2⟩⟩
                obtain ⟨A, c, q1, -, q2, -⟩ := Kd.FK_now (Kd.FK_step (FKT_not B0.out (by decide) _ _ _ PA.out) (fun k hk _ => HI.out.far k hk.2))
                injection q1 with q1 _
                injection q1 with q1 _ _
                subst q1
                exact q2
    case rest =>
      have hG1 : G1.length = L1.length := by rw [← H2.out.ga, List.length_map]
      have hga := H2.out.ga
      clear H2 FR
      have H3 := hcut
      clear hcut
      obtain ⟨C3, hC3⟩ : ∃ C3, C3 = Ca al row C2 := ⟨_, rfl⟩
      obtain ⟨L3, hL3⟩ : ∃ L3, L3 = La al row.length L2 := ⟨_, rfl⟩
      have W3 : Aside0 (BW 5 C3 L3) := ⟨by
        rw [hC3, hL3]
        cases al with
        | false => exact W2.out
        | true =>
          have h1 := like_bw W2.out W1.out (i0 := i0) (by have := HROW.out.2; omega)
          rw [← HROW.out.1] at h1
          exact h1⟩
      rw [← hC3, ← hL3] at H3
      rw [hG1] at H3
      have hC1 := C_of_Ch (Kd.N_reads' H3.out.a.c).2.2
      have hcn1 := (Kd.N_reads' H3.out.a.c).2.1
      have hB1 := C_of_G (Kd.N_reads' H3.out.a.l).2.2
      have hcn2 := (Kd.N_reads' H3.out.a.l).2.1
      rw [hga, hG1] at hB1
      have hrow2 := HROW.out
      rw [hrow2.2] at hrow2
      have CW := Aside0.mk (And.intro (And.intro H3.out.a.P (And.intro hC1 (And.intro hcn1 (And.intro hB1 hcn2)))) (And.intro H3.out.p (And.intro H3.out.c (And.intro H3.out.cn (And.intro H3.out.l H3.out.ln)))))
      have HROW2 := Aside0.mk hrow2.1
      have HRC := Aside0.mk (show (Kd.slice 3 (Kd.int .i64)).C wc Al row.length row from by
        obtain ⟨A, c, q1, -, q2⟩ := K_of_Ch (Kd.FK_now H3.out.r)
        injection q1 with q1 _
        injection q1 with q1 _ _
        subst q1
        exact q2)
      have hm3 := W3.out.len
      have hl3 := W3.out.vw.ll
      have hlc3 : 1 ≤ C3.length := by omega
      clear hC3 hL3 hG1 hga hC1 hcn1 hB1 hcn2 HROW hrow2 hcell e71 hwn hin0 hin1 hl2 hm2 hlc2 W2
      have HJ := Lib.hid (fun (W : World) (hW : Below wc.heap.size wc W) => join_walk C1 C3 L1 L3 W1.out.vw W3.out.vw hm1 hm3 (some ⟨gp1, 0, none⟩) (some ⟨gA, 0, none⟩) B1 (some ⟨gp2, 0, none⟩) A2 B2 3 c1 d1 3 c2 d2 W (Kd.C_below CW.out.1.1 hW) (Nat.le_refl _) (Kd.C_below CW.out.1.2.1 hW) CW.out.1.2.2.1 (Kd.C_below CW.out.1.2.2.2.1 hW) CW.out.1.2.2.2.2 (Kd.C_below CW.out.2.1 hW) (Nat.le_refl _) (Kd.C_below CW.out.2.2.1 hW) CW.out.2.2.2.1 (Kd.C_below CW.out.2.2.2.2.1 hW) CW.out.2.2.2.2.2)
      have k7 := H3.out.k7
      have k8 := H3.out.k8
      have e70 := blk_cell k7 0
      have e71 := blk_cell k7 1
      have e72 := blk_cell k7 2
      have e80 := blk_cell k8 0
      have e81 := blk_cell k8 1
      have e82 := blk_cell k8 2
      simp only [List.getElem?_toArray, List.getElem?_cons_zero, List.getElem?_cons_succ] at e70 e71 e72 e80 e81 e82
      clear k7 k8
      go_wp2_with fail
      refine (HJ.out _ (Below.refl _ _)).mono ?_
      rintro e wj ⟨hBj, hj⟩
      have BJ := Aside0.mk hBj
      clear hBj HJ e70 e71 e72 e80 e81 e82
      rcases hj with ⟨hne, rfl⟩ | ⟨heq, gp, cp, A, c, A', c', rfl, hP, hcp, hC, hc, hL, hc'⟩
      · go_upto_region 17 with (fail)
        obtain ⟨b12, hb12⟩ : ∃ b12, b12 = wj.heap.size := ⟨_, rfl⟩
        obtain ⟨wk, hwk⟩ : ∃ wk, wk = wj.alloc (.cells #[.slice none 0 0, .slice none 0 0, .slice none 0 0] 30) := ⟨_, rfl⟩
        have BK := Aside0.mk (show Below wc.heap.size wc wk from by rw [hwk]; exact below_alloc BJ.out _)
        have K12 := Aside0.mk (show wk.heap[b12]? = some (.cells #[.slice none 0 0, .slice none 0 0, .slice none 0 0] 30 (0, 0)) from by rw [hwk, hb12]; exact blk_new _ _)
        rw [← hwk, ← hb12]
        clear hwk hb12
        have e81 := blk_cell (blk_below H3.out.k8 BK.out) 1
        simp only [List.getElem?_toArray, List.getElem?_cons_zero, List.getElem?_cons_succ] at e81
        obtain ⟨ad2, Bf, cf, rfl, hx2, hlx2, hCx2⟩ := at_L2 (Kd.C_below CW.out.2.2.1 BK.out) ((0 : Nat) : Int) (by omega) (by omega)
        rw [Int.toNat_natCast] at hx2
        rw [rdL2] at hx2 hlx2 hCx2
        rw [Addr.add_zero'] at hx2
        obtain ⟨rf, hrf⟩ : ∃ rf, rf = C3.getD 0 [] := ⟨_, rfl⟩
        rw [← hrf] at hx2 hlx2 hCx2 hne
        have hne2 : ¬ row = rf := by rw [HROW2.out]; exact hne
        have HRQ := Lib.hid (rowsEqual_at row rf Al Bf cl cf wk (Kd.C_below HRC.out BK.out) LLL.out hCx2 hlx2)
        rw [decide_eq_false hne2] at HRQ
        have hin : (0 : Int) < (C3.length : Int) := by omega
        have hin' : 0 < C3.length := by omega
        clear hCx2 hlx2 hne hne2 hrf
        go_wp2_with fail
        refine HRQ.out.mono ?_
        rintro e wq ⟨rfl, nq, rfl⟩
        have k12 := blk_drewN K12.out nq
        have e0 := blk_cell k12 0
        have e1 := blk_cell k12 1
        have e2 := blk_cell k12 2
        simp only [List.getElem?_toArray, List.getElem?_cons_zero, List.getElem?_cons_succ] at e0 e1 e2
        clear e81 hx2 HRQ k12
        go_wp2_with fail
        refine (schismalaw51_empty.calls none 0 [] none 0 [] none 0 [] true _ (Kd.C_nil _ _) (Nat.le_refl _) (Kd.C_nil _ _) (Nat.le_refl _) (Kd.C_nil _ _) (Nat.le_refl _) empty0).mono ?_
        rintro e wz ⟨rfl, hBz⟩
        have BZ := Aside0.mk (below_step HB.out (below_step H3.out.bel (below_step (pw_below_drewN BK.out nq) hBz)))
        clear hBz e0 e1 e2
        go_wp2
        go_ret
        exact ⟨rfl, BZ.out⟩
      · have hCJ : C1.length + (C3.length - 1) = (C1 ++ C3.drop 1).length := by rw [List.length_append, List.length_drop]
        have hLJ : L1.length + L3.length = (L1 ++ L3).length := by rw [List.length_append]
        have JB := Aside0.mk (join_bw W1.out W3.out heq (by omega))
        have JA := Aside0.mk (join_add W1.out W3.out heq (by omega))
        obtain ⟨CJ, hCJe⟩ : ∃ CJ, CJ = C1 ++ C3.drop 1 := ⟨_, rfl⟩
        obtain ⟨LJ, hLJe⟩ : ∃ LJ, LJ = L1 ++ L3 := ⟨_, rfl⟩
        rw [← hCJe] at hCJ JB JA hC
        rw [← hLJe] at hLJ JB JA hL
        rw [hCJ] at hC hc ⊢
        rw [hLJ] at hL hc' ⊢
        have UJ := Aside0.mk (And.intro hP (And.intro hcp (And.intro hC (And.intro hc (And.intro hL hc')))))
        have HCJ := Aside0.mk (And.intro hCJe hLJe)
        clear hP hcp hC hc hL hc' hCJe hLJe hCJ hLJ
        go_upto_region 17 with (fail)
        obtain ⟨b12, hb12⟩ : ∃ b12, b12 = wj.heap.size := ⟨_, rfl⟩
        obtain ⟨wk, hwk⟩ : ∃ wk, wk = wj.alloc (.cells #[.slice (some ⟨gp, 0, none⟩) 3 cp, .slice A CJ.length c, .slice A' LJ.length c'] 30) := ⟨_, rfl⟩
        have BK := Aside0.mk (show Below wc.heap.size wc wk from by rw [hwk]; exact below_alloc BJ.out _)
        have BU := Aside0.mk (show Below wj.heap.size wj wk from by rw [hwk]; exact below_alloc (Below.refl _ _) _)
        have K12 := Aside0.mk (show wk.heap[b12]? = some (.cells #[.slice (some ⟨gp, 0, none⟩) 3 cp, .slice A CJ.length c, .slice A' LJ.length c'] 30 (0, 0)) from by rw [hwk, hb12]; exact blk_new _ _)
        rw [← hwk, ← hb12]
        clear hwk hb12
        have e81 := blk_cell (blk_below H3.out.k8 BK.out) 1
        simp only [List.getElem?_toArray, List.getElem?_cons_zero, List.getElem?_cons_succ] at e81
        obtain ⟨ad2, Bf, cf, rfl, hx2, hlx2, hCx2⟩ := at_L2 (Kd.C_below CW.out.2.2.1 BK.out) ((0 : Nat) : Int) (by omega) (by omega)
        rw [Int.toNat_natCast] at hx2
        rw [rdL2] at hx2 hlx2 hCx2
        rw [Addr.add_zero'] at hx2
        obtain ⟨rf, hrf⟩ : ∃ rf, rf = C3.getD 0 [] := ⟨_, rfl⟩
        rw [← hrf] at hx2 hlx2 hCx2 heq
        have hne2 : row = rf := by rw [HROW2.out]; exact heq
        have HRQ := Lib.hid (rowsEqual_at row rf Al Bf cl cf wk (Kd.C_below HRC.out BK.out) LLL.out hCx2 hlx2)
        rw [decide_eq_true hne2] at HRQ
        have hin : (0 : Int) < (C3.length : Int) := by omega
        have hin' : 0 < C3.length := by omega
        clear hCx2 hlx2 heq hne2 hrf
        go_wp2_with fail
        refine HRQ.out.mono ?_
        rintro e wq ⟨rfl, nq, hwq⟩
        have BQ := Aside0.mk (show Below wc.heap.size wc wq from by rw [hwq]; exact pw_below_drewN BK.out nq)
        have BV := Aside0.mk (show Below wj.heap.size wj wq from by rw [hwq]; exact pw_below_drewN BU.out nq)
        have KU := Aside0.mk (show wq.heap[b12]? = some (.cells #[.slice (some ⟨gp, 0, none⟩) 3 cp, .slice A CJ.length c, .slice A' LJ.length c'] 30 (0, 0)) from by rw [hwq]; exact blk_drewN K12.out nq)
        have K7 := Aside0.mk (blk_below H3.out.k7 BQ.out)
        have K8 := Aside0.mk (blk_below H3.out.k8 BQ.out)
        clear e81 hx2 HRQ hwq K12 BU BK
        go_upto_region 19 with (fail)
        go_cut [14] (fun v14 wn => ∃ g14 AX cX AY cY, v14 = .pointer (some ⟨g14, 0, none⟩) ∧ Aside0 (JW wq g14 gp1 AX AY cX cY CJ LJ wn))
        case first =>
          rename_i J0 K0 hJ0 hK0
          have FC1 := Aside0.mk (F_chords (Kd.C_below CW.out.1.2.1 BQ.out))
          have FD := Aside0.mk (F_chords (j_drop (Kd.C_below CW.out.2.2.1 BQ.out) hlc3 CW.out.2.2.2.1))
          have FL1 := Aside0.mk (F_lists (Kd.C_below CW.out.1.2.2.2.1 BQ.out))
          have FL3 := Aside0.mk (F_lists (Kd.C_below CW.out.2.2.2.2.1 BQ.out))
          have hs1 : C1.length ≤ 1000 := by omega
          have hs2 : L1.length ≤ 1000 := by omega
          have PLC := Aside0.mk (show (C1.length + (C3.length - 1)) * 24 ≤ 140737488355328 by omega)
          have PLL := Aside0.mk (show (L1.length + L3.length) * 24 ≤ 140737488355328 by omega)
          have HS5 := Lib.hid (j_five K7.out K8.out)
          have BS := Aside0.mk (below_drew (Below.refl wq.heap.size wq))
          have hb1 : (1 : Int) ≤ (C3.length : Int) := by omega
          have hb2 : 1 ≤ C3.length := by omega
          have hb3 : C3.length ≤ c2 := CW.out.2.2.2.1
          refine wp_region_held_drew (S := fun w' => w'.cell? ⟨g7, 0, none⟩ = some (.slice (some ⟨gp1, 0, none⟩) 3 3) ∧ w'.cell? ⟨g7, 1, none⟩ = some (.slice (some ⟨gA, 0, none⟩) C1.length c1) ∧ w'.cell? ⟨g7, 2, none⟩ = some (.slice B1 L1.length d1) ∧ w'.cell? ⟨g8, 1, none⟩ = some (.slice (some ad2) C3.length c2) ∧ w'.cell? ⟨g8, 2, none⟩ = some (.slice B2 L3.length d2)) (by kernel_rfl) (HS5.out _ BS.out) (fun hHeld => ?_)
          clear hHeld
          obtain ⟨wd, hwd⟩ : ∃ wd, wd = wq.drew := ⟨_, rfl⟩
          rw [← hwd] at BS ⊢
          clear hwd
          refine wpAnyH_take (i := 0) (oi := { dst := some 95, op := Op.fieldAddr 30 (Operand.tmp 7) 0, type := 0, pos := "law.go:356", after := #[], guard := none }) (v := ?_) rfl (by kernel_rfl) (by kernel_rfl) (by kernel_rfl) (fun _ _ _ h => h) (Or.inl ⟨by rfl, ?_⟩) (HS5.out _ BS.out) ?_
          rotate_left
          · (intro w hSw; (try dsimp only at hSw); go_simp; with_reducible rfl)
          (try simp only [Act.put, List.setIfInBounds_toArray, List.set_cons_zero, List.set_cons_succ])
          refine wpAnyH_take (i := 1) (oi := { dst := some 96, op := Op.load 26 (Operand.tmp 95), type := 26, pos := "law.go:356", after := #[{ on := 0, ground := Ground.data }], guard := none }) (v := ?_) rfl (by kernel_rfl) (by kernel_rfl) (by kernel_rfl) (fun _ _ _ h => h) (Or.inl ⟨by rfl, ?_⟩) (HS5.out _ BS.out) ?_
          rotate_left
          · (intro w hSw; (try dsimp only at hSw); go_simp; with_reducible rfl)
          (try simp only [Act.put, List.setIfInBounds_toArray, List.set_cons_zero, List.set_cons_succ])
          refine wpAnyH_take (i := 2) (oi := { dst := some 97, op := Op.fieldAddr 30 (Operand.tmp 7) 1, type := 0, pos := "law.go:356", after := #[], guard := none }) (v := ?_) rfl (by kernel_rfl) (by kernel_rfl) (by kernel_rfl) (fun _ _ _ h => h) (Or.inl ⟨by rfl, ?_⟩) (HS5.out _ BS.out) ?_
          rotate_left
          · (intro w hSw; (try dsimp only at hSw); go_simp; with_reducible rfl)
          (try simp only [Act.put, List.setIfInBounds_toArray, List.set_cons_zero, List.set_cons_succ])
          refine wpAnyH_take (i := 3) (oi := { dst := some 98, op := Op.load 27 (Operand.tmp 97), type := 27, pos := "law.go:356", after := #[{ on := 2, ground := Ground.data }], guard := none }) (v := ?_) rfl (by kernel_rfl) (by kernel_rfl) (by kernel_rfl) (fun _ _ _ h => h) (Or.inl ⟨by rfl, ?_⟩) (HS5.out _ BS.out) ?_
          rotate_left
          · (intro w hSw; (try dsimp only at hSw); go_simp; with_reducible rfl)
          (try simp only [Act.put, List.setIfInBounds_toArray, List.set_cons_zero, List.set_cons_succ])
          refine wpAnyH_take (i := 5) (oi := { dst := some 100, op := Op.fieldAddr 30 (Operand.tmp 8) 1, type := 0, pos := "law.go:356", after := #[], guard := none }) (v := ?_) rfl (by kernel_rfl) (by kernel_rfl) (by kernel_rfl) (fun _ _ _ h => h) (Or.inl ⟨by rfl, ?_⟩) (HS5.out _ BS.out) ?_
          rotate_left
          · (intro w hSw; (try dsimp only at hSw); go_simp; with_reducible rfl)
          (try simp only [Act.put, List.setIfInBounds_toArray, List.set_cons_zero, List.set_cons_succ])
          refine wpAnyH_take (i := 6) (oi := { dst := some 101, op := Op.load 27 (Operand.tmp 100), type := 27, pos := "law.go:356", after := #[{ on := 5, ground := Ground.data }], guard := none }) (v := ?_) rfl (by kernel_rfl) (by kernel_rfl) (by kernel_rfl) (fun _ _ _ h => h) (Or.inl ⟨by rfl, ?_⟩) (HS5.out _ BS.out) ?_
          rotate_left
          · (intro w hSw; (try dsimp only at hSw); go_simp; with_reducible rfl)
          (try simp only [Act.put, List.setIfInBounds_toArray, List.set_cons_zero, List.set_cons_succ])
          refine wpAnyH_take (i := 7) (oi := { dst := some 102, op := Op.slice 27 (Operand.tmp 101) (some (Operand.const (Value.int IntKind.i64 1))) none none, type := 27, pos := "law.go:356", after := #[{ on := 6, ground := Ground.data }], guard := none }) (v := ?_) rfl (by kernel_rfl) (by kernel_rfl) (by kernel_rfl) (fun _ _ _ h => h) (Or.inl ⟨by rfl, ?_⟩) (HS5.out _ BS.out) ?_
          rotate_left
          · (intro w hSw; (try dsimp only at hSw); go_simp; with_reducible rfl)
          (try simp only [Act.put, List.setIfInBounds_toArray, List.set_cons_zero, List.set_cons_succ])
          refine wpAnyH_take (i := 9) (oi := { dst := some 104, op := Op.fieldAddr 30 (Operand.tmp 7) 2, type := 0, pos := "law.go:356", after := #[], guard := none }) (v := ?_) rfl (by kernel_rfl) (by kernel_rfl) (by kernel_rfl) (fun _ _ _ h => h) (Or.inl ⟨by rfl, ?_⟩) (HS5.out _ BS.out) ?_
          rotate_left
          · (intro w hSw; (try dsimp only at hSw); go_simp; with_reducible rfl)
          (try simp only [Act.put, List.setIfInBounds_toArray, List.set_cons_zero, List.set_cons_succ])
          refine wpAnyH_take (i := 10) (oi := { dst := some 105, op := Op.load 28 (Operand.tmp 104), type := 28, pos := "law.go:356", after := #[{ on := 9, ground := Ground.data }], guard := none }) (v := ?_) rfl (by kernel_rfl) (by kernel_rfl) (by kernel_rfl) (fun _ _ _ h => h) (Or.inl ⟨by rfl, ?_⟩) (HS5.out _ BS.out) ?_
          rotate_left
          · (intro w hSw; (try dsimp only at hSw); go_simp; with_reducible rfl)
          (try simp only [Act.put, List.setIfInBounds_toArray, List.set_cons_zero, List.set_cons_succ])
          refine wpAnyH_take (i := 12) (oi := { dst := some 107, op := Op.fieldAddr 30 (Operand.tmp 8) 2, type := 0, pos := "law.go:356", after := #[], guard := none }) (v := ?_) rfl (by kernel_rfl) (by kernel_rfl) (by kernel_rfl) (fun _ _ _ h => h) (Or.inl ⟨by rfl, ?_⟩) (HS5.out _ BS.out) ?_
          rotate_left
          · (intro w hSw; (try dsimp only at hSw); go_simp; with_reducible rfl)
          (try simp only [Act.put, List.setIfInBounds_toArray, List.set_cons_zero, List.set_cons_succ])
          refine wpAnyH_take (i := 13) (oi := { dst := some 108, op := Op.load 28 (Operand.tmp 107), type := 28, pos := "law.go:356", after := #[{ on := 12, ground := Ground.data }], guard := none }) (v := ?_) rfl (by kernel_rfl) (by kernel_rfl) (by kernel_rfl) (fun _ _ _ h => h) (Or.inl ⟨by rfl, ?_⟩) (HS5.out _ BS.out) ?_
          rotate_left
          · (intro w hSw; (try dsimp only at hSw); go_simp; with_reducible rfl)
          (try simp only [Act.put, List.setIfInBounds_toArray, List.set_cons_zero, List.set_cons_succ])
          repeat' (first
            | (exact AllReadyH.nil)
            | (refine AllReadyH.cons (i := 4) (o := { dst := some 99, op := Op.call { callee := Callee.value (Operand.func 27), args := #[Operand.tmp 98], argTypes := #[27] }, type := 27, pos := "law.go:356", after := #[{ on := 3, ground := Ground.data }], guard := none }) rfl (fun K hK => ?_) ?_; (focus (first | (go_simp; go_at_call 27; refine (clone27o (fun k => k ≠ g14) (fun k => k < wq.heap.size) (some ⟨gA, 0, none⟩) c1 C1 _ (fun k hk => j_fresh K14.out k hk) (fun k hk => ⟨Nat.lt_of_lt_of_le hk BS.out.size, by have := G14.out; omega⟩) (Kd.F_below FC1.out BS.out) hs1).mono ?_; rintro e wA ⟨v9, rfl, hN, hB⟩; obtain ⟨A9, N9, c9, rfl⟩ := N_val3 hN; have HN := Aside0.mk (Kd.N_lower hN BS.out.size); replace BS := Aside0.mk (below_step BS.out hB); replace K14 := Aside0.mk (blk_below K14.out hB); clear hN hB; refine hK.out _ _ (HS5.out _ BS.out) (fun hHeld => ?_); clear hHeld hK K; (try simp only [Act.put, List.setIfInBounds_toArray, List.set_cons_zero, List.set_cons_succ])) | (go_simp; go_at_call 27; refine (clone27o (fun _ => True) (fun k => k < wq.heap.size) (some ⟨gA, 0, none⟩) c1 C1 _ (fun _ _ => trivial) (fun k hk => ⟨Nat.lt_of_lt_of_le hk BS.out.size, trivial⟩) (Kd.F_below FC1.out BS.out) hs1).mono ?_; rintro e wA ⟨v9, rfl, hN, hB⟩; obtain ⟨A9, N9, c9, rfl⟩ := N_val3 hN; have HN := Aside0.mk (Kd.N_lower hN BS.out.size); replace BS := Aside0.mk (below_step BS.out hB); clear hN hB; refine hK.out _ _ (HS5.out _ BS.out) (fun hHeld => ?_); clear hHeld hK K; (try simp only [Act.put, List.setIfInBounds_toArray, List.set_cons_zero, List.set_cons_succ])))))
            | (refine AllReadyH.cons (i := 8) (o := { dst := some 103, op := Op.call { callee := Callee.builtin Builtin.append, args := #[Operand.tmp 99, Operand.tmp 102], argTypes := #[27, 27] }, type := 27, pos := "law.go:356", after := #[{ on := 4, ground := Ground.data }, { on := 7, ground := Ground.data }, { on := 4, ground := Ground.chain }], guard := none }) rfl (fun K hK => ?_) ?_; (focus (first | (refine Kd.N_append_rows_step (Kd.slice 25 (Kd.slice 3 (Kd.int .i64))) (w0 := wq) wq.heap.size ?_ (.tmp 99) (.tmp 102) 27 31 (.slice none 0 0) 24 ?_ ?_ ?_ ?_ ?_ ?_ (.slice A9 N9 c9) C1 (C3.drop 1) (if c2 = 1 then some ad2 else some { block := ad2.block, off := ad2.off + 1 }) (C3.length - 1) (c2 - 1) (fun k => k ≠ g14) (fun k => k < wq.heap.size) ?_ ?_ ?_ ?_ ?_ ?_ ?_ ?_ ?_ ?_; exact rfl; exact rfl; exact Try.underlying27; exact info31; exact rfl; decide; omega; exact rfl; exact rfl; exact HN.out; exact Kd.F_below FD.out BS.out; exact j_old HN.out (fun k hk => by have := G14.out; omega); exact (fun k hk => j_fresh K14.out k hk); exact BS.out; exact BS.out.size; exact PLC.out; intro v1 w2 hN hB hg hat; obtain ⟨A8, N8, c8, rfl⟩ := N_val3 hN; replace K14 := Aside0.mk (blk_grown K14.out hg (Kd.N_ne HN.out K14.out (by decide))); replace BS := Aside0.mk hB; replace HN := Aside0.mk hN; clear hN hB hg hat; refine hK.out _ _ (HS5.out _ BS.out) (fun hHeld => ?_); clear hHeld hK K; (try simp only [Act.put, List.setIfInBounds_toArray, List.set_cons_zero, List.set_cons_succ])) | (refine Kd.N_append_rows_step (Kd.slice 25 (Kd.slice 3 (Kd.int .i64))) (w0 := wq) wq.heap.size ?_ (.tmp 99) (.tmp 102) 27 31 (.slice none 0 0) 24 ?_ ?_ ?_ ?_ ?_ ?_ (.slice A9 N9 c9) C1 (C3.drop 1) (if c2 = 1 then some ad2 else some { block := ad2.block, off := ad2.off + 1 }) (C3.length - 1) (c2 - 1) (fun _ => True) (fun k => k < wq.heap.size) ?_ ?_ ?_ ?_ ?_ ?_ ?_ ?_ ?_ ?_; exact rfl; exact rfl; exact Try.underlying27; exact info31; exact rfl; decide; omega; exact rfl; exact rfl; exact HN.out; exact Kd.F_below FD.out BS.out; exact j_old HN.out (fun _ _ => trivial); exact (fun _ _ => trivial); exact BS.out; exact BS.out.size; exact PLC.out; intro v1 w2 hN hB hg hat; obtain ⟨A8, N8, c8, rfl⟩ := N_val3 hN; replace BS := Aside0.mk hB; replace HN := Aside0.mk hN; clear hN hB hg hat; refine hK.out _ _ (HS5.out _ BS.out) (fun hHeld => ?_); clear hHeld hK K; (try simp only [Act.put, List.setIfInBounds_toArray, List.set_cons_zero, List.set_cons_succ])))))
            | (refine AllReadyH.cons (i := 11) (o := { dst := some 106, op := Op.call { callee := Callee.value (Operand.func 28), args := #[Operand.tmp 105], argTypes := #[28] }, type := 28, pos := "law.go:356", after := #[{ on := 10, ground := Ground.data }, { on := 8, ground := Ground.chain }], guard := none }) rfl (fun K hK => ?_) ?_; (focus (first | (go_simp; go_at_call 28; refine (clone28o (fun k => k ≠ g14) (fun k => k < wq.heap.size) B1 d1 L1 _ (fun k hk => j_fresh K14.out k hk) (fun k hk => ⟨Nat.lt_of_lt_of_le hk BS.out.size, by have := G14.out; omega⟩) (Kd.F_below FL1.out BS.out) hs2).mono ?_; rintro e wA ⟨v9, rfl, hN, hB⟩; obtain ⟨A7, N7, c7, rfl⟩ := N_val3 hN; obtain ⟨w28, hn1, hn2, hn3, hn4⟩ := j_clone2 BS.out HN.out hB hN; replace HN := Aside0.mk hn3; have HM := Aside0.mk hn4; have B28 := Aside0.mk hn2; have S28 := Aside0.mk hn1; replace BS := Aside0.mk (below_step BS.out hB); replace K14 := Aside0.mk (blk_below K14.out hB); clear hN hB hn1 hn2 hn3 hn4; refine hK.out _ _ (HS5.out _ BS.out) (fun hHeld => ?_); clear hHeld hK K; (try simp only [Act.put, List.setIfInBounds_toArray, List.set_cons_zero, List.set_cons_succ])) | (go_simp; go_at_call 28; refine (clone28o (fun _ => True) (fun k => k < wq.heap.size) B1 d1 L1 _ (fun _ _ => trivial) (fun k hk => ⟨Nat.lt_of_lt_of_le hk BS.out.size, trivial⟩) (Kd.F_below FL1.out BS.out) hs2).mono ?_; rintro e wA ⟨v9, rfl, hN, hB⟩; obtain ⟨A7, N7, c7, rfl⟩ := N_val3 hN; obtain ⟨w28, hn1, hn2, hn3, hn4⟩ := j_clone2 BS.out HN.out hB hN; replace HN := Aside0.mk hn3; have HM := Aside0.mk hn4; have B28 := Aside0.mk hn2; have S28 := Aside0.mk hn1; replace BS := Aside0.mk (below_step BS.out hB); clear hN hB hn1 hn2 hn3 hn4; refine hK.out _ _ (HS5.out _ BS.out) (fun hHeld => ?_); clear hHeld hK K; (try simp only [Act.put, List.setIfInBounds_toArray, List.set_cons_zero, List.set_cons_succ])))))
            | (refine AllReadyH.cons (i := 14) (o := { dst := some 109, op := Op.call { callee := Callee.builtin Builtin.append, args := #[Operand.tmp 106, Operand.tmp 108], argTypes := #[28, 28] }, type := 28, pos := "law.go:356", after := #[{ on := 11, ground := Ground.data }, { on := 13, ground := Ground.data }, { on := 11, ground := Ground.chain }], guard := none }) rfl (fun K hK => ?_) ?_; (focus (first | (refine Kd.N_append_rows_step (Kd.slice 33 k33) (w0 := w28) w28.heap.size ?_ (.tmp 106) (.tmp 108) 28 34 (.slice none 0 0) 24 ?_ ?_ ?_ ?_ ?_ ?_ (.slice A7 N7 c7) L1 L3 B2 L3.length d2 (fun k => k ≠ g14) (fun k => k < wq.heap.size) ?_ ?_ ?_ ?_ ?_ ?_ ?_ ?_ ?_ ?_; exact rfl; exact rfl; exact Try.underlying28; exact info34; exact rfl; decide; omega; exact rfl; exact rfl; exact HM.out; exact Kd.F_below FL3.out BS.out; exact (fun k hk => ⟨by have := G14.out; omega, (j_old (ok' := fun _ => True) HM.out (fun _ _ => trivial) k (Nat.lt_of_lt_of_le hk S28.out.size)).2⟩); exact (fun k hk => j_fresh K14.out k hk); exact B28.out; exact B28.out.size; exact PLL.out; intro v1 w2 hN hB hg hat; obtain ⟨A6, N6, c6, rfl⟩ := N_val3 hN; replace K14 := Aside0.mk (blk_grown K14.out hg (Kd.N_ne HM.out K14.out (by decide))); replace HN := Aside0.mk (j_apart HN.out HM.out hg); replace HM := Aside0.mk hN; replace B28 := Aside0.mk hB; replace BS := Aside0.mk (below_step S28.out hB); clear hN hB hg hat; refine hK.out _ _ (HS5.out _ BS.out) (fun hHeld => ?_); clear hHeld hK K; (try simp only [Act.put, List.setIfInBounds_toArray, List.set_cons_zero, List.set_cons_succ])) | (refine Kd.N_append_rows_step (Kd.slice 33 k33) (w0 := w28) w28.heap.size ?_ (.tmp 106) (.tmp 108) 28 34 (.slice none 0 0) 24 ?_ ?_ ?_ ?_ ?_ ?_ (.slice A7 N7 c7) L1 L3 B2 L3.length d2 (fun _ => True) (fun k => k < wq.heap.size) ?_ ?_ ?_ ?_ ?_ ?_ ?_ ?_ ?_ ?_; exact rfl; exact rfl; exact Try.underlying28; exact info34; exact rfl; decide; omega; exact rfl; exact rfl; exact HM.out; exact Kd.F_below FL3.out BS.out; exact (fun k hk => ⟨trivial, (j_old (ok' := fun _ => True) HM.out (fun _ _ => trivial) k (Nat.lt_of_lt_of_le hk S28.out.size)).2⟩); exact (fun _ _ => trivial); exact B28.out; exact B28.out.size; exact PLL.out; intro v1 w2 hN hB hg hat; obtain ⟨A6, N6, c6, rfl⟩ := N_val3 hN; replace HN := Aside0.mk (j_apart HN.out HM.out hg); replace HM := Aside0.mk hN; replace B28 := Aside0.mk hB; replace BS := Aside0.mk (below_step S28.out hB); clear hN hB hg hat; refine hK.out _ _ (HS5.out _ BS.out) (fun hHeld => ?_); clear hHeld hK K; (try simp only [Act.put, List.setIfInBounds_toArray, List.set_cons_zero, List.set_cons_succ])))))
            | (refine AllReadyH.cons (i := 16) (o := { dst := some 14, op := Op.alloc 30, type := 0, pos := "law.go:356", after := #[], guard := none }) rfl (fun K hK => ?_) ?_; (focus (refine step_alloc30 14 rfl rfl rfl (fun g14 w' hg hB hk => ?_); have G14 := Aside0.mk (show wq.heap.size ≤ g14 from hg ▸ BS.out.size); (first | (replace HM := Aside0.mk (Kd.N_mono (j_al HM.out hg hB) (fun k hk => hk.1)); replace HN := Aside0.mk (Kd.N_mono (j_al HN.out hg hB) (fun k hk => (⟨hk.1, hk.2.2⟩ : k ≠ g14 ∧ k < w28.heap.size))); replace B28 := Aside0.mk (below_step B28.out hB)) | (replace HN := Aside0.mk (Kd.N_mono (j_al HN.out hg hB) (fun k hk => hk.1))) | skip); replace BS := Aside0.mk (below_step BS.out hB); have K14 := Aside0.mk hk; clear hg hB hk; refine hK.out _ _ (HS5.out _ BS.out) (fun hHeld => ?_); clear hHeld hK K; (try simp only [Act.put, List.setIfInBounds_toArray, List.set_cons_zero, List.set_cons_succ]))))
            | (refine AllReadyH.cons (i := 17) (o := { dst := none, op := Op.store 30 (Operand.tmp 14) (Operand.tmp 110), type := 0, pos := "law.go:356", after := #[{ on := 16, ground := Ground.data }, { on := 15, ground := Ground.data }, { on := 14, ground := Ground.chain }, { on := 0, ground := Ground.phase }, { on := 1, ground := Ground.phase }, { on := 2, ground := Ground.phase }, { on := 3, ground := Ground.phase }, { on := 4, ground := Ground.phase }, { on := 5, ground := Ground.phase }, { on := 6, ground := Ground.phase }, { on := 7, ground := Ground.phase }, { on := 8, ground := Ground.phase }, { on := 9, ground := Ground.phase }, { on := 10, ground := Ground.phase }, { on := 11, ground := Ground.phase }, { on := 12, ground := Ground.phase }, { on := 13, ground := Ground.phase }, { on := 14, ground := Ground.phase }, { on := 15, ground := Ground.phase }, { on := 16, ground := Ground.phase }], guard := none }) rfl (fun K hK => ?_) ?_; (focus (refine step_store30 rfl rfl 14 110 rfl rfl rfl K14.out (fun w' hk hk' hB' => ?_); replace HN := Aside0.mk (Kd.N_step HN.out (fun k hk2 _ => hk' k hk2.1)); replace HM := Aside0.mk (Kd.N_step HM.out (fun k hk2 _ => hk' k hk2)); replace K14 := Aside0.mk hk; replace BS := Aside0.mk (hB' _ _ BS.out G14.out); clear hk hk' hB'; refine hK.out _ _ (HS5.out _ BS.out) (fun hHeld => ?_); clear hHeld hK K; (try simp only [Act.put, List.setIfInBounds_toArray, List.set_cons_zero, List.set_cons_succ]))))
            | (refine wpAnyH_ready (rs := [4, 16]) ?_ (by simp) ?_; (focus (decide +kernel)))
            | (refine wpAnyH_ready (rs := [4]) ?_ (by simp) ?_; (focus (decide +kernel)))
            | (refine wpAnyH_ready (rs := [8, 16]) ?_ (by simp) ?_; (focus (decide +kernel)))
            | (refine wpAnyH_ready (rs := [8]) ?_ (by simp) ?_; (focus (decide +kernel)))
            | (refine wpAnyH_ready (rs := [11, 16]) ?_ (by simp) ?_; (focus (decide +kernel)))
            | (refine wpAnyH_ready (rs := [11]) ?_ (by simp) ?_; (focus (decide +kernel)))
            | (refine wpAnyH_ready (rs := [14, 16]) ?_ (by simp) ?_; (focus (decide +kernel)))
            | (refine wpAnyH_ready (rs := [14]) ?_ (by simp) ?_; (focus (decide +kernel)))
            | (refine wpAnyH_ready (rs := [16]) ?_ (by simp) ?_; (focus (decide +kernel)))
            | (refine wpAnyH_ready (rs := [17]) ?_ (by simp) ?_; (focus (decide +kernel)))
            | (refine wpAnyH_take (i := 15) (oi := { dst := some 110, op := Op.build 30 #[(0, Operand.tmp 96), (1, Operand.tmp 103), (2, Operand.tmp 109)], type := 30, pos := "law.go:356", after := #[{ on := 1, ground := Ground.data }, { on := 8, ground := Ground.data }, { on := 14, ground := Ground.data }], guard := none }) (v := ?_) rfl ?_ ?_ ?_ (fun _ _ _ h => h) (Or.inl ⟨by rfl, ?_⟩) (HS5.out _ BS.out) ?_; rotate_left; (focus (decide +kernel)); (focus (decide +kernel)); (focus (decide +kernel)); (focus (intro w hSw; (try dsimp only at hSw); go_simp; with_reducible rfl)); (try simp only [Act.put, List.setIfInBounds_toArray, List.set_cons_zero, List.set_cons_succ]))
            | (refine wpAnyH_done ?_ ?_ _; (focus (decide +kernel)); refine hK0 _ _ (Met.intro (hJ0 _ _ ?_)); (repeat apply Exists.intro); refine ⟨?_, rfl⟩; (have HNx := HN.out; have HMx := HM.out; rw [← HCJ.out.1] at HNx; rw [← HCJ.out.2] at HMx; exact j_leaf BS.out K14.out HNx HMx)))
        case rest =>
          obtain ⟨g14, AX, cX, AY, cY, rfl, HW⟩ := hcut
          obtain ⟨k1, hk1⟩ := (bw_Drift W1.out (by omega)).rounds
          obtain ⟨k2, hk2⟩ := (bw_Drift W3.out (by omega)).rounds
          obtain ⟨k3, hk3⟩ := (bw_Drift JB.out (by omega)).rounds
          obtain ⟨k4, hk4⟩ := JA.out.rounds
          obtain ⟨k5, hk5⟩ := (eq_ev (dW CJ LJ) (dW CJ LJ) (by rw [dW_len]; decide)).rounds
          rw [decide_eq_true rfl] at hk5
          have BN := Aside0.mk (below_step BQ.out HW.out.bel)
          have BM := Aside0.mk (below_step BV.out HW.out.bel)
          have HSM := Lib.hid (same_alike (some ⟨gp, 0, none⟩) A A' (some ⟨gp1, 0, none⟩) AX AY cp c c' 3 cX cY [2, 3, 5] CJ LJ wc (Kd.C_below UJ.out.1 BM.out) UJ.out.2.1 (Kd.C_below UJ.out.2.2.1 BM.out) (Kd.C_below UJ.out.2.2.2.2.1 BM.out) (Kd.C_below CW.out.1.1 BN.out) (Nat.le_refl _) HW.out.c HW.out.l primes45')
          have HD1 := Lib.hid (fun (W : World) (hW : Below wc.heap.size wc W) => drift_Drift.calls k1 (some ⟨gp1, 0, none⟩) 3 [2, 3, 5] (some ⟨gA, 0, none⟩) c1 C1 B1 d1 L1 (dW C1 L1) 0 W (Kd.C_below CW.out.1.1 (below_step BN.out hW)) (Nat.le_refl _) (Kd.C_below CW.out.1.2.1 (below_step BN.out hW)) CW.out.1.2.2.1 (Kd.C_below CW.out.1.2.2.2.1 (below_step BN.out hW)) CW.out.1.2.2.2.2 hk1)
          have HD2 := Lib.hid (fun (W : World) (hW : Below wc.heap.size wc W) => drift_Drift.calls k2 (some ⟨gp2, 0, none⟩) 3 [2, 3, 5] (some ad2) c2 C3 B2 d2 L3 (dW C3 L3) 0 W (Kd.C_below CW.out.2.1 (below_step BN.out hW)) (Nat.le_refl _) (Kd.C_below CW.out.2.2.1 (below_step BN.out hW)) CW.out.2.2.2.1 (Kd.C_below CW.out.2.2.2.2.1 (below_step BN.out hW)) CW.out.2.2.2.2.2 hk2)
          have HD3 := Lib.hid (fun (W : World) (hW : Below wc.heap.size wc W) => drift_Drift.calls k3 (some ⟨gp, 0, none⟩) cp [2, 3, 5] A c CJ A' c' LJ (dW CJ LJ) 0 W (Kd.C_below UJ.out.1 (below_step BM.out hW)) UJ.out.2.1 (Kd.C_below UJ.out.2.2.1 (below_step BM.out hW)) UJ.out.2.2.2.1 (Kd.C_below UJ.out.2.2.2.2.1 (below_step BM.out hW)) UJ.out.2.2.2.2.2 hk3)
          have K4 := Aside0.mk hk4
          have K5 := Aside0.mk hk5
          have X7 := Aside0.mk (blk_below K7.out HW.out.bel)
          have X8 := Aside0.mk (blk_below K8.out HW.out.bel)
          have XU := Aside0.mk (blk_below KU.out HW.out.bel)
          have u0 := blk_cell XU.out 0
          have u1 := blk_cell XU.out 1
          have u2 := blk_cell XU.out 2
          have n0 := blk_cell HW.out.k 0
          have n1' := blk_cell HW.out.k 1
          have n2 := blk_cell HW.out.k 2
          simp only [List.getElem?_toArray, List.getElem?_cons_zero, List.getElem?_cons_succ] at u0 u1 u2 n0 n1' n2
          clear hk1 hk2 hk3 hk4 hk5
          go_wp2_with fail
          refine HSM.out.mono ?_
          rintro e wa ⟨rfl, hBa⟩
          have Ba := Aside0.mk hBa
          have Y8 := Aside0.mk (blk_below X8.out hBa)
          have YU := Aside0.mk (blk_below XU.out hBa)
          have y7 := blk_below X7.out hBa
          clear u0 u1 u2 n0 n1' n2 hBa
          have e0 := blk_cell y7 0
          have e1 := blk_cell y7 1
          have e2 := blk_cell y7 2
          simp only [List.getElem?_toArray, List.getElem?_cons_zero, List.getElem?_cons_succ] at e0 e1 e2
          clear y7
          go_wp2_with fail
          refine (HD1.out _ Ba.out).mono ?_
          rintro e wd1 ⟨vd, rfl, hd, hBd⟩
          obtain ⟨Ad, cd, rfl⟩ := Kd.V_slice hd
          have RD := Aside0.mk (Kd.V_reads' hd)
          have Bd := Aside0.mk (below_step Ba.out hBd)
          have Z8 := Aside0.mk (blk_below Y8.out hBd)
          have ZU := Aside0.mk (blk_below YU.out hBd)
          clear hBd hd e0 e1 e2
          have e0 := blk_cell Z8.out 0
          have e1 := blk_cell Z8.out 1
          have e2 := blk_cell Z8.out 2
          simp only [List.getElem?_toArray, List.getElem?_cons_zero, List.getElem?_cons_succ] at e0 e1 e2
          go_wp2_with fail
          refine (HD2.out _ Bd.out).mono ?_
          rintro e wd2 ⟨vu, rfl, hu, hBu⟩
          obtain ⟨Au, cu, rfl⟩ := Kd.V_slice hu
          have RU := Aside0.mk (Kd.V_reads' hu)
          have Tu := Aside0.mk hBu
          have Bu := Aside0.mk (below_step Bd.out hBu)
          have zu := blk_below ZU.out hBu
          clear hBu hu e0 e1 e2
          have e0 := blk_cell zu 0
          have e1 := blk_cell zu 1
          have e2 := blk_cell zu 2
          simp only [List.getElem?_toArray, List.getElem?_cons_zero, List.getElem?_cons_succ] at e0 e1 e2
          clear zu
          go_wp2_with fail
          refine (HD3.out _ Bu.out).mono ?_
          rintro e wd3 ⟨vz, rfl, hz, hBz⟩
          obtain ⟨Az, cz, rfl⟩ := Kd.V_slice hz
          have RZ := Aside0.mk (Kd.V_reads' hz)
          have Tz := Aside0.mk hBz
          have Bz := Aside0.mk (below_step Bu.out hBz)
          clear hBz hz e0 e1 e2
          go_wp2_with fail
          refine (schismalaw51_add.calls k4 Ad cd (dW C1 L1) Au cu (dW C3 L3) (dW CJ LJ) wd3 (Kd.C_below RD.out.2.2 (below_step Tu.out Tz.out)) RD.out.2.1 (Kd.C_below RU.out.2.2 Tz.out) RU.out.2.1 K4.out).mono ?_
          rintro e ws ⟨vs, rfl, hs, hBs⟩
          obtain ⟨As, cs', rfl⟩ := Kd.R_slice hs
          have RS := Aside0.mk (Kd.R_reads' hs)
          have Bs := Aside0.mk hBs
          clear hs hBs
          go_wp2_with fail
          refine (api_Row_int_12.calls k5 Az cz (dW CJ LJ) As cs' (dW CJ LJ) true ws (Kd.C_below RZ.out.2.2 Bs.out) RZ.out.2.1 RS.out.2.2 RS.out.2.1 K5.out).mono ?_
          rintro e wf ⟨rfl, ⟨nf, rfl⟩⟩
          have BF := Aside0.mk (below_step HB.out (below_step H3.out.bel (below_step BN.out (pw_below_drewN (below_step Bz.out Bs.out) nf))))
          go_wp2
          go_ret
          exact ⟨rfl, BF.out⟩
end Go.Proofs.Ytdcpmggjhmdmmaa.X

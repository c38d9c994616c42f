-- what is used of it (wip/tools/slim.py)
/- Make, told with the blocks of its rows (function 13). -/
import Derived.Test.YtdcpmggjhmdmmaaJDMake
import Derived.Test.YtdcpmggjhmdmmaaJDMsG
namespace Go.Proofs.Ytdcpmggjhmdmmaa.X
open Go.RowKit Go.Proofs.YtdcpmggjhmdmmaaW.PrintWords Go.Proofs.YtdcpmggjhmdmmaaW.PrintLast Go.Proofs.YtdcpmggjhmdmmaaW.PrintMore
set_option linter.unusedVariables false
theorem MG.start' {w6 : World} {gr gw gp : Nat} (h1 : gr = w6.heap.size) (h2 : gp = w6.heap.size + 1) (h3 : gw = w6.heap.size + 1 + 1) : MG w6 gr gw gp [] [] [] (.slice none 0 0) (.slice none 0 0)
    (((w6.alloc (.cells #[.slice none 0 0, .slice none 0 0, .slice none 0 0] 30)).alloc (.cells #[.int .i64 2, .int .i64 3, .int .i64 5] 3)).alloc (.cells #[.slice (some ⟨gp, 0, none⟩) 3 3, .slice none 0 0, .slice none 0 0] 30)) := by
  subst h1 h2 h3
  exact MG.start w6
theorem fkT_row3 {wr : World} {S : List (Option Nat)} (o1 : Obj) (a b c : Int) (h1 : some (wr.heap.size + 1) ∉ S) :
    Kd.FK dT ((wr.alloc o1).alloc (.cells #[.int .i64 a, .int .i64 b, .int .i64 c] 3)) (Out S) [a, b, c] [.slice (some ⟨wr.heap.size + 1, 0, none⟩) 3 3] := by
  have b1 := blk_new (wr.alloc o1) (.cells #[.int .i64 a, .int .i64 b, .int .i64 c] 3)
  simp only [show ∀ (w : World) (o : Obj), (w.alloc o).heap.size = w.heap.size + 1 from fun w o => by simp] at b1
  exact FKT_lit b1 h1 a b c
theorem MG.fresh {w6 wr : World} {gr gw gp : Nat} {T : List (Option Nat)} {C : List (List (List Int))} {L : List (List S33 × Nat)} {vC vL : Value} (h : MG w6 gr gw gp T C L vC vL wr) (q : Nat) (hq : wr.heap.size ≤ q) : some q ∉ [some gw, some gr, vC.ownBlock, vL.ownBlock] := by
  have h1 := h.ltr
  have h2 := h.ltw
  simp only [List.mem_cons, List.not_mem_nil, or_false, not_or]
  exact ⟨by simp; omega, by simp; omega, ne_own h.C q hq, ne_own h.L q hq⟩
/-- the lists of links with their blocks, which rise -/
structure GOk (base : Nat) (G : List (List S33 × Nat)) (L : List (List S33)) : Prop where
  map : G.map Prod.fst = L
  pw : G.Pairwise (fun a b => a.2 < b.2)
  ge : ∀ x ∈ G, base ≤ x.2
theorem GOk.nil (base : Nat) : GOk base [] [] := ⟨rfl, List.Pairwise.nil, fun x hx => absurd hx (by simp)⟩
theorem GOk.len {base : Nat} {G : List (List S33 × Nat)} {L : List (List S33)} (h : GOk base G L) : G.length = L.length := by rw [← h.map, List.length_map]
theorem GOk.snoc {base g : Nat} {G : List (List S33 × Nat)} {L : List (List S33)} {x : List S33} (h : GOk base G L) (h1 : ∀ y ∈ G, y.2 < g) (h2 : base ≤ g) : GOk base (G ++ [(x, g)]) (L ++ [x]) := by
  refine ⟨by rw [List.map_append, h.map]; rfl, ?_, fun y hy => ?_⟩
  · rw [List.pairwise_append]
    refine ⟨h.pw, List.pairwise_singleton _ _, fun a ha b hb => ?_⟩
    obtain rfl := List.mem_singleton.1 hb
    exact h1 a ha
  · rcases List.mem_append.1 hy with hy | hy
    · exact h.ge y hy
    · obtain rfl := List.mem_singleton.1 hy
      exact h2
theorem GOk.lower {base b' : Nat} {G : List (List S33 × Nat)} {L : List (List S33)} (h : GOk base G L) (hb : b' ≤ base) : GOk b' G L := ⟨h.map, h.pw, fun x hx => Nat.le_trans hb (h.ge x hx)⟩
theorem N_glt {e base : Nat} {ok : Nat → Prop} {wr : World} {v : Value} {G : List (List S33 × Nat)} (h : Kd.N dG e wr base ok v G) (x : List S33 × Nat) (hx : x ∈ G) : x.2 < wr.heap.size := by
  obtain ⟨j, hj, rfl⟩ := List.getElem_of_mem hx
  obtain ⟨_, rows, hl, _, hf⟩ := h
  obtain ⟨c, cells, -, -, -, hb⟩ := Kd.FK_now (hf j _ rows[j] (List.getElem?_eq_getElem hj) (List.getElem?_eq_getElem (by omega)))
  exact (Array.getElem?_eq_some_iff.1 hb).1
theorem MG.glt {w6 wr : World} {gr gw gp : Nat} {T : List (Option Nat)} {C : List (List (List Int))} {L : List (List S33 × Nat)} {vC vL : Value} (h : MG w6 gr gw gp T C L vC vL wr) (x : List S33 × Nat) (hx : x ∈ L) : x.2 < wr.heap.size := N_glt h.L x hx
theorem chord_lenG {f : Nat → Int} {i base : Nat} {ok : Nat → Prop} {W : World} {v : Value} (hi : i ≠ 0) (h : Kd.N dCh 31 W base ok v (mkC f (i + 1))) :
    ∃ g cap A c, v = .slice (some ⟨g, 0, none⟩) (i + 1) cap ∧ W.cell? ⟨g, i - 1, none⟩ = some (.slice A (nNt f (i - 1)) c) := by
  have hl : (mkC f (i + 1)).length = i + 1 := by simp [mkC]
  obtain ⟨g, cap, rfl, -, -, -⟩ := Kd.N_form h (by omega)
  obtain ⟨c, hc, hF, hcell, -⟩ := Kd.N_elem h [] ((i - 1 : Nat) : Int) (by omega) (by omega)
  obtain ⟨A, cc, rfl, -, -, -⟩ := Kd.FK_now hF
  have h1 := hcell 0 _ rfl
  rw [show ((mkC f (i + 1)).getD (((i - 1 : Nat) : Int)).toNat []).length = nNt f (i - 1) from by
    rw [Int.toNat_natCast, List.getD_eq_getElem?_getD]
    have h2 : i - 1 < i + 1 := by omega
    simp [mkC, nts, List.getElem?_map, List.getElem?_range h2]] at h1
  rw [Nat.add_zero, show dCh.sz = 1 from rfl, Nat.mul_one, Int.toNat_natCast] at h1
  rw [hl]
  exact ⟨g, cap, A, cc, rfl, h1⟩
set_option maxRecDepth 100000 in
set_option maxHeartbeats 20000000 in
theorem makeG_walk (cs : Array Value) (f : Nat → Int) (hp : PlanOk cs f) (w : World) : Calls Try.prog 13 #[.agg cs] w fun e w' => ∃ gp vC vL G, e = .returned (.agg #[.slice (some ⟨gp, 0, none⟩) 3 3, vC, vL]) ∧ Below w.heap.size w w' ∧ GOk w.heap.size G (mkL f (nCh f - 1)) ∧ Kd.FK dT w' (Out [vC.ownBlock, vL.ownBlock]) [2, 3, 5] [.slice (some ⟨gp, 0, none⟩) 3 3] ∧ Kd.N dCh 31 w' w.heap.size (Out [vL.ownBlock]) vC (mkC f (nCh f)) ∧ Kd.N dG 34 w' w.heap.size (Out [vC.ownBlock]) vL G := by
  have hu30 := Try.underlying30
  have hu53 := Try.underlying53
  have HP := Aside0.mk hp
  obtain ⟨u0, u1⟩ := hp.u 0 (by omega)
  clear hp
  go_enter Try.func13, Try.ntmps13
  go_upto_region 1 with ((with_reducible refine gate_dst (N := 1) rfl ?_); refine box_event ?hg (N := 1) ?hd (cs := cs) (t := 53) ?hr ?_; (case hd => rfl); (case hg => rfl); (case hr => first | (go_simp; done) | (go_simp; rfl)); intro gb hgb w6 hbox hb; have HBX := Aside0.mk hbox; have HB6 := Aside0.mk hb; have HGB := Aside0.mk hgb; clear hbox hb hgb)
  have e0 := fun (o1 o2 o3 : Obj) => plan_cell HP.out HBX.out (below_alloc (below_alloc (below_alloc (Below.refl _ _) o1) o2) o3) 0 (by omega)
  rw [show kdp 0 = .u8 from rfl] at e0
  go_wp2
  obtain ⟨m, hm, hm1, hm5⟩ : ∃ m : Nat, 1 + f 0 % 5 = (m : Int) ∧ m = nCh f ∧ m ≤ 5 := ⟨nCh f, by unfold nCh; omega, rfl, by unfold nCh; omega⟩
  rw [hm]
  have HMC := Aside0.mk hm1
  clear e0 hm hm1 u0 u1
  obtain ⟨gw, hgw⟩ : ∃ gw, gw = w6.heap.size + 1 + 1 := ⟨_, rfl⟩
  obtain ⟨gp, hgp⟩ : ∃ gp, gp = w6.heap.size + 1 := ⟨_, rfl⟩
  obtain ⟨gr, hgr⟩ : ∃ gr, gr = w6.heap.size := ⟨_, rfl⟩
  have HM' := Aside0.mk (MG.start' hgr hgp hgw)
  have HG := Aside0.mk (And.intro hgr (And.intro hgp hgw))
  rw [← hgw, ← hgp, ← hgr]
  clear hgw hgp hgr
  go_loopw [18] (fun v wr => ∃ (i : Nat) (vC vL : Value) (G : List (List S33 × Nat)), i ≤ m ∧ v = .int .i64 i ∧ Aside0 (GOk w6.heap.size G (mkL f (i - 1))) ∧ Aside0 (MG w6 gr gw gp [] (mkC f i) G vC vL wr)) (fun v _ => m - (intOf v).toNat)
  case atStart => exact ⟨0, _, _, _, Nat.zero_le _, rfl, ⟨GOk.nil _⟩, HM'⟩
  case round =>
    obtain ⟨i, vC, vL, G, hi, rfl, HGO, HSt⟩ := hrel
    clear HM'
    by_cases hlt : i < m
    · have hi5 : i < 5 := by omega
      have e1 := plan_cell HP.out HBX.out HSt.out.bel (1 + i) (by omega)
      rw [show kdp (1 + i) = .u8 from if_pos (.inl (by omega))] at e1
      obtain ⟨u0, u1⟩ := HP.out.u (1 + i) (by omega)
      go_wp2
      obtain ⟨cN, hcN, hcE, hc3⟩ : ∃ c : Nat, 1 + f (1 + i) % 3 = (c : Int) ∧ c = nNt f i ∧ c ≤ 3 := ⟨nNt f i, by unfold nNt; omega, rfl, by unfold nNt; omega⟩
      rw [hcN]
      have HCN := Aside0.mk hcE
      clear hcN hcE u0 u1 e1
      go_loopw [5, 28] (fun v5 v wr => ∃ (k : Nat), k ≤ cN ∧ v = .int .i64 k ∧ Aside0 (MG w6 gr gw gp [v5.ownBlock] (mkC f i) G vC vL wr ∧ Kd.N dT 25 wr w6.heap.size (Out [some gw, some gr, vC.ownBlock, vL.ownBlock]) v5 (nts f i k))) (fun _ v _ => cN - (intOf v).toNat)
      case atStart => exact ⟨0, Nat.zero_le _, rfl, ⟨HSt.out.nil, Kd.N_nil _ _ _ _ _⟩⟩
      case round =>
        rename_i wr1 _
        obtain ⟨k, hk, rfl, HI⟩ := hrel
        by_cases hkl : k < cN
        · have q0 := plan_cell HP.out HBX.out HI.out.1.bel (6 + i * 9 + k * 3) (by omega)
          have q1 := plan_cell HP.out HBX.out HI.out.1.bel (6 + i * 9 + k * 3 + 1) (by omega)
          have q2 := plan_cell HP.out HBX.out HI.out.1.bel (6 + i * 9 + k * 3 + 2) (by omega)
          have hkd : ∀ j, 6 ≤ j → j < 51 → kdp j = .i8 := fun j h1 h2 => if_neg (by omega)
          rw [hkd _ (by omega) (by omega)] at q0 q1 q2
          clear hkd
          obtain ⟨z0, y0⟩ := HP.out.i (6 + i * 9 + k * 3) (by omega) (by omega)
          obtain ⟨z1, y1⟩ := HP.out.i (6 + i * 9 + k * 3 + 1) (by omega) (by omega)
          obtain ⟨z2, y2⟩ := HP.out.i (6 + i * 9 + k * 3 + 2) (by omega) (by omega)
          obtain ⟨A5, N5, c5, rfl⟩ := N_val3 HI.out.2
          have nF := HI.out.1.fresh
          have n5 := fun q hq => ne_own HI.out.2 q hq
          have hsz : Aside0 (∀ o1 o2, ((wr.alloc o1).alloc o2).heap.size = wr.heap.size + 1 + 1) := ⟨fun o1 o2 => by simp⟩
          have PK := Aside0.mk (fun (o1 : Obj) (a b c : Int) => fkT_row3 (wr := wr) (S := [some gw, some gr, vC.ownBlock, vL.ownBlock, (Value.slice A5 N5 c5).ownBlock]) o1 a b c (by
            have h1 := nF (wr.heap.size + 1) (by omega)
            have h2 := n5 (wr.heap.size + 1) (by omega)
            simp only [List.mem_cons, List.not_mem_nil, or_false, not_or] at h1 ⊢
            exact ⟨h1.1, h1.2.1, h1.2.2.1, h1.2.2.2, h2⟩))
          have PO := Aside0.mk (fun (o1 o2 : Obj) => HI.out.1.later (below_alloc (below_alloc (Below.refl _ _) o1) o2))
          have PN := Aside0.mk (fun (o1 o2 : Obj) => Kd.N_alloc (Kd.N_alloc HI.out.2 o1) o2)
          have PF := Aside0.mk (show ∀ (o1 o2 : Obj) q, ((wr.alloc o1).alloc o2).heap.size ≤ q → Out [some gw, some gr, vC.ownBlock, vL.ownBlock] q from fun o1 o2 q hq => nF q (by rw [hsz.out] at hq; omega))
          have PL := Aside0.mk (show ((nts f i k).length + 1) * 24 ≤ 140737488355328 by simp [nts]; omega)
          have PA := Aside0.mk (show ∀ q, Out [some gw, some gr, vC.ownBlock, vL.ownBlock, (Value.slice A5 N5 c5).ownBlock] q → Out [some gw, some gr, vC.ownBlock, vL.ownBlock] q ∧ some q ≠ (Value.slice A5 N5 c5).ownBlock from fun q hq => by
            simp only [Out, List.mem_cons, List.not_mem_nil, or_false, not_or] at hq ⊢
            exact ⟨⟨hq.1, hq.2.1, hq.2.2.1, hq.2.2.2.1⟩, hq.2.2.2.2⟩)
          clear nF n5
          go_wp2_with (first | ((with_reducible refine gate_builtin (b := .append) (xs := #[.tmp 37, .tmp 51]) rfl ?_); at_builtin; (refine Kd.N_append dT (w0 := w6) w6.heap.size ?_ (.tmp 37) (.tmp 51) 31 25 (.slice none 0 0) 24 ?_ ?_ ?_ ?_ ?_ ?_ (.slice A5 N5 c5) (nts f i k) (nt f i k) [.slice (some ⟨wr.heap.size + 1, 0, none⟩) 3 3] (Out [some gw, some gr, vC.ownBlock, vL.ownBlock]) (Out [some gw, some gr, vC.ownBlock, vL.ownBlock, (Value.slice A5 N5 c5).ownBlock]) ?_ ?_ ?_ ?_ ?_ ?_ ?_ ?_ ?_ ?_; exact rfl; exact rfl; exact Try.underlying31; exact info25; exact rfl; decide; omega; exact rfl; rw [hsz.out]; exact rfl; exact PK.out _ _ _ _; exact PA.out; exact PF.out _ _; exact PN.out _ _; exact (PO.out _ _).bel; exact (PO.out _ _).bel.size; exact PL.out; intro v1 w2 hN hB hg hat; have HN := Aside0.mk (And.intro ((PO.out _ _).grown hg hB hat (Kd.N_lt hN)) hN); clear hN hB hg hat)))
          go_roundw
          case rel => exact ⟨k + 1, by omega, by go_num, by rw [← nts_succ]; exact HN⟩
          case measure => simp [intOf]; omega
        · obtain rfl : k = cN := by omega
          go_upto_region 12 with (fail)
          go_cut [4] (fun v4 wc => ∃ (vC1 : Value), v4 = .int .i64 i ∧ Aside0 (MG w6 gr gw gp [] (mkC f (i + 1)) G vC1 vL wc))
          case first =>
            have HM := Aside0.mk HI.out.1.drop
            have nF := HI.out.1.fresh
            obtain ⟨A5, N5, c5, rfl⟩ := N_val3 HI.out.2
            obtain ⟨AC, NC, cC, rfl⟩ := N_val3 HI.out.1.C
            have hbk := HM.out.box
            have e1 := blk_cell hbk 1
            simp only [List.getElem?_toArray, List.getElem?_cons_zero, List.getElem?_cons_succ] at e1
            clear hbk
            have PK := Aside0.mk (show Kd.FK dCh wr (Out [some gw, some gr, (Value.slice AC NC cC).ownBlock, vL.ownBlock]) (nts f i k) [.slice A5 N5 c5] from by
              have h1 := (Kd.N_reads' HI.out.2).1
              subst h1
              exact FKCh_mk HI.out.2)
            have PF := Aside0.mk (show ∀ q, wr.heap.size ≤ q → Out [some gw, some gr, vL.ownBlock] q from fun q hq => by
              have h1 := nF q hq
              simp only [Out, List.mem_cons, List.not_mem_nil, or_false, not_or] at h1 ⊢
              exact ⟨h1.1, h1.2.1, h1.2.2.2⟩)
            have PL := Aside0.mk (show ((mkC f i).length + 1) * 24 ≤ 140737488355328 by simp [mkC]; omega)
            have PA := Aside0.mk (show ∀ q, Out [some gw, some gr, (Value.slice AC NC cC).ownBlock, vL.ownBlock] q → Out [some gw, some gr, vL.ownBlock] q ∧ some q ≠ (Value.slice AC NC cC).ownBlock from fun q hq => by
              simp only [Out, List.mem_cons, List.not_mem_nil, or_false, not_or] at hq ⊢
              exact ⟨⟨hq.1, hq.2.1, hq.2.2.2⟩, hq.2.2.1⟩)
            clear nF
            go_wp2_with (first | ((with_reducible refine gate_builtin (b := .append) (xs := #[.tmp 55, .tmp 57]) rfl ?_); at_builtin; (refine Kd.N_append dCh (w0 := w6) w6.heap.size ?_ (.tmp 55) (.tmp 57) 27 31 (.slice none 0 0) 24 ?_ ?_ ?_ ?_ ?_ ?_ (.slice AC NC cC) (mkC f i) (nts f i k) [.slice A5 N5 c5] (Out [some gw, some gr, vL.ownBlock]) (Out [some gw, some gr, (Value.slice AC NC cC).ownBlock, vL.ownBlock]) ?_ ?_ ?_ ?_ ?_ ?_ ?_ ?_ ?_ ?_; exact rfl; exact rfl; exact Try.underlying27; exact info31; exact rfl; decide; omega; exact rfl; exact rfl; exact PK.out; exact PA.out; exact PF.out; exact HM.out.C; exact HM.out.bel; exact HM.out.bel.size; exact PL.out; intro v1 w2 hN hB hg hat; obtain ⟨A1, N1, c1, rfl⟩ := N_val3 hN; have HN := Aside0.mk (HM.out.stepC hN hB hg hat); have hbk := (HM.out.keepC hg).1; have e1 := blk_cell hbk 1; have f1 := blk_frozen hbk 1; simp only [List.getElem?_toArray, List.getElem?_cons_zero, List.getElem?_cons_succ] at e1; clear hN hB hg hat hbk)))
            go_meet
            case rel => exact ⟨_, rfl, by rw [← mkC_succ, ← HCN.out]; exact HN⟩
          case rest =>
            obtain ⟨vC1, rfl, HN⟩ := hcut
            obtain ⟨A5, N5, c5, rfl⟩ := N_val3 HI.out.2
            have hN5 : N5 = k := by
              have h1 := (Kd.N_reads' HI.out.2).1
              simpa [nts] using h1
            subst hN5
            by_cases hi0 : i = 0
            · subst hi0
              go_wp2
              go_roundw
              case rel => exact ⟨1, vC1, vL, G, by omega, by go_num, HGO, HN⟩
              case measure => simp [intOf]; omega
            · have hd0 : decide ((i : Int) = 0) = false := by simp; omega
              have e67 := plan_cell HP.out HBX.out HN.out.bel 67 (by omega)
              rw [show kdp 67 = .u8 from rfl] at e67
              obtain ⟨u0, u1⟩ := HP.out.u 67 (by omega)
              have e88 := HN.out.box
              go_wp2
              rw [shr_bits _ _ u0 u1]
              obtain ⟨cK, hcK, hcE, hc2⟩ : ∃ c : Nat, wrap64 (1 + wrap64 (f 67 / 2 ^ (i - 1) % 2)) = (c : Int) ∧ c = nLk f (i - 1) ∧ c ≤ 2 := by
                refine ⟨nLk f (i - 1), ?_, rfl, ?_⟩
                · unfold nLk
                  generalize f 67 / 2 ^ (i - 1) = y
                  unfold wrap64
                  omega
                · unfold nLk
                  omega
              rw [hcK]
              have HCK := Aside0.mk hcE
              clear hcK hcE u0 u1 e67 e88
              rw [show ((i : Int) == 0) = false from beq_false_of_ne (by omega)]
              go_loopw [8, 70] (fun v8 v wr => ∃ (k : Nat), k ≤ cK ∧ v = .int .i64 k ∧ Aside0 (MG w6 gr gw gp [v8.ownBlock] (mkC f (i + 1)) G vC1 vL wr ∧ Kd.N k33 33 wr wc.heap.size (Out [some gw, some gr, vC1.ownBlock, vL.ownBlock]) v8 (lks f (i - 1) k) ∧ Below wc.heap.size wc wr)) (fun _ v _ => cK - (intOf v).toNat)
              case atStart => exact ⟨0, Nat.zero_le _, rfl, ⟨HN.out.nil, Kd.N_nil _ _ _ _ _, Below.refl _ _⟩⟩
              case round =>
                obtain ⟨k2, hk2, rfl, HJ⟩ := hrel
                by_cases hkl2 : k2 < cK
                · have q0 := plan_cell HP.out HBX.out HJ.out.1.bel (51 + (i - 1) * 4 + k2 * 2) (by omega)
                  have q1 := plan_cell HP.out HBX.out HJ.out.1.bel (51 + (i - 1) * 4 + k2 * 2 + 1) (by omega)
                  have hkd : ∀ j, 51 ≤ j → kdp j = .u8 := fun j h1 => if_pos (.inr h1)
                  rw [hkd _ (by omega)] at q0 q1
                  clear hkd
                  obtain ⟨z0, y0⟩ := HP.out.u (51 + (i - 1) * 4 + k2 * 2) (by omega)
                  obtain ⟨z1, y1⟩ := HP.out.u (51 + (i - 1) * 4 + k2 * 2 + 1) (by omega)
                  obtain ⟨A8, N8, c8, rfl⟩ := N_val3 HJ.out.2.1
                  have HMo := Aside0.mk HJ.out.1.C
                  obtain ⟨gC, capC, AE, cE, rfl, eE⟩ := chord_lenG hi0 HMo.out
                  have BW := Aside0.mk (show ∀ o, Below wr.heap.size wr ((wr.alloc o).drew) from fun o => below_drew (below_alloc (Below.refl _ _) o))
                  have eC : ∀ o, ((wr.alloc o).drew).cell? ⟨gC, i - 1, none⟩ = some (.slice AE (nNt f (i - 1)) cE) := fun o => by
                    have hlt := Kd.N_lt HMo.out gC rfl
                    rw [← eE]
                    simp only [World.cell?, (BW.out o).block gC hlt]
                  have eB : ∀ o, ((wr.alloc o).drew).cell? ⟨gw, 1, none⟩ = some (.slice (some ⟨gC, 0, none⟩) (i + 1) capC) := fun o => by
                    have hb := ((BW.out o).block gw HJ.out.1.ltw).trans HJ.out.1.box
                    exact (blk_cell hb 1).trans rfl
                  have hbk := HJ.out.1.box
                  have e1 := blk_cell hbk 1
                  simp only [List.getElem?_toArray, List.getElem?_cons_zero, List.getElem?_cons_succ] at e1
                  clear hbk
                  have hwr : IntKind.i64.wrap ((i : Int) - 1) = ((i - 1 : Nat) : Int) := by
                    rw [IntKind.wrap_i64]
                    omega
                  have hix0 : (0 : Int) ≤ ((i - 1 : Nat) : Int) := by omega
                  have hix1 : ((i - 1 : Nat) : Int) < (i : Int) + 1 := by omega
                  have hne : ¬ nNt f (i - 1) = 0 := by unfold nNt; omega
                  have hN5n : ¬ N5 = 0 := by rw [HCN.out]; unfold nNt; omega
                  have wq0 : IntKind.i64.wrap (f (51 + (i - 1) * 4 + k2 * 2)) = f (51 + (i - 1) * 4 + k2 * 2) := by rw [IntKind.wrap_i64]; omega
                  have wq1 : IntKind.i64.wrap (f (51 + (i - 1) * 4 + k2 * 2 + 1)) = f (51 + (i - 1) * 4 + k2 * 2 + 1) := by rw [IntKind.wrap_i64]; omega
                  have hlk : (⟨(f (51 + (i - 1) * 4 + k2 * 2)).tmod ((nNt f (i - 1) : Nat) : Int), (f (51 + (i - 1) * 4 + k2 * 2 + 1)).tmod (N5 : Int)⟩ : S33) = lk f (i - 1) k2 := by
                    unfold lk
                    rw [Int.tmod_eq_emod_of_nonneg z0, Int.tmod_eq_emod_of_nonneg z1, HCN.out, show i - 1 + 1 = i by omega]
                  have HLK := Aside0.mk hlk
                  have hsw : Aside0 (∀ o1 o2, ((wr.alloc o1).alloc o2).drew = ((wr.alloc o1).drew).alloc o2) := ⟨fun o1 o2 => rfl⟩
                  have hsz8 : Aside0 (∀ o1, ((wr.alloc o1).drew).heap.size = wr.heap.size + 1) := ⟨fun o1 => by rw [World.drew]; simp⟩
                  have PW8 := Aside0.mk (fun (o1 : Obj) => below_step HJ.out.2.2 (BW.out o1))
                  have PO8 := Aside0.mk (fun (o1 : Obj) => HJ.out.1.later (BW.out o1))
                  have PN8 := Aside0.mk (fun (o1 : Obj) => Kd.N_drew (Kd.N_alloc HJ.out.2.1 o1))
                  have PL8 := Aside0.mk (show ((lks f (i - 1) k2).length + 1) * 16 ≤ 140737488355328 by simp [lks]; omega)
                  have PF8 := Aside0.mk (show ∀ (o1 : Obj) q, ((wr.alloc o1).drew).heap.size ≤ q → Out [some gw, some gr, (Value.slice (some ⟨gC, 0, none⟩) (i + 1) capC).ownBlock, vL.ownBlock] q from fun o1 q hq => HJ.out.1.fresh q (by rw [hsz8.out] at hq; omega))
                  clear hlk
                  go_wp2
                  go_region_law (rw [hsw.out]; refine Kd.N_append_step k33 (W := (wr.alloc (.cells #[.int .u8 (f (51 + (i - 1) * 4 + k2 * 2)), .int .u8 (f (51 + (i - 1) * 4 + k2 * 2 + 1))] 49)).drew) (w0 := wc) wc.heap.size ?_ (.tmp 80) (.tmp 99) 34 33 (.agg #[.int .i64 0, .int .i64 0]) 16 ?_ ?_ ?_ ?_ ?_ ?_ (.slice A8 N8 c8) (lks f (i - 1) k2) ⟨(f (51 + (i - 1) * 4 + k2 * 2)).tmod ((nNt f (i - 1) : Nat) : Int), (f (51 + (i - 1) * 4 + k2 * 2 + 1)).tmod (N5 : Int)⟩ [.int .i64 ((f (51 + (i - 1) * 4 + k2 * 2)).tmod ((nNt f (i - 1) : Nat) : Int)), .int .i64 ((f (51 + (i - 1) * 4 + k2 * 2 + 1)).tmod (N5 : Int))] (Out [some gw, some gr, (Value.slice (some ⟨gC, 0, none⟩) (i + 1) capC).ownBlock, vL.ownBlock]) (fun _ => False) ?_ ?_ ?_ ?_ ?_ ?_ ?_ ?_ ?_ ?_; exact rfl; exact rfl; exact Try.underlying34; exact info33; exact rfl; decide; omega; exact rfl; rw [hsz8.out]; exact rfl; exact k33_mkF _ _ _; exact fun _ hk => hk.elim; exact PF8.out _; exact PN8.out _; exact PW8.out _; exact (PW8.out _).size; exact PL8.out; intro v1 w2 hN hB hg hat; rw [HLK.out] at hN; have HN8 := Aside0.mk (And.intro ((PO8.out _).grown hg (below_step HN.out.bel hB) hat (Kd.N_lt hN)) (And.intro hN hB)); clear hN hB hg hat)
                  all_goals go_wp2
                  all_goals
                    refine ⟨?_, ?_⟩
                    · exact ⟨k2 + 1, by omega, by go_num, by rw [← lks_succ]; exact HN8⟩
                    · simp [intOf]; omega
                · obtain rfl : k2 = cK := by omega
                  have HM := Aside0.mk HJ.out.1.drop
                  have nF := HJ.out.1.fresh
                  obtain ⟨A8, N8, c8, rfl⟩ := N_val3 HJ.out.2.1
                  obtain ⟨AL, NL, cL, rfl⟩ := N_val3 HJ.out.1.L
                  have hbk := HM.out.box
                  have e2 := blk_cell hbk 2
                  simp only [List.getElem?_toArray, List.getElem?_cons_zero, List.getElem?_cons_succ] at e2
                  clear hbk
                  obtain ⟨g8, hA8⟩ : ∃ g8, A8 = some ⟨g8, 0, none⟩ := by
                    obtain ⟨g8, cap8, e8, -⟩ := Kd.N_form HJ.out.2.1 (by rw [lks_len, HCK.out]; have := nLk_pos f (i - 1); omega)
                    injection e8 with e1 e2 e3
                    exact ⟨g8, e1⟩
                  subst hA8
                  have PK := Aside0.mk (show Kd.FK dG wr (Out [some gw, some gr, vC1.ownBlock, (Value.slice AL NL cL).ownBlock]) (lks f (i - 1) k2, g8) [.slice (some ⟨g8, 0, none⟩) N8 c8] from by
                    have h1 := (Kd.N_reads' HJ.out.2.1).1
                    subst h1
                    exact FKG_mk HJ.out.2.1)
                  have HGN := Aside0.mk (HGO.out.snoc (x := lks f (i - 1) k2) (fun x hx => Nat.lt_of_lt_of_le (HN.out.glt x hx) (Kd.N_base HJ.out.2.1 g8 rfl)) (Nat.le_trans HN.out.bel.size (Kd.N_base HJ.out.2.1 g8 rfl)))
                  have PF := Aside0.mk (show ∀ q, wr.heap.size ≤ q → Out [some gw, some gr, vC1.ownBlock] q from fun q hq => by
                    have h1 := nF q hq
                    simp only [Out, List.mem_cons, List.not_mem_nil, or_false, not_or] at h1 ⊢
                    exact ⟨h1.1, h1.2.1, h1.2.2.1⟩)
                  have PL := Aside0.mk (show (G.length + 1) * 24 ≤ 140737488355328 by rw [HGO.out.len, mkL_len]; omega)
                  have PA := Aside0.mk (show ∀ q, Out [some gw, some gr, vC1.ownBlock, (Value.slice AL NL cL).ownBlock] q → Out [some gw, some gr, vC1.ownBlock] q ∧ some q ≠ (Value.slice AL NL cL).ownBlock from fun q hq => by
                    simp only [Out, List.mem_cons, List.not_mem_nil, or_false, not_or] at hq ⊢
                    exact ⟨⟨hq.1, hq.2.1, hq.2.2.1⟩, hq.2.2.2⟩)
                  clear nF
                  go_wp2_with (first | ((with_reducible refine gate_builtin (b := .append) (xs := #[.tmp 103, .tmp 105]) rfl ?_); at_builtin; (refine Kd.N_append dG (w0 := w6) w6.heap.size ?_ (.tmp 103) (.tmp 105) 28 34 (.slice none 0 0) 24 ?_ ?_ ?_ ?_ ?_ ?_ (.slice AL NL cL) G (lks f (i - 1) k2, g8) [.slice (some ⟨g8, 0, none⟩) N8 c8] (Out [some gw, some gr, vC1.ownBlock]) (Out [some gw, some gr, vC1.ownBlock, (Value.slice AL NL cL).ownBlock]) ?_ ?_ ?_ ?_ ?_ ?_ ?_ ?_ ?_ ?_; exact rfl; exact rfl; exact Try.underlying28; exact info34; exact rfl; decide; omega; exact rfl; exact rfl; exact PK.out; exact PA.out; exact PF.out; exact HM.out.L; exact HM.out.bel; exact HM.out.bel.size; exact PL.out; intro v1 w2 hN hB hg hat; obtain ⟨A1, N1, c1, rfl⟩ := N_val3 hN; have HE := Aside0.mk (HM.out.stepL hN hB hg hat); have hbk := (HM.out.keepL hg).1; have e2 := blk_cell hbk 2; have f2 := blk_frozen hbk 2; simp only [List.getElem?_toArray, List.getElem?_cons_zero, List.getElem?_cons_succ] at e2; clear hN hB hg hat hbk)))
                  go_roundw
                  case rel => exact ⟨i + 1, _, _, _, by omega, by go_num, ⟨by
                    have h1 := HGN.out
                    rw [HCK.out, mkL_succ] at h1
                    rw [show i - 1 + 1 = i + 1 - 1 by omega] at h1
                    rw [HCK.out]
                    exact h1⟩, HE⟩
                  case measure => simp [intOf]; omega
    · obtain rfl : i = m := by omega
      have HB := Aside0.mk HSt.out.box
      have HR := Aside0.mk HSt.out.res
      obtain ⟨A1, N1, c1, rfl⟩ := N_val3 HSt.out.C
      obtain ⟨A2, N2, c2, rfl⟩ := N_val3 HSt.out.L
      have hbk := HB.out
      have e0 := blk_cell hbk 0
      have e1 := blk_cell hbk 1
      have e2 := blk_cell hbk 2
      have h0 := HR.out
      have r0 := blk_cell h0 0
      have g0 := blk_frozen h0 0
      have h1 := blk_put h0 0 (Value.slice (some ⟨gp, 0, none⟩) 3 3) rfl
      have r1 := blk_cell h1 1
      have g1 := blk_frozen h1 1
      have h2 := blk_put h1 1 (Value.slice A1 N1 c1) rfl
      have r2 := blk_cell h2 2
      have g2 := blk_frozen h2 2
      have h3 := blk_put h2 2 (Value.slice A2 N2 c2) rfl
      have H3 := Aside0.mk h3
      simp only [List.getElem?_toArray, List.getElem?_cons_zero, List.getElem?_cons_succ] at e0 e1 e2
      have r0' := r0.trans (show _ = some (Value.slice none 0 0) from rfl)
      have r1' := r1.trans (show _ = some (Value.slice none 0 0) from rfl)
      have r2' := r2.trans (show _ = some (Value.slice none 0 0) from rfl)
      clear hbk h0 h1 h2 h3 r0 r1 r2
      go_wp2
      refine bodyPost_ret (results_cell_row rfl _ _ gr 30 #[.slice (some ⟨gp, 0, none⟩) 3 3, .slice A1 N1 c1, .slice A2 N2 c2] (0, 0) _ rfl H3.out Try.underlying30 rfl (by kernel_rfl)) rfl ?_
      have hM := HSt.out
      have hE := HMC.out
      have hZ := HB6.out
      refine ⟨gp, _, _, G, rfl, below_step hZ (below_set (below_set (below_set hM.bel hM.ler) hM.ler) hM.ler), ?_, ?_, ?_, ?_⟩
      · rw [← hE]
        exact HGO.out.lower hZ.size
      · exact Kd.FK_mono (foot_set (foot_set (foot_set hM.p _ _ (by simp)) _ _ (by simp)) _ _ (by simp)) (out_mono (by intro x hx; simp only [List.mem_cons, List.not_mem_nil, or_false] at hx ⊢; rcases hx with rfl | rfl <;> simp))
      · rw [← hE]
        exact Kd.N_lower (Kd.N_mono (Kd.N_far (Kd.N_far (Kd.N_far hM.C (fun k hk e => hk (by rw [e]; simp)) _) (fun k hk e => hk (by rw [e]; simp)) _) (fun k hk e => hk (by rw [e]; simp)) _) (out_mono (by intro x hx; simp only [List.mem_cons, List.not_mem_nil, or_false] at hx ⊢; subst hx; simp))) hZ.size
      · exact Kd.N_lower (Kd.N_mono (Kd.N_far (Kd.N_far (Kd.N_far hM.L (fun k hk e => hk (by rw [e]; simp)) _) (fun k hk e => hk (by rw [e]; simp)) _) (fun k hk e => hk (by rw [e]; simp)) _) (out_mono (by intro x hx; simp only [List.mem_cons, List.not_mem_nil, or_false] at hx ⊢; subst hx; simp))) hZ.size
end Go.Proofs.Ytdcpmggjhmdmmaa.X

-- what is used of it (wip/tools/slim.py)
/- Two walks in blocks of known types: what a write into a block of another type leaves. -/
import Derived.Test.YtdcpmggjhmdmmaaJDMakeG
import Derived.Test.YtdcpmggjhmdmmaaJDCat
import Derived.Test.YtdcpmggjhmdmmaaJDJoinP
namespace Go.Proofs.Ytdcpmggjhmdmmaa.X
open Go.RowKit Go.Proofs.YtdcpmggjhmdmmaaW.PrintWords Go.Proofs.YtdcpmggjhmdmmaaW.PrintLast Go.Proofs.YtdcpmggjhmdmmaaW.PrintMore
set_option linter.unusedVariables false
section
variable {α : Type} {d : Kd α} {e base n g t : Nat} {ok : Nat → Prop} {W : World} {v : Value} {xs : List α} {cells : Array Value}
theorem F_not {A : Option Addr} (z : α) (hs : 0 < d.sz) (hA : ∀ ad, A = some ad → 0 < n → ad.block ≠ g) (hk : ∀ (ok : Nat → Prop) x c, Kd.FK d W ok x c → Kd.FK d W (fun k => ok k ∧ k ≠ g) x c) (h : Kd.F d W ok A n xs) : Kd.F d W (fun k => ok k ∧ k ≠ g) A n xs := by
  have h0 := Kd.F_now h
  intro W' hW'
  refine ⟨h0.1, h0.2.1, fun hn => ?_⟩
  obtain ⟨ad, hA1, hel⟩ := h0.2.2 hn
  refine ⟨ad, hA1, fun j x hj => ?_⟩
  have hj' : j < n := by rw [← h0.1]; exact (List.getElem?_eq_some_iff.1 hj).1
  obtain ⟨ad', c, hA', hcl, hF, hcell, hok⟩ := Kd.F_get h z (j : Int) (by omega) (by omega)
  obtain rfl : ad = ad' := by rw [hA1] at hA'; exact Option.some.inj hA'
  rw [Int.toNat_natCast] at hF hcell
  rw [show xs.getD j z = x from by rw [List.getD_eq_getElem?_getD, hj]; rfl] at hF
  refine ⟨c, hcl, hk ok x c hF W' hW', fun i u hi => ?_⟩
  have hc := hcell i u hi
  have hb := Cl.of_cell hc
  rw [add_blk] at hb
  have hlt : ad.block < W.heap.size := by
    obtain ⟨cs, t, fr, hcs⟩ := hb
    exact (Array.getElem?_eq_some_iff.1 hcs).1
  have heq := hW' ad.block ⟨hok hs, hA ad hA1 (by omega)⟩ hlt
  rw [← hc]
  unfold World.cell?
  rw [show (ad.add (j * d.sz + i)).block = ad.block from add_blk _ _, heq]
theorem typed_ne {a b : Nat} {ca cb : Array Value} {ta tb : Nat} (ha : W.heap[a]? = some (.cells ca ta (0, 0))) (hb : W.heap[b]? = some (.cells cb tb (0, 0))) (h : ta ≠ tb) : a ≠ b := fun e => by
  subst e
  rw [ha] at hb
  injection hb with hb
  injection hb with _ hb _
  exact h hb
theorem F_ok {A : Option Addr} (z : α) (hs : 0 < d.sz) (hn : 0 < n) (h : Kd.F d W ok A n xs) {ad : Addr} (hA : A = some ad) : ok ad.block := by
  obtain ⟨ad', c, hA', -, -, -, hok⟩ := Kd.F_get h z 0 (by omega) (by omega)
  obtain rfl : ad = ad' := by rw [hA] at hA'; exact Option.some.inj hA'
  exact hok hs
theorem FKT_not (hb : W.heap[g]? = some (.cells cells t (0, 0))) (ht : (3 : Nat) ≠ t) (ok : Nat → Prop) (x : List Int) (c : List Value) (h : Kd.FK dT W ok x c) : Kd.FK dT W (fun k => ok k ∧ k ≠ g) x c := by
  obtain ⟨A, cc, rfl, hl, hF⟩ := Kd.FK_slice_open (FK_of_T h)
  have hty : 0 < x.length → ∃ g' cells', A = some ⟨g', 0, none⟩ ∧ W.heap[g']? = some (.cells cells' 3 (0, 0)) := by
    obtain ⟨A', c', e1, -, -, h3⟩ := Kd.FK_now h
    injection e1 with e1 _
    injection e1 with e1 _ _
    subst e1
    exact h3
  have hF' := F_not (g := g) 0 (by decide) (fun ad hA hn => by
    obtain ⟨g', cells', e1, h2⟩ := hty hn
    rw [hA] at e1
    obtain rfl := Option.some.inj e1
    exact typed_ne h2 hb ht) (fun ok x c h W' _ => (show (_ : Kd _).K W x c from Kd.FK_now h)) hF
  intro W' hW'
  refine ⟨A, cc, rfl, hl, hF' W' hW', fun h0 => ?_⟩
  obtain ⟨g', cells', e1, h2⟩ := hty h0
  exact ⟨g', cells', e1, (hW' g' (F_ok 0 (by decide) h0 hF' e1) (Array.getElem?_eq_some_iff.1 h2).1).trans h2⟩
theorem FK_of_Ch {x : List (List Int)} {c : List Value} (h : Kd.FK dCh W ok x c) : Kd.FK (Kd.slice 25 dT) W ok x c := fun W' hW' => by
  obtain ⟨A, cc, h1, h2, h3, _⟩ := h W' hW'
  exact ⟨A, cc, h1, h2, h3⟩
theorem FKCh_not (hb : W.heap[g]? = some (.cells cells t (0, 0))) (ht : (3 : Nat) ≠ t) (ht2 : (25 : Nat) ≠ t) (ok : Nat → Prop) (x : List (List Int)) (c : List Value) (h : Kd.FK dCh W ok x c) : Kd.FK dCh W (fun k => ok k ∧ k ≠ g) x c := by
  obtain ⟨A, cc, rfl, hl, hF⟩ := Kd.FK_slice_open (FK_of_Ch h)
  have hty : 0 < x.length → ∃ g' cells', A = some ⟨g', 0, none⟩ ∧ W.heap[g']? = some (.cells cells' 25 (0, 0)) := by
    obtain ⟨A', c', e1, -, -, h3⟩ := Kd.FK_now h
    injection e1 with e1 _
    injection e1 with e1 _ _
    subst e1
    exact h3
  have hF' := F_not (g := g) [] (by decide) (fun ad hA hn => by
    obtain ⟨g', cells', e1, h2⟩ := hty hn
    rw [hA] at e1
    obtain rfl := Option.some.inj e1
    exact typed_ne h2 hb ht2) (fun ok x c h => FKT_not hb ht ok x c h) hF
  intro W' hW'
  refine ⟨A, cc, rfl, hl, hF' W' hW', fun h0 => ?_⟩
  obtain ⟨g', cells', e1, h2⟩ := hty h0
  exact ⟨g', cells', e1, (hW' g' (F_ok [] (by decide) h0 hF' e1) (Array.getElem?_eq_some_iff.1 h2).1).trans h2⟩
theorem FKG_F {x : List S33 × Nat} {c : List Value} (h : Kd.FK dG W ok x c) : Kd.F k33 W ok (some ⟨x.2, 0, none⟩) x.1.length x.1 := fun W' hW' => by
  obtain ⟨cc, cells, _, _, h3, _⟩ := h W' hW'
  exact h3
theorem FKG_not' {x : List S33 × Nat} (hx : x.2 ≠ g) (ok : Nat → Prop) (c : List Value) (h : Kd.FK dG W ok x c) : Kd.FK dG W (fun k => ok k ∧ k ≠ g) x c := by
  obtain ⟨cc, cells', rfl, hl, -, h4⟩ := Kd.FK_now h
  have hF' := F_not (g := g) z33 (by decide) (fun ad hA hn => by
    obtain rfl := Option.some.inj hA
    exact hx) (fun ok x c h W' _ => (show (_ : Kd _).K W x c from Kd.FK_now h)) (FKG_F h)
  intro W' hW'
  exact ⟨cc, cells', rfl, hl, hF' W' hW', (hW' x.2 ⟨FKG_ok h, hx⟩ (Array.getElem?_eq_some_iff.1 h4).1).trans h4⟩
theorem FKG_not (hb : W.heap[g]? = some (.cells cells t (0, 0))) (ht : (33 : Nat) ≠ t) (ok : Nat → Prop) (x : List S33 × Nat) (c : List Value) (h : Kd.FK dG W ok x c) : Kd.FK dG W (fun k => ok k ∧ k ≠ g) x c := by
  obtain ⟨cc, cells', rfl, hl, -, h4⟩ := Kd.FK_now h
  exact FKG_not' (typed_ne h4 hb ht) ok _ h
theorem N_not (hb : W.heap[g]? = some (.cells cells t (0, 0))) (he : e ≠ t) (hk : ∀ (ok : Nat → Prop) x c, Kd.FK d W ok x c → Kd.FK d W (fun k => ok k ∧ k ≠ g) x c) (h : Kd.N d e W base ok v xs) : Kd.N d e W base (fun k => ok k ∧ k ≠ g) v xs := by
  have hne := Kd.N_ne h hb he
  obtain ⟨h0, rows, hl, hR, hf⟩ := h
  exact ⟨fun k hk => ⟨h0 k hk, fun e => hne (by rw [← e, hk])⟩, rows, hl, hR, fun j x c hx hc => Kd.FK_mono (hk _ x c (hf j x c hx hc)) (fun k hk => ⟨⟨hk.1.1, hk.2⟩, hk.1.2⟩)⟩
end
/-- a walk in blocks of known types -/
structure AF (w : World) (base : Nat) (ok : Nat → Prop) (gp : Nat) (vC vL : Value) (C : List (List (List Int))) (G : List (List S33 × Nat)) : Prop where
  p : Kd.FK dT w ok [2, 3, 5] [.slice (some ⟨gp, 0, none⟩) 3 3]
  c : Kd.N dCh 31 w base ok vC C
  l : Kd.N dG 34 w base ok vL G
section
variable {w w' : World} {base g t gp : Nat} {ok ok' : Nat → Prop} {vC vL : Value} {C : List (List (List Int))} {G : List (List S33 × Nat)} {cells : Array Value}
theorem AF.mono (h : AF w base ok gp vC vL C G) (hk : ∀ k, ok k → ok' k) : AF w base ok' gp vC vL C G := ⟨Kd.FK_mono h.p hk, Kd.N_mono h.c hk, Kd.N_mono h.l hk⟩
theorem AF.step (h : AF w base ok gp vC vL C G) (hk : ∀ k, ok k → k < w.heap.size → w'.heap[k]? = w.heap[k]?) : AF w' base ok gp vC vL C G := ⟨Kd.FK_step h.p hk, Kd.N_step h.c hk, Kd.N_step h.l hk⟩
theorem AF.later (h : AF w base ok gp vC vL C G) (hb : Below w.heap.size w w') : AF w' base ok gp vC vL C G := h.step (fun k _ hk => hb.block k hk)
theorem AF.bound (h : AF w base ok gp vC vL C G) : AF w base (fun k => ok k ∧ k < w.heap.size) gp vC vL C G := ⟨Kd.FK_bound h.p, Kd.N_bound h.c, Kd.N_bound h.l⟩
theorem AF.set (h : AF w base ok gp vC vL C G) (p : Addr) (hp : ∀ k, ok k → k ≠ p.block) (v : Value) : AF (w.setCell p v) base ok gp vC vL C G := h.step (fun k hk _ => Below.heap_setCell w p v k (hp k hk))
theorem AF.not30 (h : AF w base ok gp vC vL C G) (hb : w.heap[g]? = some (.cells cells 30 (0, 0))) : AF w base (fun k => ok k ∧ k ≠ g) gp vC vL C G :=
  ⟨FKT_not hb (by decide) _ _ _ h.p, N_not hb (by decide) (FKCh_not hb (by decide) (by decide)) h.c, N_not hb (by decide) (FKG_not hb (by decide)) h.l⟩
theorem AF.P (h : AF w base ok gp vC vL C G) : Kd.C (Kd.int .i64) w (some ⟨gp, 0, none⟩) 3 [2, 3, 5] := by
  obtain ⟨A, c, e1, -, h2, -⟩ := Kd.FK_now h.p
  injection e1 with e1 _
  injection e1 with e1 _ _
  subst e1
  exact h2
theorem C_map {α β : Type} {d : Kd α} {d' : Kd β} (f : α → β) (hs : d.sz = d'.sz) (hk : ∀ x c, d.K w x c → d'.K w (f x) c) {A : Option Addr} {n : Nat} {xs : List α} (h : d.C w A n xs) : d'.C w A n (xs.map f) := by
  refine ⟨by rw [List.length_map]; exact h.1, h.2.1, fun hn => ?_⟩
  obtain ⟨ad, hA, hel⟩ := h.2.2 hn
  refine ⟨ad, hA, fun j y hj => ?_⟩
  rw [List.getElem?_map] at hj
  cases hx : xs[j]? with
  | none => rw [hx] at hj; cases hj
  | some x =>
    rw [hx] at hj
    obtain rfl := Option.some.inj hj
    obtain ⟨c, hl, hK, hc⟩ := hel j x hx
    refine ⟨c, by rw [← hs]; exact hl, hk x c hK, fun i u hi => ?_⟩
    rw [← hs]
    exact hc i u hi
theorem K_of_Ch {x : List (List Int)} {c : List Value} (h : dCh.K w x c) : (Kd.slice 25 (Kd.slice 3 (Kd.int .i64))).K w x c := by
  obtain ⟨A, cc, h1, h2, h3, _⟩ := h
  exact ⟨A, cc, h1, h2, C_of_T h3⟩
theorem K_of_G {x : List S33 × Nat} {c : List Value} (h : dG.K w x c) : (Kd.slice 33 k33).K w x.1 c := by
  obtain ⟨cc, cells, h1, h2, h3, _⟩ := h
  exact ⟨_, cc, h1, h2, h3⟩
theorem C_of_Ch {A : Option Addr} {n : Nat} (h : dCh.C w A n C) : (Kd.slice 25 (Kd.slice 3 (Kd.int .i64))).C w A n C := by
  have h1 := C_map (d := dCh) (d' := Kd.slice 25 (Kd.slice 3 (Kd.int .i64))) id rfl (fun x c h => K_of_Ch h) h
  rwa [List.map_id] at h1
theorem C_of_G {A : Option Addr} {n : Nat} (h : dG.C w A n G) : (Kd.slice 33 k33).C w A n (G.map Prod.fst) :=
  C_map (d := dG) (d' := Kd.slice 33 k33) Prod.fst rfl (fun x c h => K_of_G h) h
end
end Go.Proofs.Ytdcpmggjhmdmmaa.X

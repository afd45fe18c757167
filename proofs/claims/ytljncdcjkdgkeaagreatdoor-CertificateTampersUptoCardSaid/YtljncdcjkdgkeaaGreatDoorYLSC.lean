/- Walk: Farkas. Bnd: all numbers of a problem's tableaux are bounded. Walk: Solve. -/
import Derived.Test.YtljncdcjkdgkeaaGreatDoorYLSA
import Derived.Test.YtljncdcjkdgkeaaGreatDoorYLS9
set_option linter.unusedVariables false
set_option linter.unusedSimpArgs false
namespace Go.Proofs.YtljncdcjkdgkeaaGreatDoor.Lp
open Go.RowKit Go.Proofs.YtljncdcjkdgkeaaGreatDoor.Big Go.Proofs.YtljncdcjkdgkeaaGreatDoor.Rt
structure Bnd (p : Prob) (K : Nat) : Prop where
 le : K ≤ 134217728
 one : 2 ≤ K
 obj : ∀ j, j < p.n → QB K (p.obj j)
 coef : ∀ i, i < p.m → ∀ j, j < p.n → QB K (p.coef i j)
 right : ∀ i, i < p.m → QB K (p.right i)
 way : ∀ s, Way p.m p.W p.art p.T0 p.un p.D1 s → (∀ i, i < p.m → ∀ j, j ≤ p.W → QB K (s.R i j)) ∧ (∀ j, j ≤ p.W → QB K (s.C j)) ∧ ∀ i, i < p.m → s.b i < p.W
 red1 : ∀ i, i ≤ p.m → ∀ j, j ≤ p.W → QB K (red i p.D1 p.T0 p.un j)
 exp : ∀ i, i ≤ p.m → (∀ k, k < p.m → ∀ j, j ≤ p.W → QB K ((exL p p.s1 i).R k j)) ∧ (∀ j, j ≤ p.W → QB K ((exL p p.s1 i).C j))
 red2 : ∀ i, i ≤ p.m → ∀ j, j ≤ p.W → QB K (red i p.D2 p.x1.R p.x1.b j)
 way2 : ∀ s, ExI p p.D2 s p.m → (∀ i, i < p.m → ∀ j, j ≤ p.W → QB K (s.R i j)) ∧ (∀ j, j ≤ p.W → QB K (s.C j)) ∧ ∀ i, i < p.m → s.b i < p.W
theorem Prob.Valid.vrel {p : Prob} (h : p.Valid) : p.Vrel := fun i hi => (h.2.2.2 i hi).2
theorem cnt_le3 (p : Prob) : p.art ≤ p.n + p.m ∧ p.W ≤ p.n + p.m + p.m := by
 unfold Prob.W Prob.art
 have h1 := qvg p.m (fun k => decide (p.rel k ≠ 2))
 have h2 := qvg p.m (fun k => decide (p.dir k ≠ 1))
 omega
theorem Prob.Valid.w {p : Prob} (h : p.Valid) : p.W < 1099511627776 ∧ p.m ≤ 1099511627776 := by
 have := cnt_le3 p
 have := h.2.1
 have := h.2.2.1
 omega
theorem fea_b (p : Prob) (K : Nat) (w w0 : World) (hp : p.Valid) (hb : Bnd p K) (a : TA) (hx : Ext w0 w) (ht : w0.heap.size ≤ a.t) (hr : ∀ i, i < p.m → w0.heap.size ≤ a.rw i) (hbb : 0 < p.m → w0.heap.size ≤ a.bb) (hT : Tab a p.m p.W p.art w (.slice none 0 0) p.T0 p.un p.un p.flip) :
 Calls Tryz.prog 132 #[.pointer (some ⟨a.t, 0, none⟩)] w (fun e w' => ∃ bc, e = .returned (.bool (p.s1.C p.W == 0)) ∧ Tab a p.m p.W p.art w' (.slice (some ⟨bc, 0, none⟩) (p.W + 1) (p.W + 1)) p.s1.R p.s1.b p.un p.flip ∧ Cst a p.m p.W w' bc p.s1.C ∧ Ext w0 w' ∧ w0.heap.size ≤ bc) := by
 obtain ⟨N, h1, h2⟩ := Prob.stops1 hp.vrel
 refine (qdo a p.m p.W p.art p.T0 p.un p.un p.flip K N p.s1 w none 0 0 (fun s => Way p.m p.W p.art p.T0 p.un p.D1 s) hT h1 h2 (Prob.way1 hp.vrel) (fun s s' h h' => h.keep p.art_le h') hb.way hb.red1 hb.le p.art_le hp.w.1 hp.w.2).mono ?_
 rintro e w' ⟨N', s, bc, g1, g2, rfl, g3, g4, g5, g6⟩
 obtain rfl : s = p.s1 := it_end g1 g2 h1 h2
 refine ⟨bc, rfl, g3, g4, g5.ext hx (fun b hb => ?_), Nat.le_trans hx.size g6⟩
 rcases hb with ⟨i, hi, rfl⟩ | rfl | ⟨hm, rfl⟩
 ·exact hr i hi
 ·exact ht
 ·exact hbb hm
def FkPost (w : World) (p : Prob) (e : Ending) (w' : World) : Prop :=
 Ext w w' ∧ ((qba p = true ∧ p.s1.C p.W ≠ 0 ∧ ∃ b, e = .returned (.tuple #[.slice (some ⟨b, 0, none⟩) p.m p.m, .bool true]) ∧ RowR w' b p.m (muV p.art p.s1.C p.un p.flip (-1)) ∧ w.heap.size ≤ b) ∨ ((qba p = true → p.s1.C p.W = 0) ∧ e = .returned (.tuple #[.slice none 0 0, .bool false])))
set_option maxHeartbeats 4000000 in
theorem Farkas_b (v : Value) (p : Prob) (K : Nat) (w : World) (hv : qga w v p) (hb : qba p = true → Bnd p K) : Calls Tryz.prog 110 #[v] w (FkPost w p) := by
 have hv0 := hv
 obtain ⟨Ao, co, Ar, cr, rfl, -⟩ := hv0
 have HB := Lib.hid hb
 obtain ⟨n, hn⟩ : ∃ n, n = p.n := ⟨_, rfl⟩
 obtain ⟨m, hm⟩ : ∃ n, n = p.m := ⟨_, rfl⟩
 rw [← hn, ← hm] at hv ⊢
 have HM := Lib.hid hm
 clear hb hn hm
 have B := Box.new w 41 #[.slice Ao n co, .slice Ar m cr]
 have hE0 : Ext w (w.alloc (.cells #[.slice Ao n co, .slice Ar m cr] 41)) := (Ext.refl w).alloc _
 go_enter Tryz.func110, Tryz.ntmps110
 go_upto_region 1 with fail
 generalize (w.alloc (.cells #[.slice Ao n co, .slice Ar m cr] 41)) = V at *
 have c0 := B.c0
 have c1 := B.c1
 have hvV := hv.ext hE0
 go_wp2_with fail
 refine (q72 _ p _ hvV).mono ?_
 rintro e w1 ⟨rfl, hx1⟩
 have hE1 := hE0.trans hx1
 have c0 := hx1.cell c0
 have c1 := hx1.cell c1
 have hv1 := hv.ext hE1
 cases hval : qba p with
 | false =>
   have HV := Lib.hid hval
   clear hval
   go_wp2_with fail
   go_ret2
   exact ⟨hE1, .inr ⟨fun h => (by rw [HV.out] at h; cases h), rfl⟩⟩
 | true =>
   have HV := Lib.hid hval
   have hp := validB_iff.1 hval
   have hb := HB.out hval
   have HP := Lib.hid hp
   have HBD := Lib.hid hb
   clear hval hp hb
   go_wp2_with fail
   refine (qbd _ p K _ hv1 HP.out HBD.out.coef HBD.out.right).mono ?_
   rintro e w2 ⟨a, rfl, hT, hx2, ht, hr, hbb⟩
   go_wp2_with fail
   refine (fea_b p K _ w1 HP.out HBD.out a hx2 ht hr hbb hT).mono ?_
   rintro e w3 ⟨bc, rfl, hT3, hC3, hx3, hbc⟩
   have hE3 := hE1.trans hx3
   by_cases h0 : p.s1.C p.W = 0
   ·have e0 : (p.s1.C p.W == 0) = true := by simp [h0]
    have H0 := Lib.hid h0
    clear h0
    rw [e0]
    go_wp2_with fail
    go_ret2
    exact ⟨hE3, .inr ⟨fun _ => H0.out, rfl⟩⟩
   ·have e0 : (p.s1.C p.W == 0) = false := by simp [h0]
    have H0 := Lib.hid h0
    clear h0
    rw [e0]
    go_wp2_with fail
    refine (qfw (-1) _ (by decide) (by decide)).mono ?_
    rintro e w4 ⟨v4, rfl, hb4, hx4⟩
    have hT4 := hT3.ext hx4
    have hC4 := hC3.ext hx4
    have h5 : RatB w4 v4 (-1) K := RatB.up hb4 (by have := HBD.out.one; omega)
    clear hT3 hC3
    obtain ⟨q2, B2, m2, c2, q2', B2', m2', c2', rfl⟩ := hb4.1.shape
    go_wp2_with fail
    refine (qo8 a p.m p.W p.art bc p.s1.R p.s1.C p.s1.b p.un p.flip K _ (-1) _ hT4 hC4 h5 (HBD.out.way _ (Prob.end1 HP.out.vrel)).2.1 (fun i hi => Prob.un_lt HP.out.vrel hi) HBD.out.le HP.out.w.1 HP.out.w.2).mono ?_
    rintro e w5 ⟨b5, rfl, hR5, hx5, hb5⟩
    go_wp2_with fail
    go_ret2
    exact ⟨(hE3.trans hx4).trans hx5, .inl ⟨HV.out, H0.out, b5, rfl, hR5, Nat.le_trans (hE3.trans hx4).size hb5⟩⟩
def noSol (k : Int) : Ending := .returned (.tuple #[.agg #[.bool false, .slice none 0 0, .bool false, .slice none 0 0, .slice none 0 0, .slice none 0 0], .int .i64 k])
def okSol (w w' : World) (p : Prob) (e : Ending) : Prop :=
 ∃ q A n c q' A' n' c' bx by', e = .returned (.tuple #[.agg #[.bool q, .slice A n c, .bool q', .slice A' n' c', .slice (some ⟨bx, 0, none⟩) p.n p.n, .slice (some ⟨by', 0, none⟩) p.m p.m], .int .i64 0]) ∧ RatV w' (.agg #[.bool q, .slice A n c, .bool q', .slice A' n' c']) (p.s2.C p.W) ∧
  RowR w' bx p.n (pt p.m p.W p.s2.R p.s2.b) ∧ RowR w' by' p.m (muV p.art p.s2.C p.un p.flip 0) ∧ w.heap.size ≤ bx ∧ w.heap.size ≤ by' ∧ bx ≠ by'
def SvPost (w : World) (p : Prob) (e : Ending) (w' : World) : Prop :=
 Ext w w' ∧ ((qba p = false ∧ e = noSol 3) ∨ (qba p = true ∧ p.s1.C p.W ≠ 0 ∧ e = noSol 17) ∨ (qba p = true ∧ p.s1.C p.W = 0 ∧ entL p.s2.C p.s2.stalled p.art ≠ none ∧ e = noSol 18) ∨
  (qba p = true ∧ p.s1.C p.W = 0 ∧ entL p.s2.C p.s2.stalled p.art = none ∧ okSol w w' p e))
theorem sm_put {m i : Nat} {R : Nat → Nat → Rat} {b : Nat → Nat} (hU : ∀ k, k < m → ∀ l, l < m → R k (b l) = if k = l then 1 else 0) (hi : i < m) (W j : Nat) : (if j = b i then R i W else sm i (fun k => if b k = j then R k W else 0)) = sm (i + 1) (fun k => if b k = j then R k W else 0) := by
 show _ = sm i (fun k => if b k = j then R k W else 0) + (if b i = j then R i W else 0)
 by_cases h : j = b i
 ·rw [if_pos h, if_pos h.symm, qr4 (fun k hk => ?_)]
  ·grind
  ·rw [if_neg]
   intro e
   have h1 := hU k (by omega) i hi
   have h2 := hU k (by omega) k (by omega)
   rw [if_pos rfl, e, h] at h2
   rw [h2, if_neg (by omega)] at h1
   exact absurd h1 (by decide)
 ·rw [if_neg h, if_neg (fun e => h e.symm)]
  grind
theorem sol6 {w : World} {b : Nat} {E : TypeId} {x0 x1 x2 x3 x4 x5 : Value} (h : Box w b E #[x0, x1, x2, x3, x4, x5]) : w.cell? ⟨b, 0, none⟩ = some x0 ∧ w.cell? ⟨b, 1, none⟩ = some x1 ∧ w.cell? ⟨b, 2, none⟩ = some x2 ∧ w.cell? ⟨b, 3, none⟩ = some x3 ∧ w.cell? ⟨b, 4, none⟩ = some x4 ∧ w.cell? ⟨b, 5, none⟩ = some x5 ∧
 w.frozen? ⟨b, 0, none⟩ = false ∧ w.frozen? ⟨b, 1, none⟩ = false ∧ w.frozen? ⟨b, 2, none⟩ = false ∧ w.frozen? ⟨b, 3, none⟩ = false ∧ w.frozen? ⟨b, 4, none⟩ = false ∧ w.frozen? ⟨b, 5, none⟩ = false :=
 ⟨h.cell 0, h.cell 1, h.cell 2, h.cell 3, h.cell 4, h.cell 5, h.frozen 0, h.frozen 1, h.frozen 2, h.frozen 3, h.frozen 4, h.frozen 5⟩
theorem qbz {w : World} {b : Nat} {E : TypeId} {x0 x1 x2 x3 x4 x5 : Value} (h : Box w b E #[x0, x1, x2, x3, x4, x5]) (y0 y1 y2 y3 y4 y5 : Value) : Box ((((((w.setCell ⟨b, 0, none⟩ y0).setCell ⟨b, 1, none⟩ y1).setCell ⟨b, 2, none⟩ y2).setCell ⟨b, 3, none⟩ y3).setCell ⟨b, 4, none⟩ y4).setCell ⟨b, 5, none⟩ y5) b E #[y0, y1, y2, y3, y4, y5] :=
 (((((h.set 0 y0).set 1 y1).set 2 y2).set 3 y3).set 4 y4).set 5 y5
theorem sol6fr {w : World} {b : Nat} {E : TypeId} {x0 x1 x2 x3 x4 x5 : Value} (h : Box w b E #[x0, x1, x2, x3, x4, x5]) (hx : ∀ z, some x0 ≠ some (.int .u32 z) ∧ some x1 ≠ some (.int .u32 z) ∧ some x2 ≠ some (.int .u32 z) ∧ some x3 ≠ some (.int .u32 z) ∧ some x4 ≠ some (.int .u32 z) ∧ some x5 ≠ some (.int .u32 z)) (y0 y1 y2 y3 y4 y5 : Value) :
 Fr (fun k => k = b) w ((((((w.setCell ⟨b, 0, none⟩ y0).setCell ⟨b, 1, none⟩ y1).setCell ⟨b, 2, none⟩ y2).setCell ⟨b, 3, none⟩ y3).setCell ⟨b, 4, none⟩ y4).setCell ⟨b, 5, none⟩ y5) := by
 have h0 := h.set 0 y0
 have h1 := h0.set 1 y1
 have h2 := h1.set 2 y2
 have h3 := h2.set 3 y3
 have h4 := h3.set 4 y4
 refine ((((((Fr.refl (fun k => k = b) w).set (p := ⟨b, 0, none⟩) rfl (fun z => ?_) y0).set (p := ⟨b, 1, none⟩) rfl (fun z => ?_) y1).set (p := ⟨b, 2, none⟩) rfl (fun z => ?_) y2).set (p := ⟨b, 3, none⟩) rfl (fun z => ?_) y3).set (p := ⟨b, 4, none⟩) rfl (fun z => ?_) y4).set (p := ⟨b, 5, none⟩) rfl (fun z => ?_) y5
 ·rw [h.cell 0]; exact (hx z).1
 ·rw [h0.cell 1]; exact (hx z).2.1
 ·rw [h1.cell 2]; exact (hx z).2.2.1
 ·rw [h2.cell 3]; exact (hx z).2.2.2.1
 ·rw [h3.cell 4]; exact (hx z).2.2.2.2.1
 ·rw [h4.cell 5]; exact (hx z).2.2.2.2.2
theorem q65 {w0 w : World} {b : Nat} (hb : w0.heap.size ≤ b) (h : Ext w0 w) (y0 y1 y2 y3 y4 y5 : Value) : Ext w0 ((((((w.setCell ⟨b, 0, none⟩ y0).setCell ⟨b, 1, none⟩ y1).setCell ⟨b, 2, none⟩ y2).setCell ⟨b, 3, none⟩ y3).setCell ⟨b, 4, none⟩ y4).setCell ⟨b, 5, none⟩ y5) :=
 (((((h.set (p := ⟨b, 0, none⟩) hb y0).set (p := ⟨b, 1, none⟩) hb y1).set (p := ⟨b, 2, none⟩) hb y2).set (p := ⟨b, 3, none⟩) hb y3).set (p := ⟨b, 4, none⟩) hb y4).set (p := ⟨b, 5, none⟩) hb y5
set_option maxHeartbeats 4000000 in
theorem Solve_b (v : Value) (p : Prob) (K : Nat) (w : World) (hv : qga w v p) (hb : qba p = true → Bnd p K) : Calls Tryz.prog 109 #[v] w (SvPost w p) := by
 have hv0 := hv
 obtain ⟨Ao, co, Ar, cr, rfl, hob, -⟩ := hv0
 have HB := Lib.hid hb
 obtain ⟨n, hn⟩ : ∃ n, n = p.n := ⟨_, rfl⟩
 obtain ⟨m, hm⟩ : ∃ n, n = p.m := ⟨_, rfl⟩
 rw [← hn] at hob
 rw [← hn, ← hm] at hv ⊢
 have HM := Lib.hid hm
 have HN := Lib.hid hn
 clear hb hn hm
 obtain ⟨PB, SB, hE0⟩ := qwt w 41 174 #[.slice Ao n co, .slice Ar m cr] #[.bool false, .slice none 0 0, .bool false, .slice none 0 0, .slice none 0 0, .slice none 0 0]
 go_enter Tryz.func109, Tryz.ntmps109
 go_upto_region 1 with fail
 generalize ((w.alloc (.cells #[.slice Ao n co, .slice Ar m cr] 41)).alloc (.cells #[.bool false, .slice none 0 0, .bool false, .slice none 0 0, .slice none 0 0, .slice none 0 0] 174)) = V at *
 obtain ⟨sb, hsb⟩ : ∃ x, x = w.heap.size + 1 := ⟨_, rfl⟩
 obtain ⟨pb, hpb⟩ : ∃ x, x = w.heap.size := ⟨_, rfl⟩
 rw [← hsb] at SB ⊢
 rw [← hpb] at PB ⊢
 have hws : w.heap.size ≤ sb := by omega
 have hwp : w.heap.size ≤ pb := by omega
 clear hsb hpb
 have c0 := PB.c0
 have c1 := PB.c1
 have hvV := hv.ext hE0
 go_wp2_with fail
 refine (q72 _ p _ hvV).mono ?_
 rintro e w1 ⟨rfl, hx1⟩
 have hE1 := hE0.trans hx1
 have PB1 := PB.ext hx1
 have SB1 := SB.ext hx1
 have c0 := PB1.c0
 have c1 := PB1.c1
 have hv1 := hv.ext hE1
 cases hval : qba p with
 | false =>
   have HV := Lib.hid hval
   clear hval
   obtain ⟨k0, k1, k2, k3, k4, k5, f0, f1, f2, f3, f4, f5⟩ := sol6 SB1
   have SBe := qbz SB1 (.bool false) (.slice none 0 0) (.bool false) (.slice none 0 0) (.slice none 0 0) (.slice none 0 0)
   have hEe := q65 hws hE1 (.bool false) (.slice none 0 0) (.bool false) (.slice none 0 0) (.slice none 0 0) (.slice none 0 0)
   obtain ⟨pc0, pc1, pc2, pc3, pc4, pc5, -⟩ := sol6 SBe
   go_wp2_with fail
   refine bodyPost_ret (v := .tuple #[.agg #[.bool false, .slice none 0 0, .bool false, .slice none 0 0, .slice none 0 0, .slice none 0 0], .int .i64 3]) (by simp [results, Tryz.results109, go_sem, pc0, pc1, pc2, pc3, pc4, pc5]) rfl ?_
   exact ⟨hEe, .inl ⟨HV.out, rfl⟩⟩
 | true =>
   have HV := Lib.hid hval
   have hp := validB_iff.1 hval
   have hb := HB.out hval
   have HP := Lib.hid hp
   have HBD := Lib.hid hb
   clear hval hp hb
   go_wp2_with fail
   refine (qbd _ p K _ hv1 HP.out HBD.out.coef HBD.out.right).mono ?_
   rintro e w2 ⟨a, rfl, hT, hx2, ht, hr, hbb⟩
   go_wp2_with fail
   refine (fea_b p K _ w1 HP.out HBD.out a hx2 ht hr hbb hT).mono ?_
   rintro e w3 ⟨bc, rfl, hT3, hC3, hx3, hbc⟩
   have hE3 := hE1.trans hx3
   have SB3 := SB1.ext hx3
   have PB3 := PB1.ext hx3
   by_cases h0 : p.s1.C p.W = 0
   case neg =>
    have e0 : (p.s1.C p.W == 0) = false := by simp [h0]
    have H0 := Lib.hid h0
    clear h0
    rw [e0]
    obtain ⟨k0, k1, k2, k3, k4, k5, f0, f1, f2, f3, f4, f5⟩ := sol6 SB3
    have SBe := qbz SB3 (.bool false) (.slice none 0 0) (.bool false) (.slice none 0 0) (.slice none 0 0) (.slice none 0 0)
    have hEe := q65 hws hE3 (.bool false) (.slice none 0 0) (.bool false) (.slice none 0 0) (.slice none 0 0) (.slice none 0 0)
    obtain ⟨pc0, pc1, pc2, pc3, pc4, pc5, -⟩ := sol6 SBe
    go_wp2_with fail
    refine bodyPost_ret (v := .tuple #[.agg #[.bool false, .slice none 0 0, .bool false, .slice none 0 0, .slice none 0 0, .slice none 0 0], .int .i64 17]) (by simp [results, Tryz.results109, go_sem, pc0, pc1, pc2, pc3, pc4, pc5]) rfl ?_
    exact ⟨hEe, .inr (.inl ⟨HV.out, H0.out, rfl⟩)⟩
   case pos =>
    have e0 : (p.s1.C p.W == 0) = true := by simp [h0]
    have H0 := Lib.hid h0
    clear h0
    rw [e0]
    go_wp2_with fail
    refine (expel_b a p p.m p.W p.art bc p.un p.flip p.s1 K _ rfl rfl rfl hT3 hC3 HBD.out.exp HBD.out.le HP.out.w.1 HP.out.w.2).mono ?_
    rintro e w4 ⟨rfl, hT4, hC4, hF4⟩
    have hx4 : Ext w1 w4 := hF4.ext hx3 (fun b hb => by
     rcases hb with ⟨i, hi, rfl⟩ | rfl | ⟨hm, rfl⟩
     ·exact hr i hi
     ·exact hbc
     ·exact hbb hm)
    have PB4 := PB1.ext hx4
    have d0 := PB4.c0
    have hn1 : 0 < n := by rw [HN.out]; exact HP.out.1
    obtain ⟨bo, rfl, hbo⟩ := hob.2.2 hn1
    have hbt : bo ≠ a.t := by have := hbo.lt; have := hE1.size; omega
    have hbo4 := hbo.ext (hE1.trans hx4)
    clear c0 c1 hT hT3 hC3 hF4
    go_wp2_with fail
    refine (aim_b a p.m p.W p.art p.x1.R p.x1.b p.un p.flip K _ _ _ _ bo n co p.obj hT4 hbo4 hbt (by rw [HN.out]; exact Nat.le_trans p.n_le p.art_le) (fun j hj => HBD.out.obj j (by rw [← HN.out]; exact hj)) (fun i hi j hj => (HBD.out.exp p.m (Nat.le_refl _)).1 i hi j hj) (by rw [HN.out]; exact HBD.out.red2) HBD.out.le HP.out.w.1 HP.out.w.2).mono ?_
    rintro e w5 ⟨bd, rfl, hT5, hC5, hF5, hbd⟩
    have hx5 : Ext w1 w5 := hF5.ext hx4 (fun b hb => by rw [hb]; exact ht)
    rw [HN.out] at hC5
    have hC5 : Cst a p.m p.W w5 bd p.a2.C := hC5
    have hT5 : Tab a p.m p.W p.art w5 (.slice (some ⟨bd, 0, none⟩) (p.W + 1) (p.W + 1)) p.a2.R p.a2.b p.un p.flip := hT5
    have hbd1 : w1.heap.size ≤ bd := Nat.le_trans hx4.size hbd
    clear hT4 hC4 hF5 hbo4 d0
    obtain ⟨N, h1, h2⟩ := Prob.stops2 HP.out.vrel H0.out
    have HI1 := Lib.hid h1
    have HI2 := Lib.hid h2
    clear h1 h2
    go_wp2_with fail
    refine (qxl a p.m p.W p.art bd p.un p.flip p.a2 K N p.s2 _ (fun s => ExI p p.D2 s p.m) rfl hT5 hC5 HI1.out HI2.out (Prob.way2 HP.out.vrel H0.out) (fun s s' h h' => h.next h') HBD.out.way2 HBD.out.le p.art_le HP.out.w.1 HP.out.w.2).mono ?_
    rintro e w6 ⟨N', s, g1, g2, rfl, hT6, hC6, hF6⟩
    obtain rfl : s = p.s2 := it_end g1 g2 HI1.out HI2.out
    have hx6 : Ext w1 w6 := hF6.ext hx5 (fun b hb => by
     rcases hb with ⟨i, hi, rfl⟩ | rfl | ⟨hm, rfl⟩
     ·exact hr i hi
     ·exact hbd1
     ·exact hbb hm)
    have hE6 := hE1.trans hx6
    have SB6 := SB1.ext hx6
    have PB6 := PB1.ext hx6
    clear hT5 hC5 hF6 g1 g2
    by_cases hE : entL p.s2.C p.s2.stalled p.art = none
    case neg =>
     have e0 : (entL p.s2.C p.s2.stalled p.art == none) = false := by
      cases h : entL p.s2.C p.s2.stalled p.art with
      | none => exact absurd h hE
      | some _ => rfl
     have HE := Lib.hid hE
     clear hE
     rw [e0]
     obtain ⟨k0, k1, k2, k3, k4, k5, f0, f1, f2, f3, f4, f5⟩ := sol6 SB6
     have SBe := qbz SB6 (.bool false) (.slice none 0 0) (.bool false) (.slice none 0 0) (.slice none 0 0) (.slice none 0 0)
     have hEe := q65 hws hE6 (.bool false) (.slice none 0 0) (.bool false) (.slice none 0 0) (.slice none 0 0) (.slice none 0 0)
     obtain ⟨pc0, pc1, pc2, pc3, pc4, pc5, -⟩ := sol6 SBe
     go_wp2_with fail
     refine bodyPost_ret (v := .tuple #[.agg #[.bool false, .slice none 0 0, .bool false, .slice none 0 0, .slice none 0 0, .slice none 0 0], .int .i64 18]) (by simp [results, Tryz.results109, go_sem, pc0, pc1, pc2, pc3, pc4, pc5]) rfl ?_
     exact ⟨hEe, .inr (.inr (.inl ⟨HV.out, H0.out, HE.out, rfl⟩))⟩
    case pos =>
     have e0 : (entL p.s2.C p.s2.stalled p.art == none) = true := by simpa using hE
     have HE := Lib.hid hE
     clear hE
     rw [e0]
     have d0 := PB6.c0
     have hn1 : 0 < n := by rw [HN.out]; exact HP.out.1
     have hn2 : n ≤ 1000 := by rw [HN.out]; exact HP.out.2.1
     go_upto_region 11 with (at_make; refine qhn _ rfl _ _ rfl _ _ rfl rfl n (by omega) (by omega) (by omega) ?_; intro w7 hR7 hx7)
     obtain ⟨bx, hbx⟩ : ∃ x, x = w6.heap.size := ⟨_, rfl⟩
     rw [← hbx] at hR7 ⊢
     have hT7 := hT6.ext hx7
     have hC7 := hC6.ext hx7
     have hx17 := hx6.trans hx7
     have hbx1 : w1.heap.size ≤ bx := by have := hx6.size; omega
     have hap : bx ≠ a.t ∧ (∀ i, i < p.m → bx ≠ a.rw i) ∧ (0 < p.m → bx ≠ a.br ∧ bx ≠ a.bb ∧ bx ≠ a.bu ∧ bx ≠ a.bf) ∧ bx ≠ bd := by
      have l1 := World.block_lt_of_cell? w6 _ hT6.self.c0
      refine ⟨fun e => ?_, fun i hi e => ?_, fun hm => ⟨fun e => ?_, fun e => ?_, fun e => ?_, fun e => ?_⟩, fun e => ?_⟩
      ·have : a.t < w6.heap.size := l1; omega
      ·have := (hT6.row i hi).lt; omega
      ·have : a.br < w6.heap.size := World.block_lt_of_cell? w6 _ (hT6.rows 0 hm); omega
      ·have : a.bb < w6.heap.size := World.block_lt_of_cell? w6 _ (hT6.bas 0 hm); omega
      ·have : a.bu < w6.heap.size := World.block_lt_of_cell? w6 _ (hT6.unit 0 hm); omega
      ·have : a.bf < w6.heap.size := World.block_lt_of_cell? w6 _ (hT6.flip 0 hm); omega
      ·have := hC6.row.lt; omega
     clear d0 hbx
     have HAP := Lib.hid hap
     clear hap
     have q2 := hT7.self.c2
     have hcap := hT7.cap.2.1
     have hm2 : p.m ≤ 1000 := HP.out.2.2.1
     obtain ⟨Ab, hAb⟩ : ∃ x, x = a.Ab := ⟨_, rfl⟩
     rw [← hAb] at q2
     have HAb := Lib.hid hAb
     clear hAb
     go_upto_region 12 with fail
     clear q2
     have HBW : Hid (∀ i, i < p.m → p.s2.b i < p.W) := Lib.hid (HBD.out.way2 _ (Prob.end2 HP.out.vrel H0.out)).2.2
     go_loopw [37] (fun iv wr => ∃ i : Nat, i ≤ p.m ∧ iv = .int .i64 i ∧ RowR wr bx n (fun j => sm i (fun k => if p.s2.b k = j then p.s2.R k p.W else 0)) ∧ Fr (fun k => k = bx) w7 wr) (fun iv _ => p.m - (intOf iv).toNat)
     case atStart => exact ⟨0, by omega, rfl, hR7, Fr.refl _ _⟩
     case round =>
      clear hR7
      obtain ⟨i, hi, rfl, hR, hF⟩ := hrel
      have hT := hT7.fr hF HAP.out.1.symm (fun hm => ⟨(HAP.out.2.2.1 hm).1.symm, (HAP.out.2.2.1 hm).2.1.symm, (HAP.out.2.2.1 hm).2.2.1.symm, (HAP.out.2.2.1 hm).2.2.2.symm⟩) (fun k hk => (HAP.out.2.1 k hk).symm)
      by_cases hlt : i < p.m
      ·obtain ⟨h1, h2, -, -⟩ := hT.adr (by omega)
       obtain rfl : Ab = some ⟨a.bb, 0, none⟩ := HAb.out.trans h2
       clear h2
       have q3 := hT.bas i hlt
       obtain ⟨bi, hbi⟩ : ∃ x, x = p.s2.b i := ⟨_, rfl⟩
       have hbW := HBW.out i hlt
       rw [← hbi] at q3 hbW
       have HBI := Lib.hid hbi
       clear hbi
       by_cases hbn : bi < n
       ·have e9 : (bi : Int) < (n : Int) := by omega
        have ra : a.Ar = some ⟨a.br, 0, none⟩ := h1
        have y0 := hT.self.c0
        rw [ra] at y0
        have y6 : wr.cell? ⟨a.t, 6, none⟩ = some (.int .i64 (p.W : Int)) := hT.self.cell 6
        have yr := hT.rows i hlt
        have hcr := hT.cap.1
        obtain ⟨p1, A1, m1, c1, p1', A1', m1', c1', g0, g1, g2, g3, hd⟩ := (hT.row i hlt).at (j := p.W) (by omega)
        obtain ⟨_, _, _, _, _, _, _, _, b0, b1, b2, b3, _⟩ := hR.at (j := bi) hbn
        have f0 := hR.frozen (bi * 4)
        have f1 := hR.frozen (bi * 4 + 1)
        have f2 := hR.frozen (bi * 4 + 2)
        have f3 := hR.frozen (bi * 4 + 3)
        obtain ⟨s1, s2⟩ := hR.set (j := bi) hbn hd
        have i1 : (0 : Int) ≤ (i : Int) := by omega
        have i2 : (i : Int) < (p.m : Int) := by omega
        have i3 : (0 : Int) ≤ (p.W : Int) := by omega
        have i4 : (p.W : Int) < (p.W : Int) + 1 := by omega
        have i5 : (0 : Int) ≤ (bi : Int) := by omega
        clear h1 ra
        go_upto_region 15 with fail
        go_region
        all_goals (
         go_wp2_with fail
         go_roundw
         case rel => exact ⟨i + 1, by omega, by go_num, (s1.ext ((Ext.refl _).drew)).congr (fun j hj => by
          rw [HBI.out]
          exact sm_put (Prob.end2 HP.out.vrel H0.out).way.inv.U hlt p.W j), (hF.trans s2).drew⟩
         case measure => simp [intOf]; omega)
       ·have e9 : ¬ (bi : Int) < (n : Int) := by omega
        have HN9 := Lib.hid hbn
        clear h1
        go_wp2_with fail
        go_roundw
        case rel => exact ⟨i + 1, by omega, by go_num, hR.congr (fun j hj => by
         show _ = sm i _ + (if p.s2.b i = j then p.s2.R i p.W else 0)
         have := HN9.out
         rw [if_neg (by rw [← HBI.out]; omega)]
         grind), hF⟩
        case measure => simp [intOf]; omega
      ·obtain rfl : i = p.m := by omega
       have hR : RowR wr bx n (pt p.m p.W p.s2.R p.s2.b) := hR
       have hx18 : Ext w1 wr := hF.ext hx17 (fun b hb => by rw [hb]; exact hbx1)
       have hC := hC7.fr hF HAP.out.2.2.2.symm
       have y1 := hT.self.c1
       have y6 : wr.cell? ⟨a.t, 6, none⟩ = some (.int .i64 (p.W : Int)) := hT.self.cell 6
       obtain ⟨p1, A1, m1, c1, p1', A1', m1', c1', g0, g1, g2, g3, hd⟩ := hC.row.at (j := p.W) (by omega)
       have i3 : (0 : Int) ≤ (p.W : Int) := by omega
       have i4 : (p.W : Int) < (p.W : Int) + 1 := by omega
       have hz : RatB wr (.agg #[.bool false, .slice none 0 0, .bool false, .slice none 0 0]) 0 K := ⟨RatV.zero wr, QB0 (by have := HBD.out.one; omega)⟩
       have SB8 := SB1.ext hx18
       obtain ⟨k0, k1, k2, k3, k4, k5, f0, f1, f2, f3, f4, f5⟩ := sol6 SB8
       go_upto_region 17 with fail
       go_region_with (first
        | (go_at_call 136; (refine (qo8 a p.m p.W p.art bd p.s2.R p.s2.C p.s2.b p.un p.flip K _ 0 _ (hT.ext (by repeat (first | (with_reducible exact Ext.refl _) | (with_reducible apply Ext.drew)))) (hC.ext (by repeat (first | (with_reducible exact Ext.refl _) | (with_reducible apply Ext.drew)))) (RatB.ext hz (by repeat (first | (with_reducible exact Ext.refl _) | (with_reducible apply Ext.drew)))) (HBD.out.way2 _ (Prob.end2 HP.out.vrel H0.out)).2.1 (fun i hi => Prob.un_lt HP.out.vrel hi) HBD.out.le HP.out.w.1 HP.out.w.2).mono ?_); rintro e w9 ⟨by', rfl, hR9, hx9, hb9⟩; (have hy9 : Ext wr w9 := Ext.trans (by repeat (first | (with_reducible exact Ext.refl _) | (with_reducible apply Ext.drew))) hx9); (have y1 := hy9.cell y1); (have y6 := hy9.cell y6); (have g0 := hy9.cell g0); (have g1 := hy9.cell g1); (have g2 := hy9.cell g2); (have g3 := hy9.cell g3); (have SB9 := SB8.ext hy9); (obtain ⟨k0, k1, k2, k3, k4, k5, f0, f1, f2, f3, f4, f5⟩ := sol6 SB9)))
       all_goals (
        have SBe := qbz SB9 (.bool p1) (.slice A1 m1 c1) (.bool p1') (.slice A1' m1' c1') (.slice (some ⟨bx, 0, none⟩) n n) (.slice (some ⟨by', 0, none⟩) p.m p.m)
        have hEe := q65 hws ((hE1.trans hx18).trans hy9) (.bool p1) (.slice A1 m1 c1) (.bool p1') (.slice A1' m1' c1') (.slice (some ⟨bx, 0, none⟩) n n) (.slice (some ⟨by', 0, none⟩) p.m p.m)
        have hFe := sol6fr SB9 (fun z => ⟨by simp, by simp, by simp, by simp, by simp, by simp⟩) (.bool p1) (.slice A1 m1 c1) (.bool p1') (.slice A1' m1' c1') (.slice (some ⟨bx, 0, none⟩) n n) (.slice (some ⟨by', 0, none⟩) p.m p.m)
        obtain ⟨pc0, pc1, pc2, pc3, pc4, pc5, -⟩ := sol6 SBe
        have l1 : sb < w1.heap.size := World.block_lt_of_cell? w1 _ SB1.c0
        have l2 := hx18.size
        have l3 : wr.heap.size ≤ by' := hb9
        have l4 := hR.lt
        have l5 := hE1.size
        have z1 := hFe.rat (hd.ext hy9)
        have z2 := (hR.ext hy9).fr hFe (by omega)
        have z3 := hR9.fr hFe (by omega)
        go_wp2_with fail
        refine bodyPost_ret (v := .tuple #[.agg #[.bool p1, .slice A1 m1 c1, .bool p1', .slice A1' m1' c1', .slice (some ⟨bx, 0, none⟩) n n, .slice (some ⟨by', 0, none⟩) p.m p.m], .int .i64 0]) (by simp [results, Tryz.results109, go_sem, pc0, pc1, pc2, pc3, pc4, pc5]) rfl ?_
        refine ⟨hEe, .inr (.inr (.inr ⟨HV.out, H0.out, HE.out, p1, A1, m1, c1, p1', A1', m1', c1', bx, by', by rw [HN.out], z1, by rw [← HN.out]; exact z2, z3, by omega, by omega, by omega⟩))⟩)
end Go.Proofs.YtljncdcjkdgkeaaGreatDoor.Lp

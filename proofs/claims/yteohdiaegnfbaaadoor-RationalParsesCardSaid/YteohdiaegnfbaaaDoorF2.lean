/- The reference of the rational numbers: Make walked. -/
import Derived.Test.YteohdiaegnfbaaaDoorF1
import Derived.Test.YteohdiaegnfbaaaDoorT5A
import Derived.Deep.DeepCutAuto
set_option linter.unusedVariables false
set_option linter.unusedSimpArgs false
namespace Go.Proofs.YteohdiaegnfbaaaDoor.Ten
open Go.RowKit Go.Proofs.YteohdiaegnfbaaaDoor.Big Go.Proofs.YteohdiaegnfbaaaDoor.Rt

theorem fracNe : (41 : Nat) ≠ 3 := by decide
theorem NumV.far4 {w : World} {b : Nat} {E : TypeId} {cs : Array Value} {v : Value} {z : Int} (h : NumV w v z) (hb : Box w b E cs) (hE : E ≠ 3) (x y u t : Value) :
    NumV ((((w.setCell ⟨b, 0, none⟩ x).setCell ⟨b, 1, none⟩ y).setCell ⟨b, 2, none⟩ u).setCell ⟨b, 3, none⟩ t) v z :=
  (((h.far hb hE 0 x).far (hb.set 0 x) hE 1 y).far ((hb.set 0 x).set 1 y) hE 2 u).far (((hb.set 0 x).set 1 y).set 2 u) hE 3 t
theorem NumV.s2 {w : World} {c : Nat} {cs : Array Value} {v : Value} {z : Int} (h : NumV w v z) (hb : Box w c 39 cs) (x y : Value) : NumV ((w.setCell ⟨c, 0, none⟩ x).setCell ⟨c, 1, none⟩ y) v z :=
  (h.far hb numNe 0 x).far (hb.set 0 x) numNe 1 y
/-- the struct value v is the fraction n / d -/
def FracV (w : World) (v : Value) (q : Rat) : Prop := ∃ s A n c s' A' n' c', v = .agg #[.int .i64 s, .slice A n c, .int .i64 s', .slice A' n' c'] ∧ NumV w (.agg #[.int .i64 s, .slice A n c]) q.num ∧ NumV w (.agg #[.int .i64 s', .slice A' n' c']) (q.den : Int)
theorem FracV.ext {w w' : World} {v : Value} {q : Rat} (h : FracV w v q) (k : Ext w w') : FracV w' v q := by
  obtain ⟨s, A, n, c, s', A', n', c', rfl, h1, h2⟩ := h
  exact ⟨s, A, n, c, s', A', n', c', rfl, h1.ext k, h2.ext k⟩
def FPost (w : World) (q : Rat) (e : Ending) (w' : World) : Prop := ∃ v, e = .returned v ∧ FracV w' v q ∧ Ext w w'
theorem FracV.put {w : World} {b : Nat} {s s' : Int} {A A' : Option Addr} {n c n' c' : Nat} {q : Rat} {x y u t : Value} (h1 : NumV w (.agg #[.int .i64 s, .slice A n c]) q.num) (h2 : NumV w (.agg #[.int .i64 s', .slice A' n' c']) (q.den : Int)) (hb : Box w b 41 #[x, y, u, t]) :
    FracV ((((w.setCell ⟨b, 0, none⟩ (.int .i64 s)).setCell ⟨b, 1, none⟩ (.slice A n c)).setCell ⟨b, 2, none⟩ (.int .i64 s')).setCell ⟨b, 3, none⟩ (.slice A' n' c')) (.agg #[.int .i64 s, .slice A n c, .int .i64 s', .slice A' n' c']) q ∧
    Box ((((w.setCell ⟨b, 0, none⟩ (.int .i64 s)).setCell ⟨b, 1, none⟩ (.slice A n c)).setCell ⟨b, 2, none⟩ (.int .i64 s')).setCell ⟨b, 3, none⟩ (.slice A' n' c')) b 41 #[.int .i64 s, .slice A n c, .int .i64 s', .slice A' n' c'] :=
  ⟨⟨_, _, _, _, _, _, _, _, rfl, h1.far4 hb fracNe _ _ _ _, h2.far4 hb fracNe _ _ _ _⟩, hb.set4 _ _ _ _⟩
theorem drew_of {w w' : World} (h : Ext w.drew w') : Ext w w' := (Ext.refl w).drew.trans h
theorem sign_blt {x : Int} : decide (x.sign < 0) = decide (x < 0) := by
  rcases sign_cases x with ⟨a, b⟩ | ⟨a, b⟩ | ⟨a, b⟩ <;> rw [b] <;> simp <;> omega

set_option maxRecDepth 100000 in
set_option maxHeartbeats 8000000 in
theorem FMake_any (x y : Value) (n d : Int) (L : Nat) (w : World) (hx : NumV w x n) (hy : NumV w y d) (bx : BT L n) (bY : BT L d) (hL : L ≤ 100000000000) (hd : d ≠ 0) :
    Calls Tryd.prog 32 #[x, y] w (FPost w (Rat.divInt n d)) := by
  obtain ⟨s1, A1, n1, c1, rfl, hs1⟩ := hx.shape
  obtain ⟨s2, A2, n2, c2, rfl, hs2⟩ := hy.shape
  obtain ⟨q, hq⟩ : ∃ q, q = Rat.divInt n d := ⟨_, rfl⟩
  rw [← hq]
  have HQ := Lib.hid hq
  have HD := Lib.hid hd
  have HS1 := Lib.hid hs1
  have HS2 := Lib.hid hs2
  clear hq hd hs1 hs2
  obtain ⟨B0, B1, B2, hE0⟩ := boxesT3 w 39 39 41 #[.int .i64 s1, .slice A1 n1 c1] #[.int .i64 s2, .slice A2 n2 c2] #[.int .i64 0, .slice none 0 0, .int .i64 0, .slice none 0 0]
  have hx := hx.ext hE0
  have hy := hy.ext hE0
  by_cases hn : n = 0
  · have e1 : (s1 == 0) = true := by rw [HS1.out, hn]; rfl
    have hq0 : q = 0 := by rw [HQ.out, hn, Rat.zero_divInt]
    rw [hn] at hx
    clear hn
    go_enter Tryd.func32, Tryd.ntmps32
    go_upto_region 2 with fail
    generalize (((w.alloc (.cells #[.int .i64 s1, .slice A1 n1 c1] 39)).alloc (.cells #[.int .i64 s2, .slice A2 n2 c2] 39)).alloc (.cells #[.int .i64 0, .slice none 0 0, .int .i64 0, .slice none 0 0] 41)) = W0 at *
    have HQ0 := Lib.hid hq0
    clear hq0
    have ks := KE.start (R := [w.heap.size + 1 + 1]) hE0 (by simp; omega)
    have kb0 : w.heap.size ∉ [w.heap.size + 1 + 1] := by simp; omega
    have k00 : ∀ w', KE [w.heap.size + 1 + 1] w W0 w' → w'.cell? ⟨w.heap.size, 0, none⟩ = some (.int .i64 s1) := fun w' h => (h.bx B0 kb0).c0
    have k01 : ∀ w', KE [w.heap.size + 1 + 1] w W0 w' → w'.cell? ⟨w.heap.size, 1, none⟩ = some (.slice A1 n1 c1) := fun w' h => (h.bx B0 kb0).c1
    go_region_held3 (fun w' => KE [w.heap.size + 1 + 1] w W0 w') ((repeat (first | assumption | apply KE.drew | apply KE.drewN | apply KE.alloc | (refine KE.set ?_ (by simp) _) | (refine KE.step ?_ (by assumption))))) (first
      | (go_at_call 47; (with_reducible refine (one_any _).mono ?_); rintro e w1 ⟨v1, rfl, h1, hx1⟩; (obtain ⟨s3, A3, n3, c3, rfl, -⟩ := h1.shape); (have b2 := B2.drew.ext hx1); have q0 := b2.c0; have q1 := b2.c1; have q2 := b2.c2; have q3 := b2.c3; have f0 := b2.frozen 0; have f1 := b2.frozen 1; have f2 := b2.frozen 2; have f3 := b2.frozen 3)
      )
    all_goals go_wp2_with fail
    all_goals (
      obtain ⟨pp, pb⟩ := FracV.put (show NumV w1 _ q.num by rw [HQ0.out]; exact hx.ext (drew_of hx1)) (show NumV w1 _ (q.den : Int) by rw [HQ0.out]; exact h1) b2
      have pc0 := pb.c0
      have pc1 := pb.c1
      have pc2 := pb.c2
      have pc3 := pb.c3
      refine bodyPost_ret (v := .agg #[.int .i64 s1, .slice A1 n1 c1, .int .i64 s3, .slice A3 n3 c3]) (by simp [results, Tryd.results32, go_sem, pc0, pc1, pc2, pc3]) rfl ?_
      exact ⟨_, rfl, pp, KE.ext (R := [w.heap.size + 1 + 1]) (W0 := W0) (by assumption)⟩)
  · have e1 : (s1 == 0) = false := by rw [HS1.out]; exact sign_ne hn
    have HN := Lib.hid hn
    obtain ⟨sb, hsb⟩ : ∃ b, b = decide (d < 0) := ⟨_, rfl⟩
    have e2 : decide (s2 < 0) = sb := by rw [HS2.out, sign_blt, hsb]
    have HSB := Lib.hid hsb
    clear hn hsb
    go_enter Tryd.func32, Tryd.ntmps32
    go_upto_if 15 with fail
    generalize (((w.alloc (.cells #[.int .i64 s1, .slice A1 n1 c1] 39)).alloc (.cells #[.int .i64 s2, .slice A2 n2 c2] 39)).alloc (.cells #[.int .i64 0, .slice none 0 0, .int .i64 0, .slice none 0 0] 41)) = W0 at *
    go_cut [] (fun wx => ∃ (n' d' : Int) (s s' : Int) (A1 A2 : Option Addr) (n1 c1 n2 c2 : Nat), Box wx w.heap.size 39 #[.int .i64 s, .slice A1 n1 c1] ∧ Box wx (w.heap.size + 1) 39 #[.int .i64 s', .slice A2 n2 c2] ∧
      Box wx (w.heap.size + 1 + 1) 41 #[.int .i64 0, .slice none 0 0, .int .i64 0, .slice none 0 0] ∧ NumV wx (.agg #[.int .i64 s, .slice A1 n1 c1]) n' ∧ NumV wx (.agg #[.int .i64 s', .slice A2 n2 c2]) d' ∧ BT L n' ∧ BT L d' ∧ Hid (0 < d' ∧ n' ≠ 0 ∧ q = Rat.divInt n' d') ∧ Ext w wx)
    case first =>
      cases sb
      · have hneg : ¬ d < 0 := by have := HSB.out; simpa using this
        have HC : Hid (0 < d ∧ n ≠ 0 ∧ q = Rat.divInt n d) := Lib.hid ⟨by have := HD.out; omega, HN.out, HQ.out⟩
        clear hneg
        go_wp2_with fail
        go_meet
        exact ⟨_, _, _, _, _, _, _, _, _, _, B0, B1, B2, hx, hy, bx, bY, HC, hE0⟩
      · have hneg : d < 0 := by have := HSB.out; simpa using this
        have HC : Hid (0 < -d ∧ -n ≠ 0 ∧ q = Rat.divInt (-n) (-d)) := Lib.hid ⟨by omega, by have := HN.out; omega, by rw [HQ.out, Rat.neg_divInt_neg]⟩
        clear hneg
        have q00 := B0.c0
        have q01 := B0.c1
        have q10 := B1.c0
        have q11 := B1.c1
        go_upto_region 4 with fail
        go_region_with (first
          | (go_at_call 63; (with_reducible refine (Neg_any _ n _ (hx.ext (by repeat (first | (with_reducible exact Ext.refl _) | (with_reducible apply Ext.drew) | (with_reducible apply Ext.drewN))))).mono ?_); rintro e w3 ⟨v3, rfl, hb3, hx3⟩; (obtain ⟨s3, A3, n3, c3, rfl, -⟩ := hb3.shape); (have E0 := B0.drew.ext hx3); (have E1 := B1.drew.ext hx3); (have g0 := E0.c0; have g1 := E0.c1; have g2 := E1.c0; have g3 := E1.c1; have g4 := E0.frozen 0; have g5 := E0.frozen 1; have g6 := E1.frozen 0; have g7 := E1.frozen 1))
          | (go_at_call 63; (with_reducible refine (Neg_any _ d _ (hy.ext (by repeat (first | (with_reducible exact Ext.refl _) | (with_reducible apply Ext.drew) | (with_reducible apply Ext.drewN) | (with_reducible refine Ext.trans ?_ (by assumption)))))).mono ?_); rintro e w4 ⟨v4, rfl, hb4, hx4⟩; (obtain ⟨s4, A4, n4, c4, rfl, -⟩ := hb4.shape); (have E0 := E0.ext hx4); (have E1 := E1.ext hx4); (have h0 := E0.c0; have h1 := E0.c1; have h2 := E1.c0; have h3 := E1.c1; have h4 := E0.frozen 0; have h5 := E0.frozen 1; have h6 := E1.frozen 0; have h7 := E1.frozen 1)))
        all_goals (go_wp2_with fail; go_meet)
        all_goals (obtain ⟨wz, hwz, z1, z2, z3, z4⟩ := NumV.two_put (by omega) (hb3.ext hx4) hb4 E0 E1)
        all_goals (have z5 := (((((B2.drew.ext hx3).ext hx4).far (p := ⟨w.heap.size, 0, none⟩) (by simp; omega) (.int .i64 s3)).far (p := ⟨w.heap.size, 1, none⟩) (by simp; omega) (.slice A3 n3 c3)).far (p := ⟨w.heap.size + 1, 0, none⟩) (by simp) (.int .i64 s4)).far (p := ⟨w.heap.size + 1, 1, none⟩) (by simp) (.slice A4 n4 c4))
        all_goals (have z6 := (((((hE0.drew.trans hx3).trans hx4).set (p := ⟨w.heap.size, 0, none⟩) (Nat.le_refl _) (.int .i64 s3)).set (p := ⟨w.heap.size, 1, none⟩) (Nat.le_refl _) (.slice A3 n3 c3)).set (p := ⟨w.heap.size + 1, 0, none⟩) (by simp) (.int .i64 s4)).set (p := ⟨w.heap.size + 1, 1, none⟩) (by simp) (.slice A4 n4 c4))
        all_goals (rw [← hwz] at z5 z6 ⊢; exact ⟨_, _, _, _, _, _, _, _, _, _, z3, z4, z5, z1, z2, BT_neg bx, BT_neg bY, HC, z6⟩)
    case rest =>
      clear B0 B1 B2 hx hy HSB e2 e1 HS1 HS2
      obtain ⟨m, k, s, s', A1, A2, n1, c1, n2, c2, B0, B1, B2, hm, hk, bm, bk, HC, hE⟩ := hcut
      have hsm := hm.sign_of
      obtain ⟨K, hK⟩ : ∃ K : Nat, k = (K : Int) := ⟨k.toNat, by have := HC.out.1; omega⟩
      subst hK
      obtain ⟨sb, hsb⟩ : ∃ b, b = decide (m < 0) := ⟨_, rfl⟩
      have e2 : decide (s < 0) = sb := by rw [hsm, sign_blt, hsb]
      have HSB := Lib.hid hsb
      have HSM := Lib.hid hsm
      clear hsb hsm
      have q00 := B0.c0
      have q01 := B0.c1
      go_upto_if 23 with fail
      have hxa : Ext wc (wc.alloc (.cells #[.int .i64 s, .slice A1 n1 c1] 39)) := (Ext.refl wc).alloc _
      have B5 := Box.new wc 39 #[.int .i64 s, .slice A1 n1 c1]
      have hlt := B2.lt
      have m1 : ¬ w.heap.size = wc.heap.size := by omega
      have m2 : ¬ wc.heap.size = w.heap.size := by omega
      have m3 : ¬ w.heap.size + 1 = wc.heap.size := by omega
      have m4 : ¬ wc.heap.size = w.heap.size + 1 := by omega
      have B0 := B0.ext hxa
      have B1 := B1.ext hxa
      have B2 := B2.ext hxa
      have hm := hm.ext hxa
      have hk := hk.ext hxa
      have hE := hE.trans hxa
      generalize (wc.alloc (.cells #[.int .i64 s, .slice A1 n1 c1] 39)) = W1 at *
      clear hxa q00 q01
      generalize wc.heap.size = b5 at *
      go_cut [] (fun wx => ∃ (sa : Int) (Aa : Option Addr) (na ca : Nat), Box wx b5 39 #[.int .i64 sa, .slice Aa na ca] ∧ NumV wx (.agg #[.int .i64 sa, .slice Aa na ca]) ((m.natAbs : Nat) : Int) ∧ Box wx w.heap.size 39 #[.int .i64 s, .slice A1 n1 c1] ∧ Box wx (w.heap.size + 1) 39 #[.int .i64 s', .slice A2 n2 c2] ∧
        Box wx (w.heap.size + 1 + 1) 41 #[.int .i64 0, .slice none 0 0, .int .i64 0, .slice none 0 0] ∧ NumV wx (.agg #[.int .i64 s, .slice A1 n1 c1]) m ∧ NumV wx (.agg #[.int .i64 s', .slice A2 n2 c2]) (K : Int) ∧ Ext w wx)
      case first =>
        cases sb
        · have hneg : ¬ m < 0 := by have := HSB.out; simpa using this
          have hma : ((m.natAbs : Nat) : Int) = m := by omega
          have HMA := Lib.hid hma
          clear hneg hma
          go_wp2_with fail
          go_meet
          exact ⟨_, _, _, _, B5, by rw [HMA.out]; exact hm, B0, B1, B2, hm, hk, hE⟩
        · have hneg : m < 0 := by have := HSB.out; simpa using this
          have hma : -m = ((m.natAbs : Nat) : Int) := by omega
          have HMA := Lib.hid hma
          clear hneg hma
          have q0 := B5.c0
          have q1 := B5.c1
          go_wp2_with fail
          refine (Neg_any _ m _ hm).mono ?_
          rintro e w3 ⟨v3, rfl, h3, hx3⟩
          obtain ⟨s3, A3, n3, c3, rfl, -⟩ := h3.shape
          have D5 := B5.ext hx3
          have r0 := D5.c0
          have r1 := D5.c1
          have f0 := D5.frozen 0
          have f1 := D5.frozen 1
          go_wp2_with fail
          go_meet
          exact ⟨_, _, _, _, D5.put2 _ _, by rw [← HMA.out]; exact h3.s2 D5 _ _, Box.f2 (B0.ext hx3) (by omega) _ _, Box.f2 (B1.ext hx3) (by omega) _ _, Box.f2 (B2.ext hx3) (by omega) _ _, (hm.ext hx3).s2 D5 _ _, (hk.ext hx3).s2 D5 _ _, ((hE.trans hx3).set (by show w.heap.size ≤ b5; omega) _).set (by show w.heap.size ≤ b5; omega) _⟩
      case rest =>
        clear B0 B1 B2 B5 hm hk hE e2
        obtain ⟨sa, Aa, na, ca, B5, ha, B0, B1, B2, hm, hk, hE⟩ := hcut
        have q0 := B5.c0
        have q1 := B5.c1
        have r0 := B1.c0
        have r1 := B1.c1
        go_wp2_with fail
        refine (gcd_any _ _ m.natAbs K L _ ha hk bm (by simpa [BT] using bk) hL).mono ?_
        rintro e w3 ⟨v3, rfl, hg, hx3⟩
        obtain ⟨s3, A3, n3, c3, rfl, -⟩ := hg.shape
        obtain ⟨G, hG⟩ : ∃ G : Int, G = ((Nat.gcd m.natAbs K : Nat) : Int) := ⟨_, rfl⟩
        have hG0 : G ≠ 0 := by
          have := Nat.gcd_pos_of_pos_left K (show 0 < m.natAbs by have := HC.out.2.1; omega); omega
        rw [← hG] at hg
        have bG : G.natAbs < pt L := by
          rw [hG, Int.natAbs_natCast]
          exact Nat.lt_of_le_of_lt (Nat.gcd_le_left _ (by have := HC.out.2.1; omega)) bm
        have HG := Lib.hid hG
        have HG0 := Lib.hid hG0
        clear hG hG0
        go_upto_region 9 with fail
        have hx4 : Ext w3 (w3.alloc (.cells #[.int .i64 s3, .slice A3 n3 c3] 39)) := (Ext.refl w3).alloc _
        have B6 := Box.new w3 39 #[.int .i64 s3, .slice A3 n3 c3]
        have hx34 := hx3.trans hx4
        have hlt := (B2.ext hx3).lt
        have y1 : ¬ w3.heap.size = w.heap.size := by omega
        have y2 : ¬ w.heap.size = w3.heap.size := by omega
        have y3 : ¬ w3.heap.size = w.heap.size + 1 := by omega
        have y4 : ¬ w.heap.size + 1 = w3.heap.size := by omega
        have B0 := B0.ext hx34
        have B1 := B1.ext hx34
        have B2 := B2.ext hx34
        have hm := hm.ext hx34
        have hk := hk.ext hx34
        have hg := hg.ext hx4
        have hE := hE.trans hx34
        generalize (w3.alloc (.cells #[.int .i64 s3, .slice A3 n3 c3] 39)) = W4 at *
        clear hx3 hx4 hx34 B5 ha q0 q1 r0 r1
        generalize w3.heap.size = b6 at *
        have q0 := B0.c0
        have q1 := B0.c1
        have r0 := B6.c0
        have r1 := B6.c1
        go_wp2_with fail
        refine (Div_any _ _ m G L _ hm hg bm bG hL HG0.out).mono ?_
        rintro e w5 ⟨v5, v6, rfl, h5, h6, hx5⟩
        obtain ⟨s5, A5, n5, c5, rfl, -⟩ := h5.shape
        obtain ⟨s6, A6, n6, c6, rfl, -⟩ := h6.shape
        clear h6
        have D0 := B0.ext hx5
        have u0 := D0.c0
        have u1 := D0.c1
        have f0 := D0.frozen 0
        have f1 := D0.frozen 1
        go_upto_region 10 with fail
        have hk := (hk.ext hx5).s2 D0 (.int .i64 s5) (.slice A5 n5 c5)
        have hg := (hg.ext hx5).s2 D0 (.int .i64 s5) (.slice A5 n5 c5)
        have h5 := h5.s2 D0 (.int .i64 s5) (.slice A5 n5 c5)
        have B1 := Box.f2 (B1.ext hx5) (show w.heap.size + 1 ≠ w.heap.size by omega) (.int .i64 s5) (.slice A5 n5 c5)
        have B2 := Box.f2 (B2.ext hx5) (show w.heap.size + 1 + 1 ≠ w.heap.size by omega) (.int .i64 s5) (.slice A5 n5 c5)
        have B6 := Box.f2 (B6.ext hx5) (show b6 ≠ w.heap.size by omega) (.int .i64 s5) (.slice A5 n5 c5)
        have hE := ((hE.trans hx5).set (p := ⟨w.heap.size, 0, none⟩) (Nat.le_refl _) (.int .i64 s5)).set (p := ⟨w.heap.size, 1, none⟩) (Nat.le_refl _) (.slice A5 n5 c5)
        have B0 := D0.put2 (.int .i64 s5) (.slice A5 n5 c5)
        generalize ((w5.setCell ⟨w.heap.size, 0, none⟩ (.int .i64 s5)).setCell ⟨w.heap.size, 1, none⟩ (.slice A5 n5 c5)) = W6 at *
        clear D0 u0 u1 f0 f1 q0 q1 r0 r1 hx5 hm
        have q0 := B1.c0
        have q1 := B1.c1
        have r0 := B6.c0
        have r1 := B6.c1
        go_wp2_with fail
        refine (Div_any _ _ (K : Int) G L _ hk hg bk bG hL HG0.out).mono ?_
        rintro e w7 ⟨v7, v8, rfl, h7, h8, hx7⟩
        obtain ⟨s7, A7, n7, c7, rfl, -⟩ := h7.shape
        obtain ⟨s8, A8, n8, c8, rfl, -⟩ := h8.shape
        clear h8
        have D1 := B1.ext hx7
        have u0 := D1.c0
        have u1 := D1.c1
        have f0 := D1.frozen 0
        have f1 := D1.frozen 1
        go_upto_region 11 with fail
        have h5 := (h5.ext hx7).s2 D1 (.int .i64 s7) (.slice A7 n7 c7)
        have h7 := h7.s2 D1 (.int .i64 s7) (.slice A7 n7 c7)
        have B0 := Box.f2 (B0.ext hx7) (show w.heap.size ≠ w.heap.size + 1 by omega) (.int .i64 s7) (.slice A7 n7 c7)
        have B2 := Box.f2 (B2.ext hx7) (show w.heap.size + 1 + 1 ≠ w.heap.size + 1 by omega) (.int .i64 s7) (.slice A7 n7 c7)
        have hE := ((hE.trans hx7).set (p := ⟨w.heap.size + 1, 0, none⟩) (by simp) (.int .i64 s7)).set (p := ⟨w.heap.size + 1, 1, none⟩) (by simp) (.slice A7 n7 c7)
        have B1 := D1.put2 (.int .i64 s7) (.slice A7 n7 c7)
        generalize ((w7.setCell ⟨w.heap.size + 1, 0, none⟩ (.int .i64 s7)).setCell ⟨w.heap.size + 1, 1, none⟩ (.slice A7 n7 c7)) = W8 at *
        clear D1 u0 u1 f0 f1 q0 q1 r0 r1 hx7 hk hg B6
        have q0 := B0.c0
        have q1 := B0.c1
        have r0 := B1.c0
        have r1 := B1.c1
        have t0 := B2.c0
        have t1 := B2.c1
        have t2 := B2.c2
        have t3 := B2.c3
        have f0 := B2.frozen 0
        have f1 := B2.frozen 1
        have f2 := B2.frozen 2
        have f3 := B2.frozen 3
        obtain ⟨r1', r2'⟩ := red_pos (n := m) HC.out.1
        rw [← HC.out.2.2, Int.natAbs_natCast, ← HG.out] at r1' r2'
        rw [← r1'] at h5
        rw [← r2'] at h7
        clear r1' r2'
        go_wp2_with fail
        obtain ⟨pp, pb⟩ := FracV.put h5 h7 B2
        have pc0 := pb.c0
        have pc1 := pb.c1
        have pc2 := pb.c2
        have pc3 := pb.c3
        refine bodyPost_ret (v := .agg #[.int .i64 s5, .slice A5 n5 c5, .int .i64 s7, .slice A7 n7 c7]) (by simp [results, Tryd.results32, go_sem, pc0, pc1, pc2, pc3]) rfl ?_
        exact ⟨_, rfl, pp, (((hE.set (by simp; omega) _).set (by simp; omega) _).set (by simp; omega) _).set (by simp; omega) _⟩
end Go.Proofs.YteohdiaegnfbaaaDoor.Ten

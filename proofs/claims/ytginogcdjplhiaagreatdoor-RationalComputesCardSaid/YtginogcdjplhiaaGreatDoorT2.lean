/- Walks: the rational numbers' Den, Num, Sign, Neg, Of, Make, Frac, Cmp. -/
import Derived.Test.YtginogcdjplhiaaGreatDoorT1
set_option linter.unusedVariables false
set_option linter.unusedSimpArgs false
namespace Go.Proofs.YtginogcdjplhiaaGreatDoor.Rt
open Go.RowKit Go.Proofs.YtginogcdjplhiaaGreatDoor.Big

def QB (k : Nat) (q : Rat) : Prop := B k q.num ∧ B k (q.den : Int)
theorem QB_mono {j k : Nat} {q : Rat} (h : j ≤ k) (b : QB j q) : QB k q := ⟨B_mono h b.1, B_mono h b.2⟩
theorem B_one {k : Nat} (h : 0 < k) : B k 1 := by
  have := pw_le h
  rw [pw_one] at this
  unfold B; omega
theorem QB_pos {k : Nat} {q : Rat} (b : QB k q) : 0 < k := by
  rcases Nat.eq_zero_or_pos k with h | h
  · subst h
    have := b.2
    unfold B at this
    rw [pw_zero] at this
    have := q.den_pos
    omega
  · exact h
theorem QB_red {j k : Nat} {n d : Int} (hn : B j n) (hd : B k d) (h : d ≠ 0) : QB (max j k) (Rat.divInt n d) := by
  have key : ∀ n d : Int, B j n → B k d → 0 < d → QB (max j k) (Rat.divInt n d) := by
    intro n d hn hd h
    obtain ⟨a, b⟩ := red_pos (n := n) h
    refine ⟨?_, ?_⟩
    · rw [a]; exact B_mono (Nat.le_max_left _ _) (tdiv_boundG _ hn)
    · rw [b]; exact B_mono (Nat.le_max_right _ _) (tdiv_boundG _ hd)
  rcases Int.lt_or_lt_of_ne h with h | h
  · rw [← Rat.neg_divInt_neg]; exact key _ _ (B_neg hn) (B_neg hd) (by omega)
  · exact key _ _ hn hd h
theorem QB_neg {k : Nat} {q : Rat} (b : QB k q) : QB k (-q) := ⟨by rw [Rat.neg_num]; exact B_neg b.1, by rw [Rat.neg_den]; exact b.2⟩
theorem QB_add {j k : Nat} {x y : Rat} (a : QB j x) (b : QB k y) : QB (j + k + 1) (x + y) := by
  rw [add_eq]
  have h := QB_red (B_add (k := j + k) (B_mul a.1 b.2) (by rw [Nat.add_comm]; exact B_mul b.1 a.2)) (B_mul a.2 b.2) (by have := x.den_pos; have := y.den_pos; exact Int.mul_ne_zero (by omega) (by omega))
  exact QB_mono (by omega) h
theorem QB_mul {j k : Nat} {x y : Rat} (a : QB j x) (b : QB k y) : QB (j + k) (x * y) := by
  rw [mul_eq]
  have h := QB_red (B_mul a.1 b.1) (B_mul a.2 b.2) (by have := x.den_pos; have := y.den_pos; exact Int.mul_ne_zero (by omega) (by omega))
  exact QB_mono (by omega) h
theorem QB_div {j k : Nat} {x y : Rat} (a : QB j x) (b : QB k y) (hy : y.num ≠ 0) : QB (j + k) (x / y) := by
  rw [div_eq]
  have h := QB_red (B_mul a.1 b.2) (B_mul a.2 b.1) (by have := x.den_pos; exact Int.mul_ne_zero (by omega) hy)
  exact QB_mono (by omega) h
def RatB (w : World) (v : Value) (q : Rat) (k : Nat) : Prop := RatV w v q ∧ QB k q
theorem RatB.ext {w w' : World} {v : Value} {q : Rat} {k : Nat} (h : RatB w v q k) (x : Ext w w') : RatB w' v q k := ⟨h.1.ext x, h.2⟩
def RatBPost (w : World) (q : Rat) (k : Nat) (e : Ending) (w' : World) : Prop := ∃ v, e = .returned v ∧ RatB w' v q k ∧ Ext w w'
theorem toR {w : World} {q : Rat} {k : Nat} (b : QB k q) {e : Ending} {w' : World} (h : RatPost w q e w') : RatBPost w q k e w' := by
  obtain ⟨v, rfl, h1, h2⟩ := h
  exact ⟨v, rfl, ⟨h1, b⟩, h2⟩
theorem red_b (x y : Value) (n d : Int) (j k : Nat) (w : World) (hx : BigB w x n j) (hy : BigB w y d k) (hL : max j k ≤ 1099511627776) (hd : d ≠ 0) : Calls Tryz.prog 32 #[x, y] w (RatBPost w (Rat.divInt n d) (max j k)) :=
  (reduced_any x y n d (max j k) w hx.1 hy.1 (B_mono (Nat.le_max_left _ _) hx.2) (B_mono (Nat.le_max_right _ _) hy.2) hL hd).mono fun _ _ h => toR (QB_red hx.2 hy.2 hd) h

theorem RatDen_b (x : Value) (q : Rat) (k : Nat) (w : World) (hx : RatB w x q k) : Calls Tryz.prog 34 #[x] w (BigBPost w (q.den : Int) k) := by
  obtain ⟨p, A, n, c, p', A', n', c', rfl⟩ := hx.1.shape
  obtain ⟨-, z, hz, hzq⟩ := hx.1.parts
  have hb := hx.2
  obtain ⟨D, hD⟩ : ∃ D : Int, D = (q.den : Int) := ⟨_, rfl⟩
  have hDp : 0 < D := by have := q.den_pos; omega
  have bD : B k D := by rw [hD]; exact hb.2
  have hzD : z = D ∨ (z = 0 ∧ D = 1) := by
    rcases hzq with h | ⟨h, h2⟩
    · exact .inl (h.trans hD.symm)
    · exact .inr ⟨h, by rw [hD, h2]; rfl⟩
  rw [← hD]
  clear hD hzq hx hb
  obtain ⟨B0, B1, hE0⟩ := boxesT2 w 28 26 #[.bool p, .slice A n c, .bool p', .slice A' n' c'] #[.bool false, .slice none 0 0]
  go_enter Tryz.func34, Tryz.ntmps34
  go_wp2_with fail
  generalize ((w.alloc (.cells #[.bool p, .slice A n c, .bool p', .slice A' n' c'] 28)).alloc (.cells #[.bool false, .slice none 0 0] 26)) = W0 at *
  refine (Sign_any _ z W0 (hz.ext hE0)).mono ?_
  rintro e w1 ⟨rfl, hx1⟩
  have hE1 := hE0.trans hx1
  have B0 := B0.ext hx1
  have B1 := B1.ext hx1
  have hz := hz.ext hE1
  obtain ⟨sz, hsz⟩ : ∃ s, s = z.sign := ⟨_, rfl⟩
  rw [← hsz]
  rcases hzD with h | ⟨h, h'⟩
  · subst h
    have e1 : (sz == 0) = false := by rw [hsz]; exact sign_ne (by omega)
    clear hsz
    have q0 := B0.c0
    have q1 := B0.c1
    have q2 := B0.c2
    have q3 := B0.c3
    have r0 := B1.c0
    have r1 := B1.c1
    have f0 := B1.frozen 0
    have f1 := B1.frozen 1
    go_wp2_with fail
    obtain ⟨p1, p2, p3⟩ := hz.put B1
    refine bodyPost_ret (v := .agg #[.bool p', .slice A' n' c']) (by simp [results, Tryz.results34, go_sem, p2, p3]) rfl ?_
    exact ⟨_, rfl, ⟨p1, bD⟩, (hE1.set (by simp) _).set (by simp) _⟩
  · have e1 : (sz == 0) = true := by rw [hsz, h]; rfl
    subst h'
    clear hsz
    go_wp2_with fail
    refine (Of_any 1 _ (by decide) (by decide)).mono ?_
    rintro e w2 ⟨v2, rfl, h2, hx2⟩
    obtain ⟨p2, A2, n2, c2, rfl⟩ := h2.shape
    have B1 := B1.ext hx2
    have hE2 := hE1.trans hx2
    have r0 := B1.c0
    have r1 := B1.c1
    have f0 := B1.frozen 0
    have f1 := B1.frozen 1
    go_wp2_with fail
    obtain ⟨p1, p2', p3⟩ := h2.put B1
    refine bodyPost_ret (v := .agg #[.bool p2, .slice A2 n2 c2]) (by simp [results, Tryz.results34, go_sem, p2', p3]) rfl ?_
    exact ⟨_, rfl, ⟨p1, bD⟩, (hE2.set (by simp) _).set (by simp) _⟩

theorem RatSign_b (x : Value) (q : Rat) (k : Nat) (w : World) (hx : RatB w x q k) : Calls Tryz.prog 9 #[x] w (IntPost w q.num.sign) := by
  obtain ⟨p, A, n, c, p', A', n', c', rfl⟩ := hx.1.shape
  obtain ⟨hn, -⟩ := hx.1.parts
  clear hx
  have hE0 : Ext w (w.alloc (.cells #[.bool p, .slice A n c, .bool p', .slice A' n' c'] 28)) := (Ext.refl w).alloc _
  have hn := hn.ext hE0
  go_enter Tryz.func9, Tryz.ntmps9
  go_wp2_with fail
  refine (Sign_any _ _ _ hn).mono ?_
  rintro e w1 ⟨rfl, hx1⟩
  go_wp2_with fail
  go_ret
  exact ⟨rfl, hE0.trans hx1⟩

theorem RatNeg_b (x : Value) (q : Rat) (k : Nat) (w : World) (hx : RatB w x q k) : Calls Tryz.prog 19 #[x] w (RatBPost w (-q) k) := by
  obtain ⟨p, A, n, c, p', A', n', c', rfl⟩ := hx.1.shape
  obtain ⟨hn, z, hz, hzq⟩ := hx.1.parts
  have hb := QB_neg hx.2
  clear hx
  go_enter Tryz.func19, Tryz.ntmps19
  go_wp2_with fail
  obtain ⟨B0, B1, hE0⟩ := boxesT2 w 28 28 #[.bool p, .slice A n c, .bool p', .slice A' n' c'] #[.bool false, .slice none 0 0, .bool false, .slice none 0 0]
  generalize ((w.alloc (.cells #[.bool p, .slice A n c, .bool p', .slice A' n' c'] 28)).alloc (.cells #[.bool false, .slice none 0 0, .bool false, .slice none 0 0] 28)) = W0 at *
  have k0 := KE.box (w := w) (R := [w.heap.size + 1]) B0 (by simp) 0
  have k1 := KE.box (w := w) (R := [w.heap.size + 1]) B0 (by simp) 1
  have k2 := KE.box (w := w) (R := [w.heap.size + 1]) B0 (by simp) 2
  have k3 := KE.box (w := w) (R := [w.heap.size + 1]) B0 (by simp) 3
  simp at k0 k1 k2 k3
  have ks := KE.start (R := [w.heap.size + 1]) hE0 (by simp)
  have hn0 := hn.ext hE0
  have hz0 := hz.ext hE0
  go_region_held3 (fun w' => KE [w.heap.size + 1] w W0 w') ((repeat (first | assumption | apply KE.drew | apply KE.drewN | apply KE.alloc | (refine KE.set ?_ (by simp) _) | (refine KE.step ?_ (by assumption))))) (first
    | (go_at_call 43; (with_reducible refine (Neg_any _ _ _ (hn0.ext (by repeat (first | (with_reducible exact Ext.refl _) | (with_reducible apply Ext.drew) | (with_reducible apply Ext.drewN))))).mono ?_); rintro e w1 ⟨v1, rfl, hb1, hxA⟩; (obtain ⟨p1, A1, n1, c1, rfl⟩ := hb1.shape); have b2 := B1.drew.ext hxA; have q0 := b2.c0; have q1 := b2.c1; have q2 := b2.c2; have q3 := b2.c3; have f0 := b2.frozen 0; have f1 := b2.frozen 1; have f2 := b2.frozen 2; have f3 := b2.frozen 3; have hz1 := (hz0.ext (Ext.refl _).drew).ext hxA)
    )
  have hR : RatV w1 (.agg #[.bool p1, .slice A1 n1 c1, .bool p', .slice A' n' c']) (-q) := by
    refine ⟨_, _, _, _, _, _, _, _, z, rfl, by rw [Rat.neg_num]; exact hb1, hz1, ?_⟩
    rcases hzq with h | ⟨h, h2⟩
    · exact .inl (by rw [Rat.neg_den]; exact h)
    · exact .inr ⟨h, by rw [h2]; rfl⟩
  go_wp2_with fail
  obtain ⟨pp, pb⟩ := RatV.put hR b2
  have pc0 := pb.c0
  have pc1 := pb.c1
  have pc2 := pb.c2
  have pc3 := pb.c3
  refine bodyPost_ret (v := .agg #[.bool p1, .slice A1 n1 c1, .bool p', .slice A' n' c']) (by simp [results, Tryz.results19, go_sem, pc0, pc1, pc2, pc3]) rfl ?_
  exact ⟨_, rfl, ⟨pp, hb⟩, KE.ext (R := [w.heap.size + 1]) (W0 := W0) (by assumption)⟩

theorem divInt_int (n : Int) : Rat.divInt n 1 = (n : Rat) := by
  have h := Rat.num_divInt_den (n : Rat)
  rw [Rat.num_intCast, Rat.den_intCast] at h
  exact h
def zeroRat : Value := .agg #[.bool false, .slice none 0 0, .bool false, .slice none 0 0]
def MakePost (w : World) (q : Rat) (k : Nat) (e : Ending) (w' : World) : Prop := ∃ v, e = .returned (.tuple #[v, .int .i64 0]) ∧ RatB w' v q k ∧ Ext w w'
def MakeZero (w : World) (n : Int) (e : Ending) (w' : World) : Prop := e = .returned (.tuple #[zeroRat, .int .i64 n]) ∧ Ext w w'

theorem Make_zero (x y : Value) (n : Int) (w : World) (hx : BigV w x n) (hy : BigV w y 0) : Calls Tryz.prog 53 #[x, y] w (MakeZero w 9) := by
  obtain ⟨p1, A1, n1, c1, rfl⟩ := hx.shape
  obtain ⟨p2, A2, n2, c2, rfl⟩ := hy.shape
  obtain ⟨B0, B1, B2, hE0⟩ := boxesT3 w 26 26 28 #[.bool p1, .slice A1 n1 c1] #[.bool p2, .slice A2 n2 c2] #[.bool false, .slice none 0 0, .bool false, .slice none 0 0]
  go_enter Tryz.func53, Tryz.ntmps53
  go_wp2_with fail
  generalize (((w.alloc (.cells #[.bool p1, .slice A1 n1 c1] 26)).alloc (.cells #[.bool p2, .slice A2 n2 c2] 26)).alloc (.cells #[.bool false, .slice none 0 0, .bool false, .slice none 0 0] 28)) = W0 at *
  refine (Sign_any _ 0 W0 (hy.ext hE0)).mono ?_
  rintro e w1 ⟨rfl, hx1⟩
  have hE1 := hE0.trans hx1
  have b2 := B2.ext hx1
  have q0 := b2.c0
  have q1 := b2.c1
  have q2 := b2.c2
  have q3 := b2.c3
  have f0 := b2.frozen 0
  have f1 := b2.frozen 1
  have f2 := b2.frozen 2
  have f3 := b2.frozen 3
  go_wp2_with fail
  obtain ⟨pp, pb⟩ := RatV.put (RatV.zero w1) b2
  have pc0 := pb.c0
  have pc1 := pb.c1
  have pc2 := pb.c2
  have pc3 := pb.c3
  refine bodyPost_ret (v := .tuple #[.agg #[.bool false, .slice none 0 0, .bool false, .slice none 0 0], .int .i64 9]) (by simp [results, Tryz.results53, go_sem, pc0, pc1, pc2, pc3]) rfl ?_
  exact ⟨rfl, (((hE1.set (by simp; omega) _).set (by simp; omega) _).set (by simp; omega) _).set (by simp; omega) _⟩

theorem Make_b (x y : Value) (n d : Int) (j k : Nat) (w : World) (hx : BigB w x n j) (hy : BigB w y d k) (hL : max j k ≤ 1099511627776) (hd : d ≠ 0) : Calls Tryz.prog 53 #[x, y] w (MakePost w (Rat.divInt n d) (max j k)) := by
  obtain ⟨p1, A1, n1, c1, rfl⟩ := hx.1.shape
  obtain ⟨p2, A2, n2, c2, rfl⟩ := hy.1.shape
  obtain ⟨sd, hsd⟩ : ∃ s, s = d.sign := ⟨_, rfl⟩
  have e1 : (sd == 0) = false := by rw [hsd]; exact sign_ne hd
  have HD := Lib.hid hd
  have HS := Lib.hid hsd
  clear hd hsd
  obtain ⟨B0, B1, B2, hE0⟩ := boxesT3 w 26 26 28 #[.bool p1, .slice A1 n1 c1] #[.bool p2, .slice A2 n2 c2] #[.bool false, .slice none 0 0, .bool false, .slice none 0 0]
  go_enter Tryz.func53, Tryz.ntmps53
  go_wp2_with fail
  generalize (((w.alloc (.cells #[.bool p1, .slice A1 n1 c1] 26)).alloc (.cells #[.bool p2, .slice A2 n2 c2] 26)).alloc (.cells #[.bool false, .slice none 0 0, .bool false, .slice none 0 0] 28)) = W0 at *
  refine (Sign_any _ d W0 (hy.1.ext hE0)).mono ?_
  rintro e w1 ⟨rfl, hx1⟩
  rw [← HS.out]
  have hE1 := hE0.trans hx1
  have B0 := B0.ext hx1
  have B1 := B1.ext hx1
  have B2 := B2.ext hx1
  have r0 := B0.c0
  have r1 := B0.c1
  have s0 := B1.c0
  have s1 := B1.c1
  go_wp2_with fail
  refine (red_b _ _ _ _ _ _ _ (hx.ext hE1) (hy.ext hE1) hL HD.out).mono ?_
  rintro e w3 ⟨v3, rfl, hb3, hx3⟩
  obtain ⟨p, A, n3, c3, p', A', n', c', rfl⟩ := hb3.1.shape
  have hE3 := hE1.trans hx3
  have b2 := B2.ext hx3
  have q0 := b2.c0
  have q1 := b2.c1
  have q2 := b2.c2
  have q3 := b2.c3
  have f0 := b2.frozen 0
  have f1 := b2.frozen 1
  have f2 := b2.frozen 2
  have f3 := b2.frozen 3
  go_wp2_with fail
  obtain ⟨pp, pb⟩ := RatV.put hb3.1 b2
  have pc0 := pb.c0
  have pc1 := pb.c1
  have pc2 := pb.c2
  have pc3 := pb.c3
  refine bodyPost_ret (v := .tuple #[.agg #[.bool p, .slice A n3 c3, .bool p', .slice A' n' c'], .int .i64 0]) (by simp [results, Tryz.results53, go_sem, pc0, pc1, pc2, pc3]) rfl ?_
  exact ⟨_, rfl, ⟨pp, hb3.2⟩, (((hE3.set (by simp; omega) _).set (by simp; omega) _).set (by simp; omega) _).set (by simp; omega) _⟩

theorem Frac_b (n d : Int) (w : World) (h0 : -9223372036854775808 ≤ n) (h1 : n ≤ 9223372036854775807) (d0 : -9223372036854775808 ≤ d) (d1 : d ≤ 9223372036854775807) (hd : d ≠ 0) : Calls Tryz.prog 26 #[.int .i64 n, .int .i64 d] w (MakePost w (Rat.divInt n d) 2) := by
  have HD := Lib.hid hd
  clear hd
  have hE0 : Ext w (w.alloc (.cells #[.bool false, .slice none 0 0, .bool false, .slice none 0 0] 28)) := (Ext.refl w).alloc _
  have B1 := Box.new w 28 #[.bool false, .slice none 0 0, .bool false, .slice none 0 0]
  go_enter Tryz.func26, Tryz.ntmps26
  go_wp2_with fail
  refine (Of_b n _ h0 h1).mono ?_
  rintro e w1 ⟨v1, rfl, hb1, hx1⟩
  obtain ⟨p1, A1, n1, c1, rfl⟩ := hb1.1.shape
  go_wp2_with fail
  refine (Of_b d _ d0 d1).mono ?_
  rintro e w2 ⟨v2, rfl, hb2, hx2⟩
  obtain ⟨p2, A2, n2, c2, rfl⟩ := hb2.1.shape
  go_wp2_with fail
  refine (Make_b _ _ _ _ _ _ _ (hb1.ext hx2) hb2 (by decide) HD.out).mono ?_
  rintro e w3 ⟨v3, rfl, hb3, hx3⟩
  obtain ⟨p, A, n3, c3, p', A', n', c', rfl⟩ := hb3.1.shape
  have b2 := ((B1.ext hx1).ext hx2).ext hx3
  have hE3 := ((hE0.trans hx1).trans hx2).trans hx3
  have q0 := b2.c0
  have q1 := b2.c1
  have q2 := b2.c2
  have q3 := b2.c3
  have f0 := b2.frozen 0
  have f1 := b2.frozen 1
  have f2 := b2.frozen 2
  have f3 := b2.frozen 3
  go_wp2_with fail
  obtain ⟨pp, pb⟩ := RatV.put hb3.1 b2
  have pc0 := pb.c0
  have pc1 := pb.c1
  have pc2 := pb.c2
  have pc3 := pb.c3
  refine bodyPost_ret (v := .tuple #[.agg #[.bool p, .slice A n3 c3, .bool p', .slice A' n' c'], .int .i64 0]) (by simp [results, Tryz.results26, go_sem, pc0, pc1, pc2, pc3]) rfl ?_
  exact ⟨_, rfl, ⟨pp, hb3.2⟩, (((hE3.set (by simp) _).set (by simp) _).set (by simp) _).set (by simp) _⟩
theorem Frac_zero (n d : Int) (w : World) (h0 : -9223372036854775808 ≤ n) (h1 : n ≤ 9223372036854775807) (hd : d = 0) : Calls Tryz.prog 26 #[.int .i64 n, .int .i64 d] w (MakeZero w 9) := by
  have d0 : -9223372036854775808 ≤ d := by omega
  have d1 : d ≤ 9223372036854775807 := by omega
  have HD := Lib.hid hd
  clear hd
  have hE0 : Ext w (w.alloc (.cells #[.bool false, .slice none 0 0, .bool false, .slice none 0 0] 28)) := (Ext.refl w).alloc _
  have B1 := Box.new w 28 #[.bool false, .slice none 0 0, .bool false, .slice none 0 0]
  go_enter Tryz.func26, Tryz.ntmps26
  go_wp2_with fail
  refine (Of_b n _ h0 h1).mono ?_
  rintro e w1 ⟨v1, rfl, hb1, hx1⟩
  obtain ⟨p1, A1, n1, c1, rfl⟩ := hb1.1.shape
  go_wp2_with fail
  refine (Of_b d _ d0 d1).mono ?_
  rintro e w2 ⟨v2, rfl, hb2, hx2⟩
  obtain ⟨p2, A2, n2, c2, rfl⟩ := hb2.1.shape
  go_wp2_with fail
  rw [HD.out] at hb2
  refine (Make_zero _ _ _ _ (hb1.ext hx2).1 hb2.1).mono ?_
  rintro e w3 ⟨rfl, hx3⟩
  have b2 := ((B1.ext hx1).ext hx2).ext hx3
  have hE3 := ((hE0.trans hx1).trans hx2).trans hx3
  have q0 := b2.c0
  have q1 := b2.c1
  have q2 := b2.c2
  have q3 := b2.c3
  have f0 := b2.frozen 0
  have f1 := b2.frozen 1
  have f2 := b2.frozen 2
  have f3 := b2.frozen 3
  unfold zeroRat
  go_wp2_with fail
  obtain ⟨pp, pb⟩ := RatV.put (RatV.zero w3) b2
  have pc0 := pb.c0
  have pc1 := pb.c1
  have pc2 := pb.c2
  have pc3 := pb.c3
  refine bodyPost_ret (v := .tuple #[.agg #[.bool false, .slice none 0 0, .bool false, .slice none 0 0], .int .i64 9]) (by simp [results, Tryz.results26, go_sem, pc0, pc1, pc2, pc3]) rfl ?_
  exact ⟨rfl, (((hE3.set (by simp) _).set (by simp) _).set (by simp) _).set (by simp) _⟩
end Go.Proofs.YtginogcdjplhiaaGreatDoor.Rt

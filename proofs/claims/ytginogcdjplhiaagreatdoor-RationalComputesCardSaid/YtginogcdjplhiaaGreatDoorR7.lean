/- The reference's numbers: Div walked. -/
import Derived.Test.YtginogcdjplhiaaGreatDoorR5
import Derived.Laws.AppendOwnNone
set_option linter.unusedVariables false
set_option linter.unusedSimpArgs false
namespace Go.Proofs.YtginogcdjplhiaaGreatDoor.Ten
open Go.RowKit Go.Proofs.YtginogcdjplhiaaGreatDoor.Big
attribute [local go_sem ↓] Go.wp_at_zero Go.wp_at_succ

theorem dgs_front {c R k : Nat} (hc : c < 10) : dgs (10 * R + c) (k + 1) = c :: dgs R k := by
  unfold dgs
  rw [List.range_succ_eq_map, List.map_cons, List.map_map]
  congr 1
  · unfold dg; rw [pt_zero, Nat.div_one]; omega
  · refine List.map_congr_left fun j _ => ?_
    show dg (10 * R + c) (j + 1) = dg R j
    unfold dg
    rw [pt_succ, Nat.mul_comm (pt j) 10, ← Nat.div_div_eq_div_mul, show (10 * R + c) / 10 = R by omega]
/-- a slice of digits that can be spread: nil, or at a place -/
def TenN (w : World) (v : Value) (n V : Nat) : Prop := Ten w v n V ∧ (v = .slice none 0 0 ∨ ∃ b off c, v = .slice (some ⟨b, off, none⟩) n c)
theorem TenN.ext {w w' : World} {v : Value} {n V : Nat} (h : TenN w v n V) (k : Ext w w') : TenN w' v n V := ⟨h.1.ext k, h.2⟩
theorem TenN.of_row {w : World} {base : Nat} {v : Value} {n V : Nat} (h : w.ownsRow base 3 1 v n (ints (dgs V n))) (hV : V < pt n) : TenN w v n V := by
  refine ⟨Ten.of_row h hV, ?_⟩
  rcases h.2 with ⟨rfl, rfl⟩ | ⟨g, cap, cur, rfl, _⟩
  · exact .inl rfl
  · exact .inr ⟨g, 0, cap, rfl⟩
theorem own_one (w : World) (x : Value) : (w.alloc (.cells #[x] 3)).ownsRow w.heap.size 3 1 (.slice (some ⟨w.heap.size, 0, none⟩) 1 1) 1 [x] :=
  ⟨by simp, .inr ⟨w.heap.size, 1, #[x], rfl, Nat.le_refl _, heap_alloc_new w _, Nat.le_refl _, by unfold maxLen; omega, by simp, by simp⟩⟩
set_option maxRecDepth 100000 in
/-- append([]int{c}, r...): c in front -/
theorem wpList_front (w : World) {ops : Array Oper} {rest : List Oper} {o : Oper} {a : Act} {Q : Exit → Act → World → Prop} (hgd : o.guard = none) (s x : Operand)
    (ho : o.op = .call { callee := .builtin .append, args := #[s, x], argTypes := #[31, 31] }) (c : Nat) (hc : c < 10) (r : Value) (n R : Nat) (hr : TenN w r n R) (hn : n ≤ 1000000000000)
    (hs : a.eval s = .slice (some ⟨w.heap.size, 0, none⟩) 1 1) (hx : a.eval x = r)
    (h : ∀ v' w', TenN w' v' (n + 1) (10 * R + c) → Ext w w' → wpList Tryz.prog ops Q rest (a.put o.dst v') w') : wpList Tryz.prog ops Q (o :: rest) a (w.alloc (.cells #[.int .i64 (c : Int)] 3)) := by
  obtain ⟨i0, hi, hz0, hz1, hz2⟩ := info_parts infoInt
  have hE : Ext w (w.alloc (.cells #[.int .i64 (c : Int)] 3)) := (Ext.refl w).alloc _
  have hlt : 10 * R + c < pt (n + 1) := by have := hr.1.mono_lt; rw [pt_succ]; omega
  have hval : ints (dgs (10 * R + c) (n + 1)) = [Value.int .i64 (c : Int)] ++ ints (dgs R n) := by rw [dgs_front hc]; rfl
  rcases hr.2 with rfl | ⟨b, off, cap, rfl⟩
  · obtain ⟨rfl, -⟩ := hr.1.inj
    refine wpList_append_own_none hgd s x 31 ho w.heap.size 3 i0 1 Tryz.underlying31 hi _ 1 _ hs (own_one w _) hx ?_
    refine h _ _ (TenN.of_row (base := w.heap.size) ?_ hlt) hE
    rw [hval]
    exact own_one w _
  · refine wpList_append_own _ hgd s x 31 ho w.heap.size 3 i0 (.int .i64 0) 1 8 Tryz.underlying31 hi hz0 hz1 hz2 rfl (by decide) _ 1 _ hs (own_one w _) ⟨b, off, none⟩ n cap (ints (dgs R n)) hx (by simp [ints, dgs]) ?_ ?_ (by unfold maxLen; omega) (by omega) (by simp) ?_
    · intro j u hj
      have hjn : j < n := by
        have := (List.getElem?_eq_some_iff.1 hj).1
        simpa [ints, dgs] using this
      obtain ⟨-, -, -, -, hcell⟩ := (hr.1.ext hE).inj
      obtain ⟨b', off', cs, fz, e, -, hcc⟩ := hcell (by omega)
      injection e with e
      injection e with e1 e2
      subst e1 e2
      unfold ints dgs at hj
      rw [List.getElem?_map, List.getElem?_map, List.getElem?_range hjn] at hj
      injection hj with hj
      subst hj
      rw [Lib.add_plain]
      exact hcc j hjn
    · intro u hu
      unfold ints at hu
      obtain ⟨d, _, rfl⟩ := List.mem_map.1 hu
      rfl
    · intro v' w' hown hgrow _
      refine h v' w' (TenN.of_row (base := w.heap.size) ?_ hlt) (Below.grown hE hgrow (by simp) (fun k hk => ((own_one w (.int .i64 (c : Int))).lt k hk).1))
      rw [hval, show n + 1 = 1 + n by omega]
      exact hown

theorem sign_tdiv {x y : Int} (h : 0 < x.natAbs / y.natAbs) : (x.tdiv y).sign = x.sign * y.sign := by
  have hne : x.tdiv y ≠ 0 := by
    intro h0
    have := Int.natAbs_tdiv x y
    rw [h0] at this
    have h2 : x.natAbs.div y.natAbs = x.natAbs / y.natAbs := rfl
    rw [h2] at this
    simp at this
    omega
  rw [← sgn_tdiv] at hne ⊢
  rcases sign_cases x with ⟨a, b⟩ | ⟨a, b⟩ | ⟨a, b⟩ <;> rcases sign_cases y with ⟨c, d⟩ | ⟨c, d⟩ | ⟨c, d⟩ <;> rw [b, d]
  all_goals (try (subst a; simp at h))
  all_goals (try (subst c; simp at h))
  · rw [show decide (x < 0) = true by simp; omega, show decide (y < 0) = true by simp; omega]
    exact Int.sign_eq_one_of_pos (by simp [sgn]; omega)
  · rw [show decide (x < 0) = true by simp; omega, show decide (y < 0) = false by simp; omega]
    exact Int.sign_eq_neg_one_of_neg (by simp [sgn]; omega)
  · rw [show decide (x < 0) = false by simp; omega, show decide (y < 0) = true by simp; omega]
    exact Int.sign_eq_neg_one_of_neg (by simp [sgn]; omega)
  · rw [show decide (x < 0) = false by simp; omega, show decide (y < 0) = false by simp; omega]
    exact Int.sign_eq_one_of_pos (by simp [sgn]; omega)

theorem Ten.toN {w : World} {v : Value} {n V : Nat} (h : Ten w v n V) (hn : 0 < n) : TenN w v n V := by
  refine ⟨h, .inr ?_⟩
  obtain ⟨A, c, rfl, _, _, _, h4⟩ := h
  obtain ⟨b, off, _, _, rfl, _⟩ := h4 hn
  exact ⟨b, off, c, rfl⟩
theorem trim_front (v : Value) (n V : Nat) (w : World) (h : TenN w v n V) : Calls Tryz.prog 76 #[v] w (fun e w' => ∃ v' k, e = .returned v' ∧ TenN w v' k V ∧ TrT k V ∧ w = w') := by
  rcases h.2 with rfl | ⟨b, off, c, rfl⟩
  · obtain rfl : n = 0 := h.1.inj.1.symm
    refine (trim_any2 _ _ _ _ _ h.1).mono ?_
    rintro e w' ⟨k, rfl, h1, h2, rfl⟩
    obtain ⟨-, hk, -⟩ := h1.inj
    obtain rfl : k = 0 := by omega
    exact ⟨_, 0, rfl, ⟨h1, .inl rfl⟩, h2, rfl⟩
  · refine (trim_any2 _ _ _ _ _ h.1).mono ?_
    rintro e w' ⟨k, rfl, h1, h2, rfl⟩
    exact ⟨_, k, rfl, ⟨h1, .inr ⟨b, off, c, rfl⟩⟩, h2, rfl⟩
theorem div_front {T t d Y : Nat} (hY : 0 < Y) (hT : T = 10 * t + d) : T / Y = 10 * (t / Y) + (10 * (t % Y) + d) / Y ∧ T % Y = (10 * (t % Y) + d) % Y := by
  have h1 := Nat.div_add_mod t Y
  have e : T = (10 * (t % Y) + d) + Y * (10 * (t / Y)) := by
    rw [hT]
    conv => lhs; rw [← h1]
    rw [Nat.mul_add, Nat.mul_left_comm]
    omega
  refine ⟨?_, ?_⟩
  · rw [e, Nat.add_mul_div_left _ _ hY]; omega
  · rw [e, Nat.add_mul_mod_self_left]
def DPost (w : World) (X Y : Int) (e : Ending) (w' : World) : Prop := ∃ q r, e = .returned (.tuple #[q, r]) ∧ NumV w' q (X.tdiv Y) ∧ NumV w' r (X.tmod Y) ∧ Ext w w'
theorem NumV.put2 {w : World} {b c : Nat} {s s0 s' s0' : Int} {A A0 A' A0' : Option Addr} {n k n0 k0 n' k' n0' k0' : Nat} {z z' : Int} (hne : b ≠ c)
    (h : NumV w (.agg #[.int .i64 s, .slice A n k]) z) (h' : NumV w (.agg #[.int .i64 s', .slice A' n' k']) z') (hb : Box w b 33 #[.int .i64 s0, .slice A0 n0 k0]) (hc : Box w c 33 #[.int .i64 s0', .slice A0' n0' k0']) :
    ∃ w', w' = ((((w.setCell ⟨b, 0, none⟩ (.int .i64 s)).setCell ⟨b, 1, none⟩ (.slice A n k)).setCell ⟨c, 0, none⟩ (.int .i64 s')).setCell ⟨c, 1, none⟩ (.slice A' n' k')) ∧
      NumV w' (.agg #[.int .i64 s, .slice A n k]) z ∧ NumV w' (.agg #[.int .i64 s', .slice A' n' k']) z' ∧ w'.cell? ⟨b, 0, none⟩ = some (.int .i64 s) ∧ w'.cell? ⟨b, 1, none⟩ = some (.slice A n k) ∧
      w'.cell? ⟨c, 0, none⟩ = some (.int .i64 s') ∧ w'.cell? ⟨c, 1, none⟩ = some (.slice A' n' k') := by
  refine ⟨_, rfl, ?_⟩
  have hb1 : Box (w.setCell ⟨b, 0, none⟩ (.int .i64 s)) b 33 #[.int .i64 s, .slice A0 n0 k0] := hb.set 0 _
  have hb2 : Box ((w.setCell ⟨b, 0, none⟩ (.int .i64 s)).setCell ⟨b, 1, none⟩ (.slice A n k)) b 33 #[.int .i64 s, .slice A n k] := hb1.set 1 _
  have hc2 := (hc.far (p := ⟨b, 0, none⟩) (fun e => hne e.symm) (.int .i64 s)).far (p := ⟨b, 1, none⟩) (fun e => hne e.symm) (.slice A n k)
  have hc3 : Box _ c 33 #[.int .i64 s', .slice A0' n0' k0'] := hc2.set 0 (.int .i64 s')
  have hc4 : Box _ c 33 #[.int .i64 s', .slice A' n' k'] := hc3.set 1 (.slice A' n' k')
  have hb4 := (hb2.far (p := ⟨c, 0, none⟩) hne (.int .i64 s')).far (p := ⟨c, 1, none⟩) hne (.slice A' n' k')
  exact ⟨(((h.far hb numNe 0 _).far hb1 numNe 1 _).far hc2 numNe 0 _).far hc3 numNe 1 _, (((h'.far hb numNe 0 _).far hb1 numNe 1 _).far hc2 numNe 0 _).far hc3 numNe 1 _,
    hb4.c0, hb4.c1, hc4.c0, hc4.c1⟩
theorem top_step {X k : Nat} : X / pt k = 10 * (X / pt (k + 1)) + dg X k := by have := div_step X k; omega
theorem cmpI_ge {a b : Nat} : decide (0 ≤ cmpI a b) = decide (b ≤ a) := by
  rcases Nat.lt_or_ge a b with h | h
  · have : ¬ 0 ≤ cmpI a b := fun h' => by have := cmpI_nonneg.1 h'; omega
    simp [this]; omega
  · simp [cmpI_nonneg.2 h, h]

set_option maxRecDepth 100000 in
set_option maxHeartbeats 4000000 in
theorem Div_any (x y : Value) (X Y : Int) (L : Nat) (w : World) (hx : NumV w x X) (hy : NumV w y Y) (bx : X.natAbs < pt L) (bY : Y.natAbs < pt L) (hL : L ≤ 100000000000) (hY0 : Y ≠ 0) :
    Calls Tryz.prog 52 #[x, y] w (DPost w X Y) := by
  obtain ⟨A1, n, c1, rfl, hd1, ht1⟩ := hx
  obtain ⟨A2, m, c2, rfl, hd2, ht2⟩ := hy
  have l1 := ht1.le bx
  have l2 := ht2.le bY
  obtain ⟨sx, hsx⟩ : ∃ s, s = X.sign := ⟨_, rfl⟩
  obtain ⟨sy, hsy⟩ : ∃ s, s = Y.sign := ⟨_, rfl⟩
  have hsr : IntKind.i64.wrap (sx * sy) = sx * sy := by
    have := mul_unit (sign_range X) (sign_range Y)
    rw [hsx, hsy]
    exact IntWalk.i64_in _ (by omega)
  obtain ⟨Q, hQ⟩ : ∃ q, q = X.tdiv Y := ⟨_, rfl⟩
  obtain ⟨R, hR⟩ : ∃ q, q = X.tmod Y := ⟨_, rfl⟩
  have hq1 : Q.natAbs = X.natAbs / Y.natAbs := by rw [hQ]; exact Int.natAbs_tdiv X Y
  have hq2 : 0 < X.natAbs / Y.natAbs → Q.sign = sx * sy := fun h => by rw [hQ, hsx, hsy]; exact sign_tdiv h
  have hr1 : R.natAbs = X.natAbs % Y.natAbs := by rw [hR]; exact Int.natAbs_tmod X Y
  have hr2 : 0 < X.natAbs % Y.natAbs → R.sign = sx := fun h => by rw [hR, hsx]; exact tmod_sign (by intro h0; rw [hR, h0] at hr1; simp at hr1; omega)
  rw [← hsx, ← hsy]
  unfold DPost
  rw [← hQ, ← hR]
  have HQ1 := Lib.hid hq1
  have HQ2 := Lib.hid hq2
  have HR1 := Lib.hid hr1
  have HR2 := Lib.hid hr2
  have hYp : 0 < Y.natAbs := by omega
  clear hsx hsy hQ hR hq1 hq2 hr1 hr2
  generalize hyN : Y.natAbs = yN at *
  clear hyN hY0
  have hXlt := hd1.mono_lt
  go_enter Tryz.func52, Tryz.ntmps52
  go_wp2_with fail
  obtain ⟨B0, B1, B2, B3, hE0⟩ := boxes4 w 33 #[.int .i64 sx, .slice A1 n c1] #[.int .i64 sy, .slice A2 m c2] #[.int .i64 0, .slice none 0 0] #[.int .i64 0, .slice none 0 0]
  generalize ((((w.alloc (.cells #[.int .i64 sx, .slice A1 n c1] 33)).alloc (.cells #[.int .i64 sy, .slice A2 m c2] 33)).alloc (.cells #[.int .i64 0, .slice none 0 0] 33)).alloc (.cells #[.int .i64 0, .slice none 0 0] 33)) = W0 at *
  have k00 : ∀ w', Ext W0 w' → w'.cell? ⟨w.heap.size, 0, none⟩ = some (.int .i64 sx) := fun w' h => (B0.ext h).c0
  have k01 : ∀ w', Ext W0 w' → w'.cell? ⟨w.heap.size, 1, none⟩ = some (.slice A1 n c1) := fun w' h => (B0.ext h).c1
  have k10 : ∀ w', Ext W0 w' → w'.cell? ⟨w.heap.size + 1, 0, none⟩ = some (.int .i64 sy) := fun w' h => (B1.ext h).c0
  have k11 : ∀ w', Ext W0 w' → w'.cell? ⟨w.heap.size + 1, 1, none⟩ = some (.slice A2 m c2) := fun w' h => (B1.ext h).c1
  go_loopw [6, 7, 8] (fun q r i wr => ∃ k : Nat, k ≤ n ∧ i = .int .i64 ((k : Int) - 1) ∧ TenN wr q (n - k) (X.natAbs / pt k / yN) ∧ (∃ nr, TenN wr r nr (X.natAbs / pt k % yN) ∧ TrT nr (X.natAbs / pt k % yN)) ∧ Ext W0 wr) (fun _ _ i _ => (intOf i + 1).toNat)
  case atStart =>
    have e0 : X.natAbs / pt n = 0 := Nat.div_eq_of_lt hXlt
    refine ⟨n, Nat.le_refl _, by go_num, ?_, ⟨0, ?_, .inl rfl⟩, Ext.refl _⟩
    · rw [e0, Nat.zero_div, Nat.sub_self]; exact ⟨Ten.nil _, .inl rfl⟩
    · rw [e0, Nat.zero_mod]; exact ⟨Ten.nil _, .inl rfl⟩
  case round =>
    obtain ⟨k, hk, rfl, hq, ⟨nr, hr, htr⟩, hext⟩ := hrel
    rcases Nat.eq_zero_or_pos k with hk0 | hk0
    · subst hk0
      rw [pt_zero, Nat.div_one] at hq hr htr
      rw [Nat.sub_zero] at hq
      obtain ⟨Aq, cq, rfl⟩ := hq.1.form
      obtain ⟨Ar, cr, rfl⟩ := hr.1.form
      have hEw := hE0.trans hext
      go_wp2_with fail
      have B0 := B0.ext hext
      have B1 := B1.ext hext
      have B2 := B2.ext hext
      have B3 := B3.ext hext
      have k00 := KE.c0 (w := w) B0 (show w.heap.size ∉ [w.heap.size + 1 + 1, w.heap.size + 1 + 1 + 1] by simp; omega)
      have k10 := KE.c0 (w := w) B1 (show w.heap.size + 1 ∉ [w.heap.size + 1 + 1, w.heap.size + 1 + 1 + 1] by simp)
      have ks := KE.start (R := [w.heap.size + 1 + 1, w.heap.size + 1 + 1 + 1]) hEw (by simp; omega)
      clear k01 k11 B0 B1 htr
      have hqT := hq.1
      have hrT := hr.1
      go_region_held3 (fun w' => KE [w.heap.size + 1 + 1, w.heap.size + 1 + 1 + 1] w wr w') ((repeat (first | assumption | apply KE.drew | apply KE.drewN | (refine KE.set ?_ (by simp) _) | (refine KE.step ?_ (by assumption))))) (first | (go_at_call 57; (with_reducible refine (number_any _ _ _ _ _ Q (hqT.ext (Ext.refl _).drew) HQ1.out HQ2.out).mono ?_); rintro e w1 ⟨v1, rfl, hb1, hxA⟩) | (go_at_call 57; (with_reducible refine (number_any _ _ _ _ _ R ((hrT.ext (Ext.refl _).drew).ext hxA) HR1.out HR2.out).mono ?_); rintro e w2 ⟨v2, rfl, hb2, hxB⟩; have hb1 := hb1.ext hxB; obtain ⟨s3, A3, n3, c3, rfl, -⟩ := hb1.shape; obtain ⟨s4, A4, n4, c4, rfl, -⟩ := hb2.shape; have b2 := (B2.drew.ext hxA).ext hxB; have q0 := b2.c0; have q1 := b2.c1; have f0 := b2.frozen 0; have f1 := b2.frozen 1; have b3 := (B3.drew.ext hxA).ext hxB; have r0 := b3.c0; have r1 := b3.c1; have g0 := b3.frozen 0; have g1 := b3.frozen 1))
      obtain ⟨w3, hw3, p1, p2, u1, u2, u3, u4⟩ := NumV.put2 (by omega) hb1 hb2 b2 b3
      have hfin : Ext w w3 := by rw [hw3]; exact KE.ext (R := [w.heap.size + 1 + 1, w.heap.size + 1 + 1 + 1]) (W0 := wr) (by assumption)
      go_wp2_with fail
      rw [← hw3]
      refine bodyPost_ret (v := .tuple #[.agg #[.int .i64 s3, .slice A3 n3 c3], .agg #[.int .i64 s4, .slice A4 n4 c4]]) (by simp [results, Tryz.results52, go_sem, u1, u2, u3, u4]) rfl ?_
      exact ⟨_, _, rfl, p1, p2, hfin⟩
    · obtain ⟨j, rfl⟩ : ∃ j, k = j + 1 := ⟨k - 1, by omega⟩
      have ej : ((j + 1 : Nat) : Int) - 1 = (j : Int) := by omega
      rw [ej]
      obtain ⟨bx1, ox, csx, fzx, rfl, -, hcx⟩ := hd1.inj.2.2.2.2 (by omega)
      obtain ⟨a, ha⟩ : ∃ a, a = dg X.natAbs j := ⟨_, rfl⟩
      have ha9 : a < 10 := by rw [ha]; exact dg_lt _ _
      have zx : wr.cell? ⟨bx1, ox + j, none⟩ = some (.int .i64 (a : Int)) := by rw [ha]; exact (hE0.trans hext).cell (hcx j (by omega))
      obtain ⟨t, ht⟩ : ∃ t, t = X.natAbs / pt (j + 1) := ⟨_, rfl⟩
      obtain ⟨T, hT⟩ : ∃ T, T = X.natAbs / pt j := ⟨_, rfl⟩
      have htT : T = 10 * t + a := by rw [hT, ht, ha]; exact top_step
      obtain ⟨g1, g2⟩ := div_front hYp htT
      rw [← ht] at hq hr htr
      have hrm : t % yN < yN := Nat.mod_lt _ hYp
      have hnr : nr ≤ m := htr.le (Nat.lt_trans hrm hd2.mono_lt)
      have HT := Lib.hid hT
      have G1 := Lib.hid g1
      have G2 := Lib.hid g2
      have hR1 : 10 * (t % yN) + a < 10 * yN := by omega
      generalize t % yN = rr at *
      generalize t / yN = qq at *
      clear ha ht hT htT g1 g2 hcx ej
      go_wp2_with (at_builtin; refine wpList_front wr rfl _ _ rfl a ha9 _ nr rr hr (by omega) rfl rfl ?_; intro v' w3 hv' hE3)
      refine (trim_front _ _ _ _ hv').mono ?_
      rintro e w' ⟨v1, n1, rfl, h1, t1, rfl⟩
      have hext3 := hext.trans hE3
      have hq := hq.ext hE3
      obtain ⟨R1, hR1e⟩ : ∃ R1, R1 = 10 * rr + a := ⟨_, rfl⟩
      rw [← hR1e] at h1 t1 hR1
      have HR1 := Lib.hid hR1e
      have k11' := k11
      clear hr htr hv' zx hext hE3 hR1e
      go_wp2_with fail
      go_loopw [7, 9] (fun r d w5 => ∃ dd nr2 V P : Nat, d = .int .i64 dd ∧ Hid (P = dd * yN) ∧ V + P = R1 ∧ dd ≤ P ∧ TenN w5 r nr2 V ∧ TrT nr2 V ∧ Ext w3 w5) (fun _ d _ => R1 - (intOf d).toNat)
      case atStart => exact ⟨0, n1, R1, 0, rfl, Lib.hid (by simp), by omega, by omega, h1, t1, Ext.refl _⟩
      case round =>
        clear h1 t1
        obtain ⟨dd, nr2, V, P, rfl, HP, hVP, hdP, hr2, tr2, hx5⟩ := hrel
        have hVlt : V < pt (m + 1) := by have := hd2.mono_lt; rw [pt_succ]; omega
        have hnr2 : nr2 ≤ m + 1 := tr2.le hVlt
        have hdd9 : dd < 10 := by
          have h9 := HP.out
          exact Nat.lt_of_mul_lt_mul_right (a := yN) (by omega)
        have hE5 := hext3.trans hx5
        obtain ⟨Ar, cr, rfl⟩ := hr2.1.form
        have cmp := compare_any Ar A2 nr2 m cr c2 V yN _ hr2.1 (hd2.ext (hE0.trans hE5))
        have hge := cmpI_ge (a := V) (b := yN)
        obtain ⟨cv, hcv⟩ : ∃ cv, cv = cmpI V yN := ⟨_, rfl⟩
        rw [← hcv] at cmp hge
        clear hcv
        by_cases hle : yN ≤ V
        · have e1 : decide (0 ≤ cv) = true := by rw [hge]; simp; exact hle
          clear hge
          go_wp2_with fail
          refine cmp.mono ?_
          rintro e w6 ⟨rfl, rfl⟩
          clear cmp
          go_wp2_with fail
          refine (sub_any Ar A2 nr2 m cr c2 V yN _ hr2.1 (hd2.ext (hE0.trans hE5)) (by omega) hle).mono ?_
          rintro e w7 ⟨v7, rfl, h7, hx7⟩
          have hn7 : 0 < nr2 := (tr2.pos_iff hr2.1.mono_lt).2 (by omega)
          go_wp2_with fail
          refine (trim_front _ _ _ _ (h7.toN hn7)).mono ?_
          rintro e w8 ⟨v8, n8, rfl, h8, t8, rfl⟩
          go_wp2_with fail
          go_roundw
          case rel => exact ⟨dd + 1, n8, V - yN, P + yN, by go_num, Lib.hid (by rw [HP.out, Nat.add_mul, Nat.one_mul]), by omega, by omega, h8, t8, hx5.trans hx7⟩
          case measure => simp [intOf]; omega
        · have e1 : decide (0 ≤ cv) = false := by rw [hge]; simp; omega
          clear hge
          have hdiv : R1 / yN = dd ∧ R1 % yN = V := by
            have e2 : R1 = V + yN * dd := by rw [← hVP, HP.out, Nat.mul_comm]
            rw [e2, Nat.add_mul_div_left _ _ hYp, Nat.add_mul_mod_self_left, Nat.div_eq_of_lt (by omega), Nat.mod_eq_of_lt (by omega)]
            omega
          have hd10 : dd < 10 := by
            rw [← hdiv.1]
            exact Nat.div_lt_of_lt_mul (by omega)
          have HDIV := Lib.hid hdiv
          have hq5 := hq.ext hx5
          clear hdiv
          go_wp2_with fail
          refine cmp.mono ?_
          rintro e w6 ⟨rfl, rfl⟩
          clear cmp
          go_wp2_with (at_builtin; refine wpList_front wr rfl _ _ rfl dd hd10 _ _ _ hq5 (by omega) rfl rfl ?_; intro v9 w9 hv9 hE9)
          go_roundw
          case rel =>
            obtain ⟨g3, g4⟩ := HDIV.out
            refine ⟨j, by omega, by go_num, ?_, ⟨nr2, ?_, ?_⟩, hE5.trans hE9⟩
            · rw [← HT.out, G1.out, ← HR1.out, g3, show n - j = n - (j + 1) + 1 by omega]; exact hv9
            · rw [← HT.out, G2.out, ← HR1.out, g4]; exact hr2.ext hE9
            · rw [← HT.out, G2.out, ← HR1.out, g4]; exact tr2
          case measure => simp [intOf]
end Go.Proofs.YtginogcdjplhiaaGreatDoor.Ten

/- Walk: the leaving row. -/
import Derived.Test.YtljncdcjkdgkeaaGreatDoorYLT
set_option linter.unusedVariables false
set_option linter.unusedSimpArgs false
namespace Go.Proofs.YtljncdcjkdgkeaaGreatDoor.Lp
open Go.RowKit Go.Proofs.YtljncdcjkdgkeaaGreatDoor.Big Go.Proofs.YtljncdcjkdgkeaaGreatDoor.Rt
theorem leavL_no {R : Nat → Nat → Rat} {W : Nat} {b : Nat → Nat} {c i : Nat} (h : ¬ 0 < R i c) : q45 R W b c (i + 1) = q45 R W b c i := by
 show (match q45 R W b c i with | none => if 0 < R i c then some i else none | some k => if 0 < R i c ∧ (R i W / R i c < R k W / R k c ∨ (R i W / R i c = R k W / R k c ∧ b i < b k)) then some i else some k) = _
 split
 ·next e => rw [if_neg h, e]
 ·next k e => rw [e, if_neg (fun h' => h h'.1)]
theorem leavL_new {R : Nat → Nat → Rat} {W : Nat} {b : Nat → Nat} {c i : Nat} (h : q45 R W b c i = none) (h0 : 0 < R i c) : q45 R W b c (i + 1) = some i := by
 show (match q45 R W b c i with | none => if 0 < R i c then some i else none | some k => if 0 < R i c ∧ (R i W / R i c < R k W / R k c ∨ (R i W / R i c = R k W / R k c ∧ b i < b k)) then some i else some k) = _
 rw [h]; exact if_pos h0
theorem leavL_old {R : Nat → Nat → Rat} {W : Nat} {b : Nat → Nat} {c i k : Nat} (h : q45 R W b c i = some k) (h0 : 0 < R i c) : q45 R W b c (i + 1) = if R i W / R i c < R k W / R k c ∨ (R i W / R i c = R k W / R k c ∧ b i < b k) then some i else some k := by
 show (match q45 R W b c i with | none => if 0 < R i c then some i else none | some k => if 0 < R i c ∧ (R i W / R i c < R k W / R k c ∨ (R i W / R i c = R k W / R k c ∧ b i < b k)) then some i else some k) = _
 rw [h]
 show (if 0 < R i c ∧ (R i W / R i c < R k W / R k c ∨ (R i W / R i c = R k W / R k c ∧ b i < b k)) then some i else some k) = _
 by_cases h1 : R i W / R i c < R k W / R k c ∨ (R i W / R i c = R k W / R k c ∧ b i < b k)
 ·rw [if_pos ⟨h0, h1⟩, if_pos h1]
 ·rw [if_neg (fun e => h1 e.2), if_neg h1]
theorem num_pos {q : Rat} : 0 < q ↔ 0 < q.num := by
 rw [← Rat.not_le, ← Int.not_le]
 have : q ≤ 0 ↔ q.num ≤ 0 := by
  have h := num_neg (q := q)
  constructor
  ·intro hq
   by_cases h0 : q = 0
   ·rw [h0]; decide
   ·exact Int.le_of_lt (h.1 (by grind))
  ·intro hq
   rcases Int.lt_or_eq_of_le hq with h1 | h1
   ·exact Rat.le_of_lt (h.2 h1)
   ·rw [Rat.num_eq_zero.1 h1]; exact Rat.le_refl
 rw [this]
theorem boxA' {w w' : World} {E : TypeId} {cs : Array Value} (h : Ext (w.alloc (.cells cs E)) w') : Box w' w.heap.size E cs := (Box.new w E cs).ext h
theorem qkk {w w' : World} {E : TypeId} {cs : Array Value} (h : Ext (w.alloc (.cells cs E)).drew w') : Box w' w.heap.size E cs := (Box.new w E cs).drew.ext h
def RBox (w : World) (b : Nat) (q : Rat) (k : Nat) : Prop :=
 ∃ (x y : Bool) (A A' : Option Addr) (d e d' e' : Nat), Box w b 58 #[.bool x, .slice A d e, .bool y, .slice A' d' e'] ∧ RatB w (.agg #[.bool x, .slice A d e, .bool y, .slice A' d' e']) q k
theorem RBox.ext {w w' : World} {b : Nat} {q : Rat} {k : Nat} (h : RBox w b q k) (x : Ext w w') : RBox w' b q k := by
 obtain ⟨x1, y1, A, A', d, e, d', e', h1, h2⟩ := h
 exact ⟨x1, y1, A, A', d, e, d', e', h1.ext x, h2.ext x⟩
attribute [local go_sem] Go.World.cell?_alloc_some Go.RowKit.frozen?_alloc_cells
set_option maxHeartbeats 8000000 in
theorem leaving_b (a : TA) (m W art : Nat) (cv : Value) (c : Nat) (R : Nat → Nat → Rat) (b u : Nat → Nat) (fl : Nat → Bool) (K : Nat) (w : World)
 (hT : Tab a m W art w cv R b u fl) (hR : ∀ i, i < m → ∀ j, j ≤ W → QB K (R i j)) (hK : K ≤ 134217728) (hc : c < W) (hW : W < 1099511627776) (hm : m ≤ 1099511627776) (hb : ∀ i, i < m → b i < W) :
 Calls Tryz.prog 172 #[.pointer (some ⟨a.t, 0, none⟩), .int .i64 (c : Int)] w (IdxPost w (q45 R W b c m)) := by
 obtain ⟨o, ho⟩ : ∃ o, o = q45 R W b c m := ⟨_, rfl⟩
 rw [← ho]
 have HO := Lib.hid ho
 have HR := Lib.hid hR
 have HB := Lib.hid hb
 clear ho hR hb
 have hcap := hT.cap.1
 have hse := hT.self
 have hadr := hT.adr
 by_cases hm0 : m = 0
 ·subst hm0
  have HE : Hid (o = none) := HO
  go_enter Tryz.func172, Tryz.ntmps172
  go_upto_region 3 with fail
  have hE0 : Ext w (w.alloc (.cells #[.bool false, .slice none 0 0, .bool false, .slice none 0 0] 58)) := (Ext.refl w).alloc _
  generalize (w.alloc (.cells #[.bool false, .slice none 0 0, .bool false, .slice none 0 0] 58)) = V at *
  have s0 := (hse.ext hE0).c0
  clear hadr
  go_wp2_with fail
  go_loopw [5, 17] (fun bv i wr => i = .int .i64 0 ∧ bv = .int .i64 (-1) ∧ Ext w wr) (fun _ _ _ => 0)
  case atStart => exact ⟨rfl, rfl, hE0⟩
  case round =>
   obtain ⟨rfl, rfl, hx⟩ := hrel
   go_wp2_with fail
   go_ret
   exact ⟨by rw [HE.out]; rfl, hx⟩
 ·obtain ⟨hAr, hAb, hAu, hAf⟩ := hadr (by omega)
  rw [hAr, hAb, hAu, hAf] at hse
  clear hadr
  go_enter Tryz.func172, Tryz.ntmps172
  go_upto_region 3 with fail
  have B0 := Box.new w 58 #[.bool false, .slice none 0 0, .bool false, .slice none 0 0]
  have hE0 : Ext w (w.alloc (.cells #[.bool false, .slice none 0 0, .bool false, .slice none 0 0] 58)) := (Ext.refl w).alloc _
  generalize (w.alloc (.cells #[.bool false, .slice none 0 0, .bool false, .slice none 0 0] 58)) = V at *
  have s0 := (hse.ext hE0).c0
  go_wp2_with fail
  clear s0
  go_loopw [5, 17] (fun bv i wr => ∃ (j : Nat) (p : Option Nat) (x y : Bool) (A A' : Option Addr) (d e d' e' : Nat), j ≤ m ∧ i = .int .i64 j ∧ bv = .int .i64 (optI p) ∧ Hid (p = q45 R W b c j) ∧ Box wr w.heap.size 58 #[.bool x, .slice A d e, .bool y, .slice A' d' e'] ∧
   (∀ k, p = some k → RatB wr (.agg #[.bool x, .slice A d e, .bool y, .slice A' d' e']) (R k W / R k c) (K + K)) ∧ Ext w wr) (fun _ i _ => m - (intOf i).toNat)
  case atStart => exact ⟨0, none, _, _, _, _, _, _, _, _, by omega, rfl, rfl, Lib.hid rfl, B0, fun k h => (by cases h), hE0⟩
  case round =>
   obtain ⟨j, p, x, y, A, A', d, e, d', e', hj, rfl, rfl, HP, hB, hL, hx⟩ := hrel
   have hse := hse.ext hx
   by_cases hlt : j < m
   ·have hT1 := hT.ext hx
    have q1 := hT1.rows j hlt
    obtain ⟨p1, A1, m1, c1, p1', A1', m1', c1', e0, e1, e2, e3, hd⟩ := (hT1.row j hlt).at (j := c) (by omega)
    go_wp2_with fail
    refine (qpl _ (R j c) K _ ⟨hd, HR.out j hlt c (by omega)⟩).mono ?_
    rintro e w1 ⟨rfl, hx1⟩
    have hX1 := hx.trans hx1
    obtain ⟨z, hz⟩ : ∃ y, y = R j c := ⟨_, rfl⟩
    have HZ := Lib.hid hz
    rw [← hz] at hd ⊢
    clear hz
    obtain ⟨sg, hsg⟩ : ∃ s, s = z.num.sign := ⟨_, rfl⟩
    rw [← hsg]
    by_cases hn : 0 < z
    ·have e5 : decide (sg ≤ 0) = false := by rw [hsg, Int.sign_eq_one_of_pos (num_pos.1 hn)]; rfl
     have HN := Lib.hid hn
     clear hsg hn
     have hT2 := hT1.ext hx1
     have hse := hse.ext hx1
     have hB := hB.ext hx1
     have hd := hd.ext hx1
     have e0 := hx1.cell e0
     have e1 := hx1.cell e1
     have e2 := hx1.cell e2
     have e3 := hx1.cell e3
     have hzB : RatB w1 _ z K := ⟨hd, by rw [HZ.out]; exact HR.out j hlt c (by omega)⟩
     have HN0 : Hid (z.num ≠ 0) := Lib.hid (by have := num_pos.1 HN.out; omega)
     obtain ⟨p2, A2, m2, c2, p2', A2', m2', c2', g0, g1, g2, g3, hv⟩ := (hT2.row j hlt).at (j := W) (by omega)
     have hvB : RatB w1 _ (R j W) K := ⟨hv, HR.out j hlt W (by omega)⟩
     obtain ⟨q, hq⟩ : ∃ q, q = R j W / z := ⟨_, rfl⟩
     have HQ := Lib.hid hq
     have q6 : w1.cell? ⟨a.t, 6, none⟩ = some (.int .i64 (W : Int)) := hse.cell 6
     clear hq hv hd q1
     have kq : ∀ w', Later w1 w' → w'.cell? ⟨a.t, 6, none⟩ = some _ := fun w' h => Later.cell h q6
     have k0 : ∀ w', Later w1 w' → w'.cell? ⟨a.rw j, c * 4, none⟩ = some _ := fun w' h => Later.cell h e0
     have k1 : ∀ w', Later w1 w' → w'.cell? ⟨a.rw j, c * 4 + 1, none⟩ = some _ := fun w' h => Later.cell h e1
     have k2 : ∀ w', Later w1 w' → w'.cell? ⟨a.rw j, c * 4 + 2, none⟩ = some _ := fun w' h => Later.cell h e2
     have k3 : ∀ w', Later w1 w' → w'.cell? ⟨a.rw j, c * 4 + 3, none⟩ = some _ := fun w' h => Later.cell h e3
     have l0 : ∀ w', Later w1 w' → w'.cell? ⟨a.rw j, W * 4, none⟩ = some _ := fun w' h => Later.cell h g0
     have l1 : ∀ w', Later w1 w' → w'.cell? ⟨a.rw j, W * 4 + 1, none⟩ = some _ := fun w' h => Later.cell h g1
     have l2 : ∀ w', Later w1 w' → w'.cell? ⟨a.rw j, W * 4 + 2, none⟩ = some _ := fun w' h => Later.cell h g2
     have l3 : ∀ w', Later w1 w' → w'.cell? ⟨a.rw j, W * 4 + 3, none⟩ = some _ := fun w' h => Later.cell h g3
     have ks := Later.refl w1
     clear q6 e0 e1 e2 e3 g0 g1 g2 g3
     have i1 : (0 : Int) ≤ (c : Int) := by omega
     have i2 : (c : Int) < (W : Int) + 1 := by omega
     have i3 : (0 : Int) ≤ (W : Int) := by omega
     have i4 : (W : Int) < (W : Int) + 1 := by omega
     go_upto_region 7 with fail
     go_cut [9, 10] (fun v v2 wx => ∃ bq : Nat, v = .pointer (some ⟨bq, 0, none⟩) ∧ v2 = .int .i64 0 ∧ RBox wx bq q (K + K) ∧ Ext w1 wx)
     case first =>
      clear hse hB hT hT1 hT2 HO HP hL hcap hAr hAb hAu hAf HN HZ HB
      go_region_held3 (fun w' => Later w1 w') ((repeat (first | assumption | apply Later.drew | apply Later.drewN | apply Later.alloc | (refine Later.set ?_ (by first | exact Nat.le_refl _ | exact Nat.le_succ _ | exact Later.size (by assumption) | exact Nat.le_succ_of_le (Later.size (by assumption))) _) | (refine Later.step ?_ (by assumption))))) (first
       | (go_at_call 185; (with_reducible refine (qae _ _ _ _ _ _ _ (RatB.ext hvB (by repeat (first | (with_reducible exact Ext.refl _) | (with_reducible apply Ext.drew) | (with_reducible apply Ext.drewN) | (with_reducible apply Ext.alloc)))) (RatB.ext hzB (by repeat (first | (with_reducible exact Ext.refl _) | (with_reducible apply Ext.drew) | (with_reducible apply Ext.drewN) | (with_reducible apply Ext.alloc)))) (by omega) HN0.out).mono ?_); rintro e wk ⟨vk, rfl, hbk, hxk⟩; rw [← HQ.out] at hbk; (obtain ⟨pk, Ak, nk, ck, pk', Ak', nk', ck', rfl⟩ := hbk.1.shape); (have hSk := Later.step (by assumption) hxk); (try (have bq := qkk hxk)); (try (have bq := boxA' hxk)); (try (have q0 := bq.c0; have q1 := bq.c1; have q2 := bq.c2; have q3 := bq.c3; have f0 := bq.frozen 0; have f1 := bq.frozen 1; have f2 := bq.frozen 2; have f3 := bq.frozen 3)))
       )
      all_goals (go_wp2_with fail; go_meet)
      all_goals first
       | exact ⟨_, rfl, rfl, ⟨_, _, _, _, _, _, _, _, Box.new _ _ _, hbk.ext ((Ext.refl _).alloc _)⟩, Ext.alloc (show Ext w1 _ from hSk) _⟩
       | exact ⟨_, rfl, rfl, ⟨_, _, _, _, _, _, _, _, bq.set4 _ _ _ _, ⟨(RatV.put hbk.1 bq).1, hbk.2⟩⟩, Ext.set (Ext.set (Ext.set (Ext.set (show Ext w1 _ from hSk) (by first | exact Nat.le_refl _ | exact Later.size (by assumption)) _) (by first | exact Nat.le_refl _ | exact Later.size (by assumption)) _) (by first | exact Nat.le_refl _ | exact Later.size (by assumption)) _) (by first | exact Nat.le_refl _ | exact Later.size (by assumption)) _⟩
     case rest =>
      obtain ⟨bq, rfl, rfl, hQB, hx2⟩ := hcut
      rename_i hK
      refine hK _ _ ?_
      clear hK k0 k1 k2 k3 l0 l1 l2 l3 kq ks
      have hX2 := hX1.trans hx2
      have hB2 := hB.ext hx2
      obtain ⟨rx, ry, RA, RA', rd, re, rd', re', bQ, hQV⟩ := hQB
      have bQ0 := bQ.c0
      have bQ1 := bQ.c1
      have bQ2 := bQ.c2
      have bQ3 := bQ.c3
      cases p with
      | none =>
        rw [show optI none = -1 from rfl]
        have HE : Hid (some j = q45 R W b c (j + 1)) := Lib.hid (leavL_new HP.out.symm (by rw [← HZ.out]; exact HN.out)).symm
        go_upto_region 11 with fail
        go_region
        all_goals (
         go_upto_region 12 with fail
         have bL0 := (hB2).c0
         have bL1 := (hB2).c1
         have bL2 := (hB2).c2
         have bL3 := (hB2).c3
         have fL0 := (hB2).frozen 0
         have fL1 := (hB2).frozen 1
         have fL2 := (hB2).frozen 2
         have fL3 := (hB2).frozen 3
         go_region)
        all_goals (
         have hB4 := (hB2).set4 (.bool rx) (.slice RA rd re) (.bool ry) (.slice RA' rd' re')
         have hQ4 := (RatV.put (hQV).1 (hB2)).1
         have hX4 := (((((hX2)).drew.drew.set (p := ⟨w.heap.size, 0, none⟩) (Nat.le_refl _) (.bool rx)).set (p := ⟨w.heap.size, 1, none⟩) (Nat.le_refl _) (.slice RA rd re)).set (p := ⟨w.heap.size, 2, none⟩) (Nat.le_refl _) (.bool ry)).set (p := ⟨w.heap.size, 3, none⟩) (Nat.le_refl _) (.slice RA' rd' re')
         go_wp2_with fail
         go_roundw
         case rel => exact ⟨j + 1, some j, rx, ry, RA, RA', rd, re, rd', re', by omega, by go_num, rfl, HE, hB4, fun k h => (by injection h with h; subst h; rw [← HZ.out, ← HQ.out]; exact ⟨hQ4, (hQV).2⟩), hX4⟩
         case measure => simp [intOf]; omega)
      | some k =>
        rw [show optI (some k) = (k : Int) from rfl]
        have hkj := (qn5 HP.out.symm).1
        have hLB := (hL k rfl).ext (hx1.trans hx2)
        obtain ⟨l, hl⟩ : ∃ l, l = R k W / R k c := ⟨_, rfl⟩
        rw [← hl] at hLB
        have HE : Hid (q45 R W b c (j + 1) = if q < l ∨ (q = l ∧ b j < b k) then some j else some k) := Lib.hid (by rw [hl, HQ.out, HZ.out]; exact leavL_old HP.out.symm (by rw [← HZ.out]; exact HN.out))
        have HL := Lib.hid hl
        clear hl hL
        have bL0 := hB2.c0
        have bL1 := hB2.c1
        have bL2 := hB2.c2
        have bL3 := hB2.c3
        go_wp2_with fail
        refine (q8w _ _ q l (K + K) (K + K) _ hQV hLB (by omega)).mono ?_
        rintro e w3 ⟨rfl, hx3⟩
        have hX3 := hX2.trans hx3
        have hB3 := hB2.ext hx3
        have hQ3 := hQV.ext hx3
        have hL3 := hLB.ext hx3
        have bQ0 := hx3.cell bQ0
        have bQ1 := hx3.cell bQ1
        have bQ2 := hx3.cell bQ2
        have bQ3 := hx3.cell bQ3
        clear bL0 bL1 bL2 bL3
        obtain ⟨cq, hcq⟩ : ∃ c, c = cmpQ q l := ⟨_, rfl⟩
        rw [← hcq]
        rcases (show q < l ∨ q = l ∨ ¬ q < l ∧ q ≠ l by by_cases h1 : q < l; exact .inl h1; by_cases h2 : q = l; exact .inr (.inl h2); exact .inr (.inr ⟨h1, h2⟩)) with h1 | h1 | ⟨h1, h2⟩
        ·obtain rfl : cq = -1 := by rw [hcq]; unfold cmpQ; rw [if_pos h1]
         have HE2 : Hid (some j = q45 R W b c (j + 1)) := Lib.hid (by rw [HE.out, if_pos (.inl h1)])
         clear h1 hcq HE
         have HE := HE2
         go_upto_region 11 with fail
         go_region
         all_goals (
          go_upto_region 12 with fail
          have bL0 := (hB3).c0
          have bL1 := (hB3).c1
          have bL2 := (hB3).c2
          have bL3 := (hB3).c3
          have fL0 := (hB3).frozen 0
          have fL1 := (hB3).frozen 1
          have fL2 := (hB3).frozen 2
          have fL3 := (hB3).frozen 3
          go_region)
         all_goals (
          have hB4 := (hB3).set4 (.bool rx) (.slice RA rd re) (.bool ry) (.slice RA' rd' re')
          have hQ4 := (RatV.put (hQ3).1 (hB3)).1
          have hX4 := (((((hX3)).drew.drew.set (p := ⟨w.heap.size, 0, none⟩) (Nat.le_refl _) (.bool rx)).set (p := ⟨w.heap.size, 1, none⟩) (Nat.le_refl _) (.slice RA rd re)).set (p := ⟨w.heap.size, 2, none⟩) (Nat.le_refl _) (.bool ry)).set (p := ⟨w.heap.size, 3, none⟩) (Nat.le_refl _) (.slice RA' rd' re')
          go_wp2_with fail
          go_roundw
          case rel => exact ⟨j + 1, some j, rx, ry, RA, RA', rd, re, rd', re', by omega, by go_num, rfl, HE, hB4, fun k h => (by injection h with h; subst h; rw [← HZ.out, ← HQ.out]; exact ⟨hQ4, (hQ3).2⟩), hX4⟩
          case measure => simp [intOf]; omega)
        ·obtain rfl : cq = 0 := by rw [hcq]; unfold cmpQ; rw [if_neg (by rw [h1]; exact Rat.lt_irrefl), if_neg (by rw [h1]; exact Rat.lt_irrefl)]
         have hse := hse.ext (hx2.trans hx3)
         have hT3 := hT2.ext (hx2.trans hx3)
         have t2 := hse.c2
         have t3 := hT3.bas j hlt
         have t4 := hT3.bas k (by omega)
         have hcap2 := hT3.cap.2.1
         have HH1 := Lib.hid h1
         have HEC := HE
         clear hcq h1
         go_upto_region 11 with fail
         have i1 : (0 : Int) ≤ (j : Int) := by omega
         have i2 : (j : Int) < (m : Int) := by omega
         have i3 : (0 : Int) ≤ (k : Int) := by omega
         have i4 : (k : Int) < (m : Int) := by omega
         have kt2 : ∀ w', Later w3 w' → w'.cell? ⟨a.t, 2, none⟩ = some _ := fun w' h => Later.cell h t2
         have kt3 : ∀ w', Later w3 w' → w'.cell? ⟨a.bb, j, none⟩ = some _ := fun w' h => Later.cell h t3
         have kt4 : ∀ w', Later w3 w' → w'.cell? ⟨a.bb, k, none⟩ = some _ := fun w' h => Later.cell h t4
         have ks := Later.refl w3
         obtain ⟨bj, hbj⟩ : ∃ x, x = b j := ⟨_, rfl⟩
         obtain ⟨bk, hbk⟩ : ∃ x, x = b k := ⟨_, rfl⟩
         rw [← hbj] at kt3
         rw [← hbk] at kt4
         have HBJ := Lib.hid hbj
         have HBK := Lib.hid hbk
         clear t2 t3 t4 hbj hbk
         go_region_held3 (fun w' => Later w3 w') ((repeat (first | assumption | apply Later.drew | apply Later.drewN | apply Later.alloc | (refine Later.step ?_ (by assumption))))) (first
          | (fail)
          )
         by_cases hbb : bj < bk
         ·have e7 : decide (bj < bk) = true := by simpa using hbb
          have HE2 : Hid (some j = q45 R W b c (j + 1)) := Lib.hid (by rw [HEC.out, if_pos (.inr ⟨HH1.out, by rw [← HBJ.out, ← HBK.out]; exact hbb⟩)])
          clear hbb HE kt2 kt3 kt4 ks
          have HE := HE2
          all_goals (rw [e7]; clear e7)
          all_goals (
           go_upto_region 12 with fail
           have bL0 := (hB3).c0
           have bL1 := (hB3).c1
           have bL2 := (hB3).c2
           have bL3 := (hB3).c3
           have fL0 := (hB3).frozen 0
           have fL1 := (hB3).frozen 1
           have fL2 := (hB3).frozen 2
           have fL3 := (hB3).frozen 3
           go_region)
          all_goals (
           have hB4 := (hB3).set4 (.bool rx) (.slice RA rd re) (.bool ry) (.slice RA' rd' re')
           have hQ4 := (RatV.put (hQ3).1 (hB3)).1
           have hX4 := (((((hX3)).drew.drew.set (p := ⟨w.heap.size, 0, none⟩) (Nat.le_refl _) (.bool rx)).set (p := ⟨w.heap.size, 1, none⟩) (Nat.le_refl _) (.slice RA rd re)).set (p := ⟨w.heap.size, 2, none⟩) (Nat.le_refl _) (.bool ry)).set (p := ⟨w.heap.size, 3, none⟩) (Nat.le_refl _) (.slice RA' rd' re')
           go_wp2_with fail
           go_roundw
           case rel => exact ⟨j + 1, some j, rx, ry, RA, RA', rd, re, rd', re', by omega, by go_num, rfl, HE, hB4, fun k h => (by injection h with h; subst h; rw [← HZ.out, ← HQ.out]; exact ⟨hQ4, (hQ3).2⟩), hX4⟩
           case measure => simp [intOf]; omega)
         ·have e7 : decide (bj < bk) = false := by simpa using hbb
          have HE2 : Hid (some k = q45 R W b c (j + 1)) := Lib.hid (by rw [HEC.out, if_neg (by rintro (h | h); rw [HH1.out] at h; exact Rat.lt_irrefl h; exact hbb (by rw [HBJ.out, HBK.out]; exact h.2))])
          clear hbb HE kt2 kt3 kt4 ks
          have HE := HE2
          all_goals (rw [e7]; clear e7)
          all_goals (
           go_wp2_with fail
           go_roundw
           case rel => exact ⟨j + 1, some k, x, y, A, A', d, _, d', e', by omega, by go_num, rfl, HE, (hB3).drew, fun k' h => (by injection h with h; subst h; rw [← HL.out]; exact (hL3)), ((hX3)).drew⟩
           case measure => simp [intOf]; omega)
        ·obtain rfl : cq = 1 := by rw [hcq]; unfold cmpQ; rw [if_neg h1, if_pos (by grind)]
         have HE2 : Hid (some k = q45 R W b c (j + 1)) := Lib.hid (by rw [HE.out, if_neg (by rintro (h | h); exact h1 h; exact h2 h.1)])
         clear h1 h2 hcq HE
         have HE := HE2
         go_upto_region 11 with fail
         go_region
         all_goals (
          go_wp2_with fail
          go_roundw
          case rel => exact ⟨j + 1, some k, x, y, A, A', d, _, d', e', by omega, by go_num, rfl, HE, (hB3).drew, fun k' h => (by injection h with h; subst h; rw [← HL.out]; exact (hL3)), ((hX3)).drew⟩
          case measure => simp [intOf]; omega)
    ·have e5 : decide (sg ≤ 0) = true := by
      rw [hsg]
      rcases q83 z.num with ⟨a, b⟩ | ⟨a, b⟩ | ⟨a, b⟩ <;> rw [b] <;> first | rfl | exact absurd (num_pos.2 a) hn
     have HE := Lib.hid (leavL_no (R := R) (W := W) (b := b) (c := c) (i := j) (by rw [← HZ.out]; exact hn))
     clear hsg hn
     go_wp2_with fail
     go_roundw
     case rel => exact ⟨j + 1, p, x, y, A, A', d, _, d', e', by omega, by go_num, rfl, Lib.hid (by rw [HE.out]; exact HP.out), hB.ext hx1, fun k h => (hL k h).ext hx1, hX1⟩
     case measure => simp [intOf]; omega
   ·obtain rfl : j = m := by omega
    have HE : Hid (optI p = optI o) := Lib.hid (by rw [HO.out, HP.out])
    go_wp2_with fail
    go_ret
    exact ⟨by rw [HE.out]; rfl, hx⟩
end Go.Proofs.YtljncdcjkdgkeaaGreatDoor.Lp

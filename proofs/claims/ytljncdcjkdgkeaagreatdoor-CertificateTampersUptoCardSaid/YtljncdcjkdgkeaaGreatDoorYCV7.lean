/- Walk: combine of the certificate. -/
import Derived.Deep.RegionLaw
import Derived.Test.YtljncdcjkdgkeaaGreatDoorYLV5
set_option linter.unusedVariables false
set_option linter.unusedSimpArgs false
namespace Go.Proofs.YtljncdcjkdgkeaaGreatDoor.Lp
open Go.RowKit Go.Proofs.YtljncdcjkdgkeaaGreatDoor.Big Go.Proofs.YtljncdcjkdgkeaaGreatDoor.Rt
def CombC (w : World) (p : Prob) (ny : Nat) (y : Nat → Rat) (T : Nat) (e : Ending) (w' : World) : Prop :=
 ((q03 p ny y = false ∧ e = .returned (.tuple #[.slice none 0 0, .agg #[.bool false, .slice none 0 0, .bool false, .slice none 0 0], .bool false])) ∨
   (q03 p ny y = true ∧ ∃ bl q A n c q' A' n' c' f z, e = .returned (.tuple #[.slice (some ⟨bl, 0, none⟩) p.n p.n, .agg #[.bool q, .slice A n c, .bool q', .slice A' n' c'], .bool true]) ∧ RowR w' bl p.n f ∧ RatB w' (.agg #[.bool q, .slice A n c, .bool q', .slice A' n' c']) z T ∧
    (∀ j, j < p.n → QB T (f j)) ∧ (∀ j, j < p.n → f j = p.left y j) ∧ z = p.rhs y)) ∧ Ext w w'
set_option maxHeartbeats 16000000 in
set_option maxRecDepth 100000 in
theorem q7i (v : Value) (p : Prob) (Ay : Option Addr) (ny cy : Nat) (y : Nat → Rat) (Kc Kr Ky T : Nat) (w : World) (hv : qga w v p) (hval : qba p = true) (hy : q94 w Ay ny cy y)
 (hc : ∀ i, i < p.m → ∀ j, j < p.n → QB Kc (p.coef i j)) (hr : ∀ i, i < p.m → QB Kr (p.right i)) (hq : ∀ j, j < ny → QB Ky (y j)) (hT : 1 + p.m * (Kc + Kr + Ky + 1) ≤ T) (hT2 : T ≤ 137438953472) (hT3 : Kc + Kr + Ky ≤ 137438953472) :
 Calls Tryz.prog 81 #[v, .slice Ay ny cy] w (CombC w p ny y T) := by
 obtain ⟨Ao, co, Ar, cr, rfl, hob, hmc, hcr, hrows⟩ := hv
 obtain ⟨F, hF⟩ : ∃ F, F = q03 p ny y := ⟨_, rfl⟩
 have HP : Hid (∀ e w', CombC w p ny y T e w' ↔ ((F = false ∧ e = .returned (.tuple #[.slice none 0 0, .agg #[.bool false, .slice none 0 0, .bool false, .slice none 0 0], .bool false])) ∨
  (F = true ∧ ∃ bl q A n c q' A' n' c' f z, e = .returned (.tuple #[.slice (some ⟨bl, 0, none⟩) p.n p.n, .agg #[.bool q, .slice A n c, .bool q', .slice A' n' c'], .bool true]) ∧ RowR w' bl p.n f ∧ RatB w' (.agg #[.bool q, .slice A n c, .bool q', .slice A' n' c']) z T ∧
   (∀ j, j < p.n → QB T (f j)) ∧ (∀ j, j < p.n → f j = p.left y j) ∧ z = p.rhs y)) ∧ Ext w w') := Lib.hid (fun e w' => by rw [hF]; exact Iff.rfl)
 have hp := validB_iff.1 hval
 obtain ⟨n, hn⟩ : ∃ n, n = p.n := ⟨_, rfl⟩
 obtain ⟨m, hm⟩ : ∃ n, n = p.m := ⟨_, rfl⟩
 have HF : Hid (F = ((ny == m) && sgB p y m)) := Lib.hid (by rw [hF, hm]; rfl)
 have HVR : Hid (∀ i, i < m → p.len i = n ∧ 1 ≤ p.rel i ∧ p.rel i ≤ 3) := Lib.hid (by rw [hn, hm]; exact hp.2.2.2)
 have hnb : n ≤ 1000 := by rw [hn]; exact hp.2.1
 have hmb : m ≤ 1000 := by rw [hm]; exact hp.2.2.1
 obtain ⟨LL, hLL⟩ : ∃ f : Nat → Nat → Rat, f = fun i j => sm i (fun k => y k * p.coef k j) := ⟨_, rfl⟩
 obtain ⟨RR, hRR⟩ : ∃ f : Nat → Rat, f = fun i => sm i (fun k => y k * p.right k) := ⟨_, rfl⟩
 have HL0 : Hid (∀ j, LL 0 j = 0) := Lib.hid (fun j => by rw [hLL]; rfl)
 have HLS : Hid (∀ i j, LL (i + 1) j = LL i j + y i * p.coef i j) := Lib.hid (fun i j => by rw [hLL]; rfl)
 have HR0 : Hid (RR 0 = 0) := Lib.hid (by rw [hRR]; rfl)
 have HRS : Hid (∀ i, RR (i + 1) = RR i + y i * p.right i) := Lib.hid (fun i => by rw [hRR]; rfl)
 have HLF : Hid (∀ j, p.left y j = LL m j) := Lib.hid (fun j => by rw [hLL, hm]; rfl)
 have HRH : Hid (p.rhs y = RR m) := Lib.hid (by rw [hRR, hm]; rfl)
 rw [← hn] at hc hob HP
 rw [← hm] at hc hr hmc hrows hT
 rw [← hn, ← hm]
 have HNL : Hid (∀ i, i ≤ m → ny = m → ∀ j, j < n → QB T (LL i j)) := Lib.hid (fun i hi he j hj => by rw [hLL]; exact qqj (Nat.le_trans (by have := Nat.mul_le_mul hi (show Ky + Kc + 1 ≤ Kc + Kr + Ky + 1 by omega); omega) hT) (qb2.sum i (c := Ky + Kc) (fun k hk => qvy (hq k (by omega)) (hc k (by omega) j hj))))
 have HNR : Hid (∀ i, i ≤ m → ny = m → QB T (RR i)) := Lib.hid (fun i hi he => by rw [hRR]; exact qqj (Nat.le_trans (by have := Nat.mul_le_mul hi (show Ky + Kr + 1 ≤ Kc + Kr + Ky + 1 by omega); omega) hT) (qb2.sum i (c := Ky + Kr) (fun k hk => qvy (hq k (by omega)) (hr k (by omega)))))
 have HT1 : Hid (1 ≤ T) := Lib.hid (by omega)
 have HC := Lib.hid hc
 have HR := Lib.hid hr
 have HY := Lib.hid hq
 have HROW := Lib.hid hrows
 have hyc := hy.1
 have hyc2 := hy.2.1
 clear hn hm hc hr hq hT hrows hp hF hval hob hLL hRR
 obtain ⟨PB, SB, hE0⟩ := qwt w 41 58 #[.slice Ao n co, .slice Ar m cr] #[.bool false, .slice none 0 0, .bool false, .slice none 0 0]
 go_enter Tryz.func81, Tryz.ntmps81
 go_upto_region 1 with fail
 generalize ((w.alloc (.cells #[.slice Ao n co, .slice Ar m cr] 41)).alloc (.cells #[.bool false, .slice none 0 0, .bool false, .slice none 0 0] 58)) = V at *
 obtain ⟨b5, hb5⟩ : ∃ x, x = w.heap.size + 1 := ⟨_, rfl⟩
 obtain ⟨pb, hpb⟩ : ∃ x, x = w.heap.size := ⟨_, rfl⟩
 rw [← hb5] at SB ⊢
 rw [← hpb] at PB ⊢
 have hw5 : w.heap.size ≤ b5 := by omega
 have hwp : w.heap.size ≤ pb := by omega
 clear hb5 hpb
 go_upto_region 2 with fail
 have B7 := Box.new V 58 #[.bool false, .slice none 0 0, .bool false, .slice none 0 0]
 have hx2 : Ext V (V.alloc (.cells #[.bool false, .slice none 0 0, .bool false, .slice none 0 0] 58)) := (Ext.refl V).alloc _
 generalize (V.alloc (.cells #[.bool false, .slice none 0 0, .bool false, .slice none 0 0] 58)) = U at *
 obtain ⟨b8, hb8⟩ : ∃ x, x = V.heap.size := ⟨_, rfl⟩
 have hw8 : w.heap.size ≤ b8 := by rw [hb8]; exact hE0.size
 have h58 : b5 < b8 := by rw [hb8]; exact SB.lt
 have hp8 : pb < b8 := by rw [hb8]; exact PB.lt
 rw [← hb8] at B7 ⊢
 clear hb8
 have PB := PB.ext hx2
 have SB := SB.ext hx2
 have hE2 := hE0.trans hx2
 have p1 := PB.c1
 clear hx2 hE0
 by_cases hnm : ny = m
 case neg =>
  have e1 : ((ny : Int) != (m : Int)) = true := by simp; omega
  have HE : Hid (F = false) := Lib.hid (by rw [HF.out, show (ny == m) = false by simpa using hnm]; rfl)
  clear hnm
  go_upto_region 3 with fail
  have x0 := B7.c0
  have x1 := B7.c1
  have x2 := B7.c2
  have x3 := B7.c3
  have z0 := SB.c0
  have z1 := SB.c1
  have z2 := SB.c2
  have z3 := SB.c3
  have f0 := SB.frozen 0
  have f1 := SB.frozen 1
  have f2 := SB.frozen 2
  have f3 := SB.frozen 3
  have hb4 := SB.set4 (.bool false) (.slice none 0 0) (.bool false) (.slice none 0 0)
  have pc0 := hb4.c0
  have pc1 := hb4.c1
  have pc2 := hb4.c2
  have pc3 := hb4.c3
  go_region
  all_goals (
   go_wp2_with fail
   refine bodyPost_ret (v := .tuple #[.slice none 0 0, .agg #[.bool false, .slice none 0 0, .bool false, .slice none 0 0], .bool false]) (by simp [results, Tryz.results81, go_sem, pc0, pc1, pc2, pc3]) rfl ?_
   rw [HP.out]
   exact ⟨.inl ⟨HE.out, rfl⟩, (ext4 hw5 hE2 (.bool false) (.slice none 0 0) (.bool false) (.slice none 0 0)).drew⟩)
 case pos =>
 subst hnm
 have e1 : ((ny : Int) != (ny : Int)) = false := by simp
 have HF2 : Hid (F = sgB p y ny) := Lib.hid (by rw [HF.out]; simp)
 have p0 := PB.c0
 go_upto_region 5 with (at_make; refine qhn _ rfl _ _ rfl _ _ rfl rfl n (by omega) (by omega) (by omega) ?_; intro w1 hR1 hx1)
 have hE3 := hE2.trans hx1
 obtain ⟨bl, hbl⟩ : ∃ x, x = U.heap.size := ⟨_, rfl⟩
 have hbw : w.heap.size ≤ bl := by rw [hbl]; exact hE2.size
 have h5l : b5 < bl := by rw [hbl]; exact SB.lt
 have h8l : b8 < bl := by rw [hbl]; exact B7.lt
 rw [← hbl] at hR1 ⊢
 clear hbl p0 e1
 have SB := SB.ext hx1
 have B7 := B7.ext hx1
 have p1 := (PB.ext hx1).c1
 clear hx1 hE2 PB
 go_wp2_with fail
 clear p1
 go_loopw [28] (fun i wr => ∃ k : Nat, k ≤ ny ∧ i = .int .i64 k ∧ Hid (sgB p y k = true) ∧ RowR wr bl n (LL k) ∧ RBox wr b8 (RR k) T ∧ Box wr b5 58 #[.bool false, .slice none 0 0, .bool false, .slice none 0 0] ∧ Ext w wr) (fun i _ => ny - (intOf i).toNat)
 case atStart => exact ⟨0, by omega, rfl, Lib.hid rfl, hR1.congr (fun j _ => (HL0.out j).symm), ⟨_, _, _, _, _, _, _, _, B7, by rw [HR0.out]; exact RatV.zero w1, by rw [HR0.out]; exact qkw HT1.out⟩, SB, hE3⟩
 case round =>
  clear SB B7 hR1 hE3
  obtain ⟨k, hk, rfl, HK, hL, hB8, SB, hx⟩ := hrel
  by_cases hlt : k < ny
  ·obtain ⟨br, rfl, hrow⟩ := HROW.out (by omega)
   obtain ⟨ba, rfl, hRy⟩ := hy.2.2 (by omega)
   obtain ⟨Ac, cc, bx, A, d, e, by', A', d', e', g0, g1, g2, g3, g4, g5, r1, r2, r3⟩ := hrow k hlt
   have g0 := hx.cell g0
   have g1 := hx.cell g1
   have g2 := hx.cell g2
   have g3 := hx.cell g3
   have g4 := hx.cell g4
   have g5 := hx.cell g5
   have r3 := r3.ext hx
   have hcc := r1.1
   obtain ⟨hl, hr1, hr3⟩ := HVR.out k hlt
   rw [hl] at r1 g0
   obtain ⟨rel, hrl⟩ : ∃ r, r = p.rel k := ⟨_, rfl⟩
   rw [← hrl] at g1 r2 hr1 hr3
   have HRL := Lib.hid hrl
   obtain ⟨Y, hY⟩ : ∃ Y, Y = y k := ⟨_, rfl⟩
   have HYY := Lib.hid hY
   have HYB : Hid (QB Ky Y) := Lib.hid (by rw [hY]; exact HY.out k hlt)
   have HS1 : Hid (sg1 p y k = decide ((rel = 1 → 0 ≤ Y) ∧ (rel = 3 → Y ≤ 0))) := Lib.hid (by rw [hrl, hY]; rfl)
   have HSN : Hid (sg1 p y k = false → F = false) := Lib.hid (fun h => by rw [HF2.out]; exact sgB_no h hlt)
   have HSK : Hid (sg1 p y k = true → sgB p y (k + 1) = true) := Lib.hid (fun h => by show (sgB p y k && sg1 p y k) = true; rw [HK.out, h]; rfl)
   clear hl hrl hY hrow HK
   go_upto_region 8 with fail
   obtain ⟨rb, hrb⟩ : ∃ z, z = wr.heap.size := ⟨_, rfl⟩
   have BB := Box.new wr 75 #[.slice Ac n cc, .int .u8 (rel : Int), .bool bx, .slice A d e, .bool by', .slice A' d' e']
   have hEx : Ext wr (wr.alloc (.cells #[.slice Ac n cc, .int .u8 (rel : Int), .bool bx, .slice A d e, .bool by', .slice A' d' e'] 75)) := (Ext.refl wr).alloc _
   generalize (wr.alloc (.cells #[.slice Ac n cc, .int .u8 (rel : Int), .bool bx, .slice A d e, .bool by', .slice A' d' e'] 75)) = X at *
   rw [← hrb] at BB ⊢
   have hrw : w.heap.size ≤ rb := by rw [hrb]; exact hx.size
   have hlr : bl < rb := by rw [hrb]; exact hL.lt
   have h8r : b8 < rb := by omega
   have hyl : ba < w.heap.size := hRy.lt
   clear hrb g0 g1 g2 g3 g4 g5
   have hL := hL.ext hEx
   have hB8 := hB8.ext hEx
   have SB := SB.ext hEx
   have hx := hx.trans hEx
   have r3 := r3.ext hEx
   clear hEx
   obtain ⟨p1, A1, m1, c1, p1', A1', m1', c1', e0, e1, e2, e3, hry⟩ := (hRy.ext hx).at (j := k) hlt
   rw [← HYY.out] at hry
   have hi1 : (0 : Int) ≤ (k : Int) := by omega
   have hi2 : (k : Int) < (ny : Int) := by omega
   go_wp2_with fail
   refine (qpl _ Y Ky _ ⟨hry, HYB.out⟩).mono ?_
   rintro e w3 ⟨rfl, hx3⟩
   have hL := hL.ext hx3
   have hB8 := hB8.ext hx3
   have SB := SB.ext hx3
   have hx := hx.trans hx3
   have r3 := r3.ext hx3
   have BB := BB.ext hx3
   clear hx3 e0 e1 e2 e3 hry
   have j1 := BB.c1
   obtain ⟨g, hg⟩ : ∃ g, g = Y.num.sign := ⟨_, rfl⟩
   have HG0 : Hid (g = 0 ↔ Y = 0) := Lib.hid (by
    rw [hg]
    rcases q83 Y.num with ⟨a, b⟩ | ⟨a, b⟩ | ⟨a, b⟩ <;> rw [b]
    ·have := num_neg.2 a; constructor <;> intro h <;> first | omega | (rw [h] at a; exact absurd a (by decide))
    ·have := Rat.num_eq_zero.1 a; exact ⟨fun _ => this, fun _ => rfl⟩
    ·have := num_pos.2 a; constructor <;> intro h <;> first | omega | (rw [h] at a; exact absurd a (by decide)))
   have hev : (rel = 1 → decide (g < 0) = !sg1 p y k) ∧ (rel = 3 → decide (0 < g) = !sg1 p y k) ∧ (rel = 2 → sg1 p y k = true) := by
    rw [HS1.out, hg]
    refine ⟨fun h => ?_, fun h => ?_, fun h => ?_⟩
    ·subst h
     rcases q83 Y.num with ⟨a, b⟩ | ⟨a, b⟩ | ⟨a, b⟩ <;> rw [b]
     ·have := num_neg.2 a; simp; grind
     ·have := Rat.num_eq_zero.1 a; simp; grind
     ·have := num_pos.2 a; simp; grind
    ·subst h
     rcases q83 Y.num with ⟨a, b⟩ | ⟨a, b⟩ | ⟨a, b⟩ <;> rw [b]
     ·have := num_neg.2 a; simp; grind
     ·have := Rat.num_eq_zero.1 a; simp; grind
     ·have := num_pos.2 a; simp; grind
    ·subst h; simp
   rw [← hg]
   have HEV := Lib.hid hev
   obtain ⟨S, hS⟩ : ∃ S, S = sg1 p y k := ⟨_, rfl⟩
   clear hg hev
   go_upto_region 9 with fail
   go_cut [53] (fun v wx => v = .bool (!S) ∧ wx = w3)
   case first =>
    have hev := HEV.out
    rw [← hS] at hev
    clear hS
    rcases (show rel = 1 ∨ rel = 2 ∨ rel = 3 by omega) with rfl | rfl | rfl
    ·have e1 := hev.1 rfl
     clear hev
     cases S
     all_goals (go_wp2_with fail; go_meet; exact ⟨rfl, rfl⟩)
    ·have e1 := hev.2.2 rfl
     subst e1
     clear hev
     go_wp2_with fail
     go_meet
     exact ⟨rfl, rfl⟩
    ·have e1 := hev.2.1 rfl
     clear hev
     cases S
     all_goals (go_wp2_with fail; go_meet; exact ⟨rfl, rfl⟩)
   case rest =>
    rename_i hK
    obtain ⟨rfl, hwx⟩ := hcut
    refine hK _ _ ?_
    clear hK HS1 HEV j1
    subst hwx
    cases S with
    | false =>
      have HE : Hid (F = false) := Lib.hid (HSN.out hS.symm)
      clear hS
      have z0 := SB.c0
      have z1 := SB.c1
      have z2 := SB.c2
      have z3 := SB.c3
      have f0 := SB.frozen 0
      have f1 := SB.frozen 1
      have f2 := SB.frozen 2
      have f3 := SB.frozen 3
      have hb4 := SB.set4 (.bool false) (.slice none 0 0) (.bool false) (.slice none 0 0)
      have pc0 := hb4.c0
      have pc1 := hb4.c1
      have pc2 := hb4.c2
      have pc3 := hb4.c3
      go_wp2_with fail
      refine bodyPost_ret (v := .tuple #[.slice none 0 0, .agg #[.bool false, .slice none 0 0, .bool false, .slice none 0 0], .bool false]) (by simp [results, Tryz.results81, go_sem, pc0, pc1, pc2, pc3]) rfl ?_
      rw [HP.out]
      exact ⟨.inl ⟨HE.out, rfl⟩, ext4 hw5 hx (.bool false) (.slice none 0 0) (.bool false) (.slice none 0 0)⟩
    | true =>
      have HK2 : Hid (sgB p y (k + 1) = true) := Lib.hid (HSK.out hS.symm)
      clear HSN HSK hS
      by_cases hY0 : Y = 0
      ·have eg : (g == 0) = true := by simpa using HG0.out.2 hY0
       have HN : Hid (∀ j, LL k j = LL (k + 1) j) := Lib.hid (fun j => by rw [HLS.out, ← HYY.out, hY0]; grind)
       have hRN : RBox wc b8 (RR (k + 1)) T := by
        have : RR (k + 1) = RR k := by rw [HRS.out, ← HYY.out, hY0]; grind
        rw [this]; exact hB8
       clear hY0
       go_wp2_with fail
       go_roundw
       case rel => exact ⟨k + 1, by omega, by go_num, HK2, hL.congr (fun j _ => HN.out j), hRN, SB, hx⟩
       case measure => simp [intOf]; omega
      ·have eg : (g == 0) = false := by
        have := HG0.out
        simpa using fun h => hY0 (this.1 h)
       have c0 := BB.c0
       clear hY0
       go_wp2_with fail
       clear c0 eg
       go_loopw [60] (fun i wr => ∃ j : Nat, j ≤ n ∧ i = .int .i64 j ∧ RowR wr bl n (fun i => if i < j then LL (k + 1) i else LL k i) ∧ RBox wr b8 (RR k) T ∧ Box wr b5 58 #[.bool false, .slice none 0 0, .bool false, .slice none 0 0] ∧ Box wr rb 75 #[.slice Ac n cc, .int .u8 (rel : Int), .bool bx, .slice A d e, .bool by', .slice A' d' e'] ∧ RatV wr (.agg #[.bool bx, .slice A d e, .bool by', .slice A' d' e']) (p.right k) ∧ Ext w wr) (fun i _ => n - (intOf i).toNat)
       case atStart => exact ⟨0, by omega, rfl, hL.congr (fun j _ => by rw [if_neg (by omega)]), hB8, SB, BB, r3, hx⟩
       case round =>
        clear hL hB8 SB BB r3 hx
        obtain ⟨j, hj, rfl, hL, hB8, SB, BB, r3, hx⟩ := hrel
        by_cases hlt2 : j < n
        ·obtain ⟨bc, rfl, hRc⟩ := r1.2.2 (by omega)
         have hcl : bc < w.heap.size := hRc.lt
         obtain ⟨p2, A2, m2, c2, p2', A2', m2', c2', e0, e1, e2, e3, hrc⟩ := (hRc.ext hx).at hlt2
         have i1 : (0 : Int) ≤ (j : Int) := by omega
         have i2 : (j : Int) < (n : Int) := by omega
         go_upto_region 15 with fail
         obtain ⟨cb, hcb⟩ : ∃ z, z = wr.heap.size := ⟨_, rfl⟩
         have CB := Box.new wr 58 #[.bool p2, .slice A2 m2 c2, .bool p2', .slice A2' m2' c2']
         have hEx : Ext wr (wr.alloc (.cells #[.bool p2, .slice A2 m2 c2, .bool p2', .slice A2' m2' c2'] 58)) := (Ext.refl wr).alloc _
         generalize (wr.alloc (.cells #[.bool p2, .slice A2 m2 c2, .bool p2', .slice A2' m2' c2'] 58)) = X2 at *
         rw [← hcb] at CB ⊢
         have hlc : bl < cb := by rw [hcb]; exact hL.lt
         have hL := hL.ext hEx
         have hB8 := hB8.ext hEx
         have SB := SB.ext hEx
         have BB := BB.ext hEx
         have hx := hx.trans hEx
         have r3 := r3.ext hEx
         have hrc := hrc.ext hEx
         clear hcb hEx e0 e1 e2 e3
         have CBQ : RatB X2 (.agg #[.bool p2, .slice A2 m2 c2, .bool p2', .slice A2' m2' c2']) (p.coef k j) Kc := ⟨hrc, HC.out k hlt j hlt2⟩
         have d0 := CB.c0
         have d1 := CB.c1
         have d2 := CB.c2
         have d3 := CB.c3
         go_wp2_with fail
         refine (qpl _ (p.coef k j) Kc _ CBQ).mono ?_
         rintro e w4 ⟨rfl, hx4⟩
         have hL := hL.ext hx4
         have hB8 := hB8.ext hx4
         have SB := SB.ext hx4
         have BB := BB.ext hx4
         have CB := CB.ext hx4
         have hx := hx.trans hx4
         have r3 := r3.ext hx4
         have CBQ := CBQ.ext hx4
         clear hx4 d0 d1 d2 d3 hrc
         by_cases hc0 : p.coef k j = 0
         ·have eg : ((p.coef k j).num.sign != 0) = false := by rw [hc0]; rfl
          have hLN : RowR w4 bl n (fun i => if i < j + 1 then LL (k + 1) i else LL k i) := hL.congr (fun i _ => by
           by_cases h1 : i = j
           ·subst h1; rw [if_neg (by omega), if_pos (by omega), HLS.out, hc0]; grind
           ·by_cases h2 : i < j
            ·rw [if_pos h2, if_pos (by omega)]
            ·rw [if_neg h2, if_neg (by omega)])
          clear hc0
          go_wp2_with fail
          go_roundw
          case rel => first | exact ⟨j + 1, by omega, by go_num, hLN, hB8, SB, BB, r3, hx⟩ | ((repeat (apply Exists.intro (α := Value))); exact ⟨⟨j + 1, by omega, by go_num, hLN, hB8, SB, BB, r3, hx⟩, rfl⟩)
          case measure => simp [intOf]; omega
         ·have eg : ((p.coef k j).num.sign != 0) = true := by
           rcases q83 (p.coef k j).num with ⟨a, b⟩ | ⟨a, b⟩ | ⟨a, b⟩ <;> rw [b]
           ·rfl
           ·exact absurd (Rat.num_eq_zero.1 a) hc0
           ·rfl
          clear hc0
          obtain ⟨p1, A1, m1, c1, p1', A1', m1', c1', g0, g1, g2, g3, hry⟩ := (hRy.ext hx).at (j := k) hlt
          rw [← HYY.out] at hry
          obtain ⟨p3, A3, m3, c3, p3', A3', m3', c3', a0, a1, a2, a3, hrl⟩ := hL.at hlt2
          rw [if_neg (by omega)] at hrl
          go_upto_region 16 with fail
          have hYB : RatB w4 _ Y Ky := ⟨hry, HYB.out⟩
          have hCB := CBQ
          have hLB : RatB w4 _ (LL k j) T := ⟨hrl, HNL.out k (by omega) (by first | rfl | trivial) j hlt2⟩
          have nb1 : ¬ cb = bl := by omega
          have nb2 : ¬ ba = bl := by omega
          have nb3 : ¬ rb = bl := by omega
          have d0 := CB.c0
          have d1 := CB.c1
          have d2 := CB.c2
          have d3 := CB.c3
          have kc0 : ∀ w', Fr (fun k => k = bl) w4 w' → w'.cell? ⟨cb, 0, none⟩ = some _ := fun w' h => h.cell nb1 d0
          have kc1 : ∀ w', Fr (fun k => k = bl) w4 w' → w'.cell? ⟨cb, 1, none⟩ = some _ := fun w' h => h.cell nb1 d1
          have kc2 : ∀ w', Fr (fun k => k = bl) w4 w' → w'.cell? ⟨cb, 2, none⟩ = some _ := fun w' h => h.cell nb1 d2
          have kc3 : ∀ w', Fr (fun k => k = bl) w4 w' → w'.cell? ⟨cb, 3, none⟩ = some _ := fun w' h => h.cell nb1 d3
          have ky0 : ∀ w', Fr (fun k => k = bl) w4 w' → w'.cell? ⟨ba, k * 4, none⟩ = some _ := fun w' h => h.cell nb2 g0
          have ky1 : ∀ w', Fr (fun k => k = bl) w4 w' → w'.cell? ⟨ba, k * 4 + 1, none⟩ = some _ := fun w' h => h.cell nb2 g1
          have ky2 : ∀ w', Fr (fun k => k = bl) w4 w' → w'.cell? ⟨ba, k * 4 + 2, none⟩ = some _ := fun w' h => h.cell nb2 g2
          have ky3 : ∀ w', Fr (fun k => k = bl) w4 w' → w'.cell? ⟨ba, k * 4 + 3, none⟩ = some _ := fun w' h => h.cell nb2 g3
          have ks := Fr.refl (fun k => k = bl) w4
          clear d0 d1 d2 d3 g0 g1 g2 g3 hry hrl eg CBQ
          refine wp_region_held_drew (S := fun w' => Fr (fun k => k = bl) w4 w') (by kernel_rfl) ?_ (fun hHeld => ?_)
          ·(try dsimp only); exact kFx
          repeat' (first
           | simp only [Act.put, sqa, sqb, sqc]
           | (
            first
             | refine tky (i := 0) (oi := { dst := some 68, op := Op.move (Operand.tmp 8), type := 38, pos := "certificate.go:37", after := #[], guard := none }) (v := ?_) rfl ?_ (by assumption) ?_
             | refine tky (i := 1) (oi := { dst := some 69, op := Op.move (Operand.tmp 12), type := 3, pos := "certificate.go:37", after := #[], guard := none }) (v := ?_) rfl ?_ (by assumption) ?_
             | refine tky (i := 2) (oi := { dst := some 70, op := Op.move (Operand.tmp 8), type := 38, pos := "certificate.go:37", after := #[], guard := none }) (v := ?_) rfl ?_ (by assumption) ?_
             | refine tky (i := 3) (oi := { dst := some 71, op := Op.move (Operand.tmp 12), type := 3, pos := "certificate.go:37", after := #[], guard := none }) (v := ?_) rfl ?_ (by assumption) ?_
             | refine tky (i := 4) (oi := { dst := some 72, op := Op.indexAddr 38 (Operand.tmp 70) (Operand.tmp 71), type := 0, pos := "certificate.go:37", after := #[{ on := 2, ground := Ground.data }, { on := 3, ground := Ground.data }], guard := none }) (v := ?_) rfl ?_ (by assumption) ?_
             | refine tky (i := 6) (oi := { dst := some 74, op := Op.move (Operand.tmp 1), type := 38, pos := "certificate.go:37", after := #[], guard := none }) (v := ?_) rfl ?_ (by assumption) ?_
             | refine tky (i := 7) (oi := { dst := some 75, op := Op.move (Operand.tmp 9), type := 3, pos := "certificate.go:37", after := #[], guard := none }) (v := ?_) rfl ?_ (by assumption) ?_
             | refine tky (i := 8) (oi := { dst := some 76, op := Op.indexAddr 38 (Operand.tmp 74) (Operand.tmp 75), type := 0, pos := "certificate.go:37", after := #[{ on := 6, ground := Ground.data }, { on := 7, ground := Ground.data }], guard := none }) (v := ?_) rfl ?_ (by assumption) ?_
             | refine tky (i := 9) (oi := { dst := some 77, op := Op.load 58 (Operand.tmp 76), type := 58, pos := "certificate.go:37", after := #[{ on := 8, ground := Ground.data }], guard := none }) (v := ?_) rfl ?_ (by assumption) ?_
             | refine tky (i := 10) (oi := { dst := some 78, op := Op.load 58 (Operand.tmp 13), type := 58, pos := "certificate.go:37", after := #[], guard := none }) (v := ?_) rfl ?_ (by assumption) ?_
             | refine tky (i := 13) (oi := { dst := some 81, op := Op.indexAddr 38 (Operand.tmp 68) (Operand.tmp 69), type := 0, pos := "certificate.go:37", after := #[{ on := 0, ground := Ground.data }, { on := 1, ground := Ground.data }, { on := 0, ground := Ground.phase }, { on := 1, ground := Ground.phase }, { on := 2, ground := Ground.phase }, { on := 3, ground := Ground.phase }, { on := 4, ground := Ground.phase }, { on := 5, ground := Ground.phase }, { on := 6, ground := Ground.phase }, { on := 7, ground := Ground.phase }, { on := 8, ground := Ground.phase }, { on := 9, ground := Ground.phase }, { on := 10, ground := Ground.phase }, { on := 11, ground := Ground.phase }, { on := 12, ground := Ground.phase }], guard := none }) (v := ?_) rfl ?_ (by assumption) ?_
            rotate_left
            ·intro w hSw; (try dsimp only at hSw); go_simp; try (with_reducible rfl))
           | refine wpAnyH_ready (rs := [5, 11]) (by decide +kernel) (by simp) ?_
           | refine wpAnyH_ready (rs := [11]) (by decide +kernel) (by simp) ?_
           | refine wpAnyH_ready (rs := [12]) (by decide +kernel) (by simp) ?_
           | refine wpAnyH_ready (rs := [14]) (by decide +kernel) (by simp) ?_
           | refine wpAnyH_ready (rs := [5]) (by decide +kernel) (by simp) ?_
           | (
            refine AllReadyH.cons (o := { dst := some 73, op := Op.load 58 (Operand.tmp 72), type := 58, pos := "certificate.go:37", after := #[{ on := 4, ground := Ground.data }], guard := none }) rfl (fun K hK => ?_) ?_
            go_simp
            try (go_wp2_with fail)
            refine hK.out _ _ ?_ (fun hHeld => ?_)
            ·(try dsimp only); exact kFx
            clear hK K)
           | (
            refine AllReadyH.cons (o := { dst := some 79, op := Op.call { callee := Callee.value (Operand.func 87), args := #[Operand.tmp 77, Operand.tmp 78], argTypes := #[58, 58] }, type := 58, pos := "certificate.go:37", after := #[{ on := 9, ground := Ground.data }, { on := 10, ground := Ground.data }], guard := none }) rfl (fun K hK => ?_) ?_
            go_simp
            first
             | (go_at_call 87; (with_reducible refine (qmy _ _ _ _ _ _ _ (RatB.ext hYB eAx) (RatB.ext hCB eAx) (by omega)).mono ?_); rintro e wk ⟨vk, rfl, hbk, hxk⟩; (obtain ⟨pk, Ak, nk, ck, pk', Ak', nk', ck', rfl⟩ := hbk.1.shape); (have hkL : Ext w4 wk := Ext.trans eBx hxk); (have a0 := hkL.cell a0); (have a1 := hkL.cell a1); (have a2 := hkL.cell a2); (have a3 := hkL.cell a3))
            try (go_wp2_with fail)
            refine hK.out _ _ ?_ (fun hHeld => ?_)
            ·(try dsimp only); exact kFx
            clear hK K)
           | (
            refine AllReadyH.cons (o := { dst := some 80, op := Op.call { callee := Callee.value (Operand.func 47), args := #[Operand.tmp 73, Operand.tmp 79], argTypes := #[58, 58] }, type := 58, pos := "certificate.go:37", after := #[{ on := 5, ground := Ground.data }, { on := 11, ground := Ground.data }, { on := 11, ground := Ground.chain }], guard := none }) rfl (fun K hK => ?_) ?_
            go_simp
            first
             | (go_at_call 47; (with_reducible refine (qcs _ _ _ _ _ _ _ (RatB.ext hLB eAx) (RatB.ext hbk eAx) (by omega)).mono ?_); rintro e wl ⟨vl, rfl, hbl', hxl⟩; (obtain ⟨pl, Al, nl, cl, pl', Al', nl', cl', rfl⟩ := hbl'.1.shape); (have hlL : Ext w4 wl := Ext.trans eAx hxl); (have hRl := hL.ext hlL); (have f0 := hRl.frozen (j * 4)); (have f1 := hRl.frozen (j * 4 + 1)); (have f2 := hRl.frozen (j * 4 + 2)); (have f3 := hRl.frozen (j * 4 + 3)); (obtain ⟨_, _, _, _, _, _, _, _, q0, q1, q2, q3, _⟩ := hRl.at hlt2); (obtain ⟨s1, s2⟩ := hRl.set hlt2 hbl'.1); (have hS7 := (Fr.of (P := fun k => k = bl) hlL).trans s2))
            try (go_wp2_with fail)
            refine hK.out _ _ ?_ (fun hHeld => ?_)
            ·(try dsimp only); exact kFx
            clear hK K)
           | (
            refine AllReadyH.cons (o := { dst := none, op := Op.store 58 (Operand.tmp 81) (Operand.tmp 80), type := 0, pos := "certificate.go:37", after := #[{ on := 13, ground := Ground.data }, { on := 12, ground := Ground.data }, { on := 12, ground := Ground.chain }, { on := 0, ground := Ground.phase }, { on := 1, ground := Ground.phase }, { on := 2, ground := Ground.phase }, { on := 3, ground := Ground.phase }, { on := 4, ground := Ground.phase }, { on := 5, ground := Ground.phase }, { on := 6, ground := Ground.phase }, { on := 7, ground := Ground.phase }, { on := 8, ground := Ground.phase }, { on := 9, ground := Ground.phase }, { on := 10, ground := Ground.phase }, { on := 11, ground := Ground.phase }, { on := 12, ground := Ground.phase }], guard := none }) rfl (fun K hK => ?_) ?_
            go_simp
            try (go_wp2_with fail)
            refine hK.out _ _ ?_ (fun hHeld => ?_)
            ·(try dsimp only); exact kFx
            clear hK K)
           | exact AllReadyH.nil
           | (
            refine wpAnyH_done (by decide +kernel) ?_ _
            have hLN : RowR _ bl n (fun i => if i < j + 1 then LL (k + 1) i else LL k i) := s1.congr (fun i _ => by
             by_cases h1 : i = j
             ·subst h1; rw [if_pos rfl, if_pos (by omega), HLS.out, HYY.out]
             ·rw [if_neg h1]
              by_cases h2 : i < j
              ·rw [if_pos h2, if_pos (by omega)]
              ·rw [if_neg h2, if_neg (by omega)])
            have hXF : Ext w ((((wl.setCell ⟨bl, j * 4, none⟩ (.bool pl)).setCell ⟨bl, j * 4 + 1, none⟩ (.slice Al nl cl)).setCell ⟨bl, j * 4 + 2, none⟩ (.bool pl')).setCell ⟨bl, j * 4 + 3, none⟩ (.slice Al' nl' cl')) := ((((hx.trans hlL).set (p := ⟨bl, j * 4, none⟩) hbw (.bool pl)).set (p := ⟨bl, j * 4 + 1, none⟩) hbw (.slice Al nl cl)).set (p := ⟨bl, j * 4 + 2, none⟩) hbw (.bool pl')).set (p := ⟨bl, j * 4 + 3, none⟩) hbw (.slice Al' nl' cl')
            have h8N := hB8.fr hS7 (show ¬ b8 = bl by omega)
            have SBN := hS7.box SB (show ¬ b5 = bl by omega)
            have BBN := hS7.box BB nb3
            have r3N := hS7.rat r3
            go_wp2_with fail
            go_roundw
            case rel => first | exact ⟨j + 1, by omega, by go_num, hLN, h8N, SBN, BBN, r3N, hXF⟩ | ((repeat (apply Exists.intro (α := Value))); exact ⟨⟨j + 1, by omega, by go_num, hLN, h8N, SBN, BBN, r3N, hXF⟩, rfl⟩)
            case measure => simp [intOf]; omega)
           )
        ·obtain rfl : j = n := by omega
         obtain ⟨p1, A1, m1, c1, p1', A1', m1', c1', g0, g1, g2, g3, hry⟩ := (hRy.ext hx).at (j := k) hlt
         rw [← HYY.out] at hry
         obtain ⟨y0, y1, YA, YA', yd, ye, yd', ye', BY, hQB⟩ := hB8
         go_upto_region 18 with fail
         have hYB : RatB wr _ Y Ky := ⟨hry, HYB.out⟩
         have hCB : RatB wr _ (p.right k) Kr := ⟨r3, HR.out k hlt⟩
         have a0 := BY.c0
         have a1 := BY.c1
         have a2 := BY.c2
         have a3 := BY.c3
         have nb2 : ¬ ba = b8 := by omega
         have nb3 : ¬ rb = b8 := by omega
         have b4 : wr.cell? ⟨rb, 4, none⟩ = some (.bool by') := BB.cell 4
         have b5' : wr.cell? ⟨rb, 5, none⟩ = some (.slice A' d' e') := BB.cell 5
         have b2 : wr.cell? ⟨rb, 2, none⟩ = some (.bool bx) := BB.cell 2
         have b3 : wr.cell? ⟨rb, 3, none⟩ = some (.slice A d e) := BB.cell 3
         have ky0 : ∀ w', Fr (fun k => k = b8) wr w' → w'.cell? ⟨ba, k * 4, none⟩ = some _ := fun w' h => h.cell nb2 g0
         have ky1 : ∀ w', Fr (fun k => k = b8) wr w' → w'.cell? ⟨ba, k * 4 + 1, none⟩ = some _ := fun w' h => h.cell nb2 g1
         have ky2 : ∀ w', Fr (fun k => k = b8) wr w' → w'.cell? ⟨ba, k * 4 + 2, none⟩ = some _ := fun w' h => h.cell nb2 g2
         have ky3 : ∀ w', Fr (fun k => k = b8) wr w' → w'.cell? ⟨ba, k * 4 + 3, none⟩ = some _ := fun w' h => h.cell nb2 g3
         have kb2 : ∀ w', Fr (fun k => k = b8) wr w' → w'.cell? ⟨rb, 2, none⟩ = some _ := fun w' h => h.cell nb3 b2
         have kb3 : ∀ w', Fr (fun k => k = b8) wr w' → w'.cell? ⟨rb, 3, none⟩ = some _ := fun w' h => h.cell nb3 b3
         have kb4 : ∀ w', Fr (fun k => k = b8) wr w' → w'.cell? ⟨rb, 4, none⟩ = some _ := fun w' h => h.cell nb3 b4
         have kb5 : ∀ w', Fr (fun k => k = b8) wr w' → w'.cell? ⟨rb, 5, none⟩ = some _ := fun w' h => h.cell nb3 b5'
         have ks := Fr.refl (fun k => k = b8) wr
         clear g0 g1 g2 g3 hry b2 b3 b4 b5'
         refine wp_region_held_drew (S := fun w' => Fr (fun k => k = b8) wr w') (by kernel_rfl) ?_ (fun hHeld => ?_)
         ·(try dsimp only); exact kFx
         repeat' (first
          | simp only [Act.put, sqa, sqb, sqc]
          | (
           first
            | refine tky (i := 1) (oi := { dst := some 84, op := Op.move (Operand.tmp 1), type := 38, pos := "certificate.go:40", after := #[], guard := none }) (v := ?_) rfl ?_ (by assumption) ?_
            | refine tky (i := 2) (oi := { dst := some 85, op := Op.move (Operand.tmp 9), type := 3, pos := "certificate.go:40", after := #[], guard := none }) (v := ?_) rfl ?_ (by assumption) ?_
            | refine tky (i := 3) (oi := { dst := some 86, op := Op.indexAddr 38 (Operand.tmp 84) (Operand.tmp 85), type := 0, pos := "certificate.go:40", after := #[{ on := 1, ground := Ground.data }, { on := 2, ground := Ground.data }], guard := none }) (v := ?_) rfl ?_ (by assumption) ?_
            | refine tky (i := 4) (oi := { dst := some 87, op := Op.load 58 (Operand.tmp 86), type := 58, pos := "certificate.go:40", after := #[{ on := 3, ground := Ground.data }], guard := none }) (v := ?_) rfl ?_ (by assumption) ?_
            | refine tky (i := 5) (oi := { dst := some 88, op := Op.fieldAddr 75 (Operand.tmp 10) 2, type := 0, pos := "certificate.go:40", after := #[], guard := none }) (v := ?_) rfl ?_ (by assumption) ?_
            | refine tky (i := 6) (oi := { dst := some 89, op := Op.load 58 (Operand.tmp 88), type := 58, pos := "certificate.go:40", after := #[{ on := 5, ground := Ground.data }], guard := none }) (v := ?_) rfl ?_ (by assumption) ?_
           rotate_left
           ·intro w hSw; (try dsimp only at hSw); go_simp; try (with_reducible rfl))
          | refine wpAnyH_ready (rs := [0, 7]) (by decide +kernel) (by simp) ?_
          | refine wpAnyH_ready (rs := [7]) (by decide +kernel) (by simp) ?_
          | refine wpAnyH_ready (rs := [8]) (by decide +kernel) (by simp) ?_
          | refine wpAnyH_ready (rs := [9]) (by decide +kernel) (by simp) ?_
          | refine wpAnyH_ready (rs := [0]) (by decide +kernel) (by simp) ?_
          | (
           refine AllReadyH.cons (o := { dst := some 83, op := Op.load 58 (Operand.tmp 7), type := 58, pos := "certificate.go:40", after := #[], guard := none }) rfl (fun K hK => ?_) ?_
           go_simp
           try (go_wp2_with fail)
           refine hK.out _ _ ?_ (fun hHeld => ?_)
           ·(try dsimp only); exact kFx
           clear hK K)
          | (
           refine AllReadyH.cons (o := { dst := some 90, op := Op.call { callee := Callee.value (Operand.func 87), args := #[Operand.tmp 87, Operand.tmp 89], argTypes := #[58, 58] }, type := 58, pos := "certificate.go:40", after := #[{ on := 4, ground := Ground.data }, { on := 6, ground := Ground.data }], guard := none }) rfl (fun K hK => ?_) ?_
           go_simp
           first
            | (go_at_call 87; (with_reducible refine (qmy _ _ _ _ _ _ _ (RatB.ext hYB eAx) (RatB.ext hCB eAx) (by omega)).mono ?_); rintro e wk ⟨vk, rfl, hbk, hxk⟩; (obtain ⟨pk, Ak, nk, ck, pk', Ak', nk', ck', rfl⟩ := hbk.1.shape); (have hkL : Ext wr wk := Ext.trans eBx hxk); (have a0 := hkL.cell a0); (have a1 := hkL.cell a1); (have a2 := hkL.cell a2); (have a3 := hkL.cell a3))
           try (go_wp2_with fail)
           refine hK.out _ _ ?_ (fun hHeld => ?_)
           ·(try dsimp only); exact kFx
           clear hK K)
          | (
           refine AllReadyH.cons (o := { dst := some 91, op := Op.call { callee := Callee.value (Operand.func 47), args := #[Operand.tmp 83, Operand.tmp 90], argTypes := #[58, 58] }, type := 58, pos := "certificate.go:40", after := #[{ on := 0, ground := Ground.data }, { on := 7, ground := Ground.data }, { on := 7, ground := Ground.chain }], guard := none }) rfl (fun K hK => ?_) ?_
           go_simp
           first
            | (go_at_call 47; (with_reducible refine (qcs _ _ _ _ _ _ _ (RatB.ext hQB eAx) (RatB.ext hbk eAx) (by omega)).mono ?_); rintro e wl ⟨vl, rfl, hbl', hxl⟩; (obtain ⟨pl, Al, nl, cl, pl', Al', nl', cl', rfl⟩ := hbl'.1.shape); (have hlL : Ext wr wl := Ext.trans eAx hxl); (have BYl := BY.ext hlL); (have f0 := BYl.frozen 0); (have f1 := BYl.frozen 1); (have f2 := BYl.frozen 2); (have f3 := BYl.frozen 3); (have q0 := BYl.c0); (have q1 := BYl.c1); (have q2 := BYl.c2); (have q3 := BYl.c3); (have hS7 := (Fr.of (P := fun k => k = b8) hlL).trans (fr4 BYl (.bool pl) (.slice Al nl cl) (.bool pl') (.slice Al' nl' cl'))))
           try (go_wp2_with fail)
           refine hK.out _ _ ?_ (fun hHeld => ?_)
           ·(try dsimp only); exact kFx
           clear hK K)
          | (
           refine AllReadyH.cons (o := { dst := none, op := Op.store 58 (Operand.tmp 7) (Operand.tmp 91), type := 0, pos := "certificate.go:40", after := #[{ on := 8, ground := Ground.data }, { on := 8, ground := Ground.chain }, { on := 0, ground := Ground.phase }, { on := 1, ground := Ground.phase }, { on := 2, ground := Ground.phase }, { on := 3, ground := Ground.phase }, { on := 4, ground := Ground.phase }, { on := 5, ground := Ground.phase }, { on := 6, ground := Ground.phase }, { on := 7, ground := Ground.phase }, { on := 8, ground := Ground.phase }], guard := none }) rfl (fun K hK => ?_) ?_
           go_simp
           try (go_wp2_with fail)
           refine hK.out _ _ ?_ (fun hHeld => ?_)
           ·(try dsimp only); exact kFx
           clear hK K)
          | exact AllReadyH.nil
          | (
           refine wpAnyH_done (by decide +kernel) ?_ _
           have hQ4 := (RatV.put hbl'.1 BYl).1
           have hB4 := (RatV.put hbl'.1 BYl).2
           have hXF := ext4 hw8 (hx.trans hlL) (.bool pl) (.slice Al nl cl) (.bool pl') (.slice Al' nl' cl')
           have hLN := (hL.fr hS7 (show ¬ bl = b8 by omega)).congr (g := LL (k + 1)) (fun i hi => if_pos hi)
           have SBN := hS7.box SB (show ¬ b5 = b8 by omega)
           have hqn := HNR.out (k + 1) (by omega) (by first | rfl | trivial)
           have hrs := HRS.out k
           rw [← HYY.out] at hrs
           rw [← hrs] at hQ4
           have hRN : RBox _ b8 (RR (k + 1)) T := ⟨_, _, _, _, _, _, _, _, hB4, hQ4, hqn⟩
           go_wp2_with fail
           go_roundw
           case rel => first | exact ⟨k + 1, by omega, by go_num, HK2, hLN, hRN, SBN, hXF⟩ | ((repeat (apply Exists.intro (α := Value))); exact ⟨⟨k + 1, by omega, by go_num, HK2, hLN, hRN, SBN, hXF⟩, rfl⟩)
           case measure => simp [intOf]; omega)
          )
  ·obtain rfl : k = ny := by omega
   have HE : Hid (F = true) := Lib.hid (by rw [HF2.out, HK.out])
   obtain ⟨y0, y1, YA, YA', yd, ye, yd', ye', BY, hYB⟩ := hB8
   go_upto_region 20 with fail
   have x0 := BY.c0
   have x1 := BY.c1
   have x2 := BY.c2
   have x3 := BY.c3
   have z0 := SB.c0
   have z1 := SB.c1
   have z2 := SB.c2
   have z3 := SB.c3
   have f0 := SB.frozen 0
   have f1 := SB.frozen 1
   have f2 := SB.frozen 2
   have f3 := SB.frozen 3
   have kz : ∀ r, r ∈ [b5] → w.heap.size ≤ r := fun r hr => by simp at hr; omega
   have ks := KE.start hx kz
   have n8 : b8 ∉ [b5] := by simp; omega
   have k80 : ∀ w', KE [b5] w wr w' → w'.cell? ⟨_, 0, none⟩ = some _ := fun w' h => (h.bx BY n8).c0
   have k81 : ∀ w', KE [b5] w wr w' → w'.cell? ⟨_, 1, none⟩ = some _ := fun w' h => (h.bx BY n8).c1
   have k82 : ∀ w', KE [b5] w wr w' → w'.cell? ⟨_, 2, none⟩ = some _ := fun w' h => (h.bx BY n8).c2
   have k83 : ∀ w', KE [b5] w wr w' → w'.cell? ⟨_, 3, none⟩ = some _ := fun w' h => (h.bx BY n8).c3
   go_region_held3 (fun w' => KE [b5] w wr w') ((repeat (first | assumption | apply KE.drew | apply KE.drewN | apply KE.alloc | (refine KE.set ?_ (by simp) _) | (refine KE.step ?_ (by assumption))))) (first
    | (fail "none")
    )
   all_goals (
    obtain ⟨pp, pb⟩ := RatV.put hYB.1 SB
    have hF4 := fr4 SB (.bool y0) (.slice YA yd ye) (.bool y1) (.slice YA' yd' ye')
    have hR4 := (hL.fr hF4 (show bl ≠ b5 by omega)).ext ((Ext.refl _).drew)
    have hX4 := (ext4 hw5 hx (.bool y0) (.slice YA yd ye) (.bool y1) (.slice YA' yd' ye')).drew
    have pp := pp.ext ((Ext.refl _).drew)
    have pb := pb.drew
    have pc0 := pb.c0
    have pc1 := pb.c1
    have pc2 := pb.c2
    have pc3 := pb.c3
    go_wp2_with fail
    refine bodyPost_ret (v := .tuple #[.slice (some ⟨bl, 0, none⟩) n n, .agg #[.bool y0, .slice YA yd ye, .bool y1, .slice YA' yd' ye'], .bool true]) (by simp [results, Tryz.results81, go_sem, pc0, pc1, pc2, pc3]) rfl ?_
    rw [HP.out]
    exact ⟨.inr ⟨HE.out, bl, _, _, _, _, _, _, _, _, _, _, rfl, hR4, ⟨pp, hYB.2⟩, HNL.out k (by omega) (by first | rfl | trivial), fun j _ => (HLF.out j).symm, HRH.out.symm⟩, hX4⟩)
end Go.Proofs.YtljncdcjkdgkeaaGreatDoor.Lp

/- Walk: feasible. Walk: expel. Walk: aim. Walk: multipliers. -/
import Derived.Test.YtljncdcjkdgkeaaGreatDoorYLN2
set_option linter.unusedVariables false
set_option linter.unusedSimpArgs false
namespace Go.Proofs.YtljncdcjkdgkeaaGreatDoor.Lp
open Go.RowKit Go.Proofs.YtljncdcjkdgkeaaGreatDoor.Big Go.Proofs.YtljncdcjkdgkeaaGreatDoor.Rt
def tQ (a : TA) (m : Nat) (k : Nat) : Prop := (∃ i, i < m ∧ k = a.rw i) ∨ k = a.t ∨ (0 < m ∧ k = a.bb)
theorem Tab.putC {a : TA} {m W art : Nat} {w : World} {cv : Value} {R : Nat → Nat → Rat} {b u : Nat → Nat} {fl : Nat → Bool} (h : Tab a m W art w cv R b u fl) {A : Option Addr} {n c : Nat} (hcv : cv = .slice A n c) (A' : Option Addr) (n' c' : Nat) :
 Tab a m W art (w.setCell ⟨a.t, 1, none⟩ (.slice A' n' c')) (.slice A' n' c') R b u fl ∧ Fr (fun k => k = a.t) w (w.setCell ⟨a.t, 1, none⟩ (.slice A' n' c')) := by
 have h1 : w.cell? ⟨a.t, 1, none⟩ = some cv := h.self.c1
 have k : Fr (fun k => k = a.t) w (w.setCell ⟨a.t, 1, none⟩ (.slice A' n' c')) := (Fr.refl (fun k => k = a.t) w).set (p := ⟨a.t, 1, none⟩) rfl (fun z => by rw [h1, hcv]; intro e; cases e) _
 refine ⟨⟨h.self.set 1 _, h.adr, h.cap, fun i hi => ?_, fun i hi => (h.row i hi).fr k (h.ndr i hi).1, fun i hi => ?_, fun i hi => ?_, fun i hi => ?_, fun i hi => ?_, h.inj, h.nd, h.ndr⟩, k⟩
 ·exact k.cell (fun e => (h.nd (by omega)).1 e.symm) (h.rows i hi)
 ·exact k.cell (fun e => (h.nd (by omega)).2.1 e.symm) (h.bas i hi)
 ·rw [k.frozen (fun e => (h.nd (by omega)).2.1 e.symm) (h.bas i hi)]; exact h.basF i hi
 ·exact k.cell (fun e => (h.nd (by omega)).2.2.1 e.symm) (h.unit i hi)
 ·exact k.cell (fun e => (h.nd (by omega)).2.2.2.1 e.symm) (h.flip i hi)
theorem World.lt_of_cell {w : World} {b i : Nat} {v : Value} (h : w.cell? ⟨b, i, none⟩ = some v) : b < w.heap.size := World.block_lt_of_cell? w _ h
theorem Tab.newC {a : TA} {m W art : Nat} {w w' : World} {cv : Value} {R : Nat → Nat → Rat} {b u : Nat → Nat} {fl : Nat → Bool} (h : Tab a m W art w cv R b u fl) {C : Nat → Rat} {bc : Nat} (hb : w.heap.size ≤ bc) (hr : RowR w' bc (W + 1) C) : Cst a m W w' bc C :=
 ⟨hr, fun e => by have := h.self.lt; omega, fun i hi e => by have := (h.row i hi).lt; omega, fun hm => by
  have h1 := World.lt_of_cell (h.rows 0 hm)
  have h2 := World.lt_of_cell (h.bas 0 hm)
  have h3 := World.lt_of_cell (h.unit 0 hm)
  have h4 := World.lt_of_cell (h.flip 0 hm)
  exact ⟨by omega, by omega, by omega, by omega⟩⟩
def FeaPost (a : TA) (m W art : Nat) (u : Nat → Nat) (fl : Nat → Bool) (s0 : St) (w : World) (e : Ending) (w' : World) : Prop :=
 ∃ (N : Nat) (s : St) (bc : Nat), it m W art N s0 = some s ∧ nxt m W art s = none ∧ e = .returned (.bool (s.C W == 0)) ∧ Tab a m W art w' (.slice (some ⟨bc, 0, none⟩) (W + 1) (W + 1)) s.R s.b u fl ∧ Cst a m W w' bc s.C ∧ Fr (tQ a m) w w' ∧ w.heap.size ≤ bc
def ar1 (art W : Nat) (j : Nat) : Rat := if art ≤ j ∧ j < W then 1 else 0
theorem q4a (m : Nat) (D : Nat → Rat) (R : Nat → Nat → Rat) (b : Nat → Nat) (j : Nat) : red (m + 1) D R b j = red m D R b j - D (b m) * R m j := by
 show D j - (sm m (fun k => D (b k) * R k j) + D (b m) * R m j) = D j - sm m (fun k => D (b k) * R k j) - D (b m) * R m j
 grind
theorem RatB.up {w : World} {v : Value} {q : Rat} {j k : Nat} (h : RatB w v q j) (e : j ≤ k) : RatB w v q k := ⟨h.1, qqj e h.2⟩
set_option maxHeartbeats 8000000 in
theorem qdo (a : TA) (m W art : Nat) (R : Nat → Nat → Rat) (b u : Nat → Nat) (fl : Nat → Bool) (K N : Nat) (sN : St) (w : World) (A : Option Addr) (n c : Nat) (P : St → Prop)
 (hT : Tab a m W art w (.slice A n c) R b u fl)
 (hN : it m W art N ⟨R, red m (ar1 art W) R b, b, false⟩ = some sN) (hE : nxt m W art sN = none) (h0 : P ⟨R, red m (ar1 art W) R b, b, false⟩) (hP : ∀ s s', P s → nxt m W art s = some s' → P s')
 (hB : ∀ s, P s → (∀ i, i < m → ∀ j, j ≤ W → QB K (s.R i j)) ∧ (∀ j, j ≤ W → QB K (s.C j)) ∧ ∀ i, i < m → s.b i < W)
 (hBC : ∀ i, i ≤ m → ∀ j, j ≤ W → QB K (red i (ar1 art W) R b j))
 (hK : K ≤ 134217728) (ha : art ≤ W) (hW : W < 1099511627776) (hm : m ≤ 1099511627776) :
 Calls Tryz.prog 132 #[.pointer (some ⟨a.t, 0, none⟩)] w (FeaPost a m W art u fl ⟨R, red m (ar1 art W) R b, b, false⟩ w) := by
 have HN := Lib.hid hN
 have HE := Lib.hid hE
 have HP := Lib.hid hP
 have HB := Lib.hid hB
 have HBC := Lib.hid hBC
 have H0 := Lib.hid h0
 clear hN hE hP hB hBC h0
 have q6 : w.cell? ⟨a.t, 6, none⟩ = some (.int .i64 (W : Int)) := hT.self.cell 6
 have q1 : w.cell? ⟨a.t, 1, none⟩ = some (.slice A n c) := hT.self.cell 1
 have hcap := hT.cap.1
 go_enter Tryz.func132, Tryz.ntmps132
 go_upto_region 2 with (at_make; refine qhn _ rfl _ _ rfl _ _ rfl rfl (W + 1) (by omega) (by omega) (by omega) ?_; intro w1 hR1 hx1; have z1 : w1.cell? ⟨a.t, 1, none⟩ = some (.slice A n c) := (hT.ext hx1).self.cell 1; have z2 : w1.frozen? ⟨a.t, 1, none⟩ = false := (hT.ext hx1).self.frozen 1)
 obtain ⟨hT2, hF2⟩ := (hT.ext hx1).putC rfl (some ⟨w.heap.size, 0, none⟩) (W + 1) (W + 1)
 have hbt : w.heap.size ≠ a.t := by have := hT.self.lt; omega
 have hC2 := hT.newC (Nat.le_refl _) (hR1.fr hF2 hbt)
 have hF : Fr (fun k => tP a m w.heap.size k ∨ k = a.t) w (w1.setCell ⟨a.t, 1, none⟩ (.slice (some ⟨w.heap.size, 0, none⟩) (W + 1) (W + 1))) := (Fr.of hx1).trans (hF2.weak (fun k hk => .inr hk))
 obtain ⟨bc, hbc⟩ : ∃ bc, bc = w.heap.size := ⟨_, rfl⟩
 rw [← hbc] at hT2 hC2 hF hbt hF2 hR1
 rw [← hbc]
 generalize (w1.setCell ⟨a.t, 1, none⟩ (.slice (some ⟨bc, 0, none⟩) (W + 1) (W + 1))) = V at *
 have hbl : w.heap.size ≤ bc := by omega
 clear z1 z2 q1 q6 hx1 hR1 hT hbc hF2
 have q5 : V.cell? ⟨a.t, 5, none⟩ = some (.int .i64 (art : Int)) := hT2.self.cell 5
 go_wp2_with fail
 go_loopw [3] (fun i wr => ∃ j : Nat, art ≤ j ∧ j ≤ W ∧ i = .int .i64 j ∧ Tab a m W art wr (.slice (some ⟨bc, 0, none⟩) (W + 1) (W + 1)) R b u fl ∧ Cst a m W wr bc (fun i => if art ≤ i ∧ i < j then 1 else 0) ∧ Fr (fun k => tP a m bc k ∨ k = a.t) w wr) (fun i _ => W - (intOf i).toNat)
 case atStart => exact ⟨art, by omega, ha, rfl, hT2, hC2.congr (fun i _ => by rw [if_neg (by omega)]), hF⟩
 case round =>
  clear hT2 hC2 hF q5
  obtain ⟨j, hj1, hj2, rfl, hT, hC, hF⟩ := hrel
  have q6 : wr.cell? ⟨a.t, 6, none⟩ = some (.int .i64 (W : Int)) := hT.self.cell 6
  by_cases hlt : j < W
  ·have q1 := hT.self.c1
   go_upto_region 5 with fail
   have kq : ∀ w', Later wr w' → w'.cell? ⟨a.t, 1, none⟩ = some _ := fun w' h => Later.cell h q1
   have ks := Later.refl wr
   clear q1 q6
   go_region_with (first
    | (go_at_call 20; (with_reducible refine (qfw 1 _ (by decide) (by decide)).mono ?_); rintro e wk ⟨vk, rfl, hbk, hxk⟩; (obtain ⟨pk, Ak, nk, ck, pk', Ak', nk', ck', rfl⟩ := hbk.1.shape); (have hkL : Later wr wk := Ext.trans eBx hxk); (have hRk := hC.row.ext hkL); (have f0 := hRk.frozen (j * 4)); (have f1 := hRk.frozen (j * 4 + 1)); (have f2 := hRk.frozen (j * 4 + 2)); (have f3 := hRk.frozen (j * 4 + 3)); (obtain ⟨_, _, _, _, _, _, _, _, b0, b1, b2, b3, _⟩ := hRk.at (j := j) (by omega)))
    )
   all_goals (
    clear kq ks
    obtain ⟨s1, s2⟩ := hRk.set (j := j) (by omega) hbk.1
    have hT1 := (hT.ext hkL).fr s2 (fun e => hC.nt e.symm) (fun hm => ⟨fun e => (hC.nb hm).1 e.symm, fun e => (hC.nb hm).2.1 e.symm, fun e => (hC.nb hm).2.2.1 e.symm, fun e => (hC.nb hm).2.2.2 e.symm⟩) (fun k hk e => hC.nr k hk e.symm)
    have hC1 : Cst a m W _ bc (fun i => if art ≤ i ∧ i < j + 1 then 1 else 0) := ⟨s1.congr (fun i _ => by
     by_cases h1 : i = j
     ·rw [if_pos h1, if_pos (by omega)]; rfl
     ·rw [if_neg h1]
      by_cases h2 : art ≤ i ∧ i < j
      ·rw [if_pos h2, if_pos (by omega)]
      ·rw [if_neg h2, if_neg (by omega)]), hC.nt, hC.nr, hC.nb⟩
    have hF1 := (hF.step hkL).trans (s2.weak (fun k hk => .inl (.inr (.inl hk))))
    go_wp2_with fail
    go_roundw
    case rel => exact ⟨j + 1, by omega, by omega, by go_num, hT1, hC1, hF1⟩
    case measure => simp [intOf]; omega)
  ·obtain rfl : j = W := by omega
   have hC := hC.congr (C' := ar1 art j) (fun i hi => rfl)
   have q0 := hT.self.c0
   obtain ⟨Ar, hAr⟩ : ∃ x, x = a.Ar := ⟨_, rfl⟩
   rw [← hAr] at q0
   have HAr := Lib.hid hAr
   clear hAr
   go_wp2_with fail
   clear q0
   obtain ⟨hb1, hb2, hb3⟩ := HB.out _ H0.out
   have HB1 : Hid (∀ i, i < m → ∀ k, k ≤ j → QB K (R i k)) := Lib.hid hb1
   have HB3 : Hid (∀ i, i < m → b i < j) := Lib.hid hb3
   clear hb1 hb2 hb3
   clear q6
   go_loopw [39] (fun i wr => ∃ k : Nat, k ≤ m ∧ i = .int .i64 k ∧ Tab a m j art wr (.slice (some ⟨bc, 0, none⟩) (j + 1) (j + 1)) R b u fl ∧ Cst a m j wr bc (red k (ar1 art j) R b) ∧ Fr (fun k => tP a m bc k ∨ k = a.t) w wr) (fun i _ => m - (intOf i).toNat)
   case atStart => exact ⟨0, by omega, rfl, hT, hC.congr (fun i _ => by show _ = ar1 art j i - 0; grind), hF⟩
   case round =>
    clear hT hC hF
    obtain ⟨i, hi, rfl, hT, hC, hF⟩ := hrel
    by_cases hlt2 : i < m
    ·obtain ⟨h1, h2, -, -⟩ := hT.adr (by omega)
     obtain rfl : Ar = some ⟨a.br, 0, none⟩ := HAr.out.trans h1
     clear h1
     have q1 := hT.rows i hlt2
     have q2 := hT.self.c2
     rw [h2] at q2
     clear h2
     have q3 := hT.bas i hlt2
     have q5 : wr.cell? ⟨a.t, 5, none⟩ = some (.int .i64 (art : Int)) := hT.self.cell 5
     have q6 := hT.self.c1
     have hcap2 := hT.cap.2.1
     have k1 : ∀ w', Later wr w' → w'.cell? ⟨a.t, 2, none⟩ = some _ := fun w' h => Later.cell h q2
     have k2 : ∀ w', Later wr w' → w'.cell? ⟨a.bb, i, none⟩ = some _ := fun w' h => Later.cell h q3
     have k3 : ∀ w', Later wr w' → w'.cell? ⟨a.t, 5, none⟩ = some _ := fun w' h => Later.cell h q5
     have k4 : ∀ w', Later wr w' → w'.cell? ⟨a.t, 1, none⟩ = some _ := fun w' h => Later.cell h q6
     have ks := Later.refl wr
     have i1 : (0 : Int) ≤ (i : Int) := by omega
     have i2 : (i : Int) < (m : Int) := by omega
     obtain ⟨bi, hbi⟩ : ∃ x, x = b i := ⟨_, rfl⟩
     rw [← hbi] at k2
     have HBI := Lib.hid hbi
     clear q2 q3 q5 q6 hbi
     go_upto_region 9 with fail
     go_region_held3 (fun w' => Later wr w') ((repeat (first | assumption | apply Later.drew | apply Later.drewN | apply Later.alloc | (refine Later.step ?_ (by assumption))))) (first
      | (fail)
      )
     clear k1 k2 k3
     by_cases hba : art ≤ bi
     ·have e7 : decide (art ≤ bi) = true := by simpa using hba
      have HD : Hid (∀ x, red (i + 1) (ar1 art j) R b x = red i (ar1 art j) R b x - R i x * ((1 : Int) : Rat)) := Lib.hid (fun x => by
       rw [q4a]
       have h1 : ar1 art j (b i) = 1 := by unfold ar1; rw [if_pos ⟨by rw [← HBI.out]; exact hba, HB3.out i hlt2⟩]
       rw [h1]; grind)
      clear hba
      have hne2 : a.rw i ≠ bc := fun e => hC.nr i hlt2 e.symm
      have hRi := hT.row i hlt2
      have hQ1 := Lib.hid (fun x (hx : x < j + 1) => HBC.out i (by omega) x (by omega))
      have hQ2 := Lib.hid (fun x (hx : x < j + 1) => HB1.out i hlt2 x (by omega))
      all_goals (rw [e7]; clear e7)
      all_goals (
       go_upto_region 10 with fail
       go_region_with (first
        | (go_at_call 20; (with_reducible refine (qfw 1 _ (by decide) (by decide)).mono ?_); rintro e wk ⟨vk, rfl, hbk, hxk⟩; (have hkL : Later wr wk := Ext.trans eBx hxk))
        | (go_at_call 169; (have hkL2 : Ext wr wk := hkL); (with_reducible refine (q4n bc (a.rw i) (j + 1) (j + 1) (j + 1) _ _ _ _ (K + 2) _ hne2 (hC.row.ext (by repeat (first | (with_reducible exact Ext.refl _) | (with_reducible apply Ext.drew) | (with_reducible apply Ext.drewN) | (with_reducible assumption)))) (hRi.ext (by repeat (first | (with_reducible exact Ext.refl _) | (with_reducible apply Ext.drew) | (with_reducible apply Ext.drewN) | (with_reducible assumption)))) (Lp.RatB.up (RatB.ext hbk eBx) (by omega)) (fun x hx => qqj (by omega) (hQ1.out x hx)) (fun x hx => qqj (by omega) (hQ2.out x hx)) (by omega) (by omega)).mono ?_); rintro e wl ⟨rfl, hs1, hs2⟩))
       )
      all_goals (
       have hT1 := (hT.ext hkL).fr hs2 (fun e => hC.nt e.symm) (fun hm => ⟨fun e => (hC.nb hm).1 e.symm, fun e => (hC.nb hm).2.1 e.symm, fun e => (hC.nb hm).2.2.1 e.symm, fun e => (hC.nb hm).2.2.2 e.symm⟩) (fun k hk e => hC.nr k hk e.symm)
       have hC1 : Cst a m j wl bc (red (i + 1) (ar1 art j) R b) := ⟨hs1.congr (fun x _ => (HD.out x).symm), hC.nt, hC.nr, hC.nb⟩
       have hF1 := (hF.step hkL).trans (hs2.weak (fun k hk => .inl (.inr (.inl hk))))
       go_wp2_with fail
       go_roundw
       case rel => exact ⟨i + 1, by omega, by go_num, hT1, hC1, hF1⟩
       case measure => simp [intOf]; omega)
     ·have e7 : decide (art ≤ bi) = false := by simpa using hba
      have HD : Hid (∀ x, red (i + 1) (ar1 art j) R b x = red i (ar1 art j) R b x) := Lib.hid (fun x => by
       rw [q4a]
       have h1 : ar1 art j (b i) = 0 := by unfold ar1; rw [if_neg (fun h => hba (by rw [HBI.out]; exact h.1))]
       rw [h1]; grind)
      clear hba
      all_goals (rw [e7]; clear e7)
      all_goals (
       have hL : Ext wr _ := show Later wr _ by assumption
       go_wp2_with fail
       go_roundw
       case rel => exact ⟨i + 1, by omega, by go_num, hT.ext hL, (hC.ext hL).congr (fun x _ => (HD.out x).symm), hF.step hL⟩
       case measure => simp [intOf]; omega)
    ·obtain rfl : i = m := by omega
     go_wp2_with fail
     refine (qxl a i j art bc u fl ⟨R, red i (ar1 art j) R b, b, false⟩ K N sN wr P rfl hT hC HN.out HE.out H0.out HP.out HB.out hK ha hW hm).mono ?_
     rintro e w2 ⟨N2, s, hN2, hE2, rfl, hT2, hC2, hF2⟩
     have HN2 := Lib.hid hN2
     have HE2 := Lib.hid hE2
     have q1 := hT2.self.c1
     have q6 : w2.cell? ⟨a.t, 6, none⟩ = some (.int .i64 (j : Int)) := hT2.self.cell 6
     obtain ⟨p2, A2, m2, c2, p2', A2', m2', c2', g0, g1, g2, g3, hv⟩ := hC2.row.at (j := j) (by omega)
     have hF3 := hF.trans (hF2.weak (fun k hk => .inl hk))
     have hPs : P s := by
      have key : ∀ (N : Nat) (s : St), it i j art N ⟨R, red i (ar1 art j) R b, b, false⟩ = some s → P s := by
       intro N
       induction N with
       | zero => intro s h; injection h with h; subst h; exact H0.out
       | succ N ih =>
         intro s h
         obtain ⟨t, h1, h2⟩ := Option.bind_eq_some_iff.1 (show (it i j art N _).bind (nxt i j art) = some s from h)
         exact HP.out t s (ih t h1) h2
      exact key N2 s hN2
     have hzB : RatB w2 _ (s.C j) K := ⟨hv, (HB.out s hPs).2.1 j (Nat.le_refl _)⟩
     obtain ⟨z, hz⟩ : ∃ z, z = s.C j := ⟨_, rfl⟩
     rw [← hz] at hzB
     have HZ := Lib.hid hz
     obtain ⟨sg, hsg⟩ : ∃ g, g = z.num.sign := ⟨_, rfl⟩
     have HSG := Lib.hid hsg
     have i3 : (0 : Int) ≤ (j : Int) := by omega
     have i4 : (j : Int) < (j : Int) + 1 := by omega
     have kq1 : ∀ w', Later w2 w' → w'.cell? ⟨a.t, 1, none⟩ = some _ := fun w' h => Later.cell h q1
     have kq6 : ∀ w', Later w2 w' → w'.cell? ⟨a.t, 6, none⟩ = some _ := fun w' h => Later.cell h q6
     have l0 : ∀ w', Later w2 w' → w'.cell? ⟨bc, j * 4, none⟩ = some _ := fun w' h => Later.cell h g0
     have l1 : ∀ w', Later w2 w' → w'.cell? ⟨bc, j * 4 + 1, none⟩ = some _ := fun w' h => Later.cell h g1
     have l2 : ∀ w', Later w2 w' → w'.cell? ⟨bc, j * 4 + 2, none⟩ = some _ := fun w' h => Later.cell h g2
     have l3 : ∀ w', Later w2 w' → w'.cell? ⟨bc, j * 4 + 3, none⟩ = some _ := fun w' h => Later.cell h g3
     have ks := Later.refl w2
     clear hT hC hF hF2 q1 q6 g0 g1 g2 g3 hv hz hsg hN2 hE2 hPs
     go_upto_region 13 with fail
     go_region_held3 (fun w' => Later w2 w') ((repeat (first | assumption | apply Later.drew | apply Later.drewN | apply Later.alloc | (refine Later.step ?_ (by assumption))))) (first
      | (go_at_call 61; (with_reducible refine (qpl _ _ _ _ (RatB.ext hzB eBx)).mono ?_); rintro e w3 ⟨rfl, hx3⟩; rw [← HSG.out])
      )
     all_goals (
      have hL3 : Ext w2 w3 := show Later w2 w3 by assumption
      clear kq1 kq6 l0 l1 l2 l3
      go_wp2_with fail
      go_ret
      refine ⟨N2, s, bc, HN2.out, HE2.out, ?_, hT2.ext hL3, hC2.ext hL3, (hF3.step hL3).drop ?_, hbl⟩
      ·have e8 : (sg == 0) = (s.C j == 0) := by
        rw [HSG.out, HZ.out]
        by_cases h0 : s.C j = 0
        ·rw [h0]; rfl
        ·rw [q9n (fun h => h0 (Rat.num_eq_zero.1 h))]; simpa using h0
       rw [← e8]; rfl
      ·rintro k ((⟨x, hx, e⟩ | e | ⟨hm, e⟩) | e) hk
       ·exact .inl ⟨x, hx, e⟩
       ·omega
       ·exact .inr (.inr ⟨hm, e⟩)
       ·exact .inr (.inl e))
def ExpPost (a : TA) (m W art : Nat) (bc : Nat) (u : Nat → Nat) (fl : Nat → Bool) (s : St) (w : World) (e : Ending) (w' : World) : Prop :=
 e = .returned (.tuple #[]) ∧ Tab a m W art w' (.slice (some ⟨bc, 0, none⟩) (W + 1) (W + 1)) s.R s.b u fl ∧ Cst a m W w' bc s.C ∧ Fr (tP a m bc) w w'
theorem fnz_step {f : Nat → Rat} {n j : Nat} (h : fnz f j = none) (h0 : f j ≠ 0) (hj : j < n) : fnz f n = some j := by
 obtain ⟨d, rfl⟩ : ∃ d, n = j + 1 + d := ⟨n - (j + 1), by omega⟩
 clear hj
 induction d with
 | zero =>
   show (match fnz f j with | some j => some j | none => if f j ≠ 0 then some j else none) = _
   rw [h]; exact if_pos h0
 | succ d ih =>
   show (match fnz f (j + 1 + d) with | some j => some j | none => if f (j + 1 + d) ≠ 0 then some (j + 1 + d) else none) = _
   rw [ih]
theorem fnz_skip {f : Nat → Rat} {j : Nat} (h : fnz f j = none) (h0 : f j = 0) : fnz f (j + 1) = none := by
 show (match fnz f j with | some j => some j | none => if f j ≠ 0 then some j else none) = _
 rw [h]; exact if_neg (fun h => h h0)
set_option maxHeartbeats 8000000 in
theorem expel_b (a : TA) (p : Prob) (m W art bc : Nat) (u : Nat → Nat) (fl : Nat → Bool) (s : St) (K : Nat) (w : World) (hM : m = p.m) (hW' : W = p.W) (hA : art = p.art)
 (hT : Tab a m W art w (.slice (some ⟨bc, 0, none⟩) (W + 1) (W + 1)) s.R s.b u fl) (hC : Cst a m W w bc s.C)
 (hB : ∀ i, i ≤ m → (∀ k, k < m → ∀ j, j ≤ W → QB K ((exL p s i).R k j)) ∧ (∀ j, j ≤ W → QB K ((exL p s i).C j)))
 (hK : K ≤ 134217728) (hW : W < 1099511627776) (hm : m ≤ 1099511627776) :
 Calls Tryz.prog 133 #[.pointer (some ⟨a.t, 0, none⟩)] w (ExpPost a m W art bc u fl (exL p s m) w) := by
 have ha : art ≤ W := by rw [hA, hW']; exact p.art_le
 obtain ⟨S, hS⟩ : ∃ S, S = exL p s m := ⟨_, rfl⟩
 rw [← hS]
 have HS := Lib.hid hS
 have HB := Lib.hid hB
 have HM := Lib.hid hM
 have HW := Lib.hid hW'
 have HA := Lib.hid hA
 clear hS hB hM hW' hA
 have hcap := hT.cap.1
 have q0 := hT.self.c0
 obtain ⟨Ar, hAr⟩ : ∃ x, x = a.Ar := ⟨_, rfl⟩
 rw [← hAr] at q0
 have HAr := Lib.hid hAr
 clear hAr
 go_enter Tryz.func133, Tryz.ntmps133
 go_wp2_with fail
 clear q0
 go_loopw [10] (fun i wr => ∃ k : Nat, k ≤ m ∧ i = .int .i64 k ∧ Tab a m W art wr (.slice (some ⟨bc, 0, none⟩) (W + 1) (W + 1)) (exL p s k).R (exL p s k).b u fl ∧ Cst a m W wr bc (exL p s k).C ∧ Fr (tP a m bc) w wr) (fun i _ => m - (intOf i).toNat)
 case atStart => exact ⟨0, by omega, rfl, hT, hC, Fr.refl _ _⟩
 case round =>
  clear hT hC
  obtain ⟨i, hi, rfl, hT, hC, hF⟩ := hrel
  by_cases hlt : i < m
  ·obtain ⟨h1, h2, -, -⟩ := hT.adr (by omega)
   obtain rfl : Ar = some ⟨a.br, 0, none⟩ := HAr.out.trans h1
   clear h1
   obtain ⟨t, ht⟩ : ∃ t, t = exL p s i := ⟨_, rfl⟩
   rw [← ht] at hT hC
   have HT := Lib.hid ht
   have HX : Hid (exL p s (i + 1) = exS p t i) := Lib.hid (by rw [ht]; rfl)
   obtain ⟨hb1, hb2⟩ := HB.out i hi
   rw [← ht] at hb1 hb2
   have HB1 : Hid (∀ k, k < m → ∀ j, j ≤ W → QB K (t.R k j)) := Lib.hid hb1
   have HB2 : Hid (∀ j, j ≤ W → QB K (t.C j)) := Lib.hid hb2
   clear hb1 hb2 ht
   have q1 := hT.rows i hlt
   have q2 := hT.self.c2
   rw [h2] at q2
   clear h2
   have q3 := hT.bas i hlt
   have q5 : wr.cell? ⟨a.t, 5, none⟩ = some (.int .i64 (art : Int)) := hT.self.cell 5
   have hcap2 := hT.cap.2.1
   have k1 : ∀ w', Later wr w' → w'.cell? ⟨a.t, 2, none⟩ = some _ := fun w' h => Later.cell h q2
   have k2 : ∀ w', Later wr w' → w'.cell? ⟨a.bb, i, none⟩ = some _ := fun w' h => Later.cell h q3
   have k3 : ∀ w', Later wr w' → w'.cell? ⟨a.t, 5, none⟩ = some _ := fun w' h => Later.cell h q5
   have ks := Later.refl wr
   have i1 : (0 : Int) ≤ (i : Int) := by omega
   have i2 : (i : Int) < (m : Int) := by omega
   obtain ⟨bi, hbi⟩ : ∃ x, x = t.b i := ⟨_, rfl⟩
   rw [← hbi] at k2
   have HBI := Lib.hid hbi
   clear q2 q3 hbi
   go_upto_region 3 with fail
   go_region_held3 (fun w' => Later wr w') ((repeat (first | assumption | apply Later.drew | apply Later.drewN | apply Later.alloc | (refine Later.step ?_ (by assumption))))) (first
    | (fail)
    )
   all_goals (
    clear k1 k2 k3
    have hL : Ext wr wr.drew := (Ext.refl wr).drew)
   by_cases hba : bi < art
   ·have e7 : decide (bi < art) = true := by simpa using hba
    have HE : Hid (exL p s (i + 1) = t) := Lib.hid (by rw [HX.out]; unfold exS; rw [if_pos (by rw [← HBI.out, ← HA.out]; exact hba)])
    clear hba
    all_goals (rw [e7]; clear e7)
    all_goals (
     go_wp2_with fail
     go_roundw
     case rel => exact ⟨i + 1, by omega, by go_num, by rw [HE.out]; exact hT.ext hL, by rw [HE.out]; exact hC.ext hL, hF.step hL⟩
     case measure => simp [intOf]; omega)
   ·have e7 : decide (bi < art) = false := by simpa using hba
    have HX2 : Hid (exL p s (i + 1) = match fnz (t.R i) art with | none => t | some j => t.piv W i j) := Lib.hid (by rw [HX.out, HA.out, HW.out]; unfold exS; rw [if_neg (by rw [← HBI.out, ← HA.out]; exact hba)]; rfl)
    clear hba
    all_goals (rw [e7]; clear e7)
    have q5 := hL.cell q5
    go_wp2_with fail
    have hT := hT.ext hL
    have hC := hC.ext hL
    have hF := hF.step hL
    generalize wr.drew = V at *
    go_loopw [31] (fun jv wr => ∃ j : Nat, j ≤ art ∧ jv = .int .i64 j ∧ Hid (fnz (t.R i) j = none) ∧ Ext V wr) (fun jv _ => art - (intOf jv).toNat)
    case atStart => exact ⟨0, by omega, rfl, Lib.hid rfl, Ext.refl V⟩
    case round =>
     obtain ⟨j, hj, rfl, HZ, hx⟩ := hrel
     have hT1 := hT.ext hx
     have hC1 := hC.ext hx
     have hF1 := hF.step hx
     by_cases hlj : j < art
     ·obtain ⟨p2, A2, m2, c2, p2', A2', m2', c2', g0, g1, g2, g3, hv⟩ := (hT1.row i hlt).at (j := j) (by omega)
      go_wp2_with fail
      refine (qpl _ (t.R i j) K _ ⟨hv, HB1.out i hlt j (by omega)⟩).mono ?_
      rintro e w1 ⟨rfl, hx1⟩
      have hT2 := hT1.ext hx1
      have hC2 := hC1.ext hx1
      have hF2 := hF1.step hx1
      obtain ⟨z, hz⟩ : ∃ z, z = t.R i j := ⟨_, rfl⟩
      rw [← hz]
      obtain ⟨sg, hsg⟩ : ∃ g, g = z.num.sign := ⟨_, rfl⟩
      rw [← hsg]
      by_cases hg0 : z = 0
      ·have e5 : (sg != 0) = false := by rw [hsg, hg0]; rfl
       have HN : Hid (fnz (t.R i) (j + 1) = none) := Lib.hid (fnz_skip HZ.out (by rw [← hz]; exact hg0))
       clear hg0 hsg hz
       go_wp2_with fail
       go_roundw
       case rel => exact ⟨j + 1, by omega, by go_num, HN, hx.trans hx1⟩
       case measure => simp [intOf]; omega
      ·have e5 : (sg != 0) = true := by rw [hsg]; have := q9n (x := z.num) (fun h => hg0 (Rat.num_eq_zero.1 h)); simpa using this
       have HN : Hid (exL p s (i + 1) = t.piv W i j) := Lib.hid (by rw [HX2.out, fnz_step HZ.out (by rw [← hz]; exact hg0) hlj])
       have HP0 : Hid (t.R i j ≠ 0) := Lib.hid (by rw [← hz]; exact hg0)
       clear hg0 hsg hz
       go_wp2_with fail
       refine (pivot_b a m W art bc i j t.R t.C t.b u fl K w1 hT2 hC2 hlt (by omega) HP0.out HB1.out HB2.out (by omega) hm hW).mono ?_
       rintro e w2 ⟨rfl, hT3, hC3, hF3⟩
       have hF4 := hF2.trans hF3
       go_wp2_with fail
       go_roundw
       case rel => exact ⟨i + 1, by omega, by go_num, by rw [HN.out]; exact hT3, by rw [HN.out]; exact hC3, hF4⟩
       case measure => simp [intOf]; omega
     ·obtain rfl : j = art := by omega
      have HN : Hid (exL p s (i + 1) = t) := Lib.hid (by rw [HX2.out, HZ.out])
      go_wp2_with fail
      go_roundw
      case rel => exact ⟨i + 1, by omega, by go_num, by rw [HN.out]; exact hT1, by rw [HN.out]; exact hC1, hF1⟩
      case measure => simp [intOf]; omega
  ·obtain rfl : i = m := by omega
   have HE : Hid (exL p s i = S) := Lib.hid (by rw [HS.out])
   go_wp2_with fail
   go_end0
   exact ⟨rfl, by rw [← HE.out]; exact hT, by rw [← HE.out]; exact hC, hF⟩
def AimPost (a : TA) (m W art : Nat) (R : Nat → Nat → Rat) (C : Nat → Rat) (b u : Nat → Nat) (fl : Nat → Bool) (w : World) (e : Ending) (w' : World) : Prop :=
 ∃ bc : Nat, e = .returned (.tuple #[]) ∧ Tab a m W art w' (.slice (some ⟨bc, 0, none⟩) (W + 1) (W + 1)) R b u fl ∧ Cst a m W w' bc C ∧ Fr (fun k => k = a.t) w w' ∧ w.heap.size ≤ bc
def ob2 (n : Nat) (o : Nat → Rat) (j : Nat) : Rat := if j < n then -o j else 0
set_option maxHeartbeats 8000000 in
theorem aim_b (a : TA) (m W art : Nat) (R : Nat → Nat → Rat) (b u : Nat → Nat) (fl : Nat → Bool) (K : Nat) (w : World) (A : Option Addr) (n0 c0 : Nat) (bo n co : Nat) (o : Nat → Rat)
 (hT : Tab a m W art w (.slice A n0 c0) R b u fl) (hO : RowR w bo n o) (hot : bo ≠ a.t) (hn : n ≤ W)
 (hQ : ∀ j, j < n → QB K (o j)) (hR : ∀ i, i < m → ∀ j, j ≤ W → QB K (R i j)) (hBC : ∀ i, i ≤ m → ∀ j, j ≤ W → QB K (red i (ob2 n o) R b j))
 (hK : K ≤ 134217728) (hW : W < 1099511627776) (hm : m ≤ 1099511627776) :
 Calls Tryz.prog 134 #[.pointer (some ⟨a.t, 0, none⟩), .slice (some ⟨bo, 0, none⟩) n co] w (AimPost a m W art R (red m (ob2 n o) R b) b u fl w) := by
 have HR := Lib.hid hR
 have HQ := Lib.hid hQ
 have HBC := Lib.hid hBC
 clear hR hQ hBC
 have q6 : w.cell? ⟨a.t, 6, none⟩ = some (.int .i64 (W : Int)) := hT.self.cell 6
 have q1 : w.cell? ⟨a.t, 1, none⟩ = some (.slice A n0 c0) := hT.self.cell 1
 have hcap := hT.cap.2.1
 go_enter Tryz.func134, Tryz.ntmps134
 go_upto_region 1 with (at_make; refine qhn _ rfl _ _ rfl _ _ rfl rfl (W + 1) (by omega) (by omega) (by omega) ?_; intro w1 hR1 hx1; have z1 : w1.cell? ⟨a.t, 1, none⟩ = some (.slice A n0 c0) := (hT.ext hx1).self.cell 1; have z2 : w1.frozen? ⟨a.t, 1, none⟩ = false := (hT.ext hx1).self.frozen 1)
 obtain ⟨hT2, hF2⟩ := (hT.ext hx1).putC rfl (some ⟨w.heap.size, 0, none⟩) (W + 1) (W + 1)
 have hbt : w.heap.size ≠ a.t := by have := hT.self.lt; omega
 have hbo : bo ≠ w.heap.size := by have := hO.lt; omega
 have hC2 := hT.newC (Nat.le_refl _) (hR1.fr hF2 hbt)
 have hO2 := (hO.ext hx1).fr hF2 hot
 have hF : Fr (fun k => k = w.heap.size ∨ k = a.t) w (w1.setCell ⟨a.t, 1, none⟩ (.slice (some ⟨w.heap.size, 0, none⟩) (W + 1) (W + 1))) := (Fr.of hx1).trans (hF2.weak (fun k hk => .inr hk))
 obtain ⟨bc, hbc⟩ : ∃ bc, bc = w.heap.size := ⟨_, rfl⟩
 rw [← hbc] at hT2 hC2 hF hbt hF2 hR1 hO2 hbo
 rw [← hbc]
 generalize (w1.setCell ⟨a.t, 1, none⟩ (.slice (some ⟨bc, 0, none⟩) (W + 1) (W + 1))) = V at *
 have hbl : w.heap.size ≤ bc := by omega
 clear z1 z2 q1 q6 hx1 hR1 hT hbc hF2 hO
 go_wp2_with fail
 go_loopw [19] (fun i wr => ∃ j : Nat, j ≤ n ∧ i = .int .i64 j ∧ Cst a m W wr bc (fun i => if i < j then -o i else 0) ∧ Fr (fun k => k = bc) V wr) (fun i _ => n - (intOf i).toNat)
 case atStart => exact ⟨0, by omega, rfl, hC2.congr (fun i _ => by rw [if_neg (by omega)]), Fr.refl _ _⟩
 case round =>
  clear hC2
  obtain ⟨j, hj, rfl, hC, hF1⟩ := hrel
  have hT := hT2.fr hF1 (fun e => hC.nt e.symm) (fun hm => ⟨fun e => (hC.nb hm).1 e.symm, fun e => (hC.nb hm).2.1 e.symm, fun e => (hC.nb hm).2.2.1 e.symm, fun e => (hC.nb hm).2.2.2 e.symm⟩) (fun k hk e => hC.nr k hk e.symm)
  have hO := hO2.fr hF1 hbo
  by_cases hlt : j < n
  ·obtain ⟨p2, A2, m2, c2, p2', A2', m2', c2', g0, g1, g2, g3, hv⟩ := hO.at hlt
   go_upto_region 4 with fail
   have Bx := Box.new wr 58 #[.bool p2, .slice A2 m2 c2, .bool p2', .slice A2' m2' c2']
   have hEx : Ext wr (wr.alloc (.cells #[.bool p2, .slice A2 m2 c2, .bool p2', .slice A2' m2' c2'] 58)) := (Ext.refl wr).alloc _
   have hvB : RatB (wr.alloc (.cells #[.bool p2, .slice A2 m2 c2, .bool p2', .slice A2' m2' c2'] 58)) _ (o j) K := ⟨hv.ext hEx, HQ.out j hlt⟩
   have hTx := hT.ext hEx
   have hCx := hC.ext hEx
   have q1 := hTx.self.c1
   generalize (wr.alloc (.cells #[.bool p2, .slice A2 m2 c2, .bool p2', .slice A2' m2' c2'] 58)) = U at *
   have kq : ∀ w', Later U w' → w'.cell? ⟨a.t, 1, none⟩ = some _ := fun w' h => Later.cell h q1
   have kx0 : ∀ w', Later U w' → w'.cell? ⟨_, 0, none⟩ = some _ := fun w' h => (Bx.ext h).c0
   have kx1 : ∀ w', Later U w' → w'.cell? ⟨_, 1, none⟩ = some _ := fun w' h => (Bx.ext h).c1
   have kx2 : ∀ w', Later U w' → w'.cell? ⟨_, 2, none⟩ = some _ := fun w' h => (Bx.ext h).c2
   have kx3 : ∀ w', Later U w' → w'.cell? ⟨_, 3, none⟩ = some _ := fun w' h => (Bx.ext h).c3
   have ks := Later.refl U
   clear q1 g0 g1 g2 g3 hv
   go_region_with (first
    | (go_at_call 168; (with_reducible refine (qsz _ _ _ _ (RatB.ext hvB eBx)).mono ?_); rintro e wk ⟨vk, rfl, hbk, hxk⟩; (obtain ⟨pk, Ak, nk, ck, pk', Ak', nk', ck', rfl⟩ := hbk.1.shape); (have hkL : Later U wk := Ext.trans eBx hxk); (have hRk := hCx.row.ext hkL); (have f0 := hRk.frozen (j * 4)); (have f1 := hRk.frozen (j * 4 + 1)); (have f2 := hRk.frozen (j * 4 + 2)); (have f3 := hRk.frozen (j * 4 + 3)); (obtain ⟨_, _, _, _, _, _, _, _, b0, b1, b2, b3, _⟩ := hRk.at (j := j) (by omega)))
    )
   all_goals (
    clear kq kx0 kx1 kx2 kx3 ks
    obtain ⟨s1, s2⟩ := hRk.set (j := j) (by omega) hbk.1
    have hC1 : Cst a m W _ bc (fun i => if i < j + 1 then -o i else 0) := ⟨s1.congr (fun i _ => by
     by_cases h1 : i = j
     ·rw [if_pos h1, if_pos (by omega), h1]
     ·rw [if_neg h1]
      by_cases h2 : i < j
      ·rw [if_pos h2, if_pos (by omega)]
      ·rw [if_neg h2, if_neg (by omega)]), hC.nt, hC.nr, hC.nb⟩
    have hF3 := ((hF1.step hEx).step hkL).trans s2
    go_wp2_with fail
    go_roundw
    case rel => exact ⟨j + 1, by omega, by go_num, hC1, hF3⟩
    case measure => simp [intOf]; omega)
  ·obtain rfl : j = n := by omega
   have hC := hC.congr (C' := ob2 j o) (fun i hi => rfl)
   have hF3 := hF.trans (hF1.weak (fun k hk => .inl hk))
   have q2 := hT.self.c2
   obtain ⟨Ab, hAb⟩ : ∃ x, x = a.Ab := ⟨_, rfl⟩
   rw [← hAb] at q2
   have HAb := Lib.hid hAb
   clear hAb
   go_wp2_with fail
   clear q2
   have HB1 : Hid (∀ x, x ≤ W → QB K (red 0 (ob2 j o) R b x)) := Lib.hid (HBC.out 0 (by omega))
   go_loopw [38] (fun i wr => ∃ k : Nat, k ≤ m ∧ i = .int .i64 k ∧ Cst a m W wr bc (red k (ob2 j o) R b) ∧ Fr (fun k => k = bc) V wr) (fun i _ => m - (intOf i).toNat)
   case atStart => exact ⟨0, by omega, rfl, hC.congr (fun i _ => by show _ = ob2 j o i - 0; grind), hF1⟩
   case round =>
    clear hT hC hF1 hF3 hO
    obtain ⟨i, hi, rfl, hC, hF1⟩ := hrel
    have hT := hT2.fr hF1 (fun e => hC.nt e.symm) (fun hm => ⟨fun e => (hC.nb hm).1 e.symm, fun e => (hC.nb hm).2.1 e.symm, fun e => (hC.nb hm).2.2.1 e.symm, fun e => (hC.nb hm).2.2.2 e.symm⟩) (fun k hk e => hC.nr k hk e.symm)
    have hO := hO2.fr hF1 hbo
    by_cases hlt2 : i < m
    ·obtain ⟨h1, h2, -, -⟩ := hT.adr (by omega)
     obtain rfl : Ab = some ⟨a.bb, 0, none⟩ := HAb.out.trans h2
     clear h2
     have q3 := hT.bas i hlt2
     obtain ⟨bi, hbi⟩ : ∃ x, x = b i := ⟨_, rfl⟩
     rw [← hbi] at q3
     have HBI := Lib.hid hbi
     clear hbi
     by_cases hbn : bi < j
     ·have e7 : decide ((bi : Int) < (j : Int)) = true := by simp; omega
      obtain ⟨p2, A2, m2, c2, p2', A2', m2', c2', g0, g1, g2, g3, hv⟩ := hO.at hbn
      go_wp2_with fail
      refine (qpl _ (o bi) K _ ⟨hv, HQ.out bi hbn⟩).mono ?_
      rintro e w1 ⟨rfl, hx1⟩
      have hT1 := hT.ext hx1
      have hC1 := hC.ext hx1
      have hFx := hF1.step hx1
      have hvB : RatB w1 _ (o bi) K := ⟨hv.ext hx1, HQ.out bi hbn⟩
      obtain ⟨y, hy⟩ : ∃ y, y = o bi := ⟨_, rfl⟩
      rw [← hy] at hvB ⊢
      obtain ⟨sg, hsg⟩ : ∃ s, s = y.num.sign := ⟨_, rfl⟩
      rw [← hsg]
      have HO2 : Hid (∀ x, red (i + 1) (ob2 j o) R b x = red i (ob2 j o) R b x - R i x * -y) := Lib.hid (fun x => by
       rw [q4a, show ob2 j o (b i) = -y by unfold ob2; rw [← HBI.out, if_pos hbn, hy]]; grind)
      by_cases hg0 : y = 0
      ·have e5 : (sg != 0) = false := by rw [hsg, hg0]; rfl
       have HD : Hid (∀ x, red (i + 1) (ob2 j o) R b x = red i (ob2 j o) R b x) := Lib.hid (fun x => by rw [HO2.out, hg0]; grind)
       clear hg0 hsg hy
       go_wp2_with fail
       go_roundw
       case rel => exact ⟨i + 1, by omega, by go_num, hC1.congr (fun x _ => (HD.out x).symm), hFx⟩
       case measure => simp [intOf]; omega
      ·have e5 : (sg != 0) = true := by rw [hsg]; have := q9n (x := y.num) (fun h => hg0 (Rat.num_eq_zero.1 h)); simpa using this
       clear hsg hg0 hy
       have hse := hT1.self
       rw [h1] at hse
       have s0 := hse.c0
       have s1 := hse.c1
       have r0 := hT1.rows i hlt2
       have g0 := hx1.cell g0
       have g1 := hx1.cell g1
       have g2 := hx1.cell g2
       have g3 := hx1.cell g3
       have hcap2 := hT1.cap.1
       have nt : ¬ a.t = bc := fun e => hC.nt e.symm
       have nr : ¬ a.br = bc := fun e => (hC.nb (by omega)).1 e.symm
       have ks0 : ∀ w', Fr (fun k => k = bc) w1 w' → w'.cell? ⟨a.t, 0, none⟩ = some _ := fun w' h => h.cell nt s0
       have ks1 : ∀ w', Fr (fun k => k = bc) w1 w' → w'.cell? ⟨a.t, 1, none⟩ = some _ := fun w' h => h.cell nt s1
       have kr0 : ∀ w', Fr (fun k => k = bc) w1 w' → w'.cell? ⟨a.br, i, none⟩ = some _ := fun w' h => h.cell nr r0
       have kg0 : ∀ w', Fr (fun k => k = bc) w1 w' → w'.cell? ⟨bo, bi * 4, none⟩ = some _ := fun w' h => h.cell hbo g0
       have kg1 : ∀ w', Fr (fun k => k = bc) w1 w' → w'.cell? ⟨bo, bi * 4 + 1, none⟩ = some _ := fun w' h => h.cell hbo g1
       have kg2 : ∀ w', Fr (fun k => k = bc) w1 w' → w'.cell? ⟨bo, bi * 4 + 2, none⟩ = some _ := fun w' h => h.cell hbo g2
       have kg3 : ∀ w', Fr (fun k => k = bc) w1 w' → w'.cell? ⟨bo, bi * 4 + 3, none⟩ = some _ := fun w' h => h.cell hbo g3
       have ks := Fr.refl (fun k => k = bc) w1
       have i1 : (0 : Int) ≤ (i : Int) := by omega
       have i2 : (i : Int) < (m : Int) := by omega
       have i3 : (0 : Int) ≤ (bi : Int) := by omega
       have i4 : (bi : Int) < (j : Int) := by omega
       have hne2 : a.rw i ≠ bc := fun e => hC.nr i hlt2 e.symm
       have hRi := hT1.row i hlt2
       have hCr := hC1.row
       have hQ1 := Lib.hid (fun x (hx : x < W + 1) => qqj (show K ≤ K by omega) (HBC.out i (by omega) x (by omega)))
       have hQ2 := Lib.hid (fun x (hx : x < W + 1) => qqj (show K ≤ K by omega) (HR.out i hlt2 x (by omega)))
       have hK2 : K ≤ 1073741824 := by omega
       have hW2 : W + 1 ≤ 1099511627776 := by omega
       clear s0 s1 r0 g0 g1 g2 g3 hv hse
       go_upto_region 10 with fail
       go_region_held3 (fun w' => Fr (fun k => k = bc) w1 w') ((repeat (first | assumption | apply Fr.drew | apply Fr.drewN | apply Fr.alloc | (refine Fr.step ?_ (by assumption)) | (refine Fr.trans ?_ (by assumption))))) (first
        | (go_at_call 168; (with_reducible refine (qsz _ _ _ _ (RatB.ext hvB eAx)).mono ?_); rintro e wk ⟨vk, rfl, hbk, hxk⟩; (obtain ⟨pk, Ak, nk, ck, pk', Ak', nk', ck', rfl⟩ := hbk.1.shape))
        | (go_at_call 169; (with_reducible refine (q4n bc (a.rw i) (W + 1) (W + 1) (W + 1) _ _ _ _ K _ hne2 (RowR.ext hCr eAx) (RowR.ext hRi eAx) (RatB.ext hbk eAx) hQ1.out hQ2.out hK2 hW2).mono ?_); rintro e wl ⟨rfl, hs1, hs2⟩)
        )
       all_goals (
        clear ks0 ks1 kr0 kg0 kg1 kg2 kg3
        have hFl : Fr (fun k => k = bc) w1 wl := by assumption
        have hC2 : Cst a m W wl bc (red (i + 1) (ob2 j o) R b) := ⟨hs1.congr (fun x _ => (HO2.out x).symm), hC.nt, hC.nr, hC.nb⟩
        have hFy := hFx.trans hFl
        go_wp2_with fail
        go_roundw
        case rel => exact ⟨i + 1, by omega, by go_num, hC2, hFy⟩
        case measure => simp [intOf]; omega)
     ·have e7 : decide ((bi : Int) < (j : Int)) = false := by simp; omega
      have HD : Hid (∀ x, red (i + 1) (ob2 j o) R b x = red i (ob2 j o) R b x) := Lib.hid (fun x => by
       rw [q4a, show ob2 j o (b i) = 0 by unfold ob2; rw [← HBI.out, if_neg hbn]]; grind)
      go_wp2_with fail
      go_roundw
      case rel => exact ⟨i + 1, by omega, by go_num, hC.congr (fun x _ => (HD.out x).symm), hF1⟩
      case measure => simp [intOf]; omega
    ·obtain rfl : i = m := by omega
     go_wp2_with fail
     go_end0
     exact ⟨bc, rfl, hT, hC, (hF.trans (hF1.weak (fun k hk => .inl hk))).drop (fun k hk hl => by
      rcases hk with hk | hk
      ·omega
      ·exact hk), hbl⟩
def muV (art : Nat) (C : Nat → Rat) (u : Nat → Nat) (fl : Nat → Bool) (q : Rat) (i : Nat) : Rat := if fl i = true then -(C (u i) + if art ≤ u i then q else 0) else C (u i) + if art ≤ u i then q else 0
def RowPost (w : World) (n : Nat) (f : Nat → Rat) (e : Ending) (w' : World) : Prop := ∃ b : Nat, e = .returned (.slice (some ⟨b, 0, none⟩) n n) ∧ RowR w' b n f ∧ Ext w w' ∧ w.heap.size ≤ b
set_option maxHeartbeats 8000000 in
theorem qo8 (a : TA) (m W art bc : Nat) (R : Nat → Nat → Rat) (C : Nat → Rat) (b u : Nat → Nat) (fl : Nat → Bool) (K : Nat) (v : Value) (q : Rat) (w : World)
 (hT : Tab a m W art w (.slice (some ⟨bc, 0, none⟩) (W + 1) (W + 1)) R b u fl) (hC : Cst a m W w bc C) (hv : RatB w v q K)
 (hQ : ∀ j, j ≤ W → QB K (C j)) (hu : ∀ i, i < m → u i < W) (hK : K ≤ 134217728) (hW : W < 1099511627776) (hm : m ≤ 1099511627776) :
 Calls Tryz.prog 136 #[.pointer (some ⟨a.t, 0, none⟩), v] w (RowPost w m (muV art C u fl q)) := by
 obtain ⟨p0, A0, n0, c0, p0', A0', n0', c0', rfl⟩ := hv.1.shape
 have HQ := Lib.hid hQ
 have HU := Lib.hid hu
 have HCP := hT.cap
 clear hQ hu
 have B0 := Box.new w 58 #[.bool p0, .slice A0 n0 c0, .bool p0', .slice A0' n0' c0']
 have hE0 : Ext w (w.alloc (.cells #[.bool p0, .slice A0 n0 c0, .bool p0', .slice A0' n0' c0'] 58)) := (Ext.refl w).alloc _
 go_enter Tryz.func136, Tryz.ntmps136
 go_upto_region 1 with fail
 generalize (w.alloc (.cells #[.bool p0, .slice A0 n0 c0, .bool p0', .slice A0' n0' c0'] 58)) = V at *
 have q0 := (hT.ext hE0).self.c0
 go_upto_region 2 with (at_make; refine qhn _ rfl _ _ rfl _ _ rfl rfl m (by omega) (by omega) (by omega) ?_; intro w1 hR1 hx1)
 have hE1 := hE0.trans hx1
 have hbl : w.heap.size ≤ V.heap.size := hE0.size
 obtain ⟨by', hby⟩ : ∃ x, x = V.heap.size := ⟨_, rfl⟩
 have B1 := B0.ext hx1
 have hB0b : w.heap.size ≠ by' := by have := B0.lt; omega
 rw [← hby] at hR1 hbl ⊢
 clear hby q0 B0
 have q3 : w1.cell? ⟨a.t, 3, none⟩ = some (.slice a.Au m a.cu) := (hT.ext hE1).self.cell 3
 obtain ⟨Au, hAu⟩ : ∃ x, x = a.Au := ⟨_, rfl⟩
 rw [← hAu] at q3
 have HAu := Lib.hid hAu
 clear hAu
 go_wp2_with fail
 clear q3
 go_loopw [19] (fun i wr => ∃ k : Nat, k ≤ m ∧ i = .int .i64 k ∧ RowR wr by' m (fun i => if i < k then muV art C u fl q i else 0) ∧ Ext w wr ∧ Fr (fun k => k = by') w1 wr) (fun i _ => m - (intOf i).toNat)
 case atStart => exact ⟨0, by omega, rfl, hR1.congr (fun i _ => by rw [if_neg (by omega)]), hE1, Fr.refl _ _⟩
 case round =>
  clear hR1
  obtain ⟨i, hi, rfl, hR, hx, hFb⟩ := hrel
  by_cases hlt : i < m
  ·have hT1 := hT.ext hx
   have hC1 := hC.ext hx
   obtain ⟨-, -, h3, h4⟩ := hT1.adr (by omega)
   obtain rfl : Au = some ⟨a.bu, 0, none⟩ := HAu.out.trans h3
   clear h3
   have hcu := HCP.2.2.1
   have hcf := HCP.2.2.2
   obtain ⟨ui, hui⟩ : ∃ x, x = u i := ⟨_, rfl⟩
   have HUI := Lib.hid hui
   have huW : ui < W := by rw [hui]; exact HU.out i hlt
   have q3 := hT1.unit i hlt
   rw [← hui] at q3
   clear hui
   have q1 := hT1.self.c1
   have q5 : wr.cell? ⟨a.t, 5, none⟩ = some (.int .i64 (art : Int)) := hT1.self.cell 5
   obtain ⟨p1, A1, m1, c1, p1', A1', m1', c1', g0, g1, g2, g3, hd⟩ := hC1.row.at (j := ui) (by omega)
   obtain ⟨_, _, _, _, _, _, _, _, b0, b1, b2, b3, _⟩ := hR.at hlt
   have f0 := hR.frozen (i * 4)
   have f1 := hR.frozen (i * 4 + 1)
   have f2 := hR.frozen (i * 4 + 2)
   have f3 := hR.frozen (i * 4 + 3)
   obtain ⟨s1, s2⟩ := hR.set hlt hd
   have hE3 : Ext w _ := (((hx.set (p := ⟨by', i * 4, none⟩) hbl (.bool p1)).set (p := ⟨by', i * 4 + 1, none⟩) hbl (.slice A1 m1 c1)).set (p := ⟨by', i * 4 + 2, none⟩) hbl (.bool p1')).set (p := ⟨by', i * 4 + 3, none⟩) hbl (.slice A1' m1' c1')
   have hF3 := hFb.trans s2
   have hd3 := s2.rat hd
   go_upto_region 6 with fail
   clear b0 b1 b2 b3 f0 f1 f2 f3 q1 q3 q5 g0 g1 g2 g3 hd hR hx hFb s2 hT1 hC1
   generalize ((((wr.setCell ⟨by', i * 4, none⟩ (.bool p1)).setCell ⟨by', i * 4 + 1, none⟩ (.slice A1 m1 c1)).setCell ⟨by', i * 4 + 2, none⟩ (.bool p1')).setCell ⟨by', i * 4 + 3, none⟩ (.slice A1' m1' c1')) = U at *
   have HS1 : Hid (RowR U by' m (fun i_1 => if i_1 = i then C ui else if i_1 < i then muV art C u fl q i_1 else 0)) := Lib.hid s1
   clear s1
   obtain ⟨z, hz⟩ : ∃ z, z = C ui + (if art ≤ ui then q else 0) := ⟨_, rfl⟩
   have HZ := Lib.hid hz
   have hT2 := hT.ext hE3
   have q5 : U.cell? ⟨a.t, 5, none⟩ = some (.int .i64 (art : Int)) := hT2.self.cell 5
   have hCu : QB K (C ui) := HQ.out ui (by omega)
   have HCU := Lib.hid hCu
   have hqK : QB K q := hv.2
   have HZK : Hid (QB (K + K + 1) z) := Lib.hid (by
    rw [hz]
    by_cases h : art ≤ ui
    ·rw [if_pos h]; exact qa4 hCu hqK
    ·rw [if_neg h, show C ui + 0 = C ui by grind]; exact qqj (by omega) hCu)
   clear hz hCu
   go_upto_if 39 with fail
   go_cut [] (fun wx => RowR wx by' m (fun k => if k = i then z else if k < i then muV art C u fl q k else 0) ∧ Ext w wx ∧ Fr (fun k => k = by') w1 wx)
   case first =>
    by_cases hau : art ≤ ui
    ·have e7 : decide ((art : Int) ≤ (ui : Int)) = true := by simp; omega
     have e8 : decide (art ≤ ui) = true := by simpa using hau
     have e9 : (art : Int) ≤ (ui : Int) := by omega
     have HZ2 : Hid (z = C ui + q) := Lib.hid (by rw [HZ.out, if_pos hau])
     clear hau
     obtain ⟨pb0, Ab, mb, cb, pb0', Ab', mb', cb', b0, b1, b2, b3, hbr⟩ := HS1.out.at hlt
     have hbr2 : RatV U (.agg #[.bool pb0, .slice Ab mb cb, .bool pb0', .slice Ab' mb' cb']) (C ui) := by
      have h := hbr
      rw [if_pos rfl] at h; exact h
     clear hbr
     have hyB : RatB U _ (C ui) K := ⟨hbr2, HCU.out⟩
     have hqB : RatB U _ q K := hv.ext hE3
     have BB : Box U w.heap.size 58 _ := hF3.box B1 hB0b
     have kb0 : ∀ w', Later U w' → w'.cell? ⟨by', i * 4, none⟩ = some _ := fun w' h => Later.cell h b0
     have kb1 : ∀ w', Later U w' → w'.cell? ⟨by', i * 4 + 1, none⟩ = some _ := fun w' h => Later.cell h b1
     have kb2 : ∀ w', Later U w' → w'.cell? ⟨by', i * 4 + 2, none⟩ = some _ := fun w' h => Later.cell h b2
     have kb3 : ∀ w', Later U w' → w'.cell? ⟨by', i * 4 + 3, none⟩ = some _ := fun w' h => Later.cell h b3
     have kx0 : ∀ w', Later U w' → w'.cell? ⟨_, 0, none⟩ = some _ := fun w' h => (BB.ext h).c0
     have kx1 : ∀ w', Later U w' → w'.cell? ⟨_, 1, none⟩ = some _ := fun w' h => (BB.ext h).c1
     have kx2 : ∀ w', Later U w' → w'.cell? ⟨_, 2, none⟩ = some _ := fun w' h => (BB.ext h).c2
     have kx3 : ∀ w', Later U w' → w'.cell? ⟨_, 3, none⟩ = some _ := fun w' h => (BB.ext h).c3
     have ks := Later.refl U
     clear b0 b1 b2 b3
     go_upto_region 7 with fail
     go_region_with (first
      | (go_at_call 47; (with_reducible refine (qcs _ _ _ _ _ _ _ (RatB.ext hyB eAx) (RatB.ext hqB eAx) (by omega)).mono ?_); rintro e wl ⟨vl, rfl, hbl', hxl⟩; (obtain ⟨pl, Al, nl, cl, pl', Al', nl', cl', rfl⟩ := hbl'.1.shape); (have hlL : Ext U wl := Ext.trans eAx hxl); (have hRl := HS1.out.ext hlL); (have f0 := hRl.frozen (i * 4)); (have f1 := hRl.frozen (i * 4 + 1)); (have f2 := hRl.frozen (i * 4 + 2)); (have f3 := hRl.frozen (i * 4 + 3)); (obtain ⟨_, _, _, _, _, _, _, _, b0, b1, b2, b3, _⟩ := hRl.at hlt))
      )
     all_goals (
      obtain ⟨s1, s2⟩ := hRl.set hlt hbl'.1
      have hE4 : Ext w _ := ((((hE3.trans hlL).set (p := ⟨by', i * 4, none⟩) hbl (.bool pl)).set (p := ⟨by', i * 4 + 1, none⟩) hbl (.slice Al nl cl)).set (p := ⟨by', i * 4 + 2, none⟩) hbl (.bool pl')).set (p := ⟨by', i * 4 + 3, none⟩) hbl (.slice Al' nl' cl')
      go_wp2_with fail
      go_meet
      exact ⟨s1.congr (fun k hk => by
       by_cases h : k = i
       ·rw [if_pos h, if_pos h, HZ2.out]
       ·rw [if_neg h, if_neg h, if_neg h]), hE4, (hF3.step hlL).trans s2⟩)
    ·have e7 : decide ((art : Int) ≤ (ui : Int)) = false := by simp; omega
     have e8 : decide (art ≤ ui) = false := by simpa using hau
     have e9 : ¬ (art : Int) ≤ (ui : Int) := by omega
     have HZ2 : Hid (z = C ui) := Lib.hid (by rw [HZ.out, if_neg hau]; grind)
     clear hau
     go_wp2_with fail
     go_meet
     exact ⟨HS1.out.congr (fun k hk => by rw [HZ2.out]), hE3, hF3⟩
   case rest =>
    clear HS1 hE3 hF3 hd3 hT2 q5
    obtain ⟨hR, hx, hFb⟩ := hcut
    rename_i hK2
    refine hK2 _ _ ?_
    clear hK2
    have hT1 := hT.ext hx
    obtain ⟨-, -, -, h4⟩ := hT1.adr (by omega)
    have q4 : wc.cell? ⟨a.t, 4, none⟩ = some (.slice a.Af m a.cf) := hT1.self.cell 4
    rw [h4] at q4
    clear h4
    obtain ⟨fi, hfi⟩ : ∃ x, x = fl i := ⟨_, rfl⟩
    have q6 := hT1.flip i hlt
    rw [← hfi] at q6
    have HFI := Lib.hid hfi
    clear hfi
    obtain ⟨pb0, Ab, mb, cb, pb0', Ab', mb', cb', b0, b1, b2, b3, hbr⟩ := hR.at hlt
    have hbr2 : RatV wc (.agg #[.bool pb0, .slice Ab mb cb, .bool pb0', .slice Ab' mb' cb']) z := by
     have h := hbr
     rw [if_pos rfl] at h; exact h
    clear hbr
    cases fi with
    | false =>
      have HM : Hid (muV art C u fl q i = z) := Lib.hid (by unfold muV; rw [← HFI.out, if_neg (by decide), ← HUI.out, HZ.out])
      go_wp2_with fail
      go_roundw
      case rel => exact ⟨i + 1, by omega, by go_num, hR.congr (fun k hk => by
       by_cases h : k = i
       ·rw [if_pos h, if_pos (by omega), h, HM.out]
       ·rw [if_neg h]
        by_cases h2 : k < i
        ·rw [if_pos h2, if_pos (by omega)]
        ·rw [if_neg h2, if_neg (by omega)]), hx, hFb⟩
      case measure => simp [intOf]; omega
    | true =>
      have HM : Hid (muV art C u fl q i = -z) := Lib.hid (by unfold muV; rw [← HFI.out, if_pos rfl, ← HUI.out, HZ.out])
      go_wp2_with fail
      refine (qsz _ z (K + K + 1) _ ⟨hbr2, HZK.out⟩).mono ?_
      rintro e wl ⟨vl, rfl, hbl', hxl⟩
      obtain ⟨pl, Al, nl, cl, pl', Al', nl', cl', rfl⟩ := hbl'.1.shape
      have hRl := hR.ext hxl
      have f0 := hRl.frozen (i * 4)
      have f1 := hRl.frozen (i * 4 + 1)
      have f2 := hRl.frozen (i * 4 + 2)
      have f3 := hRl.frozen (i * 4 + 3)
      clear b0 b1 b2 b3
      obtain ⟨_, _, _, _, _, _, _, _, b0, b1, b2, b3, _⟩ := hRl.at hlt
      obtain ⟨s1, s2⟩ := hRl.set hlt hbl'.1
      have hE4 : Ext w _ := ((((hx.trans hxl).set (p := ⟨by', i * 4, none⟩) hbl (.bool pl)).set (p := ⟨by', i * 4 + 1, none⟩) hbl (.slice Al nl cl)).set (p := ⟨by', i * 4 + 2, none⟩) hbl (.bool pl')).set (p := ⟨by', i * 4 + 3, none⟩) hbl (.slice Al' nl' cl')
      have hF4 := (hFb.step hxl).trans s2
      go_wp2_with fail
      go_roundw
      case rel => exact ⟨i + 1, by omega, by go_num, s1.congr (fun k hk => by
       by_cases h : k = i
       ·rw [if_pos h, if_pos (by omega), h, HM.out]
       ·rw [if_neg h, if_neg h]
        by_cases h2 : k < i
        ·rw [if_pos h2, if_pos (by omega)]
        ·rw [if_neg h2, if_neg (by omega)]), hE4, hF4⟩
      case measure => simp [intOf]; omega
  ·obtain rfl : i = m := by omega
   go_wp2_with fail
   go_ret
   exact ⟨by', rfl, hR.congr (fun i hi => by rw [if_pos hi]), hx, hbl⟩
end Go.Proofs.YtljncdcjkdgkeaaGreatDoor.Lp

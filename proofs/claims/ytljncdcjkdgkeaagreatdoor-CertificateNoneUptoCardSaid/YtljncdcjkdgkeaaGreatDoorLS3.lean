/- Walk: pivot. Walk: the entering column. -/
import Derived.Test.YtljncdcjkdgkeaaGreatDoorLT
set_option linter.unusedVariables false
set_option linter.unusedSimpArgs false
namespace Go.Proofs.YtljncdcjkdgkeaaGreatDoor.Lp
open Go.RowKit Go.Proofs.YtljncdcjkdgkeaaGreatDoor.Big Go.Proofs.YtljncdcjkdgkeaaGreatDoor.Rt

def PivPost (a : TA) (m W art bc : Nat) (cv : Value) (w : World) (R : Nat → Nat → Rat) (C : Nat → Rat) (b u : Nat → Nat) (fl : Nat → Bool) (e : Ending) (w' : World) : Prop :=
  e = .returned (.tuple #[]) ∧ Tab a m W art w' cv R b u fl ∧ Cst a m W w' bc C ∧ Fr (tP a m bc) w w'
theorem QB0 {k : Nat} (hk : 0 < k) : QB k 0 := by
  refine ⟨?_, ?_⟩
  · show B k 0
    have := pw_le hk; rw [pw_one] at this; unfold B; simp; omega
  · exact B_one hk
/-- the rows during a pivot: row r and those below i are done -/
def pvT (R : Nat → Nat → Rat) (r c i : Nat) (k j : Nat) : Rat := if k = r ∨ k < i then pvR R r c k j else R k j
set_option maxHeartbeats 8000000 in
theorem pivot_b (a : TA) (m W art bc r c : Nat) (R : Nat → Nat → Rat) (C : Nat → Rat) (b u : Nat → Nat) (fl : Nat → Bool) (K : Nat) (w : World)
    (hT : Tab a m W art w (.slice (some ⟨bc, 0, none⟩) (W + 1) (W + 1)) R b u fl) (hC : Cst a m W w bc C) (hr : r < m) (hc : c < W) (h0 : R r c ≠ 0)
    (hR : ∀ i, i < m → ∀ j, j ≤ W → QB K (R i j)) (hQ : ∀ j, j ≤ W → QB K (C j)) (hK : K ≤ 268435456) (hm : m ≤ 1099511627776) (hW : W < 1099511627776) :
    Calls Tryz.prog 170 #[.pointer (some ⟨a.t, 0, none⟩), .int .i64 (r : Int), .int .i64 (c : Int)] w (PivPost a m W art bc (.slice (some ⟨bc, 0, none⟩) (W + 1) (W + 1)) w (pvR R r c) (pvC R C r c) (pvB b r c) u fl) := by
  obtain ⟨hAr, hAb, hAu, hAf⟩ := hT.adr (by omega)
  have hse := hT.self
  rw [hAr, hAb, hAu, hAf] at hse
  have s0 := hse.c0
  have r0 := hT.rows r hr
  have HH := Lib.hid h0
  have HR := Lib.hid hR
  have HQ := Lib.hid hQ
  have hcap := hT.cap.1
  clear h0 hR hQ
  obtain ⟨p1, A1, m1, c1, p1', A1', m1', c1', e0, e1, e2, e3, hd⟩ := (hT.row r hr).at (j := c) (by omega)
  go_enter Tryz.func170, Tryz.ntmps170
  go_wp2_with fail
  have B0 := Box.new w 58 #[.bool p1, .slice A1 m1 c1, .bool p1', .slice A1' m1' c1']
  have hE0 : Ext w (w.alloc (.cells #[.bool p1, .slice A1 m1 c1, .bool p1', .slice A1' m1' c1'] 58)) := (Ext.refl w).alloc _
  have hsz : w.heap.size < (w.alloc (.cells #[.bool p1, .slice A1 m1 c1, .bool p1', .slice A1' m1' c1'] 58)).heap.size := by simp
  generalize (w.alloc (.cells #[.bool p1, .slice A1 m1 c1, .bool p1', .slice A1' m1' c1'] 58)) = V at *
  have hT0 := hT.ext hE0
  have hC0 := hC.ext hE0
  have hd0 := hd.ext hE0
  have hrl := (hT.row r hr).lt
  have hBr : w.heap.size ≠ a.rw r := by omega
  clear e0 e1 e2 e3 hd r0 s0 hse hT hC
  have hRow := hT0.row r hr
  obtain ⟨d, hdd⟩ : ∃ d, d = R r c := ⟨_, rfl⟩
  obtain ⟨D, hDD⟩ : ∃ D : Value, D = .agg #[.bool p1, .slice A1 m1 c1, .bool p1', .slice A1' m1' c1'] := ⟨_, rfl⟩
  have hdB : RatB V (.agg #[.bool p1, .slice A1 m1 c1, .bool p1', .slice A1' m1' c1']) d K := by rw [hdd]; exact ⟨hd0, HR.out r hr c (by omega)⟩
  have HN0 : Hid (d.num ≠ 0) := Lib.hid (by rw [hdd]; exact fun h => HH.out (Rat.num_eq_zero.1 h))
  have HDD := Lib.hid hdd
  clear hdd hd0 hDD
  go_loopw [25] (fun i wr => ∃ j : Nat, j ≤ W + 1 ∧ i = .int .i64 j ∧ RowR wr (a.rw r) (W + 1) (fun i => if i < j then R r i / d else R r i) ∧ Fr (fun k => k = a.rw r) V wr) (fun i _ => W + 1 - (intOf i).toNat)
  case atStart => exact ⟨0, by omega, rfl, hRow.congr (fun j _ => by rw [if_neg (by omega)]), Fr.refl _ _⟩
  case round =>
    obtain ⟨j, hj, rfl, hRw, hF⟩ := hrel
    by_cases hlt : j < W + 1
    · obtain ⟨p2, A2, m2, c2, p2', A2', m2', c2', e0, e1, e2, e3, hx⟩ := hRw.at hlt
      rw [if_neg (by omega)] at hx
      go_wp2_with fail
      have Bx := Box.new wr 58 #[.bool p2, .slice A2 m2 c2, .bool p2', .slice A2' m2' c2']
      have hEx : Ext wr (wr.alloc (.cells #[.bool p2, .slice A2 m2 c2, .bool p2', .slice A2' m2' c2'] 58)) := (Ext.refl wr).alloc _
      refine (RatSign_b _ (R r j) K _ ⟨hx.ext hEx, HR.out r hr j (by omega)⟩).mono ?_
      rintro e w1 ⟨rfl, hx1⟩
      have hE1 := hEx.trans hx1
      have hF1 := hF.step hE1
      have hR1 := hRw.ext hE1
      have hxa : RatB w1 _ (R r j) K := ⟨hx.ext hE1, HR.out r hr j (by omega)⟩
      obtain ⟨y, hy⟩ : ∃ y, y = R r j := ⟨_, rfl⟩
      rw [← hy] at hxa ⊢
      obtain ⟨sg, hsg⟩ : ∃ s, s = y.num.sign := ⟨_, rfl⟩
      rw [← hsg]
      by_cases hg0 : y = 0
      · have e5 : (sg != 0) = false := by rw [hsg, hg0]; rfl
        have HG0 : Hid (R r j = 0) := Lib.hid (hy.symm.trans hg0)
        clear hg0 hsg hy
        go_wp2_with fail
        exact ⟨⟨j + 1, by omega, by go_num, hR1.congr (fun i _ => by
          by_cases h1 : i < j
          · rw [if_pos h1, if_pos (by omega)]
          · rw [if_neg h1]
            by_cases h2 : i < j + 1
            · obtain rfl : i = j := by omega
              rw [if_pos h2, HG0.out]; grind
            · rw [if_neg h2]), hF1⟩, by simp [intOf]; omega⟩
      · have e5 : (sg != 0) = true := by rw [hsg]; have := sign_ne (x := y.num) (fun h => hg0 (Rat.num_eq_zero.1 h)); simpa using this
        have HY := Lib.hid hy
        clear hsg hg0 hy
        have Bx := Bx.ext hx1
        have By := hF1.box B0 hBr
        have kx0 := Bx.c0
        have kx1 := Bx.c1
        have kx2 := Bx.c2
        have kx3 := Bx.c3
        have ky0 := By.c0
        have ky1 := By.c1
        have ky2 := By.c2
        have ky3 := By.c3
        clear e0 e1 e2 e3
        go_wp2_with fail
        refine (RatDiv_b _ _ y d K K w1 hxa (hF1.ratB hdB) (by omega) HN0.out).mono ?_
        rintro e w2 ⟨v2, rfl, hb2, hx2⟩
        obtain ⟨p3, A3, m3, c3, p3', A3', m3', c3', rfl⟩ := hb2.1.shape
        have hR2 := hR1.ext hx2
        have f0 := hR2.frozen (j * 4)
        have f1 := hR2.frozen (j * 4 + 1)
        have f2 := hR2.frozen (j * 4 + 2)
        have f3 := hR2.frozen (j * 4 + 3)
        obtain ⟨_, _, _, _, _, _, _, _, b0, b1, b2, b3, _⟩ := hR2.at hlt
        obtain ⟨s1, s2⟩ := hR2.set hlt hb2.1
        go_wp2_with fail
        exact ⟨⟨j + 1, by omega, by go_num, s1.congr (fun i _ => by
            by_cases h1 : i < j
            · rw [if_neg (by omega), if_pos h1, if_pos (by omega)]
            · by_cases h2 : i < j + 1
              · obtain rfl : i = j := by omega
                rw [if_pos rfl, if_pos h2, HY.out]
              · rw [if_neg (by omega), if_neg h1, if_neg h2]), (hF1.step hx2).trans s2⟩, by simp [intOf]; omega⟩
    · obtain rfl : j = W + 1 := by omega
      rw [show ((W + 1 : Nat) : Int) = (W : Int) + 1 from rfl]
      have hT1 := hT0.put hr hRw hF
      have hC1 := hC0.fr hF (hC0.nr r hr)
      have hT2 := hT1.congr (R' := pvT R r c 0) (fun k hk j hj => by
        unfold pvT
        by_cases e : k = r
        · rw [if_pos e, if_pos (show j < W + 1 by omega), if_pos (show k = r ∨ k < 0 from .inl e), e, pvR_r, HDD.out]
        · rw [if_neg e, if_neg (show ¬ (k = r ∨ k < 0) by omega)])
      have hF2 : Fr (tP a m bc) V wr := hF.weak (fun k hk => .inl ⟨r, hr, hk⟩)
      have HGB : Hid (∀ j, j < W + 1 → QB (K + K) (R r j / d)) := Lib.hid (fun j hj => QB_div (HR.out r hr j (by omega)) hdB.2 HN0.out)
      clear hT1 hF hRw hdB
      have hse := hT2.self
      rw [hAr, hAb, hAu, hAf] at hse
      have q0 := hse.c0
      go_wp2_with fail
      clear q0 hse
      go_loopw [48] (fun i ws => ∃ k : Nat, k ≤ m ∧ i = .int .i64 k ∧ Tab a m W art ws (.slice (some ⟨bc, 0, none⟩) (W + 1) (W + 1)) (pvT R r c k) b u fl ∧ Cst a m W ws bc C ∧ Fr (tP a m bc) V ws) (fun i _ => m - (intOf i).toNat)
      case atStart => exact ⟨0, by omega, rfl, hT2, hC1, hF2⟩
      case round =>
        clear hT2 hC1 hF2
        obtain ⟨i, hi, rfl, hT, hC, hF⟩ := hrel
        have hRr : RowR wr (a.rw r) (W + 1) (fun j => R r j / d) := (hT.row r hr).congr (fun j _ => by show pvT R r c i r j = R r j / d; unfold pvT; rw [if_pos (.inl rfl), pvR_r, HDD.out])
        by_cases hlt : i < m
        · have q1 := hT.rows i hlt
          by_cases hir : i = r
          · have e6 : ((i : Int) != (r : Int)) = false := by simp [hir]
            have HIR := Lib.hid hir
            clear hir
            go_wp2_with fail
            have hir := HIR.out
            exact ⟨⟨i + 1, by omega, by go_num, hT.congr (fun k hk j hj => by
              unfold pvT
              by_cases h1 : k = r ∨ k < i
              · rw [if_pos h1, if_pos (by omega)]
              · rw [if_neg h1, if_neg (by omega)]), hC, hF⟩, by simp [intOf]; omega⟩
          · have e6 : ((i : Int) != (r : Int)) = true := by simp; omega
            have hRi : RowR wr (a.rw i) (W + 1) (R i) := (hT.row i hlt).congr (fun j _ => by unfold pvT; rw [if_neg (by omega)])
            obtain ⟨p2, A2, m2, c2, p2', A2', m2', c2', e0, e1, e2, e3, hx⟩ := hRi.at (j := c) (by omega)
            go_wp2_with fail
            refine (RatSign_b _ (R i c) K _ ⟨hx, HR.out i hlt c (by omega)⟩).mono ?_
            rintro e w1 ⟨rfl, hx1⟩
            have hT1 := hT.ext hx1
            have hC1 := hC.ext hx1
            have hF1 := hF.step hx1
            have hxa : RatB w1 _ (R i c) K := ⟨hx.ext hx1, HR.out i hlt c (by omega)⟩
            obtain ⟨y, hy⟩ : ∃ y, y = R i c := ⟨_, rfl⟩
            rw [← hy] at hxa ⊢
            obtain ⟨sg, hsg⟩ : ∃ s, s = y.num.sign := ⟨_, rfl⟩
            rw [← hsg]
            by_cases hg0 : y = 0
            · have e5 : (sg != 0) = false := by rw [hsg, hg0]; rfl
              have HG0 : Hid (R i c = 0) := Lib.hid (hy.symm.trans hg0)
              clear hg0 hsg hy
              go_wp2_with fail
              have hT2 := hT1.congr (R' := pvT R r c (i + 1)) (fun k hk j hj => by
                unfold pvT
                by_cases h1 : k = r ∨ k < i
                · rw [if_pos h1, if_pos (by omega)]
                · rw [if_neg h1]
                  by_cases h2 : k = i
                  · subst h2; rw [if_pos (by omega), pvR_ne R c j hir, HG0.out]; grind
                  · rw [if_neg (by omega)])
              go_roundw
              case rel => exact ⟨i + 1, by omega, by go_num, hT2, hC1, hF1⟩
              case measure => simp [intOf]; omega
            · have e5 : (sg != 0) = true := by rw [hsg]; have := sign_ne (x := y.num) (fun h => hg0 (Rat.num_eq_zero.1 h)); simpa using this
              have HY := Lib.hid hy
              clear hsg hg0 hy
              have e0 := hx1.cell e0
              have e1 := hx1.cell e1
              have e2 := hx1.cell e2
              have e3 := hx1.cell e3
              go_wp2_with fail
              refine (subtract_b (a.rw i) (a.rw r) (W + 1) (W + 1) (W + 1) (R i) (fun j => R r j / d) _ y (K + K) w1 (fun e => hir (hT.inj r hr i hlt e).symm) (hRi.ext hx1) (hRr.ext hx1) ⟨hxa.1, QB_mono (by omega) hxa.2⟩ (fun j hj => QB_mono (by omega) (HR.out i hlt j (by omega))) HGB.out (by omega) (by omega)).mono ?_
              rintro e w2 ⟨rfl, hs1, hs2⟩
              have hT2 := (hT1.put hlt hs1 hs2).congr (R' := pvT R r c (i + 1)) (fun k hk j hj => by
                unfold pvT
                by_cases h2 : k = i
                · subst h2; rw [if_pos rfl, if_pos (by omega), pvR_ne R c j hir, HY.out, HDD.out]
                · rw [if_neg h2]
                  by_cases h1 : k = r ∨ k < i
                  · rw [if_pos h1, if_pos (by omega)]
                  · rw [if_neg h1, if_neg (by omega)])
              have hC2 := hC1.fr hs2 (hC.nr i hlt)
              have hF2 : Fr (tP a m bc) V w2 := hF1.trans (hs2.weak (fun k hk => .inl ⟨i, hlt, hk⟩))
              go_wp2_with fail
              go_roundw
              case rel => exact ⟨i + 1, by omega, by go_num, hT2, hC2, hF2⟩
              case measure => simp [intOf]; omega
        · obtain rfl : i = m := by omega
          have hT := hT.congr (R' := pvR R r c) (fun k hk j hj => by unfold pvT; rw [if_pos (by omega)])
          have hse := hT.self
          rw [hAr, hAb, hAu, hAf] at hse
          have q1 := hse.c1
          obtain ⟨p2, A2, m2, c2, p2', A2', m2', c2', e0, e1, e2, e3, hx⟩ := hC.row.at (j := c) (by omega)
          go_wp2_with fail
          refine (RatSign_b _ (C c) K _ ⟨hx, HQ.out c (by omega)⟩).mono ?_
          rintro e w1 ⟨rfl, hx1⟩
          have hT1 := hT.ext hx1
          have hC1 := hC.ext hx1
          have hF1 := hF.step hx1
          have hxa : RatB w1 _ (C c) K := ⟨hx.ext hx1, HQ.out c (by omega)⟩
          have hse := hT1.self
          rw [hAr, hAb, hAu, hAf] at hse
          obtain ⟨y, hy⟩ : ∃ y, y = C c := ⟨_, rfl⟩
          rw [← hy] at hxa ⊢
          obtain ⟨sg, hsg⟩ : ∃ s, s = y.num.sign := ⟨_, rfl⟩
          rw [← hsg]
          by_cases hg0 : y = 0
          · have e5 : (sg != 0) = false := by rw [hsg, hg0]; rfl
            have hC2 := hC1.congr (C' := pvC R C r c) (fun j hj => by unfold pvC; rw [← hy, hg0]; grind)
            have q2 := hse.c2
            have b0 := hT1.bas r hr
            have bf := hT1.basF r hr
            obtain ⟨s1, s2⟩ := hT1.putB hr c
            have hbc := (hC2.nb (by omega)).2.1
            clear hg0 hsg hy q1
            go_wp2_with fail
            go_end0
            exact ⟨rfl, s1, hC2.fr s2 hbc, ((Fr.of hE0).trans hF1).trans (s2.weak (fun k hk => .inr (.inr ⟨by omega, hk⟩)))⟩
          · have e5 : (sg != 0) = true := by rw [hsg]; have := sign_ne (x := y.num) (fun h => hg0 (Rat.num_eq_zero.1 h)); simpa using this
            have HY := Lib.hid hy
            clear hsg hg0 hy q1
            have q1 := hse.c1
            have e0 := hx1.cell e0
            have e1 := hx1.cell e1
            have e2 := hx1.cell e2
            have e3 := hx1.cell e3
            have ka0 : ∀ w', Later w1 w' → w'.cell? ⟨bc, c * 4, none⟩ = some _ := fun w' h => Later.cell h e0
            have ka1 : ∀ w', Later w1 w' → w'.cell? ⟨bc, c * 4 + 1, none⟩ = some _ := fun w' h => Later.cell h e1
            have ka2 : ∀ w', Later w1 w' → w'.cell? ⟨bc, c * 4 + 2, none⟩ = some _ := fun w' h => Later.cell h e2
            have ka3 : ∀ w', Later w1 w' → w'.cell? ⟨bc, c * 4 + 3, none⟩ = some _ := fun w' h => Later.cell h e3
            have ka4 : ∀ w', Later w1 w' → w'.cell? ⟨a.t, 1, none⟩ = some _ := fun w' h => Later.cell h q1
            have ks := Later.refl w1
            clear e0 e1 e2 e3 q1
            have hRr : RowR w1 (a.rw r) (W + 1) (fun j => R r j / d) := (hT1.row r hr).congr (fun j _ => by rw [pvR_r, HDD.out])
            have hxa2 : RatB w1 _ y (K + K) := ⟨hxa.1, QB_mono (by omega) hxa.2⟩
            have HQ2 : ∀ j, j < W + 1 → QB (K + K) (C j) := fun j hj => QB_mono (by omega) (HQ.out j (by omega))
            have HQ2 := Lib.hid HQ2
            have hne2 : a.rw r ≠ bc := fun e => hC.nr r hr e.symm
            go_upto_region 15 with fail
            go_region_with (first | (go_at_call 169; (with_reducible refine (subtract_b bc (a.rw r) (W + 1) (W + 1) (W + 1) C (fun j => R r j / d) _ y (K + K) _ hne2 (hC1.row.ext (by repeat (first | (with_reducible exact Ext.refl _) | (with_reducible apply Ext.drew) | (with_reducible apply Ext.drewN)))) (hRr.ext (by repeat (first | (with_reducible exact Ext.refl _) | (with_reducible apply Ext.drew) | (with_reducible apply Ext.drewN)))) (RatB.ext hxa2 (by repeat (first | (with_reducible exact Ext.refl _) | (with_reducible apply Ext.drew) | (with_reducible apply Ext.drewN)))) HQ2.out HGB.out (by omega) (by omega)).mono ?_); rintro e w2 ⟨rfl, hs1, hs2⟩))
            all_goals (
              have hbc := (hC1.nb (by omega)).2.1
              have hF2 : Fr (fun k => k = bc) w1 w2 := Fr.trans (Fr.of (by repeat (first | (with_reducible exact Ext.refl _) | (with_reducible apply Ext.drew) | (with_reducible apply Ext.drewN)))) hs2
              have hT2 := hT1.fr hF2 (fun e => hC1.nt e.symm) (fun hm => ⟨fun e => (hC1.nb hm).1 e.symm, fun e => (hC1.nb hm).2.1 e.symm, fun e => (hC1.nb hm).2.2.1 e.symm, fun e => (hC1.nb hm).2.2.2 e.symm⟩) (fun k hk e => hC1.nr k hk e.symm)
              have hC2 : Cst a i W w2 bc (pvC R C r c) := ⟨hs1.congr (fun j hj => by unfold pvC; rw [HY.out, HDD.out]), hC1.nt, hC1.nr, hC1.nb⟩
              have hse := hT2.self
              rw [hAr, hAb, hAu, hAf] at hse
              have q2 := hse.c2
              have b0 := hT2.bas r hr
              have bf := hT2.basF r hr
              obtain ⟨s1, s2⟩ := hT2.putB hr c
              go_wp2_with fail
              go_end0
              exact ⟨rfl, s1, hC2.fr s2 hbc, (((Fr.of hE0).trans hF1).trans (hF2.weak (fun k hk => .inr (.inl hk)))).trans (s2.weak (fun k hk => .inr (.inr ⟨by omega, hk⟩)))⟩)
end Go.Proofs.YtljncdcjkdgkeaaGreatDoor.Lp

namespace Go.Proofs.YtljncdcjkdgkeaaGreatDoor.Lp
open Go.RowKit Go.Proofs.YtljncdcjkdgkeaaGreatDoor.Big Go.Proofs.YtljncdcjkdgkeaaGreatDoor.Rt

/-- an index, or -1 -/
def optI : Option Nat → Int | none => -1 | some k => (k : Int)
theorem entL_ge {C : Nat → Rat} {f : Bool} {j : Nat} (h : ¬ C j < 0) : entL C f (j + 1) = entL C f j := by
  show (match entL C f j with | none => if C j < 0 then some j else none | some k => if f = true then some k else if C j < 0 ∧ C j < C k then some j else some k) = _
  split
  · next e => rw [if_neg h, e]
  · next k e => rw [e, if_neg (c := C j < 0 ∧ C j < C k) (fun h' => h h'.1)]; split <;> rfl
theorem entL_first {C : Nat → Rat} {j n : Nat} (h : entL C true j = none) (h0 : C j < 0) (hn : j < n) : entL C true n = some j := by
  obtain ⟨d, rfl⟩ : ∃ d, n = j + 1 + d := ⟨n - (j + 1), by omega⟩
  clear hn
  induction d with
  | zero =>
    show (match entL C true j with | none => if C j < 0 then some j else none | some k => if true = true then some k else if C j < 0 ∧ C j < C k then some j else some k) = _
    rw [h]; exact if_pos h0
  | succ d ih =>
    show (match entL C true (j + 1 + d) with | none => if C (j + 1 + d) < 0 then some (j + 1 + d) else none | some k => if true = true then some k else if C (j + 1 + d) < 0 ∧ C (j + 1 + d) < C k then some (j + 1 + d) else some k) = _
    rw [ih]; exact if_pos rfl
theorem entL_new {C : Nat → Rat} {f : Bool} {j : Nat} (h : entL C f j = none) (h0 : C j < 0) : entL C f (j + 1) = some j := by
  show (match entL C f j with | none => if C j < 0 then some j else none | some k => if f = true then some k else if C j < 0 ∧ C j < C k then some j else some k) = _
  rw [h]; exact if_pos h0
theorem entL_old {C : Nat → Rat} {j k : Nat} (h : entL C false j = some k) (h0 : C j < 0) : entL C false (j + 1) = if C j < C k then some j else some k := by
  show (match entL C false j with | none => if C j < 0 then some j else none | some k => if false = true then some k else if C j < 0 ∧ C j < C k then some j else some k) = _
  rw [h]
  show (if false = true then some k else if C j < 0 ∧ C j < C k then some j else some k) = _
  rw [if_neg (by decide)]
  by_cases h1 : C j < C k
  · rw [if_pos ⟨h0, h1⟩, if_pos h1]
  · rw [if_neg (fun e => h1 e.2), if_neg h1]
theorem num_neg {q : Rat} : q < 0 ↔ q.num < 0 := by
  rw [← Rat.not_le, ← Int.not_le, Rat.num_nonneg]
def IdxPost (w : World) (o : Option Nat) (e : Ending) (w' : World) : Prop := e = .returned (.int .i64 (optI o)) ∧ Ext w w'
set_option maxHeartbeats 8000000 in
theorem entering_b (a : TA) (m W art bc : Nat) (R : Nat → Nat → Rat) (C : Nat → Rat) (b u : Nat → Nat) (fl : Nat → Bool) (first : Bool) (K : Nat) (w : World)
    (hT : Tab a m W art w (.slice (some ⟨bc, 0, none⟩) (W + 1) (W + 1)) R b u fl) (hC : Cst a m W w bc C)
    (hQ : ∀ j, j ≤ W → QB K (C j)) (hK : K ≤ 268435456) (ha : art ≤ W) (hW : W < 1099511627776) :
    Calls Tryz.prog 171 #[.pointer (some ⟨a.t, 0, none⟩), .bool first] w (IdxPost w (entL C first art)) := by
  obtain ⟨o, ho⟩ : ∃ o, o = entL C first art := ⟨_, rfl⟩
  rw [← ho]
  have HO := Lib.hid ho
  have HQ := Lib.hid hQ
  clear ho hQ
  have q5 : w.cell? ⟨a.t, 5, none⟩ = some (.int .i64 (art : Int)) := hT.self.cell 5
  go_enter Tryz.func171, Tryz.ntmps171
  go_wp2_with fail
  go_loopw [5, 11] (fun bv i wr => ∃ (j : Nat) (p : Option Nat), j ≤ art ∧ i = .int .i64 j ∧ bv = .int .i64 (optI p) ∧ Hid (p = entL C first j) ∧ (first = true → p = none) ∧ Ext w wr) (fun _ i _ => art - (intOf i).toNat)
  case atStart => exact ⟨0, none, by omega, rfl, rfl, Lib.hid rfl, fun _ => rfl, Ext.refl w⟩
  case round =>
    obtain ⟨j, p, hj, rfl, rfl, HP, hf, hx⟩ := hrel
    by_cases hlt : j < art
    · have hT1 := hT.ext hx
      have hC1 := hC.ext hx
      have q1 : wr.cell? ⟨a.t, 1, none⟩ = some _ := hT1.self.cell 1
      obtain ⟨p1, A1, m1, c1, p1', A1', m1', c1', e0, e1, e2, e3, hd⟩ := hC1.row.at (j := j) (by omega)
      go_wp2_with fail
      refine (RatSign_b _ (C j) K _ ⟨hd, HQ.out j (by omega)⟩).mono ?_
      rintro e w1 ⟨rfl, hx1⟩
      have hX1 := hx.trans hx1
      obtain ⟨y, hy⟩ : ∃ y, y = C j := ⟨_, rfl⟩
      have HY := Lib.hid hy
      rw [← hy] at hd ⊢
      clear hy
      obtain ⟨sg, hsg⟩ : ∃ s, s = y.num.sign := ⟨_, rfl⟩
      rw [← hsg]
      by_cases hn : y < 0
      · have e5 : decide (0 ≤ sg) = false := by rw [hsg, Int.sign_eq_neg_one_of_neg (num_neg.1 hn)]; rfl
        have HN := Lib.hid hn
        clear hsg hn
        cases first with
        | true =>
          obtain rfl := hf rfl
          have HE : Hid (o = some j) := Lib.hid (by rw [HO.out]; exact entL_first HP.out.symm (by rw [← HY.out]; exact HN.out) hlt)
          go_wp2_with fail
          go_ret
          exact ⟨by rw [HE.out]; rfl, hX1⟩
        | false =>
          have q1 := hx1.cell q1
          have e0 := hx1.cell e0
          have e1 := hx1.cell e1
          have e2 := hx1.cell e2
          have e3 := hx1.cell e3
          cases p with
          | none =>
            rw [show optI none = -1 from rfl]
            go_upto_region 8 with fail
            go_region
            have HE : Hid (some j = entL C false (j + 1)) := Lib.hid (entL_new HP.out.symm (by rw [← HY.out]; exact HN.out)).symm
            all_goals (
              go_wp2_with fail
              go_roundw
              case rel => exact ⟨j + 1, some j, by omega, by go_num, rfl, HE, (fun h => by cases h), hX1.drew⟩
              case measure => simp [intOf]; omega)
          | some k =>
            have hkj := (entL_some HP.out.symm).1
            rw [show optI (some k) = (k : Int) from rfl]
            obtain ⟨z, hz⟩ : ∃ z, z = C k := ⟨_, rfl⟩
            obtain ⟨p2, A2, m2, c2, p2', A2', m2', c2', g0, g1, g2, g3, hz2⟩ := hC1.row.at (j := k) (by omega)
            have g0 := hx1.cell g0
            have g1 := hx1.cell g1
            have g2 := hx1.cell g2
            have g3 := hx1.cell g3
            have hya : RatB w1 _ y K := ⟨hd.ext hx1, by rw [HY.out]; exact HQ.out j (by omega)⟩
            have hza : RatB w1 _ z K := ⟨by rw [hz]; exact hz2.ext hx1, by rw [hz]; exact HQ.out k (by omega)⟩
            have HE : Hid (entL C false (j + 1) = if y < z then some j else some k) := Lib.hid (by rw [hz, HY.out]; exact entL_old HP.out.symm (by rw [← HY.out]; exact HN.out))
            obtain ⟨cq, hcq⟩ : ∃ c, c = cmpQ y z := ⟨_, rfl⟩
            have HCQ := Lib.hid hcq
            clear hz2 hz hcq
            have kq : ∀ w', Later w1 w' → w'.cell? ⟨a.t, 1, none⟩ = some _ := fun w' h => Later.cell h q1
            have k0 : ∀ w', Later w1 w' → w'.cell? ⟨bc, j * 4, none⟩ = some _ := fun w' h => Later.cell h e0
            have k1 : ∀ w', Later w1 w' → w'.cell? ⟨bc, j * 4 + 1, none⟩ = some _ := fun w' h => Later.cell h e1
            have k2 : ∀ w', Later w1 w' → w'.cell? ⟨bc, j * 4 + 2, none⟩ = some _ := fun w' h => Later.cell h e2
            have k3 : ∀ w', Later w1 w' → w'.cell? ⟨bc, j * 4 + 3, none⟩ = some _ := fun w' h => Later.cell h e3
            have l0 : ∀ w', Later w1 w' → w'.cell? ⟨bc, k * 4, none⟩ = some _ := fun w' h => Later.cell h g0
            have l1 : ∀ w', Later w1 w' → w'.cell? ⟨bc, k * 4 + 1, none⟩ = some _ := fun w' h => Later.cell h g1
            have l2 : ∀ w', Later w1 w' → w'.cell? ⟨bc, k * 4 + 2, none⟩ = some _ := fun w' h => Later.cell h g2
            have l3 : ∀ w', Later w1 w' → w'.cell? ⟨bc, k * 4 + 3, none⟩ = some _ := fun w' h => Later.cell h g3
            have ks := Later.refl w1
            have i1 : (0 : Int) ≤ (j : Int) := by omega
            have i2 : (j : Int) < (W : Int) + 1 := by omega
            have i3 : (0 : Int) ≤ (k : Int) := by omega
            have i4 : (k : Int) < (W : Int) + 1 := by omega
            have i5 : decide ((k : Int) < 0) = false := by simp
            clear q1 e0 e1 e2 e3 g0 g1 g2 g3
            go_upto_region 8 with fail
            go_region_held3 (fun w' => Later w1 w') ((repeat (first | assumption | apply Later.drew | apply Later.drewN | apply Later.alloc | (refine Later.step ?_ (by assumption))))) (first
              | (go_at_call 23; (with_reducible refine (RatCmp_b _ _ _ _ _ _ _ (RatB.ext hya (by repeat (first | (with_reducible exact Ext.refl _) | (with_reducible apply Ext.drew) | (with_reducible apply Ext.drewN)))) (RatB.ext hza (by repeat (first | (with_reducible exact Ext.refl _) | (with_reducible apply Ext.drew) | (with_reducible apply Ext.drewN)))) (by omega)).mono ?_); rintro e w2 ⟨rfl, hx2⟩; rw [← HCQ.out])
              )
            by_cases hyz : y < z
            · have e7 : decide (cq < 0) = true := by rw [HCQ.out]; unfold cmpQ; rw [if_pos hyz]; rfl
              have HE2 : Hid (some j = entL C false (j + 1)) := Lib.hid (by rw [HE.out, if_pos hyz])
              clear hyz
              all_goals (
                rw [e7]
                clear e7
                go_wp2_with fail
                go_roundw
                case rel => exact ⟨j + 1, some j, by omega, by go_num, rfl, HE2, (fun h => by cases h), hX1.trans (show Later w1 _ by assumption)⟩
                case measure => simp [intOf]; omega)
            · have e7 : decide (cq < 0) = false := by rw [HCQ.out]; unfold cmpQ; rw [if_neg hyz]; split <;> rfl
              have HE2 : Hid (some k = entL C false (j + 1)) := Lib.hid (by rw [HE.out, if_neg hyz])
              clear hyz
              all_goals (
                rw [e7]
                clear e7
                go_wp2_with fail
                go_roundw
                case rel => exact ⟨j + 1, some k, by omega, by go_num, rfl, HE2, (fun h => by cases h), hX1.trans (show Later w1 _ by assumption)⟩
                case measure => simp [intOf]; omega)
      · have e5 : decide (0 ≤ sg) = true := by
          rw [hsg]
          rcases sign_cases y.num with ⟨a, b⟩ | ⟨a, b⟩ | ⟨a, b⟩ <;> rw [b] <;> first | rfl | exact absurd (num_neg.2 a) hn
        have HE := Lib.hid (entL_ge (f := first) (C := C) (j := j) (by rw [← HY.out]; exact hn))
        clear hsg hn
        go_wp2_with fail
        go_roundw
        case rel => exact ⟨j + 1, p, by omega, by go_num, rfl, Lib.hid (by rw [HE.out]; exact HP.out), hf, hX1⟩
        case measure => simp [intOf]; omega
    · obtain rfl : j = art := by omega
      have HE : Hid (optI p = optI o) := Lib.hid (by rw [HO.out, HP.out])
      go_wp2_with fail
      go_ret
      exact ⟨by rw [HE.out]; rfl, hx⟩
end Go.Proofs.YtljncdcjkdgkeaaGreatDoor.Lp

/- The reference's numbers: Mul walked. The reference's product with a bound of magnitude. -/
import Derived.Test.YtginogcdjplhiaaGreatDoorR5
import Derived.Test.YtginogcdjplhiaaGreatDoorRArr
import Derived.Test.YtginogcdjplhiaaGreatDoorR8
set_option linter.unusedVariables false
set_option linter.unusedSimpArgs false
namespace Go.Proofs.YtginogcdjplhiaaGreatDoor.Ten
open Go.RowKit Go.Proofs.YtginogcdjplhiaaGreatDoor.Big
attribute [local go_sem ↓] Go.wp_at_zero Go.wp_at_succ

/-- the row of the product: row i done, and row i + 1 up to place j -/
def RowT (w : World) (b N : Nat) (X Y i j : Nat) : Prop := ∃ f, ArrK .i64 w b N 3 f ∧ ∀ p, p < N → f p = if p < i + j then dg (prow X Y (i + 1)) p else dg (prow X Y i) p
section
variable {w w' : World} {b N X Y i j : Nat}
theorem RowT.ext (h : RowT w b N X Y i j) (k : Ext w w') : RowT w' b N X Y i j := by
  obtain ⟨f, h1, h2⟩ := h
  exact ⟨f, h1.ext k, h2⟩
theorem RowT.cell (h : RowT w b N X Y i j) (hj : i + j < N) : w.cell? ⟨b, i + j, none⟩ = some (.int .i64 (dg (prow X Y i) (i + j) : Nat)) := by
  obtain ⟨f, h1, h2⟩ := h
  rw [h1.cell hj, h2 _ hj, if_neg (by omega)]
theorem RowT.frozen (h : RowT w b N X Y i j) (p : Nat) : w.frozen? ⟨b, p, none⟩ = false := by obtain ⟨f, h, _⟩ := h; exact h.frozen p
theorem RowT.step (h : RowT w b N X Y i j) {e : Int} (he : e = (dg (prow X Y (i + 1)) (i + j) : Nat)) : RowT (w.setCell ⟨b, i + j, none⟩ (.int .i64 e)) b N X Y i (j + 1) := by
  obtain ⟨f, h1, h2⟩ := h
  refine ⟨_, h1.setI (i + j) e _ he, fun p hp => ?_⟩
  by_cases hpj : p = i + j
  · subst hpj; simp
  · simp only [hpj, if_false]
    rw [h2 p hp]
    by_cases h3 : p < i + j
    · rw [if_pos h3, if_pos (by omega)]
    · rw [if_neg h3, if_neg (by omega)]
theorem RowT.next {m : Nat} (h : RowT w b N X Y i j) (hY : Y < pt m) (hj : m ≤ j) (hc : mulc X Y i j = 0) : RowT w b N X Y (i + 1) 0 := by
  obtain ⟨f, h1, h2⟩ := h
  refine ⟨f, h1, fun p hp => ?_⟩
  rw [h2 p hp]
  by_cases h3 : p < i + j
  · rw [if_pos h3]
    by_cases h4 : p < i + 1 + 0
    · rw [if_pos h4]
      have e1 : dg (prow X Y (i + 1)) p = dg (prow X Y (i + 1 + 1)) p := by
        rw [prow_succ X Y (i + 1), Nat.mul_assoc, Nat.mul_left_comm]
        have e2 : prow X Y (i + 1) + pt (i + 1) * (dg X (i + 1) * Y) = prow X Y (i + 1) + pt (p + 1) * (pt (i - p) * (dg X (i + 1) * Y)) := by
          rw [← Nat.mul_assoc (pt (p + 1)), ← pt_add, show p + 1 + (i - p) = i + 1 by omega]
        rw [e2, dg_add_mul]
      exact e1
    · rw [if_neg h4]
  · by_cases h4 : p < i + 1 + 0
    · have hm0 : m = 0 := by omega
      subst hm0
      have hY0 : Y = 0 := by simpa [pt_zero] using hY
      subst hY0
      simp [prow]
    rw [if_neg h3, if_neg h4]
    by_cases h5 : i + m < p
    · exact prow_high hY h5
    · have hjm : j = m := by omega
      have hp : p = i + m := by omega
      subst hjm hp
      rw [← mulc_full hY, hc, dg_zero_of_lt (prow_lt hY)]
theorem RowT.start {f : Nat → Nat} (h : ArrK .i64 w b N 3 f) (hf : ∀ p, p < N → f p = 0) : RowT w b N X Y 0 0 :=
  ⟨f, h, fun p hp => by rw [hf p hp, if_neg (by omega), prow_zero]; unfold dg; simp⟩
theorem RowT.ten {n m : Nat} (h : RowT w b N X Y n 0) (hN : n + m ≤ N) (hN2 : N ≤ 4398046511104) (hX : X < pt n) (hY : Y < pt m) : Ten w (.slice (some ⟨b, 0, none⟩) N N) N (X * Y) := by
  obtain ⟨f, h1, h2⟩ := h
  obtain ⟨cs, hcs⟩ := h1.row
  refine ⟨_, N, rfl, Nat.le_refl _, by omega, Nat.lt_of_lt_of_le (mul_lt_pt hX hY) (pt_mono hN), fun _ => ⟨b, 0, cs, _, rfl, hcs, fun j hj => ?_⟩⟩
  rw [Nat.zero_add, h1.cell hj, h2 j hj, prow_full hX]
  by_cases h3 : j < n + 0
  · rw [if_pos h3]
    have e1 : prow X Y (n + 1) = X * Y := by unfold prow; rw [mod_self (Nat.lt_of_lt_of_le hX (pt_mono (by omega)))]
    rw [e1]
  · rw [if_neg h3]
end

set_option maxRecDepth 100000 in
set_option maxHeartbeats 4000000 in
theorem Mul_any (x y : Value) (X Y : Int) (L : Nat) (w : World) (hx : NumV w x X) (hy : NumV w y Y) (bx : X.natAbs < pt L) (bY : Y.natAbs < pt L) (hL : L ≤ 1000000000000) :
    Calls Tryz.prog 39 #[x, y] w (NPost w (X * Y)) := by
  obtain ⟨A1, n, c1, rfl, hd1, ht1⟩ := hx
  obtain ⟨A2, m, c2, rfl, hd2, ht2⟩ := hy
  have l1 := ht1.le bx
  have l2 := ht2.le bY
  obtain ⟨sx, hsx⟩ : ∃ s, s = X.sign := ⟨_, rfl⟩
  obtain ⟨sy, hsy⟩ : ∃ s, s = Y.sign := ⟨_, rfl⟩
  have hss : (X * Y).sign = sx * sy := by rw [hsx, hsy, Int.sign_mul]
  have hsr : IntKind.i64.wrap (sx * sy) = sx * sy := by
    have := mul_unit (sign_range X) (sign_range Y)
    rw [hsx, hsy]
    exact IntWalk.i64_in _ (by omega)
  have hab : (X * Y).natAbs = X.natAbs * Y.natAbs := Int.natAbs_mul _ _
  rw [← hsx, ← hsy]
  have HSS := Lib.hid hss
  have HAB := Lib.hid hab
  clear hsx hsy hss hab
  go_enter Tryz.func39, Tryz.ntmps39
  go_wp2_with (at_make; refine wpList_makeK .i64 8 _ rfl _ _ 31 rfl 3 Tryz.underlying31 infoInt (by decide) _ _ rfl rfl (n + m + 1) (by omega) (by omega) (by omega) ?_; intro w1 harr hext)
  obtain ⟨B0, B1, B2, hE0⟩ := boxes3 w 33 #[.int .i64 sx, .slice A1 n c1] #[.int .i64 sy, .slice A2 m c2] #[.int .i64 0, .slice none 0 0]
  have hsz : (((w.alloc (.cells #[.int .i64 sx, .slice A1 n c1] 33)).alloc (.cells #[.int .i64 sy, .slice A2 m c2] 33)).alloc (.cells #[.int .i64 0, .slice none 0 0] 33)).heap.size = w.heap.size + 1 + 1 + 1 := by simp
  rw [hsz] at harr
  have B0 := B0.ext hext
  have B1 := B1.ext hext
  have B2 := B2.ext hext
  have hEw := hE0.trans hext
  clear hext hE0 hsz
  have hX := hd1.mono_lt
  have hY := hd2.mono_lt
  have k01 := KE.c1 (w := w) B0 (show w.heap.size ∉ [w.heap.size + 1 + 1 + 1] by simp; omega)
  have k11 := KE.c1 (w := w) B1 (show w.heap.size + 1 ∉ [w.heap.size + 1 + 1 + 1] by simp)
  have k00 := KE.c0 (w := w) B0 (show w.heap.size ∉ [w.heap.size + 1 + 1 + 1] by simp; omega)
  have k10 := KE.c0 (w := w) B1 (show w.heap.size + 1 ∉ [w.heap.size + 1 + 1 + 1] by simp)
  have kb2 := fun (w' : World) (h : KE [w.heap.size + 1 + 1 + 1] w w1 w') => h.bx B2 (show w.heap.size + 1 + 1 ∉ [w.heap.size + 1 + 1 + 1] by simp)
  have ks := KE.start (R := [w.heap.size + 1 + 1 + 1]) hEw (by simp; omega)
  go_loopw [6] (fun i wr => ∃ k : Nat, k ≤ n ∧ i = .int .i64 k ∧ RowT wr (w.heap.size + 1 + 1 + 1) (n + m + 1) X.natAbs Y.natAbs k 0 ∧ KE [w.heap.size + 1 + 1 + 1] w w1 wr) (fun i _ => n - (intOf i).toNat)
  case atStart => exact ⟨0, by omega, rfl, RowT.start harr (fun _ _ => rfl), ks⟩
  case round =>
    clear ks harr
    obtain ⟨k, hk, rfl, hrow, hke⟩ := hrel
    by_cases hlt : k < n
    · obtain ⟨bx1, ox, csx, fzx, rfl, -, hcx⟩ := hd1.inj.2.2.2.2 (by omega)
      have hcx := hcx k hlt
      obtain ⟨wo, rfl⟩ : ∃ wo : World, wo = wr := ⟨_, rfl⟩
      have HCX := Lib.hid hcx
      clear hcx
      go_wp2_with fail
      go_loopw [7, 8] (fun cy i wr => ∃ j : Nat, j ≤ m + 1 ∧ i = .int .i64 j ∧ cy = .int .i64 (mulc X.natAbs Y.natAbs k j : Nat) ∧ RowT wr (w.heap.size + 1 + 1 + 1) (n + m + 1) X.natAbs Y.natAbs k j ∧ KE [w.heap.size + 1 + 1 + 1] w w1 wr) (fun _ i _ => m + 1 - (intOf i).toNat)
      case atStart => exact ⟨0, by omega, rfl, by rw [mulc_zero]; rfl, hrow, hke⟩
      case round =>
        clear hrow hke
        obtain ⟨j, hj, rfl, rfl, hrow, hke⟩ := hrel
        have hcy := mulc_lt X.natAbs Y.natAbs k j
        by_cases hj1 : j < m
        · obtain ⟨a, ha⟩ : ∃ a, a = dg X.natAbs k := ⟨_, rfl⟩
          obtain ⟨b, hb⟩ : ∃ a, a = dg Y.natAbs j := ⟨_, rfl⟩
          obtain ⟨o, ho⟩ : ∃ a, a = dg (prow X.natAbs Y.natAbs k) (k + j) := ⟨_, rfl⟩
          obtain ⟨cc, hcc⟩ : ∃ a, a = mulc X.natAbs Y.natAbs k j := ⟨_, rfl⟩
          have ha9 : a < 10 := by rw [ha]; exact dg_lt _ _
          have hb9 : b < 10 := by rw [hb]; exact dg_lt _ _
          have ho9 : o < 10 := by rw [ho]; exact dg_lt _ _
          have hc9 : cc < 10 := by rw [hcc]; exact hcy
          have e1 : decide ((j : Int) < (m : Int)) = true := by simp; omega
          have e2 : True := trivial
          have hbd := mul_bound ha9 hb9 ho9 hc9
          obtain ⟨p, hp⟩ : ∃ p : Nat, p = a * b := ⟨_, rfl⟩
          have hp2 : (a : Int) * (b : Int) = (p : Int) := by rw [hp]; simp
          have s1 : mulc X.natAbs Y.natAbs k (j + 1) = (o + p + cc) / 10 := by rw [mulc_succ, ← ha, ← hb, ← ho, ← hcc, ← hp, Nat.add_comm p o]
          have s2 : dg (prow X.natAbs Y.natAbs (k + 1)) (k + j) = (o + p + cc) % 10 := by rw [mul_dg, ← ha, ← hb, ← ho, ← hcc, ← hp, Nat.add_comm p o]
          rw [← hp] at hbd
          have hbd : o + p + cc < 100 := by omega
          have zx : ∀ w', Later wr w' → w'.cell? ⟨bx1, ox + k, none⟩ = some (.int .i64 (a : Int)) := fun w' h => by rw [ha]; exact (hke.ext.trans h).cell HCX.out
          have zo : ∀ w', Later wr w' → w'.cell? ⟨w.heap.size + 1 + 1 + 1, k + j, none⟩ = some (.int .i64 (o : Int)) := fun w' h => by rw [ho]; exact Ext.cell h (hrow.cell (by omega))
          have z01 : ∀ w', Later wr w' → w'.cell? ⟨w.heap.size, 1, none⟩ = some (.slice (some ⟨bx1, ox, none⟩) n c1) := fun w' h => Ext.cell h (k01 wr hke)
          have z11 : ∀ w', Later wr w' → w'.cell? ⟨w.heap.size + 1, 1, none⟩ = some (.slice A2 m c2) := fun w' h => Ext.cell h (k11 wr hke)
          have cy := fun w' (h : Later wr w') => digit_any A2 m c2 Y.natAbs j w' (hd2.ext (hke.ext.trans h)) (by omega)
          rw [← hb] at cy
          rw [← hcc]
          have fo := hrow.frozen (k + j)
          have ks := Later.refl wr
          obtain ⟨D, hD⟩ : ∃ D, D = o + p + cc := ⟨_, rfl⟩
          have u1 : IntKind.i64.wrap ((k : Int) + (j : Int)) = (k : Int) + (j : Int) := IntWalk.i64_in _ (by omega)
          have u2 : IntKind.i64.wrap ((a : Int) * (b : Int)) = (p : Int) := by rw [hp2]; exact IntWalk.i64_in _ (by omega)
          have u3 : IntKind.i64.wrap ((o : Int) + (p : Int)) = (o : Int) + (p : Int) := IntWalk.i64_in _ (by omega)
          have u4 : IntKind.i64.wrap ((o : Int) + (p : Int) + (cc : Int)) = (D : Int) := by rw [hD]; exact (IntWalk.i64_in _ (by omega)).trans (by omega)
          have hDb : D < 100 := by omega
          rw [← hD] at s1 s2
          have v1 : (0 : Int) ≤ (k : Int) + (j : Int) := by omega
          have v2 : (k : Int) + (j : Int) < ((n + m + 1 : Nat) : Int) := by omega
          have v4 : (k : Int) + (j : Int) < (n : Int) + (m : Int) + 1 := by omega
          have v3 : ((k : Int) + (j : Int)).toNat = k + j := by omega
          have S1 := Lib.hid s1
          have S2 := Lib.hid s2
          have HP := Lib.hid hp2
          clear ha hb ho hcc hp s1 s2 hcy hD hp2
          go_upto_region 9 with fail
          go_region_held3 (fun w' => Later wr w') ((repeat (first | assumption | apply Later.drew | apply Later.drewN))) (first
            | (go_at_call 62; refine (cy _ (by assumption)).mono ?_; rintro e w' ⟨rfl, rfl⟩))
          have hl : Ext wr wr.drew := (Ext.refl wr).drew
          have q5 := zo _ hl
          have hrow := hrow.ext hl
          have fo := hrow.frozen (k + j)
          have hke := hke.step hl
          clear u1 u2 u3 u4 zx z01 z11 zo cy
          go_wp2_with fail
          go_roundw
          case rel => exact ⟨j + 1, by omega, by go_num, by rw [S1.out]; go_num, hrow.step (by rw [S2.out]; go_num), hke.set (by simp) _⟩
          case measure => simp [intOf]; omega
        · have hY0 : dg Y.natAbs j = 0 := dg_zero_of_lt (Nat.lt_of_lt_of_le hY (pt_mono (by omega)))
          by_cases hc0 : mulc X.natAbs Y.natAbs k j = 0
          · have hnext := hrow.next hY (by omega) hc0
            rw [hc0]
            clear hrow hcy hc0 hY0
            go_wp2_with fail
            go_roundw
            case rel => exact ⟨k + 1, by omega, by go_num, hnext, hke⟩
            case measure => simp [intOf]; omega
          · have hjm : j ≤ m := by
              rcases Nat.lt_or_ge m j with h | h
              · exfalso
                apply hc0
                obtain rfl : j = m + 1 := by omega
                rw [mulc_succ, dg_zero_of_lt hY, dg_zero_of_lt (prow_lt hY)]
                have := mulc_lt X.natAbs Y.natAbs k m
                omega
              · exact h
            obtain ⟨a, ha⟩ : ∃ a, a = dg X.natAbs k := ⟨_, rfl⟩
            obtain ⟨b, hb⟩ : ∃ a, a = dg Y.natAbs j := ⟨_, rfl⟩
            obtain ⟨o, ho⟩ : ∃ a, a = dg (prow X.natAbs Y.natAbs k) (k + j) := ⟨_, rfl⟩
            obtain ⟨cc, hcc⟩ : ∃ a, a = mulc X.natAbs Y.natAbs k j := ⟨_, rfl⟩
            have ha9 : a < 10 := by rw [ha]; exact dg_lt _ _
            have hb9 : b < 10 := by rw [hb]; exact dg_lt _ _
            have ho9 : o < 10 := by rw [ho]; exact dg_lt _ _
            have hc9 : cc < 10 := by rw [hcc]; exact hcy
            have e1 : decide ((j : Int) < (m : Int)) = false := by simp; omega
            have e2 : 0 < cc := by omega
            have hbd := mul_bound ha9 hb9 ho9 hc9
            obtain ⟨p, hp⟩ : ∃ p : Nat, p = a * b := ⟨_, rfl⟩
            have hp2 : (a : Int) * (b : Int) = (p : Int) := by rw [hp]; simp
            have s1 : mulc X.natAbs Y.natAbs k (j + 1) = (o + p + cc) / 10 := by rw [mulc_succ, ← ha, ← hb, ← ho, ← hcc, ← hp, Nat.add_comm p o]
            have s2 : dg (prow X.natAbs Y.natAbs (k + 1)) (k + j) = (o + p + cc) % 10 := by rw [mul_dg, ← ha, ← hb, ← ho, ← hcc, ← hp, Nat.add_comm p o]
            rw [← hp] at hbd
            have hbd : o + p + cc < 100 := by omega
            have zx : ∀ w', Later wr w' → w'.cell? ⟨bx1, ox + k, none⟩ = some (.int .i64 (a : Int)) := fun w' h => by rw [ha]; exact (hke.ext.trans h).cell HCX.out
            have zo : ∀ w', Later wr w' → w'.cell? ⟨w.heap.size + 1 + 1 + 1, k + j, none⟩ = some (.int .i64 (o : Int)) := fun w' h => by rw [ho]; exact Ext.cell h (hrow.cell (by omega))
            have z01 : ∀ w', Later wr w' → w'.cell? ⟨w.heap.size, 1, none⟩ = some (.slice (some ⟨bx1, ox, none⟩) n c1) := fun w' h => Ext.cell h (k01 wr hke)
            have z11 : ∀ w', Later wr w' → w'.cell? ⟨w.heap.size + 1, 1, none⟩ = some (.slice A2 m c2) := fun w' h => Ext.cell h (k11 wr hke)
            have cy := fun w' (h : Later wr w') => digit_any A2 m c2 Y.natAbs j w' (hd2.ext (hke.ext.trans h)) (by omega)
            rw [← hb] at cy
            rw [← hcc]
            have fo := hrow.frozen (k + j)
            have ks := Later.refl wr
            obtain ⟨D, hD⟩ : ∃ D, D = o + p + cc := ⟨_, rfl⟩
            have u1 : IntKind.i64.wrap ((k : Int) + (j : Int)) = (k : Int) + (j : Int) := IntWalk.i64_in _ (by omega)
            have u2 : IntKind.i64.wrap ((a : Int) * (b : Int)) = (p : Int) := by rw [hp2]; exact IntWalk.i64_in _ (by omega)
            have u3 : IntKind.i64.wrap ((o : Int) + (p : Int)) = (o : Int) + (p : Int) := IntWalk.i64_in _ (by omega)
            have u4 : IntKind.i64.wrap ((o : Int) + (p : Int) + (cc : Int)) = (D : Int) := by rw [hD]; exact (IntWalk.i64_in _ (by omega)).trans (by omega)
            have hDb : D < 100 := by omega
            rw [← hD] at s1 s2
            have v1 : (0 : Int) ≤ (k : Int) + (j : Int) := by omega
            have v2 : (k : Int) + (j : Int) < ((n + m + 1 : Nat) : Int) := by omega
            have v4 : (k : Int) + (j : Int) < (n : Int) + (m : Int) + 1 := by omega
            have v3 : ((k : Int) + (j : Int)).toNat = k + j := by omega
            have S1 := Lib.hid s1
            have S2 := Lib.hid s2
            have HP := Lib.hid hp2
            clear ha hb ho hcc hp s1 s2 hcy hD hp2
            go_upto_region 9 with fail
            go_region_held3 (fun w' => Later wr w') ((repeat (first | assumption | apply Later.drew | apply Later.drewN))) (first
              | (go_at_call 62; refine (cy _ (by assumption)).mono ?_; rintro e w' ⟨rfl, rfl⟩))
            have hl : Ext wr wr.drew := (Ext.refl wr).drew
            have q5 := zo _ hl
            have hrow := hrow.ext hl
            have fo := hrow.frozen (k + j)
            have hke := hke.step hl
            clear u1 u2 u3 u4 zx z01 z11 zo cy
            go_wp2_with fail
            go_roundw
            case rel => exact ⟨j + 1, by omega, by go_num, by rw [S1.out]; go_num, hrow.step (by rw [S2.out]; go_num), hke.set (by simp) _⟩
            case measure => simp [intOf]; omega
    · obtain rfl : k = n := by omega
      have hT := hrow.ten (by omega) (by omega) hX hY
      have b2 := kb2 wr hke
      clear hrow
      go_wp2_with fail
      refine (number_any _ _ _ _ _ (X * Y) hT HAB.out (fun _ => HSS.out)).mono ?_
      rintro e w2 ⟨v2, rfl, hb2, hxB⟩
      obtain ⟨s3, A3, n3, c3, rfl, -⟩ := hb2.shape
      have b2 := b2.ext hxB
      have q0 := b2.c0
      have q1 := b2.c1
      have f0 := b2.frozen 0
      have f1 := b2.frozen 1
      obtain ⟨p1, p2, p3⟩ := hb2.put b2
      go_wp2_with fail
      refine bodyPost_ret (v := .agg #[.int .i64 s3, .slice A3 n3 c3]) (by simp [results, Tryz.results39, go_sem, p2, p3]) rfl ?_
      exact ⟨_, rfl, p1, ((hke.ext.trans hxB).set (by simp; omega) _).set (by simp; omega) _⟩
end Go.Proofs.YtginogcdjplhiaaGreatDoor.Ten

namespace Go.Proofs.YtginogcdjplhiaaGreatDoor.Ten
open Go.RowKit Go.Proofs.YtginogcdjplhiaaGreatDoor.Big
open Go.Lib (itoa)

theorem RMul_b (x y : Value) (X Y : Int) (j k : Nat) (w : World) (hx : NumB w x X j) (hy : NumB w y Y k) (hL : max j k ≤ 100000000000) : Calls Tryz.prog 39 #[x, y] w (NumBPost w (X * Y) (j + k)) :=
  (Mul_any x y X Y (max j k) w hx.1 hy.1 (BT_mono (Nat.le_max_left _ _) hx.2) (BT_mono (Nat.le_max_right _ _) hy.2) (by omega)).mono fun _ _ h => toNB (BT_mul hx.2 hy.2) h
end Go.Proofs.YtginogcdjplhiaaGreatDoor.Ten

/- Walk: det of the reference of LpSmall. -/
import Derived.Test.YtgffcblldebelaaDoorLZ6
set_option linter.unusedVariables false
set_option linter.unusedSimpArgs false
namespace Go.Proofs.YtgffcblldebelaaDoor.Lp
open Go.RowKit Go.Proofs.YtgffcblldebelaaDoor.Big Go.Proofs.YtgffcblldebelaaDoor.Rt

theorem minor_M (n : Nat) (m : List (List Int)) (j : Nat) : minor (n + 1) m j = minorM (n + 1) n m j := rfl
theorem minorM_len (k n : Nat) (m : List (List Int)) (j : Nat) : (minorM k n m j).length = n := by unfold minorM; simp
theorem minorM_get {k n i : Nat} (m : List (List Int)) (j : Nat) (hi : i < n) : (minorM k n m j).getD i [] = minorR k (m.getD (i + 1) []) j := by
  unfold minorM
  rw [List.getD_eq_getElem?_getD, List.getElem?_map, List.getElem?_range hi]; rfl
theorem minorM_in {C : Int} (hC : 0 ≤ C) {k n : Nat} {m : List (List Int)} {j : Nat} (h : ∀ i k, inC C ((m.getD i []).getD k 0)) (i l : Nat) : inC C (((minorM k n m j).getD i []).getD l 0) := by
  by_cases hi : i < n
  · rw [minorM_get m j hi]; exact minorR_mem (fun i => h _ i) l
  · have e : (minorM k n m j).getD i [] = [] := by rw [List.getD_eq_getElem?_getD, List.getElem?_eq_none (by rw [minorM_len]; omega)]; rfl
    rw [e]
    unfold inC; simp; omega
set_option maxHeartbeats 4000000 in
set_option maxRecDepth 100000 in
theorem rdet_b : ∀ (n : Nat) (A : Option Addr) (k c : Nat) (m : List (List Int)) (w : World), Mat w (.slice A k c) m → m.length = n → n ≤ 3 → (∀ i, i < n → (m.getD i []).length = n) → (∀ i l, inC 60 ((m.getD i []).getD l 0)) →
    Calls Tryd.prog 92 #[.slice A k c] w (ValPost w (.int .i64 (detN n m))) := by
  intro n
  induction n with
  | zero =>
    intro A k c m w hM hl hn hlen hin
    obtain ⟨e, h1, h2, -⟩ := hM.inj
    have hk0 : ((k : Int) == 0) = true := by simp; omega
    go_enter Tryd.func92, Tryd.ntmps92
    go_wp2_with fail
    go_ret
    exact ⟨rfl, Ext.refl w⟩
  | succ n ih =>
    intro A k c m w hM hl hn hlen hin
    obtain ⟨e, h1, h2, h3⟩ := hM.inj
    obtain ⟨N, HN, N1, N2⟩ : ∃ N, Hid (N = n + 1) ∧ N ≤ n + 1 ∧ n + 1 ≤ N := ⟨n + 1, Lib.hid rfl, by omega, by omega⟩
    obtain rfl : k = N := by omega
    clear hl
    obtain ⟨mb, rfl, hrow⟩ := h3 (by omega)
    obtain ⟨F, hF⟩ : ∃ F : Nat → Int, F = fun j => sgI j * (m.getD 0 []).getD j 0 * detN n (minor (n + 1) m j) := ⟨_, rfl⟩
    have HF := Lib.hid hF
    have HD : Hid (detN (n + 1) m = smI (n + 1) F) := Lib.hid (by rw [hF]; rfl)
    have HIN := Lib.hid hin
    have HLEN : Hid (∀ i, i < k → (m.getD i []).length = k) := Lib.hid (fun i hi => by rw [hlen i (by omega)]; omega)
    have HROW := Lib.hid hrow
    have HFB : Hid (∀ j, inC (60 * dB n) (F j)) := Lib.hid (fun j => by rw [hF]; exact term_in (hin 0 j) (detN_in n _ (minorM_in (by omega) hin)))
    have HSB : Hid (∀ j, j ≤ n + 1 → inC 4000000000000 (smI j F)) := Lib.hid (fun j hj => by
      have h0 : 0 ≤ 60 * dB n := by have := dB_pos n; omega
      have h4 := smI_le (n := j) h0 (f := F) (fun l _ => by rw [hF]; exact term_in (hin 0 l) (detN_in n _ (minorM_in (by omega) hin)))
      have h5 : dB n ≤ 1296000 := by
        rcases (show n = 0 ∨ n = 1 ∨ n = 2 by omega) with rfl | rfl | rfl <;> decide
      have h6 : (j : Int) * (60 * dB n) ≤ 3 * (60 * 1296000) := by
        have := Int.mul_le_mul_of_nonneg_right (show (j : Int) ≤ 3 by omega) h0
        omega
      unfold inC; omega)
    clear hF hin hlen hrow hM e h3
    have hk0 : ((k : Int) == 0) = false := by simp; omega
    obtain ⟨i0, ii, iz0, iz1, iz2⟩ := info_parts infoI64
    obtain ⟨r0, ri, rz0, rz1, rz2⟩ := info_parts infoRowI
    go_enter Tryd.func92, Tryd.ntmps92
    go_wp2_with fail
    go_loopw [3, 4, 5] (fun s g i wr => ∃ j : Nat, j ≤ k ∧ i = .int .i64 j ∧ s = .int .i64 (smI j F) ∧ g = .int .i64 (sgI j) ∧ Ext w wr) (fun _ _ i _ => k - (intOf i).toNat)
    case atStart => exact ⟨0, by omega, rfl, rfl, rfl, Ext.refl w⟩
    case round =>
      obtain ⟨j, hj, rfl, rfl, rfl, hx⟩ := hrel
      obtain ⟨w1, rfl⟩ : ∃ x, x = wr := ⟨_, rfl⟩
      by_cases hlt : j < k
      · go_wp2_with fail
        go_loopw [6, 7] (fun mv iv w2 => ∃ a : Nat, a ≤ n ∧ (∃ I : Nat, iv = .int .i64 (I : Int) ∧ I ≤ a + 1 ∧ a + 1 ≤ I) ∧ OwnMat w2 w1.heap.size mv a (minorM (n + 1) a m j) ∧ Ext w1 w2) (fun _ i _ => k - (intOf i).toNat)
        case atStart => exact ⟨0, by omega, ⟨1, rfl, by omega, by omega⟩, OwnMat.nil _ _, Ext.refl w1⟩
        case round =>
          obtain ⟨a, ha, ⟨I, rfl, I1, I2⟩, hO, hx2⟩ := hrel
          obtain ⟨w2, rfl⟩ : ∃ x, x = wr := ⟨_, rfl⟩
          by_cases hla : a < n
          · have hai : ((a + 1 : Nat) : Int) < ((n + 1 : Nat) : Int) := by omega
            obtain ⟨AM, cM, rfl⟩ := hO.shape
            obtain ⟨RB, Rd, hc1, hR1⟩ := HROW.out I (by omega)
            obtain ⟨R, hR⟩ : ∃ R, R = m.getD I [] := ⟨_, rfl⟩
            have HR : Hid (R = m.getD (a + 1) []) := Lib.hid (by rw [hR, show I = a + 1 by omega])
            have hRl : (m.getD I []).length = k := HLEN.out _ (by omega)
            rw [← hR] at hc1 hR1 hRl
            rw [hRl] at hc1 hR1
            obtain ⟨-, -, hRc, hRrow⟩ := hR1.inj
            obtain ⟨rb, rfl, -, hcells⟩ := hRrow (by omega)
            clear hR hRrow hR1
            have hxw := hx.trans hx2
            have hc1 := hxw.cell hc1
            have j3 : (0 : Int) ≤ (I : Int) := by omega
            have j4 : (I : Int) < (k : Int) := by omega
            go_wp2_with fail
            go_loopw [8, 9] (fun rv kv w3 => ∃ t : Nat, t ≤ k ∧ kv = .int .i64 (t : Int) ∧ OwnX w3 w2.heap.size 2 1 rv (minorT t R j).length (jV (minorT t R j)) ∧ Ext w2 w3) (fun _ i _ => k - (intOf i).toNat)
            case atStart => exact ⟨0, by omega, rfl, OwnX.nil _ _ _ _, Ext.refl w2⟩
            case round =>
              obtain ⟨t, ht, rfl, hRo, hx3⟩ := hrel
              obtain ⟨w3, rfl⟩ : ∃ x, x = wr := ⟨_, rfl⟩
              by_cases hlt3 : t < k
              · by_cases htj : t = j
                · subst htj
                  go_wp2_with fail
                  go_roundw
                  case rel => exact ⟨t + 1, by omega, by go_num, by rw [minorT_step, if_pos rfl]; exact hRo, hx3⟩
                  case measure => simp [intOf]; omega
                · have hne : ((t : Int) != (j : Int)) = true := by simp; omega
                  have hc3 := hx3.cell hc1
                  have hz := (hxw.trans hx3).cell (hcells t hlt3)
                  obtain ⟨AR, cR, rfl⟩ := hRo.shape
                  have hm4 : (minorT t R j).length ≤ 4 := by
                    unfold minorT
                    rw [List.length_map]
                    exact Nat.le_trans (List.length_filter_le _ _) (by rw [List.length_range]; omega)
                  have hHT := Lib.hid htj
                  obtain ⟨z, hz0⟩ : ∃ z, z = R.getD t 0 := ⟨_, rfl⟩
                  have HZ := Lib.hid hz0
                  rw [← hz0] at hz
                  have hRo1 := hRo.ext ((Ext.refl w3).alloc (.cells #[.int .i64 z] 2))
                  have hX1 := hx3.alloc (.cells #[.int .i64 z] 2)
                  have hN1 := new1J w3 2 (.int .i64 z)
                  have hsz := hX1.size
                  have j1 : (0 : Int) ≤ (t : Int) := by omega
                  have j2 : (t : Int) < (k : Int) := by omega
                  clear htj hz0
                  go_upto_region 15 with (at_builtin; refine wpList_pushX rfl (.tmp 34) (.tmp 42) 56 rfl w2.heap.size 2 i0 (.int .i64 0) 1 8 Tryd.underlying56 ii iz0 iz1 iz2 rfl zI64 _ (minorT t R j).length (jV (minorT t R j)) rfl hRo1 w3.heap.size [.int .i64 z] 1 rfl rfl hN1 one1i nou1i (by omega) (by decide) hsz ?_; intro v4 w4 o4 r4 s4)
                  have hX4 := r4.ext hX1 (fun g hg => (hRo1.lt hg).1)
                  obtain ⟨A4, c4, rfl⟩ := o4.shape
                  go_wp2_with fail
                  go_roundw
                  case rel => exact ⟨t + 1, by omega, by go_num, by rw [minorT_step, if_neg hHT.out, ← HZ.out, List.length_append, ← jV_push]; exact o4, hX4⟩
                  case measure => simp [intOf]; omega
              · obtain rfl : t = k := by omega
                have hO3 := hO.ext hx3
                obtain ⟨us, o1, o2, o3⟩ := hO3
                have hRow := hRo.rowE
                obtain ⟨AR, cR, rfl⟩ := hRo.shape
                obtain ⟨RL, hRL⟩ : ∃ x, x = (minorT t R j).length := ⟨_, rfl⟩
                have HRL := Lib.hid hRL
                rw [← hRL] at hRo hRow ⊢
                have o1' := o1.ext ((Ext.refl w3).alloc (.cells #[.slice AR RL cR] 56))
                have hX1 := (hx2.trans hx3).alloc (.cells #[.slice AR RL cR] 56)
                have hN1 := new1J w3 56 (.slice AR RL cR)
                have hsz := hX1.size
                clear hRL hRo
                go_upto_region 11 with (at_builtin; refine wpList_pushX rfl (.tmp 44) (.tmp 46) 126 rfl w1.heap.size 56 r0 (.slice none 0 0) 1 24 Tryd.underlying126 ri rz0 rz1 rz2 rfl zSl _ a us rfl o1' w3.heap.size [.slice AR RL cR] 1 rfl rfl hN1 one1s nou1s (by omega) (by decide) hsz ?_; intro v4 w4 o4 r4 s4)
                have hX4 := r4.ext hX1 (fun g hg => (o1'.lt hg).1)
                have hP := OwnMat.push o1' o2 (fun i r hi => by obtain ⟨u, hu, hr⟩ := o3 i r hi; exact ⟨u, hu, hr.ext ((Ext.refl w3).alloc _)⟩) (hRow.ext ((Ext.refl w3).alloc _)) r4 o4
                obtain ⟨A4, c4, rfl⟩ := o4.shape
                go_wp2_with fail
                go_roundw
                case rel => exact ⟨a + 1, by omega, ⟨I + 1, by go_num, by omega, by omega⟩, by rw [minorM_step, minorR_T, ← HR.out]; have h := hP; rw [show minorT t R j = minorT (n + 1) R j by rw [HN.out]] at h; exact h, hX4⟩
                case measure => simp [intOf]; omega
          · obtain rfl : a = n := by omega
            have hMn := hO.mat
            obtain ⟨AM, cM, rfl⟩ := hO.shape
            obtain ⟨RB, Rd, hc1, hR1⟩ := HROW.out 0 (by omega)
            have hRl : (m.getD 0 []).length = k := HLEN.out _ (by omega)
            rw [hRl] at hc1 hR1
            obtain ⟨-, -, hRc, hRrow⟩ := hR1.inj
            obtain ⟨rb, rfl, -, hcells⟩ := hRrow (by omega)
            have hz := hcells j hlt
            have hxw := hx.trans hx2
            obtain ⟨x, hxx⟩ : ∃ x, x = (m.getD 0 []).getD j 0 := ⟨_, rfl⟩
            obtain ⟨g, hg⟩ : ∃ x, x = sgI j := ⟨_, rfl⟩
            obtain ⟨s, hs⟩ : ∃ x, x = smI j F := ⟨_, rfl⟩
            obtain ⟨D, hD⟩ : ∃ x, x = detN a (minorM (a + 1) a m j) := ⟨_, rfl⟩
            have HDD := Lib.hid hD
            have hFj : F j = g * x * D := by rw [HF.out, hg, hxx, hD]; rfl
            have HS1 : Hid (smI (j + 1) F = s + g * x * D) := Lib.hid (by show smI j F + F j = _; rw [hFj, hs])
            have HS2 : Hid (sgI (j + 1) = 0 - g) := Lib.hid (by rw [hg]; unfold sgI; by_cases h2 : j % 2 = 0 <;> simp [h2] <;> omega)
            have hb1 := HSB.out j (by omega)
            have hb2 := HSB.out (j + 1) (by omega)
            rw [HS1.out] at hb2
            rw [← hs] at hb1
            have hb3 := HFB.out j
            rw [hFj] at hb3
            have hb4 : inC 60 x := by rw [hxx]; exact HIN.out 0 j
            have hb5 : inC 1 g := by rw [hg]; exact sg_in j
            have hb6 := abs_mul hb5 hb4 (by omega)
            have hb7 : 60 * dB a ≤ 60 * 1296000 := by
              rcases (show a = 0 ∨ a = 1 ∨ a = 2 by omega) with rfl | rfl | rfl <;> decide
            rw [← hxx] at hz
            rw [← hg, ← hs]
            unfold inC at hb1 hb2 hb3 hb5 hb6
            have u1 : IntKind.i64.wrap (g * x) = g * x := IntWalk.i64_in _ (by omega)
            have u2 : IntKind.i64.wrap (g * x * D) = g * x * D := IntWalk.i64_in _ (by omega)
            have u3 : IntKind.i64.wrap (s + g * x * D) = s + g * x * D := IntWalk.i64_in _ (by omega)
            have u4 : IntKind.i64.wrap (-g) = -g := IntWalk.i64_in _ (by omega)
            have kc : ∀ w', Later w2 w' → w'.cell? ⟨mb, 0, none⟩ = some _ := fun w' h => Later.cell h (hxw.cell hc1)
            have kz : ∀ w', Later w2 w' → w'.cell? ⟨rb, j, none⟩ = some _ := fun w' h => Later.cell h (hxw.cell hz)
            have ks := Later.refl w2
            have j1 : (0 : Int) ≤ (j : Int) := by omega
            have j2 : (j : Int) < (k : Int) := by omega
            have j3 : 0 < k := by omega
            clear hxx hg hs hD hFj hb1 hb2 hb3 hb4 hb5 hb6 hb7 hc1 hz hR1 hRrow hcells
            go_upto_region 19 with fail
            go_region_held3 (fun w' => Later w2 w') ((repeat (first | assumption | apply Later.drew | apply Later.drewN | apply Later.alloc | (refine Later.step ?_ (by assumption))))) (first
              | (go_at_call 92; (with_reducible refine (ih AM a cM (minorM (a + 1) a m j) _ (Mat.ext hMn (by repeat (first | (with_reducible exact Ext.refl _) | (with_reducible apply Ext.drew) | (with_reducible apply Ext.drewN) | (with_reducible refine Ext.trans ?_ (by assumption))))) (minorM_len _ _ _ _) (by omega) (fun i hi => by rw [minorM_get _ _ hi, minorR_len _ (by omega)]; omega) (minorM_in (by omega) HIN.out)).mono ?_); rintro e wk ⟨rfl, hxk⟩; rw [← HDD.out])
              )
            all_goals (
              have hxx : Ext w2 wk := by assumption
              go_wp2_with fail
              go_roundw
              case rel => exact ⟨j + 1, by omega, by go_num, by rw [HS1.out], by rw [HS2.out]; simp, hxw.trans hxx⟩
              case measure => simp [intOf]; omega)
      · obtain rfl : j = n + 1 := by omega
        go_wp2_with fail
        go_ret
        exact ⟨by rw [HD.out]; rfl, hx⟩
end Go.Proofs.YtgffcblldebelaaDoor.Lp

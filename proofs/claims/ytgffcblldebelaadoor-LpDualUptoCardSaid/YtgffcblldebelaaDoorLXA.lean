/- Walk: the closure of LpScales that multiplies a list in place. -/
import Derived.Test.YtgffcblldebelaaDoorLN3
set_option linter.unusedVariables false
set_option linter.unusedSimpArgs false
namespace Go.Proofs.YtgffcblldebelaaDoor.Lp
open Go.RowKit Go.Proofs.YtgffcblldebelaaDoor.Big Go.Proofs.YtgffcblldebelaaDoor.Rt

/-- the block of a list -/
def Blk (A : Option Addr) (n : Nat) (k : Nat) : Prop := 0 < n ∧ A = some ⟨k, 0, none⟩
def ScPost (w : World) (A : Option Addr) (n c : Nat) (f : Nat → Rat) (e : Ending) (w' : World) : Prop := e = .returned (.tuple #[]) ∧ RatsV w' A n c f ∧ Fr (Blk A n) w w'
set_option maxHeartbeats 4000000 in
theorem scale_b (A : Option Addr) (n c : Nat) (f : Nat → Rat) (v : Value) (q : Rat) (K Kq : Nat) (w : World) (h : RatsV w A n c f) (hv : RatB w v q Kq) (hf : ∀ j, j < n → QB K (f j)) (hK : K ≤ 137438953472) (hKq : Kq ≤ 137438953472) (hn : n ≤ 1099511627776) :
    Calls Tryd.prog 32 #[.slice A n c, v] w (ScPost w A n c (fun j => f j * q)) := by
  obtain ⟨p0, A0, n0, c0, p0', A0', n0', c0', rfl⟩ := hv.1.shape
  have HF := Lib.hid hf
  have hc1 := h.1
  have hc2 := h.2.1
  clear hf
  go_enter Tryd.func32, Tryd.ntmps32
  go_wp2_with fail
  have B0 := Box.new w 37 #[.bool p0, .slice A0 n0 c0, .bool p0', .slice A0' n0' c0']
  have hE0 : Ext w (w.alloc (.cells #[.bool p0, .slice A0 n0 c0, .bool p0', .slice A0' n0' c0'] 37)) := (Ext.refl w).alloc _
  have hB : ∀ k, Blk A n k → w.heap.size ≠ k := fun k hk e => by
    obtain ⟨b, e', hr⟩ := h.2.2 hk.1
    rw [hk.2] at e'
    injection e' with e'
    injection e' with e'
    have := hr.lt
    omega
  generalize (w.alloc (.cells #[.bool p0, .slice A0 n0 c0, .bool p0', .slice A0' n0' c0'] 37)) = W at *
  have h := h.ext hE0
  have hv := hv.ext hE0
  go_loopw [7] (fun i wr => ∃ j : Nat, j ≤ n ∧ i = .int .i64 j ∧ RatsV wr A n c (fun i => if i < j then f i * q else f i) ∧ Fr (Blk A n) W wr) (fun i _ => n - (intOf i).toNat)
  case atStart => exact ⟨0, by omega, rfl, h.congr (fun j _ => by rw [if_neg (by omega)]), Fr.refl _ _⟩
  case round =>
    obtain ⟨j, hj, rfl, hR, hF⟩ := hrel
    by_cases hlt : j < n
    · obtain ⟨b, rfl, hRb⟩ := hR.2.2 (by omega)
      obtain ⟨p1, A1, m1, c1, p1', A1', m1', c1', e0, e1, e2, e3, hr⟩ := hRb.at hlt
      rw [if_neg (by omega)] at hr
      have By := hF.box B0 (fun hk => hB _ hk rfl)
      have hra : RatB wr _ (f j) K := ⟨hr, HF.out j hlt⟩
      have hva : RatB wr _ q Kq := hF.ratB hv
      have ka0 : ∀ w', Later wr w' → w'.cell? ⟨b, j * 4, none⟩ = some _ := fun w' h => Later.cell h e0
      have ka1 : ∀ w', Later wr w' → w'.cell? ⟨b, j * 4 + 1, none⟩ = some _ := fun w' h => Later.cell h e1
      have ka2 : ∀ w', Later wr w' → w'.cell? ⟨b, j * 4 + 2, none⟩ = some _ := fun w' h => Later.cell h e2
      have ka3 : ∀ w', Later wr w' → w'.cell? ⟨b, j * 4 + 3, none⟩ = some _ := fun w' h => Later.cell h e3
      have ky0 : ∀ w', Later wr w' → w'.cell? ⟨_, 0, none⟩ = some _ := fun w' h => (By.ext h).c0
      have ky1 : ∀ w', Later wr w' → w'.cell? ⟨_, 1, none⟩ = some _ := fun w' h => (By.ext h).c1
      have ky2 : ∀ w', Later wr w' → w'.cell? ⟨_, 2, none⟩ = some _ := fun w' h => (By.ext h).c2
      have ky3 : ∀ w', Later wr w' → w'.cell? ⟨_, 3, none⟩ = some _ := fun w' h => (By.ext h).c3
      have ks := Later.refl wr
      have i1 : (0 : Int) ≤ (j : Int) := by omega
      have i2 : (j : Int) < (n : Int) := by omega
      clear e0 e1 e2 e3
      go_upto_region 4 with fail
      go_region_with (first
          | (go_at_call 33; (with_reducible refine (RatMul_b _ _ _ _ _ _ _ (RatB.ext hra (by repeat (first | (with_reducible exact Ext.refl _) | (with_reducible apply Ext.drew) | (with_reducible apply Ext.drewN) | (with_reducible refine Ext.trans ?_ (by assumption))))) (RatB.ext hva (by repeat (first | (with_reducible exact Ext.refl _) | (with_reducible apply Ext.drew) | (with_reducible apply Ext.drewN) | (with_reducible refine Ext.trans ?_ (by assumption))))) (by omega)).mono ?_); rintro e wl ⟨vl, rfl, hbl, hxl⟩; (obtain ⟨pl, Al, nl, cl, pl', Al', nl', cl', rfl⟩ := hbl.1.shape); (have hlL : Ext wr wl := Ext.trans (by repeat (first | (with_reducible exact Ext.refl _) | (with_reducible apply Ext.drew) | (with_reducible apply Ext.drewN) | (with_reducible refine Ext.trans ?_ (by assumption)))) hxl); (have hRl := hRb.ext hlL); (have f0 := hRl.frozen (j * 4)); (have f1 := hRl.frozen (j * 4 + 1)); (have f2 := hRl.frozen (j * 4 + 2)); (have f3 := hRl.frozen (j * 4 + 3)); (obtain ⟨_, _, _, _, _, _, _, _, b0, b1, b2, b3, _⟩ := hRl.at hlt))
          )
      all_goals (
        obtain ⟨s1, s2⟩ := hRl.set hlt hbl.1
        go_wp2_with fail
        go_roundw
        case rel => exact ⟨j + 1, by omega, by go_num, ⟨hc1, hc2, fun _ => ⟨b, rfl, s1.congr (fun i _ => by
            by_cases h1 : i < j
            · rw [if_neg (by omega), if_pos h1, if_pos (by omega)]
            · by_cases h2 : i < j + 1
              · obtain rfl : i = j := by omega
                rw [if_pos rfl, if_pos h2]
              · rw [if_neg (by omega), if_neg h1, if_neg h2])⟩⟩, (hF.step hlL).trans (s2.weak fun k hk => ⟨by omega, by rw [hk]⟩)⟩
        case measure => simp [intOf]; omega)
    · obtain rfl : j = n := by omega
      go_wp2_with fail
      go_end0
      exact ⟨rfl, hR.congr (fun i hi => by rw [if_pos hi]), (Fr.of hE0).trans hF⟩
end Go.Proofs.YtgffcblldebelaaDoor.Lp

/- The reference of the rational numbers: Text walked. -/
import Derived.Test.YteohdiaegnfbaaaDoorF2
import Derived.Test.YteohdiaegnfbaaaDoorT6
set_option linter.unusedVariables false
set_option linter.unusedSimpArgs false
namespace Go.Proofs.YteohdiaegnfbaaaDoor.Ten
open Go.RowKit Go.Proofs.YteohdiaegnfbaaaDoor.Big Go.Proofs.YteohdiaegnfbaaaDoor.Rt
open Go.Lib (itoa)

theorem itoa_lenT {z : Int} {L : Nat} (hL : 0 < L) (b : BT L z) : (itoa z).length ≤ L + 1 := by
  unfold BT at b
  rw [pt_ten] at b
  rcases Int.lt_or_le z 0 with h | h
  · obtain ⟨u, rfl⟩ : ∃ u : Nat, z = -(u : Int) := ⟨z.natAbs, by omega⟩
    rw [Lib.itoa_neg u (by omega), List.length_cons, Lib.decDigits_length]
    have := nDigits_le (k := L) (r := u) hL (by simpa using b)
    omega
  · obtain ⟨u, rfl⟩ : ∃ u : Nat, z = (u : Int) := ⟨z.natAbs, by omega⟩
    rw [Lib.itoa_nonneg u, Lib.decDigits_length]
    have := nDigits_le (k := L) (r := u) hL (by simpa using b)
    omega
theorem itoa_sizeT {z : Int} {L : Nat} (hL : 0 < L) (b : BT L z) : (⟨(itoa z).toArray⟩ : ByteArray).size ≤ L + 1 := by
  have := itoa_lenT hL b
  simpa [ByteArray.size] using this

theorem NumB.one {w : World} {v : Value} {L : Nat} (h : NumV w v 1) (hL : 0 < L) : NumB w v 1 L := ⟨h, Nat.lt_of_lt_of_le (show Int.natAbs 1 < pt 1 by decide) (pt_mono hL)⟩

set_option maxRecDepth 100000 in
set_option maxHeartbeats 8000000 in
theorem FText_any (x : Value) (q : Rat) (L : Nat) (w : World) (hx : FracV w x q) (bn : BT L q.num) (bd : BT L (q.den : Int)) (hL0 : 0 < L) (hL : L ≤ 10000000000) : Calls Tryd.prog 31 #[x] w (StrPost w (ratText q)) := by
  obtain ⟨s, A, n, c, s', A', n', c', rfl, hn, hd⟩ := hx
  obtain ⟨D, hD⟩ : ∃ D : Int, D = (q.den : Int) := ⟨_, rfl⟩
  obtain ⟨V, hV⟩ : ∃ V, V = ratText q := ⟨_, rfl⟩
  rw [← hV]
  have HV := Lib.hid hV
  have HD := Lib.hid hD
  rw [← hD] at hd bd
  clear hV hD
  have hE0 : Ext w (w.alloc (.cells #[.int .i64 s, .slice A n c, .int .i64 s', .slice A' n' c'] 41)) := (Ext.refl w).alloc _
  have B0 := Box.new w 41 #[.int .i64 s, .slice A n c, .int .i64 s', .slice A' n' c']
  have hn := hn.ext hE0
  have hd := hd.ext hE0
  have hNB : NumB _ _ q.num L := ⟨hn, bn⟩
  have hDB : NumB _ _ D L := ⟨hd, bd⟩
  have z1 := itoa_sizeT hL0 bn
  have z2 := itoa_sizeT hL0 bd
  obtain ⟨SN, hSN⟩ : ∃ S : ByteArray, S = ⟨(itoa q.num).toArray⟩ := ⟨_, rfl⟩
  obtain ⟨SD, hSD⟩ : ∃ S : ByteArray, S = ⟨(itoa D).toArray⟩ := ⟨_, rfl⟩
  rw [← hSN] at z1
  rw [← hSD] at z2
  have HSN := Lib.hid hSN
  have HSD := Lib.hid hSD
  clear hSN hSD
  go_enter Tryd.func31, Tryd.ntmps31
  go_wp2_with fail
  refine (RText_b _ _ _ _ hNB (by omega)).mono ?_
  rintro e w1 ⟨rfl, hx1⟩
  rw [← HSN.out]
  go_upto_region 2 with fail
  have B0 := B0.ext hx1
  have hDB := hDB.ext hx1
  have hE1 := hE0.trans hx1
  clear hx1 hE0 hn hd hNB
  have k02 : ∀ w', Later w1 w' → w'.cell? ⟨w.heap.size, 2, none⟩ = some (.int .i64 s') := fun w' h => (B0.ext h).c2
  have k03 : ∀ w', Later w1 w' → w'.cell? ⟨w.heap.size, 3, none⟩ = some (.slice A' n' c') := fun w' h => (B0.ext h).c3
  have hS0 := Later.refl w1
  by_cases h1 : D = 1
  · have e1 : (cmpZ D 1 != 0) = false := by rw [cmpZ_zero.2 h1]; rfl
    have HR := Lib.hid (show (⟨V.toArray⟩ : ByteArray) = SN by rw [HV.out, HSN.out]; unfold ratText; rw [if_pos (by have := HD.out; omega)])
    clear h1
    go_region_held3 (fun w' => Later w1 w') ((repeat (first | assumption | apply Later.drew | apply Later.drewN | apply Later.alloc | (refine Later.step ?_ (by assumption))))) (first
      | (go_at_call 47; (with_reducible refine (one_any _).mono ?_); rintro e wa ⟨va, rfl, ha, hxa⟩; (obtain ⟨s3, A3, n3, c3, rfl, -⟩ := ha.shape))
      | (go_at_call 62; (with_reducible refine (RCmp_b _ _ D 1 L L _ (hDB.ext (by repeat (first | (with_reducible exact Ext.refl _) | (with_reducible apply Ext.drew) | (with_reducible apply Ext.drewN) | (with_reducible refine Ext.trans ?_ (by assumption))))) (NumB.one ha hL0) (by omega)).mono ?_); rintro e wb ⟨rfl, hxb⟩)
      )
    all_goals go_wp2_with fail
    all_goals go_ret
    all_goals exact ⟨by rw [HR.out]; rfl, hE1.trans (show Later w1 _ by assumption)⟩
  · have e1 : (cmpZ D 1 != 0) = true := by
      have := mt cmpZ_zero.1 h1
      simpa using this
    have HS : Hid ((⟨V.toArray⟩ : ByteArray) = (SN ++ ⟨#[47]⟩) ++ SD) := Lib.hid (by rw [HV.out, HSN.out, HSD.out, cat_slash]; unfold ratText; rw [if_neg (by have := HD.out; omega), HD.out])
    have c1 : ¬ 9223372036854775807 < SN.size + 1 := by omega
    have c2 : ¬ 9223372036854775807 < SN.size + 1 + SD.size := by omega
    clear h1
    go_region_held3 (fun w' => Later w1 w') ((repeat (first | assumption | apply Later.drew | apply Later.drewN | apply Later.alloc | (refine Later.step ?_ (by assumption))))) (first
      | (go_at_call 47; (with_reducible refine (one_any _).mono ?_); rintro e wa ⟨va, rfl, ha, hxa⟩; (obtain ⟨s3, A3, n3, c3, rfl, -⟩ := ha.shape))
      | (go_at_call 62; (with_reducible refine (RCmp_b _ _ D 1 L L _ (hDB.ext (by repeat (first | (with_reducible exact Ext.refl _) | (with_reducible apply Ext.drew) | (with_reducible apply Ext.drewN) | (with_reducible refine Ext.trans ?_ (by assumption))))) (NumB.one ha hL0) (by omega)).mono ?_); rintro e wb ⟨rfl, hxb⟩)
      )
    all_goals (have hM : Ext w1 wb := (show Later w1 wb by assumption))
    all_goals go_wp2_with fail
    all_goals (
      refine (RText_b _ _ _ _ (hDB.ext hM) (by omega)).mono ?_
      rintro e w9 ⟨rfl, hx9⟩
      rw [← HSD.out]
      go_wp2_with fail
      go_ret
      exact ⟨by rw [HS.out]; rfl, hE1.trans (hM.trans hx9)⟩)
end Go.Proofs.YteohdiaegnfbaaaDoor.Ten

/- Walks: whole, small of ilp. -/
import Derived.Test.YthafabkjidifeaaIN0
import Derived.Test.YthafabkjidifeaaT4
import Derived.WalkLawsBesides
set_option linter.unusedVariables false
set_option linter.unusedSimpArgs false
namespace Go.Proofs.Ythafabkjidifeaa.Lp
open Go.RowKit Go.Proofs.Ythafabkjidifeaa.Big Go.Proofs.Ythafabkjidifeaa.Rt

set_option maxHeartbeats 4000000 in
theorem whole_b (x : Value) (q : Rat) (k : Nat) (w : World) (hx : RatB w x q k) : Calls Try.prog 56 #[x] w (ValPost w (.bool (decide (q.den = 1)))) := by
  obtain ⟨p1, A1, m1, c1, p1', A1', m1', c1', rfl⟩ := hx.1.shape
  obtain ⟨F, hF⟩ : ∃ F, F = decide (q.den = 1) := ⟨_, rfl⟩
  obtain ⟨R, hR⟩ : ∃ R, R = cmpZ (q.den : Int) 1 := ⟨_, rfl⟩
  have e9 : (R == 0) = F := by
    rw [hR, hF]
    unfold cmpZ
    by_cases h1 : q.den = 1
    · simp [h1]
    · have : (q.den : Int) ≠ 1 := by omega
      split
      · simp [h1]
      · split
        · simp [h1]
        · omega
  rw [← hF]
  have HR := Lib.hid hR
  clear hF hR
  have B0 := Box.new w 59 #[.bool p1, .slice A1 m1 c1, .bool p1', .slice A1' m1' c1']
  have hE0 : Ext w (w.alloc (.cells #[.bool p1, .slice A1 m1 c1, .bool p1', .slice A1' m1' c1'] 59)) := (Ext.refl w).alloc _
  go_enter Try.func56, Try.ntmps56
  go_upto_region 1 with fail
  generalize (w.alloc (.cells #[.bool p1, .slice A1 m1 c1, .bool p1', .slice A1' m1' c1'] 59)) = V at *
  have c0 := B0.c0
  have c1' := B0.c1
  have c2 := B0.c2
  have c3 := B0.c3
  go_wp2_with fail
  refine (RatDen_b _ q k _ (hx.ext hE0)).mono ?_
  rintro e w1 ⟨v1, rfl, hb1, hx1⟩
  obtain ⟨p2, A2, m2, c2', rfl⟩ := hb1.1.shape
  clear c0 c1' c2 c3
  go_wp2_with fail
  refine (Of_b 1 _ (by omega) (by omega)).mono ?_
  rintro e w2 ⟨v2, rfl, hb2, hx2⟩
  obtain ⟨p3, A3, m3, c3', rfl⟩ := hb2.1.shape
  go_wp2_with fail
  refine (Cmp_b _ _ _ _ _ _ _ (hb1.ext hx2) hb2).mono ?_
  rintro e w3 ⟨rfl, hx3⟩
  rw [← HR.out]
  go_wp2_with fail
  go_ret
  exact ⟨rfl, ((hE0.trans hx1).trans hx2).trans hx3⟩
set_option maxHeartbeats 4000000 in
theorem small_b (x : Value) (z : Int) (k : Nat) (w : World) (hx : BigB w x z k) (hk : k ≤ 1099511627776) : Calls Try.prog 59 #[x] w (fun e w' => Ext w w' ∧ ((fit z = true ∧ e = .returned (.int .i64 z)) ∨ (fit z = false ∧ e = failE 2))) := by
  obtain ⟨p1, A1, m1, c1, rfl⟩ := hx.1.shape
  have B0 := Box.new w 57 #[.bool p1, .slice A1 m1 c1]
  have hE0 : Ext w (w.alloc (.cells #[.bool p1, .slice A1 m1 c1] 57)) := (Ext.refl w).alloc _
  go_enter Try.func59, Try.ntmps59
  go_upto_region 1 with fail
  generalize (w.alloc (.cells #[.bool p1, .slice A1 m1 c1] 57)) = V at *
  have c0 := B0.c0
  have c1' := B0.c1
  go_wp2_with fail
  refine (Int_any _ z k _ (hx.1.ext hE0) hx.2 hk).mono ?_
  rintro e w1 ⟨rfl, hx1⟩
  have hE1 := hE0.trans hx1
  have hff : fits z = fit z := rfl
  rw [hff]
  cases hfz : fit z with
  | true =>
    clear c0 c1' hff
    simp only [if_true]
    go_wp2_with fail
    go_ret
    exact ⟨hE1, .inl ⟨hfz, rfl⟩⟩
  | false =>
    clear c0 c1' hff
    go_wp2_with fail
    exact ⟨rfl, hE1, .inr ⟨hfz, rfl⟩⟩
end Go.Proofs.Ythafabkjidifeaa.Lp

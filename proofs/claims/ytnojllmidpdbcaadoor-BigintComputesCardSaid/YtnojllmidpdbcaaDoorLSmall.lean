/- Walk: the law BigintSmall. -/
import Derived.Test.YtnojllmidpdbcaaDoorQ2
set_option linter.unusedVariables false
set_option linter.unusedSimpArgs false
namespace Go.Proofs.YtnojllmidpdbcaaDoor.Big
open Go.RowKit

theorem tdiv_two (a : Int) (h0 : -2147483648 ≤ a) (h1 : a ≤ 2147483647) : -1073741824 ≤ a.tdiv 2 ∧ a.tdiv 2 ≤ 1073741823 := by
  rcases Int.lt_or_le a 0 with h | h
  · obtain ⟨k, rfl⟩ : ∃ k : Int, a = -k := ⟨-a, by omega⟩
    rw [Int.neg_tdiv, Int.tdiv_eq_ediv_of_nonneg (by omega)]
    omega
  · rw [Int.tdiv_eq_ediv_of_nonneg h]
    omega

theorem Int_fit (x : Value) (X : Int) (w : World) (hx : BigV w x X) (h0 : -9223372036854775808 ≤ X) (h1 : X ≤ 9223372036854775807) : Calls Tryd.prog 19 #[x] w (fun e w' => e = .returned (.tuple #[.int .i64 X, .bool true]) ∧ Ext w w') := by
  refine (Int_any x X 3 w hx (by unfold pw; omega) (by omega)).mono ?_
  rintro e w' ⟨rfl, h⟩
  have hf : fits X = true := by unfold fits; simp; omega
  rw [hf]
  exact ⟨rfl, h⟩
theorem mul_small {m n : Int} (m0 : -1073741824 ≤ m) (m1 : m ≤ 1073741823) (n0 : -1073741824 ≤ n) (n1 : n ≤ 1073741823) : -1152921504606846976 ≤ m * n ∧ m * n ≤ 1152921504606846976 := by
  have h1 : (m * n).natAbs ≤ 1073741824 * 1073741824 := by
    rw [Int.natAbs_mul]
    exact Nat.mul_le_mul (by omega) (by omega)
  omega
theorem tdiv_small {m n : Int} (m0 : -1073741824 ≤ m) (m1 : m ≤ 1073741823) : -1073741824 ≤ m.tdiv n ∧ m.tdiv n ≤ 1073741824 := by
  have h1 : (m.tdiv n).natAbs ≤ m.natAbs := by rw [Int.natAbs_tdiv]; exact Nat.div_le_self _ _
  omega
theorem tmod_small {m n : Int} (m0 : -1073741824 ≤ m) (m1 : m ≤ 1073741823) : -1073741824 ≤ m.tmod n ∧ m.tmod n ≤ 1073741824 := by
  have h1 : (m.tmod n).natAbs ≤ m.natAbs := by rw [Int.natAbs_tmod]; exact Nat.mod_le _ _
  omega

set_option maxHeartbeats 4000000 in
theorem small_any (a b : Int) (w : World) (ha0 : -2147483648 ≤ a) (ha1 : a ≤ 2147483647) (hb0 : -2147483648 ≤ b) (hb1 : b ≤ 2147483647) (htab : TabOK w) :
    Calls Tryd.prog 8 #[.int .i32 a, .int .i32 b] w (fun e w' => e = .returned (.bool true) ∧ Ext w w') := by
  obtain ⟨m, hm⟩ : ∃ m, m = a.tdiv 2 := ⟨_, rfl⟩
  obtain ⟨n, hn⟩ : ∃ n, n = b.tdiv 2 := ⟨_, rfl⟩
  have mb := tdiv_two a ha0 ha1
  have nb := tdiv_two b hb0 hb1
  rw [← hm] at mb
  rw [← hn] at nb
  obtain ⟨m0, m1⟩ := mb
  obtain ⟨n0, n1⟩ := nb
  have hm' : a.tdiv 2 = m := hm.symm
  have hn' : b.tdiv 2 = n := hn.symm
  clear hm hn
  go_enter Tryd.func8, Tryd.ntmps8
  go_wp2_with fail
  refine (awake_any _ htab).mono ?_
  rintro e w1 ⟨rfl, hx1⟩
  go_wp2_with fail
  refine (Of_any m _ (by omega) (by omega)).mono ?_
  rintro e w2 ⟨v2, rfl, hm2, hx2⟩
  obtain ⟨p2, A2, k2, c2, rfl⟩ := hm2.shape
  go_wp2_with fail
  refine (Of_any n _ (by omega) (by omega)).mono ?_
  rintro e w3 ⟨v3, rfl, hn3, hx3⟩
  obtain ⟨p3, A3, k3, c3, rfl⟩ := hn3.shape
  go_upto_region 5 with fail
  obtain ⟨B7, B8, hE⟩ := boxes2 w3 25 #[.bool p2, .slice A2 k2 c2] #[.bool p3, .slice A3 k3 c3]
  have hX := (hm2.ext hx3).ext hE
  have hY := hn3.ext hE
  have hE0 := ((hx1.trans hx2).trans hx3).trans hE
  generalize ((w3.alloc (.cells #[.bool p2, .slice A2 k2 c2] 25)).alloc (.cells #[.bool p3, .slice A3 k3 c3] 25)) = W at *
  clear hm2 hn3 hE hx1 hx2 hx3
  have k70 : ∀ w', Ext W w' → w'.cell? ⟨w3.heap.size, 0, none⟩ = some (.bool p2) := fun w' h => (B7.ext h).c0
  have k71 : ∀ w', Ext W w' → w'.cell? ⟨w3.heap.size, 1, none⟩ = some (.slice A2 k2 c2) := fun w' h => (B7.ext h).c1
  have k80 : ∀ w', Ext W w' → w'.cell? ⟨w3.heap.size + 1, 0, none⟩ = some (.bool p3) := fun w' h => (B8.ext h).c0
  have k81 : ∀ w', Ext W w' → w'.cell? ⟨w3.heap.size + 1, 1, none⟩ = some (.slice A3 k3 c3) := fun w' h => (B8.ext h).c1
  have hS0 := Ext.refl W
  have hXb : m.natAbs < pw 1 := by unfold pw; omega
  have hYb : n.natAbs < pw 1 := by unfold pw; omega
  go_wp2_with fail
  refine (Add_any _ _ _ _ 1 _ (hX.ext hS0) (hY.ext hS0) hXb hYb (by omega)).mono ?_
  rintro e w4 ⟨v4, rfl, hb4, hx4⟩
  obtain ⟨p4, A4, n4, c4, rfl⟩ := hb4.shape
  have hS4 : Ext W w4 := Ext.trans (by assumption) hx4
  go_wp2_with fail
  refine (Int_fit _ _ _ hb4 (by omega) (by omega)).mono ?_
  rintro e w5 ⟨rfl, hx5⟩
  have hS5 : Ext W w5 := Ext.trans (by assumption) hx5
  go_wp2_with fail
  refine (Sub_any _ _ _ _ 1 _ (hX.ext hS5) (hY.ext hS5) hXb hYb (by omega)).mono ?_
  rintro e w6 ⟨v6, rfl, hb6, hx6⟩
  obtain ⟨p6, A6, n6, c6, rfl⟩ := hb6.shape
  have hS6 : Ext W w6 := Ext.trans (by assumption) hx6
  go_wp2_with fail
  refine (Int_fit _ _ _ hb6 (by omega) (by omega)).mono ?_
  rintro e w7 ⟨rfl, hx7⟩
  have hS7 : Ext W w7 := Ext.trans (by assumption) hx7
  obtain ⟨g0, g1⟩ := mul_small m0 m1 n0 n1
  go_wp2_with fail
  refine (Mul_any _ _ _ _ 1 _ (hX.ext hS7) (hY.ext hS7) hXb hYb (by omega)).mono ?_
  rintro e w8 ⟨v8, rfl, hb8, hx8⟩
  obtain ⟨p8, A8, n8, c8, rfl⟩ := hb8.shape
  have hS8 : Ext W w8 := Ext.trans (by assumption) hx8
  go_wp2_with fail
  refine (Int_fit _ _ _ hb8 (by omega) (by omega)).mono ?_
  rintro e w9 ⟨rfl, hx9⟩
  have hS9 : Ext W w9 := Ext.trans (by assumption) hx9
  by_cases hn0 : n = 0
  · subst hn0
    go_wp2_with fail
    refine (Div_zero _ _ m _ (hX.ext hS9) (hY.ext hS9)).mono ?_
    rintro e w10 ⟨rfl, hx10⟩
    have hS10 := hS9.trans hx10
    go_wp2_with fail
    go_ret
    exact ⟨rfl, ((hE0.trans hS10).alloc _).alloc _⟩
  · have e1 : (n == 0) = false := by simpa using hn0
    obtain ⟨u0, u1⟩ := tdiv_small (n := n) m0 m1
    obtain ⟨v0, v1⟩ := tmod_small (n := n) m0 m1
    have HN := Lib.hid hn0
    clear hn0
    go_wp2_with fail
    refine (Div_any _ _ m n 1 _ (hX.ext hS9) (hY.ext hS9) hXb (by omega) HN.out).mono ?_
    rintro e w10 ⟨q, r, rfl, hq, hr, hx10⟩
    have hS10 := hS9.trans hx10
    obtain ⟨pq, Aq, nq, cq, rfl⟩ := hq.shape
    obtain ⟨pr, Ar, nr, cr, rfl⟩ := hr.shape
    go_upto_region 11 with fail
    obtain ⟨Bq, Br, hE⟩ := boxes2 w10 25 #[.bool pq, .slice Aq nq cq] #[.bool pr, .slice Ar nr cr]
    have hq := hq.ext hE
    have hr := hr.ext hE
    have hE1 := (hE0.trans hS10).trans hE
    clear hX hY k70 k71 k80 k81 hb4 hb6 hb8
    generalize ((w10.alloc (.cells #[.bool pq, .slice Aq nq cq] 25)).alloc (.cells #[.bool pr, .slice Ar nr cr] 25)) = V at *
    have k70 : ∀ w', Ext V w' → w'.cell? ⟨w10.heap.size, 0, none⟩ = some (.bool pq) := fun w' h => (Bq.ext h).c0
    have k71 : ∀ w', Ext V w' → w'.cell? ⟨w10.heap.size, 1, none⟩ = some (.slice Aq nq cq) := fun w' h => (Bq.ext h).c1
    have k80 : ∀ w', Ext V w' → w'.cell? ⟨w10.heap.size + 1, 0, none⟩ = some (.bool pr) := fun w' h => (Br.ext h).c0
    have k81 : ∀ w', Ext V w' → w'.cell? ⟨w10.heap.size + 1, 1, none⟩ = some (.slice Ar nr cr) := fun w' h => (Br.ext h).c1
    have hT0 := Ext.refl V
    go_wp2_with fail
    refine (Int_fit _ _ _ hq (by omega) (by omega)).mono ?_
    rintro e w11 ⟨rfl, hx11⟩
    go_wp2_with fail
    refine (Int_fit _ _ _ (hr.ext hx11) (by omega) (by omega)).mono ?_
    rintro e w12 ⟨rfl, hx12⟩
    go_wp2_with fail
    go_ret
    exact ⟨rfl, (hE1.trans hx11).trans hx12⟩

end Go.Proofs.YtnojllmidpdbcaaDoor.Big

/- Walks: product. -/
import Derived.Test.YtginogcdjplhiaaGreatDoorW1
set_option linter.unusedVariables false
set_option linter.unusedSimpArgs false
namespace Go.Proofs.YtginogcdjplhiaaGreatDoor.Big
open Go.RowKit

set_option maxHeartbeats 1000000 in
theorem product_any (x y : Value) (n m X Y : Nat) (w : World) (hx : Dig w x n X) (hy : Dig w y m Y) (hb : n + m ≤ 4398046511104) :
    Calls Tryz.prog 60 #[x, y] w (NumPost w (X * Y)) := by
  obtain ⟨A1, c1, rfl, hn1, hc1, hX, hx⟩ := hx
  obtain ⟨A2, c2, rfl, hn2, hc2, hY, hy⟩ := hy
  by_cases hn0 : n = 0
  · subst hn0
    have hX0 : X = 0 := by simpa [pw_zero] using hX
    subst hX0
    go_enter Tryz.func60, Tryz.ntmps60
    go_wp2_with fail
    go_ret
    exact ⟨_, 0, rfl, by rw [Nat.zero_mul]; exact Dig.nil w, .inl rfl, Ext.refl _⟩
  by_cases hm0 : m = 0
  · subst hm0
    have hY0 : Y = 0 := by simpa [pw_zero] using hY
    subst hY0
    have h0 : ((n : Int) == 0) = false := by simp; omega
    go_enter Tryz.func60, Tryz.ntmps60
    go_wp2_with fail
    go_ret
    exact ⟨_, 0, rfl, by rw [Nat.mul_zero]; exact Dig.nil w, .inl rfl, Ext.refl _⟩
  have h0 : ((n : Int) == 0) = false := by simp; omega
  have h00 : ((m : Int) == 0) = false := by simp; omega
  go_enter Tryz.func60, Tryz.ntmps60
  go_wp2_with (at_make; refine wpList_make32 _ rfl _ _ 24 rfl 96 Tryz.underlying24 (by kernel_rfl) _ _ rfl rfl (n + m) (by omega) (by omega) (by omega) ?_; intro w1 harr hext)
  go_loopw [26] (fun i wr => ∃ k : Nat, k ≤ n ∧ i = .int .i64 k ∧ MulRow wr w.heap.size (n + m) 96 X Y k 0 ∧ Ext w wr) (fun i _ => n - (intOf i).toNat)
  case atStart => exact ⟨0, by omega, rfl, MulRow.start harr (fun _ _ => rfl), hext⟩
  case round =>
    obtain ⟨k, hk, rfl, harr, hext⟩ := hrel
    by_cases hlt : k < n
    · obtain ⟨b1, o1, rfl, hcx⟩ := hx (by omega)
      have hcx := hcx k hlt
      have hbx := dgt_lt X k
      obtain ⟨wo, rfl⟩ : ∃ wo : World, wo = wr := ⟨_, rfl⟩
      go_wp2
      go_loopw [7, 31] (fun cy i wr => ∃ j : Nat, j ≤ m ∧ i = .int .i64 j ∧ cy = .int .u64 (mulc X Y k j : Nat) ∧ MulRow wr w.heap.size (n + m) 96 X Y k j ∧ Ext w wr) (fun _ i _ => m - (intOf i).toNat)
      case atStart => exact ⟨0, by omega, rfl, by rw [mulc_zero]; rfl, harr, hext⟩
      case round =>
        clear harr hext
        obtain ⟨j, hj, rfl, rfl, harr, hext⟩ := hrel
        have hbc := mulc_lt X Y k j
        by_cases hjlt : j < m
        · obtain ⟨b2, o2, rfl, hcy⟩ := hy (by omega)
          have hcx := hext.cell hcx
          have hcy := hext.cell (hcy j hjlt)
          have hby := dgt_lt Y j
          have hco := harr.cell (by omega)
          have hfo := harr.frozen (k + j)
          have hbo := dgt_lt (prow X Y k) (k + j)
          have hbt := mul_bound hbx hby hbo hbc
          have hmul0 : (0 : Int) ≤ (dgt X k : Int) * (dgt Y j : Int) := by have := Int.natCast_nonneg (dgt X k * dgt Y j); simpa using this
          have hmulI : (dgt X k : Int) * (dgt Y j : Int) + (dgt (prow X Y k) (k + j) : Int) + (mulc X Y k j : Int) < 18446744073709551616 := by have := Int.ofNat_lt.2 hbt; simpa using this
          clear hbt
          go_wp2
          go_quiet (fail)
          go_wp2
          go_roundw
          case rel => exact ⟨j + 1, by omega, by go_num, ret_int (by rw [mulc_succ]; simp), (harr.drewN _).step (by rw [mul_dgt]; simp), (hext.drewN _).set (Nat.le_refl _) _⟩
          case measure => simp [intOf]; omega
        · obtain rfl : j = m := by omega
          have hco := harr.cell (by omega)
          have hfo := harr.frozen (k + j)
          go_wp2
          go_roundw
          case rel => exact ⟨k + 1, by omega, by go_num, (harr.step (by rw [mulc_full hY])).next hY, hext.set (Nat.le_refl _) _⟩
          case measure => simp [intOf]; omega
    · obtain rfl : k = n := by omega
      go_wp2_with fail
      refine (trim_any _ _ _ _ _ (harr.dig rfl (by omega) hX hY)).mono ?_
      rintro e w' ⟨v, n', rfl, hd, ht, rfl⟩
      go_wp2_with fail
      go_ret
      exact ⟨v, n', rfl, hd, ht, hext⟩

end Go.Proofs.YtginogcdjplhiaaGreatDoor.Big

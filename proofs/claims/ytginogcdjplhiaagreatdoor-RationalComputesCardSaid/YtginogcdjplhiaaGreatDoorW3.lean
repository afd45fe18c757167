/- Walks: difference, scaled, divideSmall, shifted, unshifted. -/
import Derived.Test.YtginogcdjplhiaaGreatDoorW1
set_option linter.unusedVariables false
set_option linter.unusedSimpArgs false
namespace Go.Proofs.YtginogcdjplhiaaGreatDoor.Big
open Go.RowKit

set_option maxHeartbeats 1000000 in
theorem difference_any (x y : Value) (n m X Y : Nat) (w : World) (hx : Dig w x n X) (hy : Dig w y m Y) (hmn : m ≤ n) (hYX : Y ≤ X) :
    Calls Tryz.prog 64 #[x, y] w (NumPost w (X - Y)) := by
  obtain ⟨A1, c1, rfl, hn1, hc1, hX, hx⟩ := hx
  obtain ⟨A2, c2, rfl, hn2, hc2, hY, hy⟩ := hy
  go_enter Tryz.func64, Tryz.ntmps64
  go_wp2_with (at_make; refine wpList_make32 _ rfl _ _ 24 rfl 96 Tryz.underlying24 (by kernel_rfl) _ _ rfl rfl n (by omega) (by omega) (by omega) ?_; intro w1 harr hext)
  go_loopw [6, 14] (fun bo i wr => ∃ k : Nat, k ≤ n ∧ i = .int .i64 k ∧ bo = .int .u64 (difc X Y k : Nat) ∧ ArrTo wr w.heap.size n 96 (X - Y) k ∧ Ext w wr) (fun _ i _ => n - (intOf i).toNat)
  case atStart => exact ⟨0, by omega, rfl, by rw [difc_zero]; rfl, ArrTo.start harr, hext⟩
  case round =>
    obtain ⟨k, hk, rfl, rfl, harr, hext⟩ := hrel
    by_cases hlt : k < n
    · obtain ⟨b1, o1, rfl, hcx⟩ := hx (by omega)
      have hcx := hext.cell (hcx k hlt)
      obtain ⟨u, hco⟩ := harr.cell (j := k) (by omega)
      have hfo := harr.frozen k
      have hbx := dgt_lt X k
      have hby := dgt_lt Y k
      have hbc := difc_le X Y k
      have HS := Lib.hid (dif_step X Y k hYX)
      by_cases hkm : k < m
      · obtain ⟨b2, o2, rfl, hcy⟩ := hy (by omega)
        have hcy := hext.cell (hcy k hkm)
        go_wp2
        go_roundw
        case rel => exact ⟨k + 1, by omega, by go_num, ret_int (dif_close hYX).1, harr.step (dif_close hYX).2, hext.set (Nat.le_refl _) _⟩
        case measure => simp [intOf]; omega
      · have hy0 : dgt Y k = 0 := dgt_zero_of_lt (Nat.lt_of_lt_of_le hY (pw_mono (by omega)))
        have HY := Lib.hid hy0; clear hy0
        go_wp2
        go_roundw
        case rel => exact ⟨k + 1, by omega, by go_num, ret_int (dif_close0 hYX HY.out).1, harr.step (dif_close0 hYX HY.out).2, hext.set (Nat.le_refl _) _⟩
        case measure => simp [intOf]; omega
    · obtain rfl : k = n := by omega
      go_wp2_with fail
      refine (trim_any _ _ _ _ _ (harr.dig (by omega) (by omega))).mono ?_
      rintro e w' ⟨v, n', rfl, hd, ht, rfl⟩
      go_wp2_with fail
      go_ret
      exact ⟨v, n', rfl, hd, ht, hext⟩

set_option maxHeartbeats 1000000 in
theorem scaled_any (x : Value) (n X f m : Nat) (w : World) (hx : Dig w x n X) (hf : 0 < f) (hf2 : f ≤ 4294967296) (hm : m < f) (hb : n + 1 ≤ 4398046511104) :
    Calls Tryz.prog 80 #[x, .int .u64 f, .int .u64 m] w (NumPost w (X * f + m)) := by
  obtain ⟨A1, c1, rfl, hn1, hc1, hX, hx⟩ := hx
  go_enter Tryz.func80, Tryz.ntmps80
  go_wp2_with (at_make; refine wpList_make32 _ rfl _ _ 24 rfl 96 Tryz.underlying24 (by kernel_rfl) _ _ rfl rfl (n + 1) (by omega) (by omega) (by omega) ?_; intro w1 harr hext)
  go_loopw [8, 18] (fun cy i wr => ∃ k : Nat, k ≤ n ∧ i = .int .i64 k ∧ cy = .int .u64 (scac X f m k : Nat) ∧ ArrTo wr w.heap.size (n + 1) 96 (X * f + m) k ∧ Ext w wr) (fun _ i _ => n - (intOf i).toNat)
  case atStart => exact ⟨0, by omega, rfl, by rw [scac_zero], ArrTo.start harr, hext⟩
  case round =>
    obtain ⟨k, hk, rfl, rfl, harr, hext⟩ := hrel
    have hbc := scac_lt X f m k hf hm
    obtain ⟨u, hco⟩ := harr.cell (j := k) (by omega)
    have hfo := harr.frozen k
    by_cases hlt : k < n
    · obtain ⟨b1, o1, rfl, hcx⟩ := hx (by omega)
      have hcx := hext.cell (hcx k hlt)
      have hbx := dgt_lt X k
      have hmul : dgt X k * f ≤ 4294967295 * 4294967296 := Nat.mul_le_mul (by omega) hf2
      have hmulI : (dgt X k : Int) * (f : Int) ≤ 18446744069414584320 := by have := Int.ofNat_le.2 hmul; simpa using this
      have hmul0 : (0 : Int) ≤ (dgt X k : Int) * (f : Int) := by have := Int.natCast_nonneg (dgt X k * f); simpa using this
      clear hmul
      go_wp2
      go_roundw
      case rel => exact ⟨k + 1, by omega, by go_num, ret_int (by rw [scac_succ]; simp), harr.step (by rw [sca_dgt]; simp), hext.set (Nat.le_refl _) _⟩
      case measure => simp [intOf]; omega
    · obtain rfl : k = n := by omega
      go_wp2_with fail
      have hV : X * f + m < pw (k + 1) := by
        rw [pw_succ]
        have : (X + 1) * f ≤ pw k * 4294967296 := Nat.mul_le_mul hX hf2
        rw [Nat.add_mul] at this; omega
      refine (trim_any _ _ _ _ _ ((harr.step (by rw [scac_full hX hV])).dig (by omega) hV)).mono ?_
      rintro e w' ⟨v, n', rfl, hd, ht, rfl⟩
      go_wp2_with fail
      go_ret
      exact ⟨v, n', rfl, hd, ht, hext.set (Nat.le_refl _) _⟩

def DivPost2 (w : World) (V r : Nat) (e : Ending) (w' : World) : Prop := ∃ v n, e = .returned (.tuple #[v, .int .u64 r]) ∧ Dig w' v n V ∧ Trm n V ∧ Ext w w' ∧ (∀ (ad : Addr) (k c : Nat), v = .slice (some ad) k c → w.heap.size ≤ ad.block)

set_option maxHeartbeats 1000000 in
theorem divideSmall_any2 (x : Value) (n X d : Nat) (w : World) (hx : Dig w x n X) (hd : 0 < d) (hd2 : d ≤ 4294967295) (hb : n + 1 ≤ 4398046511104) :
    Calls Tryz.prog 46 #[x, .int .u64 d] w (DivPost2 w (X / d) (X % d)) := by
  obtain ⟨A1, c1, rfl, hn1, hc1, hX, hx⟩ := hx
  go_enter Tryz.func46, Tryz.ntmps46
  go_wp2_with (at_make; refine wpList_make32 _ rfl _ _ 24 rfl 96 Tryz.underlying24 (by kernel_rfl) _ _ rfl rfl n (by omega) (by omega) (by omega) ?_; intro w1 harr hext)
  go_loopw [5, 15] (fun r i wr => ∃ k : Nat, k ≤ n ∧ i = .int .i64 k ∧ (∃ q : Nat, r = .int .u64 q ∧ q < d ∧ Hid (q = X / pw (n - k) % d)) ∧ ArrFrom wr w.heap.size n 96 (X / d) (n - k) ∧ Ext w wr) (fun _ i _ => n - (intOf i).toNat)
  case atStart => exact ⟨0, by omega, rfl, ⟨0, rfl, hd, Lib.hid (by simp [Nat.div_eq_of_lt hX])⟩, ArrFrom.start harr, hext⟩
  case round =>
    obtain ⟨k, hk, rfl, ⟨q, rfl, hqd, HQ⟩, harr, hext⟩ := hrel
    by_cases hlt : k < n
    · obtain ⟨i, rfl⟩ : ∃ i, n = k + 1 + i := ⟨n - k - 1, by omega⟩
      rw [show k + 1 + i - k = i + 1 by omega] at HQ harr
      obtain ⟨u, hco⟩ := harr.cell (j := i) (by omega)
      have hfo := harr.frozen i
      obtain ⟨b1, o1, rfl, hcx⟩ := hx (by omega)
      have hcx := hext.cell (hcx i (by omega))
      have hbx := dgt_lt X i
      have hor := or32 q (dgt X i) (by omega) hbx
      have hd1 : dgt (X / d) i = (q * 4294967296 + dgt X i) / d := by rw [HQ.out]; exact dvs_dgt X d i hd
      have hd2 : X / pw i % d = (q * 4294967296 + dgt X i) % d := by rw [HQ.out]; exact dvs_mod X d i
      have H1 := Lib.hid hd1
      have H2 := Lib.hid hd2
      clear hd1 hd2
      go_wp2
      go_roundw
      case rel =>
        refine ⟨k + 1, by omega, by go_num, ⟨(q * 4294967296 + dgt X i) % d, by simp, Nat.mod_lt _ hd, ?_⟩, ?_, hext.set (Nat.le_refl _) _⟩
        · rw [show k + 1 + i - (k + 1) = i by omega]; exact H2.out.symm
        · rw [show k + 1 + i - (k + 1) = i by omega]
          refine harr.step ?_
          have h3 := dgt_lt (X / d) i
          rw [H1.out] at h3 ⊢
          rw [show ((q : Int) * 4294967296 + (dgt X i : Int)) / (d : Int) = (((q * 4294967296 + dgt X i) / d : Nat) : Int) by simp]
          generalize (q * 4294967296 + dgt X i) / d = z at *
          omega
      case measure => simp [intOf]; omega
    · obtain rfl : k = n := by omega
      rw [Nat.sub_self] at HQ harr
      go_wp2_with fail
      refine (trim_any2 _ _ _ _ _ (harr.dig (by omega) (Nat.lt_of_le_of_lt (Nat.div_le_self _ _) hX))).mono ?_
      rintro e w' ⟨v, n', rfl, hd, ht, rfl, hloc⟩
      go_wp2_with fail
      go_ret2
      refine ⟨v, n', by rw [HQ.out, pw_zero, Nat.div_one]; rfl, hd, ht, hext, fun ad k' c' hv => ?_⟩
      rcases hloc with h | ⟨k2, h⟩
      · rw [h] at hv; cases hv
      · rw [h] at hv; injection hv with hv; injection hv with hv; rw [← hv]; exact Nat.le_refl _
theorem divideSmall_any (x : Value) (n X d : Nat) (w : World) (hx : Dig w x n X) (hd : 0 < d) (hd2 : d ≤ 4294967295) (hb : n + 1 ≤ 4398046511104) :
    Calls Tryz.prog 46 #[x, .int .u64 d] w (DivPost w (X / d) (X % d)) :=
  (divideSmall_any2 x n X d w hx hd hd2 hb).mono fun _ _ ⟨v, n, h1, h2, h3, h4, _⟩ => ⟨v, n, h1, h2, h3, h4⟩

/-- the digits times 2^s, with one digit more, in new memory -/
def ShlPost (w : World) (n V : Nat) (e : Ending) (w' : World) : Prop := ∃ f, e = .returned (.slice (some ⟨w.heap.size, 0, none⟩) n n) ∧ Arr w' w.heap.size n 96 f ∧ (∀ j, j < n → f j = dgt V j) ∧ Ext w w'

set_option maxHeartbeats 1000000 in
theorem shifted_any (x : Value) (n X s : Nat) (w : World) (hx : Dig w x n X) (hs : s ≤ 31) (hb : n + 1 ≤ 4398046511104) :
    Calls Tryz.prog 82 #[x, .int .i64 s] w (ShlPost w (n + 1) (X * 2 ^ s)) := by
  obtain ⟨A1, c1, rfl, hn1, hc1, hX, hx⟩ := hx
  have hf : 0 < 2 ^ s := Nat.two_pow_pos s
  have hf2 : 2 ^ s ≤ 2147483648 := by have := Nat.pow_le_pow_right (n := 2) (by omega) hs; omega
  obtain ⟨f, hfs⟩ : ∃ f, f = 2 ^ s := ⟨_, rfl⟩
  have HF := Lib.hid hfs
  rw [← hfs] at hf hf2 ⊢
  clear hfs
  go_enter Tryz.func82, Tryz.ntmps82
  go_wp2_with (at_make; refine wpList_make32 _ rfl _ _ 24 rfl 96 Tryz.underlying24 (by kernel_rfl) _ _ rfl rfl (n + 1) (by omega) (by omega) (by omega) ?_; intro w1 harr hext)
  go_loopw [6, 15] (fun cy i wr => ∃ k : Nat, k ≤ n ∧ i = .int .i64 k ∧ cy = .int .u64 (scac X f 0 k : Nat) ∧ ArrTo wr w.heap.size (n + 1) 96 (X * f) k ∧ Ext w wr) (fun _ i _ => n - (intOf i).toNat)
  case atStart => exact ⟨0, by omega, rfl, by rw [scac_zero]; rfl, ArrTo.start harr, hext⟩
  case round =>
    obtain ⟨k, hk, rfl, rfl, harr, hext⟩ := hrel
    have hbc := scac_lt X f 0 k hf hf
    obtain ⟨u, hco⟩ := harr.cell (j := k) (by omega)
    have hfo := harr.frozen k
    by_cases hlt : k < n
    · obtain ⟨b1, o1, rfl, hcx⟩ := hx (by omega)
      have hcx := hext.cell (hcx k hlt)
      have hbx := dgt_lt X k
      have hor := or_shl (dgt X k) (scac X f 0 k) s (by omega) hbx (by rw [← HF.out]; exact hbc)
      rw [← HF.out] at hor
      have hub : dgt X k * f + scac X f 0 k < 18446744073709551616 := by
        have : dgt X k * f ≤ 4294967295 * 2147483648 := Nat.mul_le_mul (by omega) hf2
        omega
      go_wp2
      go_roundw
      case rel => exact ⟨k + 1, by omega, by go_num, ret_int (by rw [scac_succ]; simp), harr.step (by rw [show X * f = X * f + 0 from rfl, sca_dgt]; simp), hext.set (Nat.le_refl _) _⟩
      case measure => simp [intOf]; omega
    · obtain rfl : k = n := by omega
      have hV : X * f + 0 < pw (k + 1) := by
        rw [pw_succ]
        have : (X + 1) * f ≤ pw k * 4294967296 := Nat.mul_le_mul hX (by omega)
        rw [Nat.add_mul] at this; omega
      have HD := Lib.hid (scac_full hX hV)
      clear hV
      go_wp2
      go_ret
      obtain ⟨g, hg, hgf⟩ := harr.step (e := (scac X f 0 k : Int)) (by rw [HD.out]; rfl)
      exact ⟨g, rfl, hg, hgf, hext.set (Nat.le_refl _) _⟩

set_option maxHeartbeats 1000000 in
theorem unshifted_any (x : Value) (n X s : Nat) (w : World) (hx : Dig w x n X) (hs : s ≤ 31) (hb : n + 1 ≤ 4398046511104) :
    Calls Tryz.prog 84 #[x, .int .i64 s] w (ShlPost w n (X / 2 ^ s)) := by
  obtain ⟨A1, c1, rfl, hn1, hc1, hX, hx⟩ := hx
  have hf : 0 < 2 ^ s := Nat.two_pow_pos s
  go_enter Tryz.func84, Tryz.ntmps84
  go_wp2_with (at_make; refine wpList_make32 _ rfl _ _ 24 rfl 96 Tryz.underlying24 (by kernel_rfl) _ _ rfl rfl n (by omega) (by omega) (by omega) ?_; intro w1 harr hext)
  go_loopw [6, 15] (fun cy i wr => ∃ k : Nat, k ≤ n ∧ i = .int .i64 k ∧ cy = .int .u64 (dgt X (n - k) : Nat) ∧ ArrFrom wr w.heap.size n 96 (X / 2 ^ s) (n - k) ∧ Ext w wr) (fun _ i _ => n - (intOf i).toNat)
  case atStart => exact ⟨0, by omega, rfl, by rw [Nat.sub_zero, dgt_zero_of_lt hX]; rfl, ArrFrom.start harr, hext⟩
  case round =>
    obtain ⟨k, hk, rfl, rfl, harr, hext⟩ := hrel
    by_cases hlt : k < n
    · obtain ⟨i, rfl⟩ : ∃ i, n = k + 1 + i := ⟨n - k - 1, by omega⟩
      obtain ⟨q, hq⟩ : ∃ q, q = dgt X (k + 1 + i - k) := ⟨_, rfl⟩
      rw [← hq]
      have hq1 : q = dgt X (i + 1) := by rw [hq, show k + 1 + i - k = i + 1 by omega]
      have HQ := Lib.hid hq1
      have hqb : q < 4294967296 := by rw [hq]; exact dgt_lt _ _
      clear hq hq1
      rw [show k + 1 + i - k = i + 1 by omega] at harr
      obtain ⟨u, hco⟩ := harr.cell (j := i) (by omega)
      have hfo := harr.frozen i
      obtain ⟨b1, o1, rfl, hcx⟩ := hx (by omega)
      have hb1 : b1 < w.heap.size := World.block_lt_of_cell? w _ (hcx i (by omega))
      have hcx := hext.cell (hcx i (by omega))
      have hcx2 : ∀ v, (wr.setCell ⟨w.heap.size, i, none⟩ v).cell? ⟨b1, o1 + i, none⟩ = some (.int .u32 (dgt X i : Int)) := fun v =>
        (World.cell?_setCell_other wr _ _ v (fun e => by injection e; omega)).trans hcx
      have hbx := dgt_lt X i
      have hor := or32 q (dgt X i) (by omega) hbx
      go_wp2
      go_roundw
      case rel =>
        refine ⟨k + 1, by omega, by go_num, ret_int (by rw [show k + 1 + i - (k + 1) = i by omega]), ?_, hext.set (Nat.le_refl _) _⟩
        rw [show k + 1 + i - (k + 1) = i by omega]
        refine harr.step ?_
        rw [shr_dgt X s i (by omega), ← HQ.out]
        simp
      case measure => simp [intOf]; omega
    · obtain rfl : k = n := by omega
      rw [Nat.sub_self] at harr
      go_wp2
      go_ret
      obtain ⟨g, hg, hgf⟩ := harr
      exact ⟨g, rfl, hg, fun j hj => hgf j (by omega) hj, hext⟩

end Go.Proofs.YtginogcdjplhiaaGreatDoor.Big

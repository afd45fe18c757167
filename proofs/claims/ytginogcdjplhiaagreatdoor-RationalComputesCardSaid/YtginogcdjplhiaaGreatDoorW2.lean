/- Walks: sum. -/
import Derived.Test.YtginogcdjplhiaaGreatDoorW1
set_option linter.unusedVariables false
set_option linter.unusedSimpArgs false
namespace Go.Proofs.YtginogcdjplhiaaGreatDoor.Big
open Go.RowKit

set_option maxHeartbeats 1000000 in
theorem sum_ge (A1 A2 : Option Addr) (n m c1 c2 X Y : Nat) (w : World) (hx : Dig w (.slice A1 n c1) n X) (hy : Dig w (.slice A2 m c2) m Y) (hmn : m ≤ n) (hb : n + 1 ≤ 4398046511104) :
    Calls Tryz.prog 63 #[.slice A1 n c1, .slice A2 m c2] w (NumPost w (X + Y)) := by
  obtain ⟨-, hn1, hc1, hX, hx⟩ := hx.inj
  obtain ⟨-, hn2, hc2, hY, hy⟩ := hy.inj
  have hmn' : m ≤ n := by omega
  go_enter Tryz.func63, Tryz.ntmps63
  go_wp2_with (at_make; refine wpList_make32 _ rfl _ _ 24 rfl 96 Tryz.underlying24 (by kernel_rfl) _ _ rfl rfl (n + 1) (by omega) (by omega) (by omega) ?_; intro w1 harr hext)
  go_loopw [6, 22] (fun cy i wr => ∃ k : Nat, k ≤ n ∧ i = .int .i64 k ∧ cy = .int .u64 (sumc X Y k : Nat) ∧ (∃ f, Arr wr w.heap.size (n + 1) 96 f ∧ ∀ j, j < k → f j = dgt (X + Y) j) ∧ Ext w wr) (fun _ i _ => n - (intOf i).toNat)
  case atStart => exact ⟨0, by omega, rfl, by rw [sumc_zero]; rfl, ⟨_, harr, fun j hj => absurd hj (by omega)⟩, hext⟩
  case round =>
    obtain ⟨k, hk, rfl, rfl, ⟨f, harr, hf⟩, hext⟩ := hrel
    by_cases hlt : k < n
    · obtain ⟨b1, o1, rfl, hcx⟩ := hx (by omega)
      have hcx := hext.cell (hcx k hlt)
      have hco := harr.cell (j := k) (by omega)
      have hfo := harr.frozen k
      have hbx := dgt_lt X k
      have hby := dgt_lt Y k
      have hbc := sumc_le X Y k
      by_cases hkm : k < m
      · obtain ⟨b2, o2, rfl, hcy⟩ := hy (by omega)
        have hcy := hext.cell (hcy k hkm)
        go_wp2
        go_roundw
        case rel =>
          refine ⟨k + 1, by omega, by go_num, ?_, ⟨_, (harr.set k ((dgt X k + sumc X Y k + dgt Y k) % 4294967296)).congr (fun _ _ => rfl), ?_⟩, hext.set (Nat.le_refl _) _⟩
          · rw [sumc_succ, show dgt X k + dgt Y k + sumc X Y k = dgt X k + sumc X Y k + dgt Y k by omega]; go_num
          · intro j hj
            by_cases hjk : j = k
            · subst hjk; rw [sum_dgt]; simp; congr 1; omega
            · simp [hjk]; exact hf j (by omega)
        case measure => simp [intOf]; omega
      · have hy0 : dgt Y k = 0 := dgt_zero_of_lt (Nat.lt_of_lt_of_le hY (pw_mono (by omega)))
        have HY := Lib.hid hy0; clear hy0
        go_wp2
        go_roundw
        case rel =>
          refine ⟨k + 1, by omega, by go_num, ?_, ⟨_, (harr.set k ((dgt X k + sumc X Y k) % 4294967296)).congr (fun _ _ => rfl), ?_⟩, hext.set (Nat.le_refl _) _⟩
          · rw [sumc_succ, HY.out]; go_num
          · intro j hj
            by_cases hjk : j = k
            · subst hjk; rw [sum_dgt, HY.out]; simp
            · simp [hjk]; exact hf j (by omega)
        case measure => simp [intOf]; omega
    · obtain rfl : k = n := by omega
      have hco := harr.cell (j := k) (by omega)
      have hfo := harr.frozen k
      have hbc := sumc_le X Y k
      go_wp2_with fail
      have hD := (harr.set k (sumc X Y k)).dig (V := X + Y) (by omega) (by rw [pw_succ]; have := pw_mono hmn'; omega) (by
        intro j hj
        by_cases hjk : j = k
        · subst hjk; simp; exact sumc_full hX (Nat.lt_of_lt_of_le hY (pw_mono hmn'))
        · simp [hjk]; exact hf j (by omega))
      refine (trim_any _ _ _ _ _ hD).mono ?_
      rintro e w' ⟨v, n', rfl, hd, ht, rfl⟩
      go_wp2_with fail
      go_ret
      exact ⟨v, n', rfl, hd, ht, hext.set (Nat.le_refl _) _⟩
set_option maxHeartbeats 1000000 in
theorem sum_lt (A1 A2 : Option Addr) (n m c1 c2 X Y : Nat) (w : World) (hx : Dig w (.slice A1 n c1) n X) (hy : Dig w (.slice A2 m c2) m Y) (hmn : m < n) (hb : n + 1 ≤ 4398046511104) :
    Calls Tryz.prog 63 #[.slice A2 m c2, .slice A1 n c1] w (NumPost w (X + Y)) := by
  obtain ⟨-, hn1, hc1, hX, hx⟩ := hx.inj
  obtain ⟨-, hn2, hc2, hY, hy⟩ := hy.inj
  have hmn' : m ≤ n := by omega
  go_enter Tryz.func63, Tryz.ntmps63
  go_wp2_with (at_make; refine wpList_make32 _ rfl _ _ 24 rfl 96 Tryz.underlying24 (by kernel_rfl) _ _ rfl rfl (n + 1) (by omega) (by omega) (by omega) ?_; intro w1 harr hext)
  go_loopw [6, 22] (fun cy i wr => ∃ k : Nat, k ≤ n ∧ i = .int .i64 k ∧ cy = .int .u64 (sumc X Y k : Nat) ∧ (∃ f, Arr wr w.heap.size (n + 1) 96 f ∧ ∀ j, j < k → f j = dgt (X + Y) j) ∧ Ext w wr) (fun _ i _ => n - (intOf i).toNat)
  case atStart => exact ⟨0, by omega, rfl, by rw [sumc_zero]; rfl, ⟨_, harr, fun j hj => absurd hj (by omega)⟩, hext⟩
  case round =>
    obtain ⟨k, hk, rfl, rfl, ⟨f, harr, hf⟩, hext⟩ := hrel
    by_cases hlt : k < n
    · obtain ⟨b1, o1, rfl, hcx⟩ := hx (by omega)
      have hcx := hext.cell (hcx k hlt)
      have hco := harr.cell (j := k) (by omega)
      have hfo := harr.frozen k
      have hbx := dgt_lt X k
      have hby := dgt_lt Y k
      have hbc := sumc_le X Y k
      by_cases hkm : k < m
      · obtain ⟨b2, o2, rfl, hcy⟩ := hy (by omega)
        have hcy := hext.cell (hcy k hkm)
        go_wp2
        go_roundw
        case rel =>
          refine ⟨k + 1, by omega, by go_num, ?_, ⟨_, (harr.set k ((dgt X k + sumc X Y k + dgt Y k) % 4294967296)).congr (fun _ _ => rfl), ?_⟩, hext.set (Nat.le_refl _) _⟩
          · rw [sumc_succ, show dgt X k + dgt Y k + sumc X Y k = dgt X k + sumc X Y k + dgt Y k by omega]; go_num
          · intro j hj
            by_cases hjk : j = k
            · subst hjk; rw [sum_dgt]; simp; congr 1; omega
            · simp [hjk]; exact hf j (by omega)
        case measure => simp [intOf]; omega
      · have hy0 : dgt Y k = 0 := dgt_zero_of_lt (Nat.lt_of_lt_of_le hY (pw_mono (by omega)))
        have HY := Lib.hid hy0; clear hy0
        go_wp2
        go_roundw
        case rel =>
          refine ⟨k + 1, by omega, by go_num, ?_, ⟨_, (harr.set k ((dgt X k + sumc X Y k) % 4294967296)).congr (fun _ _ => rfl), ?_⟩, hext.set (Nat.le_refl _) _⟩
          · rw [sumc_succ, HY.out]; go_num
          · intro j hj
            by_cases hjk : j = k
            · subst hjk; rw [sum_dgt, HY.out]; simp
            · simp [hjk]; exact hf j (by omega)
        case measure => simp [intOf]; omega
    · obtain rfl : k = n := by omega
      have hco := harr.cell (j := k) (by omega)
      have hfo := harr.frozen k
      have hbc := sumc_le X Y k
      go_wp2_with fail
      have hD := (harr.set k (sumc X Y k)).dig (V := X + Y) (by omega) (by rw [pw_succ]; have := pw_mono hmn'; omega) (by
        intro j hj
        by_cases hjk : j = k
        · subst hjk; simp; exact sumc_full hX (Nat.lt_of_lt_of_le hY (pw_mono hmn'))
        · simp [hjk]; exact hf j (by omega))
      refine (trim_any _ _ _ _ _ hD).mono ?_
      rintro e w' ⟨v, n', rfl, hd, ht, rfl⟩
      go_wp2_with fail
      go_ret
      exact ⟨v, n', rfl, hd, ht, hext.set (Nat.le_refl _) _⟩

theorem sum_any (x y : Value) (n m X Y : Nat) (w : World) (hx : Dig w x n X) (hy : Dig w y m Y) (hn : n + 1 ≤ 4398046511104) (hm : m + 1 ≤ 4398046511104) :
    Calls Tryz.prog 63 #[x, y] w (NumPost w (X + Y)) := by
  have hx' := hx
  have hy' := hy
  obtain ⟨A1, c1, rfl, _⟩ := hx'
  obtain ⟨A2, c2, rfl, _⟩ := hy'
  rcases Nat.lt_or_ge n m with h | h
  · rw [Nat.add_comm]; exact sum_lt A2 A1 m n c2 c1 Y X w hy hx h hm
  · exact sum_ge A1 A2 n m c1 c2 X Y w hx hy h hn

end Go.Proofs.YtginogcdjplhiaaGreatDoor.Big

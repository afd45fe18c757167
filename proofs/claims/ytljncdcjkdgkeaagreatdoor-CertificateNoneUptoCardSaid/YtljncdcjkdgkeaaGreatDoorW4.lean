/- Walks: compare, trim. Walks: sum. Walks: difference, scaled, divideSmall, shifted, unshifted. Walks: product. -/
import Derived.Test.YtljncdcjkdgkeaaGreatDoorProg
import Derived.Test.YtljncdcjkdgkeaaGreatDoorMem
import Derived.WalkLawsBesides
import Derived.Deep.QuietTactic
import Derived.BigQuiet
set_option linter.unusedVariables false
set_option linter.unusedSimpArgs false
namespace Go.Proofs.YtljncdcjkdgkeaaGreatDoor.Big
open Go.RowKit

set_option maxHeartbeats 400000 in
theorem compare_ne (A1 A2 : Option Addr) (n1 n2 c1 c2 : Nat) (w : World) (h : n1 ≠ n2) (h1 : n1 ≤ 4398046511104) (h2 : n2 ≤ 4398046511104) :
    Calls Tryz.prog 78 #[.slice A1 n1 c1, .slice A2 n2 c2] w fun e w' => e = .returned (.int .i64 (if n1 < n2 then -1 else 1)) ∧ w = w' := by
  by_cases hlt : n1 < n2
  · go_enter Tryz.func78, Tryz.ntmps78
    go_wp2
    go_ret
    exact ⟨by simp [hlt], rfl⟩
  · go_enter Tryz.func78, Tryz.ntmps78
    go_wp2
    go_ret
    exact ⟨by simp [hlt], rfl⟩

set_option maxHeartbeats 1000000 in
theorem compare_eq (A1 A2 : Option Addr) (n c1 c2 X Y : Nat) (w : World) (hx : Dig w (.slice A1 n c1) n X) (hy : Dig w (.slice A2 n c2) n Y) :
    Calls Tryz.prog 78 #[.slice A1 n c1, .slice A2 n c2] w fun e w' => e = .returned (.int .i64 (cmpI X Y)) ∧ ∃ k, w' = w.drewN k := by
  obtain ⟨A1', c1', e1, hn1, hc1, hX, hx⟩ := hx
  obtain ⟨A2', c2', e2, hn2, hc2, hY, hy⟩ := hy
  obtain ⟨rfl, -, rfl⟩ : A1 = A1' ∧ n = n ∧ c1 = c1' := by injection e1 with a b c; exact ⟨a, rfl, c⟩
  obtain ⟨rfl, -, rfl⟩ : A2 = A2' ∧ n = n ∧ c2 = c2' := by injection e2 with a b c; exact ⟨a, rfl, c⟩
  clear e1 e2
  go_enter Tryz.func78, Tryz.ntmps78
  go_wp2
  go_loopw [19] (fun i wr => ∃ k d : Nat, k ≤ n ∧ i = .int .i64 k ∧ wr = w.drewN d ∧ X / pw (n - k) = Y / pw (n - k)) (fun i _ => n - (intOf i).toNat)
  case atStart => exact ⟨0, 0, Nat.zero_le _, rfl, rfl, by simp [Nat.div_eq_of_lt hX, Nat.div_eq_of_lt hY]⟩
  case round =>
    obtain ⟨k, d, hk, rfl, rfl, hd⟩ := hrel
    by_cases hlt : k < n
    · obtain ⟨b1, o1, rfl, hcx⟩ := hx (by omega)
      obtain ⟨b2, o2, rfl, hcy⟩ := hy (by omega)
      have hcx := hcx (n - 1 - k) (by omega)
      have hcy := hcy (n - 1 - k) (by omega)
      have HD := Lib.hid hd; clear hd
      clear hx hy hX hY
      rcases Nat.lt_trichotomy (dgt X (n - 1 - k)) (dgt Y (n - 1 - k)) with hd | hd | hd
      · have hne : ((dgt X (n - 1 - k) : Int) != (dgt Y (n - 1 - k) : Int)) = true := by rw [bne_iff_ne]; omega
        have hfin : cmpI X Y = -1 := cmp_lt (n := n) hk (by omega) HD.out hd
        have HF := Lib.hid hfin; clear hfin
        go_wp2
        go_quiet (fail)
        go_wp2
        go_quiet (fail)
        go_wp2
        go_ret
        exact ⟨by rw [HF.out]; rfl, by simp only [World.drewN_drewN]; exact ⟨_, rfl⟩⟩
      · have hne : ((dgt X (n - 1 - k) : Int) != (dgt Y (n - 1 - k) : Int)) = false := by rw [bne_eq_false_iff_eq, hd]
        have HE := Lib.hid hd; clear hd
        go_wp2
        go_quiet (fail)
        go_wp2
        go_roundw
        case rel => exact ⟨k + 1, _, by omega, by go_num, rfl, cmp_step hlt HD.out HE.out⟩
        case measure => simp [intOf]; omega
      · have hne : ((dgt X (n - 1 - k) : Int) != (dgt Y (n - 1 - k) : Int)) = true := by rw [bne_iff_ne]; omega
        have hfin : cmpI X Y = 1 := cmp_gt (n := n) hk (by omega) HD.out hd
        have HF := Lib.hid hfin; clear hfin
        go_wp2
        go_quiet (fail)
        go_wp2
        go_quiet (fail)
        go_wp2
        go_ret
        exact ⟨by rw [HF.out]; rfl, by simp only [World.drewN_drewN]; exact ⟨_, rfl⟩⟩
    · have hkn : k = n := by omega
      subst hkn
      have hfin : cmpI X Y = 0 := by
        simp only [Nat.sub_self, pw_zero, Nat.div_one] at hd
        subst hd; simp [cmpI]
      have HF := Lib.hid hfin; clear hfin hd
      go_wp2
      go_ret
      exact ⟨by rw [HF.out]; rfl, _, rfl⟩

/-- .. and where the result lies -/
def TrimPost2 (w : World) (A : Option Addr) (c V : Nat) (e : Ending) (w' : World) : Prop := ∃ v n, e = .returned v ∧ Dig w v n V ∧ Trm n V ∧ w = w' ∧ (v = .slice none 0 0 ∨ ∃ k, v = .slice A k c)

set_option maxHeartbeats 1000000 in
theorem trim_any2 (A : Option Addr) (n c V : Nat) (w : World) (h : Dig w (.slice A n c) n V) :
    Calls Tryz.prog 105 #[.slice A n c] w (TrimPost2 w A c V) := by
  obtain ⟨-, hn, hc, hV, hx⟩ := h.inj
  go_enter Tryz.func105, Tryz.ntmps105
  go_wp2
  go_loop [3] (fun i => ∃ k : Nat, k ≤ n ∧ i = .int .i64 k ∧ V < pw k) (fun i => (intOf i).toNat)
  case atStart => exact ⟨n, Nat.le_refl _, rfl, hV⟩
  case round =>
    obtain ⟨k, hk, rfl, hVk⟩ := hrel
    clear hV
    have HV := Lib.hid hVk; clear hVk
    by_cases h0 : 0 < k
    · obtain ⟨b, off, rfl, hcx⟩ := hx (by omega)
      have hck := hcx (k - 1) (by omega)
      have HX := Lib.hid hcx
      clear hx hcx
      by_cases hd : dgt V (k - 1) = 0
      · have h1 : ((dgt V (k - 1) : Int) == 0) = true := by rw [hd]; rfl
        have HD := Lib.hid hd; clear hd
        go_wp2
        go_round
        case rel => exact ⟨k - 1, by omega, by go_num, lt_of_dgt_zero (by rw [show k - 1 + 1 = k by omega]; exact HV.out) HD.out⟩
        case measure => simp [intOf]; omega
      · have h1 : ((dgt V (k - 1) : Int) == 0) = false := by simp; omega
        go_wp2
        go_ret
        exact ⟨_, k, rfl, Dig.cut HX.out hk hn hc HV.out, .inr (le_of_dgt hd), rfl, .inr ⟨k, rfl⟩⟩
    · have hk0 : k = 0 := by omega
      subst hk0
      go_wp2
      go_ret
      have h0 : V = 0 := by have := HV.out; simp [pw_zero] at this; exact this
      subst h0
      exact ⟨_, 0, rfl, Dig.nil w, .inl rfl, rfl, .inl rfl⟩

theorem trim_any (A : Option Addr) (n c V : Nat) (w : World) (h : Dig w (.slice A n c) n V) :
    Calls Tryz.prog 105 #[.slice A n c] w (TrimPost w V) :=
  (trim_any2 A n c V w h).mono fun _ _ ⟨v, n, h1, h2, h3, h4, _⟩ => ⟨v, n, h1, h2, h3, h4⟩

end Go.Proofs.YtljncdcjkdgkeaaGreatDoor.Big

namespace Go.Proofs.YtljncdcjkdgkeaaGreatDoor.Big
open Go.RowKit

set_option maxHeartbeats 1000000 in
theorem sum_ge (A1 A2 : Option Addr) (n m c1 c2 X Y : Nat) (w : World) (hx : Dig w (.slice A1 n c1) n X) (hy : Dig w (.slice A2 m c2) m Y) (hmn : m ≤ n) (hb : n + 1 ≤ 4398046511104) :
    Calls Tryz.prog 106 #[.slice A1 n c1, .slice A2 m c2] w (NumPost w (X + Y)) := by
  obtain ⟨-, hn1, hc1, hX, hx⟩ := hx.inj
  obtain ⟨-, hn2, hc2, hY, hy⟩ := hy.inj
  have hmn' : m ≤ n := by omega
  go_enter Tryz.func106, Tryz.ntmps106
  go_wp2_with (at_make; refine wpList_make32 _ rfl _ _ 54 rfl 147 Tryz.underlying54 (by kernel_rfl) _ _ rfl rfl (n + 1) (by omega) (by omega) (by omega) ?_; intro w1 harr hext)
  go_loopw [6, 22] (fun cy i wr => ∃ k : Nat, k ≤ n ∧ i = .int .i64 k ∧ cy = .int .u64 (sumc X Y k : Nat) ∧ (∃ f, Arr wr w.heap.size (n + 1) 147 f ∧ ∀ j, j < k → f j = dgt (X + Y) j) ∧ Ext w wr) (fun _ i _ => n - (intOf i).toNat)
  case atStart => exact ⟨0, by omega, rfl, by rw [sumc_zero]; rfl, ⟨_, harr, fun j hj => absurd hj (by omega)⟩, hext⟩
  case round =>
    obtain ⟨k, hk, rfl, rfl, ⟨f, harr, hf⟩, hext⟩ := hrel
    by_cases hlt : k < n
    · obtain ⟨b1, o1, rfl, hcx⟩ := hx (by omega)
      have hcx := hext.cell (hcx k hlt)
      have hco := harr.cell (j := k) (by omega)
      have hfo := harr.frozen k
      have hbx := dgt_lt X k
      have hby := dgt_lt Y k
      have hbc := sumc_le X Y k
      by_cases hkm : k < m
      · obtain ⟨b2, o2, rfl, hcy⟩ := hy (by omega)
        have hcy := hext.cell (hcy k hkm)
        go_wp2
        go_roundw
        case rel =>
          refine ⟨k + 1, by omega, by go_num, ?_, ⟨_, (harr.set k ((dgt X k + sumc X Y k + dgt Y k) % 4294967296)).congr (fun _ _ => rfl), ?_⟩, hext.set (Nat.le_refl _) _⟩
          · rw [sumc_succ, show dgt X k + dgt Y k + sumc X Y k = dgt X k + sumc X Y k + dgt Y k by omega]; go_num
          · intro j hj
            by_cases hjk : j = k
            · subst hjk; rw [sum_dgt]; simp; congr 1; omega
            · simp [hjk]; exact hf j (by omega)
        case measure => simp [intOf]; omega
      · have hy0 : dgt Y k = 0 := dgt_zero_of_lt (Nat.lt_of_lt_of_le hY (pw_mono (by omega)))
        have HY := Lib.hid hy0; clear hy0
        go_wp2
        go_roundw
        case rel =>
          refine ⟨k + 1, by omega, by go_num, ?_, ⟨_, (harr.set k ((dgt X k + sumc X Y k) % 4294967296)).congr (fun _ _ => rfl), ?_⟩, hext.set (Nat.le_refl _) _⟩
          · rw [sumc_succ, HY.out]; go_num
          · intro j hj
            by_cases hjk : j = k
            · subst hjk; rw [sum_dgt, HY.out]; simp
            · simp [hjk]; exact hf j (by omega)
        case measure => simp [intOf]; omega
    · obtain rfl : k = n := by omega
      have hco := harr.cell (j := k) (by omega)
      have hfo := harr.frozen k
      have hbc := sumc_le X Y k
      go_wp2_with fail
      have hD := (harr.set k (sumc X Y k)).dig (V := X + Y) (by omega) (by rw [pw_succ]; have := pw_mono hmn'; omega) (by
        intro j hj
        by_cases hjk : j = k
        · subst hjk; simp; exact sumc_full hX (Nat.lt_of_lt_of_le hY (pw_mono hmn'))
        · simp [hjk]; exact hf j (by omega))
      refine (trim_any _ _ _ _ _ hD).mono ?_
      rintro e w' ⟨v, n', rfl, hd, ht, rfl⟩
      go_wp2_with fail
      go_ret
      exact ⟨v, n', rfl, hd, ht, hext.set (Nat.le_refl _) _⟩
set_option maxHeartbeats 1000000 in
theorem sum_lt (A1 A2 : Option Addr) (n m c1 c2 X Y : Nat) (w : World) (hx : Dig w (.slice A1 n c1) n X) (hy : Dig w (.slice A2 m c2) m Y) (hmn : m < n) (hb : n + 1 ≤ 4398046511104) :
    Calls Tryz.prog 106 #[.slice A2 m c2, .slice A1 n c1] w (NumPost w (X + Y)) := by
  obtain ⟨-, hn1, hc1, hX, hx⟩ := hx.inj
  obtain ⟨-, hn2, hc2, hY, hy⟩ := hy.inj
  have hmn' : m ≤ n := by omega
  go_enter Tryz.func106, Tryz.ntmps106
  go_wp2_with (at_make; refine wpList_make32 _ rfl _ _ 54 rfl 147 Tryz.underlying54 (by kernel_rfl) _ _ rfl rfl (n + 1) (by omega) (by omega) (by omega) ?_; intro w1 harr hext)
  go_loopw [6, 22] (fun cy i wr => ∃ k : Nat, k ≤ n ∧ i = .int .i64 k ∧ cy = .int .u64 (sumc X Y k : Nat) ∧ (∃ f, Arr wr w.heap.size (n + 1) 147 f ∧ ∀ j, j < k → f j = dgt (X + Y) j) ∧ Ext w wr) (fun _ i _ => n - (intOf i).toNat)
  case atStart => exact ⟨0, by omega, rfl, by rw [sumc_zero]; rfl, ⟨_, harr, fun j hj => absurd hj (by omega)⟩, hext⟩
  case round =>
    obtain ⟨k, hk, rfl, rfl, ⟨f, harr, hf⟩, hext⟩ := hrel
    by_cases hlt : k < n
    · obtain ⟨b1, o1, rfl, hcx⟩ := hx (by omega)
      have hcx := hext.cell (hcx k hlt)
      have hco := harr.cell (j := k) (by omega)
      have hfo := harr.frozen k
      have hbx := dgt_lt X k
      have hby := dgt_lt Y k
      have hbc := sumc_le X Y k
      by_cases hkm : k < m
      · obtain ⟨b2, o2, rfl, hcy⟩ := hy (by omega)
        have hcy := hext.cell (hcy k hkm)
        go_wp2
        go_roundw
        case rel =>
          refine ⟨k + 1, by omega, by go_num, ?_, ⟨_, (harr.set k ((dgt X k + sumc X Y k + dgt Y k) % 4294967296)).congr (fun _ _ => rfl), ?_⟩, hext.set (Nat.le_refl _) _⟩
          · rw [sumc_succ, show dgt X k + dgt Y k + sumc X Y k = dgt X k + sumc X Y k + dgt Y k by omega]; go_num
          · intro j hj
            by_cases hjk : j = k
            · subst hjk; rw [sum_dgt]; simp; congr 1; omega
            · simp [hjk]; exact hf j (by omega)
        case measure => simp [intOf]; omega
      · have hy0 : dgt Y k = 0 := dgt_zero_of_lt (Nat.lt_of_lt_of_le hY (pw_mono (by omega)))
        have HY := Lib.hid hy0; clear hy0
        go_wp2
        go_roundw
        case rel =>
          refine ⟨k + 1, by omega, by go_num, ?_, ⟨_, (harr.set k ((dgt X k + sumc X Y k) % 4294967296)).congr (fun _ _ => rfl), ?_⟩, hext.set (Nat.le_refl _) _⟩
          · rw [sumc_succ, HY.out]; go_num
          · intro j hj
            by_cases hjk : j = k
            · subst hjk; rw [sum_dgt, HY.out]; simp
            · simp [hjk]; exact hf j (by omega)
        case measure => simp [intOf]; omega
    · obtain rfl : k = n := by omega
      have hco := harr.cell (j := k) (by omega)
      have hfo := harr.frozen k
      have hbc := sumc_le X Y k
      go_wp2_with fail
      have hD := (harr.set k (sumc X Y k)).dig (V := X + Y) (by omega) (by rw [pw_succ]; have := pw_mono hmn'; omega) (by
        intro j hj
        by_cases hjk : j = k
        · subst hjk; simp; exact sumc_full hX (Nat.lt_of_lt_of_le hY (pw_mono hmn'))
        · simp [hjk]; exact hf j (by omega))
      refine (trim_any _ _ _ _ _ hD).mono ?_
      rintro e w' ⟨v, n', rfl, hd, ht, rfl⟩
      go_wp2_with fail
      go_ret
      exact ⟨v, n', rfl, hd, ht, hext.set (Nat.le_refl _) _⟩

theorem sum_any (x y : Value) (n m X Y : Nat) (w : World) (hx : Dig w x n X) (hy : Dig w y m Y) (hn : n + 1 ≤ 4398046511104) (hm : m + 1 ≤ 4398046511104) :
    Calls Tryz.prog 106 #[x, y] w (NumPost w (X + Y)) := by
  have hx' := hx
  have hy' := hy
  obtain ⟨A1, c1, rfl, _⟩ := hx'
  obtain ⟨A2, c2, rfl, _⟩ := hy'
  rcases Nat.lt_or_ge n m with h | h
  · rw [Nat.add_comm]; exact sum_lt A2 A1 m n c2 c1 Y X w hy hx h hm
  · exact sum_ge A1 A2 n m c1 c2 X Y w hx hy h hn

end Go.Proofs.YtljncdcjkdgkeaaGreatDoor.Big

namespace Go.Proofs.YtljncdcjkdgkeaaGreatDoor.Big
open Go.RowKit

set_option maxHeartbeats 1000000 in
theorem difference_any (x y : Value) (n m X Y : Nat) (w : World) (hx : Dig w x n X) (hy : Dig w y m Y) (hmn : m ≤ n) (hYX : Y ≤ X) :
    Calls Tryz.prog 107 #[x, y] w (NumPost w (X - Y)) := by
  obtain ⟨A1, c1, rfl, hn1, hc1, hX, hx⟩ := hx
  obtain ⟨A2, c2, rfl, hn2, hc2, hY, hy⟩ := hy
  go_enter Tryz.func107, Tryz.ntmps107
  go_wp2_with (at_make; refine wpList_make32 _ rfl _ _ 54 rfl 147 Tryz.underlying54 (by kernel_rfl) _ _ rfl rfl n (by omega) (by omega) (by omega) ?_; intro w1 harr hext)
  go_loopw [6, 14] (fun bo i wr => ∃ k : Nat, k ≤ n ∧ i = .int .i64 k ∧ bo = .int .u64 (difc X Y k : Nat) ∧ ArrTo wr w.heap.size n 147 (X - Y) k ∧ Ext w wr) (fun _ i _ => n - (intOf i).toNat)
  case atStart => exact ⟨0, by omega, rfl, by rw [difc_zero]; rfl, ArrTo.start harr, hext⟩
  case round =>
    obtain ⟨k, hk, rfl, rfl, harr, hext⟩ := hrel
    by_cases hlt : k < n
    · obtain ⟨b1, o1, rfl, hcx⟩ := hx (by omega)
      have hcx := hext.cell (hcx k hlt)
      obtain ⟨u, hco⟩ := harr.cell (j := k) (by omega)
      have hfo := harr.frozen k
      have hbx := dgt_lt X k
      have hby := dgt_lt Y k
      have hbc := difc_le X Y k
      have HS := Lib.hid (dif_step X Y k hYX)
      by_cases hkm : k < m
      · obtain ⟨b2, o2, rfl, hcy⟩ := hy (by omega)
        have hcy := hext.cell (hcy k hkm)
        go_wp2
        go_roundw
        case rel => exact ⟨k + 1, by omega, by go_num, ret_int (dif_close hYX).1, harr.step (dif_close hYX).2, hext.set (Nat.le_refl _) _⟩
        case measure => simp [intOf]; omega
      · have hy0 : dgt Y k = 0 := dgt_zero_of_lt (Nat.lt_of_lt_of_le hY (pw_mono (by omega)))
        have HY := Lib.hid hy0; clear hy0
        go_wp2
        go_roundw
        case rel => exact ⟨k + 1, by omega, by go_num, ret_int (dif_close0 hYX HY.out).1, harr.step (dif_close0 hYX HY.out).2, hext.set (Nat.le_refl _) _⟩
        case measure => simp [intOf]; omega
    · obtain rfl : k = n := by omega
      go_wp2_with fail
      refine (trim_any _ _ _ _ _ (harr.dig (by omega) (by omega))).mono ?_
      rintro e w' ⟨v, n', rfl, hd, ht, rfl⟩
      go_wp2_with fail
      go_ret
      exact ⟨v, n', rfl, hd, ht, hext⟩

set_option maxHeartbeats 1000000 in
theorem scaled_any (x : Value) (n X f m : Nat) (w : World) (hx : Dig w x n X) (hf : 0 < f) (hf2 : f ≤ 4294967296) (hm : m < f) (hb : n + 1 ≤ 4398046511104) :
    Calls Tryz.prog 160 #[x, .int .u64 f, .int .u64 m] w (NumPost w (X * f + m)) := by
  obtain ⟨A1, c1, rfl, hn1, hc1, hX, hx⟩ := hx
  go_enter Tryz.func160, Tryz.ntmps160
  go_wp2_with (at_make; refine wpList_make32 _ rfl _ _ 54 rfl 147 Tryz.underlying54 (by kernel_rfl) _ _ rfl rfl (n + 1) (by omega) (by omega) (by omega) ?_; intro w1 harr hext)
  go_loopw [8, 18] (fun cy i wr => ∃ k : Nat, k ≤ n ∧ i = .int .i64 k ∧ cy = .int .u64 (scac X f m k : Nat) ∧ ArrTo wr w.heap.size (n + 1) 147 (X * f + m) k ∧ Ext w wr) (fun _ i _ => n - (intOf i).toNat)
  case atStart => exact ⟨0, by omega, rfl, by rw [scac_zero], ArrTo.start harr, hext⟩
  case round =>
    obtain ⟨k, hk, rfl, rfl, harr, hext⟩ := hrel
    have hbc := scac_lt X f m k hf hm
    obtain ⟨u, hco⟩ := harr.cell (j := k) (by omega)
    have hfo := harr.frozen k
    by_cases hlt : k < n
    · obtain ⟨b1, o1, rfl, hcx⟩ := hx (by omega)
      have hcx := hext.cell (hcx k hlt)
      have hbx := dgt_lt X k
      have hmul : dgt X k * f ≤ 4294967295 * 4294967296 := Nat.mul_le_mul (by omega) hf2
      have hmulI : (dgt X k : Int) * (f : Int) ≤ 18446744069414584320 := by have := Int.ofNat_le.2 hmul; simpa using this
      have hmul0 : (0 : Int) ≤ (dgt X k : Int) * (f : Int) := by have := Int.natCast_nonneg (dgt X k * f); simpa using this
      clear hmul
      go_wp2
      go_roundw
      case rel => exact ⟨k + 1, by omega, by go_num, ret_int (by rw [scac_succ]; simp), harr.step (by rw [sca_dgt]; simp), hext.set (Nat.le_refl _) _⟩
      case measure => simp [intOf]; omega
    · obtain rfl : k = n := by omega
      go_wp2_with fail
      have hV : X * f + m < pw (k + 1) := by
        rw [pw_succ]
        have : (X + 1) * f ≤ pw k * 4294967296 := Nat.mul_le_mul hX hf2
        rw [Nat.add_mul] at this; omega
      refine (trim_any _ _ _ _ _ ((harr.step (by rw [scac_full hX hV])).dig (by omega) hV)).mono ?_
      rintro e w' ⟨v, n', rfl, hd, ht, rfl⟩
      go_wp2_with fail
      go_ret
      exact ⟨v, n', rfl, hd, ht, hext.set (Nat.le_refl _) _⟩

def DivPost2 (w : World) (V r : Nat) (e : Ending) (w' : World) : Prop := ∃ v n, e = .returned (.tuple #[v, .int .u64 r]) ∧ Dig w' v n V ∧ Trm n V ∧ Ext w w' ∧ (∀ (ad : Addr) (k c : Nat), v = .slice (some ad) k c → w.heap.size ≤ ad.block)

set_option maxHeartbeats 1000000 in
theorem divideSmall_any2 (x : Value) (n X d : Nat) (w : World) (hx : Dig w x n X) (hd : 0 < d) (hd2 : d ≤ 4294967295) (hb : n + 1 ≤ 4398046511104) :
    Calls Tryz.prog 97 #[x, .int .u64 d] w (DivPost2 w (X / d) (X % d)) := by
  obtain ⟨A1, c1, rfl, hn1, hc1, hX, hx⟩ := hx
  go_enter Tryz.func97, Tryz.ntmps97
  go_wp2_with (at_make; refine wpList_make32 _ rfl _ _ 54 rfl 147 Tryz.underlying54 (by kernel_rfl) _ _ rfl rfl n (by omega) (by omega) (by omega) ?_; intro w1 harr hext)
  go_loopw [5, 15] (fun r i wr => ∃ k : Nat, k ≤ n ∧ i = .int .i64 k ∧ (∃ q : Nat, r = .int .u64 q ∧ q < d ∧ Hid (q = X / pw (n - k) % d)) ∧ ArrFrom wr w.heap.size n 147 (X / d) (n - k) ∧ Ext w wr) (fun _ i _ => n - (intOf i).toNat)
  case atStart => exact ⟨0, by omega, rfl, ⟨0, rfl, hd, Lib.hid (by simp [Nat.div_eq_of_lt hX])⟩, ArrFrom.start harr, hext⟩
  case round =>
    obtain ⟨k, hk, rfl, ⟨q, rfl, hqd, HQ⟩, harr, hext⟩ := hrel
    by_cases hlt : k < n
    · obtain ⟨i, rfl⟩ : ∃ i, n = k + 1 + i := ⟨n - k - 1, by omega⟩
      rw [show k + 1 + i - k = i + 1 by omega] at HQ harr
      obtain ⟨u, hco⟩ := harr.cell (j := i) (by omega)
      have hfo := harr.frozen i
      obtain ⟨b1, o1, rfl, hcx⟩ := hx (by omega)
      have hcx := hext.cell (hcx i (by omega))
      have hbx := dgt_lt X i
      have hor := or32 q (dgt X i) (by omega) hbx
      have hd1 : dgt (X / d) i = (q * 4294967296 + dgt X i) / d := by rw [HQ.out]; exact dvs_dgt X d i hd
      have hd2 : X / pw i % d = (q * 4294967296 + dgt X i) % d := by rw [HQ.out]; exact dvs_mod X d i
      have H1 := Lib.hid hd1
      have H2 := Lib.hid hd2
      clear hd1 hd2
      go_wp2
      go_roundw
      case rel =>
        refine ⟨k + 1, by omega, by go_num, ⟨(q * 4294967296 + dgt X i) % d, by simp, Nat.mod_lt _ hd, ?_⟩, ?_, hext.set (Nat.le_refl _) _⟩
        · rw [show k + 1 + i - (k + 1) = i by omega]; exact H2.out.symm
        · rw [show k + 1 + i - (k + 1) = i by omega]
          refine harr.step ?_
          have h3 := dgt_lt (X / d) i
          rw [H1.out] at h3 ⊢
          rw [show ((q : Int) * 4294967296 + (dgt X i : Int)) / (d : Int) = (((q * 4294967296 + dgt X i) / d : Nat) : Int) by simp]
          generalize (q * 4294967296 + dgt X i) / d = z at *
          omega
      case measure => simp [intOf]; omega
    · obtain rfl : k = n := by omega
      rw [Nat.sub_self] at HQ harr
      go_wp2_with fail
      refine (trim_any2 _ _ _ _ _ (harr.dig (by omega) (Nat.lt_of_le_of_lt (Nat.div_le_self _ _) hX))).mono ?_
      rintro e w' ⟨v, n', rfl, hd, ht, rfl, hloc⟩
      go_wp2_with fail
      go_ret2
      refine ⟨v, n', by rw [HQ.out, pw_zero, Nat.div_one]; rfl, hd, ht, hext, fun ad k' c' hv => ?_⟩
      rcases hloc with h | ⟨k2, h⟩
      · rw [h] at hv; cases hv
      · rw [h] at hv; injection hv with hv; injection hv with hv; rw [← hv]; exact Nat.le_refl _
theorem divideSmall_any (x : Value) (n X d : Nat) (w : World) (hx : Dig w x n X) (hd : 0 < d) (hd2 : d ≤ 4294967295) (hb : n + 1 ≤ 4398046511104) :
    Calls Tryz.prog 97 #[x, .int .u64 d] w (DivPost w (X / d) (X % d)) :=
  (divideSmall_any2 x n X d w hx hd hd2 hb).mono fun _ _ ⟨v, n, h1, h2, h3, h4, _⟩ => ⟨v, n, h1, h2, h3, h4⟩

/-- the digits times 2^s, with one digit more, in new memory -/
def ShlPost (w : World) (n V : Nat) (e : Ending) (w' : World) : Prop := ∃ f, e = .returned (.slice (some ⟨w.heap.size, 0, none⟩) n n) ∧ Arr w' w.heap.size n 147 f ∧ (∀ j, j < n → f j = dgt V j) ∧ Ext w w'

set_option maxHeartbeats 1000000 in
theorem shifted_any (x : Value) (n X s : Nat) (w : World) (hx : Dig w x n X) (hs : s ≤ 31) (hb : n + 1 ≤ 4398046511104) :
    Calls Tryz.prog 139 #[x, .int .i64 s] w (ShlPost w (n + 1) (X * 2 ^ s)) := by
  obtain ⟨A1, c1, rfl, hn1, hc1, hX, hx⟩ := hx
  have hf : 0 < 2 ^ s := Nat.two_pow_pos s
  have hf2 : 2 ^ s ≤ 2147483648 := by have := Nat.pow_le_pow_right (n := 2) (by omega) hs; omega
  obtain ⟨f, hfs⟩ : ∃ f, f = 2 ^ s := ⟨_, rfl⟩
  have HF := Lib.hid hfs
  rw [← hfs] at hf hf2 ⊢
  clear hfs
  go_enter Tryz.func139, Tryz.ntmps139
  go_wp2_with (at_make; refine wpList_make32 _ rfl _ _ 54 rfl 147 Tryz.underlying54 (by kernel_rfl) _ _ rfl rfl (n + 1) (by omega) (by omega) (by omega) ?_; intro w1 harr hext)
  go_loopw [6, 15] (fun cy i wr => ∃ k : Nat, k ≤ n ∧ i = .int .i64 k ∧ cy = .int .u64 (scac X f 0 k : Nat) ∧ ArrTo wr w.heap.size (n + 1) 147 (X * f) k ∧ Ext w wr) (fun _ i _ => n - (intOf i).toNat)
  case atStart => exact ⟨0, by omega, rfl, by rw [scac_zero]; rfl, ArrTo.start harr, hext⟩
  case round =>
    obtain ⟨k, hk, rfl, rfl, harr, hext⟩ := hrel
    have hbc := scac_lt X f 0 k hf hf
    obtain ⟨u, hco⟩ := harr.cell (j := k) (by omega)
    have hfo := harr.frozen k
    by_cases hlt : k < n
    · obtain ⟨b1, o1, rfl, hcx⟩ := hx (by omega)
      have hcx := hext.cell (hcx k hlt)
      have hbx := dgt_lt X k
      have hor := or_shl (dgt X k) (scac X f 0 k) s (by omega) hbx (by rw [← HF.out]; exact hbc)
      rw [← HF.out] at hor
      have hub : dgt X k * f + scac X f 0 k < 18446744073709551616 := by
        have : dgt X k * f ≤ 4294967295 * 2147483648 := Nat.mul_le_mul (by omega) hf2
        omega
      go_wp2
      go_roundw
      case rel => exact ⟨k + 1, by omega, by go_num, ret_int (by rw [scac_succ]; simp), harr.step (by rw [show X * f = X * f + 0 from rfl, sca_dgt]; simp), hext.set (Nat.le_refl _) _⟩
      case measure => simp [intOf]; omega
    · obtain rfl : k = n := by omega
      have hV : X * f + 0 < pw (k + 1) := by
        rw [pw_succ]
        have : (X + 1) * f ≤ pw k * 4294967296 := Nat.mul_le_mul hX (by omega)
        rw [Nat.add_mul] at this; omega
      have HD := Lib.hid (scac_full hX hV)
      clear hV
      go_wp2
      go_ret
      obtain ⟨g, hg, hgf⟩ := harr.step (e := (scac X f 0 k : Int)) (by rw [HD.out]; rfl)
      exact ⟨g, rfl, hg, hgf, hext.set (Nat.le_refl _) _⟩

set_option maxHeartbeats 1000000 in
theorem unshifted_any (x : Value) (n X s : Nat) (w : World) (hx : Dig w x n X) (hs : s ≤ 31) (hb : n + 1 ≤ 4398046511104) :
    Calls Tryz.prog 141 #[x, .int .i64 s] w (ShlPost w n (X / 2 ^ s)) := by
  obtain ⟨A1, c1, rfl, hn1, hc1, hX, hx⟩ := hx
  have hf : 0 < 2 ^ s := Nat.two_pow_pos s
  go_enter Tryz.func141, Tryz.ntmps141
  go_wp2_with (at_make; refine wpList_make32 _ rfl _ _ 54 rfl 147 Tryz.underlying54 (by kernel_rfl) _ _ rfl rfl n (by omega) (by omega) (by omega) ?_; intro w1 harr hext)
  go_loopw [6, 15] (fun cy i wr => ∃ k : Nat, k ≤ n ∧ i = .int .i64 k ∧ cy = .int .u64 (dgt X (n - k) : Nat) ∧ ArrFrom wr w.heap.size n 147 (X / 2 ^ s) (n - k) ∧ Ext w wr) (fun _ i _ => n - (intOf i).toNat)
  case atStart => exact ⟨0, by omega, rfl, by rw [Nat.sub_zero, dgt_zero_of_lt hX]; rfl, ArrFrom.start harr, hext⟩
  case round =>
    obtain ⟨k, hk, rfl, rfl, harr, hext⟩ := hrel
    by_cases hlt : k < n
    · obtain ⟨i, rfl⟩ : ∃ i, n = k + 1 + i := ⟨n - k - 1, by omega⟩
      obtain ⟨q, hq⟩ : ∃ q, q = dgt X (k + 1 + i - k) := ⟨_, rfl⟩
      rw [← hq]
      have hq1 : q = dgt X (i + 1) := by rw [hq, show k + 1 + i - k = i + 1 by omega]
      have HQ := Lib.hid hq1
      have hqb : q < 4294967296 := by rw [hq]; exact dgt_lt _ _
      clear hq hq1
      rw [show k + 1 + i - k = i + 1 by omega] at harr
      obtain ⟨u, hco⟩ := harr.cell (j := i) (by omega)
      have hfo := harr.frozen i
      obtain ⟨b1, o1, rfl, hcx⟩ := hx (by omega)
      have hb1 : b1 < w.heap.size := World.block_lt_of_cell? w _ (hcx i (by omega))
      have hcx := hext.cell (hcx i (by omega))
      have hcx2 : ∀ v, (wr.setCell ⟨w.heap.size, i, none⟩ v).cell? ⟨b1, o1 + i, none⟩ = some (.int .u32 (dgt X i : Int)) := fun v =>
        (World.cell?_setCell_other wr _ _ v (fun e => by injection e; omega)).trans hcx
      have hbx := dgt_lt X i
      have hor := or32 q (dgt X i) (by omega) hbx
      go_wp2
      go_roundw
      case rel =>
        refine ⟨k + 1, by omega, by go_num, ret_int (by rw [show k + 1 + i - (k + 1) = i by omega]), ?_, hext.set (Nat.le_refl _) _⟩
        rw [show k + 1 + i - (k + 1) = i by omega]
        refine harr.step ?_
        rw [shr_dgt X s i (by omega), ← HQ.out]
        simp
      case measure => simp [intOf]; omega
    · obtain rfl : k = n := by omega
      rw [Nat.sub_self] at harr
      go_wp2
      go_ret
      obtain ⟨g, hg, hgf⟩ := harr
      exact ⟨g, rfl, hg, fun j hj => hgf j (by omega) hj, hext⟩

end Go.Proofs.YtljncdcjkdgkeaaGreatDoor.Big

namespace Go.Proofs.YtljncdcjkdgkeaaGreatDoor.Big
open Go.RowKit

set_option maxHeartbeats 1000000 in
theorem product_any (x y : Value) (n m X Y : Nat) (w : World) (hx : Dig w x n X) (hy : Dig w y m Y) (hb : n + m ≤ 4398046511104) :
    Calls Tryz.prog 91 #[x, y] w (NumPost w (X * Y)) := by
  obtain ⟨A1, c1, rfl, hn1, hc1, hX, hx⟩ := hx
  obtain ⟨A2, c2, rfl, hn2, hc2, hY, hy⟩ := hy
  by_cases hn0 : n = 0
  · subst hn0
    have hX0 : X = 0 := by simpa [pw_zero] using hX
    subst hX0
    go_enter Tryz.func91, Tryz.ntmps91
    go_wp2_with fail
    go_ret
    exact ⟨_, 0, rfl, by rw [Nat.zero_mul]; exact Dig.nil w, .inl rfl, Ext.refl _⟩
  by_cases hm0 : m = 0
  · subst hm0
    have hY0 : Y = 0 := by simpa [pw_zero] using hY
    subst hY0
    have h0 : ((n : Int) == 0) = false := by simp; omega
    go_enter Tryz.func91, Tryz.ntmps91
    go_wp2_with fail
    go_ret
    exact ⟨_, 0, rfl, by rw [Nat.mul_zero]; exact Dig.nil w, .inl rfl, Ext.refl _⟩
  have h0 : ((n : Int) == 0) = false := by simp; omega
  have h00 : ((m : Int) == 0) = false := by simp; omega
  go_enter Tryz.func91, Tryz.ntmps91
  go_wp2_with (at_make; refine wpList_make32 _ rfl _ _ 54 rfl 147 Tryz.underlying54 (by kernel_rfl) _ _ rfl rfl (n + m) (by omega) (by omega) (by omega) ?_; intro w1 harr hext)
  go_loopw [26] (fun i wr => ∃ k : Nat, k ≤ n ∧ i = .int .i64 k ∧ MulRow wr w.heap.size (n + m) 147 X Y k 0 ∧ Ext w wr) (fun i _ => n - (intOf i).toNat)
  case atStart => exact ⟨0, by omega, rfl, MulRow.start harr (fun _ _ => rfl), hext⟩
  case round =>
    obtain ⟨k, hk, rfl, harr, hext⟩ := hrel
    by_cases hlt : k < n
    · obtain ⟨b1, o1, rfl, hcx⟩ := hx (by omega)
      have hcx := hcx k hlt
      have hbx := dgt_lt X k
      obtain ⟨wo, rfl⟩ : ∃ wo : World, wo = wr := ⟨_, rfl⟩
      go_wp2
      go_loopw [7, 31] (fun cy i wr => ∃ j : Nat, j ≤ m ∧ i = .int .i64 j ∧ cy = .int .u64 (mulc X Y k j : Nat) ∧ MulRow wr w.heap.size (n + m) 147 X Y k j ∧ Ext w wr) (fun _ i _ => m - (intOf i).toNat)
      case atStart => exact ⟨0, by omega, rfl, by rw [mulc_zero]; rfl, harr, hext⟩
      case round =>
        clear harr hext
        obtain ⟨j, hj, rfl, rfl, harr, hext⟩ := hrel
        have hbc := mulc_lt X Y k j
        by_cases hjlt : j < m
        · obtain ⟨b2, o2, rfl, hcy⟩ := hy (by omega)
          have hcx := hext.cell hcx
          have hcy := hext.cell (hcy j hjlt)
          have hby := dgt_lt Y j
          have hco := harr.cell (by omega)
          have hfo := harr.frozen (k + j)
          have hbo := dgt_lt (prow X Y k) (k + j)
          have hbt := mul_bound hbx hby hbo hbc
          have hmul0 : (0 : Int) ≤ (dgt X k : Int) * (dgt Y j : Int) := by have := Int.natCast_nonneg (dgt X k * dgt Y j); simpa using this
          have hmulI : (dgt X k : Int) * (dgt Y j : Int) + (dgt (prow X Y k) (k + j) : Int) + (mulc X Y k j : Int) < 18446744073709551616 := by have := Int.ofNat_lt.2 hbt; simpa using this
          clear hbt
          go_wp2
          go_quiet (fail)
          go_wp2
          go_roundw
          case rel => exact ⟨j + 1, by omega, by go_num, ret_int (by rw [mulc_succ]; simp), (harr.drewN _).step (by rw [mul_dgt]; simp), (hext.drewN _).set (Nat.le_refl _) _⟩
          case measure => simp [intOf]; omega
        · obtain rfl : j = m := by omega
          have hco := harr.cell (by omega)
          have hfo := harr.frozen (k + j)
          go_wp2
          go_roundw
          case rel => exact ⟨k + 1, by omega, by go_num, (harr.step (by rw [mulc_full hY])).next hY, hext.set (Nat.le_refl _) _⟩
          case measure => simp [intOf]; omega
    · obtain rfl : k = n := by omega
      go_wp2_with fail
      refine (trim_any _ _ _ _ _ (harr.dig rfl (by omega) hX hY)).mono ?_
      rintro e w' ⟨v, n', rfl, hd, ht, rfl⟩
      go_wp2_with fail
      go_ret
      exact ⟨v, n', rfl, hd, ht, hext⟩

end Go.Proofs.YtljncdcjkdgkeaaGreatDoor.Big

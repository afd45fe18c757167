/- Walks: compare, trim. Walks: sum. Walks: difference, scaled, divideSmall, shifted, unshifted. Walks: product. Walks: divideDigit. Walks: divide. -/
import Derived.WalkLawsBesides
import Derived.Deep.QuietTactic
import Derived.BigQuiet
import Derived.Test.YtljncdcjkdgkeaaGreatDoorYShelf
import Derived.Test.YtljncdcjkdgkeaaGreatDoorProg
import Derived.Deep.RegionWith
set_option linter.unusedVariables false
set_option linter.unusedSimpArgs false
namespace Go.Proofs.YtljncdcjkdgkeaaGreatDoor.Big
open Go.RowKit
set_option maxHeartbeats 400000 in
theorem qe1 (A1 A2 : Option Addr) (n1 n2 c1 c2 : Nat) (w : World) (h : n1 ≠ n2) (h1 : n1 ≤ 4398046511104) (h2 : n2 ≤ 4398046511104) :
 Calls Tryz.prog 78 #[.slice A1 n1 c1, .slice A2 n2 c2] w fun e w' => e = .returned (.int .i64 (if n1 < n2 then -1 else 1)) ∧ w = w' := by
 by_cases hlt : n1 < n2
 ·go_enter Tryz.func78, Tryz.ntmps78
  go_wp2
  go_ret
  exact ⟨by simp [hlt], rfl⟩
 ·go_enter Tryz.func78, Tryz.ntmps78
  go_wp2
  go_ret
  exact ⟨by simp [hlt], rfl⟩
set_option maxHeartbeats 1000000 in
theorem qtl (A1 A2 : Option Addr) (n c1 c2 X Y : Nat) (w : World) (hx : Dig w (.slice A1 n c1) n X) (hy : Dig w (.slice A2 n c2) n Y) :
 Calls Tryz.prog 78 #[.slice A1 n c1, .slice A2 n c2] w fun e w' => e = .returned (.int .i64 (cmpI X Y)) ∧ ∃ k, w' = w.drewN k := by
 obtain ⟨A1', c1', e1, hn1, hc1, hX, hx⟩ := hx
 obtain ⟨A2', c2', e2, hn2, hc2, hY, hy⟩ := hy
 obtain ⟨rfl, -, rfl⟩ : A1 = A1' ∧ n = n ∧ c1 = c1' := by injection e1 with a b c; exact ⟨a, rfl, c⟩
 obtain ⟨rfl, -, rfl⟩ : A2 = A2' ∧ n = n ∧ c2 = c2' := by injection e2 with a b c; exact ⟨a, rfl, c⟩
 clear e1 e2
 go_enter Tryz.func78, Tryz.ntmps78
 go_wp2
 go_loopw [19] (fun i wr => ∃ k d : Nat, k ≤ n ∧ i = .int .i64 k ∧ wr = w.drewN d ∧ X / pw (n - k) = Y / pw (n - k)) (fun i _ => n - (intOf i).toNat)
 case atStart => exact ⟨0, 0, Nat.zero_le _, rfl, rfl, by simp [Nat.div_eq_of_lt hX, Nat.div_eq_of_lt hY]⟩
 case round =>
  obtain ⟨k, d, hk, rfl, rfl, hd⟩ := hrel
  by_cases hlt : k < n
  ·obtain ⟨b1, o1, rfl, hcx⟩ := hx (by omega)
   obtain ⟨b2, o2, rfl, hcy⟩ := hy (by omega)
   have hcx := hcx (n - 1 - k) (by omega)
   have hcy := hcy (n - 1 - k) (by omega)
   have HD := Lib.hid hd; clear hd
   clear hx hy hX hY
   rcases Nat.lt_trichotomy (dgt X (n - 1 - k)) (dgt Y (n - 1 - k)) with hd | hd | hd
   ·have hne : ((dgt X (n - 1 - k) : Int) != (dgt Y (n - 1 - k) : Int)) = true := by rw [bne_iff_ne]; omega
    have hfin : cmpI X Y = -1 := cmp_lt (n := n) hk (by omega) HD.out hd
    have HF := Lib.hid hfin; clear hfin
    go_wp2
    go_quiet (fail)
    go_wp2
    go_quiet (fail)
    go_wp2
    go_ret
    exact ⟨by rw [HF.out]; rfl, by simp only [World.drewN_drewN]; exact ⟨_, rfl⟩⟩
   ·have hne : ((dgt X (n - 1 - k) : Int) != (dgt Y (n - 1 - k) : Int)) = false := by rw [bne_eq_false_iff_eq, hd]
    have HE := Lib.hid hd; clear hd
    go_wp2
    go_quiet (fail)
    go_wp2
    go_roundw
    case rel => exact ⟨k + 1, _, by omega, by go_num, rfl, cmp_step hlt HD.out HE.out⟩
    case measure => simp [intOf]; omega
   ·have hne : ((dgt X (n - 1 - k) : Int) != (dgt Y (n - 1 - k) : Int)) = true := by rw [bne_iff_ne]; omega
    have hfin : cmpI X Y = 1 := cmp_gt (n := n) hk (by omega) HD.out hd
    have HF := Lib.hid hfin; clear hfin
    go_wp2
    go_quiet (fail)
    go_wp2
    go_quiet (fail)
    go_wp2
    go_ret
    exact ⟨by rw [HF.out]; rfl, by simp only [World.drewN_drewN]; exact ⟨_, rfl⟩⟩
  ·have hkn : k = n := by omega
   subst hkn
   have hfin : cmpI X Y = 0 := by
    simp only [Nat.sub_self, qcr, Nat.div_one] at hd
    subst hd; simp [cmpI]
   have HF := Lib.hid hfin; clear hfin hd
   go_wp2
   go_ret
   exact ⟨by rw [HF.out]; rfl, _, rfl⟩
def TrimPost2 (w : World) (A : Option Addr) (c V : Nat) (e : Ending) (w' : World) : Prop := ∃ v n, e = .returned v ∧ Dig w v n V ∧ Trm n V ∧ w = w' ∧ (v = .slice none 0 0 ∨ ∃ k, v = .slice A k c)
set_option maxHeartbeats 1000000 in
theorem q8a (A : Option Addr) (n c V : Nat) (w : World) (h : Dig w (.slice A n c) n V) :
 Calls Tryz.prog 105 #[.slice A n c] w (TrimPost2 w A c V) := by
 obtain ⟨-, hn, hc, hV, hx⟩ := h.inj
 go_enter Tryz.func105, Tryz.ntmps105
 go_wp2
 go_loop [3] (fun i => ∃ k : Nat, k ≤ n ∧ i = .int .i64 k ∧ V < pw k) (fun i => (intOf i).toNat)
 case atStart => exact ⟨n, Nat.le_refl _, rfl, hV⟩
 case round =>
  obtain ⟨k, hk, rfl, hVk⟩ := hrel
  clear hV
  have HV := Lib.hid hVk; clear hVk
  by_cases h0 : 0 < k
  ·obtain ⟨b, off, rfl, hcx⟩ := hx (by omega)
   have hck := hcx (k - 1) (by omega)
   have HX := Lib.hid hcx
   clear hx hcx
   by_cases hd : dgt V (k - 1) = 0
   ·have h1 : ((dgt V (k - 1) : Int) == 0) = true := by rw [hd]; rfl
    have HD := Lib.hid hd; clear hd
    go_wp2
    go_round
    case rel => exact ⟨k - 1, by omega, by go_num, q6u (by rw [show k - 1 + 1 = k by omega]; exact HV.out) HD.out⟩
    case measure => simp [intOf]; omega
   ·have h1 : ((dgt V (k - 1) : Int) == 0) = false := by simp; omega
    go_wp2
    go_ret
    exact ⟨_, k, rfl, Dig.cut HX.out hk hn hc HV.out, .inr (qzq hd), rfl, .inr ⟨k, rfl⟩⟩
  ·have hk0 : k = 0 := by omega
   subst hk0
   go_wp2
   go_ret
   have h0 : V = 0 := by have := HV.out; simp [qcr] at this; exact this
   subst h0
   exact ⟨_, 0, rfl, Dig.nil w, .inl rfl, rfl, .inl rfl⟩
theorem qxv (A : Option Addr) (n c V : Nat) (w : World) (h : Dig w (.slice A n c) n V) :
 Calls Tryz.prog 105 #[.slice A n c] w (TrimPost w V) :=
 (q8a A n c V w h).mono fun _ _ ⟨v, n, h1, h2, h3, h4, _⟩ => ⟨v, n, h1, h2, h3, h4⟩
set_option maxHeartbeats 1000000 in
theorem sum_ge (A1 A2 : Option Addr) (n m c1 c2 X Y : Nat) (w : World) (hx : Dig w (.slice A1 n c1) n X) (hy : Dig w (.slice A2 m c2) m Y) (hmn : m ≤ n) (hb : n + 1 ≤ 4398046511104) :
 Calls Tryz.prog 106 #[.slice A1 n c1, .slice A2 m c2] w (qtd w (X + Y)) := by
 obtain ⟨-, hn1, hc1, hX, hx⟩ := hx.inj
 obtain ⟨-, hn2, hc2, hY, hy⟩ := hy.inj
 have hmn' : m ≤ n := by omega
 go_enter Tryz.func106, Tryz.ntmps106
 go_wp2_with (at_make; refine q7x _ rfl _ _ 54 rfl 147 Tryz.underlying54 (by kernel_rfl) _ _ rfl rfl (n + 1) (by omega) (by omega) (by omega) ?_; intro w1 harr hext)
 go_loopw [6, 22] (fun cy i wr => ∃ k : Nat, k ≤ n ∧ i = .int .i64 k ∧ cy = .int .u64 (sumc X Y k : Nat) ∧ (∃ f, Arr wr w.heap.size (n + 1) 147 f ∧ ∀ j, j < k → f j = dgt (X + Y) j) ∧ Ext w wr) (fun _ i _ => n - (intOf i).toNat)
 case atStart => exact ⟨0, by omega, rfl, by rw [q3l]; rfl, ⟨_, harr, fun j hj => absurd hj (by omega)⟩, hext⟩
 case round =>
  obtain ⟨k, hk, rfl, rfl, ⟨f, harr, hf⟩, hext⟩ := hrel
  by_cases hlt : k < n
  ·obtain ⟨b1, o1, rfl, hcx⟩ := hx (by omega)
   have hcx := hext.cell (hcx k hlt)
   have hco := harr.cell (j := k) (by omega)
   have hfo := harr.frozen k
   have hbx := qpa X k
   have hby := qpa Y k
   have hbc := qyw X Y k
   by_cases hkm : k < m
   ·obtain ⟨b2, o2, rfl, hcy⟩ := hy (by omega)
    have hcy := hext.cell (hcy k hkm)
    go_wp2
    go_roundw
    case rel =>
     refine ⟨k + 1, by omega, by go_num, ?_, ⟨_, (harr.set k ((dgt X k + sumc X Y k + dgt Y k) % 4294967296)).congr (fun _ _ => rfl), ?_⟩, hext.set (Nat.le_refl _) _⟩
     ·rw [qpc, show dgt X k + dgt Y k + sumc X Y k = dgt X k + sumc X Y k + dgt Y k by omega]; go_num
     ·intro j hj
      by_cases hjk : j = k
      ·subst hjk; rw [q74]; simp; congr 1; omega
      ·simp [hjk]; exact hf j (by omega)
    case measure => simp [intOf]; omega
   ·have hy0 : dgt Y k = 0 := qfl (Nat.lt_of_lt_of_le hY (qcv (by omega)))
    have HY := Lib.hid hy0; clear hy0
    go_wp2
    go_roundw
    case rel =>
     refine ⟨k + 1, by omega, by go_num, ?_, ⟨_, (harr.set k ((dgt X k + sumc X Y k) % 4294967296)).congr (fun _ _ => rfl), ?_⟩, hext.set (Nat.le_refl _) _⟩
     ·rw [qpc, HY.out]; go_num
     ·intro j hj
      by_cases hjk : j = k
      ·subst hjk; rw [q74, HY.out]; simp
      ·simp [hjk]; exact hf j (by omega)
    case measure => simp [intOf]; omega
  ·obtain rfl : k = n := by omega
   have hco := harr.cell (j := k) (by omega)
   have hfo := harr.frozen k
   have hbc := qyw X Y k
   go_wp2_with fail
   have hD := (harr.set k (sumc X Y k)).dig (V := X + Y) (by omega) (by rw [qfe]; have := qcv hmn'; omega) (by
    intro j hj
    by_cases hjk : j = k
    ·subst hjk; simp; exact qqm hX (Nat.lt_of_lt_of_le hY (qcv hmn'))
    ·simp [hjk]; exact hf j (by omega))
   refine (qxv _ _ _ _ _ hD).mono ?_
   rintro e w' ⟨v, n', rfl, hd, ht, rfl⟩
   go_wp2_with fail
   go_ret
   exact ⟨v, n', rfl, hd, ht, hext.set (Nat.le_refl _) _⟩
set_option maxHeartbeats 1000000 in
theorem sum_lt (A1 A2 : Option Addr) (n m c1 c2 X Y : Nat) (w : World) (hx : Dig w (.slice A1 n c1) n X) (hy : Dig w (.slice A2 m c2) m Y) (hmn : m < n) (hb : n + 1 ≤ 4398046511104) :
 Calls Tryz.prog 106 #[.slice A2 m c2, .slice A1 n c1] w (qtd w (X + Y)) := by
 obtain ⟨-, hn1, hc1, hX, hx⟩ := hx.inj
 obtain ⟨-, hn2, hc2, hY, hy⟩ := hy.inj
 have hmn' : m ≤ n := by omega
 go_enter Tryz.func106, Tryz.ntmps106
 go_wp2_with (at_make; refine q7x _ rfl _ _ 54 rfl 147 Tryz.underlying54 (by kernel_rfl) _ _ rfl rfl (n + 1) (by omega) (by omega) (by omega) ?_; intro w1 harr hext)
 go_loopw [6, 22] (fun cy i wr => ∃ k : Nat, k ≤ n ∧ i = .int .i64 k ∧ cy = .int .u64 (sumc X Y k : Nat) ∧ (∃ f, Arr wr w.heap.size (n + 1) 147 f ∧ ∀ j, j < k → f j = dgt (X + Y) j) ∧ Ext w wr) (fun _ i _ => n - (intOf i).toNat)
 case atStart => exact ⟨0, by omega, rfl, by rw [q3l]; rfl, ⟨_, harr, fun j hj => absurd hj (by omega)⟩, hext⟩
 case round =>
  obtain ⟨k, hk, rfl, rfl, ⟨f, harr, hf⟩, hext⟩ := hrel
  by_cases hlt : k < n
  ·obtain ⟨b1, o1, rfl, hcx⟩ := hx (by omega)
   have hcx := hext.cell (hcx k hlt)
   have hco := harr.cell (j := k) (by omega)
   have hfo := harr.frozen k
   have hbx := qpa X k
   have hby := qpa Y k
   have hbc := qyw X Y k
   by_cases hkm : k < m
   ·obtain ⟨b2, o2, rfl, hcy⟩ := hy (by omega)
    have hcy := hext.cell (hcy k hkm)
    go_wp2
    go_roundw
    case rel =>
     refine ⟨k + 1, by omega, by go_num, ?_, ⟨_, (harr.set k ((dgt X k + sumc X Y k + dgt Y k) % 4294967296)).congr (fun _ _ => rfl), ?_⟩, hext.set (Nat.le_refl _) _⟩
     ·rw [qpc, show dgt X k + dgt Y k + sumc X Y k = dgt X k + sumc X Y k + dgt Y k by omega]; go_num
     ·intro j hj
      by_cases hjk : j = k
      ·subst hjk; rw [q74]; simp; congr 1; omega
      ·simp [hjk]; exact hf j (by omega)
    case measure => simp [intOf]; omega
   ·have hy0 : dgt Y k = 0 := qfl (Nat.lt_of_lt_of_le hY (qcv (by omega)))
    have HY := Lib.hid hy0; clear hy0
    go_wp2
    go_roundw
    case rel =>
     refine ⟨k + 1, by omega, by go_num, ?_, ⟨_, (harr.set k ((dgt X k + sumc X Y k) % 4294967296)).congr (fun _ _ => rfl), ?_⟩, hext.set (Nat.le_refl _) _⟩
     ·rw [qpc, HY.out]; go_num
     ·intro j hj
      by_cases hjk : j = k
      ·subst hjk; rw [q74, HY.out]; simp
      ·simp [hjk]; exact hf j (by omega)
    case measure => simp [intOf]; omega
  ·obtain rfl : k = n := by omega
   have hco := harr.cell (j := k) (by omega)
   have hfo := harr.frozen k
   have hbc := qyw X Y k
   go_wp2_with fail
   have hD := (harr.set k (sumc X Y k)).dig (V := X + Y) (by omega) (by rw [qfe]; have := qcv hmn'; omega) (by
    intro j hj
    by_cases hjk : j = k
    ·subst hjk; simp; exact qqm hX (Nat.lt_of_lt_of_le hY (qcv hmn'))
    ·simp [hjk]; exact hf j (by omega))
   refine (qxv _ _ _ _ _ hD).mono ?_
   rintro e w' ⟨v, n', rfl, hd, ht, rfl⟩
   go_wp2_with fail
   go_ret
   exact ⟨v, n', rfl, hd, ht, hext.set (Nat.le_refl _) _⟩
theorem sum_any (x y : Value) (n m X Y : Nat) (w : World) (hx : Dig w x n X) (hy : Dig w y m Y) (hn : n + 1 ≤ 4398046511104) (hm : m + 1 ≤ 4398046511104) :
 Calls Tryz.prog 106 #[x, y] w (qtd w (X + Y)) := by
 have hx' := hx
 have hy' := hy
 obtain ⟨A1, c1, rfl, _⟩ := hx'
 obtain ⟨A2, c2, rfl, _⟩ := hy'
 rcases Nat.lt_or_ge n m with h | h
 ·rw [Nat.add_comm]; exact sum_lt A2 A1 m n c2 c1 Y X w hy hx h hm
 ·exact sum_ge A1 A2 n m c1 c2 X Y w hx hy h hn
set_option maxHeartbeats 1000000 in
theorem qlh (x y : Value) (n m X Y : Nat) (w : World) (hx : Dig w x n X) (hy : Dig w y m Y) (hmn : m ≤ n) (hYX : Y ≤ X) :
 Calls Tryz.prog 107 #[x, y] w (qtd w (X - Y)) := by
 obtain ⟨A1, c1, rfl, hn1, hc1, hX, hx⟩ := hx
 obtain ⟨A2, c2, rfl, hn2, hc2, hY, hy⟩ := hy
 go_enter Tryz.func107, Tryz.ntmps107
 go_wp2_with (at_make; refine q7x _ rfl _ _ 54 rfl 147 Tryz.underlying54 (by kernel_rfl) _ _ rfl rfl n (by omega) (by omega) (by omega) ?_; intro w1 harr hext)
 go_loopw [6, 14] (fun bo i wr => ∃ k : Nat, k ≤ n ∧ i = .int .i64 k ∧ bo = .int .u64 (difc X Y k : Nat) ∧ q8x wr w.heap.size n 147 (X - Y) k ∧ Ext w wr) (fun _ i _ => n - (intOf i).toNat)
 case atStart => exact ⟨0, by omega, rfl, by rw [difc_zero]; rfl, q8x.start harr, hext⟩
 case round =>
  obtain ⟨k, hk, rfl, rfl, harr, hext⟩ := hrel
  by_cases hlt : k < n
  ·obtain ⟨b1, o1, rfl, hcx⟩ := hx (by omega)
   have hcx := hext.cell (hcx k hlt)
   obtain ⟨u, hco⟩ := harr.cell (j := k) (by omega)
   have hfo := harr.frozen k
   have hbx := qpa X k
   have hby := qpa Y k
   have hbc := qbv X Y k
   have HS := Lib.hid (qsp X Y k hYX)
   by_cases hkm : k < m
   ·obtain ⟨b2, o2, rfl, hcy⟩ := hy (by omega)
    have hcy := hext.cell (hcy k hkm)
    go_wp2
    go_roundw
    case rel => exact ⟨k + 1, by omega, by go_num, qdq (qpf hYX).1, harr.step (qpf hYX).2, hext.set (Nat.le_refl _) _⟩
    case measure => simp [intOf]; omega
   ·have hy0 : dgt Y k = 0 := qfl (Nat.lt_of_lt_of_le hY (qcv (by omega)))
    have HY := Lib.hid hy0; clear hy0
    go_wp2
    go_roundw
    case rel => exact ⟨k + 1, by omega, by go_num, qdq (qrx hYX HY.out).1, harr.step (qrx hYX HY.out).2, hext.set (Nat.le_refl _) _⟩
    case measure => simp [intOf]; omega
  ·obtain rfl : k = n := by omega
   go_wp2_with fail
   refine (qxv _ _ _ _ _ (harr.dig (by omega) (by omega))).mono ?_
   rintro e w' ⟨v, n', rfl, hd, ht, rfl⟩
   go_wp2_with fail
   go_ret
   exact ⟨v, n', rfl, hd, ht, hext⟩
set_option maxHeartbeats 1000000 in
theorem scaled_any (x : Value) (n X f m : Nat) (w : World) (hx : Dig w x n X) (hf : 0 < f) (hf2 : f ≤ 4294967296) (hm : m < f) (hb : n + 1 ≤ 4398046511104) :
 Calls Tryz.prog 160 #[x, .int .u64 f, .int .u64 m] w (qtd w (X * f + m)) := by
 obtain ⟨A1, c1, rfl, hn1, hc1, hX, hx⟩ := hx
 go_enter Tryz.func160, Tryz.ntmps160
 go_wp2_with (at_make; refine q7x _ rfl _ _ 54 rfl 147 Tryz.underlying54 (by kernel_rfl) _ _ rfl rfl (n + 1) (by omega) (by omega) (by omega) ?_; intro w1 harr hext)
 go_loopw [8, 18] (fun cy i wr => ∃ k : Nat, k ≤ n ∧ i = .int .i64 k ∧ cy = .int .u64 (scac X f m k : Nat) ∧ q8x wr w.heap.size (n + 1) 147 (X * f + m) k ∧ Ext w wr) (fun _ i _ => n - (intOf i).toNat)
 case atStart => exact ⟨0, by omega, rfl, by rw [qg0], q8x.start harr, hext⟩
 case round =>
  obtain ⟨k, hk, rfl, rfl, harr, hext⟩ := hrel
  have hbc := qey X f m k hf hm
  obtain ⟨u, hco⟩ := harr.cell (j := k) (by omega)
  have hfo := harr.frozen k
  by_cases hlt : k < n
  ·obtain ⟨b1, o1, rfl, hcx⟩ := hx (by omega)
   have hcx := hext.cell (hcx k hlt)
   have hbx := qpa X k
   have hmul : dgt X k * f ≤ 4294967295 * 4294967296 := Nat.mul_le_mul (by omega) hf2
   have hmulI : (dgt X k : Int) * (f : Int) ≤ 18446744069414584320 := by have := Int.ofNat_le.2 hmul; simpa using this
   have hmul0 : (0 : Int) ≤ (dgt X k : Int) * (f : Int) := by have := Int.natCast_nonneg (dgt X k * f); simpa using this
   clear hmul
   go_wp2
   go_roundw
   case rel => exact ⟨k + 1, by omega, by go_num, qdq (by rw [qhk]; simp), harr.step (by rw [qzo]; simp), hext.set (Nat.le_refl _) _⟩
   case measure => simp [intOf]; omega
  ·obtain rfl : k = n := by omega
   go_wp2_with fail
   have hV : X * f + m < pw (k + 1) := by
    rw [qfe]
    have : (X + 1) * f ≤ pw k * 4294967296 := Nat.mul_le_mul hX hf2
    rw [Nat.add_mul] at this; omega
   refine (qxv _ _ _ _ _ ((harr.step (by rw [qmi hX hV])).dig (by omega) hV)).mono ?_
   rintro e w' ⟨v, n', rfl, hd, ht, rfl⟩
   go_wp2_with fail
   go_ret
   exact ⟨v, n', rfl, hd, ht, hext.set (Nat.le_refl _) _⟩
def DivPost2 (w : World) (V r : Nat) (e : Ending) (w' : World) : Prop := ∃ v n, e = .returned (.tuple #[v, .int .u64 r]) ∧ Dig w' v n V ∧ Trm n V ∧ Ext w w' ∧ (∀ (ad : Addr) (k c : Nat), v = .slice (some ad) k c → w.heap.size ≤ ad.block)
set_option maxHeartbeats 1000000 in
theorem qvz (x : Value) (n X d : Nat) (w : World) (hx : Dig w x n X) (hd : 0 < d) (hd2 : d ≤ 4294967295) (hb : n + 1 ≤ 4398046511104) :
 Calls Tryz.prog 97 #[x, .int .u64 d] w (DivPost2 w (X / d) (X % d)) := by
 obtain ⟨A1, c1, rfl, hn1, hc1, hX, hx⟩ := hx
 go_enter Tryz.func97, Tryz.ntmps97
 go_wp2_with (at_make; refine q7x _ rfl _ _ 54 rfl 147 Tryz.underlying54 (by kernel_rfl) _ _ rfl rfl n (by omega) (by omega) (by omega) ?_; intro w1 harr hext)
 go_loopw [5, 15] (fun r i wr => ∃ k : Nat, k ≤ n ∧ i = .int .i64 k ∧ (∃ q : Nat, r = .int .u64 q ∧ q < d ∧ Hid (q = X / pw (n - k) % d)) ∧ qlb wr w.heap.size n 147 (X / d) (n - k) ∧ Ext w wr) (fun _ i _ => n - (intOf i).toNat)
 case atStart => exact ⟨0, by omega, rfl, ⟨0, rfl, hd, Lib.hid (by simp [Nat.div_eq_of_lt hX])⟩, qlb.start harr, hext⟩
 case round =>
  obtain ⟨k, hk, rfl, ⟨q, rfl, hqd, HQ⟩, harr, hext⟩ := hrel
  by_cases hlt : k < n
  ·obtain ⟨i, rfl⟩ : ∃ i, n = k + 1 + i := ⟨n - k - 1, by omega⟩
   rw [show k + 1 + i - k = i + 1 by omega] at HQ harr
   obtain ⟨u, hco⟩ := harr.cell (j := i) (by omega)
   have hfo := harr.frozen i
   obtain ⟨b1, o1, rfl, hcx⟩ := hx (by omega)
   have hcx := hext.cell (hcx i (by omega))
   have hbx := qpa X i
   have hor := or32 q (dgt X i) (by omega) hbx
   have hd1 : dgt (X / d) i = (q * 4294967296 + dgt X i) / d := by rw [HQ.out]; exact dvs_dgt X d i hd
   have hd2 : X / pw i % d = (q * 4294967296 + dgt X i) % d := by rw [HQ.out]; exact dvs_mod X d i
   have H1 := Lib.hid hd1
   have H2 := Lib.hid hd2
   clear hd1 hd2
   go_wp2
   go_roundw
   case rel =>
    refine ⟨k + 1, by omega, by go_num, ⟨(q * 4294967296 + dgt X i) % d, by simp, Nat.mod_lt _ hd, ?_⟩, ?_, hext.set (Nat.le_refl _) _⟩
    ·rw [show k + 1 + i - (k + 1) = i by omega]; exact H2.out.symm
    ·rw [show k + 1 + i - (k + 1) = i by omega]
     refine harr.step ?_
     have h3 := qpa (X / d) i
     rw [H1.out] at h3 ⊢
     rw [show ((q : Int) * 4294967296 + (dgt X i : Int)) / (d : Int) = (((q * 4294967296 + dgt X i) / d : Nat) : Int) by simp]
     generalize (q * 4294967296 + dgt X i) / d = z at *
     omega
   case measure => simp [intOf]; omega
  ·obtain rfl : k = n := by omega
   rw [Nat.sub_self] at HQ harr
   go_wp2_with fail
   refine (q8a _ _ _ _ _ (harr.dig (by omega) (Nat.lt_of_le_of_lt (Nat.div_le_self _ _) hX))).mono ?_
   rintro e w' ⟨v, n', rfl, hd, ht, rfl, hloc⟩
   go_wp2_with fail
   go_ret2
   refine ⟨v, n', by rw [HQ.out, qcr, Nat.div_one]; rfl, hd, ht, hext, fun ad k' c' hv => ?_⟩
   rcases hloc with h | ⟨k2, h⟩
   ·rw [h] at hv; cases hv
   ·rw [h] at hv; injection hv with hv; injection hv with hv; rw [← hv]; exact Nat.le_refl _
theorem q7j (x : Value) (n X d : Nat) (w : World) (hx : Dig w x n X) (hd : 0 < d) (hd2 : d ≤ 4294967295) (hb : n + 1 ≤ 4398046511104) :
 Calls Tryz.prog 97 #[x, .int .u64 d] w (DivPost w (X / d) (X % d)) :=
 (qvz x n X d w hx hd hd2 hb).mono fun _ _ ⟨v, n, h1, h2, h3, h4, _⟩ => ⟨v, n, h1, h2, h3, h4⟩
def ShlPost (w : World) (n V : Nat) (e : Ending) (w' : World) : Prop := ∃ f, e = .returned (.slice (some ⟨w.heap.size, 0, none⟩) n n) ∧ Arr w' w.heap.size n 147 f ∧ (∀ j, j < n → f j = dgt V j) ∧ Ext w w'
set_option maxHeartbeats 1000000 in
theorem qnc (x : Value) (n X s : Nat) (w : World) (hx : Dig w x n X) (hs : s ≤ 31) (hb : n + 1 ≤ 4398046511104) :
 Calls Tryz.prog 139 #[x, .int .i64 s] w (ShlPost w (n + 1) (X * 2 ^ s)) := by
 obtain ⟨A1, c1, rfl, hn1, hc1, hX, hx⟩ := hx
 have hf : 0 < 2 ^ s := Nat.two_pow_pos s
 have hf2 : 2 ^ s ≤ 2147483648 := by have := Nat.pow_le_pow_right (n := 2) (by omega) hs; omega
 obtain ⟨f, hfs⟩ : ∃ f, f = 2 ^ s := ⟨_, rfl⟩
 have HF := Lib.hid hfs
 rw [← hfs] at hf hf2 ⊢
 clear hfs
 go_enter Tryz.func139, Tryz.ntmps139
 go_wp2_with (at_make; refine q7x _ rfl _ _ 54 rfl 147 Tryz.underlying54 (by kernel_rfl) _ _ rfl rfl (n + 1) (by omega) (by omega) (by omega) ?_; intro w1 harr hext)
 go_loopw [6, 15] (fun cy i wr => ∃ k : Nat, k ≤ n ∧ i = .int .i64 k ∧ cy = .int .u64 (scac X f 0 k : Nat) ∧ q8x wr w.heap.size (n + 1) 147 (X * f) k ∧ Ext w wr) (fun _ i _ => n - (intOf i).toNat)
 case atStart => exact ⟨0, by omega, rfl, by rw [qg0]; rfl, q8x.start harr, hext⟩
 case round =>
  obtain ⟨k, hk, rfl, rfl, harr, hext⟩ := hrel
  have hbc := qey X f 0 k hf hf
  obtain ⟨u, hco⟩ := harr.cell (j := k) (by omega)
  have hfo := harr.frozen k
  by_cases hlt : k < n
  ·obtain ⟨b1, o1, rfl, hcx⟩ := hx (by omega)
   have hcx := hext.cell (hcx k hlt)
   have hbx := qpa X k
   have hor := or_shl (dgt X k) (scac X f 0 k) s (by omega) hbx (by rw [← HF.out]; exact hbc)
   rw [← HF.out] at hor
   have hub : dgt X k * f + scac X f 0 k < 18446744073709551616 := by
    have : dgt X k * f ≤ 4294967295 * 2147483648 := Nat.mul_le_mul (by omega) hf2
    omega
   go_wp2
   go_roundw
   case rel => exact ⟨k + 1, by omega, by go_num, qdq (by rw [qhk]; simp), harr.step (by rw [show X * f = X * f + 0 from rfl, qzo]; simp), hext.set (Nat.le_refl _) _⟩
   case measure => simp [intOf]; omega
  ·obtain rfl : k = n := by omega
   have hV : X * f + 0 < pw (k + 1) := by
    rw [qfe]
    have : (X + 1) * f ≤ pw k * 4294967296 := Nat.mul_le_mul hX (by omega)
    rw [Nat.add_mul] at this; omega
   have HD := Lib.hid (qmi hX hV)
   clear hV
   go_wp2
   go_ret
   obtain ⟨g, hg, hgf⟩ := harr.step (e := (scac X f 0 k : Int)) (by rw [HD.out]; rfl)
   exact ⟨g, rfl, hg, hgf, hext.set (Nat.le_refl _) _⟩
set_option maxHeartbeats 1000000 in
theorem qlc (x : Value) (n X s : Nat) (w : World) (hx : Dig w x n X) (hs : s ≤ 31) (hb : n + 1 ≤ 4398046511104) :
 Calls Tryz.prog 141 #[x, .int .i64 s] w (ShlPost w n (X / 2 ^ s)) := by
 obtain ⟨A1, c1, rfl, hn1, hc1, hX, hx⟩ := hx
 have hf : 0 < 2 ^ s := Nat.two_pow_pos s
 go_enter Tryz.func141, Tryz.ntmps141
 go_wp2_with (at_make; refine q7x _ rfl _ _ 54 rfl 147 Tryz.underlying54 (by kernel_rfl) _ _ rfl rfl n (by omega) (by omega) (by omega) ?_; intro w1 harr hext)
 go_loopw [6, 15] (fun cy i wr => ∃ k : Nat, k ≤ n ∧ i = .int .i64 k ∧ cy = .int .u64 (dgt X (n - k) : Nat) ∧ qlb wr w.heap.size n 147 (X / 2 ^ s) (n - k) ∧ Ext w wr) (fun _ i _ => n - (intOf i).toNat)
 case atStart => exact ⟨0, by omega, rfl, by rw [Nat.sub_zero, qfl hX]; rfl, qlb.start harr, hext⟩
 case round =>
  obtain ⟨k, hk, rfl, rfl, harr, hext⟩ := hrel
  by_cases hlt : k < n
  ·obtain ⟨i, rfl⟩ : ∃ i, n = k + 1 + i := ⟨n - k - 1, by omega⟩
   obtain ⟨q, hq⟩ : ∃ q, q = dgt X (k + 1 + i - k) := ⟨_, rfl⟩
   rw [← hq]
   have hq1 : q = dgt X (i + 1) := by rw [hq, show k + 1 + i - k = i + 1 by omega]
   have HQ := Lib.hid hq1
   have hqb : q < 4294967296 := by rw [hq]; exact qpa _ _
   clear hq hq1
   rw [show k + 1 + i - k = i + 1 by omega] at harr
   obtain ⟨u, hco⟩ := harr.cell (j := i) (by omega)
   have hfo := harr.frozen i
   obtain ⟨b1, o1, rfl, hcx⟩ := hx (by omega)
   have hb1 : b1 < w.heap.size := World.block_lt_of_cell? w _ (hcx i (by omega))
   have hcx := hext.cell (hcx i (by omega))
   have hcx2 : ∀ v, (wr.setCell ⟨w.heap.size, i, none⟩ v).cell? ⟨b1, o1 + i, none⟩ = some (.int .u32 (dgt X i : Int)) := fun v =>
    (World.cell?_setCell_other wr _ _ v (fun e => by injection e; omega)).trans hcx
   have hbx := qpa X i
   have hor := or32 q (dgt X i) (by omega) hbx
   go_wp2
   go_roundw
   case rel =>
    refine ⟨k + 1, by omega, by go_num, qdq (by rw [show k + 1 + i - (k + 1) = i by omega]), ?_, hext.set (Nat.le_refl _) _⟩
    rw [show k + 1 + i - (k + 1) = i by omega]
    refine harr.step ?_
    rw [shr_dgt X s i (by omega), ← HQ.out]
    simp
   case measure => simp [intOf]; omega
  ·obtain rfl : k = n := by omega
   rw [Nat.sub_self] at harr
   go_wp2
   go_ret
   obtain ⟨g, hg, hgf⟩ := harr
   exact ⟨g, rfl, hg, fun j hj => hgf j (by omega) hj, hext⟩
set_option maxHeartbeats 1000000 in
theorem qgu (x y : Value) (n m X Y : Nat) (w : World) (hx : Dig w x n X) (hy : Dig w y m Y) (hb : n + m ≤ 4398046511104) :
 Calls Tryz.prog 91 #[x, y] w (qtd w (X * Y)) := by
 obtain ⟨A1, c1, rfl, hn1, hc1, hX, hx⟩ := hx
 obtain ⟨A2, c2, rfl, hn2, hc2, hY, hy⟩ := hy
 by_cases hn0 : n = 0
 ·subst hn0
  have hX0 : X = 0 := by simpa [qcr] using hX
  subst hX0
  go_enter Tryz.func91, Tryz.ntmps91
  go_wp2_with fail
  go_ret
  exact ⟨_, 0, rfl, by rw [Nat.zero_mul]; exact Dig.nil w, .inl rfl, Ext.refl _⟩
 by_cases hm0 : m = 0
 ·subst hm0
  have hY0 : Y = 0 := by simpa [qcr] using hY
  subst hY0
  have h0 : ((n : Int) == 0) = false := by simp; omega
  go_enter Tryz.func91, Tryz.ntmps91
  go_wp2_with fail
  go_ret
  exact ⟨_, 0, rfl, by rw [Nat.mul_zero]; exact Dig.nil w, .inl rfl, Ext.refl _⟩
 have h0 : ((n : Int) == 0) = false := by simp; omega
 have h00 : ((m : Int) == 0) = false := by simp; omega
 go_enter Tryz.func91, Tryz.ntmps91
 go_wp2_with (at_make; refine q7x _ rfl _ _ 54 rfl 147 Tryz.underlying54 (by kernel_rfl) _ _ rfl rfl (n + m) (by omega) (by omega) (by omega) ?_; intro w1 harr hext)
 go_loopw [26] (fun i wr => ∃ k : Nat, k ≤ n ∧ i = .int .i64 k ∧ q1d wr w.heap.size (n + m) 147 X Y k 0 ∧ Ext w wr) (fun i _ => n - (intOf i).toNat)
 case atStart => exact ⟨0, by omega, rfl, q1d.start harr (fun _ _ => rfl), hext⟩
 case round =>
  obtain ⟨k, hk, rfl, harr, hext⟩ := hrel
  by_cases hlt : k < n
  ·obtain ⟨b1, o1, rfl, hcx⟩ := hx (by omega)
   have hcx := hcx k hlt
   have hbx := qpa X k
   obtain ⟨wo, rfl⟩ : ∃ wo : World, wo = wr := ⟨_, rfl⟩
   go_wp2
   go_loopw [7, 31] (fun cy i wr => ∃ j : Nat, j ≤ m ∧ i = .int .i64 j ∧ cy = .int .u64 (mulc X Y k j : Nat) ∧ q1d wr w.heap.size (n + m) 147 X Y k j ∧ Ext w wr) (fun _ i _ => m - (intOf i).toNat)
   case atStart => exact ⟨0, by omega, rfl, by rw [mulc_zero]; rfl, harr, hext⟩
   case round =>
    clear harr hext
    obtain ⟨j, hj, rfl, rfl, harr, hext⟩ := hrel
    have hbc := mulc_lt X Y k j
    by_cases hjlt : j < m
    ·obtain ⟨b2, o2, rfl, hcy⟩ := hy (by omega)
     have hcx := hext.cell hcx
     have hcy := hext.cell (hcy j hjlt)
     have hby := qpa Y j
     have hco := harr.cell (by omega)
     have hfo := harr.frozen (k + j)
     have hbo := qpa (prow X Y k) (k + j)
     have hbt := mul_bound hbx hby hbo hbc
     have hmul0 : (0 : Int) ≤ (dgt X k : Int) * (dgt Y j : Int) := by have := Int.natCast_nonneg (dgt X k * dgt Y j); simpa using this
     have hmulI : (dgt X k : Int) * (dgt Y j : Int) + (dgt (prow X Y k) (k + j) : Int) + (mulc X Y k j : Int) < 18446744073709551616 := by have := Int.ofNat_lt.2 hbt; simpa using this
     clear hbt
     go_wp2
     go_quiet (fail)
     go_wp2
     go_roundw
     case rel => exact ⟨j + 1, by omega, by go_num, qdq (by rw [mulc_succ]; simp), (harr.drewN _).step (by rw [mul_dgt]; simp), (hext.drewN _).set (Nat.le_refl _) _⟩
     case measure => simp [intOf]; omega
    ·obtain rfl : j = m := by omega
     have hco := harr.cell (by omega)
     have hfo := harr.frozen (k + j)
     go_wp2
     go_roundw
     case rel => exact ⟨k + 1, by omega, by go_num, (harr.step (by rw [mulc_full hY])).next hY, hext.set (Nat.le_refl _) _⟩
     case measure => simp [intOf]; omega
  ·obtain rfl : k = n := by omega
   go_wp2_with fail
   refine (qxv _ _ _ _ _ (harr.dig rfl (by omega) hX hY)).mono ?_
   rintro e w' ⟨v, n', rfl, hd, ht, rfl⟩
   go_wp2_with fail
   go_ret
   exact ⟨v, n', rfl, hd, ht, hext⟩
open Go.BigFrame
structure DigitPre (w : World) (b N off n P D b2 o2 : Nat) (E : TypeId) (f : Nat → Nat) : Prop where
 arr : Arr w b N E f
 fit : off + n + 1 ≤ N
 pre : DPre P D n
 hf : ∀ p, p ≤ n → f (off + p) = dgt P p
 ne : b2 ≠ b
 cells : ∀ j, j < n → w.cell? ⟨b2, o2 + j, none⟩ = some (.int .u32 (dgt D j : Int))
def qoy (w : World) (b N off n P D : Nat) (E : TypeId) (f : Nat → Nat) (e : Ending) (w' : World) : Prop :=
 ∃ f', e = .returned (.int .u32 (P / D : Nat)) ∧ Arr w' b N E f' ∧ (∀ p, p < off ∨ off + n < p → f' p = f p) ∧ (∀ p, p ≤ n → f' (off + p) = dgt (P % D) p) ∧ Upd b w w'
def SubI (w wr : World) (b N off n : Nat) (E : TypeId) (f : Nat → Nat) (P D W g k c bo : Nat) : Prop :=
 ∃ f', Arr wr b N E f' ∧ (∀ p, p < off ∨ off + n < p → f' p = f p) ∧ (∀ p, p < k → f' (off + p) = dgt W p) ∧ (∀ p, k ≤ p → p ≤ n → f' (off + p) = dgt P p) ∧
  P % pw k + pw k * (c + bo) = g * (D % pw k) + W % pw k ∧ Upd b w wr
theorem SubI.start {w : World} {b N off n : Nat} {E : TypeId} {f : Nat → Nat} {P D W g : Nat} (h : Arr w b N E f) (hf : ∀ p, p ≤ n → f (off + p) = dgt P p) (d : Nat) : SubI w (w.drewN d) b N off n E f P D W g 0 0 0 :=
 ⟨f, h, fun _ _ => rfl, fun p hp => absurd hp (by omega), fun p _ hp => hf p hp, by simp [qcr, Nat.mod_one], (Upd.refl _ _).drewN d⟩
section
variable {w wr : World} {b N off n : Nat} {E : TypeId} {f : Nat → Nat} {P D W g k c bo : Nat}
theorem SubI.drewN (h : SubI w wr b N off n E f P D W g k c bo) (d : Nat) : SubI w (wr.drewN d) b N off n E f P D W g k c bo := by
 obtain ⟨f', h1, h2, h3, h4, h5, h6⟩ := h
 exact ⟨f', h1, h2, h3, h4, h5, h6.drewN d⟩
theorem SubI.cell (h : SubI w wr b N off n E f P D W g k c bo) (hN : off + n + 1 ≤ N) {p : Nat} (hk : k ≤ p) (hp : p ≤ n) : wr.cell? ⟨b, off + p, none⟩ = some (.int .u32 (dgt P p : Int)) := by
 obtain ⟨f', h1, h2, h3, h4, h5, h6⟩ := h
 rw [h1.cell (by omega), h4 p hk hp]
theorem SubI.frozen (h : SubI w wr b N off n E f P D W g k c bo) (p : Nat) : wr.frozen? ⟨b, p, none⟩ = false := by
 obtain ⟨f', h1, _⟩ := h; exact h1.frozen p
theorem SubI.other (h : SubI w wr b N off n E f P D W g k c bo) {p : Addr} {v : Value} (hc : w.cell? p = some v) (hb : p.block ≠ b) : wr.cell? p = some v := by
 obtain ⟨f', h1, h2, h3, h4, h5, h6⟩ := h; exact h6.cell hc hb
theorem SubI.step {z c' bo' e : Nat} {ee : Int} (h : SubI w wr b N off n E f P D W g k c bo) (hk : k < n) (hW : P + z * pw (n + 1) = g * D + W)
 (he : dgt P k + 4294967296 * (c' + bo') = g * dgt D k + (c + bo) + e) (heb : e < 4294967296) (hee : ee = (e : Int)) :
 SubI w (wr.setCell ⟨b, off + k, none⟩ (.int .u32 ee)) b N off n E f P D W g (k + 1) c' bo' := by
 obtain ⟨f', h1, h2, h3, h4, h5, h6⟩ := h
 obtain ⟨r1, r2⟩ := sub_step (Nat.le_of_lt hk) hW h5 he heb
 refine ⟨_, h1.setI (off + k) ee e hee, fun p hp => ?_, fun p hp => ?_, fun p hp hp2 => ?_, r2, h6.set _ _⟩
 ·rw [if_neg (by omega)]; exact h2 p hp
 ·by_cases hpk : p = k
  ·subst hpk; simp [r1]
  ·rw [if_neg (by omega)]; exact h3 p (by omega)
 ·rw [if_neg (by omega)]; exact h4 p (by omega) hp2
end
theorem sub_num (p t bo : Nat) (hp : p < 4294967296) (hbo : bo ≤ 1) (T : Int) (hT : T = (t : Int)) :
 ∃ e bo' : Nat, IntKind.u64.wrap (IntKind.u64.wrap ((p : Int) - T % 4294967296) - (bo : Int)) / 9223372036854775808 = (bo' : Int) ∧
  IntKind.u64.wrap (IntKind.u64.wrap ((p : Int) - T % 4294967296) - (bo : Int)) % 4294967296 = (e : Int) ∧ bo' ≤ 1 ∧ e < 4294967296 ∧
  p + 4294967296 * (t / 4294967296 + bo') = t + bo + e := by
 subst hT
 rw [IntKind.wrap_u64, IntKind.wrap_u64]
 by_cases h : t % 4294967296 + bo ≤ p
 ·exact ⟨p - t % 4294967296 - bo, 0, by omega, by omega, by omega, by omega, by omega⟩
 ·exact ⟨p + 4294967296 - t % 4294967296 - bo, 1, by omega, by omega, by omega, by omega, by omega⟩
theorem fin_num0 {pn c bo wn : Nat} (h : wn + (c + bo) = pn + 4294967296 * 0) (hw : wn = 0) (hpn : pn < 4294967296) :
 IntKind.u64.wrap (IntKind.u64.wrap ((pn : Int) - (c : Int)) - (bo : Int)) = 0 := by
 rw [IntKind.wrap_u64, IntKind.wrap_u64]; omega
theorem fin_num1 {pn c bo wn : Nat} (h : wn + (c + bo) = pn + 4294967296 * 1) (hw : wn < 4294967296) (hpn : pn < 4294967296) :
 ∃ dd : Nat, IntKind.u64.wrap (IntKind.u64.wrap ((pn : Int) - (c : Int)) - (bo : Int)) = (dd : Int) ∧ (dd : Int) / 9223372036854775808 = 1 ∧ (dd : Int) % 4294967296 = (wn : Int) := by
 refine ⟨18446744073709551616 + wn - 4294967296, ?_, by omega, by omega⟩
 rw [IntKind.wrap_u64, IntKind.wrap_u64]; omega
def AddI (w wr : World) (b N off n : Nat) (E : TypeId) (f : Nat → Nat) (D W k : Nat) : Prop :=
 ∃ f', Arr wr b N E f' ∧ (∀ p, p < off ∨ off + n < p → f' p = f p) ∧ (∀ p, p < k → f' (off + p) = dgt (W + D) p) ∧ (∀ p, k ≤ p → p ≤ n → f' (off + p) = dgt W p) ∧ Upd b w wr
section
variable {w wr : World} {b N off n : Nat} {E : TypeId} {f : Nat → Nat} {P D W g k c bo : Nat}
theorem SubI.last {z : Nat} (h : SubI w wr b N off n E f P D W g n c bo) (hP : P < pw (n + 1)) (hD : D < pw n) (hWl : W < pw (n + 1)) (hW : P + z * pw (n + 1) = g * D + W) : dgt W n + (c + bo) = dgt P n + 4294967296 * z := by
 obtain ⟨f', h1, h2, h3, h4, h5, h6⟩ := h; exact sub_last hP hD hWl hW h5
theorem SubI.fin {ee : Int} (h : SubI w wr b N off n E f P D W g n c bo) (hee : ee = (dgt W n : Nat)) : AddI w (wr.setCell ⟨b, off + n, none⟩ (.int .u32 ee)) b N off n E f D W 0 := by
 obtain ⟨f', h1, h2, h3, h4, h5, h6⟩ := h
 refine ⟨_, h1.setI (off + n) ee _ hee, fun p hp => ?_, fun p hp => absurd hp (by omega), fun p _ hp => ?_, h6.set _ _⟩
 ·rw [if_neg (by omega)]; exact h2 p hp
 ·by_cases hpk : p = n
  ·subst hpk; simp
  ·rw [if_neg (by omega)]; exact h3 p (by omega)
theorem AddI.drewN (h : AddI w wr b N off n E f D W k) (d : Nat) : AddI w (wr.drewN d) b N off n E f D W k := by
 obtain ⟨f', h1, h2, h3, h4, h6⟩ := h
 exact ⟨f', h1, h2, h3, h4, h6.drewN d⟩
theorem AddI.cell (h : AddI w wr b N off n E f D W k) (hN : off + n + 1 ≤ N) {p : Nat} (hk : k ≤ p) (hp : p ≤ n) : wr.cell? ⟨b, off + p, none⟩ = some (.int .u32 (dgt W p : Int)) := by
 obtain ⟨f', h1, h2, h3, h4, h6⟩ := h
 rw [h1.cell (by omega), h4 p hk hp]
theorem AddI.frozen (h : AddI w wr b N off n E f D W k) (p : Nat) : wr.frozen? ⟨b, p, none⟩ = false := by
 obtain ⟨f', h1, _⟩ := h; exact h1.frozen p
theorem AddI.other (h : AddI w wr b N off n E f D W k) {p : Addr} {v : Value} (hc : w.cell? p = some v) (hb : p.block ≠ b) : wr.cell? p = some v := by
 obtain ⟨f', h1, h2, h3, h4, h6⟩ := h; exact h6.cell hc hb
theorem AddI.step {ee : Int} (h : AddI w wr b N off n E f D W k) (hk : k ≤ n) (hee : ee = (dgt (W + D) k : Nat)) : AddI w (wr.setCell ⟨b, off + k, none⟩ (.int .u32 ee)) b N off n E f D W (k + 1) := by
 obtain ⟨f', h1, h2, h3, h4, h6⟩ := h
 refine ⟨_, h1.setI (off + k) ee _ hee, fun p hp => ?_, fun p hp => ?_, fun p hp hp2 => ?_, h6.set _ _⟩
 ·rw [if_neg (by omega)]; exact h2 p hp
 ·by_cases hpk : p = k
  ·subst hpk; simp
  ·rw [if_neg (by omega)]; exact h3 p (by omega)
 ·rw [if_neg (by omega)]; exact h4 p (by omega) hp2
theorem AddI.post0 (h : AddI w wr b N off n E f D W 0) (hW : W = P % D) (hg : g = P / D) : qoy w b N off n P D E f (.returned (.int .u32 (g : Int))) wr := by
 obtain ⟨f', h1, h2, h3, h4, h6⟩ := h
 exact ⟨f', by rw [hg], h1, h2, fun p hp => by rw [h4 p (Nat.zero_le _) hp, hW], h6⟩
theorem AddI.post1 (h : AddI w wr b N off n E f D W (n + 1)) (hW : W + D = P % D + pw (n + 1)) (hg : g = P / D + 1) {u : Int} (hu : u = (g : Int) - 1) : qoy w b N off n P D E f (.returned (.int .u32 u)) wr := by
 obtain ⟨f', h1, h2, h3, h4, h6⟩ := h
 refine ⟨f', by rw [hu, hg]; congr 2; omega, h1, h2, fun p hp => ?_, h6⟩
 rw [h3 p (by omega), hW]
 refine qtf ?_
 obtain ⟨k, hk⟩ : ∃ k, n + 1 = p + 1 + k := ⟨n - p, by omega⟩
 rw [hk, qv1, Nat.add_mul_mod_self_left]
end
set_option maxHeartbeats 2000000 in
set_option maxRecDepth 100000 in
theorem qlg (b N off n c c2 P D b2 o2 : Nat) (E : TypeId) (f : Nat → Nat) (w : World) (h : DigitPre w b N off n P D b2 o2 E f) (hN : N ≤ 4398046511104) :
 Calls Tryz.prog 140 #[.slice (some ⟨b, off, none⟩) (n + 1) c, .slice (some ⟨b2, o2, none⟩) n c2] w (qoy w b N off n P D E f) := by
 obtain ⟨harr, hfit, hpre, hf, hne, hcd⟩ := h
 have hn2 := hpre.n2
 have htop := hpre.top
 have cn : w.cell? ⟨b, off + n, none⟩ = some (.int .u32 (dgt P n : Int)) := by rw [harr.cell (by omega), hf n (by omega)]
 have cn1 : w.cell? ⟨b, off + (n - 1), none⟩ = some (.int .u32 (dgt P (n - 1) : Int)) := by rw [harr.cell (by omega), hf (n - 1) (by omega)]
 have cn2 : w.cell? ⟨b, off + (n - 2), none⟩ = some (.int .u32 (dgt P (n - 2) : Int)) := by rw [harr.cell (by omega), hf (n - 2) (by omega)]
 have d1 := hcd (n - 1) (by omega)
 have d2 := hcd (n - 2) (by omega)
 have bn := qpa P n
 have bn1 := qpa P (n - 1)
 have bn2 := qpa P (n - 2)
 have bd1 := qpa D (n - 1)
 have bd2 := qpa D (n - 2)
 have hor := or32 (dgt P n) (dgt P (n - 1)) (by omega) bn1
 have HF := Lib.hid hf
 have HC := Lib.hid hcd
 have HA := Lib.hid harr
 clear hf hcd harr
 obtain ⟨hstart, hst⟩ := GI.start hpre
 have HS := Lib.hid hstart
 have hsl : (dgt P n * 4294967296 + dgt P (n - 1)) % dgt D (n - 1) < 4294967296 := Nat.lt_trans (Nat.mod_lt _ (by omega)) bd1
 have HST := Lib.hid hst
 have HSL := Lib.hid hsl
 clear hstart hst hsl
 go_enter Tryz.func140, Tryz.ntmps140
 go_wp2
 go_quiet (fail)
 go_wp2
 go_loopw [7, 8] (fun gs ls wr => ∃ g l d : Nat, gs = .int .u64 g ∧ ls = .int .u64 l ∧ wr = w.drewN d ∧ g ≤ 4294967297 ∧ l ≤ 8589934592 ∧ Hid (GI P D n g l)) (fun gs _ _ => (intOf gs).toNat)
 case atStart => exact ⟨_, _, nq, by simp, by simp, rfl, HST.out, Nat.le_of_lt (Nat.lt_of_lt_of_le HSL.out (by omega)), HS⟩
 case round =>
  obtain ⟨g, l, d, rfl, rfl, rfl, hg, hl, HG⟩ := hrel
  by_cases hexit : 4294967296 ≤ l ∨ (g < 4294967296 ∧ g * dgt D (n - 2) ≤ l * 4294967296 + dgt P (n - 2))
  ·obtain ⟨hgB, hq1, hq2⟩ := GI.out hpre HG.out hexit
   obtain ⟨z, W, hW, hWl, hcase⟩ := left_over hpre.hP hpre.hD hpre.pos hq1 hq2
   have hsub0 : SubI w (w.drewN d) b N off n E f P D W g 0 0 0 := SubI.start HA.out HF.out d
   have HQ1 := Lib.hid hq1
   have HQ2 := Lib.hid hq2
   have HW := Lib.hid hW
   have HWL := Lib.hid hWl
   have HCASE := Lib.hid hcase
   have HSUB := Lib.hid hsub0
   clear hq1 hq2 hW hWl hcase hsub0
   rcases (show 4294967296 ≤ l ∨ (l < 4294967296 ∧ g * dgt D (n - 2) ≤ l * 4294967296 + dgt P (n - 2)) from by
    rcases hexit with hx | ⟨hx1, hx2⟩
    ·exact .inl hx
    ·rcases Nat.lt_or_ge l 4294967296 with h1 | h1
     ·exact .inr ⟨h1, hx2⟩
     ·exact .inl h1) with hx | ⟨hx1, hx2⟩
   have e1 : decide ((l : Int) < 4294967296) = false := by simp; omega
   clear hx hexit
   go_wp2
   go_quiet (fail)
   go_wp2
   rotate_left
   have e1 : decide ((l : Int) < 4294967296) = true := by simp; omega
   have e2 : decide ((4294967296 : Int) ≤ (g : Int)) = false := by simp; omega
   have hmul0 : (0 : Int) ≤ (g : Int) * (dgt D (n - 2) : Int) := by have := Int.natCast_nonneg (g * dgt D (n - 2)); simpa using this
   have hmulI : (g : Int) * (dgt D (n - 2) : Int) ≤ 18446744069414584320 := by
    have hmul : g * dgt D (n - 2) ≤ 4294967295 * 4294967296 := Nat.mul_le_mul (by omega) (Nat.le_of_lt bd2)
    have := Int.ofNat_le.2 hmul; simpa using this
   have hor2 := or32 l (dgt P (n - 2)) (by omega) bn2
   have e3 : decide ((l : Int) * 4294967296 + (dgt P (n - 2) : Int) < (g : Int) * (dgt D (n - 2) : Int)) = false := by
    have := Int.ofNat_le.2 hx2; simpa using this
   clear hx2 hexit
   go_wp2
   go_quiet (fail)
   go_wp2
   clear e1 e2 e3 hor2 hmul0 hmulI
   rotate_left
   all_goals
    go_loopw [9, 10, 85] (fun cy bo i wr => ∃ k c bb : Nat, k ≤ n ∧ i = .int .i64 k ∧ cy = .int .u64 c ∧ bo = .int .u64 bb ∧ c < 4294967296 ∧ bb ≤ 1 ∧ SubI w wr b N off n E f P D W g k c bb) (fun _ _ i _ => n - (intOf i).toNat)
    case atStart => exact ⟨0, 0, 0, by omega, rfl, rfl, rfl, by omega, by omega, HSUB.out.drewN _⟩
    case round =>
     clear cn cn1 cn2 d1 d2 bn bn1 bn2 bd1 bd2 hor HSUB
     obtain ⟨k, c, bb, hk, rfl, rfl, rfl, hc, hbb, hsub⟩ := hrel
     have hfr := hsub.frozen (off + k)
     have hck := hsub.cell hfit (Nat.le_refl k) hk
     have hbk := qpa P k
     by_cases hlt : k < n
     ·have hdk := hsub.other (HC.out k hlt) hne
      have hbd := qpa D k
      have hmul0 : (0 : Int) ≤ (g : Int) * (dgt D k : Int) := by have := Int.natCast_nonneg (g * dgt D k); simpa using this
      have hmulI : (g : Int) * (dgt D k : Int) + (c : Int) < 18446744073709551616 := by
       have hmul : g * dgt D k ≤ 4294967295 * 4294967295 := Nat.mul_le_mul (by omega) (by omega)
       have hm2 : g * dgt D k + c < 18446744073709551616 := by omega
       have := Int.ofNat_lt.2 hm2; simpa using this
      go_wp2
      go_roundw
      case rel =>
       obtain ⟨e, bo', q1, q2, q3, q4, q5⟩ := sub_num (dgt P k) (g * dgt D k + c) bb hbk hbb ((g : Int) * (dgt D k : Int) + (c : Int)) (by simp)
       refine ⟨k + 1, (g * dgt D k + c) / 4294967296, bo', by omega, by go_num, by simp, qdq q1, by rw [Nat.div_lt_iff_lt_mul (by omega)]; omega, q3, hsub.step hlt HW.out (by rw [q5]; omega) q4 q2⟩
      case measure => simp [intOf]; omega
     ·obtain rfl : k = n := by omega
      have hlast := hsub.last hpre.hP hpre.hD HWL.out HW.out
      rcases HCASE.out with ⟨hz, hgq, hWq⟩ | ⟨hz, hgq, hWq⟩
      ·have hw0 : dgt W k = 0 := by
        rw [hWq]; exact qfl (Nat.lt_trans (Nat.mod_lt _ hpre.pos) hpre.hD)
       have e4 := fin_num0 (by rw [hz] at hlast; exact hlast) hw0 hbk
       have HFIN := Lib.hid (hsub.fin (ee := 0) (by rw [hw0]; rfl))
       have HPOST := Lib.hid (HFIN.out.post0 hWq hgq)
       clear hz hgq hWq hw0 hlast
       go_wp2
       go_ret
       exact HPOST.out
      ·obtain ⟨dd, e4, e5, e6⟩ := fin_num1 (by rw [hz] at hlast; exact hlast) (qpa W k) hbk
       have HFIN := Lib.hid (hsub.fin (ee := (dgt W k : Nat)) rfl)
       have HGQ := Lib.hid hgq
       have HWQ := Lib.hid hWq
       clear hz hgq hWq hlast
       go_wp2
       clear hsub hfr hck e4 e5 e6
       go_loopw [9, 138] (fun cy i wr => ∃ m : Nat, m ≤ k ∧ i = .int .i64 m ∧ cy = .int .u64 (sumc W D m : Nat) ∧ AddI w wr b N off k E f D W m) (fun _ i _ => k - (intOf i).toNat)
       case atStart => exact ⟨0, by omega, rfl, by rw [q3l]; rfl, HFIN.out⟩
       case round =>
        clear HFIN
        obtain ⟨m, hm, rfl, rfl, hadd⟩ := hrel
        have hfr := hadd.frozen (off + m)
        have hck := hadd.cell hfit (Nat.le_refl m) hm
        have hbw := qpa W m
        have hbc := qyw W D m
        by_cases hlt : m < k
        ·have hdk := hadd.other (HC.out m hlt) hne
         have hbd := qpa D m
         go_wp2
         go_quiet (fail)
         go_wp2
         go_roundw
         case rel => exact ⟨m + 1, by omega, by go_num, qdq (by rw [qpc]; simp), (hadd.drewN _).step hm (by rw [q74]; simp)⟩
         case measure => simp [intOf]; omega
        ·obtain rfl : m = k := by omega
         have hg1 : 1 ≤ g := by rw [HGQ.out]; exact Nat.le_add_left _ _
         have hst := hadd.step hm (ee := (dgt (W + D) m : Nat)) rfl
         have HPOST := Lib.hid (hst.post1 HWQ.out HGQ.out (u := (g : Int) - 1) rfl)
         have hs : IntKind.u32.wrap ((dgt W m : Int) + (sumc W D m : Int)) = (dgt (W + D) m : Nat) := by
          rw [q74, qfl hpre.hD, IntKind.wrap_u32]; simp
         clear hst
         go_wp2
         go_ret
         exact HPOST.out
  ·have hlB : l < 4294967296 := by omega
   have e1 : decide ((l : Int) < 4294967296) = true := by simp; omega
   by_cases hgB : 4294967296 ≤ g
   ·have e2 : decide ((4294967296 : Int) ≤ (g : Int)) = true := by simp; omega
    obtain ⟨hgi, hg1⟩ := GI.dec hpre HG.out (.inl hgB)
    have HGI := Lib.hid hgi
    clear hgi hexit
    go_wp2
    go_quiet (fail)
    go_wp2
    go_roundw
    case rel => exact ⟨g - 1, l + dgt D (n - 1), _, by go_num, by go_num, rfl, by omega, by omega, HGI⟩
    case measure => simp [intOf]; omega
   ·have e2 : decide ((4294967296 : Int) ≤ (g : Int)) = false := by simp; omega
    have hm : l * 4294967296 + dgt P (n - 2) < g * dgt D (n - 2) := Nat.lt_of_not_le fun h => hexit (.inr ⟨by omega, h⟩)
    obtain ⟨hgi, hg1⟩ := GI.dec hpre HG.out (.inr hm)
    have HGI := Lib.hid hgi
    have hmul0 : (0 : Int) ≤ (g : Int) * (dgt D (n - 2) : Int) := by have := Int.natCast_nonneg (g * dgt D (n - 2)); simpa using this
    have hmulI : (g : Int) * (dgt D (n - 2) : Int) ≤ 18446744069414584320 := by
     have hmul : g * dgt D (n - 2) ≤ 4294967295 * 4294967296 := Nat.mul_le_mul (by omega) (Nat.le_of_lt bd2)
     have := Int.ofNat_le.2 hmul; simpa using this
    have hor2 := or32 l (dgt P (n - 2)) (by omega) bn2
    have e3 : decide ((l : Int) * 4294967296 + (dgt P (n - 2) : Int) < (g : Int) * (dgt D (n - 2) : Int)) = true := by
     have := Int.ofNat_lt.2 hm; simpa using this
    clear hgi hexit hm
    go_wp2
    go_quiet (fail)
    go_wp2
    go_roundw
    case rel => exact ⟨g - 1, l + dgt D (n - 1), _, by go_num, by go_num, rfl, by omega, by omega, HGI⟩
    case measure => simp [intOf]; omega
theorem Dig.digits {w : World} {b n : Nat} {E : TypeId} {f : Nat → Nat} {V m c : Nat} (h : Arr w b n E f) (hm : m ≤ n) (hmc : m ≤ c) (hc : c ≤ 4398046511104) (hV : V < pw m) (hf : ∀ j, j < m → f j = dgt V j) :
 Dig w (.slice (some ⟨b, 0, none⟩) m c) m V :=
 ⟨_, c, rfl, hmc, hc, hV, fun _ => ⟨b, 0, rfl, fun j hj => by rw [Nat.zero_add, h.cell (by omega), hf j hj]⟩⟩
theorem Arr.upd {w w' : World} {b b2 n : Nat} {E : TypeId} {f : Nat → Nat} (h : Arr w b n E f) (k : Upd b2 w w') (hb : b ≠ b2) : Arr w' b n E f := by
 have hl := h.lt
 obtain ⟨cs, h1, h2⟩ := h
 exact ⟨cs, (k.block hl hb).trans h1, h2⟩
theorem q1h (x y : Value) (n m X Y : Nat) (w : World) (hx : Dig w x n X) (hy : Dig w y m Y) (tx : Trm n X) (ty : Trm m Y) :
 Calls Tryz.prog 78 #[x, y] w fun e w' => e = .returned (.int .i64 (cmpI X Y)) ∧ ∃ k, w' = w.drewN k := by
 have hx' := hx
 have hy' := hy
 obtain ⟨A1, c1, rfl, h1, h2, hX, _⟩ := hx'
 obtain ⟨A2, c2, rfl, h3, h4, hY, _⟩ := hy'
 obtain ⟨c1, c2⟩ := qp2 hX hY tx ty
 by_cases h : n = m
 ·subst h
  exact qtl _ _ _ _ _ _ _ _ hx hy
 ·refine (qe1 _ _ _ _ _ _ _ h (by omega) (by omega)).mono ?_
  rintro e w' ⟨rfl, rfl⟩
  refine ⟨?_, 0, rfl⟩
  unfold cmpI
  by_cases hlt : n < m
  ·rw [if_pos hlt, if_pos (c1 hlt)]
  ·rw [if_neg hlt, if_neg (by have := c2 (by omega); omega), if_pos (c2 (by omega))]
theorem Dig.one (w : World) (E : TypeId) {r : Nat} (hr : r < 4294967296) : Dig (w.alloc (.cells #[.int .u32 (r : Int)] E)) (.slice (some ⟨w.heap.size, 0, none⟩) 1 1) 1 r := by
 refine ⟨_, 1, rfl, by omega, by omega, by rw [qfj]; exact hr, fun _ => ⟨_, 0, rfl, fun j hj => ?_⟩⟩
 obtain rfl : j = 0 := by omega
 have h0 : dgt r 0 = r := by unfold dgt; rw [qcr, Nat.div_one]; exact Nat.mod_eq_of_lt hr
 rw [h0, cell_of_row _ _ _ _ _ _ (heap_alloc_new w _)]
 rfl
def qkn (w : World) (A B : Nat) (e : Ending) (w' : World) : Prop :=
 ∃ q r nq nr, e = .returned (.tuple #[q, r]) ∧ Dig w' q nq (A / B) ∧ Trm nq (A / B) ∧ Dig w' r nr (A % B) ∧ Trm nr (A % B) ∧ Ext w w'
theorem Ext.drewN_self (w : World) (k : Nat) : Ext w (w.drewN k) := (Ext.refl w).drewN k
set_option maxHeartbeats 1000000 in
theorem divide_lt (x y : Value) (n m X Y : Nat) (w : World) (hx : Dig w x n X) (hy : Dig w y m Y) (tx : Trm n X) (ty : Trm m Y) (h : X < Y) :
 Calls Tryz.prog 113 #[x, y] w (qkn w X Y) := by
 have hc : cmpI X Y = -1 := by simp [cmpI, h]
 have HC := Lib.hid hc
 clear hc
 have hx' := hx
 have hy' := hy
 obtain ⟨A1, c1, rfl, h1, h2, hX, _⟩ := hx'
 obtain ⟨A2, c2, rfl, h3, h4, hY, _⟩ := hy'
 go_enter Tryz.func113, Tryz.ntmps113
 go_wp2_with fail
 refine (q1h _ _ _ _ _ _ _ hx hy tx ty).mono ?_
 rintro e w' ⟨rfl, d, rfl⟩
 rw [HC.out]
 go_wp2_with fail
 go_ret2
 exact ⟨_, _, 0, n, rfl, by rw [Nat.div_eq_of_lt h]; exact Dig.nil _, .inl rfl, by rw [Nat.mod_eq_of_lt h]; exact hx.ext (Ext.drewN_self _ _), by rw [Nat.mod_eq_of_lt h]; exact tx, Ext.drewN_self _ _⟩
set_option maxHeartbeats 1000000 in
theorem q7k (x y : Value) (n X Y : Nat) (w : World) (hx : Dig w x n X) (hy : Dig w y 1 Y) (tx : Trm n X) (ty : Trm 1 Y) (h : Y ≤ X) (hY0 : 0 < Y) (hb : n + 1 ≤ 4398046511104) :
 Calls Tryz.prog 113 #[x, y] w (qkn w X Y) := by
 have hc : 0 ≤ cmpI X Y := by unfold cmpI; split <;> (try split) <;> omega
 obtain ⟨q, hq⟩ : ∃ q, q = cmpI X Y := ⟨_, rfl⟩
 rw [← hq] at hc
 have HQ := Lib.hid hq
 clear hq
 have hx' := hx
 have hy' := hy
 obtain ⟨A1, c1, rfl, h1, h2, hX, _⟩ := hx'
 obtain ⟨A2, c2, rfl, h3, h4, hY, hcy⟩ := hy'
 obtain ⟨b2, o2, rfl, hcz⟩ := hcy (show 0 < 1 by omega)
 have hcy0 := hcz 0 Nat.one_pos
 clear hcz hcy
 have hd : dgt Y 0 = Y := by unfold dgt; rw [qcr, Nat.div_one]; exact Nat.mod_eq_of_lt (by simpa [qfj] using hY)
 rw [hd, Nat.add_zero] at hcy0
 clear hd
 have hYb : Y ≤ 4294967295 := by have : Y < pw 1 := hY; rw [qfj] at this; omega
 go_enter Tryz.func113, Tryz.ntmps113
 go_wp2_with fail
 refine (q1h _ _ _ _ _ _ _ hx hy tx ty).mono ?_
 rintro e w' ⟨rfl, d, rfl⟩
 rw [← HQ.out]
 go_wp2_with fail
 refine (q7j _ _ _ _ _ (hx.ext (Ext.drewN_self _ _)) hY0 hYb hb).mono ?_
 rintro e w' ⟨v, nv, rfl, hdq, htq, hext⟩
 have hrb : X % Y < 4294967296 := Nat.lt_trans (Nat.mod_lt _ hY0) (by omega)
 obtain ⟨r, hr⟩ : ∃ r, r = X % Y := ⟨_, rfl⟩
 have HR := Lib.hid hr
 rw [← hr] at hrb ⊢
 clear hr
 go_wp2_with fail
 refine (qxv _ _ _ _ _ (Dig.one _ 147 hrb)).mono ?_
 rintro e w' ⟨v2, n2, rfl, hd2, ht2, rfl⟩
 go_wp2_with fail
 go_ret2
 exact ⟨v, v2, nv, n2, rfl, hdq.ext ((Ext.refl _).alloc _), htq, by rw [← HR.out]; exact hd2, by rw [← HR.out]; exact ht2, ((Ext.drewN_self _ _).trans hext).alloc _⟩
def RestI (wr : World) (bR N : Nat) (E : TypeId) (R D j : Nat) : Prop := ∃ f, Arr wr bR N E f ∧ ∀ p, p < N → f p = dgt (rst R D j) p
theorem qlb.upd {w w' : World} {b b2 n : Nat} {E : TypeId} {V k : Nat} (h : qlb w b n E V k) (hk : Upd b2 w w') (hb : b ≠ b2) : qlb w' b n E V k := by
 obtain ⟨f, h1, h2⟩ := h; exact ⟨f, h1.upd hk hb, h2⟩
theorem RestI.other {w : World} {bR N : Nat} {E : TypeId} {R D j : Nat} (h : RestI w bR N E R D j) {p : Addr} (hp : bR ≠ p.block) (u : Value) : RestI (w.setCell p u) bR N E R D j := by
 obtain ⟨f, h1, h2⟩ := h; exact ⟨f, h1.other hp u, h2⟩
theorem RestI.next {w' : World} {bR N : Nat} {E : TypeId} {R D j m : Nat} {f f' : Nat → Nat} (hf : ∀ p, p < N → f p = dgt (rst R D (j + 1)) p) (h1 : Arr w' bR N E f')
 (h2 : ∀ p, p < j ∨ j + m < p → f' p = f p) (h3 : ∀ p, p ≤ m → f' (j + p) = dgt (rst R D (j + 1) / pw j % D) p) (hD0 : 0 < D) (hD : D < pw m) : RestI w' bR N E R D j := by
 refine ⟨f', h1, fun p hp => ?_⟩
 rcases Nat.lt_or_ge p j with h | h
 ·rw [h2 p (.inl h), hf p hp, rst_low h]
 ·obtain ⟨q, rfl⟩ : ∃ q, p = j + q := ⟨p - j, by omega⟩
  rcases Nat.lt_or_ge m q with hq | hq
  ·rw [h2 _ (.inr (by omega)), hf _ hp, qfl (Nat.lt_of_lt_of_le (q9m hD0 hD) (qcv (by omega))), qfl (Nat.lt_of_lt_of_le (q9m hD0 hD) (qcv (by omega)))]
  ·rw [h3 q hq, rst_rem hD0, dgt_div]
set_option maxHeartbeats 2000000 in
set_option maxRecDepth 100000 in
theorem q93 (hlz : ∀ (x : Int) (w : World), 0 ≤ x → x ≤ 4294967295 → Calls Tryz.prog 138 #[.int .u32 x] w fun e w' => e = .returned (.int .i64 (32 - (Lib.bitLen x.toNat : Int))) ∧ w' = w)
 (x y : Value) (n m X Y : Nat) (w : World) (hx : Dig w x n X) (hy : Dig w y m Y) (tx : Trm n X) (ty : Trm m Y) (h : Y ≤ X) (hm : 2 ≤ m) (hb : n + 1 ≤ 4398046511104) :
 Calls Tryz.prog 113 #[x, y] w (qkn w X Y) := by
 have hc : 0 ≤ cmpI X Y := by unfold cmpI; split <;> (try split) <;> omega
 obtain ⟨q, hq⟩ : ∃ q, q = cmpI X Y := ⟨_, rfl⟩
 rw [← hq] at hc
 have HQ := Lib.hid hq
 clear hq
 have hx' := hx
 have hy' := hy
 obtain ⟨A1, c1, rfl, h1, h2, hX, _⟩ := hx'
 obtain ⟨A2, c2, rfl, h3, h4, hY, hcy⟩ := hy'
 have hmn : m ≤ n := by
  rcases Nat.lt_or_ge n m with h0 | h0
  ·have := (qp2 hX hY tx ty).1 h0; omega
  ·exact h0
 have hYt : pw (m - 1) ≤ Y := by
  rcases ty with h0 | h0
  ·omega
  ·exact h0
 have ht0 : 0 < dgt Y (m - 1) := by
  rcases Nat.eq_zero_or_pos (dgt Y (m - 1)) with h0 | h0
  ·have := q6u (n := m - 1) (by rw [show m - 1 + 1 = m by omega]; exact hY) h0; omega
  ·exact h0
 obtain ⟨l1, l2, l3, l4⟩ := lz_top ht0 (qpa Y (m - 1))
 obtain ⟨s, hs⟩ : ∃ s, s = 32 - Lib.bitLen (dgt Y (m - 1)) := ⟨_, rfl⟩
 have hs31 : s ≤ 31 := by omega
 have hsI : (32 - (Lib.bitLen (dgt Y (m - 1)) : Int)) = (s : Int) := by omega
 rw [← hs] at l3 l4
 have HSI := Lib.hid hsI
 have hDl := shl_lt (by omega) hY l4
 have hDt := shl_top (by omega) hY l4 l3
 obtain ⟨D, hD⟩ : ∃ D, D = Y * 2 ^ s := ⟨_, rfl⟩
 obtain ⟨R, hR⟩ : ∃ R, R = X * 2 ^ s := ⟨_, rfl⟩
 rw [← hD] at hDl hDt
 have hD0 : 0 < D := by rw [hD]; exact Nat.mul_pos (Nat.lt_of_lt_of_le (qpt _) hYt) (Nat.two_pow_pos s)
 have hquo : R / D = X / Y := by rw [hR, hD]; exact qef
 have hrem : R % D / 2 ^ s = X % Y := by rw [hR, hD]; exact qbm
 have hql : X / Y < pw (n - m + 1) := quo_lt hX (by omega) hmn hYt
 have HD := Lib.hid hD
 have HR := Lib.hid hR
 have HQUO := Lib.hid hquo
 have HREM := Lib.hid hrem
 have HQL := Lib.hid hql
 have HDL := Lib.hid hDl
 have HDT := Lib.hid hDt
 clear hs hsI l1 l2 l3 l4 hD hR hquo hrem hql hDl hDt
 have hm1 : ((m : Int) == 1) = false := by simp; omega
 obtain ⟨b2, o2, rfl, hcz⟩ := hcy (by omega)
 have hct := hcz (m - 1) (by omega)
 have hbt := qpa Y (m - 1)
 clear hcy hcz
 go_enter Tryz.func113, Tryz.ntmps113
 go_wp2_with fail
 refine (q1h _ _ _ _ _ _ _ hx hy tx ty).mono ?_
 rintro e w' ⟨rfl, d, rfl⟩
 rw [← HQ.out]
 go_wp2_with fail
 refine (hlz _ _ (by omega) (by omega)).mono ?_
 rintro e w' ⟨rfl, rfl⟩
 rw [Int.toNat_natCast, HSI.out]
 go_wp2_with fail
 refine (qnc _ _ _ _ _ (hy.ext (Ext.drewN_self _ _)) hs31 (by omega)).mono ?_
 rintro e w1 ⟨fD, rfl, hDa, hDf, hext1⟩
 go_wp2_with fail
 refine (qnc _ _ _ _ _ ((hx.ext (Ext.drewN_self _ _)).ext hext1) hs31 (by omega)).mono ?_
 rintro e w2 ⟨fR, rfl, hRa, hRf, hext2⟩
 go_wp2_with (at_make; refine q7x _ rfl _ _ 54 rfl 147 Tryz.underlying54 (by kernel_rfl) _ _ rfl rfl (n - m + 1) (by omega) (by omega) (by omega) ?_; intro w3 harr hext3)
 have s1 := hDa.lt
 have s2 := hRa.lt
 have s3 := harr.lt
 have hDa3 := (hDa.ext hext2).ext hext3
 have hRa3 := hRa.ext hext3
 have hE : Ext w w3 := (((Ext.drewN_self _ d).trans hext1).trans hext2).trans hext3
 have HDF := Lib.hid hDf
 have s0 : w.heap.size < w1.heap.size := s1
 have s1' : w1.heap.size < w2.heap.size := s2
 obtain ⟨bD, hbD⟩ : ∃ bD, bD = w.heap.size := ⟨_, rfl⟩
 obtain ⟨bR, hbR⟩ : ∃ bR, bR = w1.heap.size := ⟨_, rfl⟩
 obtain ⟨bQ, hbQ⟩ : ∃ bQ, bQ = w2.heap.size := ⟨_, rfl⟩
 rw [show (w.drewN d).heap.size = w.heap.size from rfl] at hDa3
 rw [← hbD] at s0 hDa3
 rw [← hbR] at s0 s1' hRa3
 rw [← hbQ] at s1' harr
 have hcount : n - m + 1 = n - m + 1 := rfl
 go_loopw [62] (fun i wr => ∃ k : Nat, k ≤ n - m + 1 ∧ i = .int .i64 k ∧ RestI wr w1.heap.size (n + 1) 147 R D (n - m + 1 - k) ∧ qlb wr w2.heap.size (n - m + 1) 147 (X / Y) (n - m + 1 - k) ∧ Arr wr w.heap.size (m + 1) 147 fD ∧ Ext w wr) (fun i _ => n - m + 1 - (intOf i).toNat)
 case atStart =>
  refine ⟨0, by omega, rfl, ⟨fR, by rw [← hbR]; exact hRa3, fun p hp => ?_⟩, qlb.start (by rw [← hbQ]; exact harr), by rw [← hbD]; exact hDa3, hE⟩
  rw [hRf p hp, Nat.sub_zero, rst_full (by rw [HQUO.out]; exact HQL.out), HR.out]
 case round =>
  obtain ⟨k, hk, rfl, hrest, hq, hdv, hext⟩ := hrel
  by_cases hlt : k < n - m + 1
  ·obtain ⟨j, hj⟩ : ∃ j, n - m + 1 - k = j + 1 := ⟨n - m - k, by omega⟩
   rw [hj] at hrest hq
   obtain ⟨f, hfa, hff⟩ := hrest
   have ej : n - m - k = j := by omega
   have EJ := Lib.hid ej
   have HJ := Lib.hid hj
   obtain ⟨u, hcu⟩ := hq.cell (j := j) (by omega)
   have hjn : j + m + 1 ≤ n + 1 := by omega
   clear ej hj
   go_wp2_with fail
   rw [EJ.out, show j + m + 1 - j = m + 1 by omega]
   have hpre : DigitPre wr w1.heap.size (n + 1) j m (rst R D (j + 1) / pw j) D w.heap.size 0 147 f :=
    ⟨hfa, hjn, win_pre hm hD0 HDL.out HDT.out, fun p hp => by rw [hff _ (by omega), dgt_div], by omega,
     fun p hp => by rw [Nat.zero_add, hdv.cell (by omega), HDF.out p (by omega), HD.out]⟩
   refine (qlg _ _ _ _ _ _ _ _ _ _ _ _ _ hpre (by omega)).mono ?_
   rintro e w4 ⟨f', rfl, hfa', hout, hin, hupd⟩
   rw [rst_quo hD0, HQUO.out]
   have hq4 := hq.upd hupd (by omega)
   obtain ⟨u', hcu'⟩ := hq4.cell (j := n - m - k) (by omega)
   have hfr' := hq4.frozen (n - m - k)
   have hrest' := RestI.next hff hfa' hout hin hD0 HDL.out
   have hdv' := hdv.upd hupd (by omega)
   have hext' := hupd.ext_of hext (by omega)
   have hbq := qpa (X / Y) j
   have hne : w1.heap.size ≠ w2.heap.size := by omega
   go_wp2
   go_roundw
   case rel =>
    have ej2 : n - m + 1 - (k + 1) = j := by have := EJ.out; omega
    refine ⟨k + 1, by omega, by go_num, ?_, ?_, hdv'.other (by simp; omega) _, hext'.set (by simp; omega) _⟩
    ·rw [ej2]; exact hrest'.other hne _
    ·rw [ej2, EJ.out]; exact hq4.step rfl
   case measure => simp [intOf]; omega
  ·obtain rfl : k = n - m + 1 := by omega
   rw [Nat.sub_self] at hrest hq
   have hqd := hq.dig (by omega) HQL.out
   obtain ⟨f, hfa, hff⟩ := hrest
   have hrd : Dig wr (.slice (some ⟨w1.heap.size, 0, none⟩) m (n + 1)) m (R % D) :=
    Dig.digits hfa (by omega) (by omega) (by omega) (Nat.lt_trans (Nat.mod_lt _ hD0) HDL.out) (fun p hp => by rw [hff p (by omega), rst_zero])
   clear hdv hff hfa
   go_wp2_with fail
   have hqd1 := hqd.ext (Ext.drewN_self _ 1)
   go_region_with (first | (go_at_call 105; refine (qxv _ _ _ _ _ (by exact hqd1)).mono ?_; rintro e w' ⟨vq, nq, rfl, hdq, htq, rfl⟩) | (go_at_call 141; refine (qlc _ _ _ _ _ (hrd.ext (Ext.drewN_self _ 1)) hs31 (by omega)).mono ?_; rintro e w5 ⟨fU, rfl, hUa, hUf, hext5⟩; have hud := hUa.dig (V := R % D / 2 ^ s) (by omega) (Nat.lt_of_le_of_lt (Nat.div_le_self _ _) (Nat.lt_trans (Nat.mod_lt _ hD0) HDL.out)) hUf) | (go_at_call 105; refine (qxv _ _ _ _ _ (by exact hud)).mono ?_; rintro e w' ⟨vr, nr, rfl, hdr, htr, rfl⟩))
   all_goals
    go_wp2
    go_ret2
    exact ⟨vq, vr, nq, nr, rfl, hdq.ext hext5, htq, by rw [← HREM.out]; exact hdr, by rw [← HREM.out]; exact htr, (hext.trans (Ext.drewN_self _ 1)).trans hext5⟩
theorem q7a (hlz : ∀ (x : Int) (w : World), 0 ≤ x → x ≤ 4294967295 → Calls Tryz.prog 138 #[.int .u32 x] w fun e w' => e = .returned (.int .i64 (32 - (Lib.bitLen x.toNat : Int))) ∧ w' = w)
 (x y : Value) (n m X Y : Nat) (w : World) (hx : Dig w x n X) (hy : Dig w y m Y) (tx : Trm n X) (ty : Trm m Y) (hY : 0 < Y) (hb : n + 1 ≤ 4398046511104) :
 Calls Tryz.prog 113 #[x, y] w (qkn w X Y) := by
 rcases Nat.lt_or_ge X Y with h | h
 ·exact divide_lt x y n m X Y w hx hy tx ty h
 ·rcases Nat.lt_or_ge m 2 with hm | hm
  ·rcases Nat.eq_zero_or_pos m with h0 | h0
   ·obtain ⟨A2, c2, _, _, _, hY2, _⟩ := hy
    subst h0; rw [qcr] at hY2; omega
   ·obtain rfl : m = 1 := by omega
    exact q7k x y n X Y w hx hy tx ty h hY hb
  ·exact q93 hlz x y n m X Y w hx hy tx ty h hm hb
end Go.Proofs.YtljncdcjkdgkeaaGreatDoor.Big

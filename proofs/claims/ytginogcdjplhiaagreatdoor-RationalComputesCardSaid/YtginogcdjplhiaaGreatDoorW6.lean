/- Walks: divide. -/
import Derived.Test.YtginogcdjplhiaaGreatDoorVal3
import Derived.Test.YtginogcdjplhiaaGreatDoorW3
import Derived.Test.YtginogcdjplhiaaGreatDoorW5
import Derived.Deep.RegionWith
set_option linter.unusedVariables false
set_option linter.unusedSimpArgs false
namespace Go.Proofs.YtginogcdjplhiaaGreatDoor.Big
open Go.RowKit

theorem Dig.digits {w : World} {b n : Nat} {E : TypeId} {f : Nat → Nat} {V m c : Nat} (h : Arr w b n E f) (hm : m ≤ n) (hmc : m ≤ c) (hc : c ≤ 4398046511104) (hV : V < pw m) (hf : ∀ j, j < m → f j = dgt V j) :
    Dig w (.slice (some ⟨b, 0, none⟩) m c) m V :=
  ⟨_, c, rfl, hmc, hc, hV, fun _ => ⟨b, 0, rfl, fun j hj => by rw [Nat.zero_add, h.cell (by omega), hf j hj]⟩⟩
theorem Arr.upd {w w' : World} {b b2 n : Nat} {E : TypeId} {f : Nat → Nat} (h : Arr w b n E f) (k : Upd b2 w w') (hb : b ≠ b2) : Arr w' b n E f := by
  have hl := h.lt
  obtain ⟨cs, h1, h2⟩ := h
  exact ⟨cs, (k.block hl hb).trans h1, h2⟩

/-- compare, at trimmed numbers -/
theorem compare_any (x y : Value) (n m X Y : Nat) (w : World) (hx : Dig w x n X) (hy : Dig w y m Y) (tx : Trm n X) (ty : Trm m Y) :
    Calls Tryz.prog 61 #[x, y] w fun e w' => e = .returned (.int .i64 (cmpI X Y)) ∧ ∃ k, w' = w.drewN k := by
  have hx' := hx
  have hy' := hy
  obtain ⟨A1, c1, rfl, h1, h2, hX, _⟩ := hx'
  obtain ⟨A2, c2, rfl, h3, h4, hY, _⟩ := hy'
  obtain ⟨c1, c2⟩ := cmp_trim hX hY tx ty
  by_cases h : n = m
  · subst h
    exact compare_eq _ _ _ _ _ _ _ _ hx hy
  · refine (compare_ne _ _ _ _ _ _ _ h (by omega) (by omega)).mono ?_
    rintro e w' ⟨rfl, rfl⟩
    refine ⟨?_, 0, rfl⟩
    unfold cmpI
    by_cases hlt : n < m
    · rw [if_pos hlt, if_pos (c1 hlt)]
    · rw [if_neg hlt, if_neg (by have := c2 (by omega); omega), if_pos (c2 (by omega))]

theorem Dig.one (w : World) (E : TypeId) {r : Nat} (hr : r < 4294967296) : Dig (w.alloc (.cells #[.int .u32 (r : Int)] E)) (.slice (some ⟨w.heap.size, 0, none⟩) 1 1) 1 r := by
  refine ⟨_, 1, rfl, by omega, by omega, by rw [pw_one]; exact hr, fun _ => ⟨_, 0, rfl, fun j hj => ?_⟩⟩
  obtain rfl : j = 0 := by omega
  have h0 : dgt r 0 = r := by unfold dgt; rw [pw_zero, Nat.div_one]; exact Nat.mod_eq_of_lt hr
  rw [h0, cell_of_row _ _ _ _ _ _ (heap_alloc_new w _)]
  rfl
def Div2Post (w : World) (A B : Nat) (e : Ending) (w' : World) : Prop :=
  ∃ q r nq nr, e = .returned (.tuple #[q, r]) ∧ Dig w' q nq (A / B) ∧ Trm nq (A / B) ∧ Dig w' r nr (A % B) ∧ Trm nr (A % B) ∧ Ext w w'

theorem Ext.drewN_self (w : World) (k : Nat) : Ext w (w.drewN k) := (Ext.refl w).drewN k

set_option maxHeartbeats 1000000 in
theorem divide_lt (x y : Value) (n m X Y : Nat) (w : World) (hx : Dig w x n X) (hy : Dig w y m Y) (tx : Trm n X) (ty : Trm m Y) (h : X < Y) :
    Calls Tryz.prog 68 #[x, y] w (Div2Post w X Y) := by
  have hc : cmpI X Y = -1 := by simp [cmpI, h]
  have HC := Lib.hid hc
  clear hc
  have hx' := hx
  have hy' := hy
  obtain ⟨A1, c1, rfl, h1, h2, hX, _⟩ := hx'
  obtain ⟨A2, c2, rfl, h3, h4, hY, _⟩ := hy'
  go_enter Tryz.func68, Tryz.ntmps68
  go_wp2_with fail
  refine (compare_any _ _ _ _ _ _ _ hx hy tx ty).mono ?_
  rintro e w' ⟨rfl, d, rfl⟩
  rw [HC.out]
  go_wp2_with fail
  go_ret2
  exact ⟨_, _, 0, n, rfl, by rw [Nat.div_eq_of_lt h]; exact Dig.nil _, .inl rfl, by rw [Nat.mod_eq_of_lt h]; exact hx.ext (Ext.drewN_self _ _), by rw [Nat.mod_eq_of_lt h]; exact tx, Ext.drewN_self _ _⟩

set_option maxHeartbeats 1000000 in
theorem divide_one (x y : Value) (n X Y : Nat) (w : World) (hx : Dig w x n X) (hy : Dig w y 1 Y) (tx : Trm n X) (ty : Trm 1 Y) (h : Y ≤ X) (hY0 : 0 < Y) (hb : n + 1 ≤ 4398046511104) :
    Calls Tryz.prog 68 #[x, y] w (Div2Post w X Y) := by
  have hc : 0 ≤ cmpI X Y := by unfold cmpI; split <;> (try split) <;> omega
  obtain ⟨q, hq⟩ : ∃ q, q = cmpI X Y := ⟨_, rfl⟩
  rw [← hq] at hc
  have HQ := Lib.hid hq
  clear hq
  have hx' := hx
  have hy' := hy
  obtain ⟨A1, c1, rfl, h1, h2, hX, _⟩ := hx'
  obtain ⟨A2, c2, rfl, h3, h4, hY, hcy⟩ := hy'
  obtain ⟨b2, o2, rfl, hcz⟩ := hcy (show 0 < 1 by omega)
  have hcy0 := hcz 0 Nat.one_pos
  clear hcz hcy
  have hd : dgt Y 0 = Y := by unfold dgt; rw [pw_zero, Nat.div_one]; exact Nat.mod_eq_of_lt (by simpa [pw_one] using hY)
  rw [hd, Nat.add_zero] at hcy0
  clear hd
  have hYb : Y ≤ 4294967295 := by have : Y < pw 1 := hY; rw [pw_one] at this; omega
  go_enter Tryz.func68, Tryz.ntmps68
  go_wp2_with fail
  refine (compare_any _ _ _ _ _ _ _ hx hy tx ty).mono ?_
  rintro e w' ⟨rfl, d, rfl⟩
  rw [← HQ.out]
  go_wp2_with fail
  refine (divideSmall_any _ _ _ _ _ (hx.ext (Ext.drewN_self _ _)) hY0 hYb hb).mono ?_
  rintro e w' ⟨v, nv, rfl, hdq, htq, hext⟩
  have hrb : X % Y < 4294967296 := Nat.lt_trans (Nat.mod_lt _ hY0) (by omega)
  obtain ⟨r, hr⟩ : ∃ r, r = X % Y := ⟨_, rfl⟩
  have HR := Lib.hid hr
  rw [← hr] at hrb ⊢
  clear hr
  go_wp2_with fail
  refine (trim_any _ _ _ _ _ (Dig.one _ 96 hrb)).mono ?_
  rintro e w' ⟨v2, n2, rfl, hd2, ht2, rfl⟩
  go_wp2_with fail
  go_ret2
  exact ⟨v, v2, nv, n2, rfl, hdq.ext ((Ext.refl _).alloc _), htq, by rw [← HR.out]; exact hd2, by rw [← HR.out]; exact ht2, ((Ext.drewN_self _ _).trans hext).alloc _⟩

/-- the rest after the quotient's digits from j on -/
def RestI (wr : World) (bR N : Nat) (E : TypeId) (R D j : Nat) : Prop := ∃ f, Arr wr bR N E f ∧ ∀ p, p < N → f p = dgt (rst R D j) p
theorem RestI.ext {w w' : World} {bR N : Nat} {E : TypeId} {R D j : Nat} (h : RestI w bR N E R D j) (k : Ext w w') : RestI w' bR N E R D j := by
  obtain ⟨f, h1, h2⟩ := h; exact ⟨f, h1.ext k, h2⟩
theorem ArrFrom.ext {w w' : World} {b n : Nat} {E : TypeId} {V k : Nat} (h : ArrFrom w b n E V k) (hk : Ext w w') : ArrFrom w' b n E V k := by
  obtain ⟨f, h1, h2⟩ := h; exact ⟨f, h1.ext hk, h2⟩
theorem ArrFrom.upd {w w' : World} {b b2 n : Nat} {E : TypeId} {V k : Nat} (h : ArrFrom w b n E V k) (hk : Upd b2 w w') (hb : b ≠ b2) : ArrFrom w' b n E V k := by
  obtain ⟨f, h1, h2⟩ := h; exact ⟨f, h1.upd hk hb, h2⟩
theorem RestI.other {w : World} {bR N : Nat} {E : TypeId} {R D j : Nat} (h : RestI w bR N E R D j) {p : Addr} (hp : bR ≠ p.block) (u : Value) : RestI (w.setCell p u) bR N E R D j := by
  obtain ⟨f, h1, h2⟩ := h; exact ⟨f, h1.other hp u, h2⟩
/-- what one call of divideDigit does to the rest -/
theorem RestI.next {w' : World} {bR N : Nat} {E : TypeId} {R D j m : Nat} {f f' : Nat → Nat} (hf : ∀ p, p < N → f p = dgt (rst R D (j + 1)) p) (h1 : Arr w' bR N E f')
    (h2 : ∀ p, p < j ∨ j + m < p → f' p = f p) (h3 : ∀ p, p ≤ m → f' (j + p) = dgt (rst R D (j + 1) / pw j % D) p) (hD0 : 0 < D) (hD : D < pw m) : RestI w' bR N E R D j := by
  refine ⟨f', h1, fun p hp => ?_⟩
  rcases Nat.lt_or_ge p j with h | h
  · rw [h2 p (.inl h), hf p hp, rst_low h]
  · obtain ⟨q, rfl⟩ : ∃ q, p = j + q := ⟨p - j, by omega⟩
    rcases Nat.lt_or_ge m q with hq | hq
    · rw [h2 _ (.inr (by omega)), hf _ hp, dgt_zero_of_lt (Nat.lt_of_lt_of_le (rst_lt_pw hD0 hD) (pw_mono (by omega))), dgt_zero_of_lt (Nat.lt_of_lt_of_le (rst_lt_pw hD0 hD) (pw_mono (by omega)))]
    · rw [h3 q hq, rst_rem hD0, dgt_div]

set_option maxHeartbeats 2000000 in
set_option maxRecDepth 100000 in
theorem divide_many (hlz : ∀ (x : Int) (w : World), 0 ≤ x → x ≤ 4294967295 → Calls Tryz.prog 81 #[.int .u32 x] w fun e w' => e = .returned (.int .i64 (32 - (Lib.bitLen x.toNat : Int))) ∧ w' = w)
    (x y : Value) (n m X Y : Nat) (w : World) (hx : Dig w x n X) (hy : Dig w y m Y) (tx : Trm n X) (ty : Trm m Y) (h : Y ≤ X) (hm : 2 ≤ m) (hb : n + 1 ≤ 4398046511104) :
    Calls Tryz.prog 68 #[x, y] w (Div2Post w X Y) := by
  have hc : 0 ≤ cmpI X Y := by unfold cmpI; split <;> (try split) <;> omega
  obtain ⟨q, hq⟩ : ∃ q, q = cmpI X Y := ⟨_, rfl⟩
  rw [← hq] at hc
  have HQ := Lib.hid hq
  clear hq
  have hx' := hx
  have hy' := hy
  obtain ⟨A1, c1, rfl, h1, h2, hX, _⟩ := hx'
  obtain ⟨A2, c2, rfl, h3, h4, hY, hcy⟩ := hy'
  have hmn : m ≤ n := by
    rcases Nat.lt_or_ge n m with h0 | h0
    · have := (cmp_trim hX hY tx ty).1 h0; omega
    · exact h0
  have hYt : pw (m - 1) ≤ Y := by
    rcases ty with h0 | h0
    · omega
    · exact h0
  have ht0 : 0 < dgt Y (m - 1) := by
    rcases Nat.eq_zero_or_pos (dgt Y (m - 1)) with h0 | h0
    · have := lt_of_dgt_zero (n := m - 1) (by rw [show m - 1 + 1 = m by omega]; exact hY) h0; omega
    · exact h0
  obtain ⟨l1, l2, l3, l4⟩ := lz_top ht0 (dgt_lt Y (m - 1))
  obtain ⟨s, hs⟩ : ∃ s, s = 32 - Lib.bitLen (dgt Y (m - 1)) := ⟨_, rfl⟩
  have hs31 : s ≤ 31 := by omega
  have hsI : (32 - (Lib.bitLen (dgt Y (m - 1)) : Int)) = (s : Int) := by omega
  rw [← hs] at l3 l4
  have HSI := Lib.hid hsI
  have hDl := shl_lt (by omega) hY l4
  have hDt := shl_top (by omega) hY l4 l3
  obtain ⟨D, hD⟩ : ∃ D, D = Y * 2 ^ s := ⟨_, rfl⟩
  obtain ⟨R, hR⟩ : ∃ R, R = X * 2 ^ s := ⟨_, rfl⟩
  rw [← hD] at hDl hDt
  have hD0 : 0 < D := by rw [hD]; exact Nat.mul_pos (Nat.lt_of_lt_of_le (pw_pos _) hYt) (Nat.two_pow_pos s)
  have hquo : R / D = X / Y := by rw [hR, hD]; exact scale_div
  have hrem : R % D / 2 ^ s = X % Y := by rw [hR, hD]; exact scale_mod
  have hql : X / Y < pw (n - m + 1) := quo_lt hX (by omega) hmn hYt
  have HD := Lib.hid hD
  have HR := Lib.hid hR
  have HQUO := Lib.hid hquo
  have HREM := Lib.hid hrem
  have HQL := Lib.hid hql
  have HDL := Lib.hid hDl
  have HDT := Lib.hid hDt
  clear hs hsI l1 l2 l3 l4 hD hR hquo hrem hql hDl hDt
  have hm1 : ((m : Int) == 1) = false := by simp; omega
  obtain ⟨b2, o2, rfl, hcz⟩ := hcy (by omega)
  have hct := hcz (m - 1) (by omega)
  have hbt := dgt_lt Y (m - 1)
  clear hcy hcz
  go_enter Tryz.func68, Tryz.ntmps68
  go_wp2_with fail
  refine (compare_any _ _ _ _ _ _ _ hx hy tx ty).mono ?_
  rintro e w' ⟨rfl, d, rfl⟩
  rw [← HQ.out]
  go_wp2_with fail
  refine (hlz _ _ (by omega) (by omega)).mono ?_
  rintro e w' ⟨rfl, rfl⟩
  rw [Int.toNat_natCast, HSI.out]
  go_wp2_with fail
  refine (shifted_any _ _ _ _ _ (hy.ext (Ext.drewN_self _ _)) hs31 (by omega)).mono ?_
  rintro e w1 ⟨fD, rfl, hDa, hDf, hext1⟩
  go_wp2_with fail
  refine (shifted_any _ _ _ _ _ ((hx.ext (Ext.drewN_self _ _)).ext hext1) hs31 (by omega)).mono ?_
  rintro e w2 ⟨fR, rfl, hRa, hRf, hext2⟩
  go_wp2_with (at_make; refine wpList_make32 _ rfl _ _ 24 rfl 96 Tryz.underlying24 (by kernel_rfl) _ _ rfl rfl (n - m + 1) (by omega) (by omega) (by omega) ?_; intro w3 harr hext3)
  have s1 := hDa.lt
  have s2 := hRa.lt
  have s3 := harr.lt
  have hDa3 := (hDa.ext hext2).ext hext3
  have hRa3 := hRa.ext hext3
  have hE : Ext w w3 := (((Ext.drewN_self _ d).trans hext1).trans hext2).trans hext3
  have HDF := Lib.hid hDf
  have s0 : w.heap.size < w1.heap.size := s1
  have s1' : w1.heap.size < w2.heap.size := s2
  obtain ⟨bD, hbD⟩ : ∃ bD, bD = w.heap.size := ⟨_, rfl⟩
  obtain ⟨bR, hbR⟩ : ∃ bR, bR = w1.heap.size := ⟨_, rfl⟩
  obtain ⟨bQ, hbQ⟩ : ∃ bQ, bQ = w2.heap.size := ⟨_, rfl⟩
  rw [show (w.drewN d).heap.size = w.heap.size from rfl] at hDa3
  rw [← hbD] at s0 hDa3
  rw [← hbR] at s0 s1' hRa3
  rw [← hbQ] at s1' harr
  have hcount : n - m + 1 = n - m + 1 := rfl
  go_loopw [62] (fun i wr => ∃ k : Nat, k ≤ n - m + 1 ∧ i = .int .i64 k ∧ RestI wr w1.heap.size (n + 1) 96 R D (n - m + 1 - k) ∧ ArrFrom wr w2.heap.size (n - m + 1) 96 (X / Y) (n - m + 1 - k) ∧ Arr wr w.heap.size (m + 1) 96 fD ∧ Ext w wr) (fun i _ => n - m + 1 - (intOf i).toNat)
  case atStart =>
    refine ⟨0, by omega, rfl, ⟨fR, by rw [← hbR]; exact hRa3, fun p hp => ?_⟩, ArrFrom.start (by rw [← hbQ]; exact harr), by rw [← hbD]; exact hDa3, hE⟩
    rw [hRf p hp, Nat.sub_zero, rst_full (by rw [HQUO.out]; exact HQL.out), HR.out]
  case round =>
    obtain ⟨k, hk, rfl, hrest, hq, hdv, hext⟩ := hrel
    by_cases hlt : k < n - m + 1
    · obtain ⟨j, hj⟩ : ∃ j, n - m + 1 - k = j + 1 := ⟨n - m - k, by omega⟩
      rw [hj] at hrest hq
      obtain ⟨f, hfa, hff⟩ := hrest
      have ej : n - m - k = j := by omega
      have EJ := Lib.hid ej
      have HJ := Lib.hid hj
      obtain ⟨u, hcu⟩ := hq.cell (j := j) (by omega)
      have hjn : j + m + 1 ≤ n + 1 := by omega
      clear ej hj
      go_wp2_with fail
      rw [EJ.out, show j + m + 1 - j = m + 1 by omega]
      have hpre : DigitPre wr w1.heap.size (n + 1) j m (rst R D (j + 1) / pw j) D w.heap.size 0 96 f :=
        ⟨hfa, hjn, win_pre hm hD0 HDL.out HDT.out, fun p hp => by rw [hff _ (by omega), dgt_div], by omega,
          fun p hp => by rw [Nat.zero_add, hdv.cell (by omega), HDF.out p (by omega), HD.out]⟩
      refine (divideDigit_any _ _ _ _ _ _ _ _ _ _ _ _ _ hpre (by omega)).mono ?_
      rintro e w4 ⟨f', rfl, hfa', hout, hin, hupd⟩
      rw [rst_quo hD0, HQUO.out]
      have hq4 := hq.upd hupd (by omega)
      obtain ⟨u', hcu'⟩ := hq4.cell (j := n - m - k) (by omega)
      have hfr' := hq4.frozen (n - m - k)
      have hrest' := RestI.next hff hfa' hout hin hD0 HDL.out
      have hdv' := hdv.upd hupd (by omega)
      have hext' := hupd.ext_of hext (by omega)
      have hbq := dgt_lt (X / Y) j
      have hne : w1.heap.size ≠ w2.heap.size := by omega
      go_wp2
      go_roundw
      case rel =>
        have ej2 : n - m + 1 - (k + 1) = j := by have := EJ.out; omega
        refine ⟨k + 1, by omega, by go_num, ?_, ?_, hdv'.other (by simp; omega) _, hext'.set (by simp; omega) _⟩
        · rw [ej2]; exact hrest'.other hne _
        · rw [ej2, EJ.out]; exact hq4.step rfl
      case measure => simp [intOf]; omega
    · obtain rfl : k = n - m + 1 := by omega
      rw [Nat.sub_self] at hrest hq
      have hqd := hq.dig (by omega) HQL.out
      obtain ⟨f, hfa, hff⟩ := hrest
      have hrd : Dig wr (.slice (some ⟨w1.heap.size, 0, none⟩) m (n + 1)) m (R % D) :=
        Dig.digits hfa (by omega) (by omega) (by omega) (Nat.lt_trans (Nat.mod_lt _ hD0) HDL.out) (fun p hp => by rw [hff p (by omega), rst_zero])
      clear hdv hff hfa
      go_wp2_with fail
      have hqd1 := hqd.ext (Ext.drewN_self _ 1)
      go_region_with (first | (go_at_call 69; refine (trim_any _ _ _ _ _ (by exact hqd1)).mono ?_; rintro e w' ⟨vq, nq, rfl, hdq, htq, rfl⟩) | (go_at_call 84; refine (unshifted_any _ _ _ _ _ (hrd.ext (Ext.drewN_self _ 1)) hs31 (by omega)).mono ?_; rintro e w5 ⟨fU, rfl, hUa, hUf, hext5⟩; have hud := hUa.dig (V := R % D / 2 ^ s) (by omega) (Nat.lt_of_le_of_lt (Nat.div_le_self _ _) (Nat.lt_trans (Nat.mod_lt _ hD0) HDL.out)) hUf) | (go_at_call 69; refine (trim_any _ _ _ _ _ (by exact hud)).mono ?_; rintro e w' ⟨vr, nr, rfl, hdr, htr, rfl⟩))
      all_goals
        go_wp2
        go_ret2
        exact ⟨vq, vr, nq, nr, rfl, hdq.ext hext5, htq, by rw [← HREM.out]; exact hdr, by rw [← HREM.out]; exact htr, (hext.trans (Ext.drewN_self _ 1)).trans hext5⟩

theorem divide_any (hlz : ∀ (x : Int) (w : World), 0 ≤ x → x ≤ 4294967295 → Calls Tryz.prog 81 #[.int .u32 x] w fun e w' => e = .returned (.int .i64 (32 - (Lib.bitLen x.toNat : Int))) ∧ w' = w)
    (x y : Value) (n m X Y : Nat) (w : World) (hx : Dig w x n X) (hy : Dig w y m Y) (tx : Trm n X) (ty : Trm m Y) (hY : 0 < Y) (hb : n + 1 ≤ 4398046511104) :
    Calls Tryz.prog 68 #[x, y] w (Div2Post w X Y) := by
  rcases Nat.lt_or_ge X Y with h | h
  · exact divide_lt x y n m X Y w hx hy tx ty h
  · rcases Nat.lt_or_ge m 2 with hm | hm
    · rcases Nat.eq_zero_or_pos m with h0 | h0
      · obtain ⟨A2, c2, _, _, _, hY2, _⟩ := hy
        subst h0; rw [pw_zero] at hY2; omega
      · obtain rfl : m = 1 := by omega
        exact divide_one x y n X Y w hx hy tx ty h hY hb
    · exact divide_many hlz x y n m X Y w hx hy tx ty h hm hb

end Go.Proofs.YtginogcdjplhiaaGreatDoor.Big

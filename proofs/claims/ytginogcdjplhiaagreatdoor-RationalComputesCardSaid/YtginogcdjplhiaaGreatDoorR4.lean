/- The reference's numbers: Text walked. -/
import Derived.Test.YtginogcdjplhiaaGreatDoorR3
set_option linter.unusedVariables false
set_option linter.unusedSimpArgs false
namespace Go.Proofs.YtginogcdjplhiaaGreatDoor.Ten
open Go.RowKit Go.Proofs.YtginogcdjplhiaaGreatDoor.Big
open Go.Lib (decDigits decDigits_one itoa)

theorem pad_cons : ∀ (k r : Nat), pad (k + 1) r = UInt8.ofNat (48 + r / 10 ^ k % 10) :: pad k r := by
  intro k
  induction k with
  | zero => intro r; simp [pad]
  | succ k ih =>
    intro r
    rw [pad, ih (r / 10), List.cons_append, Nat.div_div_eq_div_mul, ← Nat.pow_succ', pad]
theorem pad_full {n V : Nat} (hn : 0 < n) (h1 : pt (n - 1) ≤ V) (h2 : V < pt n) : pad n V = decDigits V := by
  obtain ⟨k, rfl⟩ : ∃ k, n = k + 1 := ⟨n - 1, by omega⟩
  rw [pt_ten] at h1 h2
  rw [show k + 1 - 1 = k by omega] at h1
  have hp : 0 < 10 ^ k := Nat.pow_pos (by omega)
  have hq1 : 1 ≤ V / 10 ^ k := (Nat.one_le_div_iff hp).2 h1
  have hq9 : V / 10 ^ k < 10 := Nat.div_lt_of_lt_mul (by rw [← Nat.pow_succ]; exact h2)
  have hV : V / 10 ^ k * 10 ^ k + V % 10 ^ k = V := by rw [Nat.mul_comm]; exact Nat.div_add_mod V (10 ^ k)
  have h3 := decDigits_pad hq1 k (V % 10 ^ k) (Nat.mod_lt _ hp)
  rw [hV, decDigits_one hq9] at h3
  rw [h3, pad_cons, Nat.mod_eq_of_lt hq9]
  have hm : ∀ k r, pad k r = pad k (r % 10 ^ k) := by
    intro k
    induction k with
    | zero => intro r; rfl
    | succ k ih =>
      intro r
      rw [pad_cons, pad_cons, ih r, ih (r % 10 ^ (k + 1))]
      have e1 : r % 10 ^ (k + 1) % 10 ^ k = r % 10 ^ k := by rw [Nat.pow_succ]; exact Nat.mod_mul_right_mod _ _ _
      have e2 : r % 10 ^ (k + 1) / 10 ^ k % 10 = r / 10 ^ k % 10 := by rw [Nat.pow_succ, Nat.mod_mul_right_div_self, Nat.mod_mod]
      rw [e1, e2]
  rw [hm k V]; rfl
/-- the text of the first i digits -/
def padS (V i : Nat) : ByteArray := ⟨(pad i V).toArray⟩
theorem pad_len : ∀ k r, (pad k r).length = k := by
  intro k
  induction k with
  | zero => intro r; rfl
  | succ k ih => intro r; simp [pad, ih]
theorem padS_size (V i : Nat) : (padS V i).size = i := by
  have := pad_len i V
  simp [padS, ByteArray.size, this]
theorem padS_succ (V i : Nat) : padS V (i + 1) = ⟨#[UInt8.ofNat (48 + dg V i)]⟩ ++ padS V i := by
  unfold padS
  rw [pad_cons]
  apply ByteArray.ext
  simp [dg, pt_ten]

set_option maxRecDepth 100000 in
set_option maxHeartbeats 2000000 in
theorem Text_any (x : Value) (z : Int) (L : Nat) (w : World) (hx : NumV w x z) (bx : z.natAbs < pt L) (hL : L ≤ 1000000000000) : Calls Tryz.prog 24 #[x] w (StrPost w (itoa z)) := by
  obtain ⟨A, n, c, rfl, h1, h2⟩ := hx
  have l1 := h2.le bx
  by_cases hz : z = 0
  · subst hz
    have hi : itoa 0 = [48] := by unfold itoa; simp; rw [decDigits_one (by omega)]; rfl
    rw [hi]
    go_enter Tryz.func24, Tryz.ntmps24
    go_wp2_with fail
    go_ret
    exact ⟨rfl, (Ext.refl w).alloc _⟩
  have hn0 : 0 < n := (h2.pos_iff h1.inj.2.2.2.1).2 (by omega)
  have hfull : pad n z.natAbs = decDigits z.natAbs := pad_full hn0 (by rcases h2 with h | h; omega; exact h) h1.inj.2.2.2.1
  have hsb := sign_beq hz
  obtain ⟨s, hs⟩ : ∃ s, s = z.sign := ⟨_, rfl⟩
  rw [← hs] at hsb ⊢
  have HF := Lib.hid hfull
  have HZ := Lib.hid hz
  have HS := Lib.hid hs
  clear hfull hz hs
  go_enter Tryz.func24, Tryz.ntmps24
  go_wp2_with fail
  have B0 := Box.new w 33 #[.int .i64 s, .slice A n c]
  have hE0 : Ext w (w.alloc (.cells #[.int .i64 s, .slice A n c] 33)) := (Ext.refl w).alloc _
  have h1 := h1.ext hE0
  generalize w.alloc (.cells #[.int .i64 s, .slice A n c] 33) = W0 at *
  obtain ⟨b, off, cs, fz, rfl, -, hcell⟩ := h1.inj.2.2.2.2 hn0
  have q1 := B0.c1
  have q0 := B0.c0
  have HC := Lib.hid hcell
  clear hcell
  go_loop [3, 4, 5] (fun t i d => ∃ k : Nat, k ≤ n ∧ i = .int .i64 k ∧ t = .string (padS z.natAbs k)) (fun _ i _ => n - (intOf i).toNat)
  case atStart => exact ⟨0, by omega, rfl, rfl⟩
  case round =>
    obtain ⟨k, hk, rfl, rfl⟩ := hrel
    by_cases hlt : k < n
    · have hc := HC.out k hlt
      have hd := dg_lt z.natAbs k
      obtain ⟨T, hT⟩ : ∃ T, T = padS z.natAbs k := ⟨_, rfl⟩
      rw [← hT]
      obtain ⟨d, hdd⟩ : ∃ d, d = dg z.natAbs k := ⟨_, rfl⟩
      rw [← hdd] at hc hd
      have HT := Lib.hid hT
      have HD := Lib.hid hdd
      clear hdd
      have e1 : (⟨#[48, 49, 50, 51, 52, 53, 54, 55, 56, 57]⟩ : ByteArray).extract d (d + 1) = ⟨#[UInt8.ofNat (48 + d)]⟩ := by
        match d, hd with
        | 0, _ => rfl
        | 1, _ => rfl
        | 2, _ => rfl
        | 3, _ => rfl
        | 4, _ => rfl
        | 5, _ => rfl
        | 6, _ => rfl
        | 7, _ => rfl
        | 8, _ => rfl
        | 9, _ => rfl
        | n + 10, h => omega
      have hTs : T.size ≤ 1000000000000 := by rw [hT, padS_size]; omega
      have E1 := Lib.hid e1
      clear hT e1
      have e2 : ((⟨#[48, 49, 50, 51, 52, 53, 54, 55, 56, 57]⟩ : ByteArray).extract d (d + 1)).size = 1 := by rw [E1.out]; rfl
      go_wp2_with fail
      go_round
      case rel => exact ⟨k + 1, by omega, by go_num, by rw [padS_succ, ← HT.out, ← HD.out, ← E1.out]⟩
      case measure => simp [intOf]; omega
    · obtain rfl : k = n := by omega
      by_cases hneg : z < 0
      · have hs1 : s = -1 := by rw [HS.out]; exact Int.sign_eq_neg_one_of_neg hneg
        have hfin : (⟨#[45]⟩ : ByteArray) ++ padS z.natAbs k = ⟨(itoa z).toArray⟩ := by
          unfold padS itoa
          rw [HF.out, if_pos hneg]
          apply ByteArray.ext
          simp
        have HFIN := Lib.hid hfin
        have hTs : (padS z.natAbs k).size ≤ 1000000000000 := by rw [padS_size]; omega
        clear hneg hfin
        go_wp2_with fail
        go_ret
        exact ⟨by rw [← HFIN.out]; rfl, hE0⟩
      · have hs1 : s = 1 := by rw [HS.out]; exact Int.sign_eq_one_of_pos (by have := HZ.out; omega)
        have hfin : padS z.natAbs k = ⟨(itoa z).toArray⟩ := by
          unfold padS itoa
          rw [HF.out, if_neg hneg, show z.toNat = z.natAbs by omega]
        have HFIN := Lib.hid hfin
        clear hneg hfin
        go_wp2_with fail
        go_ret
        exact ⟨by rw [← HFIN.out]; rfl, hE0⟩
end Go.Proofs.YtginogcdjplhiaaGreatDoor.Ten

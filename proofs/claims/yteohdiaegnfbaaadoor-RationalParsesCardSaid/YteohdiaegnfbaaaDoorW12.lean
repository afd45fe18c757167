/- Walks: Int. -/
import Derived.Test.YteohdiaegnfbaaaDoorW11
set_option linter.unusedVariables false
set_option linter.unusedSimpArgs false
namespace Go.Proofs.YteohdiaegnfbaaaDoor.Big
open Go.RowKit

def fits (X : Int) : Bool := decide (-9223372036854775808 ≤ X) && decide (X ≤ 9223372036854775807)
def IntOPost (w : World) (X : Int) (e : Ending) (w' : World) : Prop := e = .returned (.tuple #[.int .i64 (if fits X = true then X else 0), .bool (fits X)]) ∧ Ext w w'
theorem pw_two_eq : pw 2 = 18446744073709551616 := rfl

theorem or_high (a d : Nat) (k : Nat) (hk : k < 2) (ha : a < pw k) (hd : d < 4294967296) :
    bits .or .u64 (a : Int) (IntKind.u64.wrap ((d : Int) * 2 ^ (32 * k))) = ((a + pw k * d : Nat) : Int) := by
  have hp : pw k = 2 ^ (32 * k) := pw_two k
  have hk2 : pw k ≤ 4294967296 := by rw [← pw_one]; exact pw_mono (by omega)
  have hk0 := pw_pos k
  have h1 : pw k * d ≤ 4294967296 * 4294967295 := Nat.mul_le_mul hk2 (by omega)
  have e : ((d : Int) * 2 ^ (32 * k)) = ((pw k * d : Nat) : Int) := by rw [hp]; simp [Int.mul_comm]
  rw [e, IntWalk.u64_in _ ⟨by omega, by omega⟩]
  have hc : bits .or .u64 (a : Int) ((pw k * d : Nat) : Int) = bits .or .u64 ((pw k * d : Nat) : Int) (a : Int) := by simp only [bits, BitVec.or_comm]
  rw [hc, bits_join .u64 64 (by decide) (fun n h0 h1 => IntWalk.u64_in n ⟨h0, by omega⟩) (32 * k) _ _ (by omega) (by rw [hp]; simp) (by omega) (by omega) (by rw [hp] at ha; exact_mod_cast ha) (by omega)]
  omega

set_option maxHeartbeats 1000000 in
theorem Int_any (x : Value) (X : Int) (L : Nat) (w : World) (hx : BigV w x X) (bx : X.natAbs < pw L) (hL : L ≤ 1099511627776) : Calls Tryd.prog 44 #[x] w (IntOPost w X) := by
  obtain ⟨A, n, c, rfl, hd, ht⟩ := hx.form
  obtain ⟨-, h1, h2, hV, hc⟩ := hd.inj
  have hl := ht.le bx
  by_cases h0 : 2 < n
  · have hf : fits X = false := by
      have : pw 2 ≤ X.natAbs := by
        rcases ht with h | h
        · omega
        · exact Nat.le_trans (pw_mono (by omega)) h
      rw [pw_two_eq] at this
      unfold fits; simp; omega
    have HF := Lib.hid hf
    clear hf
    go_enter Tryd.func44, Tryd.ntmps44
    go_wp2_with fail
    go_ret2
    exact ⟨by rw [HF.out]; rfl, (Ext.refl w).alloc _⟩
  · go_enter Tryd.func44, Tryd.ntmps44
    go_wp2_with fail
    go_loop [4, 13] (fun a i => ∃ k r : Nat, k ≤ n ∧ i = .int .i64 k ∧ a = .int .u64 r ∧ Hid (r = X.natAbs % pw k)) (fun _ i => n - (intOf i).toNat)
    case atStart => exact ⟨0, 0, by omega, rfl, rfl, Lib.hid (by simp [pw_zero, Nat.mod_one])⟩
    case round =>
      obtain ⟨k, r, hk, rfl, rfl, HR⟩ := hrel
      by_cases hlt : k < n
      · obtain ⟨b, off, rfl, hcc⟩ := hc (by omega)
        have hcz := hcc k hlt
        have hcb : b < w.heap.size := World.block_lt_of_cell? _ _ hcz
        have hbk := dgt_lt X.natAbs k
        have hor := or_high r (dgt X.natAbs k) k (by omega) (by rw [HR.out]; exact mod_le _ _) hbk
        have HO := Lib.hid hor
        have hk2 : k ≤ 1 := by omega
        clear hor hcc hc
        go_wp2_with fail
        go_round
        case rel => exact ⟨k + 1, r + pw k * dgt X.natAbs k, by omega, by go_num, ret_int HO.out, Lib.hid (by rw [mod_succ, HR.out])⟩
        case measure => simp [intOf]; omega
      · obtain rfl : k = n := by omega
        have hr : r = X.natAbs := by rw [HR.out]; exact mod_self hV
        have HX := Lib.hid hr
        clear HR hc hV
        by_cases hn : X < 0
        · have e1 : decide (X < 0) = true := by simpa using hn
          by_cases hb : 9223372036854775808 < r
          · have e2 : decide ((9223372036854775808 : Int) < (r : Int)) = true := by simp; omega
            have HF : Hid (fits X = false) := Lib.hid (by unfold fits; simp; omega)
            clear hb hr hn
            go_wp2_with fail
            go_ret2
            exact ⟨by rw [HF.out]; rfl, (Ext.refl w).alloc _⟩
          · have e2 : decide ((9223372036854775808 : Int) < (r : Int)) = false := by simp; omega
            have HF : Hid (fits X = true) := Lib.hid (by unfold fits; simp; omega)
            have HW : Hid (wrap64 (IntKind.u64.wrap (-(r : Int))) = X) := Lib.hid (by rw [IntKind.wrap_u64]; unfold wrap64; omega)
            clear hb hr hn
            go_wp2_with fail
            go_ret2
            refine ⟨?_, (Ext.refl w).alloc _⟩
            show Ending.returned (.tuple #[.int .i64 (wrap64 (IntKind.u64.wrap (-(r : Int)))), .bool true]) = _
            rw [HF.out, if_pos rfl, HW.out]
        · have e1 : decide (X < 0) = false := by simpa using hn
          by_cases hb : 9223372036854775808 ≤ r
          · have e2 : decide ((9223372036854775808 : Int) ≤ (r : Int)) = true := by simp; omega
            have HF : Hid (fits X = false) := Lib.hid (by unfold fits; simp; omega)
            clear hb hr hn
            go_wp2_with fail
            go_ret2
            exact ⟨by rw [HF.out]; rfl, (Ext.refl w).alloc _⟩
          · have e2 : decide ((9223372036854775808 : Int) ≤ (r : Int)) = false := by simp; omega
            have HF : Hid (fits X = true) := Lib.hid (by unfold fits; simp; omega)
            have HW : Hid ((r : Int) = X) := Lib.hid (by omega)
            clear hr hn
            go_wp2_with fail
            go_ret2
            refine ⟨?_, (Ext.refl w).alloc _⟩
            show Ending.returned (.tuple #[.int .i64 (r : Int), .bool true]) = _
            rw [HF.out, if_pos rfl, HW.out]

end Go.Proofs.YteohdiaegnfbaaaDoor.Big

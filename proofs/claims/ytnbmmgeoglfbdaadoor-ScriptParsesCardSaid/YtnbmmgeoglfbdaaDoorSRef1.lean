/- Walks: valid commands of the reference. -/
import Derived.Test.YtnbmmgeoglfbdaaDoorSR11
import Derived.Test.YtnbmmgeoglfbdaaDoorSRP2
set_option linter.unusedVariables false
set_option linter.unusedSimpArgs false
namespace Go.Proofs.YtnbmmgeoglfbdaaDoor.Sc
open Go.RowKit Go.Proofs.YtnbmmgeoglfbdaaDoor.Big

theorem named_any (k : Nat) (w : World) (hk : k ≤ 255) : Calls Tryd.prog 34 #[.int .u8 (k : Int)] w (Same w (.bool (namedB k))) := by
  obtain ⟨B, hB⟩ : ∃ B, B = namedB k := ⟨_, rfl⟩
  rw [← hB]
  have HB := Lib.hid hB
  clear hB
  by_cases h6 : k = 6
  · subst h6
    go_enter Tryd.func34, Tryd.ntmps34
    go_wp2_with fail
    go_ret
    exact ⟨by rw [HB.out]; rfl, rfl⟩
  · have e1 : ((k : Int) == 6) = false := by simp; omega
    have HC : Hid (((k : Int) == 11) = B) := Lib.hid (by
      rw [HB.out]; unfold namedB
      have : (k == 6) = false := by simpa using h6
      rw [this, Bool.false_or]
      by_cases e : k = 11
      · subst e; rfl
      · have a : (k == 11) = false := by simpa using e
        rw [a]; simp; omega)
    go_enter Tryd.func34, Tryd.ntmps34
    go_wp2_with fail
    go_ret
    exact ⟨by rw [HC.out]; rfl, rfl⟩
theorem texted_any (k : Nat) (w : World) (hk : k ≤ 255) : Calls Tryd.prog 35 #[.int .u8 (k : Int)] w (Same w (.bool (k == 1))) := by
  have HC : Hid (((k : Int) == 1) = (k == 1)) := Lib.hid (by
    by_cases e : k = 1
    · subst e; rfl
    · have a : (k == 1) = false := by simpa using e
      rw [a]; simp; omega)
  go_enter Tryd.func35, Tryd.ntmps35
  go_wp2_with fail
  go_ret
  exact ⟨by rw [HC.out]; rfl, rfl⟩
theorem counts_any (k n : Nat) (w : World) (hk : k ≤ 255) (hn : n ≤ 9223372036854775807) : Calls Tryd.prog 49 #[.int .u8 (k : Int), .int .i64 (n : Int)] w (Same w (.bool (cntB k n))) := by
  obtain ⟨B, hB⟩ : ∃ B, B = cntB k n := ⟨_, rfl⟩
  rw [← hB]
  have HB := Lib.hid hB
  clear hB
  have key : ∀ m : Nat, ((n : Int) == (m : Int)) = (n == m) := fun m => by
    by_cases e : n = m
    · subst e; simp
    · have a : (n == m) = false := by simpa using e
      rw [a]; simp; omega
  have HK := Lib.hid key
  clear key
  by_cases h2 : k = 2
  · subst h2
    go_enter Tryd.func49, Tryd.ntmps49
    go_wp2_with fail
    go_ret
    exact ⟨by rw [HB.out]; exact congrArg (fun b => Ending.returned (.bool b)) (HK.out 15), rfl⟩
  · by_cases h6 : k = 6
    · subst h6
      have HC : Hid (decide ((n : Int) ≤ 1000) = B) := Lib.hid (by rw [HB.out]; unfold cntB; rw [if_neg (by omega), if_pos rfl]; congr 1; simp; omega)
      go_enter Tryd.func49, Tryd.ntmps49
      go_wp2_with fail
      go_ret
      exact ⟨by rw [HC.out]; rfl, rfl⟩
    · by_cases h7 : k = 7
      · subst h7
        go_enter Tryd.func49, Tryd.ntmps49
        go_wp2_with fail
        go_ret
        exact ⟨by rw [HB.out]; exact congrArg (fun b => Ending.returned (.bool b)) (HK.out 3), rfl⟩
      · by_cases h8 : k = 8
        · subst h8
          go_enter Tryd.func49, Tryd.ntmps49
          go_wp2_with fail
          go_ret
          exact ⟨by rw [HB.out]; exact congrArg (fun b => Ending.returned (.bool b)) (HK.out 1), rfl⟩
        · have HC : Hid (B = (n == 0)) := Lib.hid (by rw [HB.out]; unfold cntB; rw [if_neg h2, if_neg h6, if_neg h7, if_neg h8])
          have e2 : ((k : Int) == 2) = false := by simp; omega
          have e6 : ((k : Int) == 6) = false := by simp; omega
          have e7 : ((k : Int) == 7) = false := by simp; omega
          have e8 : ((k : Int) == 8) = false := by simp; omega
          go_enter Tryd.func49, Tryd.ntmps49
          go_wp2_with fail
          go_ret
          exact ⟨by rw [HC.out]; exact congrArg (fun b => Ending.returned (.bool b)) (HK.out 0), rfl⟩
theorem text_any (t : BL) (w : World) (ht : t.length ≤ 9223372036854775807) : Calls Tryd.prog 52 #[.string (str t)] w (Same w (.bool (endB t))) := by
  by_cases ht0 : t = []
  · subst ht0
    rw [show str [] = (⟨#[]⟩ : ByteArray) from rfl]
    go_enter Tryd.func52, Tryd.ntmps52
    go_wp2_with fail
    go_ret
    exact ⟨rfl, rfl⟩
  · have e1 : ((str t).toList == []) = false := by rw [Lib.toList_data, str_list]; simpa using ht0
    have e2 : (str t).toList ≠ [] := by rw [Lib.toList_data, str_list]; exact ht0
    have hpos : 0 < t.length := by cases t; exact absurd rfl ht0; simp
    have hs : (str t).size = t.length := rfl
    have hlt : t.length - 1 < (str t).size := by omega
    obtain ⟨c, hc⟩ : ∃ c, c = (str t)[t.length - 1]'hlt := ⟨_, rfl⟩
    have HE : Hid (endB t = ((c.toNat : Int) == 10)) := Lib.hid (by
      have h1 : t.getLast? = some c := by
        rw [List.getLast?_eq_getElem?, hc]
        have : (str t).data[t.length - 1]'hlt = t[t.length - 1]'(by omega) := by simp [str]
        rw [List.getElem?_eq_getElem (by omega), ← this]; rfl
      unfold endB
      rw [h1, show t.isEmpty = false by cases t; exact absurd rfl ht0; rfl, Bool.false_or]
      by_cases e : c = 10
      · subst e; rfl
      · have : ¬ c.toNat = 10 := fun h => e (UInt8.toNat_inj.1 (by simpa using h))
        have h2 : ((c.toNat : Int) == 10) = false := by simp; omega
        rw [h2]; simpa using e)
    have HC := Lib.hid hc
    clear hc
    go_enter Tryd.func52, Tryd.ntmps52
    go_wp2_with fail
    go_ret
    exact ⟨by rw [HE.out, HC.out]; rfl, rfl⟩
end Go.Proofs.YtnbmmgeoglfbdaaDoor.Sc

/- Walks: the lexer's names. -/
import Derived.Test.YtnbmmgeoglfbdaaDoorSP2
import Derived.Test.YtnbmmgeoglfbdaaDoorShelf
import Derived.Deep.LoopGhost
set_option linter.unusedVariables false
set_option linter.unusedSimpArgs false
namespace Go.Proofs.YtnbmmgeoglfbdaaDoor.Sc
open Go.RowKit Go.Proofs.YtnbmmgeoglfbdaaDoor.Big

def Same (w : World) (v : Value) (e : Ending) (w' : World) : Prop := e = .returned v ∧ w = w'
theorem isLetter_any (c : UInt8) (w : World) : Calls Tryd.prog 69 #[.int .u8 (c.toNat : Int)] w (Same w (.bool (isLet c))) := by
  obtain ⟨n, hn⟩ : ∃ n : Nat, n = c.toNat := ⟨_, rfl⟩
  have HB : Hid (isLet c = (decide (97 ≤ n) && decide (n ≤ 122))) := Lib.hid (by rw [hn]; rfl)
  rw [← hn]
  clear hn
  rcases Nat.lt_or_ge n 97 with h | h
  · go_enter Tryd.func69, Tryd.ntmps69
    go_wp2_with fail
    go_ret
    exact ⟨by rw [HB.out]; simp; omega, rfl⟩
  · rcases Nat.lt_or_ge 122 n with h2 | h2
    · have e2 : decide ((n : Int) ≤ 122) = false := by simp; omega
      go_enter Tryd.func69, Tryd.ntmps69
      go_wp2_with fail
      go_ret
      exact ⟨by rw [HB.out]; simp; omega, rfl⟩
    · have e2 : decide ((n : Int) ≤ 122) = true := by simp; omega
      go_enter Tryd.func69, Tryd.ntmps69
      go_wp2_with fail
      go_ret
      exact ⟨by rw [HB.out]; simp; omega, rfl⟩
theorem isDigit_any (c : UInt8) (w : World) : Calls Tryd.prog 71 #[.int .u8 (c.toNat : Int)] w (Same w (.bool (isDig c))) := by
  obtain ⟨n, hn⟩ : ∃ n : Nat, n = c.toNat := ⟨_, rfl⟩
  have HB : Hid (isDig c = (decide (48 ≤ n) && decide (n ≤ 57))) := Lib.hid (by rw [hn]; rfl)
  rw [← hn]
  clear hn
  rcases Nat.lt_or_ge n 48 with h | h
  · go_enter Tryd.func71, Tryd.ntmps71
    go_wp2_with fail
    go_ret
    exact ⟨by rw [HB.out]; simp; omega, rfl⟩
  · rcases Nat.lt_or_ge 57 n with h2 | h2
    · have e2 : decide ((n : Int) ≤ 57) = false := by simp; omega
      go_enter Tryd.func71, Tryd.ntmps71
      go_wp2_with fail
      go_ret
      exact ⟨by rw [HB.out]; simp; omega, rfl⟩
    · have e2 : decide ((n : Int) ≤ 57) = true := by simp; omega
      go_enter Tryd.func71, Tryd.ntmps71
      go_wp2_with fail
      go_ret
      exact ⟨by rw [HB.out]; simp; omega, rfl⟩
theorem isInner_any (c : UInt8) (w : World) : Calls Tryd.prog 70 #[.int .u8 (c.toNat : Int)] w (Same w (.bool (isInn c))) := by
  obtain ⟨a, ha⟩ : ∃ a, a = isLet c := ⟨_, rfl⟩
  obtain ⟨b, hb⟩ : ∃ b, b = isDig c := ⟨_, rfl⟩
  have HB : Hid (isInn c = (a || b)) := Lib.hid (by rw [ha, hb]; rfl)
  have HA := Lib.hid ha
  have HBB := Lib.hid hb
  clear ha hb
  cases a
  · go_enter Tryd.func70, Tryd.ntmps70
    go_wp2_with fail
    refine (isLetter_any c _).mono ?_
    rintro e w' ⟨rfl, rfl⟩
    rw [← HA.out]
    go_wp2_with fail
    refine (isDigit_any c _).mono ?_
    rintro e w' ⟨rfl, rfl⟩
    rw [← HBB.out]
    go_wp2_with fail
    go_ret
    exact ⟨by rw [HB.out]; simp, rfl⟩
  · go_enter Tryd.func70, Tryd.ntmps70
    go_wp2_with fail
    refine (isLetter_any c _).mono ?_
    rintro e w' ⟨rfl, rfl⟩
    rw [← HA.out]
    go_wp2_with fail
    go_ret
    exact ⟨by rw [HB.out]; simp, rfl⟩
/-- some bool -/
def SomeB (w : World) (e : Ending) (w' : World) : Prop := ∃ b, e = .returned (.bool b) ∧ w = w'
theorem isSpace_any (c : UInt8) (w : World) : Calls Tryd.prog 72 #[.int .u8 (c.toNat : Int)] w (SomeB w) := by
  obtain ⟨n, hn⟩ : ∃ n : Nat, n = c.toNat := ⟨_, rfl⟩
  rw [← hn]
  clear hn
  by_cases h1 : n = 32
  · subst h1
    go_enter Tryd.func72, Tryd.ntmps72
    go_wp2_with fail
    go_ret
    exact ⟨_, rfl, rfl⟩
  have e1 : ((n : Int) == 32) = false := by simp; omega
  by_cases h2 : n = 9
  · subst h2
    clear e1
    go_enter Tryd.func72, Tryd.ntmps72
    go_wp2_with fail
    go_ret
    exact ⟨_, rfl, rfl⟩
  have e2 : ((n : Int) == 9) = false := by simp; omega
  by_cases h3 : n = 13
  · subst h3
    clear e1 e2
    go_enter Tryd.func72, Tryd.ntmps72
    go_wp2_with fail
    go_ret
    exact ⟨_, rfl, rfl⟩
  have e3 : ((n : Int) == 13) = false := by simp; omega
  by_cases h4 : n = 10
  · subst h4
    clear e1 e2 e3
    go_enter Tryd.func72, Tryd.ntmps72
    go_wp2_with fail
    go_ret
    exact ⟨_, rfl, rfl⟩
  have e4 : ((n : Int) == 10) = false := by simp; omega
  go_enter Tryd.func72, Tryd.ntmps72
  go_wp2_with fail
  go_ret
  exact ⟨_, rfl, rfl⟩
theorem notFeed_any (c : UInt8) (w : World) : Calls Tryd.prog 73 #[.int .u8 (c.toNat : Int)] w (SomeB w) := by
  go_enter Tryd.func73, Tryd.ntmps73
  go_wp2_with fail
  go_ret
  exact ⟨_, rfl, rfl⟩
theorem isDigit_some (c : UInt8) (w : World) : Calls Tryd.prog 71 #[.int .u8 (c.toNat : Int)] w (SomeB w) := (isDigit_any c w).mono fun _ _ h => ⟨_, h.1, h.2⟩
theorem Same.some {w : World} {b : Bool} {e : Ending} {w' : World} (h : Same w (.bool b) e w') : SomeB w e w' := ⟨b, h.1, h.2⟩

def SomeI (w : World) (e : Ending) (w' : World) : Prop := ∃ n : Int, e = .returned (.int .i64 n) ∧ w = w'
set_option maxHeartbeats 1000000 in
set_option maxRecDepth 100000 in
theorem count_digit (s : ByteArray) (b : Nat) (w : World) (hs : 1 ≤ s.size) (hs2 : s.size ≤ 1000000) (hc : w.cell? ⟨b, 0, none⟩ = some (.string s)) :
    Calls Tryd.prog 68 #[.func (.func 71) #[] #[], .pointer (some ⟨b, 0, none⟩)] w (SomeI w) := by
  go_enter Tryd.func68, Tryd.ntmps68
  go_wp2_with fail
  go_loop [4] (fun i => ∃ k : Nat, k ≤ s.size ∧ i = .int .i64 k) (fun i => s.size - (intOf i).toNat)
  case atStart => exact ⟨1, hs, rfl⟩
  case round =>
    obtain ⟨k, hk, rfl⟩ := hrel
    by_cases hlt : k < s.size
    · go_wp2_with fail
      refine (isDigit_some _ _).mono ?_
      rintro e w' ⟨d, rfl, rfl⟩
      cases d
      · go_wp2_with fail
        go_ret
        exact ⟨_, rfl, rfl⟩
      · go_wp2_with fail
        go_round
        case rel => exact ⟨k + 1, by omega, by go_num⟩
        case measure => simp [intOf]; omega
    · go_wp2_with fail
      go_ret
      exact ⟨_, rfl, rfl⟩
set_option maxHeartbeats 1000000 in
set_option maxRecDepth 100000 in
theorem count_space (s : ByteArray) (b : Nat) (w : World) (hs : 1 ≤ s.size) (hs2 : s.size ≤ 1000000) (hc : w.cell? ⟨b, 0, none⟩ = some (.string s)) :
    Calls Tryd.prog 68 #[.func (.func 72) #[] #[], .pointer (some ⟨b, 0, none⟩)] w (SomeI w) := by
  go_enter Tryd.func68, Tryd.ntmps68
  go_wp2_with fail
  go_loop [4] (fun i => ∃ k : Nat, k ≤ s.size ∧ i = .int .i64 k) (fun i => s.size - (intOf i).toNat)
  case atStart => exact ⟨1, hs, rfl⟩
  case round =>
    obtain ⟨k, hk, rfl⟩ := hrel
    by_cases hlt : k < s.size
    · go_wp2_with fail
      refine (isSpace_any _ _).mono ?_
      rintro e w' ⟨d, rfl, rfl⟩
      cases d
      · go_wp2_with fail
        go_ret
        exact ⟨_, rfl, rfl⟩
      · go_wp2_with fail
        go_round
        case rel => exact ⟨k + 1, by omega, by go_num⟩
        case measure => simp [intOf]; omega
    · go_wp2_with fail
      go_ret
      exact ⟨_, rfl, rfl⟩
set_option maxHeartbeats 1000000 in
set_option maxRecDepth 100000 in
theorem count_line (s : ByteArray) (b : Nat) (w : World) (hs : 1 ≤ s.size) (hs2 : s.size ≤ 1000000) (hc : w.cell? ⟨b, 0, none⟩ = some (.string s)) :
    Calls Tryd.prog 68 #[.func (.func 73) #[] #[], .pointer (some ⟨b, 0, none⟩)] w (SomeI w) := by
  go_enter Tryd.func68, Tryd.ntmps68
  go_wp2_with fail
  go_loop [4] (fun i => ∃ k : Nat, k ≤ s.size ∧ i = .int .i64 k) (fun i => s.size - (intOf i).toNat)
  case atStart => exact ⟨1, hs, rfl⟩
  case round =>
    obtain ⟨k, hk, rfl⟩ := hrel
    by_cases hlt : k < s.size
    · go_wp2_with fail
      refine (notFeed_any _ _).mono ?_
      rintro e w' ⟨d, rfl, rfl⟩
      cases d
      · go_wp2_with fail
        go_ret
        exact ⟨_, rfl, rfl⟩
      · go_wp2_with fail
        go_round
        case rel => exact ⟨k + 1, by omega, by go_num⟩
        case measure => simp [intOf]; omega
    · go_wp2_with fail
      go_ret
      exact ⟨_, rfl, rfl⟩
theorem all_take {p : UInt8 → Bool} {l : BL} {k : Nat} (hk : k < l.length) : (l.take (k + 1)).all p = ((l.take k).all p && p l[k]) := by
  rw [List.take_succ_eq_append_getElem hk, List.all_append]; simp
theorem all_no {p : UInt8 → Bool} {l : BL} {k : Nat} (hk : k < l.length) (h : p l[k] = false) : l.all p = false := by
  rcases hd : l.all p with _ | _
  · rfl
  · rw [List.all_eq_true] at hd
    have := hd _ (List.getElem_mem hk)
    rw [h] at this; cases this
def WordLen (w : World) (l : BL) (e : Ending) (w' : World) : Prop := ∃ n : Nat, e = .returned (.int .i64 n) ∧ decide (n = l.length) = (l.drop 1).all isInn ∧ w = w'
set_option maxHeartbeats 1000000 in
set_option maxRecDepth 100000 in
theorem count_inner (s : ByteArray) (b : Nat) (w : World) (hs : 1 ≤ s.size) (hs2 : s.size ≤ 1000000) (hc : w.cell? ⟨b, 0, none⟩ = some (.string s)) :
    Calls Tryd.prog 68 #[.func (.func 70) #[] #[], .pointer (some ⟨b, 0, none⟩)] w (WordLen w s.data.toList) := by
  obtain ⟨l, hl⟩ : ∃ l, l = s.data.toList := ⟨_, rfl⟩
  have hll : l.length = s.size := by rw [hl]; simp
  have HLL := Lib.hid hll
  have HL := Lib.hid hl
  rw [← hl]
  clear hl hll
  go_enter Tryd.func68, Tryd.ntmps68
  go_wp2_with fail
  go_loop [4] (fun i => ∃ k : Nat, 1 ≤ k ∧ k ≤ s.size ∧ i = .int .i64 k ∧ Hid (((l.drop 1).take (k - 1)).all isInn = true)) (fun i => s.size - (intOf i).toNat)
  case atStart => exact ⟨1, Nat.le_refl _, hs, rfl, Lib.hid (by simp)⟩
  case round =>
    obtain ⟨k, hk1, hk, rfl, HK⟩ := hrel
    by_cases hlt : k < s.size
    · have hkl : k - 1 < (l.drop 1).length := by rw [List.length_drop, HLL.out]; omega
      have eg : (l.drop 1)[k - 1] = s[k]'hlt := by
        have h1 : (l.drop 1)[k - 1]? = some (s[k]'hlt) := by
          rw [HL.out, List.getElem?_drop, show 1 + (k - 1) = k by omega]
          rw [List.getElem?_eq_getElem (by simpa using hlt)]; rfl
        rw [List.getElem?_eq_getElem hkl] at h1
        injection h1
      obtain ⟨d, hd⟩ : ∃ d, d = isInn (s[k]'hlt) := ⟨_, rfl⟩
      have HT : Hid (((l.drop 1).take (k - 1 + 1)).all isInn = d) := Lib.hid (by rw [all_take hkl, HK.out, eg, ← hd]; simp)
      have HF : Hid (d = false → (l.drop 1).all isInn = false) := Lib.hid (fun h => all_no hkl (by rw [eg, ← hd, h]))
      have HD := Lib.hid hd
      clear hkl eg hd
      go_wp2_with fail
      refine (isInner_any _ _).mono ?_
      rintro e w' ⟨rfl, rfl⟩
      rw [← HD.out]
      cases d
      · have HF' := Lib.hid (HF.out rfl)
        clear HF HT HD
        go_wp2_with fail
        go_ret
        exact ⟨k, rfl, by rw [HF'.out, HLL.out]; simp; omega, rfl⟩
      · clear HF
        go_wp2_with fail
        go_round
        case rel => exact ⟨k + 1, by omega, by omega, by go_num, Lib.hid (by rw [show k + 1 - 1 = k - 1 + 1 by omega]; exact HT.out)⟩
        case measure => simp [intOf]; omega
    · obtain rfl : k = s.size := by omega
      have hall : (l.drop 1).all isInn = true := by
        have := HK.out
        rwa [List.take_of_length_le (by rw [List.length_drop, HLL.out]; exact Nat.le_refl _)] at this
      have HA := Lib.hid hall
      clear hall
      go_wp2_with fail
      go_ret
      exact ⟨s.size, rfl, by rw [HA.out, HLL.out]; simp, rfl⟩
end Go.Proofs.YtnbmmgeoglfbdaaDoor.Sc

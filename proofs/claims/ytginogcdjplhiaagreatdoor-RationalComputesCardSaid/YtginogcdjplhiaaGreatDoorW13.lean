/- Walks: isDecimal, Parse. -/
import Derived.Test.YtginogcdjplhiaaGreatDoorW12
import Derived.Lib.Strings
set_option linter.unusedVariables false
set_option linter.unusedSimpArgs false
namespace Go.Proofs.YtginogcdjplhiaaGreatDoor.Big
open Go.RowKit

def rest (l : List UInt8) : List UInt8 := Lib.trimPrefix l [45]
def negd (l : List UInt8) : Bool := Lib.hasPrefix l [45]
def digs (r : List UInt8) : Bool := r.all fun c => 48 ≤ c && c ≤ 57
def isDec (l : List UInt8) : Bool := !(rest l).isEmpty && digs (rest l) && (if (rest l).head? = some 48 then (rest l == [48]) && !negd l else true)

def cutS (s : ByteArray) : ByteArray := ⟨(rest s.data.toList).toArray⟩
theorem cutS_list (s : ByteArray) : (cutS s).data.toList = rest s.data.toList := by unfold cutS; simp
theorem rest_len (l : List UInt8) : (rest l).length ≤ l.length := by
  unfold rest Lib.trimPrefix; split <;> simp
theorem cutS_size (s : ByteArray) : (cutS s).size ≤ s.size := by
  have h1 := rest_len s.data.toList
  rw [← cutS_list] at h1
  simpa using h1
theorem cut_any (s : ByteArray) (w : World) : Calls Tryz.prog 79 #[.string s, .string ⟨#[45]⟩] w fun e w' => e = .returned (.tuple #[.string (cutS s), .bool (negd s.data.toList)]) ∧ w = w' := by
  refine (Tryz.strings_CutPrefix s ⟨#[45]⟩ w).mono ?_
  rintro e w' ⟨rfl, rfl⟩
  exact ⟨rfl, rfl⟩

theorem digs_take_succ {l : List UInt8} {k : Nat} (hk : k < l.length) : digs (l.take (k + 1)) = (digs (l.take k) && (48 ≤ l[k] && l[k] ≤ 57)) := by
  unfold digs; rw [List.take_succ_eq_append_getElem hk, List.all_append]; simp
theorem digs_false {l : List UInt8} {k : Nat} (hk : k < l.length) (h : (48 ≤ l[k] && l[k] ≤ 57) = false) : digs l = false := by
  rcases hd : digs l with _ | _
  · rfl
  · unfold digs at hd
    rw [List.all_eq_true] at hd
    have := hd _ (List.getElem_mem hk)
    rw [h] at this; cases this

set_option maxHeartbeats 1000000 in
theorem isDecimal_any (s : ByteArray) (w : World) (hs : s.size ≤ 1099511627776) : Calls Tryz.prog 78 #[.string s] w fun e w' => e = .returned (.bool (isDec s.data.toList)) ∧ w = w' := by
  have hsz := cutS_size s
  obtain ⟨r, hr⟩ : ∃ r, r = cutS s := ⟨_, rfl⟩
  have hrl : rest s.data.toList = r.data.toList := by rw [hr, cutS_list]
  obtain ⟨ng, hng⟩ : ∃ ng, ng = negd s.data.toList := ⟨_, rfl⟩
  obtain ⟨D, hDd⟩ : ∃ D, D = isDec s.data.toList := ⟨_, rfl⟩
  have hD : D = (!r.data.toList.isEmpty && digs r.data.toList && (if r.data.toList.head? = some 48 then (r.data.toList == [48]) && !ng else true)) := by rw [hDd]; unfold isDec; rw [hrl, hng]
  rw [← hDd]
  rw [← hr] at hsz
  have HR := Lib.hid hr
  have HN := Lib.hid hng
  have HD := Lib.hid hD
  have hlen : r.data.toList.length = r.size := by simp
  have HL := Lib.hid hlen
  clear hD hr hng hrl hDd hlen
  by_cases h0 : r.size = 0
  · have he : r.toList.isEmpty = true := by rw [Lib.toList_data, List.isEmpty_iff]; exact List.eq_nil_of_length_eq_zero (by rw [HL.out]; exact h0)
    have HF : Hid (D = false) := Lib.hid (by rw [HD.out, ← Lib.toList_data, he]; rfl)
    clear h0
    go_enter Tryz.func78, Tryz.ntmps78
    go_wp2_with fail
    refine (cut_any _ _).mono ?_
    rintro e w' ⟨rfl, rfl⟩
    rw [← HR.out, ← HN.out]
    go_wp2_with fail
    go_ret
    exact ⟨by rw [HF.out]; rfl, rfl⟩
  · have he : r.toList.isEmpty = false := by
      rw [Lib.toList_data, ← Bool.not_eq_true, List.isEmpty_iff]
      intro h; have := HL.out; rw [h] at this; simp at this; omega
    have HE := Lib.hid he
    go_enter Tryz.func78, Tryz.ntmps78
    go_wp2_with fail
    refine (cut_any _ _).mono ?_
    rintro e w' ⟨rfl, rfl⟩
    rw [← HR.out, ← HN.out]
    go_wp2_with fail
    clear he
    go_loop [15] (fun i => ∃ k : Nat, k ≤ r.size ∧ i = .int .i64 k ∧ Hid (digs (r.data.toList.take k) = true)) (fun i => r.size - (intOf i).toNat)
    case atStart => exact ⟨0, by omega, rfl, Lib.hid (by simp [digs])⟩
    case round =>
      obtain ⟨k, hk, rfl, HK⟩ := hrel
      by_cases hlt : k < r.size
      · have hkl : k < r.data.toList.length := by rw [HL.out]; exact hlt
        have eg : r.data.toList[k] = r[k]'hlt := rfl
        by_cases c1 : ((r[k]'hlt).toNat : Int) < 48
        · have HF : Hid (D = false) := Lib.hid (by
            rw [HD.out, digs_false hkl (by rw [eg]; simp [UInt8.le_iff_toNat_le]; omega)]; simp)
          clear hkl eg
          go_wp2_with fail
          go_ret
          exact ⟨by rw [HF.out]; rfl, rfl⟩
        · by_cases c2 : (57 : Int) < ((r[k]'hlt).toNat : Int)
          · have HF : Hid (D = false) := Lib.hid (by
              rw [HD.out, digs_false hkl (by rw [eg]; simp [UInt8.le_iff_toNat_le]; omega)]; simp)
            clear hkl eg
            go_wp2_with fail
            go_ret
            exact ⟨by rw [HF.out]; rfl, rfl⟩
          · have HS : Hid (digs (r.data.toList.take (k + 1)) = true) := Lib.hid (by
              rw [digs_take_succ hkl, HK.out, eg]; simp [UInt8.le_iff_toNat_le]; omega)
            clear hkl eg
            go_wp2_with fail
            go_round
            case rel => exact ⟨k + 1, by omega, by go_num, HS⟩
            case measure => simp [intOf]; omega
      · obtain rfl : k = r.size := by omega
        have hpos : 0 < r.size := by omega
        have hd : digs r.data.toList = true := by have := HK.out; rwa [List.take_of_length_le (by rw [HL.out]; exact Nat.le_refl _)] at this
        have hne : r.data.toList.isEmpty = false := by rw [← Lib.toList_data]; exact HE.out
        have hhd : r.data.toList.head? = some (r[0]'hpos) := by
          rw [List.head?_eq_getElem?, List.getElem?_eq_getElem (by rw [HL.out]; exact hpos)]; rfl
        by_cases c1 : ((r[0]'hpos).toNat : Int) = 48
        · have c1' : (((r[0]'hpos).toNat : Int) == 48) = true := by simpa using c1
          have hz : r[0]'hpos = 48 := by rw [← UInt8.toNat_inj]; simp; omega
          have HF : Hid (D = ((r.toList == [48]) && !ng)) := Lib.hid (by rw [HD.out, hne, hd, hhd, hz, Lib.toList_data]; simp)
          clear hd hne hhd hz c1 HK
          go_wp2_with fail
          · have h : r.toList = [48] := by assumption
            go_ret
            refine ⟨?_, rfl⟩
            show Ending.returned (.bool (!ng)) = _
            rw [HF.out, h]; simp
          · have h : ¬ r.toList = [48] := by assumption
            go_ret
            refine ⟨?_, rfl⟩
            show Ending.returned (.bool false) = _
            rw [HF.out]; simp [h]
        · have c1' : (((r[0]'hpos).toNat : Int) == 48) = false := by simpa using c1
          have hz : ¬ r[0]'hpos = 48 := fun h => c1 (by rw [h]; rfl)
          have HF : Hid (D = true) := Lib.hid (by rw [HD.out, hne, hd, hhd]; simp [hz])
          clear hd hne hhd hz c1 HK
          go_wp2_with fail
          go_ret
          exact ⟨by rw [HF.out]; rfl, rfl⟩

end Go.Proofs.YtginogcdjplhiaaGreatDoor.Big

/- Walks: the names of the reference. -/
import Derived.Test.YtnbmmgeoglfbdaaDoorSCmds
set_option linter.unusedVariables false
set_option linter.unusedSimpArgs false
namespace Go.Proofs.YtnbmmgeoglfbdaaDoor.Sc
open Go.RowKit Go.Proofs.YtnbmmgeoglfbdaaDoor.Big

theorem row_new (w : World) (E : TypeId) (cs : Array Value) (vs : List Value) (h : cs.toList = vs) (hn : vs.length ≤ 9223372036854775807) : Row (w.alloc (.cells cs E)) (.slice (some ⟨w.heap.size, 0, none⟩) vs.length vs.length) vs := by
  refine ⟨_, _, rfl, Nat.le_refl _, hn, fun _ => ⟨_, 0, rfl, fun j u hj => ?_⟩⟩
  rw [World.cell?_alloc_new, Nat.zero_add, ← hj, ← h]; simp
theorem letter_any (c : UInt8) (w : World) : Calls Tryd.prog 76 #[.int .u8 (c.toNat : Int)] w (Same w (.bool (isLet c))) := by
  obtain ⟨n, hn⟩ : ∃ n : Nat, n = c.toNat := ⟨_, rfl⟩
  have HB : Hid (isLet c = (decide (97 ≤ n) && decide (n ≤ 122))) := Lib.hid (by rw [hn]; rfl)
  rw [← hn]
  clear hn
  rcases Nat.lt_or_ge n 97 with h | h
  · go_enter Tryd.func76, Tryd.ntmps76
    go_wp2_with fail
    go_ret
    exact ⟨by rw [HB.out]; simp; omega, rfl⟩
  · rcases Nat.lt_or_ge 122 n with h2 | h2
    · have e2 : decide ((n : Int) ≤ 122) = false := by simp; omega
      go_enter Tryd.func76, Tryd.ntmps76
      go_wp2_with fail
      go_ret
      exact ⟨by rw [HB.out]; simp; omega, rfl⟩
    · have e2 : decide ((n : Int) ≤ 122) = true := by simp; omega
      go_enter Tryd.func76, Tryd.ntmps76
      go_wp2_with fail
      go_ret
      exact ⟨by rw [HB.out]; simp; omega, rfl⟩
theorem digit_any (c : UInt8) (w : World) : Calls Tryd.prog 77 #[.int .u8 (c.toNat : Int)] w (Same w (.bool (isDig c))) := by
  obtain ⟨n, hn⟩ : ∃ n : Nat, n = c.toNat := ⟨_, rfl⟩
  have HB : Hid (isDig c = (decide (48 ≤ n) && decide (n ≤ 57))) := Lib.hid (by rw [hn]; rfl)
  rw [← hn]
  clear hn
  rcases Nat.lt_or_ge n 48 with h | h
  · go_enter Tryd.func77, Tryd.ntmps77
    go_wp2_with fail
    go_ret
    exact ⟨by rw [HB.out]; simp; omega, rfl⟩
  · rcases Nat.lt_or_ge 57 n with h2 | h2
    · have e2 : decide ((n : Int) ≤ 57) = false := by simp; omega
      go_enter Tryd.func77, Tryd.ntmps77
      go_wp2_with fail
      go_ret
      exact ⟨by rw [HB.out]; simp; omega, rfl⟩
    · have e2 : decide ((n : Int) ≤ 57) = true := by simp; omega
      go_enter Tryd.func77, Tryd.ntmps77
      go_wp2_with fail
      go_ret
      exact ⟨by rw [HB.out]; simp; omega, rfl⟩
theorem space_some (c : UInt8) (w : World) : Calls Tryd.prog 78 #[.int .u8 (c.toNat : Int)] w (fun e w' => ∃ b, Same w (.bool b) e w') := by
  obtain ⟨n, hn⟩ : ∃ n : Int, n = (c.toNat : Int) := ⟨_, rfl⟩
  rw [← hn]
  clear hn
  cases h1 : (n == 32) <;> cases h2 : (n == 9) <;> cases h3 : (n == 10) <;> cases h4 : (n == 13)
  all_goals
    go_enter Tryd.func78, Tryd.ntmps78
    go_wp2_with fail
    go_ret
    exact ⟨_, rfl, rfl⟩
set_option maxHeartbeats 2000000 in
theorem In_any (A : Option Addr) (n c : Nat) (L : List BL) (t : BL) (w : World) (h : Row w (.slice A n c) (sV L)) : Calls Tryd.prog 59 #[.slice A n c, .string (str t)] w (Same w (.bool (L.contains t))) := by
  obtain ⟨h0, h1, h2, h3⟩ := h.inj
  rw [sV_len] at h0 h1 h3
  subst h0
  obtain ⟨K, hK⟩ : ∃ K, K = L.contains t := ⟨_, rfl⟩
  rw [← hK]
  have HK := Lib.hid hK
  have H3 := Lib.hid h3
  clear hK h3
  go_enter Tryd.func59, Tryd.ntmps59
  go_wp2_with fail
  go_loopw [5] (fun i wr => ∃ k : Nat, k ≤ L.length ∧ i = .int .i64 k ∧ Hid ((L.take k).contains t = false) ∧ w = wr) (fun i _ => L.length - (intOf i).toNat)
  case atStart => exact ⟨0, by omega, rfl, Lib.hid rfl, rfl⟩
  case round =>
    obtain ⟨k, hk, rfl, HC, rfl⟩ := hrel
    by_cases hlt : k < L.length
    · obtain ⟨b, off, rfl, hc⟩ := H3.out (by omega)
      have hcl := hc k _ (sV_get (List.getElem?_eq_getElem hlt))
      have hT : (L.take (k + 1)).contains t = (t == L[k]) := by
        rw [List.take_succ_eq_append_getElem hlt, List.contains_append, HC.out, Bool.false_or]; by_cases h : t = L[k] <;> simp [h]
      have hT2 : (t == L[k]) = true → L.contains t = true := fun e => by
        rw [List.contains_iff_mem]
        have e' : t = L[k] := by simpa using e
        rw [e']; exact List.getElem_mem hlt
      obtain ⟨x, hx⟩ : ∃ x, x = L[k] := ⟨_, rfl⟩
      rw [← hx] at hcl hT hT2
      have HT := Lib.hid hT
      have HT2 := Lib.hid hT2
      clear hT hT2 hc hx
      by_cases he : x = t
      · subst he
        go_wp2_with fail
        go_ret
        exact ⟨by rw [HK.out, HT2.out (by simp)]; rfl, rfl⟩
      · have e2 : (str x).toList ≠ (str t).toList := by rw [Lib.toList_data, Lib.toList_data, str_list, str_list]; exact he
        have e1 : ((str x).toList == (str t).toList) = false := by simpa using e2
        go_wp2_with fail
        exact ⟨⟨k + 1, by omega, rfl, Lib.hid (by rw [HT.out]; simpa using fun e => he e.symm), trivial⟩, by simp [intOf]; omega⟩
    · have hkl : k = L.length := by omega
      have HF : Hid (K = false) := Lib.hid (by rw [HK.out, ← HC.out, hkl, List.take_length])
      go_wp2_with fail
      go_ret
      exact ⟨by rw [HF.out]; rfl, rfl⟩
end Go.Proofs.YtnbmmgeoglfbdaaDoor.Sc

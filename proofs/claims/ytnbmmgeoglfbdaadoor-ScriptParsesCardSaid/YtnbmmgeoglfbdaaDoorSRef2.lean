/- Walks: Words, lines, One, Valid of the reference. -/
import Derived.Test.YtnbmmgeoglfbdaaDoorSRef1
set_option linter.unusedVariables false
set_option linter.unusedSimpArgs false
namespace Go.Proofs.YtnbmmgeoglfbdaaDoor.Sc
open Go.RowKit Go.Proofs.YtnbmmgeoglfbdaaDoor.Big

theorem Words_any (w : World) : Calls Tryd.prog 33 #[] w (fun e w' => (∃ b, e = .returned (.slice (some ⟨b, 0, none⟩) 11 11) ∧ Row w' (.slice (some ⟨b, 0, none⟩) 11 11) (sV words)) ∧ Ext w w') := by
  go_enter Tryd.func33, Tryd.ntmps33
  go_wp2_with fail
  go_ret
  exact ⟨⟨_, rfl, row_new _ _ _ (sV words) rfl (by simp [words])⟩, (Ext.refl w).alloc _⟩
theorem Keywords_any (w : World) : Calls Tryd.prog 60 #[] w (fun e w' => (∃ b, e = .returned (.slice (some ⟨b, 0, none⟩) 13 13) ∧ Row w' (.slice (some ⟨b, 0, none⟩) 13 13) (sV keywords)) ∧ Ext w w') := by
  go_enter Tryd.func60, Tryd.ntmps60
  go_wp2_with fail
  go_ret
  exact ⟨⟨_, rfl, row_new _ _ _ (sV keywords) rfl (by simp [keywords])⟩, (Ext.refl w).alloc _⟩
def signsR : List BL := [[60, 60], [62, 62], [60, 61], [62, 61], [61, 61], [33, 61], [38, 38], [124, 124], [43], [45], [42], [47], [37], [38], [124], [94], [60], [62], [33], [61], [91], [93], [123], [125], [40], [41], [59], [44]]
theorem Signs_any (w : World) : Calls Tryd.prog 79 #[] w (fun e w' => (∃ b, e = .returned (.slice (some ⟨b, 0, none⟩) 28 28) ∧ Row w' (.slice (some ⟨b, 0, none⟩) 28 28) (sV signsR)) ∧ Ext w w') := by
  go_enter Tryd.func79, Tryd.ntmps79
  go_wp2_with fail
  go_ret
  exact ⟨⟨_, rfl, row_new _ _ _ (sV signsR) rfl (by simp [signsR])⟩, (Ext.refl w).alloc _⟩
theorem nl_take {t : BL} {k : Nat} {c : UInt8} (hc : t[k]? = some c) : nl (t.take (k + 1)) = nl (t.take k) + if c = 10 then 1 else 0 := by
  rw [List.take_add_one, hc, nl_append]
  congr 1
  unfold nl
  by_cases h : c = 10
  · subst h; rfl
  · rw [if_neg h]; simp [h]
theorem str_get {t : BL} {k : Nat} {c : UInt8} (hc : t[k]? = some c) (h : k < (str t).size) : (str t)[k]'h = c := by
  have h' : k < t.length := h
  rw [List.getElem?_eq_getElem h'] at hc
  have e : (str t)[k]'h = t[k]'h' := by simp [str, ByteArray.getElem_eq_getElem_data]
  exact e.trans (Option.some.inj hc)
set_option maxHeartbeats 2000000 in
theorem lines_any (t : BL) (w : World) (ht : t.length ≤ 1099511627776) : Calls Tryd.prog 36 #[.string (str t)] w (Same w (.int .i64 (nl t : Int))) := by
  obtain ⟨N, hN⟩ : ∃ N, N = nl t := ⟨_, rfl⟩
  rw [← hN]
  have HN := Lib.hid hN
  have hss : (str t).size = t.length := rfl
  clear hN
  go_enter Tryd.func36, Tryd.ntmps36
  go_wp2_with fail
  go_loopw [3, 4] (fun nv i wr => ∃ k m : Nat, k ≤ t.length ∧ m ≤ k ∧ i = .int .i64 k ∧ nv = .int .i64 m ∧ Hid (m = nl (t.take k)) ∧ w = wr) (fun _ i _ => t.length - (intOf i).toNat)
  case atStart => exact ⟨0, 0, by omega, by omega, rfl, rfl, Lib.hid rfl, rfl⟩
  case round =>
    obtain ⟨k, m, hk, hm, rfl, rfl, HC, rfl⟩ := hrel
    by_cases hlt : k < t.length
    · have hlt' : k < (str t).size := by omega
      obtain ⟨c, hc⟩ : ∃ c, t[k]? = some c := ⟨_, List.getElem?_eq_getElem hlt⟩
      have hT : nl (t.take (k + 1)) = m + if c = 10 then 1 else 0 := by rw [nl_take hc, HC.out]
      have hg : (str t)[k]'hlt' = c := str_get hc hlt'
      have HT := Lib.hid hT
      have HG := Lib.hid hg
      clear hT hg hc
      by_cases h10 : c = 10
      · subst h10
        have e1 : ((((str t)[k]'hlt').toNat : Int) == 10) = true := by rw [HG.out]; rfl
        go_wp2_with fail
        exact ⟨⟨k + 1, m + 1, by omega, by omega, by go_num, by go_num, Lib.hid (by rw [HT.out]; rfl), trivial⟩, by simp [intOf]; omega⟩
      · have e1 : ((((str t)[k]'hlt').toNat : Int) == 10) = false := by
          rw [HG.out]
          have : ¬ c.toNat = 10 := fun h => h10 (UInt8.toNat_inj.1 (by simpa using h))
          simp; omega
        go_wp2_with fail
        exact ⟨⟨k + 1, m, by omega, by omega, by go_num, rfl, Lib.hid (by rw [HT.out, if_neg h10]; rfl), trivial⟩, by simp [intOf]; omega⟩
    · have hkl : k = t.length := by omega
      have HF : Hid (m = N) := Lib.hid (by rw [HN.out, HC.out, hkl, List.take_length])
      go_wp2_with fail
      go_ret
      exact ⟨by rw [HF.out]; rfl, rfl⟩
end Go.Proofs.YtnbmmgeoglfbdaaDoor.Sc

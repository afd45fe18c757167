/- Walks: valid, Valid of the script. -/
import Derived.Test.YtnbmmgeoglfbdaaDoorSFirst2
set_option linter.unusedVariables false
set_option linter.unusedSimpArgs false
namespace Go.Proofs.YtnbmmgeoglfbdaaDoor.Sc
open Go.RowKit Go.Proofs.YtnbmmgeoglfbdaaDoor.Big

theorem suffix_one (l : BL) : Lib.hasSuffix l [10] = (l.getLast? == some 10) := by
  unfold Lib.hasSuffix
  rw [Bool.eq_iff_iff, List.isSuffixOf_iff_suffix, beq_iff_eq, List.getLast?_eq_some_iff]
  constructor
  · rintro ⟨t, rfl⟩; exact ⟨t, rfl⟩
  · rintro ⟨t, rfl⟩; exact ⟨t, rfl⟩
def validB (kd : Nat) (nm : BL) (n : Nat) (tx : BL) : Bool :=
  decide (1 ≤ kd) && decide (kd ≤ 11) && (if fN (kd - 1) then isName nm else nm.isEmpty) && decide (least (kd - 1) ≤ n) && decide (n ≤ most (kd - 1)) && (if fT (kd - 1) then textOk tx else tx.isEmpty)
theorem validC_B (c : Cmd) : validC c = validB c.kind c.name c.nums.length c.text := rfl
theorem FormatsOK.cells {w : World} (h : FormatsOK w) (i : Nat) (hi : i < 11) : w.cell? ⟨0, i * 5, none⟩ = some (.string (str (word i))) ∧ w.cell? ⟨0, i * 5 + 1, none⟩ = some (.bool (fN i)) ∧
    w.cell? ⟨0, i * 5 + 2, none⟩ = some (.int .i64 (least i : Nat)) ∧ w.cell? ⟨0, i * 5 + 3, none⟩ = some (.int .i64 (most i : Nat)) ∧ w.cell? ⟨0, i * 5 + 4, none⟩ = some (.bool (fT i)) := by
  obtain ⟨cs, t, fr, h1, h2, h3⟩ := h
  have h4 := h3 i hi
  have key : ∀ j, j < 5 → w.cell? ⟨0, i * 5 + j, none⟩ = (fmtV i)[j]? := by
    intro j hj
    rw [show w.cell? ⟨0, i * 5 + j, none⟩ = cs[i * 5 + j]? from cell_of_row w _ _ cs t fr h1, ← h4, Array.getElem?_extract]
    rw [if_pos (by omega)]
  exact ⟨key 0 (by omega), key 1 (by omega), key 2 (by omega), key 3 (by omega), key 4 (by omega)⟩
def BoolPost (w : World) (b : Bool) (e : Ending) (w' : World) : Prop := e = .returned (.bool b) ∧ Ext w w'
set_option maxHeartbeats 4000000 in
set_option maxRecDepth 100000 in
theorem valid_any (kd : Nat) (nm tx : ByteArray) (A : Option Addr) (n c : Nat) (w : World) (hkd : kd ≤ 255) (hn : n ≤ 9223372036854775807) (hns : nm.size ≤ 9223372036854775807) (hg : SignsOK w) (hf : FormatsOK w) :
    Calls Tryd.prog 32 #[.agg #[.int .u8 (kd : Int), .string nm, .slice A n c, .string tx]] w (BoolPost w (validB kd nm.data.toList n tx.data.toList)) := by
  obtain ⟨V, hV⟩ : ∃ V, V = validB kd nm.data.toList n tx.data.toList := ⟨_, rfl⟩
  rw [← hV]
  have HV := Lib.hid hV
  clear hV
  by_cases h1 : kd < 1
  · have HF : Hid (V = false) := Lib.hid (by rw [HV.out]; unfold validB; rw [decide_eq_false (show ¬ 1 ≤ kd by omega)]; simp)
    go_enter Tryd.func32, Tryd.ntmps32
    go_wp2_with fail
    go_ret
    exact ⟨by rw [HF.out]; rfl, (Ext.refl w).alloc _⟩
  by_cases h2 : 11 < kd
  · have HF : Hid (V = false) := Lib.hid (by rw [HV.out]; unfold validB; rw [decide_eq_false (show ¬ kd ≤ 11 by omega)]; simp)
    go_enter Tryd.func32, Tryd.ntmps32
    go_wp2_with fail
    go_ret
    exact ⟨by rw [HF.out]; rfl, (Ext.refl w).alloc _⟩
  obtain ⟨i, rfl⟩ : ∃ i, kd = i + 1 := ⟨kd - 1, by omega⟩
  have hi : i < 11 := by omega
  rw [show ((i + 1 : Nat) : Int) = (i : Int) + 1 by omega]
  have hE0 : Ext w (w.alloc (.cells #[.int .u8 ((i : Int) + 1), .string nm, .slice A n c, .string tx] 40)) := (Ext.refl w).alloc _
  obtain ⟨g0, g1, g2, g3, g4⟩ := (hf.ext hE0).cells i hi
  obtain ⟨wd, hwdn⟩ : ∃ x, x = str (word i) := ⟨_, rfl⟩
  obtain ⟨vN, hvN⟩ : ∃ x, x = fN i := ⟨_, rfl⟩
  obtain ⟨vT, hvT⟩ : ∃ x, x = fT i := ⟨_, rfl⟩
  obtain ⟨lo, hlo⟩ : ∃ x, x = least i := ⟨_, rfl⟩
  obtain ⟨hi2, hhi⟩ : ∃ x, x = most i := ⟨_, rfl⟩
  obtain ⟨nk, hnk⟩ : ∃ x, x = if vN then isName nm.data.toList else nm.data.toList.isEmpty := ⟨_, rfl⟩
  have hlob : lo ≤ 15 := by rw [hlo]; unfold least; repeat (first | omega | split)
  have hhib : hi2 ≤ 1000 := by rw [hhi]; unfold most; repeat (first | omega | split)
  have HV1 : Hid (V = (nk && decide (lo ≤ n) && decide (n ≤ hi2) && (if vT then textOk tx.data.toList else tx.data.toList.isEmpty))) := Lib.hid (by
    rw [HV.out]; unfold validB
    rw [Nat.add_sub_cancel, decide_eq_true (show 1 ≤ i + 1 by omega), decide_eq_true (show i + 1 ≤ 11 by omega), hnk, hlo, hhi, hvT, hvN]; rfl)
  rw [← hwdn] at g0
  rw [← hvN] at g1
  rw [← hlo] at g2
  rw [← hhi] at g3
  rw [← hvT] at g4
  have HNK := Lib.hid hnk
  clear hwdn hvN hvT hlo hhi hnk HV
  have hk8 : IntKind.u8.wrap ((i : Int) + 1 - 1) = (i : Int) := by rw [IntKind.wrap_u8]; omega
  obtain ⟨Bc, Bf, hE1⟩ := boxesT2 w 40 64 #[.int .u8 ((i : Int) + 1), .string nm, .slice A n c, .string tx] #[.string wd, .bool vN, .int .i64 lo, .int .i64 hi2, .bool vT]
  have hl65 : decide ((n : Int) < lo) = decide (n < lo) := by simp
  have HV2 : Hid (nk = true → V = (decide (lo ≤ n) && decide (n ≤ hi2) && (if vT then textOk tx.data.toList else tx.data.toList.isEmpty))) := Lib.hid (fun h => by rw [HV1.out, h]; rfl)
  cases vN with
  | true =>
    go_enter Tryd.func32, Tryd.ntmps32
    go_wp2_with fail
    generalize ((w.alloc (.cells #[.int .u8 ((i : Int) + 1), .string nm, .slice A n c, .string tx] 40)).alloc (.cells #[.string wd, .bool true, .int .i64 lo, .int .i64 hi2, .bool vT] 64)) = W1 at *
    refine (Name_any nm _ (hg.ext hE1) hns).mono ?_
    rintro e w3 ⟨rfl, hx3⟩
    rw [show isName nm.data.toList = nk from HNK.out.symm]
    have hE3 := hE1.trans hx3
    have Bc3 := Bc.ext hx3
    have Bf3 := Bf.ext hx3
    clear hE0 hE1 hx3 Bc Bf g0 g1 g2 g3 g4 hl65
    have y1 := Bc3.c1
    have y2 := Bc3.c2
    have y3 := Bc3.c3
    have z1 := Bf3.c1
    have z2 := Bf3.c2
    have z3 := Bf3.c3
    have z4 := Bf3.c4
    cases nk with
    | false =>
      have HF : Hid (V = false) := Lib.hid (by rw [HV1.out]; rfl)
      go_wp2_with fail
      go_ret
      exact ⟨by rw [HF.out]; rfl, hE3⟩
    | true =>
      have HV2 := Lib.hid (HV2.out rfl)
      clear HV1
      by_cases hlo2 : n < lo
      · have HF : Hid (V = false) := Lib.hid (by rw [HV2.out, decide_eq_false (show ¬ lo ≤ n by omega)]; simp)
        go_wp2_with fail
        go_ret
        exact ⟨by rw [HF.out]; rfl, by assumption⟩
      by_cases hhi2 : hi2 < n
      · have HF : Hid (V = false) := Lib.hid (by rw [HV2.out, decide_eq_false (show ¬ n ≤ hi2 by omega)]; simp)
        go_wp2_with fail
        go_ret
        exact ⟨by rw [HF.out]; rfl, by assumption⟩
      have HV3 : Hid (V = if vT then textOk tx.data.toList else tx.data.toList.isEmpty) := Lib.hid (by rw [HV2.out, decide_eq_true (show lo ≤ n by omega), decide_eq_true (show n ≤ hi2 by omega)]; simp)
      clear HV2
      cases vT with
      | false =>
        have HF : Hid (V = (tx.toList == [])) := Lib.hid (by rw [HV3.out, Lib.toList_data]; cases tx.data.toList <;> rfl)
        go_wp2_with fail
        go_ret
        exact ⟨by rw [HF.out]; first | rfl | (cases tx.toList <;> rfl), by assumption⟩
      | true =>
        by_cases htl : tx.size ≤ 65536
        · by_cases hte : tx.toList = []
          · have hte' : tx.toList.isEmpty = true := by rw [hte]; rfl
            have HF : Hid (V = true) := Lib.hid (by
              rw [HV3.out, ← Lib.toList_data, hte]; rfl)
            clear hte
            go_wp2_with fail
            go_ret
            exact ⟨by rw [HF.out]; rfl, by assumption⟩
          · have hte' : tx.toList.isEmpty = false := by rw [← Bool.not_eq_true, List.isEmpty_iff]; exact hte
            have HF : Hid (V = Lib.hasSuffix tx.data.toList [10]) := Lib.hid (by
              rw [HV3.out]
              unfold textOk
              rw [if_pos rfl, decide_eq_true (show tx.data.toList.length ≤ 65536 by rw [← Lib.size_eq]; exact htl), ← Lib.toList_data, hte', suffix_one]; rfl)
            have hts : tx.size ≤ 9223372036854775807 := by omega
            go_wp2_with fail
            refine (Tryd.strings_HasSuffix tx ⟨#[10]⟩ _ hts).mono ?_
            rintro e w9 ⟨rfl, rfl⟩
            rw [show (⟨#[10]⟩ : ByteArray).data.toList = [10] from rfl, ← HF.out]
            go_wp2_with fail
            go_ret
            exact ⟨rfl, by assumption⟩
        · have HF : Hid (V = false) := Lib.hid (by
            rw [HV3.out]; unfold textOk
            rw [if_pos rfl, decide_eq_false (show ¬ tx.data.toList.length ≤ 65536 by rw [← Lib.size_eq]; exact htl)]; rfl)
          go_wp2_with fail
          go_ret
          exact ⟨by rw [HF.out]; rfl, by assumption⟩
  | false =>
    have HNK2 : Hid (nk = nm.toList.isEmpty) := Lib.hid (by rw [HNK.out, Lib.toList_data]; rfl)
    clear hl65
    cases nk with
    | false =>
      have hne : nm.toList.isEmpty = false := HNK2.out.symm
      have HF : Hid (V = false) := Lib.hid (by rw [HV1.out]; rfl)
      go_enter Tryd.func32, Tryd.ntmps32
      go_wp2_with fail
      go_ret
      exact ⟨by rw [HF.out]; rfl, hE1⟩
    | true =>
      have hne : nm.toList.isEmpty = true := HNK2.out.symm
      have HV2 := Lib.hid (HV2.out rfl)
      clear HV1
      go_enter Tryd.func32, Tryd.ntmps32
      go_upto_region 6 with fail
      generalize ((w.alloc (.cells #[.int .u8 ((i : Int) + 1), .string nm, .slice A n c, .string tx] 40)).alloc (.cells #[.string wd, .bool false, .int .i64 lo, .int .i64 hi2, .bool vT] 64)) = W1 at *
      clear hE0 g0 g1 g2 g3 g4 hne
      have y1 := Bc.c1
      have y2 := Bc.c2
      have y3 := Bc.c3
      have z1 := Bf.c1
      have z2 := Bf.c2
      have z3 := Bf.c3
      have z4 := Bf.c4
      by_cases hlo2 : n < lo
      · have HF : Hid (V = false) := Lib.hid (by rw [HV2.out, decide_eq_false (show ¬ lo ≤ n by omega)]; simp)
        go_wp2_with fail
        go_ret
        exact ⟨by rw [HF.out]; rfl, by assumption⟩
      by_cases hhi2 : hi2 < n
      · have HF : Hid (V = false) := Lib.hid (by rw [HV2.out, decide_eq_false (show ¬ n ≤ hi2 by omega)]; simp)
        go_wp2_with fail
        go_ret
        exact ⟨by rw [HF.out]; rfl, by assumption⟩
      have HV3 : Hid (V = if vT then textOk tx.data.toList else tx.data.toList.isEmpty) := Lib.hid (by rw [HV2.out, decide_eq_true (show lo ≤ n by omega), decide_eq_true (show n ≤ hi2 by omega)]; simp)
      clear HV2
      cases vT with
      | false =>
        have HF : Hid (V = (tx.toList == [])) := Lib.hid (by rw [HV3.out, Lib.toList_data]; cases tx.data.toList <;> rfl)
        go_wp2_with fail
        go_ret
        exact ⟨by rw [HF.out]; first | rfl | (cases tx.toList <;> rfl), by assumption⟩
      | true =>
        by_cases htl : tx.size ≤ 65536
        · by_cases hte : tx.toList = []
          · have hte' : tx.toList.isEmpty = true := by rw [hte]; rfl
            have HF : Hid (V = true) := Lib.hid (by
              rw [HV3.out, ← Lib.toList_data, hte]; rfl)
            clear hte
            go_wp2_with fail
            go_ret
            exact ⟨by rw [HF.out]; rfl, by assumption⟩
          · have hte' : tx.toList.isEmpty = false := by rw [← Bool.not_eq_true, List.isEmpty_iff]; exact hte
            have HF : Hid (V = Lib.hasSuffix tx.data.toList [10]) := Lib.hid (by
              rw [HV3.out]
              unfold textOk
              rw [if_pos rfl, decide_eq_true (show tx.data.toList.length ≤ 65536 by rw [← Lib.size_eq]; exact htl), ← Lib.toList_data, hte', suffix_one]; rfl)
            have hts : tx.size ≤ 9223372036854775807 := by omega
            go_wp2_with fail
            refine (Tryd.strings_HasSuffix tx ⟨#[10]⟩ _ hts).mono ?_
            rintro e w9 ⟨rfl, rfl⟩
            rw [show (⟨#[10]⟩ : ByteArray).data.toList = [10] from rfl, ← HF.out]
            go_wp2_with fail
            go_ret
            exact ⟨rfl, by assumption⟩
        · have HF : Hid (V = false) := Lib.hid (by
            rw [HV3.out]; unfold textOk
            rw [if_pos rfl, decide_eq_false (show ¬ tx.data.toList.length ≤ 65536 by rw [← Lib.size_eq]; exact htl)]; rfl)
          go_wp2_with fail
          go_ret
          exact ⟨by rw [HF.out]; rfl, by assumption⟩
end Go.Proofs.YtnbmmgeoglfbdaaDoor.Sc

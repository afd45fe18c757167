/- Walk: the law RationalFull. -/
import Derived.Test.YteohdiaegnfbaaaDoorT10
import Derived.Test.YteohdiaegnfbaaaDoorRArr
import Derived.Laws.IdiomStrings
set_option linter.unusedVariables false
set_option linter.unusedSimpArgs false
namespace Go.Proofs.YteohdiaegnfbaaaDoor.Rt
open Go.RowKit Go.Proofs.YteohdiaegnfbaaaDoor.Big
open Go.Lib (itoa)

theorem info8 : (Tryd.prog.info? 5).map (fun i => (i.zero, i.size, i.bytes)) = some (some (.int .u8 0), 1, 1) := by kernel_rfl

/-- m ones, and the same with an x in the middle -/
def ones (m : Nat) : List UInt8 := List.replicate m 49
def onesx (m : Nat) : List UInt8 := List.replicate (m / 2) 49 ++ 120 :: List.replicate (m - m / 2 - 1) 49
theorem ones_digs (m : Nat) : digs (ones m) = true := by
  unfold digs ones; rw [List.all_replicate]; simp
theorem ones_slash (m : Nat) : (47 : UInt8) ∉ ones m := digs_slash (ones_digs m)
theorem rat_noslash {l : List UInt8} (h : (47 : UInt8) ∉ l) : isRat l = isDec l := by
  rcases cut_cases l with ⟨_, e⟩ | ⟨a, b, _, hl, e⟩
  · unfold isRat; rw [e]; rfl
  · exact absurd (by rw [hl]; simp) h
theorem ones_rest (m : Nat) (t : List UInt8) : rest (ones (m + 1) ++ t) = ones (m + 1) ++ t ∧ negd (ones (m + 1) ++ t) = false := by
  unfold ones; rw [List.replicate_succ]; exact ⟨rfl, rfl⟩
theorem ones_rat {m : Nat} (h : 0 < m) : isRat (ones m) = true := by
  rw [rat_noslash (ones_slash m)]
  obtain ⟨k, rfl⟩ : ∃ k, m = k + 1 := ⟨m - 1, by omega⟩
  have h1 := ones_rest k []
  rw [List.append_nil] at h1
  unfold isDec
  rw [h1.1, h1.2, ones_digs]
  unfold ones; rw [List.replicate_succ]; rfl
theorem onesx_rat {m : Nat} (h : 2 ≤ m) : isRat (onesx m) = false := by
  have hs : (47 : UInt8) ∉ onesx m := by
    unfold onesx
    have h1 := ones_slash (m / 2)
    have h2 := ones_slash (m - m / 2 - 1)
    unfold ones at h1 h2
    simp only [List.mem_append, List.mem_cons]
    rintro (h | h | h)
    · exact h1 h
    · exact absurd h (by decide)
    · exact h2 h
  rw [rat_noslash hs]
  obtain ⟨k, hk⟩ : ∃ k, m / 2 = k + 1 := ⟨m / 2 - 1, by omega⟩
  have h1 := ones_rest k (120 :: List.replicate (m - m / 2 - 1) 49)
  unfold ones at h1
  rw [← hk] at h1
  have hd : digs (onesx m) = false := by
    unfold onesx digs; simp
  unfold isDec
  have e : rest (onesx m) = onesx m := h1.1
  rw [e, hd]; simp
theorem ones_len (m : Nat) : (ones m).length = m := by unfold ones; simp
theorem onesx_len {m : Nat} (h : 2 ≤ m) : (onesx m).length = m := by unfold onesx; simp; omega

theorem ones_get' (m i : Nat) (l : List UInt8) (hl : l = List.replicate m 49) (h : i < l.length) : l[i] = 49 := by subst hl; simp
theorem ones_get (m i : Nat) (h : i < (ones m).length) : (ones m)[i] = 49 := ones_get' m i _ rfl h
theorem onesx_get' (m i : Nat) (l : List UInt8) (hl : l = List.replicate (m / 2) 49 ++ 120 :: List.replicate (m - m / 2 - 1) 49) (hi : i < l.length) : l[i] = if i = m / 2 then 120 else 49 := by
  subst hl
  rcases Nat.lt_trichotomy i (m / 2) with h | h | h
  · rw [if_neg (by omega), List.getElem_append_left (by simpa using h), List.getElem_replicate]
  · rw [if_pos h, List.getElem_append_right (by simp; omega)]; simp [h]
  · rw [if_neg (by omega), List.getElem_append_right (by simp; omega), List.getElem_cons, dif_neg (by simp; omega), List.getElem_replicate]
theorem onesx_get (m i : Nat) (h : i < (onesx m).length) : (onesx m)[i] = if i = m / 2 then 120 else 49 := onesx_get' m i _ rfl h

set_option maxRecDepth 100000 in
set_option maxHeartbeats 8000000 in
theorem full_any (n : Int) (sl : Bool) (w : World) (n0 : 0 ≤ n) (n1 : n ≤ 65535) (htab : TabOK w) (hmx : MxOK w) :
    Calls Tryd.prog 3 #[.int .u16 n, .bool sl] w (fun e w' => e = .returned (.bool true) ∧ Ext w w') := by
  obtain ⟨r, hr⟩ : ∃ r : Nat, n.tmod 300 = (r : Int) ∧ r < 300 := ⟨(n % 300).toNat, by rw [Int.tmod_eq_emod_of_nonneg n0]; omega, by omega⟩
  obtain ⟨hr, hr3⟩ := hr
  obtain ⟨m, hm⟩ : ∃ m : Nat, (4000 : Int) + (r : Int) = (m : Int) := ⟨4000 + r, by omega⟩
  have HM := Lib.hid hm
  have m0 : 4000 ≤ m := by omega
  have m1 : m ≤ 4299 := by omega
  go_enter Tryd.func3, Tryd.ntmps3
  go_wp2_with fail
  refine (RatAwake_any _ htab hmx).mono ?_
  rintro e w1 ⟨rfl, hx1⟩
  go_upto_region 4 with fail
  clear hr hm
  go_wp2_with (at_make; refine wpList_makeK .u8 1 _ rfl _ _ 24 rfl 5 Tryd.underlying24 info8 (by decide) _ _ rfl rfl m rfl rfl (by omega) ?_; intro w2 harr hext)
  go_loopw [20] (fun i wr => ∃ j : Nat, j ≤ m ∧ i = .int .i64 j ∧ (∃ f, ArrK .u8 wr w1.heap.size m 5 f ∧ ∀ i, i < j → f i = 49) ∧ Ext w1 wr) (fun i _ => m - (intOf i).toNat)
  case atStart => exact ⟨0, by omega, rfl, ⟨_, harr, fun i hi => absurd hi (by omega)⟩, hext⟩
  case round =>
    obtain ⟨j, hj, rfl, ⟨f, ha, hf⟩, hE⟩ := hrel
    by_cases hlt : j < m
    · have hco := ha.cell hlt
      have hfo := ha.frozen j
      go_wp2_with fail
      go_roundw
      case rel =>
        refine ⟨j + 1, by omega, by go_num, ⟨_, (ha.set j 49).congr (fun _ _ => rfl), fun i hi => ?_⟩, hE.set (Nat.le_refl _) _⟩
        by_cases hij : i = j
        · simp [hij]
        · simp [hij]; exact hf i (by omega)
      case measure => simp [intOf]; omega
    · obtain rfl : j = m := by omega
      have hE1 : Ext w wr := hx1.trans hE
      cases sl
      case true =>
        obtain ⟨q, hq⟩ : ∃ q : Nat, q = j / 2 := ⟨_, rfl⟩
        have hq1 : (j : Int).tdiv 2 = (q : Int) := by rw [Int.tdiv_eq_ediv_of_nonneg (by omega)]; omega
        have hqj : q < j := by omega
        have hco := ha.cell hqj
        have hfo := ha.frozen q
        have ha2 := ha.set q 120
        have hE3 : Ext w (wr.setCell ⟨w1.heap.size, q, none⟩ (.int .u8 120)) := hE1.set (by have := Ext.size hx1; exact this) _
        have cv := run_convert_bytes_back (P := Tryd.prog) (wr.setCell ⟨w1.heap.size, q, none⟩ (.int .u8 120)) 24 9 5 ⟨w1.heap.size, 0, none⟩ j (onesx j) Tryd.underlying24 Tryd.underlying5 Tryd.underlying9 (fun i hi => by
          rw [onesx_len (by omega)] at hi
          have hh : (wr.setCell ⟨w1.heap.size, q, none⟩ (.int .u8 120)).cell? ⟨w1.heap.size, i, none⟩ = _ := ha2.cell hi
          rw [Lib.add_plain, Nat.zero_add, hh, onesx_get]
          rw [← hq]
          by_cases h : i = q
          · rw [if_pos h, if_pos h]; rfl
          · rw [if_neg h, if_neg h, hf i hi]; rfl)
        rw [onesx_len (by omega)] at cv
        obtain ⟨S, hS⟩ : ∃ S : ByteArray, S = ⟨(onesx j).toArray⟩ := ⟨_, rfl⟩
        rw [← hS] at cv
        have hSs : S.size = j := by
          have := onesx_len (m := j) (by omega)
          rw [hS]; simpa [ByteArray.size] using this
        have HB := Lib.hid (show isRat S.data.toList = false by rw [hS]; exact onesx_rat (by omega))
        have HQ := Lib.hid hq
        have HSs := Lib.hid hSs
        clear ha ha2 hf hS hq hE hx1 hext hE1
        by_cases hb : 4096 < j
        · have e2 : decide ((4096 : Int) < (j : Int)) = true := by simp; omega
          have hsz : 4096 < S.size := by omega
          clear hSs
          go_wp2_with fail
          refine (RatParse_full S _ hsz).mono ?_
          rintro e w3 ⟨rfl, hx3⟩
          unfold zeroRat
          have hEf := hE3.trans hx3
          go_upto_region 13 with fail
          have hy3 : Ext w3 (w3.alloc (.cells #[.bool false, .slice none 0 0, .bool false, .slice none 0 0] 29)) := (Ext.refl w3).alloc _
          have B8 := Box.new w3 29 #[.bool false, .slice none 0 0, .bool false, .slice none 0 0]
          have hEg := hEf.trans hy3
          generalize (w3.alloc (.cells #[.bool false, .slice none 0 0, .bool false, .slice none 0 0] 29)) = V at *
          have hZB : RatB V (.agg #[.bool false, .slice none 0 0, .bool false, .slice none 0 0]) 0 1 := ⟨RatV.zero _, QB_zero (by decide)⟩
          have q0 := B8.c0
          have q1 := B8.c1
          have q2 := B8.c2
          have q3 := B8.c3
          go_wp2_with fail
          refine (RatSign_b _ _ _ _ hZB).mono ?_
          rintro e w4 ⟨rfl, hx4⟩
          rw [show (Rat.num 0).sign = 0 from rfl]
          go_wp2_with fail
          go_ret
          exact ⟨rfl, hEg.trans hx4⟩

        · have e2 : decide ((4096 : Int) < (j : Int)) = false := by simp; omega
          clear hSs
          have hsz : S.size ≤ 4096 := by rw [HSs.out]; omega
          go_wp2_with fail
          refine (RatParse_any S 4300 _ hsz (by omega) (by decide) (by decide) (hmx.ext hE3)).mono ?_
          rintro e w3 ⟨-, h3⟩
          obtain ⟨rfl, hx3⟩ := h3 HB.out
          unfold zeroRat
          have hEf := hE3.trans hx3
          go_upto_region 13 with fail
          have hy3 : Ext w3 (w3.alloc (.cells #[.bool false, .slice none 0 0, .bool false, .slice none 0 0] 29)) := (Ext.refl w3).alloc _
          have B8 := Box.new w3 29 #[.bool false, .slice none 0 0, .bool false, .slice none 0 0]
          have hEg := hEf.trans hy3
          generalize (w3.alloc (.cells #[.bool false, .slice none 0 0, .bool false, .slice none 0 0] 29)) = V at *
          have hZB : RatB V (.agg #[.bool false, .slice none 0 0, .bool false, .slice none 0 0]) 0 1 := ⟨RatV.zero _, QB_zero (by decide)⟩
          have q0 := B8.c0
          have q1 := B8.c1
          have q2 := B8.c2
          have q3 := B8.c3
          go_wp2_with fail
          refine (RatSign_b _ _ _ _ hZB).mono ?_
          rintro e w4 ⟨rfl, hx4⟩
          rw [show (Rat.num 0).sign = 0 from rfl]
          go_wp2_with fail
          go_ret
          exact ⟨rfl, hEg.trans hx4⟩

      case false =>
        have hcell : ∀ i, i < j → wr.cell? ⟨w1.heap.size, i, none⟩ = some (.int .u8 49) := fun i hi => by rw [ha.cell hi, hf i hi]; rfl
        have cv := fun w' (hw : Ext wr w') => run_convert_bytes_back (P := Tryd.prog) w' 24 9 5 ⟨w1.heap.size, 0, none⟩ j (ones j) Tryd.underlying24 Tryd.underlying5 Tryd.underlying9 (fun i hi => by
          rw [ones_len] at hi
          rw [Lib.add_plain, Nat.zero_add, hw.cell (hcell i hi), ones_get]; rfl)
        simp only [ones_len] at cv
        obtain ⟨S, hS⟩ : ∃ S : ByteArray, S = ⟨(ones j).toArray⟩ := ⟨_, rfl⟩
        rw [← hS] at cv
        have hSs : S.size = j := by
          have := ones_len j
          rw [hS]; simpa [ByteArray.size] using this
        have HB := Lib.hid (show isRat S.data.toList = true by rw [hS]; exact ones_rat (by omega))
        have HSs := Lib.hid hSs
        have HCV := Lib.hid cv
        have cv0 := cv wr (Ext.refl wr)
        clear ha hf hS hE hx1 hext hcell cv
        have hE3 := hE1
        by_cases hb : 4096 < j
        · have e2 : decide ((4096 : Int) < (j : Int)) = true := by simp; omega
          have hsz : 4096 < S.size := by omega
          clear hSs
          go_wp2_with fail
          refine (RatParse_full S _ hsz).mono ?_
          rintro e w3 ⟨rfl, hx3⟩
          unfold zeroRat
          have hEf := hE3.trans hx3
          go_upto_region 13 with fail
          have hy3 : Ext w3 (w3.alloc (.cells #[.bool false, .slice none 0 0, .bool false, .slice none 0 0] 29)) := (Ext.refl w3).alloc _
          have B8 := Box.new w3 29 #[.bool false, .slice none 0 0, .bool false, .slice none 0 0]
          have hEg := hEf.trans hy3
          generalize (w3.alloc (.cells #[.bool false, .slice none 0 0, .bool false, .slice none 0 0] 29)) = V at *
          have hZB : RatB V (.agg #[.bool false, .slice none 0 0, .bool false, .slice none 0 0]) 0 1 := ⟨RatV.zero _, QB_zero (by decide)⟩
          have q0 := B8.c0
          have q1 := B8.c1
          have q2 := B8.c2
          have q3 := B8.c3
          go_wp2_with fail
          refine (RatSign_b _ _ _ _ hZB).mono ?_
          rintro e w4 ⟨rfl, hx4⟩
          rw [show (Rat.num 0).sign = 0 from rfl]
          go_wp2_with fail
          go_ret
          exact ⟨rfl, hEg.trans hx4⟩

        · have e2 : decide ((4096 : Int) < (j : Int)) = false := by simp; omega
          clear hSs
          have hsz : S.size ≤ 4096 := by rw [HSs.out]; omega
          go_wp2_with fail
          refine (RatParse_b S 4300 _ hsz (by omega) (by decide) (by decide) (hmx.ext hE3)).mono ?_
          rintro e w3 ⟨v3, X, rfl, h3, hXv, hx3⟩
          rw [HB.out]
          have hXs := hXv HB.out
          obtain ⟨p3, A3, n3, c3, p3', A3', n3', c3', rfl⟩ := h3.1.shape
          have HST := Lib.hid (show S = ⟨(ratText X).toArray⟩ by rw [hXs, text_parse HB.out])
          clear hXv hXs
          go_upto_region 13 with fail
          have hy3 : Ext w3 (w3.alloc (.cells #[.bool p3, .slice A3 n3 c3, .bool p3', .slice A3' n3' c3'] 29)) := (Ext.refl w3).alloc _
          have B8 := Box.new w3 29 #[.bool p3, .slice A3 n3 c3, .bool p3', .slice A3' n3' c3']
          have hxy := hx3.trans hy3
          have hX := h3.ext hy3
          have hEg := hE3.trans hxy
          have hTab := htab.ext hEg
          generalize (w3.alloc (.cells #[.bool p3, .slice A3 n3 c3, .bool p3', .slice A3' n3' c3'] 29)) = V at *
          have cv2 := fun w' (hw : Later V w') => HCV.out w' (hxy.trans hw)
          clear h3 hx3 hy3 hxy cv0
          have k80 : ∀ w', Later V w' → w'.cell? ⟨_, 0, none⟩ = some _ := fun w' h => (B8.ext h).c0
          have k81 : ∀ w', Later V w' → w'.cell? ⟨_, 1, none⟩ = some _ := fun w' h => (B8.ext h).c1
          have k82 : ∀ w', Later V w' → w'.cell? ⟨_, 2, none⟩ = some _ := fun w' h => (B8.ext h).c2
          have k83 : ∀ w', Later V w' → w'.cell? ⟨_, 3, none⟩ = some _ := fun w' h => (B8.ext h).c3
          have hS0 := Later.refl V
          go_upto_region 17 with fail
          go_region_held3 (fun w' => Later V w') ((repeat (first | assumption | apply Later.drew | apply Later.drewN | apply Later.alloc | (refine Later.step ?_ (by assumption))))) (first
              | (go_at_call 14; (with_reducible refine (RatText_n _ _ _ _ S HST.out (hX.ext (by repeat (first | (with_reducible exact Ext.refl _) | (with_reducible apply Ext.drew) | (with_reducible apply Ext.drewN) | (with_reducible refine Ext.trans ?_ (by assumption))))) (by decide) (TabOK.ext hTab (by repeat (first | (with_reducible exact Ext.refl _) | (with_reducible apply Ext.drew) | (with_reducible apply Ext.drewN) | (with_reducible refine Ext.trans ?_ (by assumption)))))).mono ?_); rintro e wk ⟨rfl, hxk⟩)
            )
          all_goals go_wp2_with fail
          all_goals go_ret
          all_goals exact ⟨rfl, hEg.trans (show Later V _ by first | assumption | (apply Later.drew; assumption) | (apply Later.drewN; assumption))⟩
end Go.Proofs.YteohdiaegnfbaaaDoor.Rt

/- Walk: value of the reference (a number is read). -/
import Derived.Test.YtnbmmgeoglfbdaaDoorSRNum
import Derived.Test.YtnbmmgeoglfbdaaDoorSRef3
set_option linter.unusedVariables false
set_option linter.unusedSimpArgs false
namespace Go.Proofs.YtnbmmgeoglfbdaaDoor.Sc
open Go.RowKit Go.Proofs.YtnbmmgeoglfbdaaDoor.Big
open Go.Lib (itoa decDigits)

def isdg (c : UInt8) : Bool := decide (48 ≤ c.toNat) && decide (c.toNat ≤ 57)
/-- the digits among the first k characters -/
def dgs (t : BL) (k : Nat) : BL := if isNeg t = true then (t.take k).drop 1 else t.take k
theorem dgs_zero (t : BL) : dgs t 0 = [] := by unfold dgs; split <;> simp
theorem dgs_one {t : BL} (h : isNeg t = true) : dgs t 1 = [] := by
  unfold dgs; rw [if_pos h]
  cases t <;> simp
theorem dgs_step {t : BL} {k : Nat} {c : UInt8} (hc : t[k]? = some c) (hk : isNeg t = true → k ≠ 0) : dgs t (k + 1) = dgs t k ++ [c] := by
  unfold dgs
  by_cases hn : isNeg t = true
  · have := hk hn
    rw [if_pos hn, if_pos hn, List.take_add_one, hc, List.drop_append_of_le_length]
    · rfl
    · have := (List.getElem?_eq_some_iff.1 hc).1
      rw [List.length_take]; omega
  · rw [if_neg hn, if_neg hn, List.take_add_one, hc]; rfl
theorem dgs_end (t : BL) : dgs t t.length = if isNeg t = true then t.drop 1 else t := by unfold dgs; rw [List.take_length]
theorem spelt_dgs (t : BL) : spelt t = (dgs t t.length).all isdg := by rw [dgs_end]; rfl
theorem bad_spelt {t : BL} {k : Nat} {c : UInt8} (hc : t[k]? = some c) (hk : isNeg t = true → k ≠ 0) (hb : isdg c = false) : spelt t = false := by
  rw [spelt_dgs, dgs_end]
  have hm : c ∈ (if isNeg t = true then t.drop 1 else t) := by
    by_cases hn : isNeg t = true
    · rw [if_pos hn]
      refine List.mem_of_getElem? (i := k - 1) ?_
      rw [List.getElem?_drop, show 1 + (k - 1) = k by have := hk hn; omega]; exact hc
    · rw [if_neg hn]; exact List.mem_of_getElem? hc
  rcases hd : (if isNeg t = true then t.drop 1 else t).all isdg with _ | _
  · rfl
  · rw [List.all_eq_true.1 hd c hm] at hb; cases hb
theorem wrap_w64 (x : Int) : IntKind.i64.wrap x = w64 x := by rw [IntKind.wrap_i64]; unfold w64; omega
theorem valI_dgs (t : BL) : valI t = if isNeg t = true then w64 (vneg (dgs t t.length) 0) else w64 (-(vneg (dgs t t.length) 0)) := by
  rw [dgs_end]; unfold valI
  split <;> rfl
theorem isdg_iff {c : UInt8} {n : Nat} (h : n = c.toNat) : isdg c = (decide (48 ≤ n) && decide (n ≤ 57)) := by rw [h]; rfl
set_option maxHeartbeats 4000000 in
set_option maxRecDepth 100000 in
theorem value_any (t : BL) (w : World) (ht : t.length ≤ 1099511627776) : Calls Tryd.prog 48 #[.string (str t)] w (NumPost w (num t)) := by
  obtain ⟨o, ho⟩ : ∃ o, o = num t := ⟨_, rfl⟩
  have HO := Lib.hid ho
  rw [← ho]
  clear ho
  by_cases ht0 : t = []
  · have HF : Hid (o = none) := Lib.hid (by rw [HO.out]; exact num_long (.inl ht0))
    subst ht0
    rw [show str [] = (⟨#[]⟩ : ByteArray) from rfl]
    clear HO
    go_enter Tryd.func48, Tryd.ntmps48
    go_wp2_with fail
    go_ret2
    exact ⟨⟨_, false, rfl, by rw [HF.out]; rfl, fun u h => by rw [HF.out] at h; cases h⟩, Ext.refl _⟩
  have hss : (str t).size = t.length := rfl
  have hpos : 0 < t.length := List.length_pos_iff.2 ht0
  have q1 : ((t.length : Int) == 0) = false := by simp; omega
  by_cases h20 : 20 < t.length
  · have HF : Hid (o = none) := Lib.hid (by rw [HO.out]; exact num_long (.inr h20))
    have q2 : decide ((20 : Int) < (t.length : Int)) = true := by simp; omega
    clear HO ht0
    go_enter Tryd.func48, Tryd.ntmps48
    go_wp2_with fail
    go_ret2
    exact ⟨⟨_, false, rfl, by rw [HF.out]; rfl, fun u h => by rw [HF.out] at h; cases h⟩, Ext.refl _⟩
  have q2 : decide ((20 : Int) < (t.length : Int)) = false := by simp; omega
  have hlt0 : 0 < (str t).size := by omega
  obtain ⟨ng, hng⟩ : ∃ z, z = isNeg t := ⟨_, rfl⟩
  have q3 : ((((str t)[0]'hlt0).toNat : Int) == 45) = ng := by
    rw [hng]
    cases t with
    | nil => exact absurd rfl ht0
    | cons c r =>
      have : (str (c :: r))[0]'hlt0 = c := by simp [str, ByteArray.getElem_eq_getElem_data]
      rw [this]
      unfold isNeg
      rw [Bool.eq_iff_iff]
      simp only [List.head?_cons, beq_iff_eq, Option.some.injEq]
      constructor
      · intro h; exact UInt8.toNat_inj.1 (by show c.toNat = 45; omega)
      · intro h; rw [h]; rfl
  have HNG := Lib.hid hng
  clear ht0 hng
  go_enter Tryd.func48, Tryd.ntmps48
  go_wp2_with fail
  go_loopw [4, 6] (fun nv i wr => ∃ (k : Nat) (n : Int), k ≤ t.length ∧ i = .int .i64 k ∧ nv = .int .i64 n ∧ -9223372036854775808 ≤ n ∧ n ≤ 9223372036854775807 ∧ Hid (n = w64 (vneg (dgs t k) 0)) ∧ w = wr) (fun _ i _ => t.length - (intOf i).toNat)
  case atStart => exact ⟨0, 0, by omega, rfl, rfl, by omega, by omega, Lib.hid (by rw [dgs_zero]; rfl), rfl⟩
  case round =>
    obtain ⟨k, n, hk, rfl, rfl, hn1, hn2, HN, rfl⟩ := hrel
    by_cases hlt : k < t.length
    · have q4 : decide ((k : Int) < (t.length : Int)) = true := by simp; omega
      by_cases hskip : ng = true ∧ k = 0
      · obtain ⟨hn', rfl⟩ := hskip
        subst hn'
        have HN2 : Hid (n = w64 (vneg (dgs t 1) 0)) := Lib.hid (by rw [dgs_one HNG.out.symm, HN.out, dgs_zero])
        clear HN
        go_wp2_with fail
        exact ⟨⟨1, n, by omega, by go_num, rfl, hn1, hn2, HN2, trivial⟩, by simp [intOf]; omega⟩
      · have hlt' : k < (str t).size := by omega
        obtain ⟨c, hc⟩ : ∃ c, t[k]? = some c := ⟨_, List.getElem?_eq_getElem hlt⟩
        have hg : (str t)[k]'hlt' = c := str_get hc hlt'
        have hkn : isNeg t = true → k ≠ 0 := fun h e => hskip ⟨by rw [HNG.out]; exact h, e⟩
        have q5 : ng = false ∨ ((k : Int) == 0) = false := by
          rcases Bool.eq_false_or_eq_true ng with h | h
          · right
            have : k ≠ 0 := fun e => hskip ⟨h, e⟩
            simp; omega
          · exact .inl h
        obtain ⟨C, hC⟩ : ∃ C : Nat, C = c.toNat := ⟨_, rfl⟩
        have hd := isdg_iff hC
        have hgC : ((((str t)[k]'hlt').toNat : Nat) : Int) = (C : Int) := by rw [hg, hC]
        by_cases h48 : C < 48
        · have f1 : decide (((((str t)[k]'hlt').toNat : Nat) : Int) < 48) = true := by rw [hgC]; simp; omega
          have HF : Hid (o = none) := Lib.hid (by rw [HO.out]; exact num_spelt (bad_spelt hc hkn (by rw [hd, decide_eq_false (show ¬ 48 ≤ C by omega)]; rfl)))
          clear hgC hd hC hg hc hskip hkn HN
          rcases q5 with rfl | q5
          all_goals
            by_cases hk0 : ((k : Int) == 0) = true
            all_goals
              go_wp2_with fail
              go_ret2
              exact ⟨⟨_, false, rfl, by rw [HF.out]; rfl, fun u h => by rw [HF.out] at h; cases h⟩, Ext.refl _⟩
        · have f1 : decide (((((str t)[k]'hlt').toNat : Nat) : Int) < 48) = false := by rw [hgC]; simp; omega
          by_cases h57 : 57 < C
          · have f2 : decide ((57 : Int) < ((((str t)[k]'hlt').toNat : Nat) : Int)) = true := by rw [hgC]; simp; omega
            have HF : Hid (o = none) := Lib.hid (by rw [HO.out]; exact num_spelt (bad_spelt hc hkn (by rw [hd, decide_eq_false (show ¬ C ≤ 57 by omega)]; simp)))
            clear hgC hd hC hg hc hskip hkn HN
            rcases q5 with rfl | q5
            all_goals
              by_cases hk0 : ((k : Int) == 0) = true
              all_goals
                go_wp2_with fail
                go_ret2
                exact ⟨⟨_, false, rfl, by rw [HF.out]; rfl, fun u h => by rw [HF.out] at h; cases h⟩, Ext.refl _⟩
          · have f2 : decide ((57 : Int) < ((((str t)[k]'hlt').toNat : Nat) : Int)) = false := by rw [hgC]; simp; omega
            obtain ⟨d, hd9⟩ : ∃ d : Nat, C = 48 + d := ⟨C - 48, by omega⟩
            have f3 : IntKind.u8.wrap (((((str t)[k]'hlt').toNat : Nat) : Int) - 48) = (d : Int) := by rw [hgC, hd9, IntKind.wrap_u8]; omega
            have hd10 : d ≤ 9 := by omega
            have HST : Hid (w64 (w64 (10 * n) - d) = w64 (vneg (dgs t (k + 1)) 0)) := Lib.hid (by
              rw [dgs_step hc hkn, vneg_append]
              show _ = w64 (10 * _ - digI c)
              rw [show digI c = (d : Int) by unfold digI; omega, HN.out, w64_step])
            have r1 := wrap_w64 (10 * n)
            obtain ⟨P, hP⟩ : ∃ P, P = w64 (10 * n) := ⟨_, rfl⟩
            have hPr := w64_range (10 * n)
            rw [← hP] at r1 HST hPr
            have r2 := wrap_w64 (P - d)
            obtain ⟨Q, hQ⟩ : ∃ Q, Q = w64 (P - d) := ⟨_, rfl⟩
            have hQr := w64_range (P - d)
            rw [← hQ] at r2 HST hQr
            obtain ⟨hP1, hP2⟩ := hPr
            obtain ⟨hQ1, hQ2⟩ := hQr
            clear hgC hd hC hg hc hskip hkn HN hP hQ hd9 h48 h57
            rcases q5 with rfl | q5
            all_goals
              by_cases hk0 : ((k : Int) == 0) = true
              all_goals
                go_wp2_with fail
                exact ⟨⟨k + 1, Q, by omega, by go_num, rfl, hQ1, hQ2, HST, trivial⟩, by simp [intOf]; omega⟩
    · have q4 : decide ((k : Int) < (t.length : Int)) = false := by simp; omega
      obtain rfl : k = t.length := by omega
      obtain ⟨hsome, hval⟩ := num_valI t
      have HV := Lib.hid (valI_dgs t)
      have HSO := Lib.hid hsome
      have HVA := Lib.hid hval
      obtain ⟨D, hD⟩ : ∃ D, D = vneg (dgs t t.length) 0 := ⟨_, rfl⟩
      rw [← hD] at HV HN
      clear hsome hval hD
      have r1 := wrap_w64 (0 - n)
      have HNE : Hid (w64 (0 - n) = w64 (-D)) := Lib.hid (by rw [HN.out, w64_neg])
      cases ng with
      | true =>
        have HVN : Hid (valI t = n) := Lib.hid (by rw [HV.out, if_pos HNG.out.symm, HN.out])
        have HEQ : Hid (((str (itoa n)).toList == (str t).toList) = o.isSome) := Lib.hid (by rw [HO.out, HSO.out, HVN.out, str_eq_iff]; rw [Bool.eq_iff_iff]; simp)
        clear HN HV HNE r1
        go_wp2_with fail
        refine (Number_any n _ ⟨hn1, hn2⟩).mono ?_
        rintro e w9 ⟨rfl, hx9⟩
        have heq := HEQ.out
        obtain ⟨T, hT⟩ : ∃ T, T = str (itoa n) := ⟨_, rfl⟩
        rw [← hT] at heq ⊢
        obtain ⟨ob, hob⟩ : ∃ ob, ob = o.isSome := ⟨_, rfl⟩
        rw [← hob] at heq
        have HOB := Lib.hid hob
        clear hob hT HEQ
        go_wp2_with fail
        go_ret2
        exact ⟨⟨n, ob, rfl, HOB.out, fun u h => by rw [← HVN.out]; exact HVA.out u (by rw [← HO.out]; exact h)⟩, hx9⟩
      | false =>
        obtain ⟨m, hm⟩ : ∃ m, m = w64 (0 - n) := ⟨_, rfl⟩
        have hmr := w64_range (0 - n)
        rw [← hm] at r1 HNE hmr
        obtain ⟨hm1, hm2⟩ := hmr
        have HVN : Hid (valI t = m) := Lib.hid (by rw [HV.out, if_neg (by rw [← HNG.out]; decide), HNE.out])
        have HEQ : Hid (((str (itoa m)).toList == (str t).toList) = o.isSome) := Lib.hid (by rw [HO.out, HSO.out, HVN.out, str_eq_iff]; rw [Bool.eq_iff_iff]; simp)
        have r2 : IntKind.i64.wrap (-n) = m := by rw [← r1]; congr 1; omega
        clear HN HV HNE hm
        go_wp2_with fail
        have hmi : inI m := ⟨hm1, hm2⟩
        with_reducible refine (Number_any m _ hmi).mono ?_
        rintro e w9 ⟨rfl, hx9⟩
        have heq := HEQ.out
        obtain ⟨T, hT⟩ : ∃ T, T = str (itoa m) := ⟨_, rfl⟩
        rw [← hT] at heq ⊢
        obtain ⟨ob, hob⟩ : ∃ ob, ob = o.isSome := ⟨_, rfl⟩
        rw [← hob] at heq
        have HOB := Lib.hid hob
        clear hob hT HEQ
        go_wp2_with fail
        go_ret2
        exact ⟨⟨m, ob, rfl, HOB.out, fun u h => by rw [← HVN.out]; exact HVA.out u (by rw [← HO.out]; exact h)⟩, hx9⟩
end Go.Proofs.YtnbmmgeoglfbdaaDoor.Sc

/- Walks: digits, Number, gcd1 and Multiplier of the reference. -/
import Derived.Test.YtljncdcjkdgkeaaGreatDoorRCDO
set_option linter.unusedVariables false
set_option linter.unusedSimpArgs false
namespace Go.Proofs.YtljncdcjkdgkeaaGreatDoor.Dc
open Go.RowKit Go.Proofs.YtljncdcjkdgkeaaGreatDoor.Big Go.Proofs.YtljncdcjkdgkeaaGreatDoor.Lp Go.Proofs.YtljncdcjkdgkeaaGreatDoor.Rt
open Go.Lib (itoa decDigits)

theorem digs_of {l : BL} (h : ∀ c ∈ l, 48 ≤ c.toNat ∧ c.toNat ≤ 57) : digs l = true := by
  unfold digs
  refine List.all_eq_true.2 (fun c hc => ?_)
  simp only [Bool.and_eq_true, decide_eq_true_eq]
  exact ⟨UInt8.le_iff_toNat_le.2 (h c hc).1, UInt8.le_iff_toNat_le.2 (h c hc).2⟩
theorem digR_bad {t : BL} {k : Nat} {c : UInt8} (hc : t[k]? = some c) (h : ¬ (48 ≤ c.toNat ∧ c.toNat ≤ 57)) : digR t = false := by
  cases hd : digR t with
  | false => rfl
  | true => exact absurd (digs_mem (digR_iff.1 hd).2.1 c (List.mem_of_getElem? hc)) h
theorem digR_zero {t : BL} (hc : t[0]? = some 48) : digR t = false := by
  cases hd : digR t with
  | false => rfl
  | true => exact absurd (by rw [List.head?_eq_getElem?]; exact hc) (digR_iff.1 hd).2.2
theorem digR_end {t : BL} (h : ∀ c ∈ t, 48 ≤ c.toNat ∧ c.toNat ≤ 57) (h0 : 0 < t.length → t[0]? ≠ some 48) : digR t = decide (0 < t.length) := by
  rw [Bool.eq_iff_iff, digR_iff, decide_eq_true_eq]
  constructor
  · rintro ⟨h1, -, -⟩
    cases t with
    | nil => cases h1
    | cons => simp
  · intro hl
    refine ⟨?_, digs_of h, ?_⟩
    · cases t with
      | nil => exact absurd hl (by simp)
      | cons => rfl
    · rw [List.head?_eq_getElem?]; exact h0 hl
theorem mem_take {t : BL} {k : Nat} {c : UInt8} {P : UInt8 → Prop} (h : ∀ x ∈ t.take k, P x) (hc : t[k]? = some c) (hp : P c) : ∀ x ∈ t.take (k + 1), P x := by
  intro x hx
  rw [List.take_add_one, hc, List.mem_append] at hx
  rcases hx with hx | hx
  · exact h x hx
  · rw [Option.toList_some, List.mem_singleton] at hx; rw [hx]; exact hp
set_option maxHeartbeats 1000000 in
set_option maxRecDepth 100000 in
theorem digits_b (t : BL) (w : World) (ht : t.length ≤ 1099511627776) : Calls Tryz.prog 114 #[.string (str t)] w (fun e w' => e = .returned (.bool (digR t)) ∧ w' = w) := by
  obtain ⟨V, hV⟩ : ∃ V, V = digR t := ⟨_, rfl⟩
  rw [← hV]
  have HV := Lib.hid hV
  clear hV
  have hss : (str t).size = t.length := rfl
  go_enter Tryz.func114, Tryz.ntmps114
  go_wp2_with fail
  go_loopw [3] (fun i wr => ∃ k : Nat, k ≤ t.length ∧ i = .int .i64 k ∧ Hid (∀ c ∈ t.take k, 48 ≤ c.toNat ∧ c.toNat ≤ 57) ∧ Hid (0 < k → t[0]? ≠ some 48) ∧ w = wr) (fun i _ => t.length - (intOf i).toNat)
  case atStart => exact ⟨0, by omega, rfl, Lib.hid (by simp), Lib.hid (by omega), rfl⟩
  case round =>
    obtain ⟨k, hk, rfl, HK, H0, rfl⟩ := hrel
    by_cases hlt : k < t.length
    · have hlt' : k < (str t).size := by omega
      obtain ⟨c, hc⟩ : ∃ c, t[k]? = some c := ⟨_, List.getElem?_eq_getElem hlt⟩
      have hg : (str t)[k]'hlt' = c := str_get hc hlt'
      obtain ⟨C, hC⟩ : ∃ C : Nat, C = c.toNat := ⟨_, rfl⟩
      have hgC : ((((str t)[k]'hlt').toNat : Nat) : Int) = (C : Int) := by rw [hg, hC]
      by_cases h48 : C < 48
      · have f1 : decide (((((str t)[k]'hlt').toNat : Nat) : Int) < 48) = true := by rw [hgC]; simp; omega
        have HF : Hid (V = false) := Lib.hid (by rw [HV.out]; exact digR_bad hc (by omega))
        clear hgC hC hg hc
        go_wp2_with fail
        go_ret
        rw [HF.out]
        exact ⟨rfl, rfl⟩
      · have f1 : decide (((((str t)[k]'hlt').toNat : Nat) : Int) < 48) = false := by rw [hgC]; simp; omega
        by_cases h57 : 57 < C
        · have f2 : decide ((57 : Int) < ((((str t)[k]'hlt').toNat : Nat) : Int)) = true := by rw [hgC]; simp; omega
          have HF : Hid (V = false) := Lib.hid (by rw [HV.out]; exact digR_bad hc (by omega))
          clear hgC hC hg hc
          go_wp2_with fail
          go_ret
          rw [HF.out]
          exact ⟨rfl, rfl⟩
        · have f2 : decide ((57 : Int) < ((((str t)[k]'hlt').toNat : Nat) : Int)) = false := by rw [hgC]; simp; omega
          by_cases hz : k = 0 ∧ C = 48
          · obtain ⟨rfl, h9⟩ := hz
            have f3 : (((((str t)[0]'hlt').toNat : Nat) : Int) == 48) = true := by rw [hgC, h9]; rfl
            have HF : Hid (V = false) := Lib.hid (by rw [HV.out]; exact digR_zero (by rw [hc]; congr 1; exact UInt8.toNat_inj.1 (by rw [← hC, h9]; rfl)))
            clear hgC hC hg hc
            go_wp2_with fail
            go_ret
            rw [HF.out]
            exact ⟨rfl, rfl⟩
          · have HK2 := Lib.hid (mem_take (P := fun c => 48 ≤ c.toNat ∧ c.toNat ≤ 57) HK.out hc (by omega))
            have H02 : Hid (0 < k + 1 → t[0]? ≠ some 48) := Lib.hid (fun _ => by
              by_cases hk0 : k = 0
              · subst hk0
                rw [hc]
                intro e
                injection e with e
                exact hz ⟨rfl, by rw [hC, e]; rfl⟩
              · exact H0.out (by omega))
            by_cases hk0 : k = 0
            · have f3 : (((((str t)[k]'hlt').toNat : Nat) : Int) == 48) = false := by rw [hgC]; simp; omega
              subst hk0
              clear hgC hC hg hc hz HK H0
              go_wp2_with fail
              exact ⟨⟨1, by omega, by go_num, HK2, H02, trivial⟩, by simp [intOf]; omega⟩
            · have f3 : ((k : Int) == 0) = false := by simp; omega
              clear hgC hC hg hc hz HK H0
              go_wp2_with fail
              exact ⟨⟨k + 1, by omega, by go_num, HK2, H02, trivial⟩, by simp [intOf]; omega⟩
    · obtain rfl : k = t.length := by omega
      have hk' := HK.out
      rw [List.take_length] at hk'
      have HF : Hid (V = decide (0 < t.length)) := Lib.hid (by rw [HV.out]; exact digR_end hk' H0.out)
      clear HK H0 hk'
      obtain ⟨b, hb⟩ : ∃ b, decide ((0 : Int) < (t.length : Int)) = b := ⟨_, rfl⟩
      have HB : Hid (decide (0 < t.length) = b) := Lib.hid (by rw [← hb]; simp)
      go_wp2_with fail
      go_ret
      rw [HF.out, HB.out]
      exact ⟨rfl, rfl⟩
theorem rest_drop (t : BL) : (∃ r, t = 45 :: r ∧ rest t = r ∧ negd t = true) ∨ (rest t = t ∧ negd t = false ∧ t[0]? ≠ some 45) := by
  cases t with
  | nil => exact .inr ⟨rest_nil, by decide, by simp⟩
  | cons c r =>
    by_cases h : c = 45
    · subst h; exact .inl ⟨r, rfl, rest_neg r, negd_yes r⟩
    · exact .inr ⟨rest_pos (negd_cons h), negd_cons h, by simpa using h⟩
theorem rest_short {t : BL} (hs : Short t) : Short (rest t) := by
  rcases rest_drop t with ⟨r, rfl, h, -⟩ | ⟨h, -, -⟩
  · rw [h]; exact Short.right (a := [45]) (b := r) hs
  · rw [h]; exact hs
theorem numR_no {t : BL} (h : ¬ ((rest t).isEmpty = false ∧ digs (rest t) = true)) : numR t = none := by
  unfold numR
  rw [if_neg (fun k => h ⟨k.1, k.2.1⟩)]
theorem numR_end {t : BL} (h : (rest t).isEmpty = false) (hd : digs (rest t) = true) : (numR t).isSome = decide (itoa (parseZ t) = t) ∧ ∀ u, numR t = some u → parseZ t = u := by
  unfold numR
  by_cases k : itoa (parseZ t) = t
  · rw [if_pos ⟨h, hd, k⟩, decide_eq_true k]
    exact ⟨rfl, fun u e => by injection e⟩
  · rw [if_neg (fun q => k q.2.2), decide_eq_false k]
    exact ⟨rfl, fun u e => by cases e⟩
def NumP (w : World) (o : Option Int) (e : Ending) (w' : World) : Prop := (∃ v b, e = .returned (.tuple #[.int .i64 v, .bool b]) ∧ b = o.isSome ∧ (∀ u, o = some u → v = u)) ∧ w' = w
theorem valD_bound {r : BL} (hs : Short r) {j : Nat} (hd : ∀ c ∈ r.take j, 48 ≤ c.toNat ∧ c.toNat ≤ 57) : valD (r.take j) < 1000000000000000 := by
  have h0 : Short (r.take j) := Short.left (b := r.drop j) (by rw [List.take_append_drop]; exact hs)
  have h1 := valD_lt (digs_of hd)
  have h2 : 10 ^ (r.take j).length ≤ 10 ^ 15 := Nat.pow_le_pow_right (by decide) (h0.all hd)
  have : (10 : Nat) ^ 15 = 1000000000000000 := by decide
  omega
set_option maxHeartbeats 2000000 in
set_option maxRecDepth 100000 in
/-- the part of Number that is alike for both signs: f bytes are a sign -/
theorem Number_b (t : BL) (w : World) (hs : Short t) (ht : t.length ≤ 1099511627776) : Calls Tryz.prog 93 #[.string (str t)] w (NumP w (numR t)) := by
  obtain ⟨o, ho⟩ : ∃ o, o = numR t := ⟨_, rfl⟩
  rw [← ho]
  have HO := Lib.hid ho
  clear ho
  have hss : (str t).size = t.length := rfl
  obtain ⟨r, hr⟩ : ∃ r, r = rest t := ⟨_, rfl⟩
  have hrs : Short r := by rw [hr]; exact rest_short hs
  obtain ⟨f, sg, hf, hfl, hget, hsg⟩ : ∃ (f : Nat) (sg : Int), ((f = 1 ∧ sg = -1 ∧ negd t = true) ∨ (f = 0 ∧ sg = 1 ∧ negd t = false ∧ t[0]? ≠ some 45)) ∧ t.length = f + r.length ∧ (∀ j, t[f + j]? = r[j]?) ∧ (f = 1 → t[0]? = some 45) := by
    rcases rest_drop t with ⟨q, h1, h2, h3⟩ | ⟨h1, h2, h3⟩
    · refine ⟨1, -1, .inl ⟨rfl, rfl, h3⟩, ?_, fun j => ?_, fun _ => ?_⟩
      · rw [hr, h2, h1]; simp; omega
      · rw [hr, h2, h1, Nat.add_comm]; rfl
      · rw [h1]; rfl
    · refine ⟨0, 1, .inr ⟨rfl, rfl, h2, h3⟩, ?_, fun j => ?_, fun h => by cases h⟩
      · rw [hr, h1]; omega
      · rw [hr, h1, Nat.zero_add]
  have HEND : Hid (∀ n : Nat, r ≠ [] → digs r = true → n = valD r → (∀ z : Int, z = sg * (n : Int) → ((str (itoa z)).toList == (str t).toList) = o.isSome ∧ ∀ u, o = some u → z = u)) := Lib.hid (fun n h0 hd hn z hz => by
    have e0 : (rest t).isEmpty = false := by rw [← hr]; simpa using h0
    obtain ⟨k1, k2⟩ := numR_end e0 (by rw [← hr]; exact hd)
    have e1 : z = parseZ t := by
      rw [hz, hn]
      unfold parseZ sgn
      rw [← hr]
      rcases hf with ⟨-, h2, h3⟩ | ⟨-, h2, h3, -⟩
      · rw [h2, h3]; simp
      · rw [h2, h3]; simp
    rw [str_eq_iff, e1, HO.out]
    exact ⟨k1.symm, k2⟩)
  have HNO : Hid (¬ (r ≠ [] ∧ digs r = true) → o = none) := Lib.hid (fun h => by
    rw [HO.out]
    refine numR_no (fun k => h ⟨?_, by rw [hr]; exact k.2⟩)
    rw [hr]; simpa using k.1)
  have hsgn : (f = 1 ∧ sg = -1 ∧ 0 < t.length ∧ t[0]? = some 45) ∨ (f = 0 ∧ sg = 1 ∧ t[0]? ≠ some 45) := by
    rcases hf with ⟨h, h2, -⟩ | ⟨h, h2, -, h3⟩
    · exact .inl ⟨h, h2, by omega, hsg h⟩
    · exact .inr ⟨h, h2, h3⟩
  have HGET := Lib.hid hget
  have HRS := Lib.hid hrs
  have HDL : Hid (15 < r.length → ¬ (r ≠ [] ∧ digs r = true)) := Lib.hid (fun h q => by have := hrs.all (digs_mem q.2); omega)
  have hfa : t.length ≤ f + r.length := Nat.le_of_eq hfl
  have hfb : f + r.length ≤ t.length := Nat.le_of_eq hfl.symm
  clear hget hrs hf hr hsg hfl
  rcases hsgn with ⟨hfe, rfl, hl0, h45⟩ | ⟨hfe, rfl, h45⟩
  · have HFE := Lib.hid hfe
    have hl0' : 0 < (str t).size := by omega
    have i1 : decide ((0 : Int) < (t.length : Int)) = true := by simp; omega
    have hg : (str t)[0]'hl0' = 45 := str_get h45 hl0'
    have f0 : (((((str t)[0]'hl0').toNat : Nat) : Int) == 45) = true := by rw [hg]; rfl
    clear hg h45
    by_cases hr0 : r = []
    · have e1 : ((t.length : Int) == 1) = true := by
        have h9 : r.length = 0 := by rw [hr0]; rfl
        rw [show t.length = 1 by omega]; rfl
      have HF := Lib.hid (HNO.out (fun q => q.1 hr0))
      clear hfe hr0
      go_enter Tryz.func93, Tryz.ntmps93
      go_wp2_with fail
      go_ret2
      exact ⟨⟨_, false, rfl, by rw [HF.out]; rfl, fun u h => by rw [HF.out] at h; cases h⟩, rfl⟩
    · have hrp : 0 < r.length := List.length_pos_iff.2 hr0
      have e1 : ((t.length : Int) == 1) = false := by rw [beq_eq_false_iff_ne]; omega
      by_cases h20 : 20 < r.length
      · have e2 : decide ((21 : Int) < (t.length : Int)) = true := by simp; omega
        have HF := Lib.hid (HNO.out (HDL.out (by omega)))
        clear hfe hr0
        go_enter Tryz.func93, Tryz.ntmps93
        go_wp2_with fail
        go_ret2
        exact ⟨⟨_, false, rfl, by rw [HF.out]; rfl, fun u h => by rw [HF.out] at h; cases h⟩, rfl⟩
      · have e2 : decide ((21 : Int) < (t.length : Int)) = false := by simp; omega
        have HR0 := Lib.hid hr0
        clear hr0 hfe
        go_enter Tryz.func93, Tryz.ntmps93
        go_wp2_with fail
        go_loopw [6, 7] (fun nv i wr => ∃ (k n : Nat), f ≤ k ∧ k ≤ t.length ∧ i = .int .i64 k ∧ nv = .int .i64 n ∧ n < 1000000000000000 ∧ Hid (∀ c ∈ r.take (k - f), 48 ≤ c.toNat ∧ c.toNat ≤ 57) ∧ Hid (n = valD (r.take (k - f))) ∧ w = wr) (fun _ i _ => t.length - (intOf i).toNat)
        case atStart => exact ⟨f, 0, Nat.le_refl _, by omega, by rw [HFE.out]; rfl, rfl, by omega, Lib.hid (by rw [Nat.sub_self]; simp), Lib.hid (by rw [Nat.sub_self]; rfl), rfl⟩
        case round =>
          obtain ⟨k, n, hfk, hk, rfl, rfl, hn, HK, HN, rfl⟩ := hrel
          by_cases hlt : k < t.length
          · have hlt' : k < (str t).size := by omega
            obtain ⟨c, hc⟩ : ∃ c, t[k]? = some c := ⟨_, List.getElem?_eq_getElem hlt⟩
            have hrc : r[k - f]? = some c := by rw [← HGET.out, show f + (k - f) = k by omega]; exact hc
            have hg : (str t)[k]'hlt' = c := str_get hc hlt'
            obtain ⟨C, hC⟩ : ∃ C : Nat, C = c.toNat := ⟨_, rfl⟩
            have hgC : ((((str t)[k]'hlt').toNat : Nat) : Int) = (C : Int) := by rw [hg, hC]
            have hbad : ¬ (48 ≤ C ∧ C ≤ 57) → o = none := fun h => HNO.out (fun q => h (by rw [hC]; exact digs_mem q.2 c (List.mem_of_getElem? hrc)))
            by_cases h48 : C < 48
            · have f1 : decide (((((str t)[k]'hlt').toNat : Nat) : Int) < 48) = true := by rw [hgC]; simp; omega
              have HF := Lib.hid (hbad (by omega))
              clear hgC hC hg hc hrc hbad
              go_wp2_with fail
              go_ret2
              exact ⟨⟨_, false, rfl, by rw [HF.out]; rfl, fun u h => by rw [HF.out] at h; cases h⟩, rfl⟩
            · have f1 : decide (((((str t)[k]'hlt').toNat : Nat) : Int) < 48) = false := by rw [hgC]; simp; omega
              by_cases h57 : 57 < C
              · have f2 : decide ((57 : Int) < ((((str t)[k]'hlt').toNat : Nat) : Int)) = true := by rw [hgC]; simp; omega
                have HF := Lib.hid (hbad (by omega))
                clear hgC hC hg hc hrc hbad
                go_wp2_with fail
                go_ret2
                exact ⟨⟨_, false, rfl, by rw [HF.out]; rfl, fun u h => by rw [HF.out] at h; cases h⟩, rfl⟩
              · have f2 : decide ((57 : Int) < ((((str t)[k]'hlt').toNat : Nat) : Int)) = false := by rw [hgC]; simp; omega
                obtain ⟨d, hd9⟩ : ∃ d : Nat, C = 48 + d := ⟨C - 48, by omega⟩
                have f3 : IntKind.u8.wrap (((((str t)[k]'hlt').toNat : Nat) : Int) - 48) = (d : Int) := by rw [hgC, hd9, IntKind.wrap_u8]; omega
                have hd10 : d ≤ 9 := by omega
                have e1 : k + 1 - f = k - f + 1 := by omega
                have HK2 : Hid (∀ c ∈ r.take (k + 1 - f), 48 ≤ c.toNat ∧ c.toNat ≤ 57) := Lib.hid (by rw [e1]; exact mem_take (P := fun c => 48 ≤ c.toNat ∧ c.toNat ≤ 57) HK.out hrc (by omega))
                have hlr : k - f < r.length := (List.getElem?_eq_some_iff.1 hrc).1
                have HN2 : Hid (10 * n + d = valD (r.take (k + 1 - f))) := Lib.hid (by
                  rw [e1, valD_succ hlr, ← HN.out, (List.getElem?_eq_some_iff.1 hrc).2, ← hC]; omega)
                have hn2 : 10 * n + d < 1000000000000000 := by rw [HN2.out]; exact valD_bound HRS.out HK2.out
                have r1 : IntKind.i64.wrap (10 * (n : Int)) = 10 * (n : Int) := IntWalk.i64_in _ (by omega)
                have r2 : IntKind.i64.wrap (10 * (n : Int) + (d : Int)) = 10 * (n : Int) + (d : Int) := IntWalk.i64_in _ (by omega)
                clear hgC hC hg hc hrc hbad hd9 h48 h57 e1 hlr HK HN
                go_wp2_with fail
                exact ⟨⟨k + 1, 10 * n + d, by omega, by omega, by go_num, by go_num, hn2, HK2, HN2, trivial⟩, by simp [intOf]; omega⟩
          · obtain rfl : k = t.length := by omega
            have hrl : t.length - f = r.length := by omega
            have hk' := HK.out
            have hn' := HN.out
            rw [hrl, List.take_length] at hk' hn'
            have HE := Lib.hid (HEND.out n HR0.out (digs_of hk') hn')
            clear HK HN hk' hn' hrl
            obtain ⟨z, hz⟩ : ∃ z : Int, z = -(n : Int) := ⟨_, rfl⟩
            obtain ⟨heq, hval⟩ := HE.out z (by rw [hz]; omega)
            have r1 : IntKind.i64.wrap (-(n : Int)) = z := by rw [hz]; exact IntWalk.i64_in _ (by omega)
            have hzi : inI z := by unfold inI; omega
            have HV := Lib.hid hval
            clear hz hval
            go_wp2_with fail
            refine (Decimal_b _ z _ rfl hzi).mono ?_
            rintro e w9 ⟨rfl, rfl⟩
            obtain ⟨T, hT⟩ : ∃ T, T = str (itoa z) := ⟨_, rfl⟩
            rw [← hT] at heq ⊢
            obtain ⟨ob, hob⟩ : ∃ ob, ob = o.isSome := ⟨_, rfl⟩
            rw [← hob] at heq
            have HOB := Lib.hid hob
            clear hob hT
            go_wp2_with fail
            go_ret2
            exact ⟨⟨z, ob, rfl, HOB.out, HV.out⟩, rfl⟩
  · have HFE := Lib.hid hfe
    by_cases hl0 : 0 < t.length
    · have hl0' : 0 < (str t).size := by omega
      have i1 : decide ((0 : Int) < (t.length : Int)) = true := by simp; omega
      obtain ⟨c, hc⟩ : ∃ c, t[0]? = some c := ⟨_, List.getElem?_eq_getElem hl0⟩
      have hg : (str t)[0]'hl0' = c := str_get hc hl0'
      have f0 : (((((str t)[0]'hl0').toNat : Nat) : Int) == 45) = false := by
        rw [hg]
        have : ¬ c.toNat = 45 := fun h => h45 (by rw [hc]; congr 1; exact UInt8.toNat_inj.1 (by rw [h]; rfl))
        simp; omega
      have hr0 : r ≠ [] := fun h => by
        have h9 : r.length = 0 := by rw [h]; rfl
        omega
      have e1 : ((t.length : Int) == 0) = false := by rw [beq_eq_false_iff_ne]; omega
      clear hg hc h45
      by_cases h20 : 20 < r.length
      · have e2 : decide ((20 : Int) < (t.length : Int)) = true := by simp; omega
        have HF := Lib.hid (HNO.out (HDL.out (by omega)))
        clear hfe hr0
        go_enter Tryz.func93, Tryz.ntmps93
        go_wp2_with fail
        go_ret2
        exact ⟨⟨_, false, rfl, by rw [HF.out]; rfl, fun u h => by rw [HF.out] at h; cases h⟩, rfl⟩
      · have e2 : decide ((20 : Int) < (t.length : Int)) = false := by simp; omega
        have HR0 := Lib.hid hr0
        clear hr0 hfe
        go_enter Tryz.func93, Tryz.ntmps93
        go_wp2_with fail
        go_loopw [6, 7] (fun nv i wr => ∃ (k n : Nat), f ≤ k ∧ k ≤ t.length ∧ i = .int .i64 k ∧ nv = .int .i64 n ∧ n < 1000000000000000 ∧ Hid (∀ c ∈ r.take (k - f), 48 ≤ c.toNat ∧ c.toNat ≤ 57) ∧ Hid (n = valD (r.take (k - f))) ∧ w = wr) (fun _ i _ => t.length - (intOf i).toNat)
        case atStart => exact ⟨f, 0, Nat.le_refl _, by omega, by rw [HFE.out]; rfl, rfl, by omega, Lib.hid (by rw [Nat.sub_self]; simp), Lib.hid (by rw [Nat.sub_self]; rfl), rfl⟩
        case round =>
          obtain ⟨k, n, hfk, hk, rfl, rfl, hn, HK, HN, rfl⟩ := hrel
          by_cases hlt : k < t.length
          · have hlt' : k < (str t).size := by omega
            obtain ⟨c, hc⟩ : ∃ c, t[k]? = some c := ⟨_, List.getElem?_eq_getElem hlt⟩
            have hrc : r[k - f]? = some c := by rw [← HGET.out, show f + (k - f) = k by omega]; exact hc
            have hg : (str t)[k]'hlt' = c := str_get hc hlt'
            obtain ⟨C, hC⟩ : ∃ C : Nat, C = c.toNat := ⟨_, rfl⟩
            have hgC : ((((str t)[k]'hlt').toNat : Nat) : Int) = (C : Int) := by rw [hg, hC]
            have hbad : ¬ (48 ≤ C ∧ C ≤ 57) → o = none := fun h => HNO.out (fun q => h (by rw [hC]; exact digs_mem q.2 c (List.mem_of_getElem? hrc)))
            by_cases h48 : C < 48
            · have f1 : decide (((((str t)[k]'hlt').toNat : Nat) : Int) < 48) = true := by rw [hgC]; simp; omega
              have HF := Lib.hid (hbad (by omega))
              clear hgC hC hg hc hrc hbad
              go_wp2_with fail
              go_ret2
              exact ⟨⟨_, false, rfl, by rw [HF.out]; rfl, fun u h => by rw [HF.out] at h; cases h⟩, rfl⟩
            · have f1 : decide (((((str t)[k]'hlt').toNat : Nat) : Int) < 48) = false := by rw [hgC]; simp; omega
              by_cases h57 : 57 < C
              · have f2 : decide ((57 : Int) < ((((str t)[k]'hlt').toNat : Nat) : Int)) = true := by rw [hgC]; simp; omega
                have HF := Lib.hid (hbad (by omega))
                clear hgC hC hg hc hrc hbad
                go_wp2_with fail
                go_ret2
                exact ⟨⟨_, false, rfl, by rw [HF.out]; rfl, fun u h => by rw [HF.out] at h; cases h⟩, rfl⟩
              · have f2 : decide ((57 : Int) < ((((str t)[k]'hlt').toNat : Nat) : Int)) = false := by rw [hgC]; simp; omega
                obtain ⟨d, hd9⟩ : ∃ d : Nat, C = 48 + d := ⟨C - 48, by omega⟩
                have f3 : IntKind.u8.wrap (((((str t)[k]'hlt').toNat : Nat) : Int) - 48) = (d : Int) := by rw [hgC, hd9, IntKind.wrap_u8]; omega
                have hd10 : d ≤ 9 := by omega
                have e1 : k + 1 - f = k - f + 1 := by omega
                have HK2 : Hid (∀ c ∈ r.take (k + 1 - f), 48 ≤ c.toNat ∧ c.toNat ≤ 57) := Lib.hid (by rw [e1]; exact mem_take (P := fun c => 48 ≤ c.toNat ∧ c.toNat ≤ 57) HK.out hrc (by omega))
                have hlr : k - f < r.length := (List.getElem?_eq_some_iff.1 hrc).1
                have HN2 : Hid (10 * n + d = valD (r.take (k + 1 - f))) := Lib.hid (by
                  rw [e1, valD_succ hlr, ← HN.out, (List.getElem?_eq_some_iff.1 hrc).2, ← hC]; omega)
                have hn2 : 10 * n + d < 1000000000000000 := by rw [HN2.out]; exact valD_bound HRS.out HK2.out
                have r1 : IntKind.i64.wrap (10 * (n : Int)) = 10 * (n : Int) := IntWalk.i64_in _ (by omega)
                have r2 : IntKind.i64.wrap (10 * (n : Int) + (d : Int)) = 10 * (n : Int) + (d : Int) := IntWalk.i64_in _ (by omega)
                clear hgC hC hg hc hrc hbad hd9 h48 h57 e1 hlr HK HN
                go_wp2_with fail
                exact ⟨⟨k + 1, 10 * n + d, by omega, by omega, by go_num, by go_num, hn2, HK2, HN2, trivial⟩, by simp [intOf]; omega⟩
          · obtain rfl : k = t.length := by omega
            have hrl : t.length - f = r.length := by omega
            have hk' := HK.out
            have hn' := HN.out
            rw [hrl, List.take_length] at hk' hn'
            have HE := Lib.hid (HEND.out n HR0.out (digs_of hk') hn')
            clear HK HN hk' hn' hrl
            obtain ⟨z, hz⟩ : ∃ z : Int, z = (n : Int) := ⟨_, rfl⟩
            obtain ⟨heq, hval⟩ := HE.out z (by rw [hz]; omega)
            have r1 : IntKind.i64.wrap (n : Int) = (n : Int) := IntWalk.i64_in _ (by omega)
            have hzi : inI z := by unfold inI; omega
            have HV := Lib.hid hval
            have HZ := Lib.hid hz
            clear hz hval
            go_wp2_with fail
            rw [← HZ.out]
            refine (Decimal_b _ z _ rfl hzi).mono ?_
            rintro e w9 ⟨rfl, rfl⟩
            obtain ⟨T, hT⟩ : ∃ T, T = str (itoa z) := ⟨_, rfl⟩
            rw [← hT] at heq ⊢
            obtain ⟨ob, hob⟩ : ∃ ob, ob = o.isSome := ⟨_, rfl⟩
            rw [← hob] at heq
            have HOB := Lib.hid hob
            clear hob hT
            go_wp2_with fail
            go_ret2
            exact ⟨⟨z, ob, rfl, HOB.out, HV.out⟩, rfl⟩
    · have i1 : decide ((0 : Int) < (t.length : Int)) = false := decide_eq_false (by omega)
      have hr0 : r = [] := List.eq_nil_of_length_eq_zero (by omega)
      have e1 : ((t.length : Int) == 0) = true := by rw [show t.length = 0 by omega]; rfl
      have HF := Lib.hid (HNO.out (fun q => q.1 hr0))
      clear hfe hr0 h45
      go_enter Tryz.func93, Tryz.ntmps93
      go_wp2_with fail
      go_ret2
      exact ⟨⟨_, false, rfl, by rw [HF.out]; rfl, fun u h => by rw [HF.out] at h; cases h⟩, rfl⟩
/-- no common divisor -/
theorem gcd_step (x y : Nat) : Nat.gcd y (x % y) = Nat.gcd x y := by
  rw [Nat.gcd_comm y, ← Nat.gcd_rec, Nat.gcd_comm]
set_option maxHeartbeats 1000000 in
set_option maxRecDepth 100000 in
theorem gcd1_b (a b : BL) (w : World) (ha : digR a = true) (hb : digR b = true) (sa : Short a) (sb : Short b) (la : a.length ≤ 1099511627776) (lb : b.length ≤ 1099511627776) :
    Calls Tryz.prog 115 #[.string (str a), .string (str b)] w (fun e w' => e = .returned (.bool (Nat.gcd (valD a) (valD b) == 1)) ∧ Ext w w') := by
  have key : ∀ l : BL, digR l = true → Short l → numR l = some (valD l : Int) ∧ valD l < 1000000000000000 := fun l hl hs => by
    have h1 := digR_iff.1 hl
    have hneg : negd l = false := digs_neg h1.2.1
    have hrest : rest l = l := rest_pos hneg
    have hp : parseZ l = (valD l : Int) := by unfold parseZ sgn; rw [hneg, hrest]; simp
    have hb := parse_inI hs (by rw [hrest]; exact h1.2.1)
    refine ⟨?_, by rw [hp] at hb; omega⟩
    unfold numR
    rw [if_pos ⟨by rw [hrest]; exact h1.1, by rw [hrest]; exact h1.2.1, by rw [hp]; exact digR_itoa hl⟩, hp]
  obtain ⟨na, xa⟩ := key a ha sa
  obtain ⟨nb, xb⟩ := key b hb sb
  have HA := Lib.hid (Number_b a w sa la)
  have HB := Lib.hid (Number_b b w sb lb)
  rw [na] at HA
  rw [nb] at HB
  obtain ⟨X, hX⟩ : ∃ X, X = valD a := ⟨_, rfl⟩
  obtain ⟨Y, hY⟩ : ∃ Y, Y = valD b := ⟨_, rfl⟩
  rw [← hX] at HA xa ⊢
  rw [← hY] at HB xb ⊢
  obtain ⟨G, hG⟩ : ∃ G, G = Nat.gcd X Y := ⟨_, rfl⟩
  rw [← hG]
  have HG := Lib.hid hG
  clear key na nb hX hY hG
  go_enter Tryz.func115, Tryz.ntmps115
  go_wp2_with fail
  refine HA.out.mono ?_
  rintro e w1 ⟨⟨v, o, rfl, ho, hv⟩, rfl⟩
  obtain rfl := hv _ rfl
  go_wp2_with fail
  refine HB.out.mono ?_
  rintro e w2 ⟨⟨v, o2, rfl, ho2, hv2⟩, rfl⟩
  obtain rfl := hv2 _ rfl
  clear ho ho2 hv hv2 HA HB
  go_wp2_with fail
  go_loopw [5, 7] (fun xv yv wr => ∃ x y : Nat, xv = .int .i64 x ∧ yv = .int .i64 y ∧ x < 1000000000000000 ∧ y < 1000000000000000 ∧ Hid (G = Nat.gcd x y) ∧ Ext w2 wr) (fun _ yv _ => (intOf yv).toNat)
  case atStart => exact ⟨X, Y, rfl, rfl, xa, xb, HG, Ext.refl _⟩
  case round =>
    obtain ⟨x, y, rfl, rfl, hx, hy, HI, hxr⟩ := hrel
    by_cases hy0 : y = 0
    · subst hy0
      have HI2 := HI.out
      rw [Nat.gcd_zero_right] at HI2
      have HF : Hid ((G == 1) = ((x : Int) == 1)) := Lib.hid (by rw [HI2, Bool.eq_iff_iff]; simp; omega)
      clear HI HI2
      go_wp2_with fail
      go_ret
      rw [HF.out]
      exact ⟨rfl, hxr⟩
    · have e1 : ((y : Int) == 0) = false := by simp; omega
      have e2 : ((y : Int) != 0) = true := by rw [bne, e1]; rfl
      have HI2 : Hid (G = Nat.gcd y (x % y)) := Lib.hid (by rw [gcd_step, HI.out])
      have hm : x % y < y := Nat.mod_lt _ (by omega)
      have r1 : (x : Int).tmod (y : Int) = ((x % y : Nat) : Int) := rfl
      have hyn : (y : Int) ≠ 0 := by omega
      clear HI
      go_wp2_with fail
      go_region_held3 (fun w' => Ext w2 w') ((repeat (first | (with_reducible assumption) | (with_reducible apply Ext.drew) | (with_reducible apply Ext.drewN)))) (fail)
      all_goals (
        go_wp2_with fail
        go_roundw
        case rel => exact ⟨y, x % y, rfl, rfl, hy, by omega, HI2, by first | exact hxr.drew | exact hxr⟩
        case measure => simp [intOf]; omega)
theorem cut_at {t : BL} {k : Nat} {c : UInt8} (hn : c ∉ t.take k) (hc : t[k]? = some c) : cutB c t = some (t.take k, t.drop (k + 1)) := by
  have hk := (List.getElem?_eq_some_iff.1 hc).1
  have e : t = t.take k ++ c :: t.drop (k + 1) := by
    have h1 := (List.getElem?_eq_some_iff.1 hc).2
    have h2 := List.drop_eq_getElem_cons hk
    rw [h1] at h2
    rw [← h2, List.take_append_drop]
  have := cutB_some (c := c) (b := t.drop (k + 1)) hn
  rw [← e] at this
  exact this
theorem not_mem_take {t : BL} {k : Nat} {c x : UInt8} (hn : x ∉ t.take k) (hc : t[k]? = some c) (hx : c ≠ x) : x ∉ t.take (k + 1) := by
  rw [List.take_add_one, hc, List.mem_append, not_or]
  exact ⟨hn, fun h => hx (by simpa [eq_comm] using h)⟩
def mulV (r : BL) : Bool := match cutB 47 r with
    | none => digR r && decide (r.length < 16)
    | some (a, b) => digR a && (digR b && (decide (b ≠ [49]) && (decide (a.length < 16) && (decide (b.length < 16) && (Nat.gcd (valD a) (valD b) == 1)))))
set_option maxHeartbeats 2000000 in
set_option maxRecDepth 100000 in
theorem Multiplier_h (t r : BL) (w : World) (ht : t.length ≤ 1048576) (h0 : ¬ t = [48]) (hcs : (∃ q, t = 45 :: q ∧ r = q) ∨ (r = t ∧ t[0]? ≠ some 45))
   (V : Bool) (HV : Hid (V = mulV r))
   (HDG : Hid (∀ (l : BL) W, l.length ≤ 1048576 → Calls Tryz.prog 114 #[.string (str l)] W (fun e w' => e = .returned (.bool (digR l)) ∧ w' = W)))
   (HGC : Hid (∀ (a b : BL) W, (∃ x y, r = x ++ (a ++ y)) → (∃ x y, r = x ++ (b ++ y)) → digR a = true → digR b = true → Calls Tryz.prog 115 #[.string (str a), .string (str b)] W (fun e w' => e = .returned (.bool (Nat.gcd (valD a) (valD b) == 1)) ∧ Ext W w'))) :
   Calls Tryz.prog 94 #[.string (str t)] w (fun e w' => e = .returned (.bool V) ∧ Ext w w') := by
  have hss : (str t).size = t.length := rfl
  have hsl : (str t).toList = t := by rw [Lib.toList_data, str_list]
  have e0 : (t == [48]) = false := by simpa using h0
  have hrl : r.length ≤ 1048576 := by
    rcases hcs with ⟨q, h1, h2⟩ | ⟨h1, -⟩
    · rw [h2]; rw [h1] at ht; simp at ht; omega
    · rw [h1]; exact ht
  clear h0
  go_enter Tryz.func94, Tryz.ntmps94
  go_upto_region 3 with fail
  obtain ⟨ng, hng⟩ : ∃ ng : Bool, (ng = true ∧ t = 45 :: r) ∨ (ng = false ∧ r = t ∧ t[0]? ≠ some 45) := by
    rcases hcs with ⟨q, h1, h2⟩ | ⟨h1, h2⟩
    · exact ⟨true, .inl ⟨rfl, by rw [h1, h2]⟩⟩
    · exact ⟨false, .inr ⟨rfl, h1, h2⟩⟩
  clear hcs
  go_cut [15] (fun v wx => v = .bool ng ∧ wx = w)
  case first =>
    by_cases hl0 : 0 < t.length
    · have i1 : decide ((0 : Int) < (t.length : Int)) = true := by simp; omega
      have hl0' : 0 < (str t).size := by omega
      obtain ⟨c, hc⟩ : ∃ c, t[0]? = some c := ⟨_, List.getElem?_eq_getElem hl0⟩
      have hg : (str t)[0]'hl0' = c := str_get hc hl0'
      have f1 : (((((str t)[0]'hl0').toNat : Nat) : Int) == 45) = ng := by
        rw [hg]
        rcases hng with ⟨h1, h2⟩ | ⟨h1, -, h2⟩
        · have hc' := hc
          rw [h2] at hc'
          have : (45 : UInt8) = c := by simpa using hc'
          rw [h1, ← this]; rfl
        · have : ¬ c.toNat = 45 := fun h => h2 (by rw [hc]; congr 1; exact UInt8.toNat_inj.1 (by rw [h]; rfl))
          rw [h1]; simp; omega
      clear hg hc hng
      go_wp2_with fail
      go_meet
      exact ⟨rfl, rfl⟩
    · have i1 : decide ((0 : Int) < (t.length : Int)) = false := decide_eq_false (by omega)
      have hn : ng = false := by
        rcases hng with ⟨h1, h2⟩ | ⟨h1, -, h2⟩
        · exfalso; rw [h2] at hl0; simp at hl0
        · exact h1
      clear hng
      go_wp2_with fail
      go_meet
      exact ⟨by rw [hn], rfl⟩
  case rest =>
    rename_i hK
    obtain ⟨rfl, hwx⟩ := hcut
    refine hK _ _ ?_
    clear hK
    subst hwx
    go_upto_if 15 with fail
    rename_i hK
    go_cut [0] (fun v wx => v = .string (str r) ∧ wx = wc)
    case first =>
      cases ng with
      | false =>
        obtain ⟨h1, -⟩ : r = t ∧ t[0]? ≠ some 45 := by
          rcases hng with ⟨h1, -⟩ | ⟨-, h1⟩
          · cases h1
          · exact h1
        clear hng
        go_wp2_with fail
        go_meet
        exact ⟨by rw [h1], rfl⟩
      | true =>
        have h1 : t = 45 :: r := by
          rcases hng with ⟨-, h1⟩ | ⟨h1, -⟩
          · exact h1
          · cases h1
        have hex : (str t).extract 1 t.length = str r := by rw [extract_rest _ _ _ (Nat.le_refl _), h1]; rfl
        have i1 : (1 : Int) ≤ (t.length : Int) := by have : t.length = r.length + 1 := by rw [h1]; rfl
                                                     omega
        clear hng h1
        go_wp2_with fail
        go_meet
        exact ⟨rfl, rfl⟩
    case rest =>
      obtain ⟨rfl, hwx⟩ := hcut
      refine hK _ _ ?_
      clear hK
      subst hwx
      clear hng hss hsl e0
      have hss : (str r).size = r.length := rfl
      go_wp2_with fail
      go_loopw [3] (fun iv wr => ∃ k : Nat, k ≤ r.length ∧ iv = .int .i64 k ∧ Hid ((47 : UInt8) ∉ r.take k) ∧ Ext wc wr) (fun i _ => r.length - (intOf i).toNat)
      case atStart => exact ⟨0, by omega, rfl, Lib.hid (by simp), Ext.refl _⟩
      case round =>
        obtain ⟨k, hk, rfl, HN, hxr⟩ := hrel
        by_cases hlt : k < r.length
        · have hlt' : k < (str r).size := by omega
          obtain ⟨c, hc⟩ : ∃ c, r[k]? = some c := ⟨_, List.getElem?_eq_getElem hlt⟩
          have hg : (str r)[k]'hlt' = c := str_get hc hlt'
          by_cases h47 : c = 47
          · subst h47
            have e1 : ((((str r)[k]'hlt').toNat : Int) == 47) = true := by rw [hg]; rfl
            have hcut := cut_at HN.out hc
            obtain ⟨a, ha⟩ : ∃ a, a = r.take k := ⟨_, rfl⟩
            obtain ⟨b, hb⟩ : ∃ b, b = r.drop (k + 1) := ⟨_, rfl⟩
            have x1 : (str r).extract 0 k = str a := by rw [extract_take, ha]
            have x2 : (str r).extract (k + 1) r.length = str b := by rw [extract_rest _ _ _ (Nat.le_refl _), hb]
            rw [← ha, ← hb] at hcut
            have HVV : Hid (V = (digR a && (digR b && (decide (b ≠ [49]) && (decide (a.length < 16) && (decide (b.length < 16) && (Nat.gcd (valD a) (valD b) == 1))))))) := Lib.hid (by rw [HV.out]; unfold mulV; rw [hcut])
            have hal : a.length ≤ 1048576 := by rw [ha, List.length_take]; omega
            have hbl : b.length ≤ 1048576 := by rw [hb, List.length_drop]; omega
            have HA : Hid (∃ x y, r = x ++ (a ++ y)) := Lib.hid ⟨[], r.drop k, by rw [ha]; simp⟩
            have HB : Hid (∃ x y, r = x ++ (b ++ y)) := Lib.hid ⟨r.take (k + 1), [], by rw [hb]; simp⟩
            have hsb : (str b).toList = b := by rw [Lib.toList_data, str_list]
            have hsa1 : (str a).size = a.length := rfl
            have hsb1 : (str b).size = b.length := rfl
            clear hg hc hcut ha hb HN HV
            go_upto_region 9 with fail
            go_quiet (fail)
            have hxq : Ext wc (wr.drewN nq) := hxr.drewN nq
            generalize (wr.drewN nq) = wq at *
            go_wp2_with fail
            refine (HDG.out a _ hal).mono ?_
            rintro e w' ⟨rfl, rfl⟩
            cases hda : digR a with
            | false =>
              go_wp2_with fail
              go_ret
              rw [HVV.out, hda]
              exact ⟨rfl, hxq⟩
            | true =>
              go_wp2_with fail
              refine (HDG.out b _ hbl).mono ?_
              rintro e w' ⟨rfl, rfl⟩
              cases hdb : digR b with
              | false =>
                go_wp2_with fail
                go_ret
                rw [HVV.out, hda, hdb]
                exact ⟨rfl, hxq⟩
              | true =>
                have HGG := HGC.out a b w' HA.out HB.out hda hdb
                by_cases hb1 : b = [49]
                · have e2 : (b == [49]) = true := by simpa using hb1
                  have HF : Hid (V = false) := Lib.hid (by rw [HVV.out, decide_eq_false (show ¬ b ≠ [49] from fun h => h hb1)]; simp)
                  clear hb1 HGG hda hdb
                  go_wp2_with fail
                  go_ret
                  rw [HF.out]
                  exact ⟨rfl, hxq⟩
                · have e2 : (b == [49]) = false := by simpa using hb1
                  by_cases hla : a.length < 16
                  · have i5 : decide ((a.length : Int) < 16) = true := by simp; omega
                    by_cases hlb : b.length < 16
                    · have i6 : decide ((b.length : Int) < 16) = true := by simp; omega
                      have HF : Hid (V = (Nat.gcd (valD a) (valD b) == 1)) := Lib.hid (by rw [HVV.out, hda, hdb, decide_eq_true (show b ≠ [49] from hb1), decide_eq_true hla, decide_eq_true hlb]; rfl)
                      obtain ⟨G, hG⟩ : ∃ G, G = (Nat.gcd (valD a) (valD b) == 1) := ⟨_, rfl⟩
                      rw [← hG] at HF HGG
                      clear hG hda hdb
                      go_wp2_with fail
                      refine HGG.mono ?_
                      rintro e w9 ⟨rfl, hx9⟩
                      go_wp2_with fail
                      go_ret
                      rw [HF.out]
                      exact ⟨rfl, hxq.trans hx9⟩
                    · have i6 : decide ((b.length : Int) < 16) = false := by simp; omega
                      have HF : Hid (V = false) := Lib.hid (by rw [HVV.out, decide_eq_false hlb]; simp)
                      clear hda hdb HGG
                      go_wp2_with fail
                      go_ret
                      rw [HF.out]
                      exact ⟨rfl, hxq⟩
                  · have i5 : decide ((a.length : Int) < 16) = false := by simp; omega
                    have HF : Hid (V = false) := Lib.hid (by rw [HVV.out, decide_eq_false hla]; simp)
                    clear hda hdb HGG
                    go_wp2_with fail
                    go_ret
                    rw [HF.out]
                    exact ⟨rfl, hxq⟩
          · have e1 : ((((str r)[k]'hlt').toNat : Int) == 47) = false := by
              rw [hg]
              have : ¬ c.toNat = 47 := fun h => h47 (UInt8.toNat_inj.1 (by simpa using h))
              simp; omega
            have HN2 := Lib.hid (not_mem_take HN.out hc h47)
            clear hg hc HN
            go_wp2_with fail
            go_roundw
            case rel => exact ⟨k + 1, by omega, by go_num, HN2, hxr⟩
            case measure => simp [intOf]; omega
        · obtain rfl : k = r.length := by omega
          have hn := HN.out
          rw [List.take_length] at hn
          have HVV : Hid (V = (digR r && decide (r.length < 16))) := Lib.hid (by rw [HV.out]; unfold mulV; rw [cutB_none hn])
          clear hn HN HV
          go_wp2_with fail
          refine (HDG.out r _ hrl).mono ?_
          rintro e w' ⟨rfl, rfl⟩
          cases hd : digR r with
          | false =>
            go_wp2_with fail
            go_ret
            rw [HVV.out, hd]
            exact ⟨rfl, hxr⟩
          | true =>
            have i3 : decide ((r.length : Int) < 16) = decide (r.length < 16) := by rw [Bool.eq_iff_iff]; simp; omega
            go_wp2_with fail
            go_ret
            rw [HVV.out, hd]
            exact ⟨rfl, hxr⟩
theorem Multiplier_b (t : BL) (w : World) (hs : Short t) (ht : t.length ≤ 1048576) : Calls Tryz.prog 94 #[.string (str t)] w (fun e w' => e = .returned (.bool (isRat t)) ∧ Ext w w') := by
  rw [← mul_isRat hs]
  by_cases h0 : t = [48]
  · have hsl : (str t).toList = t := by rw [Lib.toList_data, str_list]
    have e0 : (t == [48]) = true := by rw [h0]; rfl
    have HF : Hid (mulR t = true) := Lib.hid (by unfold mulR; rw [e0]; rfl)
    clear h0
    obtain ⟨V, hV⟩ : ∃ V, V = mulR t := ⟨_, rfl⟩
    rw [← hV] at HF ⊢
    clear hV
    go_enter Tryz.func94, Tryz.ntmps94
    go_wp2_with fail
    go_ret
    rw [HF.out]
    exact ⟨rfl, Ext.refl _⟩
  · have e0 : (t == [48]) = false := by simpa using h0
    have hrs := rest_short hs
    refine Multiplier_h t (rest t) w ht h0 ?_ (mulR t) (Lib.hid (by unfold mulR mulV; rw [e0]; rfl)) (Lib.hid (fun l W hl => digits_b l W (by omega))) (Lib.hid (fun a b W ha hb da db => ?_))
    · rcases rest_drop t with ⟨q, h1, h2, -⟩ | ⟨h1, -, h2⟩
      · exact .inl ⟨q, h1, h2⟩
      · exact .inr ⟨h1, h2⟩
    · obtain ⟨x, y, ha⟩ := ha
      obtain ⟨x', y', hb⟩ := hb
      have sa : Short a := by rw [ha] at hrs; exact hrs.mid
      have sb : Short b := by rw [hb] at hrs; exact hrs.mid
      have la := sa.all (digs_mem (digR_iff.1 da).2.1)
      have lb := sb.all (digs_mem (digR_iff.1 db).2.1)
      exact gcd1_b a b W da db sa sb (by omega) (by omega)
end Go.Proofs.YtljncdcjkdgkeaaGreatDoor.Dc

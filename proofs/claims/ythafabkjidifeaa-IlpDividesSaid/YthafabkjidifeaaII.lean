/- Walk: integral of ilp. -/
import Derived.Test.YthafabkjidifeaaIW
set_option linter.unusedVariables false
set_option linter.unusedSimpArgs false
namespace Go.Proofs.Ythafabkjidifeaa.Lp
open Go.RowKit Go.Proofs.Ythafabkjidifeaa.Big Go.Proofs.Ythafabkjidifeaa.Rt

def intL (f : Nat → Rat) : Nat → Bool
  | 0 => true
  | j + 1 => intL f j && decide ((f j).den = 1)
theorem intL_iff {f : Nat → Rat} {n : Nat} : intL f n = true ↔ ∀ j, j < n → (f j).den = 1 := by
  induction n with
  | zero => exact ⟨fun _ i hi => absurd hi (by omega), fun _ => rfl⟩
  | succ n ih =>
    show (intL f n && decide ((f n).den = 1)) = true ↔ _
    rw [Bool.and_eq_true, ih, decide_eq_true_eq]
    constructor
    · rintro ⟨a, b⟩ i hi
      by_cases e : i = n
      · subst e; exact b
      · exact a i (by omega)
    · intro h; exact ⟨fun i hi => h i (by omega), h n (by omega)⟩
def intR (p : Prob) : Nat → Bool
  | 0 => true
  | i + 1 => intR p i && (decide ((p.right i).den = 1) && intL (p.coef i) (p.len i))
theorem intR_iff {p : Prob} {n : Nat} : intR p n = true ↔ ∀ i, i < n → (p.right i).den = 1 ∧ ∀ j, j < p.len i → (p.coef i j).den = 1 := by
  induction n with
  | zero => exact ⟨fun _ i hi => absurd hi (by omega), fun _ => rfl⟩
  | succ n ih =>
    show (intR p n && (decide ((p.right n).den = 1) && intL (p.coef n) (p.len n))) = true ↔ _
    rw [Bool.and_eq_true, Bool.and_eq_true, ih, decide_eq_true_eq, intL_iff]
    constructor
    · rintro ⟨a, b⟩ i hi
      by_cases e : i = n
      · subst e; exact b
      · exact a i (by omega)
    · intro h; exact ⟨fun i hi => h i (by omega), h n (by omega)⟩
def intB (p : Prob) : Bool := intL p.obj p.n && intR p p.m
set_option maxHeartbeats 8000000 in
set_option maxRecDepth 100000 in
theorem integral_b (v : Value) (p : Prob) (K : Nat) (w : World) (hv : ProbV w v p) (h1 : 1 ≤ p.n) (ho : ∀ j, j < p.n → QB K (p.obj j)) (hr : ∀ i, i < p.m → QB K (p.right i)) (hc : ∀ i, i < p.m → ∀ j, j < p.len i → QB K (p.coef i j)) :
    Calls Try.prog 34 #[v] w (ValPost w (.bool (intB p))) := by
  obtain ⟨Ao, co, Ar, cr, rfl, hob, hmc, hcr, hrows⟩ := hv
  have hoc := hob.1
  have hoc2 := hob.2.1
  obtain ⟨F, hF⟩ : ∃ F, F = intB p := ⟨_, rfl⟩
  rw [← hF]
  obtain ⟨n, hn⟩ : ∃ n, n = p.n := ⟨_, rfl⟩
  obtain ⟨m, hm⟩ : ∃ n, n = p.m := ⟨_, rfl⟩
  have HF : Hid (F = (intL p.obj n && intR p m)) := Lib.hid (by rw [hF, hn, hm]; rfl)
  rw [← hn] at hoc hob ho h1
  rw [← hm] at hmc hrows hr hc
  rw [← hn, ← hm]
  have HROW := Lib.hid hrows
  have HO := Lib.hid ho
  have HR := Lib.hid hr
  have HC := Lib.hid hc
  have HOB := Lib.hid hob
  clear hn hm hF hob hrows ho hr hc
  have PB := Box.new w 39 #[.slice Ao n co, .slice Ar m cr]
  have hE0 : Ext w (w.alloc (.cells #[.slice Ao n co, .slice Ar m cr] 39)) := (Ext.refl w).alloc _
  go_enter Try.func34, Try.ntmps34
  go_upto_region 1 with fail
  generalize (w.alloc (.cells #[.slice Ao n co, .slice Ar m cr] 39)) = V at *
  obtain ⟨pb, hpb⟩ : ∃ x, x = w.heap.size := ⟨_, rfl⟩
  rw [← hpb] at PB ⊢
  clear hpb
  have c0 := PB.c0
  have hobV := HOB.out.ext hE0
  obtain ⟨bo, rfl, hRo⟩ := hobV.2.2 h1
  go_upto_region 2 with fail
  clear c0
  go_loopw [12] (fun i wr => ∃ j : Nat, j ≤ n ∧ i = .int .i64 j ∧ Hid (intL p.obj j = true) ∧ Ext V wr) (fun i _ => n - (intOf i).toNat)
  case atStart => exact ⟨0, by omega, rfl, Lib.hid rfl, Ext.refl V⟩
  case round =>
    obtain ⟨j, hj, rfl, HJ, hx⟩ := hrel
    by_cases hlt : j < n
    · obtain ⟨p3, A3, m3, c3, p3', A3', m3', c3', a0, a1, a2, a3, hr3⟩ := (hRo.ext hx).at hlt
      have i1 : (0 : Int) ≤ (j : Int) := by omega
      have i2 : (j : Int) < (n : Int) := by omega
      go_upto_region 4 with fail
      have Bx := Box.new wr 59 #[.bool p3, .slice A3 m3 c3, .bool p3', .slice A3' m3' c3']
      have hEx : Ext wr (wr.alloc (.cells #[.bool p3, .slice A3 m3 c3, .bool p3', .slice A3' m3' c3'] 59)) := (Ext.refl wr).alloc _
      generalize (wr.alloc (.cells #[.bool p3, .slice A3 m3 c3, .bool p3', .slice A3' m3' c3'] 59)) = X at *
      have hq : RatB X _ (p.obj j) K := ⟨hr3.ext hEx, HO.out j hlt⟩
      have b0 := Bx.c0
      have b1 := Bx.c1
      have b2 : X.cell? ⟨wr.heap.size, 2, none⟩ = some _ := Bx.cell 2
      have b3 : X.cell? ⟨wr.heap.size, 3, none⟩ = some _ := Bx.cell 3
      clear a0 a1 a2 a3 hr3
      go_wp2_with fail
      refine (whole_b _ (p.obj j) K _ hq).mono ?_
      rintro e w5 ⟨rfl, hx5⟩
      clear b0 b1 b2 b3 hq
      have hxx := (hx.trans hEx).trans hx5
      obtain ⟨S, hS⟩ : ∃ S, S = decide ((p.obj j).den = 1) := ⟨_, rfl⟩
      rw [← hS]
      cases S with
      | true =>
        have HN1 : Hid (intL p.obj (j + 1) = true) := Lib.hid (by show (intL p.obj j && decide ((p.obj j).den = 1)) = true; rw [HJ.out, ← hS]; rfl)
        clear hS
        go_wp2_with fail
        go_roundw
        case rel => first | exact ⟨j + 1, by omega, by go_num, HN1, hxx⟩ | ((repeat (apply Exists.intro (α := Value))); exact ⟨⟨j + 1, by omega, by go_num, HN1, hxx⟩, rfl⟩)
        case measure => simp [intOf]; omega
      | false =>
        have HE : Hid (F = false) := Lib.hid (by
          rw [HF.out]
          cases e : intL p.obj n with
          | false => rfl
          | true => exact absurd (intL_iff.1 e j hlt) (of_decide_eq_false hS.symm))
        clear hS
        go_wp2_with fail
        go_ret
        exact ⟨by rw [HE.out]; rfl, hE0.trans hxx⟩
    · obtain rfl : j = n := by omega
      have HF2 : Hid (F = intR p m) := Lib.hid (by rw [HF.out, HJ.out]; rfl)
      have c1 := (PB.ext hx).c1
      have hE1 := hE0.trans hx
      clear hobV hRo HO HOB HJ HF PB hE0
      go_upto_region 8 with fail
      clear c1 hx
      go_loopw [23] (fun i wv => ∃ k : Nat, k ≤ m ∧ i = .int .i64 k ∧ Hid (intR p k = true) ∧ Ext w wv) (fun i _ => m - (intOf i).toNat)
      case atStart => exact ⟨0, by omega, rfl, Lib.hid rfl, hE1⟩
      case round =>
        obtain ⟨k, hk, rfl, HK, hx⟩ := hrel
        clear hE1
        by_cases hlt : k < m
        · obtain ⟨br, rfl, hrow⟩ := HROW.out (by omega)
          obtain ⟨Ac, cc, bx, A, d, e, bz, A', d', e', g0, g1, g2, g3, g4, g5, r1, r2, r3⟩ := hrow k hlt
          have g0 := hx.cell g0
          have g1 := hx.cell g1
          have g2 := hx.cell g2
          have g3 := hx.cell g3
          have g4 := hx.cell g4
          have g5 := hx.cell g5
          have r1 := r1.ext hx
          have r3 := r3.ext hx
          have hcc := r1.1
          have hcc2 := r1.2.1
          obtain ⟨l, hl⟩ : ∃ l, l = p.len k := ⟨_, rfl⟩
          obtain ⟨R, hR⟩ : ∃ R : Int, R = (p.rel k : Int) := ⟨_, rfl⟩
          rw [← hl] at g0 r1 hcc
          rw [← hR] at g1
          have HL := Lib.hid hl
          have HR1 := Lib.hid r1
          have HR3 := Lib.hid r3
          have i1 : (0 : Int) ≤ (k : Int) := by omega
          have i2 : (k : Int) < (m : Int) := by omega
          clear hrow r1 r2 r3 hl hR
          go_upto_region 10 with fail
          have RB := Box.new wr 62 #[.slice Ac l cc, .int .u8 R, .bool bx, .slice A d e, .bool bz, .slice A' d' e']
          have hEr : Ext wr (wr.alloc (.cells #[.slice Ac l cc, .int .u8 R, .bool bx, .slice A d e, .bool bz, .slice A' d' e'] 62)) := (Ext.refl wr).alloc _
          generalize (wr.alloc (.cells #[.slice Ac l cc, .int .u8 R, .bool bx, .slice A d e, .bool bz, .slice A' d' e'] 62)) = Y at *
          obtain ⟨rb, hrb⟩ : ∃ x, x = wr.heap.size := ⟨_, rfl⟩
          rw [← hrb] at RB ⊢
          clear hrb g0 g1 g2 g3 g4 g5
          have q0 := RB.c0
          have q2 : Y.cell? ⟨rb, 2, none⟩ = some _ := RB.cell 2
          have q3 : Y.cell? ⟨rb, 3, none⟩ = some _ := RB.cell 3
          have q4 : Y.cell? ⟨rb, 4, none⟩ = some _ := RB.cell 4
          have q5 : Y.cell? ⟨rb, 5, none⟩ = some _ := RB.cell 5
          have hxY := hx.trans hEr
          go_wp2_with fail
          refine (whole_b _ (p.right k) K _ ⟨HR3.out.ext hEr, HR.out k hlt⟩).mono ?_
          rintro e5 w5 ⟨rfl, hx5⟩
          have hx6 := hxY.trans hx5
          have q0 := hx5.cell q0
          have HRC : Hid (RatsV w5 Ac l cc (p.coef k)) := Lib.hid ((HR1.out.ext hEr).ext hx5)
          clear q2 q3 q4 q5 RB hEr hxY hx5 HR1 HR3
          obtain ⟨S, hS⟩ : ∃ S, S = decide ((p.right k).den = 1) := ⟨_, rfl⟩
          rw [← hS]
          cases S with
          | false =>
            have HE : Hid (F = false) := Lib.hid (by
              rw [HF2.out]
              cases e : intR p m with
              | false => rfl
              | true => exact absurd (intR_iff.1 e k hlt).1 (of_decide_eq_false hS.symm))
            clear hS
            go_wp2_with fail
            go_ret
            exact ⟨by rw [HE.out]; rfl, hx6⟩
          | true =>
            have HS := Lib.hid hS
            clear hS
            go_upto_region 13 with fail
            clear q0
            go_loopw [34] (fun i wv => ∃ j : Nat, j ≤ l ∧ i = .int .i64 j ∧ Hid (intL (p.coef k) j = true) ∧ Ext w5 wv) (fun i _ => l - (intOf i).toNat)
            case atStart => exact ⟨0, by omega, rfl, Lib.hid rfl, Ext.refl w5⟩
            case round =>
              obtain ⟨j, hj, rfl, HJ, hy⟩ := hrel
              by_cases hlj : j < l
              · obtain ⟨bc, rfl, hRc⟩ := HRC.out.2.2 (by omega)
                obtain ⟨p3, A3, m3, c3, p3', A3', m3', c3', a0, a1, a2, a3, hr3⟩ := (hRc.ext hy).at hlj
                have i1 : (0 : Int) ≤ (j : Int) := by omega
                have i2 : (j : Int) < (l : Int) := by omega
                go_upto_region 15 with fail
                have Bx := Box.new wr 59 #[.bool p3, .slice A3 m3 c3, .bool p3', .slice A3' m3' c3']
                have hEx : Ext wr (wr.alloc (.cells #[.bool p3, .slice A3 m3 c3, .bool p3', .slice A3' m3' c3'] 59)) := (Ext.refl wr).alloc _
                generalize (wr.alloc (.cells #[.bool p3, .slice A3 m3 c3, .bool p3', .slice A3' m3' c3'] 59)) = X at *
                have hq : RatB X _ (p.coef k j) K := ⟨hr3.ext hEx, HC.out k hlt j (by rw [← HL.out]; exact hlj)⟩
                have b0 := Bx.c0
                have b1 := Bx.c1
                have b2 : X.cell? ⟨wr.heap.size, 2, none⟩ = some _ := Bx.cell 2
                have b3 : X.cell? ⟨wr.heap.size, 3, none⟩ = some _ := Bx.cell 3
                clear a0 a1 a2 a3 hr3
                go_wp2_with fail
                refine (whole_b _ (p.coef k j) K _ hq).mono ?_
                rintro e w5 ⟨rfl, hx5⟩
                clear b0 b1 b2 b3 hq
                have hyy := (hy.trans hEx).trans hx5
                obtain ⟨S, hS⟩ : ∃ S, S = decide ((p.coef k j).den = 1) := ⟨_, rfl⟩
                rw [← hS]
                cases S with
                | true =>
                  have HN1 : Hid (intL (p.coef k) (j + 1) = true) := Lib.hid (by show (intL (p.coef k) j && decide ((p.coef k j).den = 1)) = true; rw [HJ.out, ← hS]; rfl)
                  clear hS
                  go_wp2_with fail
                  go_roundw
                  case rel => first | exact ⟨j + 1, by omega, by go_num, HN1, hyy⟩ | ((repeat (apply Exists.intro (α := Value))); exact ⟨⟨j + 1, by omega, by go_num, HN1, hyy⟩, rfl⟩)
                  case measure => simp [intOf]; omega
                | false =>
                  have HE : Hid (F = false) := Lib.hid (by
                    rw [HF2.out]
                    cases e : intR p m with
                    | false => rfl
                    | true => exact absurd ((intR_iff.1 e k hlt).2 j (by rw [← HL.out]; exact hlj)) (of_decide_eq_false hS.symm))
                  clear hS
                  go_wp2_with fail
                  go_ret
                  exact ⟨by rw [HE.out]; rfl, hx6.trans hyy⟩
              · obtain rfl : j = l := by omega
                have HN2 : Hid (intR p (k + 1) = true) := Lib.hid (by show (intR p k && (decide ((p.right k).den = 1) && intL (p.coef k) (p.len k))) = true; rw [HK.out, ← HS.out, ← HL.out, HJ.out]; rfl)
                have hyw := hx6.trans hy
                go_wp2_with fail
                go_roundw
                case rel => first | exact ⟨k + 1, by omega, by go_num, HN2, hyw⟩ | ((repeat (apply Exists.intro (α := Value))); exact ⟨⟨k + 1, by omega, by go_num, HN2, hyw⟩, rfl⟩)
                case measure => simp [intOf]; omega
        · obtain rfl : k = m := by omega
          have HE : Hid (F = true) := Lib.hid (by rw [HF2.out, HK.out])
          go_wp2_with fail
          go_ret
          exact ⟨by rw [HE.out]; rfl, hx⟩
end Go.Proofs.Ythafabkjidifeaa.Lp

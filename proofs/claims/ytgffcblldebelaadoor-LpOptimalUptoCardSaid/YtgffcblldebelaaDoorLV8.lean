/- Walks: refutes, proves, same. -/
import Derived.Test.YtgffcblldebelaaDoorLV7
import Derived.Test.YtgffcblldebelaaDoorLV3
set_option linter.unusedVariables false
set_option linter.unusedSimpArgs false
namespace Go.Proofs.YtgffcblldebelaaDoor.Lp
open Go.RowKit Go.Proofs.YtgffcblldebelaaDoor.Big Go.Proofs.YtgffcblldebelaaDoor.Rt

def refB (p : Prob) (ny : Nat) (y : Nat → Rat) : Bool := combB p ny y && nnB (p.left y) p.n && decide (p.rhs y < 0)
def geB (f g : Nat → Rat) : Nat → Bool
  | 0 => true
  | j + 1 => geB f g j && decide (g j ≤ f j)
def proB (p : Prob) (ny : Nat) (y : Nat → Rat) (z : Rat) : Bool := combB p ny y && geB (p.left y) p.obj p.n && decide (p.rhs y = z)
theorem geB_iff {f g : Nat → Rat} {n : Nat} : geB f g n = true ↔ ∀ j, j < n → g j ≤ f j := by
  induction n with
  | zero => exact ⟨fun _ i hi => absurd hi (by omega), fun _ => rfl⟩
  | succ n ih =>
    show (geB f g n && decide (g n ≤ f n)) = true ↔ _
    rw [Bool.and_eq_true, ih, decide_eq_true_eq]
    constructor
    · rintro ⟨a, b⟩ i hi
      by_cases e : i = n
      · subst e; exact b
      · exact a i (by omega)
    · intro h; exact ⟨fun i hi => h i (by omega), h n (by omega)⟩
theorem refB_of {p : Prob} {y : Nat → Rat} (h : p.Refutes y) : refB p p.m y = true := by
  unfold refB
  rw [Bool.and_eq_true, Bool.and_eq_true, combB_iff, nnB_iff, decide_eq_true_eq]
  exact ⟨⟨⟨rfl, h.1⟩, h.2.1⟩, h.2.2⟩
theorem proB_of {p : Prob} {y : Nat → Rat} {z : Rat} (h : p.Proves y z) : proB p p.m y z = true := by
  unfold proB
  rw [Bool.and_eq_true, Bool.and_eq_true, combB_iff, geB_iff, decide_eq_true_eq]
  exact ⟨⟨⟨rfl, h.1⟩, h.2.1⟩, h.2.2⟩
set_option maxHeartbeats 8000000 in
set_option maxRecDepth 100000 in
theorem refutes_b (v : Value) (p : Prob) (Ay : Option Addr) (ny cy : Nat) (y : Nat → Rat) (Kc Kr Ky T : Nat) (w : World) (hv : ProbV w v p) (hval : validB p = true) (hy : RatsV w Ay ny cy y)
    (hc : ∀ i, i < p.m → ∀ j, j < p.n → QB Kc (p.coef i j)) (hr : ∀ i, i < p.m → QB Kr (p.right i)) (hq : ∀ j, j < ny → QB Ky (y j)) (hT : 1 + p.m * (Kc + Kr + Ky + 1) ≤ T) (hT2 : T ≤ 137438953472) (hT3 : Kc + Kr + Ky ≤ 137438953472) :
    Calls Tryd.prog 19 #[v, .slice Ay ny cy] w (ValPost w (.bool (refB p ny y))) := by
  have hv0 := hv
  obtain ⟨Ao, co, Ar, cr, rfl, -⟩ := hv0
  have hp := validB_iff.1 hval
  have HC := Lib.hid hc
  have HR := Lib.hid hr
  have HY := Lib.hid hq
  have HT := Lib.hid hT
  have HV := Lib.hid hval
  clear hc hr hq hT hval
  obtain ⟨F, hF⟩ : ∃ F, F = refB p ny y := ⟨_, rfl⟩
  obtain ⟨C, hC⟩ : ∃ F, F = combB p ny y := ⟨_, rfl⟩
  have HF : Hid (F = (C && nnB (p.left y) p.n && decide (p.rhs y < 0))) := Lib.hid (by rw [hF, hC]; rfl)
  have HCC := Lib.hid hC
  rw [← hF]
  obtain ⟨n, hn⟩ : ∃ n, n = p.n := ⟨_, rfl⟩
  obtain ⟨m, hm⟩ : ∃ n, n = p.m := ⟨_, rfl⟩
  have hnb : n ≤ 1000 := by rw [hn]; exact hp.2.1
  rw [← hn] at HF
  have HN := Lib.hid hn
  rw [← hn, ← hm] at hv ⊢
  clear hp hF hC hn hm
  have PB := Box.new w 31 #[.slice Ao n co, .slice Ar m cr]
  have hE0 : Ext w (w.alloc (.cells #[.slice Ao n co, .slice Ar m cr] 31)) := (Ext.refl w).alloc _
  go_enter Tryd.func19, Tryd.ntmps19
  go_upto_region 1 with fail
  generalize (w.alloc (.cells #[.slice Ao n co, .slice Ar m cr] 31)) = V at *
  have c0 := PB.c0
  have c1 := PB.c1
  have hvV := hv.ext hE0
  go_wp2_with fail
  refine (combine_b _ p Ay ny cy y Kc Kr Ky T _ hvV HV.out (hy.ext hE0) HC.out HR.out HY.out HT.out hT2 hT3).mono ?_
  rintro e w1 ⟨bl, q, A, n1, c, q', A', n1', c', f, z, rfl, hL, hZ, hB, hval, hx1⟩
  rw [← HCC.out] at hval ⊢
  rw [← HN.out] at hL hB hval ⊢
  have HB := Lib.hid hB
  have HVL := Lib.hid hval
  have hE1 := hE0.trans hx1
  clear hx1 hB hval PB c0 c1 hvV
  go_upto_region 2 with fail
  have B6 := Box.new w1 37 #[.bool q, .slice A n1 c, .bool q', .slice A' n1' c']
  have hx6 : Ext w1 (w1.alloc (.cells #[.bool q, .slice A n1 c, .bool q', .slice A' n1' c'] 37)) := (Ext.refl w1).alloc _
  generalize (w1.alloc (.cells #[.bool q, .slice A n1 c, .bool q', .slice A' n1' c'] 37)) = U at *
  obtain ⟨b6, hb6⟩ : ∃ x, x = w1.heap.size := ⟨_, rfl⟩
  rw [← hb6] at B6 ⊢
  clear hb6
  have hL := hL.ext hx6
  have hZ := hZ.ext hx6
  have hE2 := hE1.trans hx6
  clear hx6 hE0 hE1
  go_wp2_with fail
  go_loopw [7, 19] (fun o i wr => ∃ j : Nat, j ≤ n ∧ i = .int .i64 j ∧ o = .bool (C && nnB f j) ∧ Ext U wr) (fun _ i _ => n - (intOf i).toNat)
  case atStart => exact ⟨0, by omega, rfl, by show Value.bool C = .bool (C && true); rw [Bool.and_true], Ext.refl U⟩
  case round =>
    obtain ⟨j, hj, rfl, rfl, hx⟩ := hrel
    by_cases hlt : j < n
    · obtain ⟨p3, A3, m3, c3, p3', A3', m3', c3', a0, a1, a2, a3, hr3⟩ := (hL.ext hx).at hlt
      obtain ⟨X, hX⟩ : ∃ X, X = f j := ⟨_, rfl⟩
      have HXB := Lib.hid (HB.out j hlt)
      rw [← hX] at hr3 HXB
      obtain ⟨O, hO⟩ : ∃ O, O = (C && nnB f j) := ⟨_, rfl⟩
      have HO : Hid ((C && nnB f (j + 1)) = (O && decide (0 ≤ X))) := Lib.hid (by show (C && (nnB f j && decide (0 ≤ f j))) = _; rw [hO, hX, Bool.and_assoc])
      rw [← hO]
      clear hX hO
      go_upto_region 5 with fail
      have Bx := Box.new wr 37 #[.bool p3, .slice A3 m3 c3, .bool p3', .slice A3' m3' c3']
      have hEx : Ext wr (wr.alloc (.cells #[.bool p3, .slice A3 m3 c3, .bool p3', .slice A3' m3' c3'] 37)) := (Ext.refl wr).alloc _
      generalize (wr.alloc (.cells #[.bool p3, .slice A3 m3 c3, .bool p3', .slice A3' m3' c3'] 37)) = X1 at *
      have hx := hx.trans hEx
      have hr3 := hr3.ext hEx
      have x0 := Bx.c0
      have x1 := Bx.c1
      have x2 := Bx.c2
      have x3 := Bx.c3
      clear a0 a1 a2 a3 hEx
      cases O with
      | false =>
        go_wp2_with fail
        go_roundw
        case rel => exact ⟨j + 1, by omega, by go_num, by rw [HO.out]; rfl, hx⟩
        case measure => simp [intOf]; omega
      | true =>
        go_wp2_with fail
        refine (RatSign_b _ X T _ ⟨hr3, HXB.out⟩).mono ?_
        rintro e w3 ⟨rfl, hx3⟩
        have ev : decide (0 ≤ X.num.sign) = decide (0 ≤ X) := by
          rcases sign_cases X.num with ⟨a, b⟩ | ⟨a, b⟩ | ⟨a, b⟩ <;> rw [b]
          · have := num_neg.2 a; simp; grind
          · have := Rat.num_eq_zero.1 a; simp; grind
          · have := num_pos.2 a; simp; grind
        obtain ⟨S, hS⟩ : ∃ S, S = decide (0 ≤ X) := ⟨_, rfl⟩
        obtain ⟨g, hg⟩ : ∃ g, g = X.num.sign := ⟨_, rfl⟩
        rw [← hS] at ev HO
        rw [← hg] at ev ⊢
        clear hS hg
        have hxx := hx.trans hx3
        go_wp2_with fail
        go_roundw
        case rel => exact ⟨j + 1, by omega, by go_num, by rw [HO.out]; rfl, hxx⟩
        case measure => simp [intOf]; omega
    · obtain rfl : j = n := by omega
      have B7 := B6.ext hx
      have x0 := B7.c0
      have x1 := B7.c1
      have x2 := B7.c2
      have x3 := B7.c3
      have hZ7 := hZ.ext hx
      obtain ⟨O, hO⟩ : ∃ O, O = (C && nnB f j) := ⟨_, rfl⟩
      have HO : Hid (F = (O && decide (z < 0))) := Lib.hid (by
        rw [HF.out, hO]
        cases hc : C with
        | false => rfl
        | true =>
          obtain ⟨v1, v2⟩ := HVL.out hc
          have e : nnB (p.left y) j = nnB f j := by
            have key : ∀ k, k ≤ j → nnB (p.left y) k = nnB f k := by
              intro k
              induction k with
              | zero => intro _; rfl
              | succ k ih => intro hk; show (nnB (p.left y) k && _) = (nnB f k && _); rw [ih (by omega), v1 k (by omega)]
            exact key j (Nat.le_refl _)
          rw [e, v2])
      rw [← hO]
      clear hO
      cases O with
      | false =>
        go_wp2_with fail
        go_ret
        exact ⟨by rw [HO.out]; rfl, hE2.trans hx⟩
      | true =>
        go_wp2_with fail
        refine (RatSign_b _ z T _ hZ7).mono ?_
        rintro e w3 ⟨rfl, hx3⟩
        have ev : decide (z.num.sign < 0) = decide (z < 0) := by
          rcases sign_cases z.num with ⟨a, b⟩ | ⟨a, b⟩ | ⟨a, b⟩ <;> rw [b]
          · have := num_neg.2 a; simp; grind
          · have := Rat.num_eq_zero.1 a; simp; grind
          · have := num_pos.2 a; simp; grind
        obtain ⟨S, hS⟩ : ∃ S, S = decide (z < 0) := ⟨_, rfl⟩
        obtain ⟨g, hg⟩ : ∃ g, g = z.num.sign := ⟨_, rfl⟩
        rw [← hS] at ev HO
        rw [← hg] at ev ⊢
        clear hS hg
        go_wp2_with fail
        go_ret
        exact ⟨by rw [HO.out]; rfl, (hE2.trans hx).trans hx3⟩
end Go.Proofs.YtgffcblldebelaaDoor.Lp

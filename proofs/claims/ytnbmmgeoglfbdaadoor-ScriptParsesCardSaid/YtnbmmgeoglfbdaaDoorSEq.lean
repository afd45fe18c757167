/- Walks: equal of the laws (commands held against those of the reference). -/
import Derived.Test.YtnbmmgeoglfbdaaDoorSSame
set_option linter.unusedVariables false
set_option linter.unusedSimpArgs false
namespace Go.Proofs.YtnbmmgeoglfbdaaDoor.Sc
open Go.RowKit Go.Proofs.YtnbmmgeoglfbdaaDoor.Big

set_option maxHeartbeats 2000000 in
set_option maxRecDepth 100000 in
theorem equal1_any (x y : Cmd) (A B : Option Addr) (n c m d : Nat) (w : World) (hx : Row w (.slice A n c) (iV x.nums)) (hy : Row w (.slice B m d) (iV y.nums)) :
    Calls Tryd.prog 27 #[.agg #[.int .u8 (x.kind : Int), .string (str x.name), .slice A n c, .string (str x.text)], .agg #[.int .u8 (y.kind : Int), .string (str y.name), .slice B m d, .string (str y.text)]] w (BoolPost w (decide (x = y))) := by
  obtain ⟨V, hV⟩ : ∃ V, V = decide (x = y) := ⟨_, rfl⟩
  rw [← hV]
  have hV2 : V = (decide (x.kind = y.kind) && decide (x.name = y.name) && decide (x.text = y.text) && decide (x.nums = y.nums)) := by
    rw [hV, Bool.eq_iff_iff]
    cases x; cases y
    simp only [Bool.and_eq_true, decide_eq_true_eq, Cmd.mk.injEq]
    constructor
    · rintro ⟨a, b, c, d⟩; exact ⟨⟨⟨a, b⟩, d⟩, c⟩
    · rintro ⟨⟨⟨a, b⟩, d⟩, c⟩; exact ⟨a, b, c, d⟩
  have HV := Lib.hid hV2
  clear hV hV2
  obtain ⟨X, hX⟩ : ∃ X, X = x.kind := ⟨_, rfl⟩
  obtain ⟨Y, hY⟩ : ∃ Y, Y = y.kind := ⟨_, rfl⟩
  obtain ⟨b1, hb1⟩ : ∃ b, b = decide (X = Y) := ⟨_, rfl⟩
  obtain ⟨b2, hb2⟩ : ∃ b, b = decide (x.name = y.name) := ⟨_, rfl⟩
  obtain ⟨b3, hb3⟩ : ∃ b, b = decide (x.text = y.text) := ⟨_, rfl⟩
  have e2 : ((str x.name).toList == (str y.name).toList) = b2 := by rw [str_eq_iff, hb2]
  have e3 : ((str x.text).toList == (str y.text).toList) = b3 := by rw [str_eq_iff, hb3]
  have e1 : ((X : Int) == (Y : Int)) = b1 := by rw [hb1, Bool.eq_iff_iff]; simp; omega
  rw [← hX, ← hY]
  rw [← hX, ← hY, ← hb1, ← hb2, ← hb3] at HV
  obtain ⟨nx, hnx⟩ : ∃ s, s = str x.name := ⟨_, rfl⟩
  obtain ⟨ny, hny⟩ : ∃ s, s = str y.name := ⟨_, rfl⟩
  obtain ⟨tx, htx⟩ : ∃ s, s = str x.text := ⟨_, rfl⟩
  obtain ⟨ty, hty⟩ : ∃ s, s = str y.text := ⟨_, rfl⟩
  rw [← hnx, ← hny] at e2
  rw [← htx, ← hty] at e3
  rw [← hnx, ← hny, ← htx, ← hty]
  clear hX hY hb1 hb2 hb3 hnx hny htx hty
  obtain ⟨B0, B1, hE⟩ := boxesT2 w 40 54 #[.int .u8 (X : Int), .string nx, .slice A n c, .string tx] #[.int .u8 (Y : Int), .string ny, .slice B m d, .string ty]
  cases b1 with
  | false =>
    have HF : Hid (V = false) := Lib.hid (by rw [HV.out]; rfl)
    go_enter Tryd.func27, Tryd.ntmps27
    go_wp2_with fail
    go_ret
    exact ⟨by rw [HF.out]; rfl, hE⟩
  | true =>
    cases b2 with
    | false =>
      have HF : Hid (V = false) := Lib.hid (by rw [HV.out]; rfl)
      go_enter Tryd.func27, Tryd.ntmps27
      go_wp2_with fail
      go_ret
      exact ⟨by rw [HF.out]; rfl, hE⟩
    | true =>
      cases b3 with
      | false =>
        have HF : Hid (V = false) := Lib.hid (by rw [HV.out]; rfl)
        go_enter Tryd.func27, Tryd.ntmps27
        go_wp2_with fail
        go_ret
        exact ⟨by rw [HF.out]; rfl, hE⟩
      | true =>
        have HF : Hid (V = decide (x.nums = y.nums)) := Lib.hid (by rw [HV.out]; simp)
        have hx2 := hx.ext hE
        have hy2 := hy.ext hE
        clear HV
        go_enter Tryd.func27, Tryd.ntmps27
        go_wp2_with fail
        refine (EqInts_any A B n c m d x.nums y.nums _ hx2 hy2).mono ?_
        rintro e w2 ⟨rfl, hx3⟩
        rw [← HF.out]
        go_wp2_with fail
        go_ret
        exact ⟨rfl, hE.trans hx3⟩
set_option maxHeartbeats 2000000 in
set_option maxRecDepth 100000 in
theorem EqFuncR_any (A B : Option Addr) (n c m d : Nat) (xs ys : List Cmd) (w : World) (hx : CmdsV w (.slice A n c) xs) (hy : CmdsV w (.slice B m d) ys) :
    Calls Tryd.prog 26 #[.slice A n c, .slice B m d, .func (.func 27) #[] #[]] w (BoolPost w (decide (xs = ys))) := by
  have hx0 := hx.inj.1
  have hy0 := hy.inj.1
  have hxl := Nat.le_trans hx.inj.2.1 hx.inj.2.2.1
  subst hx0 hy0
  obtain ⟨V, hV⟩ : ∃ V, V = decide (xs = ys) := ⟨_, rfl⟩
  have HV := Lib.hid hV
  rw [← hV]
  clear hV
  by_cases hl : xs.length = ys.length
  · have hl2 : ((xs.length : Int) == (ys.length : Int)) = true := by simp; omega
    have HL := Lib.hid hl
    rw [← hl] at hy hl2 ⊢
    have hl3 : ((xs.length : Int) == (xs.length : Int)) = true := by simp
    clear hl hl2
    go_enter Tryd.func26, Tryd.ntmps26
    go_wp2_with fail
    go_loopw [17] (fun i wr => ∃ k : Nat, k ≤ xs.length ∧ i = .int .i64 k ∧ Hid (xs.take k = ys.take k) ∧ Ext w wr) (fun i _ => xs.length - (intOf i).toNat)
    case atStart => exact ⟨0, by omega, rfl, Lib.hid (by simp), Ext.refl _⟩
    case round =>
      obtain ⟨k, hk, rfl, HK, hE⟩ := hrel
      by_cases hlt : k < xs.length
      · have hlt2 : k < ys.length := by have := HL.out; omega
        obtain ⟨b1, o1, A1, n1, c1, rfl, p0, p1, p2, p3, p4⟩ := (hx.ext hE).at_ hlt
        obtain ⟨b2, o2, A2, n2, c2, rfl, q0, q1, q2, q3, q4⟩ := (hy.ext hE).at_ hlt2
        obtain ⟨x, hxd⟩ : ∃ x, x = xs[k] := ⟨_, rfl⟩
        obtain ⟨y, hyd⟩ : ∃ y, y = ys[k] := ⟨_, rfl⟩
        rw [← hxd] at p0 p1 p3 p4
        rw [← hyd] at q0 q1 q3 q4
        obtain ⟨vb, hvb⟩ : ∃ b, b = decide (x = y) := ⟨_, rfl⟩
        have HT : Hid (vb = true → xs.take (k + 1) = ys.take (k + 1)) := Lib.hid (fun h => by
          rw [List.take_succ_eq_append_getElem hlt, List.take_succ_eq_append_getElem hlt2, HK.out, ← hxd, ← hyd]
          rw [h] at hvb
          rw [of_decide_eq_true hvb.symm])
        have HF : Hid (vb = false → V = false) := Lib.hid (fun h => by
          rw [HV.out, decide_eq_false]
          intro e
          rw [h] at hvb
          apply of_decide_eq_false hvb.symm
          rw [hxd, hyd]
          simp only [e])
        have HVB := Lib.hid hvb
        clear hvb
        have hE1 : Ext wr (wr.alloc (.cells #[.int .u8 (x.kind : Int), .string (str x.name), .slice A1 n1 c1, .string (str x.text)] 40)) := (Ext.refl wr).alloc _
        have q0 := hE1.cell q0
        have q1 := hE1.cell q1
        have q2 := hE1.cell q2
        have q3 := hE1.cell q3
        have hE2 : Ext wr ((wr.alloc (.cells #[.int .u8 (x.kind : Int), .string (str x.name), .slice A1 n1 c1, .string (str x.text)] 40)).alloc (.cells #[.int .u8 (y.kind : Int), .string (str y.name), .slice A2 n2 c2, .string (str y.text)] 54)) := hE1.alloc _
        have p5 : Row wr (.slice A1 n1 c1) (iV x.nums) := p4
        have q5 : Row wr (.slice A2 n2 c2) (iV y.nums) := q4
        clear hxd hyd p4 q4
        go_wp2_with fail
        refine (equal1_any x y A1 A2 n1 c1 n2 c2 _ (p5.ext hE2) (q5.ext hE2)).mono ?_
        rintro e w2 ⟨rfl, hx2⟩
        rw [← HVB.out]
        have hE3 := (hE.trans hE2).trans hx2
        clear p0 p1 p2 p3 q0 q1 q2 q3 hE1 hE2 hx2 p5 q5
        cases vb with
        | false =>
          have HF2 := Lib.hid (HF.out rfl)
          clear HF HT
          go_wp2_with fail
          go_ret
          exact ⟨by rw [HF2.out]; rfl, hE3⟩
        | true =>
          have HT2 := Lib.hid (HT.out rfl)
          clear HF HT
          go_wp2_with fail
          go_roundw
          case rel => exact ⟨k + 1, by omega, by go_num, HT2, hE3⟩
          case measure => simp [intOf]; omega
      · obtain rfl : k = xs.length := by omega
        have HF : Hid (V = true) := Lib.hid (by
          rw [HV.out, decide_eq_true]
          have h1 := HK.out
          rw [List.take_length, HL.out, List.take_length] at h1
          exact h1)
        clear HK
        go_wp2_with fail
        go_ret
        exact ⟨by rw [HF.out]; rfl, hE⟩
  · have hl2 : ((xs.length : Int) == (ys.length : Int)) = false := by simp; omega
    have HF : Hid (V = false) := Lib.hid (by rw [HV.out, decide_eq_false]; intro e; exact hl (by rw [e]))
    clear hl
    go_enter Tryd.func26, Tryd.ntmps26
    go_wp2_with fail
    go_ret
    exact ⟨by rw [HF.out]; rfl, Ext.refl _⟩
theorem equal_any (A B : Option Addr) (n c m d : Nat) (xs ys : List Cmd) (w : World) (hx : CmdsV w (.slice A n c) xs) (hy : CmdsV w (.slice B m d) ys) :
    Calls Tryd.prog 9 #[.slice A n c, .slice B m d] w (BoolPost w (decide (xs = ys))) := by
  obtain ⟨V, hV⟩ : ∃ V, V = decide (xs = ys) := ⟨_, rfl⟩
  have HV := Lib.hid hV
  rw [← hV]
  clear hV
  go_enter Tryd.func9, Tryd.ntmps9
  go_wp2_with fail
  refine (EqFuncR_any A B n c m d xs ys _ hx hy).mono ?_
  rintro e w2 ⟨rfl, hE⟩
  rw [← HV.out]
  go_wp2_with fail
  go_ret
  exact ⟨rfl, hE⟩
end Go.Proofs.YtnbmmgeoglfbdaaDoor.Sc

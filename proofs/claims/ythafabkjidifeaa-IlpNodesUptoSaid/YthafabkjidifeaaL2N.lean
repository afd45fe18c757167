/- The law IlpNodes, walked. -/
import Derived.Test.YthafabkjidifeaaIR
import Derived.Test.YthafabkjidifeaaIPL
import Derived.Test.YthafabkjidifeaaIS
set_option linter.unusedVariables false
set_option linter.unusedSimpArgs false
namespace Go.Proofs.Ythafabkjidifeaa.Lp
open Go.RowKit Go.Proofs.Ythafabkjidifeaa.Big Go.Proofs.Ythafabkjidifeaa.Rt

theorem Found.again {L : Nat} {p : Prob} {v : Int} {x : Nat → Int} {t : BT} (h : Found L p v x t) (hv : validB p = true) (hi : intB p = true) : (∀ L', t.size ≤ L' → solveR L' p = .done v x t) ∧ (∀ L', L' < t.size → solveR L' p = .fail 13) ∧ 1 ≤ t.size ∧ t.size ≤ L := by
  obtain ⟨s, h1, h2⟩ := h.eq
  have hr := (validB_iff.1 hv).vrel
  have h3 := (nodeF_sound hr (intObj_of hi) h1).2.2.2.2
  obtain ⟨h4, -, -⟩ := solveF_limit (L' := 0) h1
  refine ⟨fun L' hL => ?_, fun L' hL => ?_, t.size_pos, by omega⟩
  · rw [solveR_eq hv hi, (solveF_limit (L' := L') h1).2.1 hL]
    exact resR_some h2
  · rw [solveR_eq hv hi, (solveF_limit (L' := L') h1).2.2 hL]
    rfl
set_option maxHeartbeats 2000000 in
set_option maxRecDepth 100000 in
theorem nodes_any (v : Value) (l : Int) (ip : IP) (w : World) (hv : IPV w v ip) (hok : ip.ok) (hl : 0 ≤ l ∧ l ≤ 255) : Calls Try.prog 4 #[v, .int .u8 l] w (ValPost w (.bool true)) := by
  obtain ⟨Ai, ni, ci, Aj, nj, cj, dd, rfl⟩ : ∃ A n c A' n' c' d, v = .agg #[.slice A n c, .slice A' n' c', .int .u8 d] := by
    obtain ⟨A, c, A', c', rfl, -⟩ := id hv
    exact ⟨_, _, _, _, _, _, _, rfl⟩
  have B1 := Box.new w 25 #[.slice Ai ni ci, .slice Aj nj cj, .int .u8 dd]
  have hE0 : Ext w (w.alloc (.cells #[.slice Ai ni ci, .slice Aj nj cj, .int .u8 dd] 25)) := (Ext.refl w).alloc _
  go_enter Try.func4, Try.ntmps4
  go_upto_region 1 with fail
  generalize (w.alloc (.cells #[.slice Ai ni ci, .slice Aj nj cj, .int .u8 dd] 25)) = V at *
  obtain ⟨ab, hab⟩ : ∃ x, x = w.heap.size := ⟨_, rfl⟩
  rw [← hab] at B1 ⊢
  clear hab
  go_wp2_with fail
  refine (awake_i _).mono ?_
  rintro e w1 ⟨rfl, hx1⟩
  have hE1 := hE0.trans hx1
  have B1 := B1.ext hx1
  have c0 : w1.cell? ⟨ab, 0, none⟩ = some _ := B1.cell 0
  have c1 : w1.cell? ⟨ab, 1, none⟩ = some _ := B1.cell 1
  have c2 : w1.cell? ⟨ab, 2, none⟩ = some _ := B1.cell 2
  clear hE0 hx1
  go_wp2_with fail
  refine (whole_i _ ip _ (hv.ext hE1) hok).mono ?_
  clear c0 c1 c2
  rintro e w2 ⟨Ao, no, co, Ar, mo, cr, ok, rfl, hx2, hwok⟩
  have hE2 := hE1.trans hx2
  have HWOK := Lib.hid hwok
  clear hE1 hx2 hwok
  go_upto_region 4 with fail
  have PB := Box.new w2 39 #[.slice Ao no co, .slice Ar mo cr]
  have hx3 : Ext w2 (w2.alloc (.cells #[.slice Ao no co, .slice Ar mo cr] 39)) := (Ext.refl w2).alloc _
  generalize (w2.alloc (.cells #[.slice Ao no co, .slice Ar mo cr] 39)) = U at *
  obtain ⟨pb, hpb⟩ : ∃ x, x = w2.heap.size := ⟨_, rfl⟩
  rw [← hpb] at PB ⊢
  clear hpb
  have hE3 := hE2.trans hx3
  cases ok with
  | false =>
    clear HWOK
    go_wp2_with fail
    go_ret
    exact ⟨rfl, hE3⟩
  | true =>
  obtain ⟨hn6, hm8, hval, hno, hmo, hP0⟩ := HWOK.out rfl
  have hP := hP0.ext hx3
  obtain ⟨P, hPP⟩ : ∃ P, P = ip.nod.pl.toP := ⟨_, rfl⟩
  rw [← hPP] at hval hno hmo hP
  have hint : intB P = true := by rw [hPP]; exact IP.int rfl
  have hCan : ∀ M, M ≤ 68 → P.m ≤ M → CanI P 6 M 134217728 := fun M h1 h2 => by
    have hM : bK3 M 6 2 3 2 ≤ bK3 68 6 2 3 2 := bK3_mono h1 (Nat.le_refl _) (Nat.le_refl _)
    have hM2 : bK3 68 6 2 3 2 ≤ 134217728 := by decide
    rw [hPP] at hval h2 ⊢
    exact IP.can (IP.nod_ok hok) (by rw [IP.pn]; exact hn6) h2 (by omega) (by omega) (by omega) hval
  have hPm : P.m ≤ 8 := by rw [hPP, IP.pm]; exact hm8
  have hPn : P.n ≤ 6 := by rw [hPP, IP.pn]; exact hn6
  have HINT := Lib.hid hint
  have HVAL := Lib.hid hval
  have HCAN := Lib.hid hCan
  have HPP := Lib.hid hPP
  obtain ⟨rfl, rfl⟩ : no = P.n ∧ mo = P.m := ⟨hno, hmo⟩
  clear hP0 hx3 HWOK hE2 hint hval hCan hPP hno hmo
  have hS := Solve_i _ P 60 6 68 134217728 60 U hP (by omega) (by omega) (by decide) (fun _ => HCAN.out 68 (by omega) (by omega)) (by omega) (by omega)
  obtain ⟨R, hR⟩ : ∃ R, R = solveR 60 P := ⟨_, rfl⟩
  rw [← hR] at hS
  have p0 := PB.c0
  have p1 := PB.c1
  go_wp2_with fail
  refine hS.mono ?_
  clear hS p0 p1
  cases R with
  | fail c =>
    clear PB
    rintro e w5 ⟨rfl, hx5⟩
    have hc := solveR_fail hR.symm
    have e1 : (c != 0) = true := by
      have : c ≠ 0 := by omega
      simpa using this
    clear hR hc
    go_upto_region 7 with fail
    have hxr : Ext w5 (w5.alloc (.cells #[.int .i64 0, .slice none 0 0, .pointer none] 32)) := (Ext.refl w5).alloc _
    generalize (w5.alloc (.cells #[.int .i64 0, .slice none 0 0, .pointer none] 32)) = U2 at *
    go_wp2_with fail
    go_ret
    exact ⟨rfl, (hE3.trans hx5).trans hxr⟩
  | done vv x t =>
    rintro e w5 ⟨g, tb, h, rfl, hPt, hT, -, -, hx5⟩
    have hF := solveR_done (by omega) hR.symm
    obtain ⟨q1, q2, q3, q4⟩ := hF.again HVAL.out HINT.out
    have HQ1 := Lib.hid q1
    have HQ2 := Lib.hid q2
    clear hR q1 q2
    obtain ⟨N, hN⟩ : ∃ n, n = t.size := ⟨_, rfl⟩
    rw [← hN] at q3 q4
    have HN := Lib.hid hN
    clear hN
    go_upto_region 7 with fail
    have RA := Box.new w5 32 #[.int .i64 vv, .slice (some ⟨g, 0, none⟩) P.n P.n, .pointer (some ⟨tb, 0, none⟩)]
    have hxr : Ext w5 (w5.alloc (.cells #[.int .i64 vv, .slice (some ⟨g, 0, none⟩) P.n P.n, .pointer (some ⟨tb, 0, none⟩)] 32)) := (Ext.refl w5).alloc _
    generalize (w5.alloc (.cells #[.int .i64 vv, .slice (some ⟨g, 0, none⟩) P.n P.n, .pointer (some ⟨tb, 0, none⟩)] 32)) = U2 at *
    obtain ⟨ra, hra⟩ : ∃ x, x = w5.heap.size := ⟨_, rfl⟩
    rw [← hra] at RA ⊢
    clear hra
    have hx6 := hx5.trans hxr
    have PB := PB.ext hx6
    have hP2 := hP.ext hx6
    have hE6 := hE3.trans hx6
    have hPt := hPt.ext hxr
    have hT := hT.ext hxr
    have r2 : U2.cell? ⟨ra, 2, none⟩ = some (.pointer (some ⟨tb, 0, none⟩)) := RA.cell 2
    clear hx5 hxr hx6 hP hE3
    go_wp2_with fail
    refine (size_b _ t tb h _ hT (by rw [← HN.out]; omega)).mono ?_
    rintro e w7 ⟨rfl, hx7⟩
    rw [← HN.out]
    have PB := PB.ext hx7
    have hP3 := hP2.ext hx7
    have hE7 := hE6.trans hx7
    have hPt := hPt.ext hx7
    have RA := RA.ext hx7
    have p0 := PB.c0
    have p1 := PB.c1
    clear r2 hT hP2 hx7 hE6
    go_wp2_with fail
    have hS := Solve_i _ P (N : Int) 6 68 134217728 N w7 hP3 (by omega) (by omega) (by omega) (fun _ => HCAN.out 68 (by omega) (by omega)) (by omega) (by omega)
    rw [HQ1.out N (by rw [← HN.out]; omega)] at hS
    refine hS.mono ?_
    clear hS p0 p1
    rintro e w8 ⟨g2, tb2, h2, rfl, hPt2, hT2, -, -, hx8⟩
    go_upto_region 11 with fail
    have RC := Box.new w8 32 #[.int .i64 vv, .slice (some ⟨g2, 0, none⟩) P.n P.n, .pointer (some ⟨tb2, 0, none⟩)]
    have hxr : Ext w8 (w8.alloc (.cells #[.int .i64 vv, .slice (some ⟨g2, 0, none⟩) P.n P.n, .pointer (some ⟨tb2, 0, none⟩)] 32)) := (Ext.refl w8).alloc _
    generalize (w8.alloc (.cells #[.int .i64 vv, .slice (some ⟨g2, 0, none⟩) P.n P.n, .pointer (some ⟨tb2, 0, none⟩)] 32)) = U3 at *
    obtain ⟨rc, hrc⟩ : ∃ x, x = w8.heap.size := ⟨_, rfl⟩
    rw [← hrc] at RC ⊢
    clear hrc
    have hx9 := hx8.trans hxr
    have PB := PB.ext hx9
    have hP4 := hP3.ext hx9
    have hE9 := hE7.trans hx9
    have hPt := hPt.ext hx9
    have RA := RA.ext hx9
    have hPt2 := hPt2.ext hxr
    have hT2 := hT2.ext hxr
    have e1 : decide ((N : Int) < 1) = false := by simp; omega
    have e2 : decide ((60 : Int) < (N : Int)) = false := by simp; omega
    have a0 := RA.c0
    have a1 := RA.c1
    have b0 := RC.c0
    have b1 := RC.c1
    have b2 : U3.cell? ⟨rc, 2, none⟩ = some (.pointer (some ⟨tb2, 0, none⟩)) := RC.cell 2
    clear hx8 hxr hx9 hP3 hE7
    go_wp2_with fail
    refine (size_b _ t tb2 h2 _ hT2 (by rw [← HN.out]; omega)).mono ?_
    rintro e wa ⟨rfl, hxa⟩
    rw [← HN.out]
    have PB := PB.ext hxa
    have hP5 := hP4.ext hxa
    have hEa := hE9.trans hxa
    have hPt := hPt.ext hxa
    have hPt2 := hPt2.ext hxa
    have RA := RA.ext hxa
    have RC := RC.ext hxa
    clear a0 a1 b0 b1 b2 hT2 hP4 hxa hE9
    have a1 := RA.c1
    have b1 := RC.c1
    go_upto_region 14 with fail
    clear e1 e2 a1 b1
    go_loopw [76] (fun i wr => ∃ j : Nat, j ≤ P.n ∧ i = .int .i64 j ∧ Ext wa wr) (fun i _ => P.n - (intOf i).toNat)
    case atStart => exact ⟨0, by omega, rfl, Ext.refl wa⟩
    case round =>
      obtain ⟨j, hj, rfl, hxj⟩ := hrel
      by_cases hlt : j < P.n
      · have a1 := (RA.ext hxj).c1
        have b1 := (RC.ext hxj).c1
        have x1 := (hPt.ext hxj).cell hlt
        have x2 := (hPt2.ext hxj).cell hlt
        have i1 : (0 : Int) ≤ (j : Int) := by omega
        have i2 : (j : Int) < (P.n : Int) := by omega
        go_upto_region 16 with fail
        go_quiet (fail)
        go_wp2_with fail
        go_roundw
        case rel => first | exact ⟨j + 1, by omega, by go_num, by repeat (first | exact hxj | apply Ext.drewN | apply Ext.drew)⟩ | ((repeat (apply Exists.intro (α := Value))); exact ⟨⟨j + 1, by omega, by go_num, by repeat (first | exact hxj | apply Ext.drewN | apply Ext.drew)⟩, rfl⟩)
        case measure => simp [intOf]; omega
      · obtain rfl : j = P.n := by omega
        obtain ⟨LN, hLN⟩ : ∃ x : Nat, x = ((N : Int) - 1 - l).toNat := ⟨_, rfl⟩
        have hL1 : (LN : Int) = max ((N : Int) - 1 - l) 0 := by omega
        have hL2 : LN < N := by omega
        have PB := PB.ext hxj
        have hP6 := hP5.ext hxj
        have hEb := hEa.trans hxj
        have p0 := PB.c0
        have p1 := PB.c1
        have e3 : decide ((P.n : Int) < (P.n : Int)) = false := by simp
        have r1 : IntKind.i64.wrap ((N : Int) - 1) = (N : Int) - 1 := IntWalk.i64_in _ (by omega)
        have r2 : IntKind.i64.wrap l = l := IntWalk.i64_in _ (by omega)
        have r3 : IntKind.i64.wrap ((N : Int) - 1 - l) = (N : Int) - 1 - l := IntWalk.i64_in _ (by omega)
        have hS := Solve_i _ P ((N : Int) - 1 - l) 6 68 134217728 LN wr hP6 (by omega) (by omega) hL1 (fun _ => HCAN.out 68 (by omega) (by omega)) (by omega) (by omega)
        rw [HQ2.out LN (by rw [← HN.out]; exact hL2)] at hS
        clear RA RC hPt hPt2 hP5 hEa
        go_wp2_with fail
        refine hS.mono ?_
        clear hS p0 p1
        rintro e wb ⟨rfl, hxb⟩
        have hnil : ∀ W, (binOp BinOp.eql 30 (.pointer none) (.pointer none)).run Try.prog W = .ok (.bool true) W := fun _ => by kernel_rfl
        go_upto_region 20 with fail
        have RD := Box.new wb 32 #[.int .i64 0, .slice none 0 0, .pointer none]
        have hxr : Ext wb (wb.alloc (.cells #[.int .i64 0, .slice none 0 0, .pointer none] 32)) := (Ext.refl wb).alloc _
        generalize (wb.alloc (.cells #[.int .i64 0, .slice none 0 0, .pointer none] 32)) = U4 at *
        obtain ⟨rd, hrd⟩ : ∃ x, x = wb.heap.size := ⟨_, rfl⟩
        rw [← hrd] at RD ⊢
        clear hrd
        have hEc := (hEb.trans hxb).trans hxr
        have d1 := RD.c1
        have d2 : U4.cell? ⟨rd, 2, none⟩ = some (.pointer none) := RD.cell 2
        clear hxb hxr
        go_wp2_with fail
        go_ret
        exact ⟨rfl, hEc⟩
end Go.Proofs.Ythafabkjidifeaa.Lp

/- The law IlpSolves, walked. -/
import Derived.Test.YthafabkjidifeaaKF
import Derived.Test.YthafabkjidifeaaIAW
import Derived.Test.YthafabkjidifeaaLV5
set_option linter.unusedVariables false
set_option linter.unusedSimpArgs false
namespace Go.Proofs.Ythafabkjidifeaa.Lp
open Go.RowKit Go.Proofs.Ythafabkjidifeaa.Big Go.Proofs.Ythafabkjidifeaa.Rt

theorem BoxP.can {ip : IP} {m : Nat} (h : BoxP ip m) : CanI ip.pl.toP 3 (m + 400) 134217728 := by
  have hM : bK3 (m + 400) 3 2 3 2 ≤ bK3 500 3 2 3 2 := bK3_mono (by have := h.m1; omega) (Nat.le_refl _) (Nat.le_refl _)
  have hM2 : bK3 500 3 2 3 2 ≤ 134217728 := by decide
  exact IP.can h.ok (by rw [IP.pn]; exact h.n3) (by rw [IP.pm]; have := h.ms; omega) (by have := h.m1; omega) (by omega) (by omega) h.valid
set_option maxHeartbeats 2000000 in
set_option maxRecDepth 100000 in
theorem solves_any (v : Value) (ip : IP) (w : World) (hv : IPV w v ip) (hok : ip.okW) : Calls Try.prog 3 #[v] w (ValPost w (.bool true)) := by
  obtain ⟨Ai, ni, ci, Aj, nj, cj, dd, rfl⟩ : ∃ A n c A' n' c' d, v = .agg #[.slice A n c, .slice A' n' c', .int .u8 d] := by
    obtain ⟨A, c, A', c', rfl, -⟩ := id hv
    exact ⟨_, _, _, _, _, _, _, rfl⟩
  have B1 := Box.new w 25 #[.slice Ai ni ci, .slice Aj nj cj, .int .u8 dd]
  have hE0 : Ext w (w.alloc (.cells #[.slice Ai ni ci, .slice Aj nj cj, .int .u8 dd] 25)) := (Ext.refl w).alloc _
  go_enter Try.func3, Try.ntmps3
  go_upto_region 1 with fail
  generalize (w.alloc (.cells #[.slice Ai ni ci, .slice Aj nj cj, .int .u8 dd] 25)) = V at *
  obtain ⟨ab, hab⟩ : ∃ x, x = w.heap.size := ⟨_, rfl⟩
  rw [← hab] at B1 ⊢
  clear hab
  go_wp2_with fail
  refine (awake_i _).mono ?_
  rintro e w1 ⟨rfl, hx1⟩
  have hE1 := hE0.trans hx1
  have B1 := B1.ext hx1
  have c0 : w1.cell? ⟨ab, 0, none⟩ = some _ := B1.cell 0
  have c1 : w1.cell? ⟨ab, 1, none⟩ = some _ := B1.cell 1
  have c2 : w1.cell? ⟨ab, 2, none⟩ = some _ := B1.cell 2
  have hv2 := hv.ext hE1
  clear hE0 hx1 B1 hv
  go_wp2_with fail
  refine (boxed_b _ ip _ hv2 hok).mono ?_
  clear c0 c1 c2
  rintro e w2 ⟨hx2, hbx⟩
  have hE2 := hE1.trans hx2
  clear hE1
  rcases hbx with ⟨v', hbz, rfl, hI⟩ | ⟨-, rfl⟩
  case inr =>
    clear hv2 hx2
    go_wp2_with fail
    go_ret
    exact ⟨rfl, hE2.alloc _⟩
  case inl =>
  have HBP : Hid (BoxP ip.boxed 8) := Lib.hid (boxed_P (boxZ_iff.1 hbz))
  have HHL : Hid (∀ r ∈ ip.boxed.rows, ip.boxed.obj.length ≤ r.coef.length) := Lib.hid (fun r hr => by rw [(HBP.out.rows r hr).1]; exact Nat.le_refl _)
  obtain ⟨Ao, co, Ar, cr, rfl, ho, -⟩ := id hI
  obtain ⟨n, hn⟩ : ∃ n, n = ip.boxed.obj.length := ⟨_, rfl⟩
  obtain ⟨m, hm⟩ : ∃ n, n = ip.boxed.rows.length := ⟨_, rfl⟩
  obtain ⟨d, hd⟩ : ∃ n, n = ip.boxed.den := ⟨_, rfl⟩
  obtain ⟨Q, hQ⟩ : ∃ Q, Q = ip.boxed := ⟨_, rfl⟩
  have hn3 : n ≤ 3 := by rw [hn]; exact HBP.out.n3
  have hn1 : 1 ≤ n := by rw [hn]; exact HBP.out.n1
  have hm8 : m ≤ 8 := by rw [hm]; exact HBP.out.ms
  have HG : Hid ((∃ v x t, solveR 400 Q.pl.toP = .done v x t ∧ grtZ Q.rows Q.obj n (4 ^ n) = some v ∧ (∀ j, j < n → 0 ≤ x j ∧ x j ≤ 3) ∧ holdsZ Q.rows n x = true ∧ dotZ Q.obj n x = v) ∨ (solveR 400 Q.pl.toP = .fail 17 ∧ grtZ Q.rows Q.obj n (4 ^ n) = none)) := Lib.hid (by rw [hQ, hn]; exact box_grt HBP.out)
  rw [← hn] at hI ho
  rw [← hm, ← hd] at hI
  rw [← hm, ← hn, ← hd]
  rw [← hQ] at HBP HHL hn hm hd hI ho
  have HN := Lib.hid hn
  have HM := Lib.hid hm
  have HC32 : Hid (∀ z ∈ Q.obj, in32 z) := Lib.hid HBP.out.ok.1
  clear hbz hn hm hd hQ hv2 hx2 hok
  go_upto_region 4 with fail
  have QB := Box.new w2 25 #[.slice Ao n co, .slice Ar m cr, .int .u8 (d : Int)]
  have hx3 : Ext w2 (w2.alloc (.cells #[.slice Ao n co, .slice Ar m cr, .int .u8 (d : Int)] 25)) := (Ext.refl w2).alloc _
  generalize (w2.alloc (.cells #[.slice Ao n co, .slice Ar m cr, .int .u8 (d : Int)] 25)) = W3 at *
  obtain ⟨qb, hqb⟩ : ∃ x, x = w2.heap.size := ⟨_, rfl⟩
  rw [← hqb] at QB ⊢
  clear hqb
  have hI3 := hI.ext hx3
  have hE3 := hE2.trans hx3
  have ho3 := ho.ext hx3
  clear hI ho hE2 hx3
  have q0 := QB.c0
  have q1 := QB.c1
  have q2 := QB.c2
  go_wp2_with fail
  refine (Make_b _ Q _ hI3 HBP.out.ok).mono ?_
  rintro e w4 ⟨y, a, rfl, hy, hx4⟩
  have hP4 : ProbV w4 y Q.pl.toP := MkV.prob hy
  have QB4 := QB.ext hx4
  have hI4 := hI3.ext hx4
  have hE4 := hE3.trans hx4
  have ho4 := ho3.ext hx4
  have hPn : Q.pl.toP.n = n := by rw [IP.pn, HN.out]
  have hPm : Q.pl.toP.m = m := by rw [IP.pm, HM.out]
  have hS := Solve_i _ Q.pl.toP 400 3 408 134217728 400 w4 hP4 (by omega) (by omega) (by decide) (fun _ => HBP.out.can) (by rw [hPm]; omega) (by omega)
  clear q0 q1 q2 QB hI3 hE3 ho3 hx4 hy
  rcases HG.out with ⟨vv, x, t, h1, h2, h3, h4, h5⟩ | ⟨h1, h2⟩
  · have HG2 := Lib.hid h2
    have HX3 := Lib.hid h3
    have HH4 := Lib.hid h4
    have HD5 := Lib.hid h5
    rw [h1] at hS
    clear h1 h2 h3 h4 h5 HG
    go_wp2_with fail
    refine hS.mono ?_
    clear hS hP4
    rintro e w5 ⟨g, tb, h, rfl, hPt, -, -, -, hx5⟩
    rw [hPn] at hPt ⊢
    clear hPn hPm
    go_upto_region 7 with fail
    have RA := Box.new w5 32 #[.int .i64 vv, .slice (some ⟨g, 0, none⟩) n n, .pointer (some ⟨tb, 0, none⟩)]
    have hxr : Ext w5 (w5.alloc (.cells #[.int .i64 vv, .slice (some ⟨g, 0, none⟩) n n, .pointer (some ⟨tb, 0, none⟩)] 32)) := (Ext.refl w5).alloc _
    generalize (w5.alloc (.cells #[.int .i64 vv, .slice (some ⟨g, 0, none⟩) n n, .pointer (some ⟨tb, 0, none⟩)] 32)) = U2 at *
    obtain ⟨ra, hra⟩ : ∃ x, x = w5.heap.size := ⟨_, rfl⟩
    rw [← hra] at RA ⊢
    clear hra
    have hx6 := hx5.trans hxr
    have QB6 := QB4.ext hx6
    have hI6 := hI4.ext hx6
    have hE6 := hE4.trans hx6
    have ho6 := ho4.ext hx6
    have hPt6 := hPt.ext hxr
    have q0 := QB6.c0
    have q1 := QB6.c1
    have q2 := QB6.c2
    clear hx5 hxr hx6 QB4 hI4 hE4 ho4 hPt
    go_wp2_with fail
    refine (greatest_b _ Q _ hI6 HBP.out.ok HBP.out.n1 HBP.out.n3 HHL.out).mono ?_
    rintro e w7 ⟨rfl, hx7⟩
    rw [← HN.out, HG2.out]
    simp only [grVal, Option.isSome_some]
    have QB7 := QB6.ext hx7
    have hI7 := hI6.ext hx7
    have hE7 := hE6.trans hx7
    have ho7 := ho6.ext hx7
    have hPt7 := hPt6.ext hx7
    have RA7 := RA.ext hx7
    clear q0 q1 q2 QB6 hI6 hE6 ho6 hPt6 RA hx7
    have q0 := QB7.c0
    have q1 := QB7.c1
    have q2 := QB7.c2
    have r0 := RA7.c0
    have r1 := RA7.c1
    go_wp2_with fail
    refine (holdsZ_b _ Q g n x _ hI7 hPt7 HBP.out.ok (by rw [HN.out]; exact HHL.out) (by omega) (fun j hj => by have := HX3.out j hj; omega)).mono ?_
    rintro e w8 ⟨rfl, hx8⟩
    rw [HH4.out]
    have QB8 := QB7.ext hx8
    have hE8 := hE7.trans hx8
    have ho8 := ho7.ext hx8
    have hPt8 := hPt7.ext hx8
    have RA8 := RA7.ext hx8
    clear q0 q1 q2 r0 r1 QB7 hI7 hE7 ho7 hPt7 RA7 hx8
    have q0 := QB8.c0
    have r1 := RA8.c1
    go_wp2_with fail
    refine (dotZ_b Ao n co g n Q.obj x _ ho8 hPt8 (by rw [HN.out]; exact Nat.le_refl _) (by omega) HC32.out (fun j hj => by have := HX3.out j hj; omega)).mono ?_
    rintro e w9 ⟨rfl, hx9⟩
    rw [HD5.out]
    clear q0 r1
    have hE9 := hE8.trans hx9
    go_wp2_with fail
    go_ret
    exact ⟨rfl, hE9⟩
  · have HG2 := Lib.hid h2
    rw [h1] at hS
    clear h1 h2 HG
    go_wp2_with fail
    refine hS.mono ?_
    clear hS hP4
    rintro e w5 ⟨rfl, hx5⟩
    clear hPn hPm
    have hnil : ∀ W, (binOp BinOp.eql 30 (.pointer none) (.pointer none)).run Try.prog W = .ok (.bool true) W := fun _ => by kernel_rfl
    go_upto_region 7 with fail
    have RA := Box.new w5 32 #[.int .i64 0, .slice none 0 0, .pointer none]
    have hxr : Ext w5 (w5.alloc (.cells #[.int .i64 0, .slice none 0 0, .pointer none] 32)) := (Ext.refl w5).alloc _
    generalize (w5.alloc (.cells #[.int .i64 0, .slice none 0 0, .pointer none] 32)) = U2 at *
    obtain ⟨ra, hra⟩ : ∃ x, x = w5.heap.size := ⟨_, rfl⟩
    rw [← hra] at RA ⊢
    clear hra
    have hx6 := hx5.trans hxr
    have QB6 := QB4.ext hx6
    have hI6 := hI4.ext hx6
    have hE6 := hE4.trans hx6
    have q0 := QB6.c0
    have q1 := QB6.c1
    have q2 := QB6.c2
    clear hx5 hxr hx6 QB4 hI4 hE4 ho4
    go_wp2_with fail
    refine (greatest_b _ Q _ hI6 HBP.out.ok HBP.out.n1 HBP.out.n3 HHL.out).mono ?_
    rintro e w7 ⟨rfl, hx7⟩
    rw [← HN.out, HG2.out]
    simp only [grVal, Option.isSome_none]
    have hE7 := hE6.trans hx7
    have RA7 := RA.ext hx7
    clear q0 q1 q2 QB6 hI6 hE6 RA hx7
    have r0 := RA7.c0
    have r1 := RA7.c1
    have r2 : w7.cell? ⟨ra, 2, none⟩ = some (.pointer none) := RA7.cell 2
    go_wp2_with fail
    go_ret
    exact ⟨rfl, hE7⟩
end Go.Proofs.Ythafabkjidifeaa.Lp

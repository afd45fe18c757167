/- The law IlpBranches, walked. -/
import Derived.Test.YthafabkjidifeaaIBR
import Derived.Test.YthafabkjidifeaaIAW
import Derived.Test.YthafabkjidifeaaLV5
import Derived.Test.YthafabkjidifeaaLV7
set_option linter.unusedVariables false
set_option linter.unusedSimpArgs false
namespace Go.Proofs.Ythafabkjidifeaa.Lp
open Go.RowKit Go.Proofs.Ythafabkjidifeaa.Big Go.Proofs.Ythafabkjidifeaa.Rt

set_option maxHeartbeats 1000000 in
set_option maxRecDepth 100000 in
theorem Branch_no (x : Value) (p : Prob) (v f : Int) (b : Bool) (w : World) (hx : ProbV w x p) (hno : validB p = false ∨ v < 0 ∨ (p.n : Int) ≤ v) : Calls Try.prog 26 #[x, .int .i64 v, .int .i64 f, .bool b] w (fun e w' => e = .returned (.agg #[.slice none 0 0, .slice none 0 0]) ∧ Ext w w') := by
  obtain ⟨Ao, co, Ar, cr, rfl, -⟩ := id hx
  obtain ⟨PB, QB0, hE0⟩ := boxes2 w 39 #[.slice Ao p.n co, .slice Ar p.m cr] #[.slice none 0 0, .slice none 0 0]
  go_enter Try.func26, Try.ntmps26
  go_upto_region 1 with fail
  generalize ((w.alloc (.cells #[.slice Ao p.n co, .slice Ar p.m cr] 39)).alloc (.cells #[.slice none 0 0, .slice none 0 0] 39)) = V0 at *
  obtain ⟨qb, hqb⟩ : ∃ x, x = w.heap.size + 1 := ⟨_, rfl⟩
  obtain ⟨pb, hpb⟩ : ∃ x, x = w.heap.size := ⟨_, rfl⟩
  rw [← hqb] at QB0 ⊢
  rw [← hpb] at PB ⊢
  have hqs : w.heap.size ≤ qb := by omega
  clear hqb hpb
  have c0 := PB.c0
  have c1 := PB.c1
  go_wp2_with fail
  refine (Valid_b _ p _ (hx.ext hE0)).mono ?_
  rintro e w1 ⟨rfl, hx1⟩
  obtain ⟨F, hF⟩ : ∃ F, F = validB p := ⟨_, rfl⟩
  rw [← hF] at hno ⊢
  have PB := PB.ext hx1
  have QB1 := QB0.ext hx1
  have hE1 := hE0.trans hx1
  clear c0 c1 hx1 QB0 hE0 hx hF
  have c0 := PB.c0
  have c1 := PB.c1
  have q0 := QB1.c0
  have q1 := QB1.c1
  have z0 := QB1.frozen 0
  have z1 := QB1.frozen 1
  have QBe := (QB1.set 0 (.slice none 0 0)).set 1 (.slice none 0 0)
  have e0 := QBe.c0
  have e1 := QBe.c1
  have hx2 := (hE1.set (p := ⟨qb, 0, none⟩) hqs (.slice none 0 0)).set (p := ⟨qb, 1, none⟩) hqs (.slice none 0 0)
  clear QBe hE1
  cases F with
  | false =>
    go_wp2_with fail
    refine bodyPost_ret (v := .agg #[.slice none 0 0, .slice none 0 0]) (by simp [results, Try.results26, go_sem, e0, e1]) rfl ?_
    exact ⟨rfl, hx2⟩
  | true =>
    by_cases h0 : v < 0
    · have i1 : decide (v < 0) = true := by simpa using h0
      go_wp2_with fail
      refine bodyPost_ret (v := .agg #[.slice none 0 0, .slice none 0 0]) (by simp [results, Try.results26, go_sem, e0, e1]) rfl ?_
      exact ⟨rfl, hx2⟩
    · have i1 : decide (v < 0) = false := by simpa using h0
      have h1 : (p.n : Int) ≤ v := hno.elim (fun h => by cases h) (fun h => h.elim (fun h => absurd h h0) id)
      have i2 : decide ((p.n : Int) ≤ v) = true := by simpa using h1
      go_wp2_with fail
      refine bodyPost_ret (v := .agg #[.slice none 0 0, .slice none 0 0]) (by simp [results, Try.results26, go_sem, e0, e1]) rfl ?_
      exact ⟨rfl, hx2⟩
theorem ProbV.sideform {w : World} {y : Value} {p : Prob} {v : Nat} {f : Int} {b : Bool} (h : ProbV w y (p.side v f b)) : ∃ Ab cb gr crb, y = .agg #[.slice Ab p.n cb, .slice (some ⟨gr, 0, none⟩) (p.m + 1) crb] ∧ RatsV w Ab p.n cb p.obj ∧ p.m + 1 ≤ crb ∧ crb ≤ 9223372036854775807 ∧
    (∀ i, i < p.m → RowAt w gr i (p.len i) (p.coef i) (p.rel i) (p.right i)) ∧ RowAt w gr p.m p.n (fun j => if j = v then 1 else 0) (if b = true then 3 else 1) ((f + (if b = true then 1 else 0) : Int) : Rat) := by
  obtain ⟨Ab, cb, Ar, crb, e, h1, h2, h3, h4⟩ := h
  obtain ⟨gr, e2, hr⟩ := h4 (Nat.succ_pos _)
  subst e2
  refine ⟨Ab, cb, gr, crb, e, h1, h2, h3, fun i hi => ?_, ?_⟩
  · have := hr i (Nat.lt_succ_of_lt hi)
    unfold Prob.side at this
    simp only [if_neg (show ¬ i = p.m by omega)] at this
    exact this
  · have := hr p.m (Nat.lt_succ_self _)
    unfold Prob.side at this
    simp only [if_pos] at this
    exact this
theorem ProbV.objsB {w : World} {p : Prob} {Ao : Option Addr} {n co : Nat} {r : Value} (h : ProbV w (.agg #[.slice Ao n co, r]) p) : RatsV w Ao n co p.obj := by
  obtain ⟨Ao', co', Ar', cr', e, h1, -⟩ := h
  injection e with e
  have e1 : Value.slice Ao n co = Value.slice Ao' p.n co' := by
    have := congrArg (fun a : Array Value => a[0]?) e
    simpa using this
  injection e1 with e1 e2 e3
  subst e1 e3
  rw [e2]
  exact h1
theorem ProbV.rowsB {w : World} {p : Prob} {Ar : Option Addr} {m cr : Nat} {q : Value} (h : ProbV w (.agg #[q, .slice Ar m cr]) p) : p.m ≤ cr ∧ cr ≤ 9223372036854775807 ∧ (0 < p.m → ∃ br, Ar = some ⟨br, 0, none⟩ ∧ ∀ i, i < p.m → RowAt w br i (p.len i) (p.coef i) (p.rel i) (p.right i)) := by
  obtain ⟨Ao', co', Ar', cr', e, -, h2, h3, h4⟩ := h
  injection e with e
  have e1 : Value.slice Ar m cr = Value.slice Ar' p.m cr' := by
    have := congrArg (fun a : Array Value => a[1]?) e
    simpa using this
  injection e1 with e1 e2 e3
  subst e1 e3
  exact ⟨h2, h3, h4⟩
set_option maxHeartbeats 2000000 in
set_option maxRecDepth 100000 in
theorem branches_any (v : Value) (v0 f : Int) (hi : Bool) (ip : IP) (w : World) (hv : IPV w v ip) (hok : ip.ok) (hv1 : -9223372036854775808 ≤ v0 ∧ v0 ≤ 9223372036854775807) (hf : fit f = true) : Calls Try.prog 8 #[v, .int .i64 v0, .int .i64 f, .bool hi] w (ValPost w (.bool true)) := by
  obtain ⟨Ai, ni, ci, Aj, nj, cj, dd, rfl⟩ : ∃ A n c A' n' c' d, v = .agg #[.slice A n c, .slice A' n' c', .int .u8 d] := by
    obtain ⟨A, c, A', c', rfl, -⟩ := id hv
    exact ⟨_, _, _, _, _, _, _, rfl⟩
  have B1 := Box.new w 25 #[.slice Ai ni ci, .slice Aj nj cj, .int .u8 dd]
  have hE0 : Ext w (w.alloc (.cells #[.slice Ai ni ci, .slice Aj nj cj, .int .u8 dd] 25)) := (Ext.refl w).alloc _
  go_enter Try.func8, Try.ntmps8
  go_upto_region 1 with fail
  generalize (w.alloc (.cells #[.slice Ai ni ci, .slice Aj nj cj, .int .u8 dd] 25)) = V at *
  obtain ⟨ab, hab⟩ : ∃ x, x = w.heap.size := ⟨_, rfl⟩
  rw [← hab] at B1 ⊢
  clear hab
  go_wp2_with fail
  refine (awake_i _).mono ?_
  rintro e w1 ⟨rfl, hx1⟩
  have hE1 := hE0.trans hx1
  have B1 := B1.ext hx1
  have c0 : w1.cell? ⟨ab, 0, none⟩ = some _ := B1.cell 0
  have c1 : w1.cell? ⟨ab, 1, none⟩ = some _ := B1.cell 1
  have c2 : w1.cell? ⟨ab, 2, none⟩ = some _ := B1.cell 2
  have hv2 := hv.ext hE1
  clear hE0 hx1
  obtain ⟨rfl, rfl, -⟩ : ni = ip.obj.length ∧ nj = ip.rows.length ∧ True := by
    obtain ⟨_, _, _, _, e, -⟩ := hv2
    injection e with e
    have e1 := congrArg (fun a : Array Value => a[0]?) e
    have e2 := congrArg (fun a : Array Value => a[1]?) e
    simp at e1 e2
    exact ⟨e1.2.1, e2.2.1, trivial⟩
  obtain ⟨N, hN⟩ : ∃ n, n = ip.obj.length := ⟨_, rfl⟩
  obtain ⟨M, hM⟩ : ∃ n, n = ip.rows.length := ⟨_, rfl⟩
  have HN := Lib.hid hN
  have HM := Lib.hid hM
  rw [← hN, ← hM] at hv2 c0 c1
  clear B1 hv hN hM
  by_cases hN6 : 6 < N
  case pos =>
    have i1 : decide (6 < N) = true := by simpa using hN6
    go_wp2_with fail
    go_ret
    exact ⟨rfl, hE1⟩
  case neg =>
  have i1 : decide (6 < N) = false := by simpa using hN6
  by_cases hM8 : 8 < M
  case pos =>
    have i2 : decide (8 < M) = true := by simpa using hM8
    go_wp2_with fail
    go_ret
    exact ⟨rfl, hE1⟩
  case neg =>
  have i2 : decide (8 < M) = false := by simpa using hM8
  go_wp2_with fail
  refine (Make_b _ ip _ hv2 hok).mono ?_
  rintro e w2 ⟨y, a, rfl, hy, hx2⟩
  have hP0 : ProbV w2 y ip.pl.toP := MkV.prob hy
  obtain ⟨P, hPP⟩ : ∃ P, P = ip.pl.toP := ⟨_, rfl⟩
  have hPn : P.n = N := by rw [hPP, IP.pn, HN.out]
  have hPm : P.m = M := by rw [hPP, IP.pm, HM.out]
  have HOB : Hid (∀ j, QB 2 (P.obj j)) := Lib.hid (fun j => by rw [hPP]; exact IP.obj_b hok j)
  have HCO : Hid (∀ i, i < P.m → ∀ j, QB 2 (P.coef i j)) := Lib.hid (by rw [hPP]; exact fun i hi j => IP.coef_b hok hi j)
  have HRI : Hid (∀ i, i < P.m → QB 2 (P.right i)) := Lib.hid (by rw [hPP]; exact fun i hi => IP.right_b hok hi)
  rw [← hPP] at hP0
  have hn6 : P.n ≤ 6 := by omega
  have hm8 : P.m ≤ 8 := by omega
  have hE2 := hE1.trans hx2
  clear hPP hPn hPm hy hE1 hx2 c0 c1 c2 B1 hv2
  obtain ⟨Ao, co, Ar, cr, rfl, -⟩ := id hP0
  go_upto_region 6 with fail
  have GB := Box.new w2 39 #[.slice Ao P.n co, .slice Ar P.m cr]
  have hx3 : Ext w2 (w2.alloc (.cells #[.slice Ao P.n co, .slice Ar P.m cr] 39)) := (Ext.refl w2).alloc _
  generalize (w2.alloc (.cells #[.slice Ao P.n co, .slice Ar P.m cr] 39)) = W3 at *
  obtain ⟨gb, hgb⟩ : ∃ x, x = w2.heap.size := ⟨_, rfl⟩
  rw [← hgb] at GB ⊢
  clear hgb
  have hP := hP0.ext hx3
  have hE3 := hE2.trans hx3
  clear hP0 hx3 hE2
  have g0 := GB.c0
  have g1 := GB.c1
  by_cases hgood : validB P = true ∧ 0 ≤ v0 ∧ v0 < (P.n : Int)
  case neg =>
    go_wp2_with fail
    refine (Branch_no _ P v0 f hi _ hP (by
      cases h : validB P with
      | false => exact .inl rfl
      | true =>
        rw [h] at hgood
        by_cases h0 : v0 < 0
        · exact .inr (.inl h0)
        · exact .inr (.inr (by
            rcases Int.lt_or_le v0 (P.n : Int) with h1 | h1
            · exact absurd ⟨rfl, by omega, h1⟩ hgood
            · exact h1)))).mono ?_
    rintro e w4 ⟨rfl, hx4⟩
    clear g0 g1
    go_upto_region 7 with fail
    have BB := Box.new w4 39 #[.slice none 0 0, .slice none 0 0]
    have hx5 : Ext w4 (w4.alloc (.cells #[.slice none 0 0, .slice none 0 0] 39)) := (Ext.refl w4).alloc _
    generalize (w4.alloc (.cells #[.slice none 0 0, .slice none 0 0] 39)) = W5 at *
    obtain ⟨bb, hbb⟩ : ∃ x, x = w4.heap.size := ⟨_, rfl⟩
    rw [← hbb] at BB ⊢
    clear hbb
    have GB5 := (GB.ext hx4).ext hx5
    have hP5 := (hP.ext hx4).ext hx5
    have hE5 := (hE3.trans hx4).trans hx5
    have g0 := GB5.c0
    have g1 := GB5.c1
    clear hx4 hx5 hE3 hP GB
    go_wp2_with fail
    refine (Valid_b _ P _ hP5).mono ?_
    rintro e w6 ⟨rfl, hx6⟩
    have GB6 := GB5.ext hx6
    have BB6 := BB.ext hx6
    have hE6 := hE5.trans hx6
    clear g0 g1 GB5 BB hP5 hE5 hx6
    have g0 := GB6.c0
    have g1 := GB6.c1
    have b0 := BB6.c0
    have b1 := BB6.c1
    obtain ⟨F, hF⟩ : ∃ F, F = validB P := ⟨_, rfl⟩
    rw [← hF] at hgood ⊢
    clear hF
    cases F with
    | false =>
      clear hgood
      go_wp2_with fail
      go_ret
      exact ⟨rfl, hE6⟩
    | true =>
      by_cases h0 : v0 < 0
      · have i1 : decide (v0 < 0) = true := by simpa using h0
        clear hgood
        go_wp2_with fail
        go_ret
        exact ⟨rfl, hE6⟩
      · have i1 : decide (v0 < 0) = false := by simpa using h0
        have h1 : (P.n : Int) ≤ v0 := by
          rcases Int.lt_or_le v0 (P.n : Int) with h1 | h1
          · exact absurd ⟨rfl, by omega, h1⟩ hgood
          · exact h1
        have i2 : decide ((P.n : Int) ≤ v0) = true := by simpa using h1
        clear hgood
        go_wp2_with fail
        go_ret
        exact ⟨rfl, hE6⟩
  case pos =>
  obtain ⟨hval, h0, h1⟩ := hgood
  obtain ⟨v, rfl⟩ : ∃ v : Nat, v0 = (v : Int) := ⟨v0.toNat, by omega⟩
  have hvn : v < P.n := by omega
  go_wp2_with fail
  refine (Branch_b _ P v f hi _ hP hval hvn hf).mono ?_
  rintro e w4 ⟨y, rfl, hy, hx4⟩
  obtain ⟨Ab, cb, gr, crb, rfl, hob, hcr, hcr2, hrow, hlast⟩ := hy.sideform
  have GB4 := GB.ext hx4
  have hP4 := hP.ext hx4
  have hE4 := hE3.trans hx4
  have hcb := hob.1
  obtain ⟨M1, hM1⟩ : ∃ m, m = P.m + 1 := ⟨_, rfl⟩
  rw [← hM1] at hcr ⊢
  have HM1 := Lib.hid hM1
  have r1 : IntKind.i64.wrap ((P.m : Int) + 1) = (M1 : Int) := by rw [show (P.m : Int) + 1 = (M1 : Int) by omega]; exact IntWalk.i64_in _ (by omega)
  have hM9 : M1 ≤ 9 := by omega
  have hmM : P.m < M1 := by omega
  clear g0 g1 hy hx4 GB hP hE3 hM1
  go_upto_region 7 with fail
  have BB := Box.new w4 39 #[.slice Ab P.n cb, .slice (some ⟨gr, 0, none⟩) M1 crb]
  have hx5 : Ext w4 (w4.alloc (.cells #[.slice Ab P.n cb, .slice (some ⟨gr, 0, none⟩) M1 crb] 39)) := (Ext.refl w4).alloc _
  generalize (w4.alloc (.cells #[.slice Ab P.n cb, .slice (some ⟨gr, 0, none⟩) M1 crb] 39)) = W5 at *
  obtain ⟨bb, hbb⟩ : ∃ x, x = w4.heap.size := ⟨_, rfl⟩
  rw [← hbb] at BB ⊢
  clear hbb
  have GB5 := GB4.ext hx5
  have hP5 := hP4.ext hx5
  have hE5 := hE4.trans hx5
  have HROW : Hid (∀ i, i < P.m → RowAt W5 gr i (P.len i) (P.coef i) (P.rel i) (P.right i)) := Lib.hid (fun i hi => (hrow i hi).ext hx5)
  have hlast := hlast.ext hx5
  have hob := hob.ext hx5
  clear hx5 GB4 hP4 hE4 hrow
  have g0 := GB5.c0
  have g1 := GB5.c1
  go_wp2_with fail
  refine (Valid_b _ P _ hP5).mono ?_
  rintro e w6 ⟨rfl, hx6⟩
  rw [hval]
  have GB6 := GB5.ext hx6
  have BB6 := BB.ext hx6
  have hE6 := hE5.trans hx6
  have hP6 := hP5.ext hx6
  have HROW6 : Hid (∀ i, i < P.m → RowAt w6 gr i (P.len i) (P.coef i) (P.rel i) (P.right i)) := Lib.hid (fun i hi => (HROW.out i hi).ext hx6)
  have hlast6 := hlast.ext hx6
  have hob6 := hob.ext hx6
  clear g0 g1 GB5 BB hP5 hE5 hx6 HROW hlast hob
  have g0 := GB6.c0
  have g1 := GB6.c1
  have b0 := BB6.c0
  have b1 := BB6.c1
  have i3 : decide ((v : Int) < 0) = false := by simp
  have i4 : decide (P.n ≤ v) = false := by simp; omega
  have e1 : ((M1 : Int) != (M1 : Int)) = false := by simp
  have j1 : (0 : Int) ≤ (P.m : Int) := by omega
  have j2 : (P.m : Int) < (M1 : Int) := by omega
  obtain ⟨R, hR⟩ : ∃ R : Nat, R = if hi = true then 3 else 1 := ⟨_, rfl⟩
  obtain ⟨G, hG⟩ : ∃ G : Int, G = f + (if hi = true then 1 else 0) := ⟨_, rfl⟩
  rw [← hR, ← hG] at hlast6
  have HR := Lib.hid hR
  have HG := Lib.hid hG
  clear hR hG
  obtain ⟨Lc, Ld, lx, LA, l1, l2, ly, LA', l3, l4, h0, h1', h2, h3, h4, h5, hlc, hlr, hlq⟩ := hlast6
  go_upto_region 12 with fail
  clear h0 h1' h2 h3 h4 h5 g0 g1 b0 b1
  have TB := Box.new w6 62 #[.slice Lc P.n Ld, .int .u8 (R : Int), .bool lx, .slice LA l1 l2, .bool ly, .slice LA' l3 l4]
  have hx7 : Ext w6 (w6.alloc (.cells #[.slice Lc P.n Ld, .int .u8 (R : Int), .bool lx, .slice LA l1 l2, .bool ly, .slice LA' l3 l4] 62)) := (Ext.refl w6).alloc _
  generalize (w6.alloc (.cells #[.slice Lc P.n Ld, .int .u8 (R : Int), .bool lx, .slice LA l1 l2, .bool ly, .slice LA' l3 l4] 62)) = W7 at *
  obtain ⟨lb, hlb⟩ : ∃ x, x = w6.heap.size := ⟨_, rfl⟩
  rw [← hlb] at TB ⊢
  clear hlb
  obtain ⟨f1, f2⟩ := fit_iff.1 hf
  go_wp2_with fail
  refine (RatOf_b f _ f1 f2).mono ?_
  rintro e w8 ⟨v8, rfl, hb8, hx8⟩
  obtain ⟨p8, A8, n8, c8, p8', A8', n8', c8', rfl⟩ := hb8.1.shape
  go_upto_if 88 with fail
  have DB := Box.new w8 59 #[.bool p8, .slice A8 n8 c8, .bool p8', .slice A8' n8' c8']
  have hx9 : Ext w8 (w8.alloc (.cells #[.bool p8, .slice A8 n8 c8, .bool p8', .slice A8' n8' c8'] 59)) := (Ext.refl w8).alloc _
  generalize (w8.alloc (.cells #[.bool p8, .slice A8 n8 c8, .bool p8', .slice A8' n8' c8'] 59)) = W9 at *
  obtain ⟨db, hdb⟩ : ∃ x, x = w8.heap.size := ⟨_, rfl⟩
  rw [← hdb] at DB ⊢
  have hdw : w8.heap.size ≤ db := by omega
  clear hdb
  have hb9 := hb8.ext hx9
  go_cut [12] (fun v wx => v = .int .u8 (R : Int) ∧ ∃ (y1 y2 : Bool) (Y1 Y2 : Option Addr) (t1 t2 t3 t4 : Nat), Box wx db 59 #[.bool y1, .slice Y1 t1 t2, .bool y2, .slice Y2 t3 t4] ∧ RatB wx (.agg #[.bool y1, .slice Y1 t1 t2, .bool y2, .slice Y2 t3 t4]) (G : Rat) 5 ∧ Ext w8 wx)
  case first =>
    cases hi with
    | false =>
      go_wp2_with fail
      go_meet
      exact ⟨by rw [HR.out]; rfl, _, _, _, _, _, _, _, _, DB, ⟨by rw [HG.out, if_neg (by decide), Int.add_zero]; exact hb9.1, by rw [HG.out, if_neg (by decide), Int.add_zero]; exact QB_mono (by omega) hb9.2⟩, hx9⟩
    | true =>
      go_upto_region 14 with fail
      have q0 := DB.c0
      have q1 := DB.c1
      have q2 := DB.c2
      have q3 := DB.c3
      have HRR : Hid (R = 3) := Lib.hid (by rw [HR.out]; rfl)
      have HGG : Hid ((G : Rat) = (f : Rat) + ((1 : Int) : Rat)) := Lib.hid (by rw [HG.out, if_pos rfl, Rat.intCast_add])
      go_region_law (first
        | (go_simp; go_at_call 20; (with_reducible refine (RatOf_b 1 _ (by omega) (by omega)).mono ?_); rintro e wl ⟨vl, rfl, hbl, hxl⟩; (obtain ⟨pl, Al, nl, cl, pl', Al', nl', cl', rfl⟩ := hbl.1.shape); (have hlL : Ext W9 wl := Ext.trans (by repeat (first | (with_reducible exact Ext.refl _) | (with_reducible apply Ext.drew) | (with_reducible apply Ext.drewN))) hxl); (have q0 := hlL.cell q0); (have q1 := hlL.cell q1); (have q2 := hlL.cell q2); (have q3 := hlL.cell q3))
        | (go_simp; go_at_call 27; (with_reducible refine (RatAdd_b _ _ _ _ _ _ _ (RatB.ext hb9 (by repeat (first | (with_reducible exact Ext.refl _) | (with_reducible apply Ext.drew) | (with_reducible apply Ext.drewN) | (with_reducible refine Ext.trans ?_ (by assumption))))) (RatB.ext hbl (by repeat (first | (with_reducible exact Ext.refl _) | (with_reducible apply Ext.drew) | (with_reducible apply Ext.drewN)))) (by omega)).mono ?_); rintro e wm ⟨vm, rfl, hbm, hxm⟩; (obtain ⟨pm, Am, nm, cm, pm', Am', nm', cm', rfl⟩ := hbm.1.shape); (have hmL : Ext wl wm := Ext.trans (by repeat (first | (with_reducible exact Ext.refl _) | (with_reducible apply Ext.drew) | (with_reducible apply Ext.drewN))) hxm); (have DBm := (DB.ext hlL).ext hmL); (have q0 := DBm.c0); (have q1 := DBm.c1); (have q2 := DBm.c2); (have q3 := DBm.c3); (have z0 := DBm.frozen 0); (have z1 := DBm.frozen 1); (have z2 := DBm.frozen 2); (have z3 := DBm.frozen 3))
        )
      all_goals (
        obtain ⟨pp, pbx⟩ := RatV.put hbm.1 DBm
        have hXf := ext4 hdw ((hx9.trans hlL).trans hmL) (.bool pm) (.slice Am nm cm) (.bool pm') (.slice Am' nm' cm')
        clear DBm q0 q1 q2 q3 z0 z1 z2 z3
        go_wp2_with fail
        go_meet
        exact ⟨by rw [HRR.out]; rfl, _, _, _, _, _, _, _, _, pbx, ⟨by rw [HGG.out]; exact pp, by rw [HGG.out]; exact hbm.2⟩, hXf⟩)
  case rest =>
  obtain ⟨rfl, y1, y2, Y1, Y2, t1, t2, t3, t4, hdB, hgB, hxd⟩ := hcut
  rename_i hK
  refine hK _ _ ?_
  clear hK hb9 DB hx9
  have hxa := (hx7.trans hx8).trans hxd
  have GB := GB6.ext hxa
  have BB := BB6.ext hxa
  have hP := hP6.ext hxa
  have hE := hE6.trans hxa
  have hob := hob6.ext hxa
  have HROW : Hid (∀ i, i < P.m → RowAt wc gr i (P.len i) (P.coef i) (P.rel i) (P.right i)) := Lib.hid (fun i hi => (HROW6.out i hi).ext hxa)
  have TB1 := TB.ext (hx8.trans hxd)
  have hlcA := hlc.ext hxa
  have hlqA := hlq.ext hxa
  have HLC : Hid (RatsV wc Lc P.n Ld (fun j => if j = v then 1 else 0)) := Lib.hid hlcA
  have HBG : Hid (QB 5 (G : Rat)) := Lib.hid hgB.2
  clear hxa GB6 BB6 hP6 hE6 hob6 HROW6 TB hlc hlq hlcA hx7 hx8 hxd
  have t0 := TB1.c0
  have t1' := TB1.c1
  have t2' : wc.cell? ⟨lb, 2, none⟩ = some (.bool lx) := TB1.cell 2
  have t3' : wc.cell? ⟨lb, 3, none⟩ = some (.slice LA l1 l2) := TB1.cell 3
  have t4' : wc.cell? ⟨lb, 4, none⟩ = some (.bool ly) := TB1.cell 4
  have t5' : wc.cell? ⟨lb, 5, none⟩ = some (.slice LA' l3 l4) := TB1.cell 5
  have d0 := hdB.c0
  have d1 := hdB.c1
  have d2 := hdB.c2
  have d3 := hdB.c3
  have g0 := GB.c0
  have eR : ((R : Int) != (R : Int)) = false := by simp
  go_wp2_with fail
  refine (RatCmp_b _ _ (G : Rat) (G : Rat) 5 5 _ ⟨hlqA, HBG.out⟩ hgB (by decide)).mono ?_
  rintro e wd ⟨rfl, hxe⟩
  have hcs : ∀ q : Rat, cmpQ q q = 0 := fun q => by
    unfold cmpQ
    rw [if_neg (fun h => absurd h (Rat.not_lt.2 Rat.le_refl)), if_neg (fun h => absurd h (Rat.not_lt.2 Rat.le_refl))]
  rw [hcs]
  have HCS := Lib.hid hcs
  have GB1 := GB.ext hxe
  have BB1 := BB.ext hxe
  have TB2 := TB1.ext hxe
  have hP1 := hP.ext hxe
  have hE1 := hE.trans hxe
  have hob1 := hob.ext hxe
  have HROW1 : Hid (∀ i, i < P.m → RowAt wd gr i (P.len i) (P.coef i) (P.rel i) (P.right i)) := Lib.hid (fun i hi => (HROW.out i hi).ext hxe)
  have HLC1 : Hid (RatsV wd Lc P.n Ld (fun j => if j = v then 1 else 0)) := Lib.hid (HLC.out.ext hxe)
  clear hcs hxe GB BB TB1 hP hE hob HROW HLC HBG hlqA hdB hgB t0 t1' t2' t3' t4' t5' d0 d1 d2 d3 g0
  have t0 := TB2.c0
  have g0 := GB1.c0
  have g1 := GB1.c1
  have eN : ((P.n : Int) != (P.n : Int)) = false := by simp
  go_wp2_with fail
  go_loopw [115] (fun i wr => ∃ j : Nat, j ≤ P.n ∧ i = .int .i64 j ∧ Ext wd wr) (fun i _ => P.n - (intOf i).toNat)
  case atStart => exact ⟨0, by omega, rfl, Ext.refl wd⟩
  case round =>
    obtain ⟨j, hj, rfl, hx⟩ := hrel
    by_cases hlt : j < P.n
    · obtain ⟨bl, rfl, hlL⟩ := (HLC1.out.ext hx).2.2 (by omega)
      have hlcc := HLC1.out.1
      obtain ⟨bo, rfl, hbo⟩ := (hob1.ext hx).2.2 (by omega)
      have hobj := (hP1.ext hx).objsB
      have hoc := hobj.1
      obtain ⟨qo, rfl, hqo⟩ := hobj.2.2 (by omega)
      obtain ⟨p3, A3, m3, c3, p3', A3', m3', c3', a0, a1, a2, a3, hr3⟩ := hlL.at hlt
      obtain ⟨p4, A4, m4, c4, p4', A4', m4', c4', b0, b1, b2, b3, hr4⟩ := hbo.at hlt
      obtain ⟨p5, A5, m5, c5, p5', A5', m5', c5', o0, o1, o2, o3, hr5⟩ := hqo.at hlt
      have hbB : RatB wr (.agg #[.bool p4, .slice A4 m4 c4, .bool p4', .slice A4' m4' c4']) (P.obj j) 2 := ⟨hr4, HOB.out j⟩
      have hqB : RatB wr (.agg #[.bool p5, .slice A5 m5 c5, .bool p5', .slice A5' m5' c5']) (P.obj j) 2 := ⟨hr5, HOB.out j⟩
      have k0 : ∀ w', Later wr w' → w'.cell? ⟨lb, 0, none⟩ = some _ := fun w' h => (TB2.ext (hx.trans h)).c0
      have k1 : ∀ w', Later wr w' → w'.cell? ⟨bb, 0, none⟩ = some _ := fun w' h => (BB1.ext (hx.trans h)).c0
      have k2 : ∀ w', Later wr w' → w'.cell? ⟨gb, 0, none⟩ = some _ := fun w' h => (GB1.ext (hx.trans h)).c0
      have ka0 : ∀ w', Later wr w' → w'.cell? ⟨bl, j * 4, none⟩ = some _ := fun w' h => Later.cell h a0
      have ka1 : ∀ w', Later wr w' → w'.cell? ⟨bl, j * 4 + 1, none⟩ = some _ := fun w' h => Later.cell h a1
      have ka2 : ∀ w', Later wr w' → w'.cell? ⟨bl, j * 4 + 2, none⟩ = some _ := fun w' h => Later.cell h a2
      have ka3 : ∀ w', Later wr w' → w'.cell? ⟨bl, j * 4 + 3, none⟩ = some _ := fun w' h => Later.cell h a3
      have kb0 : ∀ w', Later wr w' → w'.cell? ⟨bo, j * 4, none⟩ = some _ := fun w' h => Later.cell h b0
      have kb1 : ∀ w', Later wr w' → w'.cell? ⟨bo, j * 4 + 1, none⟩ = some _ := fun w' h => Later.cell h b1
      have kb2 : ∀ w', Later wr w' → w'.cell? ⟨bo, j * 4 + 2, none⟩ = some _ := fun w' h => Later.cell h b2
      have kb3 : ∀ w', Later wr w' → w'.cell? ⟨bo, j * 4 + 3, none⟩ = some _ := fun w' h => Later.cell h b3
      have ko0 : ∀ w', Later wr w' → w'.cell? ⟨qo, j * 4, none⟩ = some _ := fun w' h => Later.cell h o0
      have ko1 : ∀ w', Later wr w' → w'.cell? ⟨qo, j * 4 + 1, none⟩ = some _ := fun w' h => Later.cell h o1
      have ko2 : ∀ w', Later wr w' → w'.cell? ⟨qo, j * 4 + 2, none⟩ = some _ := fun w' h => Later.cell h o2
      have ko3 : ∀ w', Later wr w' → w'.cell? ⟨qo, j * 4 + 3, none⟩ = some _ := fun w' h => Later.cell h o3
      have ks := Later.refl wr
      have i1 : (0 : Int) ≤ (j : Int) := by omega
      have i2 : (j : Int) < (P.n : Int) := by omega
      clear a0 a1 a2 a3 b0 b1 b2 b3 o0 o1 o2 o3 hr4 hr5
      by_cases hjv : j = v
      · have iv : ((j : Int) == (v : Int)) = true := by simp; omega
        have hrB : RatB wr (.agg #[.bool p3, .slice A3 m3 c3, .bool p3', .slice A3' m3' c3']) ((1 : Int) : Rat) 3 := ⟨by rw [show ((1 : Int) : Rat) = (if j = v then 1 else 0) by rw [if_pos hjv]; rfl]; exact hr3, by have := fit_QB (f := 1) (by decide) false; simpa using this⟩
        clear hjv hr3
        go_upto_region 23 with fail
        clear iv
        go_region_held3 (fun w' => Later wr w') ((repeat (first | assumption | apply Later.drew | apply Later.drewN | apply Later.alloc | (refine Later.step ?_ (by assumption))))) (first
          | (go_at_call 20; (with_reducible refine (RatOf_b (1 : Int) _ (by omega) (by omega)).mono ?_); rintro e wk ⟨vk, rfl, hbk, hxk⟩; (obtain ⟨pk, Ak, nk, ck, pk', Ak', nk', ck', rfl⟩ := hbk.1.shape))
          | (go_at_call 28; (with_reducible refine (RatCmp_b _ _ ((1 : Int) : Rat) ((1 : Int) : Rat) _ _ _ (RatB.ext hrB (by repeat (first | (with_reducible exact Ext.refl _) | (with_reducible apply Ext.drew) | (with_reducible apply Ext.drewN) | (with_reducible refine Ext.trans ?_ (by assumption))))) (RatB.ext hbk (by repeat (first | (with_reducible exact Ext.refl _) | (with_reducible apply Ext.drew) | (with_reducible apply Ext.drewN) | (with_reducible refine Ext.trans ?_ (by assumption))))) (by decide)).mono ?_); rintro e wl ⟨rfl, hxl⟩; (rw [HCS.out]))
          | (go_at_call 28; (with_reducible refine (RatCmp_b _ _ (P.obj j) (P.obj j) 2 2 _ (RatB.ext hbB (by repeat (first | (with_reducible exact Ext.refl _) | (with_reducible apply Ext.drew) | (with_reducible apply Ext.drewN) | (with_reducible refine Ext.trans ?_ (by assumption))))) (RatB.ext hqB (by repeat (first | (with_reducible exact Ext.refl _) | (with_reducible apply Ext.drew) | (with_reducible apply Ext.drewN) | (with_reducible refine Ext.trans ?_ (by assumption))))) (by decide)).mono ?_); rintro e wz ⟨rfl, hxz⟩; (rw [HCS.out]))
          )
        all_goals (
          have hLz : Ext wr wz := by assumption
          clear k0 k1 k2 ka0 ka1 ka2 ka3 kb0 kb1 kb2 kb3 ko0 ko1 ko2 ko3
          go_wp2_with fail
          go_roundw
          case rel => first | exact ⟨j + 1, by omega, by go_num, hx.trans hLz⟩ | ((repeat (apply Exists.intro (α := Value))); exact ⟨⟨j + 1, by omega, by go_num, hx.trans hLz⟩, rfl⟩)
          case measure => simp [intOf]; omega)
      · have iv : ((j : Int) == (v : Int)) = false := by simp; omega
        have hrB : RatB wr (.agg #[.bool p3, .slice A3 m3 c3, .bool p3', .slice A3' m3' c3']) ((0 : Int) : Rat) 3 := ⟨by rw [show ((0 : Int) : Rat) = (if j = v then 1 else 0) by rw [if_neg hjv]; rfl]; exact hr3, by have := fit_QB (f := 0) (by decide) false; simpa using this⟩
        clear hjv hr3
        go_upto_region 23 with fail
        clear iv
        go_region_held3 (fun w' => Later wr w') ((repeat (first | assumption | apply Later.drew | apply Later.drewN | apply Later.alloc | (refine Later.step ?_ (by assumption))))) (first
          | (go_at_call 20; (with_reducible refine (RatOf_b (0 : Int) _ (by omega) (by omega)).mono ?_); rintro e wk ⟨vk, rfl, hbk, hxk⟩; (obtain ⟨pk, Ak, nk, ck, pk', Ak', nk', ck', rfl⟩ := hbk.1.shape))
          | (go_at_call 28; (with_reducible refine (RatCmp_b _ _ ((0 : Int) : Rat) ((0 : Int) : Rat) _ _ _ (RatB.ext hrB (by repeat (first | (with_reducible exact Ext.refl _) | (with_reducible apply Ext.drew) | (with_reducible apply Ext.drewN) | (with_reducible refine Ext.trans ?_ (by assumption))))) (RatB.ext hbk (by repeat (first | (with_reducible exact Ext.refl _) | (with_reducible apply Ext.drew) | (with_reducible apply Ext.drewN) | (with_reducible refine Ext.trans ?_ (by assumption))))) (by decide)).mono ?_); rintro e wl ⟨rfl, hxl⟩; (rw [HCS.out]))
          | (go_at_call 28; (with_reducible refine (RatCmp_b _ _ (P.obj j) (P.obj j) 2 2 _ (RatB.ext hbB (by repeat (first | (with_reducible exact Ext.refl _) | (with_reducible apply Ext.drew) | (with_reducible apply Ext.drewN) | (with_reducible refine Ext.trans ?_ (by assumption))))) (RatB.ext hqB (by repeat (first | (with_reducible exact Ext.refl _) | (with_reducible apply Ext.drew) | (with_reducible apply Ext.drewN) | (with_reducible refine Ext.trans ?_ (by assumption))))) (by decide)).mono ?_); rintro e wz ⟨rfl, hxz⟩; (rw [HCS.out]))
          )
        all_goals (
          have hLz : Ext wr wz := by assumption
          clear k0 k1 k2 ka0 ka1 ka2 ka3 kb0 kb1 kb2 kb3 ko0 ko1 ko2 ko3
          go_wp2_with fail
          go_roundw
          case rel => first | exact ⟨j + 1, by omega, by go_num, hx.trans hLz⟩ | ((repeat (apply Exists.intro (α := Value))); exact ⟨⟨j + 1, by omega, by go_num, hx.trans hLz⟩, rfl⟩)
          case measure => simp [intOf]; omega)
    · obtain rfl : j = P.n := by omega
      have g1 := (GB1.ext hx).c1
      go_upto_region 27 with fail
      clear g1
      go_loopw [148] (fun i wv => ∃ k : Nat, k ≤ P.m ∧ i = .int .i64 k ∧ Ext wd wv) (fun i _ => P.m - (intOf i).toNat)
      case atStart => exact ⟨0, by omega, rfl, hx⟩
      case round =>
        obtain ⟨k, hk, rfl, hy⟩ := hrel
        clear hx
        by_cases hltk : k < P.m
        · have hmc := hP1.rowsB.1
          obtain ⟨br, rfl, hrow⟩ := hP1.rowsB.2.2 (by omega)
          obtain ⟨Ac, cc, bx, A, d, e, bz, A', d', e', g0, g1, g2, g3, g4, g5, r1, r2, r3⟩ := (hrow k hltk).ext hy
          obtain ⟨Bc, cc2, cx, C, f3, f4, cz, C', f5, f6, n0, n1, n2, n3, n4, n5, s1, s2, s3⟩ := (HROW1.out k hltk).ext hy
          have hcc := r1.1
          have hcc2 := s1.1
          have hccb := r1.2.1
          have HCK : Hid (∀ j, QB 2 (P.coef k j)) := Lib.hid (HCO.out k hltk)
          have QR1 : RatB wr (.agg #[.bool bx, .slice A d e, .bool bz, .slice A' d' e']) (P.right k) 2 := ⟨r3, HRI.out k hltk⟩
          have QR2 : RatB wr (.agg #[.bool cx, .slice C f3 f4, .bool cz, .slice C' f5 f6]) (P.right k) 2 := ⟨s3, HRI.out k hltk⟩
          obtain ⟨l, hl⟩ : ∃ l, l = P.len k := ⟨_, rfl⟩
          obtain ⟨R2, hR2⟩ : ∃ R : Int, R = (P.rel k : Int) := ⟨_, rfl⟩
          rw [← hl] at g0 r1 hcc n0 s1 hcc2
          rw [← hR2] at g1 n1
          have HR1 := Lib.hid r1
          have HR2 := Lib.hid s1
          have i1 : (0 : Int) ≤ (k : Int) := by omega
          have i2 : (k : Int) < (P.m : Int) := by omega
          have i5 : (k : Int) < (M1 : Int) := by have := HM1.out; omega
          clear hrow r1 r2 r3 s1 s2 s3 hl hR2
          go_upto_region 29 with fail
          have RB := Box.new wr 62 #[.slice Ac l cc, .int .u8 R2, .bool bx, .slice A d e, .bool bz, .slice A' d' e']
          have hEr : Ext wr (wr.alloc (.cells #[.slice Ac l cc, .int .u8 R2, .bool bx, .slice A d e, .bool bz, .slice A' d' e'] 62)) := (Ext.refl wr).alloc _
          generalize (wr.alloc (.cells #[.slice Ac l cc, .int .u8 R2, .bool bx, .slice A d e, .bool bz, .slice A' d' e'] 62)) = Y at *
          obtain ⟨rb, hrb⟩ : ∃ x, x = wr.heap.size := ⟨_, rfl⟩
          rw [← hrb] at RB ⊢
          clear hrb g0 g1 g2 g3 g4 g5
          have hyY := hy.trans hEr
          have QR1 := QR1.ext hEr
          have QR2 := QR2.ext hEr
          have k1 : ∀ w', Later Y w' → w'.cell? ⟨bb, 1, none⟩ = some _ := fun w' h => (BB1.ext (hyY.trans h)).c1
          have kn0 : ∀ w', Later Y w' → w'.cell? ⟨gr, k * 6, none⟩ = some _ := fun w' h => Later.cell h (hEr.cell n0)
          have kn1 : ∀ w', Later Y w' → w'.cell? ⟨gr, k * 6 + 1, none⟩ = some _ := fun w' h => Later.cell h (hEr.cell n1)
          have kn2 : ∀ w', Later Y w' → w'.cell? ⟨gr, k * 6 + 2, none⟩ = some _ := fun w' h => Later.cell h (hEr.cell n2)
          have kn3 : ∀ w', Later Y w' → w'.cell? ⟨gr, k * 6 + 3, none⟩ = some _ := fun w' h => Later.cell h (hEr.cell n3)
          have kn4 : ∀ w', Later Y w' → w'.cell? ⟨gr, k * 6 + 4, none⟩ = some _ := fun w' h => Later.cell h (hEr.cell n4)
          have kn5 : ∀ w', Later Y w' → w'.cell? ⟨gr, k * 6 + 5, none⟩ = some _ := fun w' h => Later.cell h (hEr.cell n5)
          have kr0 : ∀ w', Later Y w' → w'.cell? ⟨rb, 0, none⟩ = some _ := fun w' h => (RB.ext h).c0
          have kr1 : ∀ w', Later Y w' → w'.cell? ⟨rb, 1, none⟩ = some _ := fun w' h => (RB.ext h).c1
          have kr2 : ∀ w', Later Y w' → w'.cell? ⟨rb, 2, none⟩ = some (.bool bx) := fun w' h => (RB.ext h).cell 2
          have kr3 : ∀ w', Later Y w' → w'.cell? ⟨rb, 3, none⟩ = some (.slice A d e) := fun w' h => (RB.ext h).cell 3
          have kr4 : ∀ w', Later Y w' → w'.cell? ⟨rb, 4, none⟩ = some (.bool bz) := fun w' h => (RB.ext h).cell 4
          have kr5 : ∀ w', Later Y w' → w'.cell? ⟨rb, 5, none⟩ = some (.slice A' d' e') := fun w' h => (RB.ext h).cell 5
          have ks := Later.refl Y
          have j1 : (R2 != R2) = false := by simp
          have j2 : ((l : Int) != (l : Int)) = false := by simp
          have n0Y := hEr.cell n0
          clear n0 n1 n2 n3 n4 n5
          go_region_held3 (fun w' => Later Y w') ((repeat (first | assumption | apply Later.drew | apply Later.drewN | apply Later.alloc | (refine Later.step ?_ (by assumption))))) (first
            | (go_at_call 28; (with_reducible refine (RatCmp_b _ _ (P.right k) (P.right k) 2 2 _ (RatB.ext QR2 (by repeat (first | (with_reducible exact Ext.refl _) | (with_reducible apply Ext.drew) | (with_reducible apply Ext.drewN) | (with_reducible refine Ext.trans ?_ (by assumption))))) (RatB.ext QR1 (by repeat (first | (with_reducible exact Ext.refl _) | (with_reducible apply Ext.drew) | (with_reducible apply Ext.drewN) | (with_reducible refine Ext.trans ?_ (by assumption))))) (by decide)).mono ?_); rintro e wk ⟨rfl, hxk⟩; (rw [HCS.out]))
            )
          all_goals (
            have hLk : Ext Y wk := by assumption
            clear k1 kn0 kn1 kn2 kn3 kn4 kn5 kr0 kr1 kr2 kr3 kr4 kr5 QR1 QR2
            have HR1 := Lib.hid ((HR1.out.ext hEr).ext hLk)
            have HR2 := Lib.hid ((HR2.out.ext hEr).ext hLk)
            have RB := RB.ext hLk
            have n0 := hLk.cell n0Y
            have hyk := hyY.trans hLk
            clear n0Y hy hyY hEr hxk
            have q0 := RB.c0
            go_upto_region 32 with fail
            clear q0 j1 j2
            go_loopw [190] (fun i wv => ∃ j : Nat, j ≤ l ∧ i = .int .i64 j ∧ Ext wk wv) (fun i _ => l - (intOf i).toNat)
            case atStart => exact ⟨0, by omega, rfl, Ext.refl wk⟩
            case round =>
              obtain ⟨j, hj, rfl, hz⟩ := hrel
              by_cases hlj : j < l
              · obtain ⟨b1, rfl, hV1⟩ := HR1.out.2.2 (by omega)
                obtain ⟨b2, rfl, hV2⟩ := HR2.out.2.2 (by omega)
                obtain ⟨p3, A3, m3, c3, p3', A3', m3', c3', a0, a1, a2, a3, hr3⟩ := (hV1.ext hz).at hlj
                obtain ⟨p4, A4, m4, c4, p4', A4', m4', c4', b0, b1', b2', b3, hr4⟩ := (hV2.ext hz).at hlj
                have hqB : RatB wr (.agg #[.bool p3, .slice A3 m3 c3, .bool p3', .slice A3' m3' c3']) (P.coef k j) 2 := ⟨hr3, HCK.out j⟩
                have hbB : RatB wr (.agg #[.bool p4, .slice A4 m4 c4, .bool p4', .slice A4' m4' c4']) (P.coef k j) 2 := ⟨hr4, HCK.out j⟩
                have k1 : ∀ w', Later wr w' → w'.cell? ⟨bb, 1, none⟩ = some _ := fun w' h => (BB1.ext ((hyk.trans hz).trans h)).c1
                have k2 : ∀ w', Later wr w' → w'.cell? ⟨gr, k * 6, none⟩ = some _ := fun w' h => Later.cell h (hz.cell n0)
                have k3 : ∀ w', Later wr w' → w'.cell? ⟨rb, 0, none⟩ = some _ := fun w' h => (RB.ext (hz.trans h)).c0
                have ka0 : ∀ w', Later wr w' → w'.cell? ⟨b1, j * 4, none⟩ = some _ := fun w' h => Later.cell h a0
                have ka1 : ∀ w', Later wr w' → w'.cell? ⟨b1, j * 4 + 1, none⟩ = some _ := fun w' h => Later.cell h a1
                have ka2 : ∀ w', Later wr w' → w'.cell? ⟨b1, j * 4 + 2, none⟩ = some _ := fun w' h => Later.cell h a2
                have ka3 : ∀ w', Later wr w' → w'.cell? ⟨b1, j * 4 + 3, none⟩ = some _ := fun w' h => Later.cell h a3
                have kb0 : ∀ w', Later wr w' → w'.cell? ⟨b2, j * 4, none⟩ = some _ := fun w' h => Later.cell h b0
                have kb1 : ∀ w', Later wr w' → w'.cell? ⟨b2, j * 4 + 1, none⟩ = some _ := fun w' h => Later.cell h b1'
                have kb2 : ∀ w', Later wr w' → w'.cell? ⟨b2, j * 4 + 2, none⟩ = some _ := fun w' h => Later.cell h b2'
                have kb3 : ∀ w', Later wr w' → w'.cell? ⟨b2, j * 4 + 3, none⟩ = some _ := fun w' h => Later.cell h b3
                have ks := Later.refl wr
                have i3 : (0 : Int) ≤ (j : Int) := by omega
                have i4 : (j : Int) < (l : Int) := by omega
                clear a0 a1 a2 a3 b0 b1' b2' b3 hr3 hr4
                go_upto_region 34 with fail
                go_region_held3 (fun w' => Later wr w') ((repeat (first | assumption | apply Later.drew | apply Later.drewN | apply Later.alloc | (refine Later.step ?_ (by assumption))))) (first
                  | (go_at_call 28; (with_reducible refine (RatCmp_b _ _ (P.coef k j) (P.coef k j) 2 2 _ (RatB.ext hbB (by repeat (first | (with_reducible exact Ext.refl _) | (with_reducible apply Ext.drew) | (with_reducible apply Ext.drewN) | (with_reducible refine Ext.trans ?_ (by assumption))))) (RatB.ext hqB (by repeat (first | (with_reducible exact Ext.refl _) | (with_reducible apply Ext.drew) | (with_reducible apply Ext.drewN) | (with_reducible refine Ext.trans ?_ (by assumption))))) (by decide)).mono ?_); rintro e wz ⟨rfl, hxz⟩; (rw [HCS.out]))
                  )
                all_goals (
                  have hLz : Ext wr wz := by assumption
                  clear k1 k2 k3 ka0 ka1 ka2 ka3 kb0 kb1 kb2 kb3
                  go_wp2_with fail
                  go_roundw
                  case rel => first | exact ⟨j + 1, by omega, by go_num, hz.trans hLz⟩ | ((repeat (apply Exists.intro (α := Value))); exact ⟨⟨j + 1, by omega, by go_num, hz.trans hLz⟩, rfl⟩)
                  case measure => simp [intOf]; omega)
              · obtain rfl : j = l := by omega
                have hyz := hyk.trans hz
                go_wp2_with fail
                go_roundw
                case rel => first | exact ⟨k + 1, by omega, by go_num, hyz⟩ | ((repeat (apply Exists.intro (α := Value))); exact ⟨⟨k + 1, by omega, by go_num, hyz⟩, rfl⟩)
                case measure => simp [intOf]; omega)
        · obtain rfl : k = P.m := by omega
          go_wp2_with fail
          go_ret
          exact ⟨rfl, hE1.trans hy⟩
end Go.Proofs.Ythafabkjidifeaa.Lp

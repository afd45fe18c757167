/- The law LpDual, walked. -/
import Derived.Test.YtgffcblldebelaaDoorLYH
import Derived.Test.YtgffcblldebelaaDoorLYB
import Derived.BigRegion
set_option linter.unusedVariables false
set_option linter.unusedSimpArgs false
namespace Go.Proofs.YtgffcblldebelaaDoor.Lp
open Go.RowKit Go.Proofs.YtgffcblldebelaaDoor.Big Go.Proofs.YtgffcblldebelaaDoor.Rt

attribute [local go_sem] Go.World.cell?_alloc_some Go.RowKit.frozen?_alloc_cells
set_option maxHeartbeats 40000000 in
set_option maxRecDepth 100000 in
theorem dual_any (v : Value) (ip : IP) (w : World) (h : IPV w v ip) (hok : ip.ok) (htab : TabOK w) : Calls Tryd.prog 9 #[v] w (ValPost w (.bool true)) := by
  have h0 := h
  obtain ⟨Ao, co, Ar, cr, rfl, -, -, -, -⟩ := h0
  obtain ⟨n0, hn0⟩ : ∃ n, n = ip.obj.length := ⟨_, rfl⟩
  obtain ⟨m0, hm0⟩ : ∃ n, n = ip.rows.length := ⟨_, rfl⟩
  obtain ⟨d0, hd0⟩ : ∃ n, n = ip.den := ⟨_, rfl⟩
  have HN0 := Lib.hid hn0
  have HM0 := Lib.hid hm0
  rw [← hn0, ← hm0, ← hd0] at h ⊢
  have HOK := Lib.hid hok
  clear hn0 hm0 hd0 hok
  have B := Box.new w 25 #[.slice Ao n0 co, .slice Ar m0 cr, .int .u8 (d0 : Int)]
  have hE : Ext w (w.alloc (.cells #[.slice Ao n0 co, .slice Ar m0 cr, .int .u8 (d0 : Int)] 25)) := (Ext.refl w).alloc _
  go_enter Tryd.func9, Tryd.ntmps9
  go_upto_region 1 with fail
  generalize (w.alloc (.cells #[.slice Ao n0 co, .slice Ar m0 cr, .int .u8 (d0 : Int)] 25)) = V at *
  obtain ⟨ab, hab⟩ : ∃ x, x = w.heap.size := ⟨_, rfl⟩
  rw [← hab] at B ⊢
  clear hab
  go_wp2_with fail
  refine (awake_b _ (htab.ext hE)).mono ?_
  rintro e w1 ⟨rfl, hx1⟩
  replace hE := hE.trans hx1
  replace B := B.ext hx1
  have c0 := B.c0
  have c1 := B.c1
  have c2 := B.c2
  clear hx1
  go_wp2_with fail
  refine (fits_b _ ip _ (h.ext hE)).mono ?_
  rintro e w2 ⟨rfl, hx2⟩
  replace hE := hE.trans hx2
  replace B := B.ext hx2
  clear c0 c1 c2 hx2
  obtain ⟨F, hF⟩ : ∃ F, F = fitB ip := ⟨_, rfl⟩
  rw [← hF]
  have HFI := Lib.hid hF
  clear hF
  cases F with
  | false =>
    go_wp2_with fail
    refine (awake_b _ (htab.ext hE)).mono ?_
    rintro e w3 ⟨rfl, hx3⟩
    go_wp2_with fail
    go_ret
    exact ⟨rfl, hE.trans hx3⟩
  | true =>
  have hfit := fitB_iff.1 HFI.out.symm
  have HFT := Lib.hid hfit
  clear hfit
  have c0 := B.c0
  have c1 := B.c1
  have c2 := B.c2
  go_wp2_with fail
  refine (Make_b _ ip _ (h.ext hE) HOK.out).mono ?_
  rintro e w3 ⟨v3, a, rfl, hM, hx3⟩
  have hP := hM.prob
  have hv3 := hM.val
  subst hv3
  replace hE := hE.trans hx3
  replace B := B.ext hx3
  clear c0 c1 c2 hx3 hM
  go_wp2_with fail
  refine (Valid_b _ _ _ hP).mono ?_
  rintro e w4 ⟨rfl, hx4⟩
  replace hE := hE.trans hx4
  replace B := B.ext hx4
  clear hP hx4
  obtain ⟨F2, hF2⟩ : ∃ F, F = validB ip.pl.toP := ⟨_, rfl⟩
  rw [← hF2]
  have HVA := Lib.hid hF2
  clear hF2
  cases F2 with
  | false =>
    go_wp2_with fail
    refine (awake_b _ (htab.ext hE)).mono ?_
    rintro e w5 ⟨rfl, hx5⟩
    go_wp2_with fail
    go_ret
    exact ⟨rfl, hE.trans hx5⟩
  | true =>
  have HBD : Hid (Bnd ip.pl.toP 16000000) := Lib.hid (IP.bnd HOK.out (by rw [IP.pn]; exact HFT.out.1) (by rw [IP.pm]; have := HFT.out.2; omega) HVA.out.symm)
  by_cases hm0 : m0 = 0
  · have e0 : ((m0 : Int) == 0) = true := by simp; omega
    have c1 := B.c1
    go_wp2_with fail
    refine (awake_b _ (htab.ext hE)).mono ?_
    rintro e w5 ⟨rfl, hx5⟩
    go_wp2_with fail
    go_ret
    exact ⟨rfl, hE.trans hx5⟩
  have e0 : ((m0 : Int) == 0) = false := by simp; omega
  have hE2 := hE
  have HMP : Hid (1 ≤ ip.pl.toP.m) := Lib.hid (by rw [IP.pm, ← HM0.out]; omega)
  clear hE HBD
  have c0 := B.c0
  have c1 := B.c1
  have c2 := B.c2
  go_wp2_with fail
  refine (Make_b _ ip _ (h.ext hE2) HOK.out).mono ?_
  rintro e w3 ⟨v3, a, rfl, hM, hx3⟩
  have hP := hM.prob
  have hv3 := hM.val
  subst hv3
  have hE3 := hE2.trans hx3
  have hfit := fitB_iff.1 HFI.out.symm
  have HPN : Hid (ip.pl.toP.n ≤ 8) := Lib.hid (by rw [IP.pn]; exact hfit.1)
  have HPM : Hid (ip.pl.toP.m ≤ 8) := Lib.hid (by rw [IP.pm]; exact hfit.2)
  have HBD : Hid (validB ip.pl.toP = true → Bnd ip.pl.toP 16000000) := Lib.hid (fun hv => IP.bnd HOK.out HPN.out (by have := HPM.out; omega) hv)
  have B := B.ext hx3
  clear hE2 hx3 c0 c1 c2 hfit
  obtain ⟨p, hp⟩ : ∃ p, p = ip.pl.toP := ⟨_, rfl⟩
  have HPP := Lib.hid hp
  have HCF : Hid ((∀ i, i < p.m → ∀ j, j < p.n → QB 2 (p.coef i j)) ∧ (∀ i, i < p.m → QB 2 (p.right i)) ∧ (∀ j, j < p.n → QB 2 (p.obj j))) := Lib.hid (by rw [hp]; exact ⟨fun i hi j _ => IP.coef_b HOK.out hi j, fun i hi => IP.right_b HOK.out hi, fun j _ => IP.obj_b HOK.out j⟩)
  rw [← hp] at hP hM HPN HPM HBD ⊢
  clear hp
  go_upto_region 4 with fail
  have PB := Box.new w3 31 #[.slice a.Ao p.n a.co, .slice a.Ar p.m a.cr]
  have hx4 : Ext w3 (w3.alloc (.cells #[.slice a.Ao p.n a.co, .slice a.Ar p.m a.cr] 31)) := (Ext.refl w3).alloc _
  generalize (w3.alloc (.cells #[.slice a.Ao p.n a.co, .slice a.Ar p.m a.cr] 31)) = U at *
  obtain ⟨qb, hqb⟩ : ∃ x, x = w3.heap.size := ⟨_, rfl⟩
  rw [← hqb] at PB ⊢
  clear hqb
  have hP := hP.ext hx4
  have hM := hM.ext hx4
  have B := B.ext hx4
  have hE4 := hE3.trans hx4
  have c0 := PB.c0
  have c1 := PB.c1
  clear hE3 hx4
  go_wp2_with fail
  have HBD2 : Hid (validB p = true) := Lib.hid (by rw [HPP.out]; exact HVA.out.symm)
  refine (Solve_l _ p 16000000 _ hP HBD.out).mono ?_
  rintro e w5 ⟨q, A, n, c, q', A', n', c', Ax, nx, cx, Ay, ny, cy, k, z, xs, ys, rfl, hz, hX, hY, hbx, hby, hres, hx5⟩
  have HRES := Lib.hid hres
  have HBX := Lib.hid hbx
  have HBY := Lib.hid hby
  have hE5 := hE4.trans hx5
  have hP5 := hP.ext hx5
  have hM5 := hM.ext hx5
  have PB5 := PB.ext hx5
  have B5 := B.ext hx5
  clear hbx hby hres hE4 hx5 hP PB c0 c1 hM B
  go_upto_region 5 with fail
  have SB := Box.new w5 39 #[.bool q, .slice A n c, .bool q', .slice A' n' c', .slice Ax nx cx, .slice Ay ny cy]
  have hx6 : Ext w5 (w5.alloc (.cells #[.bool q, .slice A n c, .bool q', .slice A' n' c', .slice Ax nx cx, .slice Ay ny cy] 39)) := (Ext.refl w5).alloc _
  generalize (w5.alloc (.cells #[.bool q, .slice A n c, .bool q', .slice A' n' c', .slice Ax nx cx, .slice Ay ny cy] 39)) = U6 at *
  obtain ⟨sb, hsb⟩ : ∃ x, x = w5.heap.size := ⟨_, rfl⟩
  rw [← hsb] at SB ⊢
  clear hsb
  have hE6 := hE5.trans hx6
  have hP6 := hP5.ext hx6
  have hM6 := hM5.ext hx6
  have PB6 := PB5.ext hx6
  have B6 := B5.ext hx6
  have hz := hz.ext hx6
  have hX := hX.ext hx6
  have hY := hY.ext hx6
  have c0 := PB6.c0
  have c1 := PB6.c1
  clear hE5 hx6 hP5 PB5 hM5 B5
  obtain ⟨D, hD⟩ : ∃ D, D = ip.pl.dual.toP := ⟨_, rfl⟩
  obtain ⟨n, hn⟩ : ∃ n, n = ip.pl.cols.length := ⟨_, rfl⟩
  have hpn : p.n = ip.pl.obj.length := by rw [HPP.out]; rfl
  have hpm : p.m = ip.pl.rows.length := by rw [HPP.out]; rfl
  have hpm1 : 1 ≤ p.m := by have := HMP.out; rw [HPP.out]; exact this
  have hpm8 : p.m ≤ 8 := HPM.out
  have hpn8 : p.n ≤ 8 := HPN.out
  have HL := Lib.hid (cols_len ip.pl.rels ip.pl.rows.length)
  have HDV : Hid (ip.pl.dual.valid = true) := Lib.hid (dual_valid (by omega) (by omega) (by omega))
  have HDB : Hid (Bnd D 24000000) := Lib.hid (by
    rw [hD]
    refine dual_bnd (by omega) (by omega) (by omega) (fun i hi j hj => ?_) (fun i hi => ?_) (fun j hj => ?_)
    · have := HCF.out.1 i (by omega) j (by omega); rwa [HPP.out] at this
    · have := HCF.out.2.1 i (by omega); rwa [HPP.out] at this
    · have := HCF.out.2.2 j (by omega); rwa [HPP.out] at this)
  have hDF := dual_facts ip.pl
  rw [← hD, ← HPP.out, ← hn, ← hpn] at hDF
  have HDF := Lib.hid hDF
  have HRL : Hid (∀ i, i < p.m → (p.rel i = 1 ∨ p.rel i = 2 ∨ p.rel i = 3) ∧ cols ip.pl.rels (i + 1) = cols ip.pl.rels i ++ colsR (p.rel i) i) := Lib.hid (fun i hi => by
    have hv := validB_iff.1 HBD2.out
    have h1 := (hv.2.2.2 i hi).2
    refine ⟨by omega, ?_⟩
    show cols ip.pl.rels i ++ colsR (ip.pl.rels.getD i 0) i = _
    rw [PL.rels_get, HPP.out]; rfl)
  have HLN : Hid (∀ i, i < p.m → p.len i = p.n) := Lib.hid (fun i hi => ((validB_iff.1 HBD2.out).2.2.2 i hi).1)
  have HKZ : Hid (k = ip.pl.err ∧ z = ip.pl.val) := Lib.hid (by
    have hr := HRES.out
    rw [HPP.out] at hr
    rcases hr.pl with ⟨-, h1, h2⟩ | ⟨h, _⟩
    · exact ⟨h1, h2⟩
    · rw [(validB_pl _).1 HVA.out.symm] at h; cases h)
  have HDD := Lib.hid hD
  have HNC := Lib.hid hn
  have hn16 : n ≤ 16 := by have := HL.out.2; rw [hn]; show (cols _ _).length ≤ 16; omega
  have hn1 : 1 ≤ n := by have := HL.out.1; rw [hn]; show 1 ≤ (cols _ _).length; omega
  obtain ⟨ij, ij1, ij2, ij3, ij4⟩ := info_parts infoI
  have HPML := Lib.hid hpm
  have HPNL := Lib.hid hpn
  clear hX hY hm0 hDF hD hn hP6 B6 hpm hpn
  go_upto_region 7 with fail
  have hT0 : Two (U6.alloc (.cells #[.slice none 0 0, .slice none 0 0] 31)) U6.heap.size U6.heap.size (.slice none 0 0) (.slice none 0 0) 0 0 D.obj D (fun _ => none) (fun _ => 0) := Two.new rfl
  have hX0 : Ext U6 (U6.alloc (.cells #[.slice none 0 0, .slice none 0 0] 31)) := (Ext.refl U6).alloc _
  generalize (U6.alloc (.cells #[.slice none 0 0, .slice none 0 0] 31)) = U0 at *
  obtain ⟨db, hdb⟩ : ∃ x, x = U6.heap.size := ⟨_, rfl⟩
  have hT0' : Two U0 U6.heap.size db (.slice none 0 0) (.slice none 0 0) 0 0 D.obj D (fun _ => none) (fun _ => 0) := by rw [hdb]; exact hT0
  have hdbs : U6.heap.size ≤ db := by omega
  rw [← hdb]
  clear hT0 hdb
  obtain ⟨hAr, hbr, -, -, -⟩ := hM6.blk (by omega)
  obtain ⟨Arx, hArx⟩ : ∃ q, q = a.Ar := ⟨_, rfl⟩
  obtain ⟨Aox, hAox⟩ : ∃ q, q = a.Ao := ⟨_, rfl⟩
  rw [← hArx] at hAr
  rw [← hArx, ← hAox] at PB6
  simp only [← hArx, ← hAox]
  have HAR := Lib.hid hAr
  have HAO := Lib.hid hAox
  clear hArx hAr hAox
  have q0 := (PB6.ext hX0).c0
  have q1 := (PB6.ext hX0).c1
  go_wp2_with fail
  go_loopw [7, 8, 50] (fun v7 v8 iv wr => ∃ (i nL : Nat) (L : List (Int × Nat)), i ≤ p.m ∧ iv = .int .i64 i ∧ Hid (L = cols ip.pl.rels i) ∧ nL ≤ 16 ∧ nL ≤ 2 * i ∧ Cols wr U6.heap.size v7 v8 nL L ∧ Ext U6 wr ∧ Box wr db 31 #[.slice none 0 0, .slice none 0 0]) (fun _ _ iv _ => p.m - (intOf iv).toNat)
  case atStart => exact ⟨0, 0, [], by omega, rfl, Lib.hid rfl, by omega, by omega, Cols.nil _ _, hX0, hT0'.box⟩
  case round =>
    clear hT0' hX0 q0 q1
    obtain ⟨i, nL, L, hi, rfl, HLL, hnL, hnL2, hC, hX, hDB⟩ := hrel
    obtain ⟨A7, c7, rfl⟩ := hC.sg.shape
    obtain ⟨A8, c8, rfl⟩ := hC.of.shape
    by_cases hlt : i < p.m
    · have hrow := (hM6.ext hX).rows.row i hlt
      obtain ⟨g0, g1, g2, x, Bq, d, e, y, Bq', d', e', g3, g4, g5, g6, -⟩ := hrow
      obtain ⟨hR, hCS⟩ := HRL.out i hlt
      obtain ⟨R, hRd⟩ : ∃ R, R = p.rel i := ⟨_, rfl⟩
      rw [← hRd] at hR hCS g1
      have HCS := Lib.hid hCS
      clear hCS hRd
      have hRB := Box.new wr 48 #[.slice (a.rA i) (p.len i) (a.rc i), .int .u8 (R : Int), .bool x, .slice Bq d e, .bool y, .slice Bq' d' e']
      have hXr : Ext wr (wr.alloc (.cells #[.slice (a.rA i) (p.len i) (a.rc i), .int .u8 (R : Int), .bool x, .slice Bq d e, .bool y, .slice Bq' d' e'] 48)) := (Ext.refl wr).alloc _
      obtain rfl := HAR.out
      go_upto_region 10 with fail
      generalize (wr.alloc (.cells #[.slice (a.rA i) (p.len i) (a.rc i), .int .u8 (R : Int), .bool x, .slice Bq d e, .bool y, .slice Bq' d' e'] 48)) = V at *
      have b1 := hRB.c1
      have hXV := hX.trans hXr
      have hCV := hC.ext hXr
      have hDV := hDB.ext hXr
      clear hC hX hDB hXr g0 g1 g3 g4 g5 g6
      rcases hR with rfl | rfl | rfl
      · have HL1 : Hid (L ++ [(1, i)] = cols ip.pl.rels (i + 1)) := Lib.hid (by rw [HCS.out, HLL.out]; rfl)
        go_wp2_with (first
            | (at_builtin; refine wpList_pushX rfl (.tmp 58) (.tmp 59) 74 rfl U6.heap.size 3 ij (.int .i64 0) 1 8 Tryd.underlying74 ij1 ij2 ij3 ij4 rfl zI _ nL (sgL L) rfl (hCV.sg.ext ((Ext.refl V).alloc _)) _ [.int .i64 1] 1 rfl rfl (new1 _ _ _) (one1 rfl) (nou1 rfl) (by omega) (by decide) (by have := hXV.size; simp; omega) ?_; intro v71 y71 o71 r71 s71; obtain ⟨A71, c71, rfl⟩ := o71.shape; have td71 := boxR (Box.ext hDV ((Ext.refl V).alloc _)) (hCV.sg.ext ((Ext.refl V).alloc _)) r71 (by decide); have tr71 := boxR (Box.ext hRB ((Ext.refl V).alloc _)) (hCV.sg.ext ((Ext.refl V).alloc _)) r71 (by decide))
            | (at_builtin; have hsz1 : U6.heap.size ≤ y71.heap.size := Nat.le_trans hXV.size (Nat.le_trans ((Ext.refl V).alloc _).size r71.size); refine wpList_pushX rfl (.tmp 61) (.tmp 63) 74 rfl U6.heap.size 3 ij (.int .i64 0) 1 8 Tryd.underlying74 ij1 ij2 ij3 ij4 rfl zI _ nL (ofL L) rfl (Cols.of1 hCV ((Ext.refl V).alloc _) r71 ((Ext.refl y71).alloc _)) _ [.int .i64 (i : Int)] 1 rfl rfl (new1 _ _ _) (one1 rfl) (nou1 rfl) (by omega) (by decide) (by simp; omega) ?_; intro v81 y81 o81 r81 s81; obtain ⟨A81, c81, rfl⟩ := o81.shape; have hC1 := Cols.push hCV ((Ext.refl V).alloc _) o71 r71 s71 ((Ext.refl y71).alloc _) o81 r81 s81; have hX1 := Cols.pushE hCV ((Ext.refl V).alloc _) r71 ((Ext.refl y71).alloc _) r81 hXV (Nat.le_refl _); have td81 := boxR (Box.ext td71 ((Ext.refl y71).alloc _)) (Cols.of1 hCV ((Ext.refl V).alloc _) r71 ((Ext.refl y71).alloc _)) r81 (by decide); have tr81 := boxR (Box.ext tr71 ((Ext.refl y71).alloc _)) (Cols.of1 hCV ((Ext.refl V).alloc _) r71 ((Ext.refl y71).alloc _)) r81 (by decide); have br81 := tr81.c1)
          )
        go_roundw
        case rel => exact ⟨i + 1, nL + 1, _, by omega, by go_num, HL1, by omega, by omega, hC1, hX1, td81⟩
        case measure => simp [intOf]; omega
      · have HL1 : Hid ((L ++ [(1, i)]) ++ [(-1, i)] = cols ip.pl.rels (i + 1)) := Lib.hid (by rw [HCS.out, HLL.out, List.append_assoc]; rfl)
        go_wp2_with (first
            | (at_builtin; refine wpList_pushX rfl (.tmp 58) (.tmp 59) 74 rfl U6.heap.size 3 ij (.int .i64 0) 1 8 Tryd.underlying74 ij1 ij2 ij3 ij4 rfl zI _ nL (sgL L) rfl (hCV.sg.ext ((Ext.refl V).alloc _)) _ [.int .i64 1] 1 rfl rfl (new1 _ _ _) (one1 rfl) (nou1 rfl) (by omega) (by decide) (by have := hXV.size; simp; omega) ?_; intro v71 y71 o71 r71 s71; obtain ⟨A71, c71, rfl⟩ := o71.shape; have td71 := boxR (Box.ext hDV ((Ext.refl V).alloc _)) (hCV.sg.ext ((Ext.refl V).alloc _)) r71 (by decide); have tr71 := boxR (Box.ext hRB ((Ext.refl V).alloc _)) (hCV.sg.ext ((Ext.refl V).alloc _)) r71 (by decide))
            | (at_builtin; have hsz1 : U6.heap.size ≤ y71.heap.size := Nat.le_trans hXV.size (Nat.le_trans ((Ext.refl V).alloc _).size r71.size); refine wpList_pushX rfl (.tmp 61) (.tmp 63) 74 rfl U6.heap.size 3 ij (.int .i64 0) 1 8 Tryd.underlying74 ij1 ij2 ij3 ij4 rfl zI _ nL (ofL L) rfl (Cols.of1 hCV ((Ext.refl V).alloc _) r71 ((Ext.refl y71).alloc _)) _ [.int .i64 (i : Int)] 1 rfl rfl (new1 _ _ _) (one1 rfl) (nou1 rfl) (by omega) (by decide) (by simp; omega) ?_; intro v81 y81 o81 r81 s81; obtain ⟨A81, c81, rfl⟩ := o81.shape; have hC1 := Cols.push hCV ((Ext.refl V).alloc _) o71 r71 s71 ((Ext.refl y71).alloc _) o81 r81 s81; have hX1 := Cols.pushE hCV ((Ext.refl V).alloc _) r71 ((Ext.refl y71).alloc _) r81 hXV (Nat.le_refl _); have td81 := boxR (Box.ext td71 ((Ext.refl y71).alloc _)) (Cols.of1 hCV ((Ext.refl V).alloc _) r71 ((Ext.refl y71).alloc _)) r81 (by decide); have tr81 := boxR (Box.ext tr71 ((Ext.refl y71).alloc _)) (Cols.of1 hCV ((Ext.refl V).alloc _) r71 ((Ext.refl y71).alloc _)) r81 (by decide); have br81 := tr81.c1)
            | (at_builtin; refine wpList_pushX rfl (.tmp 68) (.tmp 69) 74 rfl U6.heap.size 3 ij (.int .i64 0) 1 8 Tryd.underlying74 ij1 ij2 ij3 ij4 rfl zI _ (nL + 1) (sgL (L ++ [(1, i)])) rfl (hC1.sg.ext ((Ext.refl y81).alloc _)) _ [.int .i64 (-1)] 1 rfl rfl (new1 _ _ _) (one1 rfl) (nou1 rfl) (by omega) (by decide) (by have := hX1.size; simp; omega) ?_; intro v72 y72 o72 r72 s72; obtain ⟨A72, c72, rfl⟩ := o72.shape; have td72 := boxR (Box.ext td81 ((Ext.refl y81).alloc _)) (hC1.sg.ext ((Ext.refl y81).alloc _)) r72 (by decide); have tr72 := boxR (Box.ext tr81 ((Ext.refl y81).alloc _)) (hC1.sg.ext ((Ext.refl y81).alloc _)) r72 (by decide))
            | (at_builtin; have hsz2 : U6.heap.size ≤ y72.heap.size := Nat.le_trans hX1.size (Nat.le_trans ((Ext.refl y81).alloc _).size r72.size); refine wpList_pushX rfl (.tmp 71) (.tmp 73) 74 rfl U6.heap.size 3 ij (.int .i64 0) 1 8 Tryd.underlying74 ij1 ij2 ij3 ij4 rfl zI _ (nL + 1) (ofL (L ++ [(1, i)])) rfl (Cols.of1 hC1 ((Ext.refl y81).alloc _) r72 ((Ext.refl y72).alloc _)) _ [.int .i64 (i : Int)] 1 rfl rfl (new1 _ _ _) (one1 rfl) (nou1 rfl) (by omega) (by decide) (by simp; omega) ?_; intro v82 y82 o82 r82 s82; obtain ⟨A82, c82, rfl⟩ := o82.shape; have hC2 := Cols.push hC1 ((Ext.refl y81).alloc _) o72 r72 s72 ((Ext.refl y72).alloc _) o82 r82 s82; have hX2 := Cols.pushE hC1 ((Ext.refl y81).alloc _) r72 ((Ext.refl y72).alloc _) r82 hX1 (Nat.le_refl _); have td82 := boxR (Box.ext td72 ((Ext.refl y72).alloc _)) (Cols.of1 hC1 ((Ext.refl y81).alloc _) r72 ((Ext.refl y72).alloc _)) r82 (by decide); have tr82 := boxR (Box.ext tr72 ((Ext.refl y72).alloc _)) (Cols.of1 hC1 ((Ext.refl y81).alloc _) r72 ((Ext.refl y72).alloc _)) r82 (by decide); have br82 := tr82.c1)
          )
        go_roundw
        case rel => exact ⟨i + 1, nL + 1 + 1, _, by omega, by go_num, HL1, by omega, by omega, hC2, hX2, td82⟩
        case measure => simp [intOf]; omega
      · have HL1 : Hid (L ++ [(-1, i)] = cols ip.pl.rels (i + 1)) := Lib.hid (by rw [HCS.out, HLL.out]; rfl)
        go_wp2_with (first
            | (at_builtin; refine wpList_pushX rfl (.tmp 68) (.tmp 69) 74 rfl U6.heap.size 3 ij (.int .i64 0) 1 8 Tryd.underlying74 ij1 ij2 ij3 ij4 rfl zI _ nL (sgL L) rfl (hCV.sg.ext ((Ext.refl V).alloc _)) _ [.int .i64 (-1)] 1 rfl rfl (new1 _ _ _) (one1 rfl) (nou1 rfl) (by omega) (by decide) (by have := hXV.size; simp; omega) ?_; intro v71 y71 o71 r71 s71; obtain ⟨A71, c71, rfl⟩ := o71.shape; have td71 := boxR (Box.ext hDV ((Ext.refl V).alloc _)) (hCV.sg.ext ((Ext.refl V).alloc _)) r71 (by decide); have tr71 := boxR (Box.ext hRB ((Ext.refl V).alloc _)) (hCV.sg.ext ((Ext.refl V).alloc _)) r71 (by decide))
            | (at_builtin; have hsz1 : U6.heap.size ≤ y71.heap.size := Nat.le_trans hXV.size (Nat.le_trans ((Ext.refl V).alloc _).size r71.size); refine wpList_pushX rfl (.tmp 71) (.tmp 73) 74 rfl U6.heap.size 3 ij (.int .i64 0) 1 8 Tryd.underlying74 ij1 ij2 ij3 ij4 rfl zI _ nL (ofL L) rfl (Cols.of1 hCV ((Ext.refl V).alloc _) r71 ((Ext.refl y71).alloc _)) _ [.int .i64 (i : Int)] 1 rfl rfl (new1 _ _ _) (one1 rfl) (nou1 rfl) (by omega) (by decide) (by simp; omega) ?_; intro v81 y81 o81 r81 s81; obtain ⟨A81, c81, rfl⟩ := o81.shape; have hC1 := Cols.push hCV ((Ext.refl V).alloc _) o71 r71 s71 ((Ext.refl y71).alloc _) o81 r81 s81; have hX1 := Cols.pushE hCV ((Ext.refl V).alloc _) r71 ((Ext.refl y71).alloc _) r81 hXV (Nat.le_refl _); have td81 := boxR (Box.ext td71 ((Ext.refl y71).alloc _)) (Cols.of1 hCV ((Ext.refl V).alloc _) r71 ((Ext.refl y71).alloc _)) r81 (by decide); have tr81 := boxR (Box.ext tr71 ((Ext.refl y71).alloc _)) (Cols.of1 hCV ((Ext.refl V).alloc _) r71 ((Ext.refl y71).alloc _)) r81 (by decide); have br81 := tr81.c1)
          )
        go_roundw
        case rel => exact ⟨i + 1, nL + 1, _, by omega, by go_num, HL1, by omega, by omega, hC1, hX1, td81⟩
        case measure => simp [intOf]; omega
    · obtain rfl : i = p.m := by omega
      have hLc : L = ip.pl.cols := by rw [HLL.out, HPML.out]; rfl
      obtain rfl : nL = n := by rw [← hC.len, hLc, HNC.out]
      have HCM : Hid (∀ (k : Nat) (c : Int × Nat), L[k]? = some c → c.2 < p.m ∧ (c.1 = 1 ∨ c.1 = -1)) := Lib.hid (fun k c hc => by
        rw [hLc] at hc
        have hm := cols_mem (show c ∈ cols ip.pl.rels ip.pl.rows.length from List.mem_of_getElem? hc)
        rw [HPML.out]
        exact ⟨hm.1, hm.2.imp (fun h => h.1) (fun h => h.1)⟩)
      obtain ⟨hDn, hDm, hDo, hDr⟩ := HDF.out
      rw [← hLc] at hDo hDr
      have HDN := Lib.hid hDn
      have HDM := Lib.hid hDm
      have HDO := Lib.hid hDo
      have HDR := Lib.hid hDr
      have hT : Two wr U6.heap.size db (.slice none 0 0) (.slice none 0 0) 0 0 D.obj D (fun _ => none) (fun _ => 0) := ⟨hDB, OwnQ.nil _ _ _, OwnM.nil _ _ _ _ _ _, fun i hi => absurd hi (by omega)⟩
      obtain ⟨j0, ji, jz0, jz1, jz2⟩ := info_parts infoRat
      clear hLc hDn hDm hDo hDr hDB HLL hnL hnL2 hi hlt HRL
      go_wp2_with fail
      go_loopw [78] (fun kv wr => ∃ (kk : Nat) (vO : Value), kk ≤ nL ∧ kv = .int .i64 kk ∧ Two wr U6.heap.size db vO (.slice none 0 0) kk 0 D.obj D (fun _ => none) (fun _ => 0) ∧ Cols wr U6.heap.size (.slice A7 nL c7) (.slice A8 nL c8) nL L ∧ Ext U6 wr) (fun kv _ => nL - (intOf kv).toNat)
      case atStart => exact ⟨0, _, by omega, rfl, hT, hC, hX⟩
      case round =>
        clear hT hC hX
        obtain ⟨kk, vO, hk, rfl, hT, hC, hX⟩ := hrel
        obtain ⟨osq, oq, aq⟩ := id hT.obj
        obtain ⟨AO, cO, rfl⟩ := oq.shape
        by_cases hlt : kk < nL
        · obtain ⟨c, hc⟩ : ∃ c, L[kk]? = some c := ⟨_, List.getElem?_eq_getElem (by rw [hC.len]; exact hlt)⟩
          obtain ⟨g7, g8, e7, e8, s7, s8⟩ := hC.at hc
          subst e7 e8
          obtain ⟨hcm, hcz⟩ := HCM.out kk c hc
          have hOB := HDO.out kk c hc
          obtain ⟨zz, ii⟩ := c
          have HOB : Hid (D.obj kk = p.right ii * ((-zz : Int) : Rat)) := Lib.hid hOB
          have hcm : ii < p.m := hcm
          have hcz : zz = 1 ∨ zz = -1 := hcz
          have s7 : wr.cell? ⟨g7, kk, none⟩ = some (.int .i64 zz) := s7
          have s8 : wr.cell? ⟨g8, kk, none⟩ = some (.int .i64 (ii : Int)) := s8
          obtain ⟨-, -, -, x, Bq, d, e, y, Bq', d', e', y2, y3, y4, y5, hr⟩ := (hM6.ext hX).rows.row ii hcm
          have hrb : RatB wr (.agg #[.bool x, .slice Bq d e, .bool y, .slice Bq' d' e']) (p.right ii) 2 := ⟨hr, HCF.out.2.1 ii hcm⟩
          obtain rfl := HAR.out
          obtain ⟨zq, hzq⟩ : ∃ q, q = -zz := ⟨_, rfl⟩
          have r1 : IntKind.i64.wrap (-zz) = zq := by rw [hzq]; exact IntWalk.i64_in _ (by omega)
          have HOB : Hid (D.obj kk = p.right ii * ((zq : Int) : Rat)) := Lib.hid (by rw [HOB.out, hzq])
          have hz1 : zq = 1 ∨ zq = -1 := by omega
          have i1 : (0 : Int) ≤ (ii : Int) := by omega
          have i2 : (ii : Int) < (p.m : Int) := by omega
          have i3 : (0 : Int) ≤ (kk : Int) := by omega
          have i4 : (kk : Int) < (nL : Int) := by omega
          have d0w := hT.box.c0
          have d0 := d0w
          have z0 := hT.box.frozen 0
          have p1 := (PB6.ext hX).c1
          have hPq : ¬ PD (Value.slice AO kk cO) db qb := fun hg => by
            rcases hg with hg | hg
            · obtain ⟨-, -, cur, hcur⟩ := oq.lt hg
              exact row_ne (PB6.ext hX) hcur (by decide) rfl
            · have := PB6.lt; omega
          obtain ⟨-, -, csr, hcsr, -⟩ := hM6.blk (by omega)
          have hcsw : wr.heap[a.br]? = some (.cells csr 48 (0, 0)) := (Below.block hX a.br (by
            rcases Nat.lt_or_ge a.br U6.heap.size with h' | h'
            · exact h'
            · rw [Array.getElem?_eq_none h'] at hcsr; cases hcsr)).trans hcsr
          have hPr : ¬ PD (Value.slice AO kk cO) db a.br := fun hg => by
            rcases hg with hg | hg
            · obtain ⟨-, -, cur, hcur⟩ := oq.lt hg
              exact row_ne hcsw hcur (by decide) rfl
            · exact row_ne hcsw (show wr.heap[a.br]? = _ by rw [hg]; exact hT.box) (by decide) rfl
          have hP7 : ¬ PD (Value.slice AO kk cO) db g7 := fun hg => by
            obtain ⟨-, -, cu7, hcu7⟩ := hC.sg.lt (g := g7) rfl
            rcases hg with hg | hg
            · obtain ⟨-, -, cur, hcur⟩ := oq.lt hg
              exact row_ne hcu7 hcur (by decide) rfl
            · exact row_ne hcu7 (show wr.heap[g7]? = _ by rw [hg]; exact hT.box) (by decide) rfl
          have kp1 : ∀ w', Fr (PD (Value.slice AO kk cO) db) wr w' → w'.cell? ⟨qb, 1, none⟩ = some _ := fun w' h => h.cell hPq p1
          have ky2 : ∀ w', Fr (PD (Value.slice AO kk cO) db) wr w' → w'.cell? ⟨a.br, ii * 6 + 2, none⟩ = some _ := fun w' h => h.cell hPr y2
          have ky3 : ∀ w', Fr (PD (Value.slice AO kk cO) db) wr w' → w'.cell? ⟨a.br, ii * 6 + 3, none⟩ = some _ := fun w' h => h.cell hPr y3
          have ky4 : ∀ w', Fr (PD (Value.slice AO kk cO) db) wr w' → w'.cell? ⟨a.br, ii * 6 + 4, none⟩ = some _ := fun w' h => h.cell hPr y4
          have ky5 : ∀ w', Fr (PD (Value.slice AO kk cO) db) wr w' → w'.cell? ⟨a.br, ii * 6 + 5, none⟩ = some _ := fun w' h => h.cell hPr y5
          have ks7 : ∀ w', Fr (PD (Value.slice AO kk cO) db) wr w' → w'.cell? ⟨g7, kk, none⟩ = some _ := fun w' h => h.cell hP7 s7
          have kfr := Fr.refl (PD (Value.slice AO kk cO) db) wr
          clear hOB hc hr hzq hcz
          go_upto_region 18 with fail
          refine wp_region_held_drew (S := fun w' => Fr (PD (Value.slice AO kk cO) db) wr w') (by kernel_rfl) ?_ (fun hHeld => ?_)
          · (try dsimp only); (repeat (first | (with_reducible assumption) | (with_reducible apply Fr.drew) | (with_reducible apply Fr.drewN) | (with_reducible apply Fr.alloc) | (with_reducible refine Fr.step ?_ (by assumption))))
          refine wpAnyH_take (i := 0) (oi := { dst := some 83, op := Op.fieldAddr 31 (Operand.tmp 6) 0, type := 0, pos := "law.go:325", after := #[], guard := none }) (v := ?_) rfl (by kernel_rfl) (by kernel_rfl) (by kernel_rfl) (fun _ _ _ h => h) (Or.inl ⟨by rfl, ?_⟩) (by assumption) ?_
          rotate_left
          · intro w hSw; (try dsimp only at hSw); go_simp; try (with_reducible rfl)
          try simp only [Act.put, List.setIfInBounds_toArray, List.set_cons_zero, List.set_cons_succ]
          refine wpAnyH_take (i := 2) (oi := { dst := some 85, op := Op.fieldAddr 31 (Operand.tmp 3) 1, type := 0, pos := "law.go:325", after := #[], guard := none }) (v := ?_) rfl (by kernel_rfl) (by kernel_rfl) (by kernel_rfl) (fun _ _ _ h => h) (Or.inl ⟨by rfl, ?_⟩) (by assumption) ?_
          rotate_left
          · intro w hSw; (try dsimp only at hSw); go_simp; try (with_reducible rfl)
          try simp only [Act.put, List.setIfInBounds_toArray, List.set_cons_zero, List.set_cons_succ]
          refine wpAnyH_take (i := 3) (oi := { dst := some 86, op := Op.load 29 (Operand.tmp 85), type := 29, pos := "law.go:325", after := #[{ on := 2, ground := Ground.data }], guard := none }) (v := ?_) rfl (by kernel_rfl) (by kernel_rfl) (by kernel_rfl) (fun _ _ _ h => h) (Or.inl ⟨by rfl, ?_⟩) (by assumption) ?_
          rotate_left
          · intro w hSw; (try dsimp only at hSw); go_simp; try (with_reducible rfl)
          try simp only [Act.put, List.setIfInBounds_toArray, List.set_cons_zero, List.set_cons_succ]
          refine wpAnyH_take (i := 4) (oi := { dst := some 87, op := Op.move (Operand.tmp 12), type := 3, pos := "law.go:325", after := #[], guard := none }) (v := ?_) rfl (by kernel_rfl) (by kernel_rfl) (by kernel_rfl) (fun _ _ _ h => h) (Or.inl ⟨by rfl, ?_⟩) (by assumption) ?_
          rotate_left
          · intro w hSw; (try dsimp only at hSw); go_simp; try (with_reducible rfl)
          try simp only [Act.put, List.setIfInBounds_toArray, List.set_cons_zero, List.set_cons_succ]
          refine wpAnyH_take (i := 5) (oi := { dst := some 88, op := Op.indexAddr 29 (Operand.tmp 86) (Operand.tmp 87), type := 0, pos := "law.go:325", after := #[{ on := 3, ground := Ground.data }, { on := 4, ground := Ground.data }], guard := none }) (v := ?_) rfl (by kernel_rfl) (by kernel_rfl) (by kernel_rfl) (fun _ _ _ h => h) (Or.inl ⟨by rfl, ?_⟩) (by assumption) ?_
          rotate_left
          · intro w hSw; (try dsimp only at hSw); go_simp; try (with_reducible rfl)
          try simp only [Act.put, List.setIfInBounds_toArray, List.set_cons_zero, List.set_cons_succ]
          refine wpAnyH_take (i := 6) (oi := { dst := some 89, op := Op.fieldAddr 48 (Operand.tmp 88) 2, type := 0, pos := "law.go:325", after := #[{ on := 5, ground := Ground.data }], guard := none }) (v := ?_) rfl (by kernel_rfl) (by kernel_rfl) (by kernel_rfl) (fun _ _ _ h => h) (Or.inl ⟨by rfl, ?_⟩) (by assumption) ?_
          rotate_left
          · intro w hSw; (try dsimp only at hSw); go_simp; try (with_reducible rfl)
          try simp only [Act.put, List.setIfInBounds_toArray, List.set_cons_zero, List.set_cons_succ]
          refine wpAnyH_take (i := 7) (oi := { dst := some 90, op := Op.load 37 (Operand.tmp 89), type := 37, pos := "law.go:325", after := #[{ on := 6, ground := Ground.data }], guard := none }) (v := ?_) rfl (by kernel_rfl) (by kernel_rfl) (by kernel_rfl) (fun _ _ _ h => h) (Or.inl ⟨by rfl, ?_⟩) (by assumption) ?_
          rotate_left
          · intro w hSw; (try dsimp only at hSw); go_simp; try (with_reducible rfl)
          try simp only [Act.put, List.setIfInBounds_toArray, List.set_cons_zero, List.set_cons_succ]
          refine wpAnyH_take (i := 8) (oi := { dst := some 91, op := Op.move (Operand.tmp 7), type := 74, pos := "law.go:325", after := #[], guard := none }) (v := ?_) rfl (by kernel_rfl) (by kernel_rfl) (by kernel_rfl) (fun _ _ _ h => h) (Or.inl ⟨by rfl, ?_⟩) (by assumption) ?_
          rotate_left
          · intro w hSw; (try dsimp only at hSw); go_simp; try (with_reducible rfl)
          try simp only [Act.put, List.setIfInBounds_toArray, List.set_cons_zero, List.set_cons_succ]
          refine wpAnyH_take (i := 9) (oi := { dst := some 92, op := Op.move (Operand.tmp 11), type := 3, pos := "law.go:325", after := #[], guard := none }) (v := ?_) rfl (by kernel_rfl) (by kernel_rfl) (by kernel_rfl) (fun _ _ _ h => h) (Or.inl ⟨by rfl, ?_⟩) (by assumption) ?_
          rotate_left
          · intro w hSw; (try dsimp only at hSw); go_simp; try (with_reducible rfl)
          try simp only [Act.put, List.setIfInBounds_toArray, List.set_cons_zero, List.set_cons_succ]
          refine wpAnyH_take (i := 10) (oi := { dst := some 93, op := Op.indexAddr 74 (Operand.tmp 91) (Operand.tmp 92), type := 0, pos := "law.go:325", after := #[{ on := 8, ground := Ground.data }, { on := 9, ground := Ground.data }], guard := none }) (v := ?_) rfl (by kernel_rfl) (by kernel_rfl) (by kernel_rfl) (fun _ _ _ h => h) (Or.inl ⟨by rfl, ?_⟩) (by assumption) ?_
          rotate_left
          · intro w hSw; (try dsimp only at hSw); go_simp; try (with_reducible rfl)
          try simp only [Act.put, List.setIfInBounds_toArray, List.set_cons_zero, List.set_cons_succ]
          refine wpAnyH_take (i := 11) (oi := { dst := some 94, op := Op.load 3 (Operand.tmp 93), type := 3, pos := "law.go:325", after := #[{ on := 10, ground := Ground.data }], guard := none }) (v := ?_) rfl (by kernel_rfl) (by kernel_rfl) (by kernel_rfl) (fun _ _ _ h => h) (Or.inl ⟨by rfl, ?_⟩) (by assumption) ?_
          rotate_left
          · intro w hSw; (try dsimp only at hSw); go_simp; try (with_reducible rfl)
          try simp only [Act.put, List.setIfInBounds_toArray, List.set_cons_zero, List.set_cons_succ]
          refine wpAnyH_take (i := 12) (oi := { dst := some 95, op := Op.unOp UnOp.neg 3 (Operand.tmp 94), type := 3, pos := "law.go:325", after := #[{ on := 11, ground := Ground.data }], guard := none }) (v := ?_) rfl (by kernel_rfl) (by kernel_rfl) (by kernel_rfl) (fun _ _ _ h => h) (Or.inl ⟨by rfl, ?_⟩) (by assumption) ?_
          rotate_left
          · intro w hSw; (try dsimp only at hSw); go_simp; try (with_reducible rfl)
          try simp only [Act.put, List.setIfInBounds_toArray, List.set_cons_zero, List.set_cons_succ]
          refine wpAnyH_ready (rs := [1, 13]) (by kernel_rfl) (by simp) ?_
          refine AllReadyH.cons (o := { dst := some 84, op := Op.load 28 (Operand.tmp 83), type := 28, pos := "law.go:325", after := #[{ on := 0, ground := Ground.data }], guard := none }) rfl (fun K hK => ?_) ?_
          · go_simp
            try (go_wp2_with fail)
            refine hK.out _ _ ?_ (fun hHeld => ?_)
            · (try dsimp only); (repeat (first | (with_reducible assumption) | (with_reducible apply Fr.drew) | (with_reducible apply Fr.drewN) | (with_reducible apply Fr.alloc) | (with_reducible refine Fr.step ?_ (by assumption))))
            clear hK K
            try simp only [Act.put, List.setIfInBounds_toArray, List.set_cons_zero, List.set_cons_succ]
            refine wpAnyH_ready (rs := [13]) (by kernel_rfl) (by simp) ?_
            refine AllReadyH.cons (o := { dst := some 96, op := Op.call { callee := Callee.value (Operand.func 21), args := #[Operand.tmp 95], argTypes := #[3] }, type := 37, pos := "law.go:325", after := #[{ on := 12, ground := Ground.data }], guard := none }) rfl (fun K hK => ?_) ?_
            · go_simp
              first
                | (go_at_call 21; (with_reducible refine (RatOf_b zq _ (by omega) (by omega)).mono ?_); rintro e wl ⟨vl, rfl, hbl, hxl⟩; (obtain ⟨pl, Al, nl, cl, pl', Al', nl', cl', rfl⟩ := hbl.1.shape); (have hlL : Ext wr wl := Ext.trans (by repeat (first | (with_reducible exact Ext.refl _) | (with_reducible apply Ext.drew) | (with_reducible apply Ext.drewN))) hxl); (have d0 := hlL.cell d0w))
                | (go_at_call 33; (with_reducible refine (RatMul_b _ _ _ _ _ _ _ (RatB.ext hrb (by repeat (first | (with_reducible exact Ext.refl _) | (with_reducible apply Ext.drew) | (with_reducible apply Ext.drewN) | (with_reducible refine Ext.trans ?_ (by assumption))))) (RatB.ext hbl (by repeat (first | (with_reducible exact Ext.refl _) | (with_reducible apply Ext.drew) | (with_reducible apply Ext.drewN) | (with_reducible refine Ext.trans ?_ (by assumption))))) (by omega)).mono ?_); rintro e wm ⟨vm, rfl, hbm, hxm⟩; (obtain ⟨pm, Am, nm, cm, pm', Am', nm', cm', rfl⟩ := hbm.1.shape); (have hmL : Ext wr wm := Ext.trans hlL (Ext.trans (by repeat (first | (with_reducible exact Ext.refl _) | (with_reducible apply Ext.drew) | (with_reducible apply Ext.drewN))) hxm)); (have d0 := hmL.cell d0w))
                | ((have hza : Ext wm (wm.alloc (.cells #[.bool pm, .slice Am nm cm, .bool pm', .slice Am' nm' cm'] 37)) := (Ext.refl wm).alloc _); (refine step_pushX rfl (.tmp 84) (.tmp 98) 28 rfl U6.heap.size 37 j0 _ 4 64 Tryd.underlying28 ji jz0 jz1 jz2 rfl zR _ kk osq rfl ((oq.ext hmL).ext hza) wm.heap.size [.bool pm, .slice Am nm cm, .bool pm', .slice Am' nm' cm'] 1 rfl rfl (new4 wm 37 _ _ _ _) one4 nou4 (by omega) (by decide) (Nat.le_trans hX.size (Nat.le_trans hmL.size hza.size)) ?_); intro v6 y6 o6 r6 s6; (have tb6 := boxR ((hT.box.ext hmL).ext hza) ((oq.ext hmL).ext hza) r6 (by decide)); (have c6 := tb6.c0); (have z6 := tb6.frozen 0); (obtain ⟨A6, d6, rfl⟩ := o6.shape); (have hS6 : Fr (PD (Value.slice AO kk cO) db) wr y6 := ((Fr.of hmL).trans (Fr.of hza)).trans (r6.weak (fun b hb => .inl hb))); (have hS7 : Fr (PD (Value.slice AO kk cO) db) wr (y6.setCell ⟨db, 0, none⟩ (.slice A6 (kk + 1) d6)) := hS6.set (p := ⟨db, 0, none⟩) (.inr rfl) (fun z => by rw [c6]; intro e; cases e) _))
                | skip
              try (go_wp2_with fail)
              refine hK.out _ _ ?_ (fun hHeld => ?_)
              · (try dsimp only); (repeat (first | (with_reducible assumption) | (with_reducible apply Fr.drew) | (with_reducible apply Fr.drewN) | (with_reducible apply Fr.alloc) | (with_reducible refine Fr.step ?_ (by assumption))))
              clear hK K
              try simp only [Act.put, List.setIfInBounds_toArray, List.set_cons_zero, List.set_cons_succ]
              refine wpAnyH_ready (rs := [14]) (by kernel_rfl) (by simp) ?_
              refine AllReadyH.cons (o := { dst := some 97, op := Op.call { callee := Callee.value (Operand.func 33), args := #[Operand.tmp 90, Operand.tmp 96], argTypes := #[37, 37] }, type := 37, pos := "law.go:325", after := #[{ on := 7, ground := Ground.data }, { on := 13, ground := Ground.data }, { on := 13, ground := Ground.chain }], guard := none }) rfl (fun K hK => ?_) ?_
              · go_simp
                first
                  | (go_at_call 21; (with_reducible refine (RatOf_b zq _ (by omega) (by omega)).mono ?_); rintro e wl ⟨vl, rfl, hbl, hxl⟩; (obtain ⟨pl, Al, nl, cl, pl', Al', nl', cl', rfl⟩ := hbl.1.shape); (have hlL : Ext wr wl := Ext.trans (by repeat (first | (with_reducible exact Ext.refl _) | (with_reducible apply Ext.drew) | (with_reducible apply Ext.drewN))) hxl); (have d0 := hlL.cell d0w))
                  | (go_at_call 33; (with_reducible refine (RatMul_b _ _ _ _ _ _ _ (RatB.ext hrb (by repeat (first | (with_reducible exact Ext.refl _) | (with_reducible apply Ext.drew) | (with_reducible apply Ext.drewN) | (with_reducible refine Ext.trans ?_ (by assumption))))) (RatB.ext hbl (by repeat (first | (with_reducible exact Ext.refl _) | (with_reducible apply Ext.drew) | (with_reducible apply Ext.drewN) | (with_reducible refine Ext.trans ?_ (by assumption))))) (by omega)).mono ?_); rintro e wm ⟨vm, rfl, hbm, hxm⟩; (obtain ⟨pm, Am, nm, cm, pm', Am', nm', cm', rfl⟩ := hbm.1.shape); (have hmL : Ext wr wm := Ext.trans hlL (Ext.trans (by repeat (first | (with_reducible exact Ext.refl _) | (with_reducible apply Ext.drew) | (with_reducible apply Ext.drewN))) hxm)); (have d0 := hmL.cell d0w))
                  | ((have hza : Ext wm (wm.alloc (.cells #[.bool pm, .slice Am nm cm, .bool pm', .slice Am' nm' cm'] 37)) := (Ext.refl wm).alloc _); (refine step_pushX rfl (.tmp 84) (.tmp 98) 28 rfl U6.heap.size 37 j0 _ 4 64 Tryd.underlying28 ji jz0 jz1 jz2 rfl zR _ kk osq rfl ((oq.ext hmL).ext hza) wm.heap.size [.bool pm, .slice Am nm cm, .bool pm', .slice Am' nm' cm'] 1 rfl rfl (new4 wm 37 _ _ _ _) one4 nou4 (by omega) (by decide) (Nat.le_trans hX.size (Nat.le_trans hmL.size hza.size)) ?_); intro v6 y6 o6 r6 s6; (have tb6 := boxR ((hT.box.ext hmL).ext hza) ((oq.ext hmL).ext hza) r6 (by decide)); (have c6 := tb6.c0); (have z6 := tb6.frozen 0); (obtain ⟨A6, d6, rfl⟩ := o6.shape); (have hS6 : Fr (PD (Value.slice AO kk cO) db) wr y6 := ((Fr.of hmL).trans (Fr.of hza)).trans (r6.weak (fun b hb => .inl hb))); (have hS7 : Fr (PD (Value.slice AO kk cO) db) wr (y6.setCell ⟨db, 0, none⟩ (.slice A6 (kk + 1) d6)) := hS6.set (p := ⟨db, 0, none⟩) (.inr rfl) (fun z => by rw [c6]; intro e; cases e) _))
                  | skip
                try (go_wp2_with fail)
                refine hK.out _ _ ?_ (fun hHeld => ?_)
                · (try dsimp only); (repeat (first | (with_reducible assumption) | (with_reducible apply Fr.drew) | (with_reducible apply Fr.drewN) | (with_reducible apply Fr.alloc) | (with_reducible refine Fr.step ?_ (by assumption))))
                clear hK K
                try simp only [Act.put, List.setIfInBounds_toArray, List.set_cons_zero, List.set_cons_succ]
                refine wpAnyH_ready (rs := [15]) (by kernel_rfl) (by simp) ?_
                refine AllReadyH.cons (o := { dst := some 98, op := Op.buildSlice 28 1 #[(0, Operand.tmp 97)], type := 28, pos := "law.go:325", after := #[{ on := 14, ground := Ground.data }], guard := none }) rfl (fun K hK => ?_) ?_
                · go_simp
                  try (go_wp2_with fail)
                  refine hK.out _ _ ?_ (fun hHeld => ?_)
                  · (try dsimp only); (repeat (first | (with_reducible assumption) | (with_reducible apply Fr.drew) | (with_reducible apply Fr.drewN) | (with_reducible apply Fr.alloc) | (with_reducible refine Fr.step ?_ (by assumption))))
                  clear hK K
                  try simp only [Act.put, List.setIfInBounds_toArray, List.set_cons_zero, List.set_cons_succ]
                  refine wpAnyH_ready (rs := [16]) (by kernel_rfl) (by simp) ?_
                  refine AllReadyH.cons (o := { dst := some 99, op := Op.call { callee := Callee.builtin Builtin.append, args := #[Operand.tmp 84, Operand.tmp 98], argTypes := #[28, 28] }, type := 28, pos := "law.go:325", after := #[{ on := 1, ground := Ground.data }, { on := 15, ground := Ground.data }, { on := 14, ground := Ground.chain }], guard := none }) rfl (fun K hK => ?_) ?_
                  · skip
                    first
                      | (go_at_call 21; (with_reducible refine (RatOf_b zq _ (by omega) (by omega)).mono ?_); rintro e wl ⟨vl, rfl, hbl, hxl⟩; (obtain ⟨pl, Al, nl, cl, pl', Al', nl', cl', rfl⟩ := hbl.1.shape); (have hlL : Ext wr wl := Ext.trans (by repeat (first | (with_reducible exact Ext.refl _) | (with_reducible apply Ext.drew) | (with_reducible apply Ext.drewN))) hxl); (have d0 := hlL.cell d0w))
                      | (go_at_call 33; (with_reducible refine (RatMul_b _ _ _ _ _ _ _ (RatB.ext hrb (by repeat (first | (with_reducible exact Ext.refl _) | (with_reducible apply Ext.drew) | (with_reducible apply Ext.drewN) | (with_reducible refine Ext.trans ?_ (by assumption))))) (RatB.ext hbl (by repeat (first | (with_reducible exact Ext.refl _) | (with_reducible apply Ext.drew) | (with_reducible apply Ext.drewN) | (with_reducible refine Ext.trans ?_ (by assumption))))) (by omega)).mono ?_); rintro e wm ⟨vm, rfl, hbm, hxm⟩; (obtain ⟨pm, Am, nm, cm, pm', Am', nm', cm', rfl⟩ := hbm.1.shape); (have hmL : Ext wr wm := Ext.trans hlL (Ext.trans (by repeat (first | (with_reducible exact Ext.refl _) | (with_reducible apply Ext.drew) | (with_reducible apply Ext.drewN))) hxm)); (have d0 := hmL.cell d0w))
                      | ((have hza : Ext wm (wm.alloc (.cells #[.bool pm, .slice Am nm cm, .bool pm', .slice Am' nm' cm'] 37)) := (Ext.refl wm).alloc _); (refine step_pushX rfl (.tmp 84) (.tmp 98) 28 rfl U6.heap.size 37 j0 _ 4 64 Tryd.underlying28 ji jz0 jz1 jz2 rfl zR _ kk osq rfl ((oq.ext hmL).ext hza) wm.heap.size [.bool pm, .slice Am nm cm, .bool pm', .slice Am' nm' cm'] 1 rfl rfl (new4 wm 37 _ _ _ _) one4 nou4 (by omega) (by decide) (Nat.le_trans hX.size (Nat.le_trans hmL.size hza.size)) ?_); intro v6 y6 o6 r6 s6; (have tb6 := boxR ((hT.box.ext hmL).ext hza) ((oq.ext hmL).ext hza) r6 (by decide)); (have c6 := tb6.c0); (have z6 := tb6.frozen 0); (obtain ⟨A6, d6, rfl⟩ := o6.shape); (have hS6 : Fr (PD (Value.slice AO kk cO) db) wr y6 := ((Fr.of hmL).trans (Fr.of hza)).trans (r6.weak (fun b hb => .inl hb))); (have hS7 : Fr (PD (Value.slice AO kk cO) db) wr (y6.setCell ⟨db, 0, none⟩ (.slice A6 (kk + 1) d6)) := hS6.set (p := ⟨db, 0, none⟩) (.inr rfl) (fun z => by rw [c6]; intro e; cases e) _))
                      | skip
                    try (go_wp2_with fail)
                    refine hK.out _ _ ?_ (fun hHeld => ?_)
                    · (try dsimp only); (repeat (first | (with_reducible assumption) | (with_reducible apply Fr.drew) | (with_reducible apply Fr.drewN) | (with_reducible apply Fr.alloc) | (with_reducible refine Fr.step ?_ (by assumption))))
                    clear hK K
                    try simp only [Act.put, List.setIfInBounds_toArray, List.set_cons_zero, List.set_cons_succ]
                    refine wpAnyH_take (i := 17) (oi := { dst := some 100, op := Op.fieldAddr 31 (Operand.tmp 6) 0, type := 0, pos := "law.go:325", after := #[{ on := 0, ground := Ground.phase }, { on := 1, ground := Ground.phase }, { on := 2, ground := Ground.phase }, { on := 3, ground := Ground.phase }, { on := 4, ground := Ground.phase }, { on := 5, ground := Ground.phase }, { on := 6, ground := Ground.phase }, { on := 7, ground := Ground.phase }, { on := 8, ground := Ground.phase }, { on := 9, ground := Ground.phase }, { on := 10, ground := Ground.phase }, { on := 11, ground := Ground.phase }, { on := 12, ground := Ground.phase }, { on := 13, ground := Ground.phase }, { on := 14, ground := Ground.phase }, { on := 15, ground := Ground.phase }, { on := 16, ground := Ground.phase }], guard := none }) (v := ?_) rfl (by kernel_rfl) (by kernel_rfl) (by kernel_rfl) (fun _ _ _ h => h) (Or.inl ⟨by rfl, ?_⟩) (by assumption) ?_
                    rotate_left
                    · intro w hSw; (try dsimp only at hSw); go_simp; try (with_reducible rfl)
                    try simp only [Act.put, List.setIfInBounds_toArray, List.set_cons_zero, List.set_cons_succ]
                    refine wpAnyH_ready (rs := [18]) (by kernel_rfl) (by simp) ?_
                    refine AllReadyH.cons (o := { dst := none, op := Op.store 28 (Operand.tmp 100) (Operand.tmp 99), type := 0, pos := "law.go:325", after := #[{ on := 17, ground := Ground.data }, { on := 16, ground := Ground.data }, { on := 16, ground := Ground.chain }, { on := 0, ground := Ground.phase }, { on := 1, ground := Ground.phase }, { on := 2, ground := Ground.phase }, { on := 3, ground := Ground.phase }, { on := 4, ground := Ground.phase }, { on := 5, ground := Ground.phase }, { on := 6, ground := Ground.phase }, { on := 7, ground := Ground.phase }, { on := 8, ground := Ground.phase }, { on := 9, ground := Ground.phase }, { on := 10, ground := Ground.phase }, { on := 11, ground := Ground.phase }, { on := 12, ground := Ground.phase }, { on := 13, ground := Ground.phase }, { on := 14, ground := Ground.phase }, { on := 15, ground := Ground.phase }, { on := 16, ground := Ground.phase }], guard := none }) rfl (fun K hK => ?_) ?_
                    · go_simp
                      try (go_wp2_with fail)
                      refine hK.out _ _ ?_ (fun hHeld => ?_)
                      · (try dsimp only); (repeat (first | (with_reducible assumption) | (with_reducible apply Fr.drew) | (with_reducible apply Fr.drewN) | (with_reducible apply Fr.alloc) | (with_reducible refine Fr.step ?_ (by assumption))))
                      clear hK K
                      try simp only [Act.put, List.setIfInBounds_toArray, List.set_cons_zero, List.set_cons_succ]
                      refine wpAnyH_done (by kernel_rfl) ?_ _
                      have hT1 := (hT.ext hmL).ext hza
                      have a6 := At.push (f := D.obj) oq.1 (fun j hj => (aq j hj).fr (Fr.of (P := fun _ => False) (hmL.trans hza))) r6 (by rw [HOB.out]; exact (hbm.ext hza).1)
                      obtain ⟨hT2, hF2⟩ := hT1.pushO o6 a6 r6 s6
                      have hX2 := hF2.ext ((hX.trans hmL).trans hza) (fun g hg => by
                        rcases hg with hg | rfl
                        · exact (oq.lt hg).1
                        · exact hdbs)
                      have hC2 := ((hC.ext hmL).ext hza).fr hF2 (fun g cs hcs hg => by
                        rcases hg with hg | rfl
                        · obtain ⟨-, -, cur, hcur⟩ := ((oq.ext hmL).ext hza).lt hg
                          exact row_ne hcs hcur (by decide) rfl
                        · exact row_ne hcs hT1.box (by decide) rfl)
                      go_wp2_with fail
                      go_roundw
                      case rel => exact ⟨kk + 1, _, by omega, by go_num, hT2, hC2, hX2⟩
                      case measure => simp [intOf]; omega
                    exact AllReadyH.nil
                  exact AllReadyH.nil
                exact AllReadyH.nil
              exact AllReadyH.nil
            exact AllReadyH.nil
          refine AllReadyH.cons (o := { dst := some 96, op := Op.call { callee := Callee.value (Operand.func 21), args := #[Operand.tmp 95], argTypes := #[3] }, type := 37, pos := "law.go:325", after := #[{ on := 12, ground := Ground.data }], guard := none }) rfl (fun K hK => ?_) ?_
          · go_simp
            first
              | (go_at_call 21; (with_reducible refine (RatOf_b zq _ (by omega) (by omega)).mono ?_); rintro e wl ⟨vl, rfl, hbl, hxl⟩; (obtain ⟨pl, Al, nl, cl, pl', Al', nl', cl', rfl⟩ := hbl.1.shape); (have hlL : Ext wr wl := Ext.trans (by repeat (first | (with_reducible exact Ext.refl _) | (with_reducible apply Ext.drew) | (with_reducible apply Ext.drewN))) hxl); (have d0 := hlL.cell d0w))
              | (go_at_call 33; (with_reducible refine (RatMul_b _ _ _ _ _ _ _ (RatB.ext hrb (by repeat (first | (with_reducible exact Ext.refl _) | (with_reducible apply Ext.drew) | (with_reducible apply Ext.drewN) | (with_reducible refine Ext.trans ?_ (by assumption))))) (RatB.ext hbl (by repeat (first | (with_reducible exact Ext.refl _) | (with_reducible apply Ext.drew) | (with_reducible apply Ext.drewN) | (with_reducible refine Ext.trans ?_ (by assumption))))) (by omega)).mono ?_); rintro e wm ⟨vm, rfl, hbm, hxm⟩; (obtain ⟨pm, Am, nm, cm, pm', Am', nm', cm', rfl⟩ := hbm.1.shape); (have hmL : Ext wr wm := Ext.trans hlL (Ext.trans (by repeat (first | (with_reducible exact Ext.refl _) | (with_reducible apply Ext.drew) | (with_reducible apply Ext.drewN))) hxm)); (have d0 := hmL.cell d0w))
              | ((have hza : Ext wm (wm.alloc (.cells #[.bool pm, .slice Am nm cm, .bool pm', .slice Am' nm' cm'] 37)) := (Ext.refl wm).alloc _); (refine step_pushX rfl (.tmp 84) (.tmp 98) 28 rfl U6.heap.size 37 j0 _ 4 64 Tryd.underlying28 ji jz0 jz1 jz2 rfl zR _ kk osq rfl ((oq.ext hmL).ext hza) wm.heap.size [.bool pm, .slice Am nm cm, .bool pm', .slice Am' nm' cm'] 1 rfl rfl (new4 wm 37 _ _ _ _) one4 nou4 (by omega) (by decide) (Nat.le_trans hX.size (Nat.le_trans hmL.size hza.size)) ?_); intro v6 y6 o6 r6 s6; (have tb6 := boxR ((hT.box.ext hmL).ext hza) ((oq.ext hmL).ext hza) r6 (by decide)); (have c6 := tb6.c0); (have z6 := tb6.frozen 0); (obtain ⟨A6, d6, rfl⟩ := o6.shape); (have hS6 : Fr (PD (Value.slice AO kk cO) db) wr y6 := ((Fr.of hmL).trans (Fr.of hza)).trans (r6.weak (fun b hb => .inl hb))); (have hS7 : Fr (PD (Value.slice AO kk cO) db) wr (y6.setCell ⟨db, 0, none⟩ (.slice A6 (kk + 1) d6)) := hS6.set (p := ⟨db, 0, none⟩) (.inr rfl) (fun z => by rw [c6]; intro e; cases e) _))
              | skip
            try (go_wp2_with fail)
            refine hK.out _ _ ?_ (fun hHeld => ?_)
            · (try dsimp only); (repeat (first | (with_reducible assumption) | (with_reducible apply Fr.drew) | (with_reducible apply Fr.drewN) | (with_reducible apply Fr.alloc) | (with_reducible refine Fr.step ?_ (by assumption))))
            clear hK K
            try simp only [Act.put, List.setIfInBounds_toArray, List.set_cons_zero, List.set_cons_succ]
            refine wpAnyH_ready (rs := [1, 14]) (by kernel_rfl) (by simp) ?_
            refine AllReadyH.cons (o := { dst := some 84, op := Op.load 28 (Operand.tmp 83), type := 28, pos := "law.go:325", after := #[{ on := 0, ground := Ground.data }], guard := none }) rfl (fun K hK => ?_) ?_
            · go_simp
              try (go_wp2_with fail)
              refine hK.out _ _ ?_ (fun hHeld => ?_)
              · (try dsimp only); (repeat (first | (with_reducible assumption) | (with_reducible apply Fr.drew) | (with_reducible apply Fr.drewN) | (with_reducible apply Fr.alloc) | (with_reducible refine Fr.step ?_ (by assumption))))
              clear hK K
              try simp only [Act.put, List.setIfInBounds_toArray, List.set_cons_zero, List.set_cons_succ]
              refine wpAnyH_ready (rs := [14]) (by kernel_rfl) (by simp) ?_
              refine AllReadyH.cons (o := { dst := some 97, op := Op.call { callee := Callee.value (Operand.func 33), args := #[Operand.tmp 90, Operand.tmp 96], argTypes := #[37, 37] }, type := 37, pos := "law.go:325", after := #[{ on := 7, ground := Ground.data }, { on := 13, ground := Ground.data }, { on := 13, ground := Ground.chain }], guard := none }) rfl (fun K hK => ?_) ?_
              · go_simp
                first
                  | (go_at_call 21; (with_reducible refine (RatOf_b zq _ (by omega) (by omega)).mono ?_); rintro e wl ⟨vl, rfl, hbl, hxl⟩; (obtain ⟨pl, Al, nl, cl, pl', Al', nl', cl', rfl⟩ := hbl.1.shape); (have hlL : Ext wr wl := Ext.trans (by repeat (first | (with_reducible exact Ext.refl _) | (with_reducible apply Ext.drew) | (with_reducible apply Ext.drewN))) hxl); (have d0 := hlL.cell d0w))
                  | (go_at_call 33; (with_reducible refine (RatMul_b _ _ _ _ _ _ _ (RatB.ext hrb (by repeat (first | (with_reducible exact Ext.refl _) | (with_reducible apply Ext.drew) | (with_reducible apply Ext.drewN) | (with_reducible refine Ext.trans ?_ (by assumption))))) (RatB.ext hbl (by repeat (first | (with_reducible exact Ext.refl _) | (with_reducible apply Ext.drew) | (with_reducible apply Ext.drewN) | (with_reducible refine Ext.trans ?_ (by assumption))))) (by omega)).mono ?_); rintro e wm ⟨vm, rfl, hbm, hxm⟩; (obtain ⟨pm, Am, nm, cm, pm', Am', nm', cm', rfl⟩ := hbm.1.shape); (have hmL : Ext wr wm := Ext.trans hlL (Ext.trans (by repeat (first | (with_reducible exact Ext.refl _) | (with_reducible apply Ext.drew) | (with_reducible apply Ext.drewN))) hxm)); (have d0 := hmL.cell d0w))
                  | ((have hza : Ext wm (wm.alloc (.cells #[.bool pm, .slice Am nm cm, .bool pm', .slice Am' nm' cm'] 37)) := (Ext.refl wm).alloc _); (refine step_pushX rfl (.tmp 84) (.tmp 98) 28 rfl U6.heap.size 37 j0 _ 4 64 Tryd.underlying28 ji jz0 jz1 jz2 rfl zR _ kk osq rfl ((oq.ext hmL).ext hza) wm.heap.size [.bool pm, .slice Am nm cm, .bool pm', .slice Am' nm' cm'] 1 rfl rfl (new4 wm 37 _ _ _ _) one4 nou4 (by omega) (by decide) (Nat.le_trans hX.size (Nat.le_trans hmL.size hza.size)) ?_); intro v6 y6 o6 r6 s6; (have tb6 := boxR ((hT.box.ext hmL).ext hza) ((oq.ext hmL).ext hza) r6 (by decide)); (have c6 := tb6.c0); (have z6 := tb6.frozen 0); (obtain ⟨A6, d6, rfl⟩ := o6.shape); (have hS6 : Fr (PD (Value.slice AO kk cO) db) wr y6 := ((Fr.of hmL).trans (Fr.of hza)).trans (r6.weak (fun b hb => .inl hb))); (have hS7 : Fr (PD (Value.slice AO kk cO) db) wr (y6.setCell ⟨db, 0, none⟩ (.slice A6 (kk + 1) d6)) := hS6.set (p := ⟨db, 0, none⟩) (.inr rfl) (fun z => by rw [c6]; intro e; cases e) _))
                  | skip
                try (go_wp2_with fail)
                refine hK.out _ _ ?_ (fun hHeld => ?_)
                · (try dsimp only); (repeat (first | (with_reducible assumption) | (with_reducible apply Fr.drew) | (with_reducible apply Fr.drewN) | (with_reducible apply Fr.alloc) | (with_reducible refine Fr.step ?_ (by assumption))))
                clear hK K
                try simp only [Act.put, List.setIfInBounds_toArray, List.set_cons_zero, List.set_cons_succ]
                refine wpAnyH_ready (rs := [15]) (by kernel_rfl) (by simp) ?_
                refine AllReadyH.cons (o := { dst := some 98, op := Op.buildSlice 28 1 #[(0, Operand.tmp 97)], type := 28, pos := "law.go:325", after := #[{ on := 14, ground := Ground.data }], guard := none }) rfl (fun K hK => ?_) ?_
                · go_simp
                  try (go_wp2_with fail)
                  refine hK.out _ _ ?_ (fun hHeld => ?_)
                  · (try dsimp only); (repeat (first | (with_reducible assumption) | (with_reducible apply Fr.drew) | (with_reducible apply Fr.drewN) | (with_reducible apply Fr.alloc) | (with_reducible refine Fr.step ?_ (by assumption))))
                  clear hK K
                  try simp only [Act.put, List.setIfInBounds_toArray, List.set_cons_zero, List.set_cons_succ]
                  refine wpAnyH_ready (rs := [16]) (by kernel_rfl) (by simp) ?_
                  refine AllReadyH.cons (o := { dst := some 99, op := Op.call { callee := Callee.builtin Builtin.append, args := #[Operand.tmp 84, Operand.tmp 98], argTypes := #[28, 28] }, type := 28, pos := "law.go:325", after := #[{ on := 1, ground := Ground.data }, { on := 15, ground := Ground.data }, { on := 14, ground := Ground.chain }], guard := none }) rfl (fun K hK => ?_) ?_
                  · skip
                    first
                      | (go_at_call 21; (with_reducible refine (RatOf_b zq _ (by omega) (by omega)).mono ?_); rintro e wl ⟨vl, rfl, hbl, hxl⟩; (obtain ⟨pl, Al, nl, cl, pl', Al', nl', cl', rfl⟩ := hbl.1.shape); (have hlL : Ext wr wl := Ext.trans (by repeat (first | (with_reducible exact Ext.refl _) | (with_reducible apply Ext.drew) | (with_reducible apply Ext.drewN))) hxl); (have d0 := hlL.cell d0w))
                      | (go_at_call 33; (with_reducible refine (RatMul_b _ _ _ _ _ _ _ (RatB.ext hrb (by repeat (first | (with_reducible exact Ext.refl _) | (with_reducible apply Ext.drew) | (with_reducible apply Ext.drewN) | (with_reducible refine Ext.trans ?_ (by assumption))))) (RatB.ext hbl (by repeat (first | (with_reducible exact Ext.refl _) | (with_reducible apply Ext.drew) | (with_reducible apply Ext.drewN) | (with_reducible refine Ext.trans ?_ (by assumption))))) (by omega)).mono ?_); rintro e wm ⟨vm, rfl, hbm, hxm⟩; (obtain ⟨pm, Am, nm, cm, pm', Am', nm', cm', rfl⟩ := hbm.1.shape); (have hmL : Ext wr wm := Ext.trans hlL (Ext.trans (by repeat (first | (with_reducible exact Ext.refl _) | (with_reducible apply Ext.drew) | (with_reducible apply Ext.drewN))) hxm)); (have d0 := hmL.cell d0w))
                      | ((have hza : Ext wm (wm.alloc (.cells #[.bool pm, .slice Am nm cm, .bool pm', .slice Am' nm' cm'] 37)) := (Ext.refl wm).alloc _); (refine step_pushX rfl (.tmp 84) (.tmp 98) 28 rfl U6.heap.size 37 j0 _ 4 64 Tryd.underlying28 ji jz0 jz1 jz2 rfl zR _ kk osq rfl ((oq.ext hmL).ext hza) wm.heap.size [.bool pm, .slice Am nm cm, .bool pm', .slice Am' nm' cm'] 1 rfl rfl (new4 wm 37 _ _ _ _) one4 nou4 (by omega) (by decide) (Nat.le_trans hX.size (Nat.le_trans hmL.size hza.size)) ?_); intro v6 y6 o6 r6 s6; (have tb6 := boxR ((hT.box.ext hmL).ext hza) ((oq.ext hmL).ext hza) r6 (by decide)); (have c6 := tb6.c0); (have z6 := tb6.frozen 0); (obtain ⟨A6, d6, rfl⟩ := o6.shape); (have hS6 : Fr (PD (Value.slice AO kk cO) db) wr y6 := ((Fr.of hmL).trans (Fr.of hza)).trans (r6.weak (fun b hb => .inl hb))); (have hS7 : Fr (PD (Value.slice AO kk cO) db) wr (y6.setCell ⟨db, 0, none⟩ (.slice A6 (kk + 1) d6)) := hS6.set (p := ⟨db, 0, none⟩) (.inr rfl) (fun z => by rw [c6]; intro e; cases e) _))
                      | skip
                    try (go_wp2_with fail)
                    refine hK.out _ _ ?_ (fun hHeld => ?_)
                    · (try dsimp only); (repeat (first | (with_reducible assumption) | (with_reducible apply Fr.drew) | (with_reducible apply Fr.drewN) | (with_reducible apply Fr.alloc) | (with_reducible refine Fr.step ?_ (by assumption))))
                    clear hK K
                    try simp only [Act.put, List.setIfInBounds_toArray, List.set_cons_zero, List.set_cons_succ]
                    refine wpAnyH_take (i := 17) (oi := { dst := some 100, op := Op.fieldAddr 31 (Operand.tmp 6) 0, type := 0, pos := "law.go:325", after := #[{ on := 0, ground := Ground.phase }, { on := 1, ground := Ground.phase }, { on := 2, ground := Ground.phase }, { on := 3, ground := Ground.phase }, { on := 4, ground := Ground.phase }, { on := 5, ground := Ground.phase }, { on := 6, ground := Ground.phase }, { on := 7, ground := Ground.phase }, { on := 8, ground := Ground.phase }, { on := 9, ground := Ground.phase }, { on := 10, ground := Ground.phase }, { on := 11, ground := Ground.phase }, { on := 12, ground := Ground.phase }, { on := 13, ground := Ground.phase }, { on := 14, ground := Ground.phase }, { on := 15, ground := Ground.phase }, { on := 16, ground := Ground.phase }], guard := none }) (v := ?_) rfl (by kernel_rfl) (by kernel_rfl) (by kernel_rfl) (fun _ _ _ h => h) (Or.inl ⟨by rfl, ?_⟩) (by assumption) ?_
                    rotate_left
                    · intro w hSw; (try dsimp only at hSw); go_simp; try (with_reducible rfl)
                    try simp only [Act.put, List.setIfInBounds_toArray, List.set_cons_zero, List.set_cons_succ]
                    refine wpAnyH_ready (rs := [18]) (by kernel_rfl) (by simp) ?_
                    refine AllReadyH.cons (o := { dst := none, op := Op.store 28 (Operand.tmp 100) (Operand.tmp 99), type := 0, pos := "law.go:325", after := #[{ on := 17, ground := Ground.data }, { on := 16, ground := Ground.data }, { on := 16, ground := Ground.chain }, { on := 0, ground := Ground.phase }, { on := 1, ground := Ground.phase }, { on := 2, ground := Ground.phase }, { on := 3, ground := Ground.phase }, { on := 4, ground := Ground.phase }, { on := 5, ground := Ground.phase }, { on := 6, ground := Ground.phase }, { on := 7, ground := Ground.phase }, { on := 8, ground := Ground.phase }, { on := 9, ground := Ground.phase }, { on := 10, ground := Ground.phase }, { on := 11, ground := Ground.phase }, { on := 12, ground := Ground.phase }, { on := 13, ground := Ground.phase }, { on := 14, ground := Ground.phase }, { on := 15, ground := Ground.phase }, { on := 16, ground := Ground.phase }], guard := none }) rfl (fun K hK => ?_) ?_
                    · go_simp
                      try (go_wp2_with fail)
                      refine hK.out _ _ ?_ (fun hHeld => ?_)
                      · (try dsimp only); (repeat (first | (with_reducible assumption) | (with_reducible apply Fr.drew) | (with_reducible apply Fr.drewN) | (with_reducible apply Fr.alloc) | (with_reducible refine Fr.step ?_ (by assumption))))
                      clear hK K
                      try simp only [Act.put, List.setIfInBounds_toArray, List.set_cons_zero, List.set_cons_succ]
                      refine wpAnyH_done (by kernel_rfl) ?_ _
                      have hT1 := (hT.ext hmL).ext hza
                      have a6 := At.push (f := D.obj) oq.1 (fun j hj => (aq j hj).fr (Fr.of (P := fun _ => False) (hmL.trans hza))) r6 (by rw [HOB.out]; exact (hbm.ext hza).1)
                      obtain ⟨hT2, hF2⟩ := hT1.pushO o6 a6 r6 s6
                      have hX2 := hF2.ext ((hX.trans hmL).trans hza) (fun g hg => by
                        rcases hg with hg | rfl
                        · exact (oq.lt hg).1
                        · exact hdbs)
                      have hC2 := ((hC.ext hmL).ext hza).fr hF2 (fun g cs hcs hg => by
                        rcases hg with hg | rfl
                        · obtain ⟨-, -, cur, hcur⟩ := ((oq.ext hmL).ext hza).lt hg
                          exact row_ne hcs hcur (by decide) rfl
                        · exact row_ne hcs hT1.box (by decide) rfl)
                      go_wp2_with fail
                      go_roundw
                      case rel => exact ⟨kk + 1, _, by omega, by go_num, hT2, hC2, hX2⟩
                      case measure => simp [intOf]; omega
                    exact AllReadyH.nil
                  exact AllReadyH.nil
                exact AllReadyH.nil
              exact AllReadyH.nil
            refine AllReadyH.cons (o := { dst := some 97, op := Op.call { callee := Callee.value (Operand.func 33), args := #[Operand.tmp 90, Operand.tmp 96], argTypes := #[37, 37] }, type := 37, pos := "law.go:325", after := #[{ on := 7, ground := Ground.data }, { on := 13, ground := Ground.data }, { on := 13, ground := Ground.chain }], guard := none }) rfl (fun K hK => ?_) ?_
            · go_simp
              first
                | (go_at_call 21; (with_reducible refine (RatOf_b zq _ (by omega) (by omega)).mono ?_); rintro e wl ⟨vl, rfl, hbl, hxl⟩; (obtain ⟨pl, Al, nl, cl, pl', Al', nl', cl', rfl⟩ := hbl.1.shape); (have hlL : Ext wr wl := Ext.trans (by repeat (first | (with_reducible exact Ext.refl _) | (with_reducible apply Ext.drew) | (with_reducible apply Ext.drewN))) hxl); (have d0 := hlL.cell d0w))
                | (go_at_call 33; (with_reducible refine (RatMul_b _ _ _ _ _ _ _ (RatB.ext hrb (by repeat (first | (with_reducible exact Ext.refl _) | (with_reducible apply Ext.drew) | (with_reducible apply Ext.drewN) | (with_reducible refine Ext.trans ?_ (by assumption))))) (RatB.ext hbl (by repeat (first | (with_reducible exact Ext.refl _) | (with_reducible apply Ext.drew) | (with_reducible apply Ext.drewN) | (with_reducible refine Ext.trans ?_ (by assumption))))) (by omega)).mono ?_); rintro e wm ⟨vm, rfl, hbm, hxm⟩; (obtain ⟨pm, Am, nm, cm, pm', Am', nm', cm', rfl⟩ := hbm.1.shape); (have hmL : Ext wr wm := Ext.trans hlL (Ext.trans (by repeat (first | (with_reducible exact Ext.refl _) | (with_reducible apply Ext.drew) | (with_reducible apply Ext.drewN))) hxm)); (have d0 := hmL.cell d0w))
                | ((have hza : Ext wm (wm.alloc (.cells #[.bool pm, .slice Am nm cm, .bool pm', .slice Am' nm' cm'] 37)) := (Ext.refl wm).alloc _); (refine step_pushX rfl (.tmp 84) (.tmp 98) 28 rfl U6.heap.size 37 j0 _ 4 64 Tryd.underlying28 ji jz0 jz1 jz2 rfl zR _ kk osq rfl ((oq.ext hmL).ext hza) wm.heap.size [.bool pm, .slice Am nm cm, .bool pm', .slice Am' nm' cm'] 1 rfl rfl (new4 wm 37 _ _ _ _) one4 nou4 (by omega) (by decide) (Nat.le_trans hX.size (Nat.le_trans hmL.size hza.size)) ?_); intro v6 y6 o6 r6 s6; (have tb6 := boxR ((hT.box.ext hmL).ext hza) ((oq.ext hmL).ext hza) r6 (by decide)); (have c6 := tb6.c0); (have z6 := tb6.frozen 0); (obtain ⟨A6, d6, rfl⟩ := o6.shape); (have hS6 : Fr (PD (Value.slice AO kk cO) db) wr y6 := ((Fr.of hmL).trans (Fr.of hza)).trans (r6.weak (fun b hb => .inl hb))); (have hS7 : Fr (PD (Value.slice AO kk cO) db) wr (y6.setCell ⟨db, 0, none⟩ (.slice A6 (kk + 1) d6)) := hS6.set (p := ⟨db, 0, none⟩) (.inr rfl) (fun z => by rw [c6]; intro e; cases e) _))
                | skip
              try (go_wp2_with fail)
              refine hK.out _ _ ?_ (fun hHeld => ?_)
              · (try dsimp only); (repeat (first | (with_reducible assumption) | (with_reducible apply Fr.drew) | (with_reducible apply Fr.drewN) | (with_reducible apply Fr.alloc) | (with_reducible refine Fr.step ?_ (by assumption))))
              clear hK K
              try simp only [Act.put, List.setIfInBounds_toArray, List.set_cons_zero, List.set_cons_succ]
              refine wpAnyH_ready (rs := [1, 15]) (by kernel_rfl) (by simp) ?_
              refine AllReadyH.cons (o := { dst := some 84, op := Op.load 28 (Operand.tmp 83), type := 28, pos := "law.go:325", after := #[{ on := 0, ground := Ground.data }], guard := none }) rfl (fun K hK => ?_) ?_
              · go_simp
                try (go_wp2_with fail)
                refine hK.out _ _ ?_ (fun hHeld => ?_)
                · (try dsimp only); (repeat (first | (with_reducible assumption) | (with_reducible apply Fr.drew) | (with_reducible apply Fr.drewN) | (with_reducible apply Fr.alloc) | (with_reducible refine Fr.step ?_ (by assumption))))
                clear hK K
                try simp only [Act.put, List.setIfInBounds_toArray, List.set_cons_zero, List.set_cons_succ]
                refine wpAnyH_ready (rs := [15]) (by kernel_rfl) (by simp) ?_
                refine AllReadyH.cons (o := { dst := some 98, op := Op.buildSlice 28 1 #[(0, Operand.tmp 97)], type := 28, pos := "law.go:325", after := #[{ on := 14, ground := Ground.data }], guard := none }) rfl (fun K hK => ?_) ?_
                · go_simp
                  try (go_wp2_with fail)
                  refine hK.out _ _ ?_ (fun hHeld => ?_)
                  · (try dsimp only); (repeat (first | (with_reducible assumption) | (with_reducible apply Fr.drew) | (with_reducible apply Fr.drewN) | (with_reducible apply Fr.alloc) | (with_reducible refine Fr.step ?_ (by assumption))))
                  clear hK K
                  try simp only [Act.put, List.setIfInBounds_toArray, List.set_cons_zero, List.set_cons_succ]
                  refine wpAnyH_ready (rs := [16]) (by kernel_rfl) (by simp) ?_
                  refine AllReadyH.cons (o := { dst := some 99, op := Op.call { callee := Callee.builtin Builtin.append, args := #[Operand.tmp 84, Operand.tmp 98], argTypes := #[28, 28] }, type := 28, pos := "law.go:325", after := #[{ on := 1, ground := Ground.data }, { on := 15, ground := Ground.data }, { on := 14, ground := Ground.chain }], guard := none }) rfl (fun K hK => ?_) ?_
                  · skip
                    first
                      | (go_at_call 21; (with_reducible refine (RatOf_b zq _ (by omega) (by omega)).mono ?_); rintro e wl ⟨vl, rfl, hbl, hxl⟩; (obtain ⟨pl, Al, nl, cl, pl', Al', nl', cl', rfl⟩ := hbl.1.shape); (have hlL : Ext wr wl := Ext.trans (by repeat (first | (with_reducible exact Ext.refl _) | (with_reducible apply Ext.drew) | (with_reducible apply Ext.drewN))) hxl); (have d0 := hlL.cell d0w))
                      | (go_at_call 33; (with_reducible refine (RatMul_b _ _ _ _ _ _ _ (RatB.ext hrb (by repeat (first | (with_reducible exact Ext.refl _) | (with_reducible apply Ext.drew) | (with_reducible apply Ext.drewN) | (with_reducible refine Ext.trans ?_ (by assumption))))) (RatB.ext hbl (by repeat (first | (with_reducible exact Ext.refl _) | (with_reducible apply Ext.drew) | (with_reducible apply Ext.drewN) | (with_reducible refine Ext.trans ?_ (by assumption))))) (by omega)).mono ?_); rintro e wm ⟨vm, rfl, hbm, hxm⟩; (obtain ⟨pm, Am, nm, cm, pm', Am', nm', cm', rfl⟩ := hbm.1.shape); (have hmL : Ext wr wm := Ext.trans hlL (Ext.trans (by repeat (first | (with_reducible exact Ext.refl _) | (with_reducible apply Ext.drew) | (with_reducible apply Ext.drewN))) hxm)); (have d0 := hmL.cell d0w))
                      | ((have hza : Ext wm (wm.alloc (.cells #[.bool pm, .slice Am nm cm, .bool pm', .slice Am' nm' cm'] 37)) := (Ext.refl wm).alloc _); (refine step_pushX rfl (.tmp 84) (.tmp 98) 28 rfl U6.heap.size 37 j0 _ 4 64 Tryd.underlying28 ji jz0 jz1 jz2 rfl zR _ kk osq rfl ((oq.ext hmL).ext hza) wm.heap.size [.bool pm, .slice Am nm cm, .bool pm', .slice Am' nm' cm'] 1 rfl rfl (new4 wm 37 _ _ _ _) one4 nou4 (by omega) (by decide) (Nat.le_trans hX.size (Nat.le_trans hmL.size hza.size)) ?_); intro v6 y6 o6 r6 s6; (have tb6 := boxR ((hT.box.ext hmL).ext hza) ((oq.ext hmL).ext hza) r6 (by decide)); (have c6 := tb6.c0); (have z6 := tb6.frozen 0); (obtain ⟨A6, d6, rfl⟩ := o6.shape); (have hS6 : Fr (PD (Value.slice AO kk cO) db) wr y6 := ((Fr.of hmL).trans (Fr.of hza)).trans (r6.weak (fun b hb => .inl hb))); (have hS7 : Fr (PD (Value.slice AO kk cO) db) wr (y6.setCell ⟨db, 0, none⟩ (.slice A6 (kk + 1) d6)) := hS6.set (p := ⟨db, 0, none⟩) (.inr rfl) (fun z => by rw [c6]; intro e; cases e) _))
                      | skip
                    try (go_wp2_with fail)
                    refine hK.out _ _ ?_ (fun hHeld => ?_)
                    · (try dsimp only); (repeat (first | (with_reducible assumption) | (with_reducible apply Fr.drew) | (with_reducible apply Fr.drewN) | (with_reducible apply Fr.alloc) | (with_reducible refine Fr.step ?_ (by assumption))))
                    clear hK K
                    try simp only [Act.put, List.setIfInBounds_toArray, List.set_cons_zero, List.set_cons_succ]
                    refine wpAnyH_take (i := 17) (oi := { dst := some 100, op := Op.fieldAddr 31 (Operand.tmp 6) 0, type := 0, pos := "law.go:325", after := #[{ on := 0, ground := Ground.phase }, { on := 1, ground := Ground.phase }, { on := 2, ground := Ground.phase }, { on := 3, ground := Ground.phase }, { on := 4, ground := Ground.phase }, { on := 5, ground := Ground.phase }, { on := 6, ground := Ground.phase }, { on := 7, ground := Ground.phase }, { on := 8, ground := Ground.phase }, { on := 9, ground := Ground.phase }, { on := 10, ground := Ground.phase }, { on := 11, ground := Ground.phase }, { on := 12, ground := Ground.phase }, { on := 13, ground := Ground.phase }, { on := 14, ground := Ground.phase }, { on := 15, ground := Ground.phase }, { on := 16, ground := Ground.phase }], guard := none }) (v := ?_) rfl (by kernel_rfl) (by kernel_rfl) (by kernel_rfl) (fun _ _ _ h => h) (Or.inl ⟨by rfl, ?_⟩) (by assumption) ?_
                    rotate_left
                    · intro w hSw; (try dsimp only at hSw); go_simp; try (with_reducible rfl)
                    try simp only [Act.put, List.setIfInBounds_toArray, List.set_cons_zero, List.set_cons_succ]
                    refine wpAnyH_ready (rs := [18]) (by kernel_rfl) (by simp) ?_
                    refine AllReadyH.cons (o := { dst := none, op := Op.store 28 (Operand.tmp 100) (Operand.tmp 99), type := 0, pos := "law.go:325", after := #[{ on := 17, ground := Ground.data }, { on := 16, ground := Ground.data }, { on := 16, ground := Ground.chain }, { on := 0, ground := Ground.phase }, { on := 1, ground := Ground.phase }, { on := 2, ground := Ground.phase }, { on := 3, ground := Ground.phase }, { on := 4, ground := Ground.phase }, { on := 5, ground := Ground.phase }, { on := 6, ground := Ground.phase }, { on := 7, ground := Ground.phase }, { on := 8, ground := Ground.phase }, { on := 9, ground := Ground.phase }, { on := 10, ground := Ground.phase }, { on := 11, ground := Ground.phase }, { on := 12, ground := Ground.phase }, { on := 13, ground := Ground.phase }, { on := 14, ground := Ground.phase }, { on := 15, ground := Ground.phase }, { on := 16, ground := Ground.phase }], guard := none }) rfl (fun K hK => ?_) ?_
                    · go_simp
                      try (go_wp2_with fail)
                      refine hK.out _ _ ?_ (fun hHeld => ?_)
                      · (try dsimp only); (repeat (first | (with_reducible assumption) | (with_reducible apply Fr.drew) | (with_reducible apply Fr.drewN) | (with_reducible apply Fr.alloc) | (with_reducible refine Fr.step ?_ (by assumption))))
                      clear hK K
                      try simp only [Act.put, List.setIfInBounds_toArray, List.set_cons_zero, List.set_cons_succ]
                      refine wpAnyH_done (by kernel_rfl) ?_ _
                      have hT1 := (hT.ext hmL).ext hza
                      have a6 := At.push (f := D.obj) oq.1 (fun j hj => (aq j hj).fr (Fr.of (P := fun _ => False) (hmL.trans hza))) r6 (by rw [HOB.out]; exact (hbm.ext hza).1)
                      obtain ⟨hT2, hF2⟩ := hT1.pushO o6 a6 r6 s6
                      have hX2 := hF2.ext ((hX.trans hmL).trans hza) (fun g hg => by
                        rcases hg with hg | rfl
                        · exact (oq.lt hg).1
                        · exact hdbs)
                      have hC2 := ((hC.ext hmL).ext hza).fr hF2 (fun g cs hcs hg => by
                        rcases hg with hg | rfl
                        · obtain ⟨-, -, cur, hcur⟩ := ((oq.ext hmL).ext hza).lt hg
                          exact row_ne hcs hcur (by decide) rfl
                        · exact row_ne hcs hT1.box (by decide) rfl)
                      go_wp2_with fail
                      go_roundw
                      case rel => exact ⟨kk + 1, _, by omega, by go_num, hT2, hC2, hX2⟩
                      case measure => simp [intOf]; omega
                    exact AllReadyH.nil
                  exact AllReadyH.nil
                exact AllReadyH.nil
              refine AllReadyH.cons (o := { dst := some 98, op := Op.buildSlice 28 1 #[(0, Operand.tmp 97)], type := 28, pos := "law.go:325", after := #[{ on := 14, ground := Ground.data }], guard := none }) rfl (fun K hK => ?_) ?_
              · go_simp
                try (go_wp2_with fail)
                refine hK.out _ _ ?_ (fun hHeld => ?_)
                · (try dsimp only); (repeat (first | (with_reducible assumption) | (with_reducible apply Fr.drew) | (with_reducible apply Fr.drewN) | (with_reducible apply Fr.alloc) | (with_reducible refine Fr.step ?_ (by assumption))))
                clear hK K
                try simp only [Act.put, List.setIfInBounds_toArray, List.set_cons_zero, List.set_cons_succ]
                refine wpAnyH_ready (rs := [1]) (by kernel_rfl) (by simp) ?_
                refine AllReadyH.cons (o := { dst := some 84, op := Op.load 28 (Operand.tmp 83), type := 28, pos := "law.go:325", after := #[{ on := 0, ground := Ground.data }], guard := none }) rfl (fun K hK => ?_) ?_
                · go_simp
                  try (go_wp2_with fail)
                  refine hK.out _ _ ?_ (fun hHeld => ?_)
                  · (try dsimp only); (repeat (first | (with_reducible assumption) | (with_reducible apply Fr.drew) | (with_reducible apply Fr.drewN) | (with_reducible apply Fr.alloc) | (with_reducible refine Fr.step ?_ (by assumption))))
                  clear hK K
                  try simp only [Act.put, List.setIfInBounds_toArray, List.set_cons_zero, List.set_cons_succ]
                  refine wpAnyH_ready (rs := [16]) (by kernel_rfl) (by simp) ?_
                  refine AllReadyH.cons (o := { dst := some 99, op := Op.call { callee := Callee.builtin Builtin.append, args := #[Operand.tmp 84, Operand.tmp 98], argTypes := #[28, 28] }, type := 28, pos := "law.go:325", after := #[{ on := 1, ground := Ground.data }, { on := 15, ground := Ground.data }, { on := 14, ground := Ground.chain }], guard := none }) rfl (fun K hK => ?_) ?_
                  · skip
                    first
                      | (go_at_call 21; (with_reducible refine (RatOf_b zq _ (by omega) (by omega)).mono ?_); rintro e wl ⟨vl, rfl, hbl, hxl⟩; (obtain ⟨pl, Al, nl, cl, pl', Al', nl', cl', rfl⟩ := hbl.1.shape); (have hlL : Ext wr wl := Ext.trans (by repeat (first | (with_reducible exact Ext.refl _) | (with_reducible apply Ext.drew) | (with_reducible apply Ext.drewN))) hxl); (have d0 := hlL.cell d0w))
                      | (go_at_call 33; (with_reducible refine (RatMul_b _ _ _ _ _ _ _ (RatB.ext hrb (by repeat (first | (with_reducible exact Ext.refl _) | (with_reducible apply Ext.drew) | (with_reducible apply Ext.drewN) | (with_reducible refine Ext.trans ?_ (by assumption))))) (RatB.ext hbl (by repeat (first | (with_reducible exact Ext.refl _) | (with_reducible apply Ext.drew) | (with_reducible apply Ext.drewN) | (with_reducible refine Ext.trans ?_ (by assumption))))) (by omega)).mono ?_); rintro e wm ⟨vm, rfl, hbm, hxm⟩; (obtain ⟨pm, Am, nm, cm, pm', Am', nm', cm', rfl⟩ := hbm.1.shape); (have hmL : Ext wr wm := Ext.trans hlL (Ext.trans (by repeat (first | (with_reducible exact Ext.refl _) | (with_reducible apply Ext.drew) | (with_reducible apply Ext.drewN))) hxm)); (have d0 := hmL.cell d0w))
                      | ((have hza : Ext wm (wm.alloc (.cells #[.bool pm, .slice Am nm cm, .bool pm', .slice Am' nm' cm'] 37)) := (Ext.refl wm).alloc _); (refine step_pushX rfl (.tmp 84) (.tmp 98) 28 rfl U6.heap.size 37 j0 _ 4 64 Tryd.underlying28 ji jz0 jz1 jz2 rfl zR _ kk osq rfl ((oq.ext hmL).ext hza) wm.heap.size [.bool pm, .slice Am nm cm, .bool pm', .slice Am' nm' cm'] 1 rfl rfl (new4 wm 37 _ _ _ _) one4 nou4 (by omega) (by decide) (Nat.le_trans hX.size (Nat.le_trans hmL.size hza.size)) ?_); intro v6 y6 o6 r6 s6; (have tb6 := boxR ((hT.box.ext hmL).ext hza) ((oq.ext hmL).ext hza) r6 (by decide)); (have c6 := tb6.c0); (have z6 := tb6.frozen 0); (obtain ⟨A6, d6, rfl⟩ := o6.shape); (have hS6 : Fr (PD (Value.slice AO kk cO) db) wr y6 := ((Fr.of hmL).trans (Fr.of hza)).trans (r6.weak (fun b hb => .inl hb))); (have hS7 : Fr (PD (Value.slice AO kk cO) db) wr (y6.setCell ⟨db, 0, none⟩ (.slice A6 (kk + 1) d6)) := hS6.set (p := ⟨db, 0, none⟩) (.inr rfl) (fun z => by rw [c6]; intro e; cases e) _))
                      | skip
                    try (go_wp2_with fail)
                    refine hK.out _ _ ?_ (fun hHeld => ?_)
                    · (try dsimp only); (repeat (first | (with_reducible assumption) | (with_reducible apply Fr.drew) | (with_reducible apply Fr.drewN) | (with_reducible apply Fr.alloc) | (with_reducible refine Fr.step ?_ (by assumption))))
                    clear hK K
                    try simp only [Act.put, List.setIfInBounds_toArray, List.set_cons_zero, List.set_cons_succ]
                    refine wpAnyH_take (i := 17) (oi := { dst := some 100, op := Op.fieldAddr 31 (Operand.tmp 6) 0, type := 0, pos := "law.go:325", after := #[{ on := 0, ground := Ground.phase }, { on := 1, ground := Ground.phase }, { on := 2, ground := Ground.phase }, { on := 3, ground := Ground.phase }, { on := 4, ground := Ground.phase }, { on := 5, ground := Ground.phase }, { on := 6, ground := Ground.phase }, { on := 7, ground := Ground.phase }, { on := 8, ground := Ground.phase }, { on := 9, ground := Ground.phase }, { on := 10, ground := Ground.phase }, { on := 11, ground := Ground.phase }, { on := 12, ground := Ground.phase }, { on := 13, ground := Ground.phase }, { on := 14, ground := Ground.phase }, { on := 15, ground := Ground.phase }, { on := 16, ground := Ground.phase }], guard := none }) (v := ?_) rfl (by kernel_rfl) (by kernel_rfl) (by kernel_rfl) (fun _ _ _ h => h) (Or.inl ⟨by rfl, ?_⟩) (by assumption) ?_
                    rotate_left
                    · intro w hSw; (try dsimp only at hSw); go_simp; try (with_reducible rfl)
                    try simp only [Act.put, List.setIfInBounds_toArray, List.set_cons_zero, List.set_cons_succ]
                    refine wpAnyH_ready (rs := [18]) (by kernel_rfl) (by simp) ?_
                    refine AllReadyH.cons (o := { dst := none, op := Op.store 28 (Operand.tmp 100) (Operand.tmp 99), type := 0, pos := "law.go:325", after := #[{ on := 17, ground := Ground.data }, { on := 16, ground := Ground.data }, { on := 16, ground := Ground.chain }, { on := 0, ground := Ground.phase }, { on := 1, ground := Ground.phase }, { on := 2, ground := Ground.phase }, { on := 3, ground := Ground.phase }, { on := 4, ground := Ground.phase }, { on := 5, ground := Ground.phase }, { on := 6, ground := Ground.phase }, { on := 7, ground := Ground.phase }, { on := 8, ground := Ground.phase }, { on := 9, ground := Ground.phase }, { on := 10, ground := Ground.phase }, { on := 11, ground := Ground.phase }, { on := 12, ground := Ground.phase }, { on := 13, ground := Ground.phase }, { on := 14, ground := Ground.phase }, { on := 15, ground := Ground.phase }, { on := 16, ground := Ground.phase }], guard := none }) rfl (fun K hK => ?_) ?_
                    · go_simp
                      try (go_wp2_with fail)
                      refine hK.out _ _ ?_ (fun hHeld => ?_)
                      · (try dsimp only); (repeat (first | (with_reducible assumption) | (with_reducible apply Fr.drew) | (with_reducible apply Fr.drewN) | (with_reducible apply Fr.alloc) | (with_reducible refine Fr.step ?_ (by assumption))))
                      clear hK K
                      try simp only [Act.put, List.setIfInBounds_toArray, List.set_cons_zero, List.set_cons_succ]
                      refine wpAnyH_done (by kernel_rfl) ?_ _
                      have hT1 := (hT.ext hmL).ext hza
                      have a6 := At.push (f := D.obj) oq.1 (fun j hj => (aq j hj).fr (Fr.of (P := fun _ => False) (hmL.trans hza))) r6 (by rw [HOB.out]; exact (hbm.ext hza).1)
                      obtain ⟨hT2, hF2⟩ := hT1.pushO o6 a6 r6 s6
                      have hX2 := hF2.ext ((hX.trans hmL).trans hza) (fun g hg => by
                        rcases hg with hg | rfl
                        · exact (oq.lt hg).1
                        · exact hdbs)
                      have hC2 := ((hC.ext hmL).ext hza).fr hF2 (fun g cs hcs hg => by
                        rcases hg with hg | rfl
                        · obtain ⟨-, -, cur, hcur⟩ := ((oq.ext hmL).ext hza).lt hg
                          exact row_ne hcs hcur (by decide) rfl
                        · exact row_ne hcs hT1.box (by decide) rfl)
                      go_wp2_with fail
                      go_roundw
                      case rel => exact ⟨kk + 1, _, by omega, by go_num, hT2, hC2, hX2⟩
                      case measure => simp [intOf]; omega
                    exact AllReadyH.nil
                  exact AllReadyH.nil
                exact AllReadyH.nil
              exact AllReadyH.nil
            exact AllReadyH.nil
          exact AllReadyH.nil
        · obtain rfl : kk = nL := by omega
          obtain ⟨irR, g1, g2, g3, g4⟩ := info_parts infoRow
          have p0 := (PB6.ext hX).c0
          clear hlt hk
          go_wp2_with fail
          go_loopw [105] (fun jv wr => ∃ (j : Nat) (vR : Value) (rA : Nat → Option Addr) (rc : Nat → Nat), j ≤ p.n ∧ jv = .int .i64 j ∧ Two wr U6.heap.size db (.slice AO kk cO) vR kk j D.obj D rA rc ∧ Cols wr U6.heap.size (.slice A7 kk c7) (.slice A8 kk c8) kk L ∧ Ext U6 wr) (fun jv _ => p.n - (intOf jv).toNat)
          case atStart => exact ⟨0, _, _, _, by omega, rfl, hT, hC, hX⟩
          case round =>
            clear hT hC hX oq aq p0
            obtain ⟨j, vR, rA, rc, hj, rfl, hT, hC, hX⟩ := hrel
            by_cases hlt : j < p.n
            · obtain ⟨bo, hbo, hRo, -⟩ := (hM6.ext hX).obj.2.2 (by omega)
              obtain rfl : Aox = some ⟨bo, 0, none⟩ := HAO.out.trans hbo
              obtain ⟨x, Bq, d, e, y, Bq', d', e', o0, o1, o2, o3, hro⟩ := hRo.at hlt
              have p0 := (PB6.ext hX).c0
              have i1 : (0 : Int) ≤ (j : Int) := by omega
              have i2 : (j : Int) < (p.n : Int) := by omega
              have hRB := Box.new wr 48 #[.slice none 0 0, .int .u8 3, .bool x, .slice Bq d e, .bool y, .slice Bq' d' e']
              have hXr : Ext wr (wr.alloc (.cells #[.slice none 0 0, .int .u8 3, .bool x, .slice Bq d e, .bool y, .slice Bq' d' e'] 48)) := (Ext.refl wr).alloc _
              obtain ⟨w24, hw24⟩ : ∃ q : World, q = wr := ⟨wr, rfl⟩
              subst hw24
              go_upto_region 24 with fail
              generalize (w24.alloc (.cells #[.slice none 0 0, .int .u8 3, .bool x, .slice Bq d e, .bool y, .slice Bq' d' e'] 48)) = V at *
              obtain ⟨rb, hrb⟩ : ∃ q, q = w24.heap.size := ⟨_, rfl⟩
              have hrbs : w24.heap.size ≤ rb := by omega
              rw [← hrb] at hRB ⊢
              obtain ⟨hl0, hr0, hri0, hc0⟩ := HDR.out j hlt
              have HL0 := Lib.hid hl0
              have HR0 := Lib.hid hr0
              have HRI := Lib.hid hri0
              have HC0 := Lib.hid hc0
              clear hl0 hr0 hri0 hc0 hrb o0 o1 o2 o3 p0
              go_wp2_with fail
              go_loopw [116] (fun kv wr => ∃ (k2 : Nat) (vC : Value), k2 ≤ kk ∧ kv = .int .i64 k2 ∧ Box wr rb 48 #[vC, .int .u8 3, .bool x, .slice Bq d e, .bool y, .slice Bq' d' e'] ∧ OwnQ wr w24.heap.size vC k2 (D.coef j) ∧ Ext w24 wr) (fun kv _ => kk - (intOf kv).toNat)
              case atStart => exact ⟨0, _, by omega, rfl, hRB, OwnQ.nil _ _ _, hXr⟩
              case round =>
                clear hRB hXr
                obtain ⟨k2, vC, hk2, rfl, hB, hQ, hXw⟩ := hrel
                obtain ⟨osC, oq, aq⟩ := id hQ
                obtain ⟨AC, cC, rfl⟩ := oq.shape
                by_cases hlt2 : k2 < kk
                · obtain ⟨c, hc⟩ : ∃ c, L[k2]? = some c := ⟨_, List.getElem?_eq_getElem (by rw [hC.len]; exact hlt2)⟩
                  obtain ⟨g7, g8, e7, e8, s7, s8⟩ := hC.at hc
                  subst e7 e8
                  obtain ⟨hcm, hcz⟩ := HCM.out k2 c hc
                  have hOB := HC0.out k2 c hc
                  obtain ⟨zq, ii⟩ := c
                  have HOB : Hid (D.coef j k2 = p.coef ii j * ((zq : Int) : Rat)) := Lib.hid hOB
                  have hcm : ii < p.m := hcm
                  have hz1 : zq = 1 ∨ zq = -1 := hcz
                  have s7 : w24.cell? ⟨g7, k2, none⟩ = some (.int .i64 zq) := s7
                  have s8 : w24.cell? ⟨g8, k2, none⟩ = some (.int .i64 (ii : Int)) := s8
                  have hlen := HLN.out ii hcm
                  obtain ⟨y0, -, -, -⟩ := (hM6.ext hX).rows.row ii hcm
                  obtain ⟨bq, hbq, hRq, -⟩ := ((hM6.ext hX).rows.coef ii hcm).2.2 (by omega)
                  rw [hbq] at y0
                  obtain ⟨px, Pq, pd, pe, py, Pq', pd', pe', t0, t1, t2, t3, hrq⟩ := hRq.at (show j < p.len ii by omega)
                  have hrb0 : RatB wr (.agg #[.bool px, .slice Pq pd pe, .bool py, .slice Pq' pd' pe']) (p.coef ii j) 2 := ⟨hrq.ext hXw, HCF.out.1 ii hcm j hlt⟩
                  have hrb := hrb0
                  obtain rfl := HAR.out
                  have y0 : w24.cell? ⟨a.br, ii * 6, none⟩ = some (.slice (some ⟨bq, 0, none⟩) (p.len ii) (a.rc ii)) := y0
                  rw [hlen] at y0
                  have p1 := (PB6.ext hX).c1
                  have i3 : (0 : Int) ≤ (ii : Int) := by omega
                  have i4 : (ii : Int) < (p.m : Int) := by omega
                  have i5 : (0 : Int) ≤ (k2 : Int) := by omega
                  have i6 : (k2 : Int) < (kk : Int) := by omega
                  have d0w := hB.c0
                  have d0 := d0w
                  have z0 := hB.frozen 0
                  have hno : ∀ b, b < w24.heap.size → ¬ PD (Value.slice AC k2 cC) rb b := fun b hb hg => by
                    rcases hg with hg | hg
                    · have := (oq.lt hg).1; omega
                    · omega
                  have kp1 : ∀ w', Fr (PD (Value.slice AC k2 cC) rb) wr w' → w'.cell? ⟨qb, 1, none⟩ = some _ := fun w' h => h.cell (hno _ (World.block_lt_of_cell? w24 _ p1)) (hXw.cell p1)
                  have ky0 : ∀ w', Fr (PD (Value.slice AC k2 cC) rb) wr w' → w'.cell? ⟨a.br, ii * 6, none⟩ = some _ := fun w' h => h.cell (hno _ (World.block_lt_of_cell? w24 _ y0)) (hXw.cell y0)
                  have kt0 : ∀ w', Fr (PD (Value.slice AC k2 cC) rb) wr w' → w'.cell? ⟨bq, j * 4, none⟩ = some _ := fun w' h => h.cell (hno _ (World.block_lt_of_cell? w24 _ t0)) (hXw.cell t0)
                  have kt1 : ∀ w', Fr (PD (Value.slice AC k2 cC) rb) wr w' → w'.cell? ⟨bq, j * 4 + 1, none⟩ = some _ := fun w' h => h.cell (hno _ (World.block_lt_of_cell? w24 _ t1)) (hXw.cell t1)
                  have kt2 : ∀ w', Fr (PD (Value.slice AC k2 cC) rb) wr w' → w'.cell? ⟨bq, j * 4 + 2, none⟩ = some _ := fun w' h => h.cell (hno _ (World.block_lt_of_cell? w24 _ t2)) (hXw.cell t2)
                  have kt3 : ∀ w', Fr (PD (Value.slice AC k2 cC) rb) wr w' → w'.cell? ⟨bq, j * 4 + 3, none⟩ = some _ := fun w' h => h.cell (hno _ (World.block_lt_of_cell? w24 _ t3)) (hXw.cell t3)
                  have ks7 : ∀ w', Fr (PD (Value.slice AC k2 cC) rb) wr w' → w'.cell? ⟨g7, k2, none⟩ = some _ := fun w' h => h.cell (hno _ (World.block_lt_of_cell? w24 _ s7)) (hXw.cell s7)
                  have s8 := hXw.cell s8
                  have kfr := Fr.refl (PD (Value.slice AC k2 cC) rb) wr
                  clear hOB hc hcz hlen hbq hRq hrq t0 t1 t2 t3 y0 p1 s7 hno hrb0
                  go_upto_region 27 with fail
                  refine wp_region_held_drew (S := fun w' => Fr (PD (Value.slice AC k2 cC) rb) wr w') (by kernel_rfl) ?_ (fun hHeld => ?_)
                  · (try dsimp only); (repeat (first | (with_reducible assumption) | (with_reducible apply Fr.drew) | (with_reducible apply Fr.drewN) | (with_reducible apply Fr.alloc) | (with_reducible refine Fr.step ?_ (by assumption))))
                  refine wpAnyH_take (i := 0) (oi := { dst := some 121, op := Op.fieldAddr 48 (Operand.tmp 14) 0, type := 0, pos := "law.go:330", after := #[], guard := none }) (v := ?_) rfl (by kernel_rfl) (by kernel_rfl) (by kernel_rfl) (fun _ _ _ h => h) (Or.inl ⟨by rfl, ?_⟩) (by assumption) ?_
                  rotate_left
                  · intro w hSw; (try dsimp only at hSw); go_simp; try (with_reducible rfl)
                  try simp only [Act.put, List.setIfInBounds_toArray, List.set_cons_zero, List.set_cons_succ]
                  refine wpAnyH_take (i := 2) (oi := { dst := some 123, op := Op.fieldAddr 31 (Operand.tmp 3) 1, type := 0, pos := "law.go:330", after := #[], guard := none }) (v := ?_) rfl (by kernel_rfl) (by kernel_rfl) (by kernel_rfl) (fun _ _ _ h => h) (Or.inl ⟨by rfl, ?_⟩) (by assumption) ?_
                  rotate_left
                  · intro w hSw; (try dsimp only at hSw); go_simp; try (with_reducible rfl)
                  try simp only [Act.put, List.setIfInBounds_toArray, List.set_cons_zero, List.set_cons_succ]
                  refine wpAnyH_take (i := 3) (oi := { dst := some 124, op := Op.load 29 (Operand.tmp 123), type := 29, pos := "law.go:330", after := #[{ on := 2, ground := Ground.data }], guard := none }) (v := ?_) rfl (by kernel_rfl) (by kernel_rfl) (by kernel_rfl) (fun _ _ _ h => h) (Or.inl ⟨by rfl, ?_⟩) (by assumption) ?_
                  rotate_left
                  · intro w hSw; (try dsimp only at hSw); go_simp; try (with_reducible rfl)
                  try simp only [Act.put, List.setIfInBounds_toArray, List.set_cons_zero, List.set_cons_succ]
                  refine wpAnyH_take (i := 4) (oi := { dst := some 125, op := Op.move (Operand.tmp 16), type := 3, pos := "law.go:330", after := #[], guard := none }) (v := ?_) rfl (by kernel_rfl) (by kernel_rfl) (by kernel_rfl) (fun _ _ _ h => h) (Or.inl ⟨by rfl, ?_⟩) (by assumption) ?_
                  rotate_left
                  · intro w hSw; (try dsimp only at hSw); go_simp; try (with_reducible rfl)
                  try simp only [Act.put, List.setIfInBounds_toArray, List.set_cons_zero, List.set_cons_succ]
                  refine wpAnyH_take (i := 5) (oi := { dst := some 126, op := Op.indexAddr 29 (Operand.tmp 124) (Operand.tmp 125), type := 0, pos := "law.go:330", after := #[{ on := 3, ground := Ground.data }, { on := 4, ground := Ground.data }], guard := none }) (v := ?_) rfl (by kernel_rfl) (by kernel_rfl) (by kernel_rfl) (fun _ _ _ h => h) (Or.inl ⟨by rfl, ?_⟩) (by assumption) ?_
                  rotate_left
                  · intro w hSw; (try dsimp only at hSw); go_simp; try (with_reducible rfl)
                  try simp only [Act.put, List.setIfInBounds_toArray, List.set_cons_zero, List.set_cons_succ]
                  refine wpAnyH_take (i := 6) (oi := { dst := some 127, op := Op.fieldAddr 48 (Operand.tmp 126) 0, type := 0, pos := "law.go:330", after := #[{ on := 5, ground := Ground.data }], guard := none }) (v := ?_) rfl (by kernel_rfl) (by kernel_rfl) (by kernel_rfl) (fun _ _ _ h => h) (Or.inl ⟨by rfl, ?_⟩) (by assumption) ?_
                  rotate_left
                  · intro w hSw; (try dsimp only at hSw); go_simp; try (with_reducible rfl)
                  try simp only [Act.put, List.setIfInBounds_toArray, List.set_cons_zero, List.set_cons_succ]
                  refine wpAnyH_take (i := 7) (oi := { dst := some 128, op := Op.load 28 (Operand.tmp 127), type := 28, pos := "law.go:330", after := #[{ on := 6, ground := Ground.data }], guard := none }) (v := ?_) rfl (by kernel_rfl) (by kernel_rfl) (by kernel_rfl) (fun _ _ _ h => h) (Or.inl ⟨by rfl, ?_⟩) (by assumption) ?_
                  rotate_left
                  · intro w hSw; (try dsimp only at hSw); go_simp; try (with_reducible rfl)
                  try simp only [Act.put, List.setIfInBounds_toArray, List.set_cons_zero, List.set_cons_succ]
                  refine wpAnyH_take (i := 8) (oi := { dst := some 129, op := Op.move (Operand.tmp 13), type := 3, pos := "law.go:330", after := #[], guard := none }) (v := ?_) rfl (by kernel_rfl) (by kernel_rfl) (by kernel_rfl) (fun _ _ _ h => h) (Or.inl ⟨by rfl, ?_⟩) (by assumption) ?_
                  rotate_left
                  · intro w hSw; (try dsimp only at hSw); go_simp; try (with_reducible rfl)
                  try simp only [Act.put, List.setIfInBounds_toArray, List.set_cons_zero, List.set_cons_succ]
                  refine wpAnyH_take (i := 9) (oi := { dst := some 130, op := Op.indexAddr 28 (Operand.tmp 128) (Operand.tmp 129), type := 0, pos := "law.go:330", after := #[{ on := 7, ground := Ground.data }, { on := 8, ground := Ground.data }], guard := none }) (v := ?_) rfl (by kernel_rfl) (by kernel_rfl) (by kernel_rfl) (fun _ _ _ h => h) (Or.inl ⟨by rfl, ?_⟩) (by assumption) ?_
                  rotate_left
                  · intro w hSw; (try dsimp only at hSw); go_simp; try (with_reducible rfl)
                  try simp only [Act.put, List.setIfInBounds_toArray, List.set_cons_zero, List.set_cons_succ]
                  refine wpAnyH_take (i := 10) (oi := { dst := some 131, op := Op.load 37 (Operand.tmp 130), type := 37, pos := "law.go:330", after := #[{ on := 9, ground := Ground.data }], guard := none }) (v := ?_) rfl (by kernel_rfl) (by kernel_rfl) (by kernel_rfl) (fun _ _ _ h => h) (Or.inl ⟨by rfl, ?_⟩) (by assumption) ?_
                  rotate_left
                  · intro w hSw; (try dsimp only at hSw); go_simp; try (with_reducible rfl)
                  try simp only [Act.put, List.setIfInBounds_toArray, List.set_cons_zero, List.set_cons_succ]
                  refine wpAnyH_take (i := 11) (oi := { dst := some 132, op := Op.move (Operand.tmp 7), type := 74, pos := "law.go:330", after := #[], guard := none }) (v := ?_) rfl (by kernel_rfl) (by kernel_rfl) (by kernel_rfl) (fun _ _ _ h => h) (Or.inl ⟨by rfl, ?_⟩) (by assumption) ?_
                  rotate_left
                  · intro w hSw; (try dsimp only at hSw); go_simp; try (with_reducible rfl)
                  try simp only [Act.put, List.setIfInBounds_toArray, List.set_cons_zero, List.set_cons_succ]
                  refine wpAnyH_take (i := 12) (oi := { dst := some 133, op := Op.move (Operand.tmp 15), type := 3, pos := "law.go:330", after := #[], guard := none }) (v := ?_) rfl (by kernel_rfl) (by kernel_rfl) (by kernel_rfl) (fun _ _ _ h => h) (Or.inl ⟨by rfl, ?_⟩) (by assumption) ?_
                  rotate_left
                  · intro w hSw; (try dsimp only at hSw); go_simp; try (with_reducible rfl)
                  try simp only [Act.put, List.setIfInBounds_toArray, List.set_cons_zero, List.set_cons_succ]
                  refine wpAnyH_take (i := 13) (oi := { dst := some 134, op := Op.indexAddr 74 (Operand.tmp 132) (Operand.tmp 133), type := 0, pos := "law.go:330", after := #[{ on := 11, ground := Ground.data }, { on := 12, ground := Ground.data }], guard := none }) (v := ?_) rfl (by kernel_rfl) (by kernel_rfl) (by kernel_rfl) (fun _ _ _ h => h) (Or.inl ⟨by rfl, ?_⟩) (by assumption) ?_
                  rotate_left
                  · intro w hSw; (try dsimp only at hSw); go_simp; try (with_reducible rfl)
                  try simp only [Act.put, List.setIfInBounds_toArray, List.set_cons_zero, List.set_cons_succ]
                  refine wpAnyH_take (i := 14) (oi := { dst := some 135, op := Op.load 3 (Operand.tmp 134), type := 3, pos := "law.go:330", after := #[{ on := 13, ground := Ground.data }], guard := none }) (v := ?_) rfl (by kernel_rfl) (by kernel_rfl) (by kernel_rfl) (fun _ _ _ h => h) (Or.inl ⟨by rfl, ?_⟩) (by assumption) ?_
                  rotate_left
                  · intro w hSw; (try dsimp only at hSw); go_simp; try (with_reducible rfl)
                  try simp only [Act.put, List.setIfInBounds_toArray, List.set_cons_zero, List.set_cons_succ]
                  refine wpAnyH_ready (rs := [1, 15]) (by kernel_rfl) (by simp) ?_
                  refine AllReadyH.cons (o := { dst := some 122, op := Op.load 28 (Operand.tmp 121), type := 28, pos := "law.go:330", after := #[{ on := 0, ground := Ground.data }], guard := none }) rfl (fun K hK => ?_) ?_
                  · go_simp
                    try (go_wp2_with fail)
                    refine hK.out _ _ ?_ (fun hHeld => ?_)
                    · (try dsimp only); (repeat (first | (with_reducible assumption) | (with_reducible apply Fr.drew) | (with_reducible apply Fr.drewN) | (with_reducible apply Fr.alloc) | (with_reducible refine Fr.step ?_ (by assumption))))
                    clear hK K
                    try simp only [Act.put, List.setIfInBounds_toArray, List.set_cons_zero, List.set_cons_succ]
                    refine wpAnyH_ready (rs := [15]) (by kernel_rfl) (by simp) ?_
                    refine AllReadyH.cons (o := { dst := some 136, op := Op.call { callee := Callee.value (Operand.func 21), args := #[Operand.tmp 135], argTypes := #[3] }, type := 37, pos := "law.go:330", after := #[{ on := 14, ground := Ground.data }], guard := none }) rfl (fun K hK => ?_) ?_
                    · go_simp
                      first
                        | (go_at_call 21; (with_reducible refine (RatOf_b zq _ (by omega) (by omega)).mono ?_); rintro e wl ⟨vl, rfl, hbl, hxl⟩; (obtain ⟨pl, Al, nl, cl, pl', Al', nl', cl', rfl⟩ := hbl.1.shape); (have hlL : Ext wr wl := Ext.trans (by repeat (first | (with_reducible exact Ext.refl _) | (with_reducible apply Ext.drew) | (with_reducible apply Ext.drewN))) hxl); (have d0 := hlL.cell d0w))
                        | (go_at_call 33; (with_reducible refine (RatMul_b _ _ _ _ _ _ _ (RatB.ext hrb (by repeat (first | (with_reducible exact Ext.refl _) | (with_reducible apply Ext.drew) | (with_reducible apply Ext.drewN) | (with_reducible refine Ext.trans ?_ (by assumption))))) (RatB.ext hbl (by repeat (first | (with_reducible exact Ext.refl _) | (with_reducible apply Ext.drew) | (with_reducible apply Ext.drewN) | (with_reducible refine Ext.trans ?_ (by assumption))))) (by omega)).mono ?_); rintro e wm ⟨vm, rfl, hbm, hxm⟩; (obtain ⟨pm, Am, nm, cm, pm', Am', nm', cm', rfl⟩ := hbm.1.shape); (have hmL : Ext wr wm := Ext.trans hlL (Ext.trans (by repeat (first | (with_reducible exact Ext.refl _) | (with_reducible apply Ext.drew) | (with_reducible apply Ext.drewN))) hxm)); (have d0 := hmL.cell d0w))
                        | ((have hza : Ext wm (wm.alloc (.cells #[.bool pm, .slice Am nm cm, .bool pm', .slice Am' nm' cm'] 37)) := (Ext.refl wm).alloc _); (refine step_pushX rfl (.tmp 122) (.tmp 138) 28 rfl w24.heap.size 37 j0 _ 4 64 Tryd.underlying28 ji jz0 jz1 jz2 rfl zR _ k2 osC rfl ((oq.ext hmL).ext hza) wm.heap.size [.bool pm, .slice Am nm cm, .bool pm', .slice Am' nm' cm'] 1 rfl rfl (new4 wm 37 _ _ _ _) one4 nou4 (by omega) (by decide) (Nat.le_trans hXw.size (Nat.le_trans hmL.size hza.size)) ?_); intro v6 y6 o6 r6 s6; (have tb6 := boxR ((hB.ext hmL).ext hza) ((oq.ext hmL).ext hza) r6 (by decide)); (have c6 := tb6.c0); (have z6 := tb6.frozen 0); (obtain ⟨A6, d6, rfl⟩ := o6.shape); (have hS6 : Fr (PD (Value.slice AC k2 cC) rb) wr y6 := ((Fr.of hmL).trans (Fr.of hza)).trans (r6.weak (fun b hb => .inl hb))); (have hS7 : Fr (PD (Value.slice AC k2 cC) rb) wr (y6.setCell ⟨rb, 0, none⟩ (.slice A6 (k2 + 1) d6)) := hS6.set (p := ⟨rb, 0, none⟩) (.inr rfl) (fun z => by rw [c6]; intro e; cases e) _))
                        | skip
                      try (go_wp2_with fail)
                      refine hK.out _ _ ?_ (fun hHeld => ?_)
                      · (try dsimp only); (repeat (first | (with_reducible assumption) | (with_reducible apply Fr.drew) | (with_reducible apply Fr.drewN) | (with_reducible apply Fr.alloc) | (with_reducible refine Fr.step ?_ (by assumption))))
                      clear hK K
                      try simp only [Act.put, List.setIfInBounds_toArray, List.set_cons_zero, List.set_cons_succ]
                      refine wpAnyH_ready (rs := [16]) (by kernel_rfl) (by simp) ?_
                      refine AllReadyH.cons (o := { dst := some 137, op := Op.call { callee := Callee.value (Operand.func 33), args := #[Operand.tmp 131, Operand.tmp 136], argTypes := #[37, 37] }, type := 37, pos := "law.go:330", after := #[{ on := 10, ground := Ground.data }, { on := 15, ground := Ground.data }, { on := 15, ground := Ground.chain }], guard := none }) rfl (fun K hK => ?_) ?_
                      · go_simp
                        first
                          | (go_at_call 21; (with_reducible refine (RatOf_b zq _ (by omega) (by omega)).mono ?_); rintro e wl ⟨vl, rfl, hbl, hxl⟩; (obtain ⟨pl, Al, nl, cl, pl', Al', nl', cl', rfl⟩ := hbl.1.shape); (have hlL : Ext wr wl := Ext.trans (by repeat (first | (with_reducible exact Ext.refl _) | (with_reducible apply Ext.drew) | (with_reducible apply Ext.drewN))) hxl); (have d0 := hlL.cell d0w))
                          | (go_at_call 33; (with_reducible refine (RatMul_b _ _ _ _ _ _ _ (RatB.ext hrb (by repeat (first | (with_reducible exact Ext.refl _) | (with_reducible apply Ext.drew) | (with_reducible apply Ext.drewN) | (with_reducible refine Ext.trans ?_ (by assumption))))) (RatB.ext hbl (by repeat (first | (with_reducible exact Ext.refl _) | (with_reducible apply Ext.drew) | (with_reducible apply Ext.drewN) | (with_reducible refine Ext.trans ?_ (by assumption))))) (by omega)).mono ?_); rintro e wm ⟨vm, rfl, hbm, hxm⟩; (obtain ⟨pm, Am, nm, cm, pm', Am', nm', cm', rfl⟩ := hbm.1.shape); (have hmL : Ext wr wm := Ext.trans hlL (Ext.trans (by repeat (first | (with_reducible exact Ext.refl _) | (with_reducible apply Ext.drew) | (with_reducible apply Ext.drewN))) hxm)); (have d0 := hmL.cell d0w))
                          | ((have hza : Ext wm (wm.alloc (.cells #[.bool pm, .slice Am nm cm, .bool pm', .slice Am' nm' cm'] 37)) := (Ext.refl wm).alloc _); (refine step_pushX rfl (.tmp 122) (.tmp 138) 28 rfl w24.heap.size 37 j0 _ 4 64 Tryd.underlying28 ji jz0 jz1 jz2 rfl zR _ k2 osC rfl ((oq.ext hmL).ext hza) wm.heap.size [.bool pm, .slice Am nm cm, .bool pm', .slice Am' nm' cm'] 1 rfl rfl (new4 wm 37 _ _ _ _) one4 nou4 (by omega) (by decide) (Nat.le_trans hXw.size (Nat.le_trans hmL.size hza.size)) ?_); intro v6 y6 o6 r6 s6; (have tb6 := boxR ((hB.ext hmL).ext hza) ((oq.ext hmL).ext hza) r6 (by decide)); (have c6 := tb6.c0); (have z6 := tb6.frozen 0); (obtain ⟨A6, d6, rfl⟩ := o6.shape); (have hS6 : Fr (PD (Value.slice AC k2 cC) rb) wr y6 := ((Fr.of hmL).trans (Fr.of hza)).trans (r6.weak (fun b hb => .inl hb))); (have hS7 : Fr (PD (Value.slice AC k2 cC) rb) wr (y6.setCell ⟨rb, 0, none⟩ (.slice A6 (k2 + 1) d6)) := hS6.set (p := ⟨rb, 0, none⟩) (.inr rfl) (fun z => by rw [c6]; intro e; cases e) _))
                          | skip
                        try (go_wp2_with fail)
                        refine hK.out _ _ ?_ (fun hHeld => ?_)
                        · (try dsimp only); (repeat (first | (with_reducible assumption) | (with_reducible apply Fr.drew) | (with_reducible apply Fr.drewN) | (with_reducible apply Fr.alloc) | (with_reducible refine Fr.step ?_ (by assumption))))
                        clear hK K
                        try simp only [Act.put, List.setIfInBounds_toArray, List.set_cons_zero, List.set_cons_succ]
                        refine wpAnyH_ready (rs := [17]) (by kernel_rfl) (by simp) ?_
                        refine AllReadyH.cons (o := { dst := some 138, op := Op.buildSlice 28 1 #[(0, Operand.tmp 137)], type := 28, pos := "law.go:330", after := #[{ on := 16, ground := Ground.data }], guard := none }) rfl (fun K hK => ?_) ?_
                        · go_simp
                          try (go_wp2_with fail)
                          refine hK.out _ _ ?_ (fun hHeld => ?_)
                          · (try dsimp only); (repeat (first | (with_reducible assumption) | (with_reducible apply Fr.drew) | (with_reducible apply Fr.drewN) | (with_reducible apply Fr.alloc) | (with_reducible refine Fr.step ?_ (by assumption))))
                          clear hK K
                          try simp only [Act.put, List.setIfInBounds_toArray, List.set_cons_zero, List.set_cons_succ]
                          refine wpAnyH_ready (rs := [18]) (by kernel_rfl) (by simp) ?_
                          refine AllReadyH.cons (o := { dst := some 139, op := Op.call { callee := Callee.builtin Builtin.append, args := #[Operand.tmp 122, Operand.tmp 138], argTypes := #[28, 28] }, type := 28, pos := "law.go:330", after := #[{ on := 1, ground := Ground.data }, { on := 17, ground := Ground.data }, { on := 16, ground := Ground.chain }], guard := none }) rfl (fun K hK => ?_) ?_
                          · skip
                            first
                              | (go_at_call 21; (with_reducible refine (RatOf_b zq _ (by omega) (by omega)).mono ?_); rintro e wl ⟨vl, rfl, hbl, hxl⟩; (obtain ⟨pl, Al, nl, cl, pl', Al', nl', cl', rfl⟩ := hbl.1.shape); (have hlL : Ext wr wl := Ext.trans (by repeat (first | (with_reducible exact Ext.refl _) | (with_reducible apply Ext.drew) | (with_reducible apply Ext.drewN))) hxl); (have d0 := hlL.cell d0w))
                              | (go_at_call 33; (with_reducible refine (RatMul_b _ _ _ _ _ _ _ (RatB.ext hrb (by repeat (first | (with_reducible exact Ext.refl _) | (with_reducible apply Ext.drew) | (with_reducible apply Ext.drewN) | (with_reducible refine Ext.trans ?_ (by assumption))))) (RatB.ext hbl (by repeat (first | (with_reducible exact Ext.refl _) | (with_reducible apply Ext.drew) | (with_reducible apply Ext.drewN) | (with_reducible refine Ext.trans ?_ (by assumption))))) (by omega)).mono ?_); rintro e wm ⟨vm, rfl, hbm, hxm⟩; (obtain ⟨pm, Am, nm, cm, pm', Am', nm', cm', rfl⟩ := hbm.1.shape); (have hmL : Ext wr wm := Ext.trans hlL (Ext.trans (by repeat (first | (with_reducible exact Ext.refl _) | (with_reducible apply Ext.drew) | (with_reducible apply Ext.drewN))) hxm)); (have d0 := hmL.cell d0w))
                              | ((have hza : Ext wm (wm.alloc (.cells #[.bool pm, .slice Am nm cm, .bool pm', .slice Am' nm' cm'] 37)) := (Ext.refl wm).alloc _); (refine step_pushX rfl (.tmp 122) (.tmp 138) 28 rfl w24.heap.size 37 j0 _ 4 64 Tryd.underlying28 ji jz0 jz1 jz2 rfl zR _ k2 osC rfl ((oq.ext hmL).ext hza) wm.heap.size [.bool pm, .slice Am nm cm, .bool pm', .slice Am' nm' cm'] 1 rfl rfl (new4 wm 37 _ _ _ _) one4 nou4 (by omega) (by decide) (Nat.le_trans hXw.size (Nat.le_trans hmL.size hza.size)) ?_); intro v6 y6 o6 r6 s6; (have tb6 := boxR ((hB.ext hmL).ext hza) ((oq.ext hmL).ext hza) r6 (by decide)); (have c6 := tb6.c0); (have z6 := tb6.frozen 0); (obtain ⟨A6, d6, rfl⟩ := o6.shape); (have hS6 : Fr (PD (Value.slice AC k2 cC) rb) wr y6 := ((Fr.of hmL).trans (Fr.of hza)).trans (r6.weak (fun b hb => .inl hb))); (have hS7 : Fr (PD (Value.slice AC k2 cC) rb) wr (y6.setCell ⟨rb, 0, none⟩ (.slice A6 (k2 + 1) d6)) := hS6.set (p := ⟨rb, 0, none⟩) (.inr rfl) (fun z => by rw [c6]; intro e; cases e) _))
                              | skip
                            try (go_wp2_with fail)
                            refine hK.out _ _ ?_ (fun hHeld => ?_)
                            · (try dsimp only); (repeat (first | (with_reducible assumption) | (with_reducible apply Fr.drew) | (with_reducible apply Fr.drewN) | (with_reducible apply Fr.alloc) | (with_reducible refine Fr.step ?_ (by assumption))))
                            clear hK K
                            try simp only [Act.put, List.setIfInBounds_toArray, List.set_cons_zero, List.set_cons_succ]
                            refine wpAnyH_take (i := 19) (oi := { dst := some 140, op := Op.fieldAddr 48 (Operand.tmp 14) 0, type := 0, pos := "law.go:330", after := #[{ on := 0, ground := Ground.phase }, { on := 1, ground := Ground.phase }, { on := 2, ground := Ground.phase }, { on := 3, ground := Ground.phase }, { on := 4, ground := Ground.phase }, { on := 5, ground := Ground.phase }, { on := 6, ground := Ground.phase }, { on := 7, ground := Ground.phase }, { on := 8, ground := Ground.phase }, { on := 9, ground := Ground.phase }, { on := 10, ground := Ground.phase }, { on := 11, ground := Ground.phase }, { on := 12, ground := Ground.phase }, { on := 13, ground := Ground.phase }, { on := 14, ground := Ground.phase }, { on := 15, ground := Ground.phase }, { on := 16, ground := Ground.phase }, { on := 17, ground := Ground.phase }, { on := 18, ground := Ground.phase }], guard := none }) (v := ?_) rfl (by kernel_rfl) (by kernel_rfl) (by kernel_rfl) (fun _ _ _ h => h) (Or.inl ⟨by rfl, ?_⟩) (by assumption) ?_
                            rotate_left
                            · intro w hSw; (try dsimp only at hSw); go_simp; try (with_reducible rfl)
                            try simp only [Act.put, List.setIfInBounds_toArray, List.set_cons_zero, List.set_cons_succ]
                            refine wpAnyH_ready (rs := [20]) (by kernel_rfl) (by simp) ?_
                            refine AllReadyH.cons (o := { dst := none, op := Op.store 28 (Operand.tmp 140) (Operand.tmp 139), type := 0, pos := "law.go:330", after := #[{ on := 19, ground := Ground.data }, { on := 18, ground := Ground.data }, { on := 18, ground := Ground.chain }, { on := 0, ground := Ground.phase }, { on := 1, ground := Ground.phase }, { on := 2, ground := Ground.phase }, { on := 3, ground := Ground.phase }, { on := 4, ground := Ground.phase }, { on := 5, ground := Ground.phase }, { on := 6, ground := Ground.phase }, { on := 7, ground := Ground.phase }, { on := 8, ground := Ground.phase }, { on := 9, ground := Ground.phase }, { on := 10, ground := Ground.phase }, { on := 11, ground := Ground.phase }, { on := 12, ground := Ground.phase }, { on := 13, ground := Ground.phase }, { on := 14, ground := Ground.phase }, { on := 15, ground := Ground.phase }, { on := 16, ground := Ground.phase }, { on := 17, ground := Ground.phase }, { on := 18, ground := Ground.phase }], guard := none }) rfl (fun K hK => ?_) ?_
                            · go_simp
                              try (go_wp2_with fail)
                              refine hK.out _ _ ?_ (fun hHeld => ?_)
                              · (try dsimp only); (repeat (first | (with_reducible assumption) | (with_reducible apply Fr.drew) | (with_reducible apply Fr.drewN) | (with_reducible apply Fr.alloc) | (with_reducible refine Fr.step ?_ (by assumption))))
                              clear hK K
                              try simp only [Act.put, List.setIfInBounds_toArray, List.set_cons_zero, List.set_cons_succ]
                              refine wpAnyH_done (by kernel_rfl) ?_ _
                              have a6 := At.push (f := D.coef j) oq.1 (fun i hi => (aq i hi).fr (Fr.of (P := fun _ => False) (hmL.trans hza))) r6 (by rw [HOB.out]; exact (hbm.ext hza).1)
                              obtain ⟨hB2, hQ2, hX2⟩ := coef_push ((hB.ext hmL).ext hza) ((hQ.ext hmL).ext hza) o6 a6 r6 ((hXw.trans hmL).trans hza) hrbs
                              go_wp2_with fail
                              go_roundw
                              case rel => exact ⟨k2 + 1, _, by omega, by go_num, hB2, hQ2, hX2⟩
                              case measure => simp [intOf]; omega
                            exact AllReadyH.nil
                          exact AllReadyH.nil
                        exact AllReadyH.nil
                      exact AllReadyH.nil
                    exact AllReadyH.nil
                  refine AllReadyH.cons (o := { dst := some 136, op := Op.call { callee := Callee.value (Operand.func 21), args := #[Operand.tmp 135], argTypes := #[3] }, type := 37, pos := "law.go:330", after := #[{ on := 14, ground := Ground.data }], guard := none }) rfl (fun K hK => ?_) ?_
                  · go_simp
                    first
                      | (go_at_call 21; (with_reducible refine (RatOf_b zq _ (by omega) (by omega)).mono ?_); rintro e wl ⟨vl, rfl, hbl, hxl⟩; (obtain ⟨pl, Al, nl, cl, pl', Al', nl', cl', rfl⟩ := hbl.1.shape); (have hlL : Ext wr wl := Ext.trans (by repeat (first | (with_reducible exact Ext.refl _) | (with_reducible apply Ext.drew) | (with_reducible apply Ext.drewN))) hxl); (have d0 := hlL.cell d0w))
                      | (go_at_call 33; (with_reducible refine (RatMul_b _ _ _ _ _ _ _ (RatB.ext hrb (by repeat (first | (with_reducible exact Ext.refl _) | (with_reducible apply Ext.drew) | (with_reducible apply Ext.drewN) | (with_reducible refine Ext.trans ?_ (by assumption))))) (RatB.ext hbl (by repeat (first | (with_reducible exact Ext.refl _) | (with_reducible apply Ext.drew) | (with_reducible apply Ext.drewN) | (with_reducible refine Ext.trans ?_ (by assumption))))) (by omega)).mono ?_); rintro e wm ⟨vm, rfl, hbm, hxm⟩; (obtain ⟨pm, Am, nm, cm, pm', Am', nm', cm', rfl⟩ := hbm.1.shape); (have hmL : Ext wr wm := Ext.trans hlL (Ext.trans (by repeat (first | (with_reducible exact Ext.refl _) | (with_reducible apply Ext.drew) | (with_reducible apply Ext.drewN))) hxm)); (have d0 := hmL.cell d0w))
                      | ((have hza : Ext wm (wm.alloc (.cells #[.bool pm, .slice Am nm cm, .bool pm', .slice Am' nm' cm'] 37)) := (Ext.refl wm).alloc _); (refine step_pushX rfl (.tmp 122) (.tmp 138) 28 rfl w24.heap.size 37 j0 _ 4 64 Tryd.underlying28 ji jz0 jz1 jz2 rfl zR _ k2 osC rfl ((oq.ext hmL).ext hza) wm.heap.size [.bool pm, .slice Am nm cm, .bool pm', .slice Am' nm' cm'] 1 rfl rfl (new4 wm 37 _ _ _ _) one4 nou4 (by omega) (by decide) (Nat.le_trans hXw.size (Nat.le_trans hmL.size hza.size)) ?_); intro v6 y6 o6 r6 s6; (have tb6 := boxR ((hB.ext hmL).ext hza) ((oq.ext hmL).ext hza) r6 (by decide)); (have c6 := tb6.c0); (have z6 := tb6.frozen 0); (obtain ⟨A6, d6, rfl⟩ := o6.shape); (have hS6 : Fr (PD (Value.slice AC k2 cC) rb) wr y6 := ((Fr.of hmL).trans (Fr.of hza)).trans (r6.weak (fun b hb => .inl hb))); (have hS7 : Fr (PD (Value.slice AC k2 cC) rb) wr (y6.setCell ⟨rb, 0, none⟩ (.slice A6 (k2 + 1) d6)) := hS6.set (p := ⟨rb, 0, none⟩) (.inr rfl) (fun z => by rw [c6]; intro e; cases e) _))
                      | skip
                    try (go_wp2_with fail)
                    refine hK.out _ _ ?_ (fun hHeld => ?_)
                    · (try dsimp only); (repeat (first | (with_reducible assumption) | (with_reducible apply Fr.drew) | (with_reducible apply Fr.drewN) | (with_reducible apply Fr.alloc) | (with_reducible refine Fr.step ?_ (by assumption))))
                    clear hK K
                    try simp only [Act.put, List.setIfInBounds_toArray, List.set_cons_zero, List.set_cons_succ]
                    refine wpAnyH_ready (rs := [1, 16]) (by kernel_rfl) (by simp) ?_
                    refine AllReadyH.cons (o := { dst := some 122, op := Op.load 28 (Operand.tmp 121), type := 28, pos := "law.go:330", after := #[{ on := 0, ground := Ground.data }], guard := none }) rfl (fun K hK => ?_) ?_
                    · go_simp
                      try (go_wp2_with fail)
                      refine hK.out _ _ ?_ (fun hHeld => ?_)
                      · (try dsimp only); (repeat (first | (with_reducible assumption) | (with_reducible apply Fr.drew) | (with_reducible apply Fr.drewN) | (with_reducible apply Fr.alloc) | (with_reducible refine Fr.step ?_ (by assumption))))
                      clear hK K
                      try simp only [Act.put, List.setIfInBounds_toArray, List.set_cons_zero, List.set_cons_succ]
                      refine wpAnyH_ready (rs := [16]) (by kernel_rfl) (by simp) ?_
                      refine AllReadyH.cons (o := { dst := some 137, op := Op.call { callee := Callee.value (Operand.func 33), args := #[Operand.tmp 131, Operand.tmp 136], argTypes := #[37, 37] }, type := 37, pos := "law.go:330", after := #[{ on := 10, ground := Ground.data }, { on := 15, ground := Ground.data }, { on := 15, ground := Ground.chain }], guard := none }) rfl (fun K hK => ?_) ?_
                      · go_simp
                        first
                          | (go_at_call 21; (with_reducible refine (RatOf_b zq _ (by omega) (by omega)).mono ?_); rintro e wl ⟨vl, rfl, hbl, hxl⟩; (obtain ⟨pl, Al, nl, cl, pl', Al', nl', cl', rfl⟩ := hbl.1.shape); (have hlL : Ext wr wl := Ext.trans (by repeat (first | (with_reducible exact Ext.refl _) | (with_reducible apply Ext.drew) | (with_reducible apply Ext.drewN))) hxl); (have d0 := hlL.cell d0w))
                          | (go_at_call 33; (with_reducible refine (RatMul_b _ _ _ _ _ _ _ (RatB.ext hrb (by repeat (first | (with_reducible exact Ext.refl _) | (with_reducible apply Ext.drew) | (with_reducible apply Ext.drewN) | (with_reducible refine Ext.trans ?_ (by assumption))))) (RatB.ext hbl (by repeat (first | (with_reducible exact Ext.refl _) | (with_reducible apply Ext.drew) | (with_reducible apply Ext.drewN) | (with_reducible refine Ext.trans ?_ (by assumption))))) (by omega)).mono ?_); rintro e wm ⟨vm, rfl, hbm, hxm⟩; (obtain ⟨pm, Am, nm, cm, pm', Am', nm', cm', rfl⟩ := hbm.1.shape); (have hmL : Ext wr wm := Ext.trans hlL (Ext.trans (by repeat (first | (with_reducible exact Ext.refl _) | (with_reducible apply Ext.drew) | (with_reducible apply Ext.drewN))) hxm)); (have d0 := hmL.cell d0w))
                          | ((have hza : Ext wm (wm.alloc (.cells #[.bool pm, .slice Am nm cm, .bool pm', .slice Am' nm' cm'] 37)) := (Ext.refl wm).alloc _); (refine step_pushX rfl (.tmp 122) (.tmp 138) 28 rfl w24.heap.size 37 j0 _ 4 64 Tryd.underlying28 ji jz0 jz1 jz2 rfl zR _ k2 osC rfl ((oq.ext hmL).ext hza) wm.heap.size [.bool pm, .slice Am nm cm, .bool pm', .slice Am' nm' cm'] 1 rfl rfl (new4 wm 37 _ _ _ _) one4 nou4 (by omega) (by decide) (Nat.le_trans hXw.size (Nat.le_trans hmL.size hza.size)) ?_); intro v6 y6 o6 r6 s6; (have tb6 := boxR ((hB.ext hmL).ext hza) ((oq.ext hmL).ext hza) r6 (by decide)); (have c6 := tb6.c0); (have z6 := tb6.frozen 0); (obtain ⟨A6, d6, rfl⟩ := o6.shape); (have hS6 : Fr (PD (Value.slice AC k2 cC) rb) wr y6 := ((Fr.of hmL).trans (Fr.of hza)).trans (r6.weak (fun b hb => .inl hb))); (have hS7 : Fr (PD (Value.slice AC k2 cC) rb) wr (y6.setCell ⟨rb, 0, none⟩ (.slice A6 (k2 + 1) d6)) := hS6.set (p := ⟨rb, 0, none⟩) (.inr rfl) (fun z => by rw [c6]; intro e; cases e) _))
                          | skip
                        try (go_wp2_with fail)
                        refine hK.out _ _ ?_ (fun hHeld => ?_)
                        · (try dsimp only); (repeat (first | (with_reducible assumption) | (with_reducible apply Fr.drew) | (with_reducible apply Fr.drewN) | (with_reducible apply Fr.alloc) | (with_reducible refine Fr.step ?_ (by assumption))))
                        clear hK K
                        try simp only [Act.put, List.setIfInBounds_toArray, List.set_cons_zero, List.set_cons_succ]
                        refine wpAnyH_ready (rs := [17]) (by kernel_rfl) (by simp) ?_
                        refine AllReadyH.cons (o := { dst := some 138, op := Op.buildSlice 28 1 #[(0, Operand.tmp 137)], type := 28, pos := "law.go:330", after := #[{ on := 16, ground := Ground.data }], guard := none }) rfl (fun K hK => ?_) ?_
                        · go_simp
                          try (go_wp2_with fail)
                          refine hK.out _ _ ?_ (fun hHeld => ?_)
                          · (try dsimp only); (repeat (first | (with_reducible assumption) | (with_reducible apply Fr.drew) | (with_reducible apply Fr.drewN) | (with_reducible apply Fr.alloc) | (with_reducible refine Fr.step ?_ (by assumption))))
                          clear hK K
                          try simp only [Act.put, List.setIfInBounds_toArray, List.set_cons_zero, List.set_cons_succ]
                          refine wpAnyH_ready (rs := [18]) (by kernel_rfl) (by simp) ?_
                          refine AllReadyH.cons (o := { dst := some 139, op := Op.call { callee := Callee.builtin Builtin.append, args := #[Operand.tmp 122, Operand.tmp 138], argTypes := #[28, 28] }, type := 28, pos := "law.go:330", after := #[{ on := 1, ground := Ground.data }, { on := 17, ground := Ground.data }, { on := 16, ground := Ground.chain }], guard := none }) rfl (fun K hK => ?_) ?_
                          · skip
                            first
                              | (go_at_call 21; (with_reducible refine (RatOf_b zq _ (by omega) (by omega)).mono ?_); rintro e wl ⟨vl, rfl, hbl, hxl⟩; (obtain ⟨pl, Al, nl, cl, pl', Al', nl', cl', rfl⟩ := hbl.1.shape); (have hlL : Ext wr wl := Ext.trans (by repeat (first | (with_reducible exact Ext.refl _) | (with_reducible apply Ext.drew) | (with_reducible apply Ext.drewN))) hxl); (have d0 := hlL.cell d0w))
                              | (go_at_call 33; (with_reducible refine (RatMul_b _ _ _ _ _ _ _ (RatB.ext hrb (by repeat (first | (with_reducible exact Ext.refl _) | (with_reducible apply Ext.drew) | (with_reducible apply Ext.drewN) | (with_reducible refine Ext.trans ?_ (by assumption))))) (RatB.ext hbl (by repeat (first | (with_reducible exact Ext.refl _) | (with_reducible apply Ext.drew) | (with_reducible apply Ext.drewN) | (with_reducible refine Ext.trans ?_ (by assumption))))) (by omega)).mono ?_); rintro e wm ⟨vm, rfl, hbm, hxm⟩; (obtain ⟨pm, Am, nm, cm, pm', Am', nm', cm', rfl⟩ := hbm.1.shape); (have hmL : Ext wr wm := Ext.trans hlL (Ext.trans (by repeat (first | (with_reducible exact Ext.refl _) | (with_reducible apply Ext.drew) | (with_reducible apply Ext.drewN))) hxm)); (have d0 := hmL.cell d0w))
                              | ((have hza : Ext wm (wm.alloc (.cells #[.bool pm, .slice Am nm cm, .bool pm', .slice Am' nm' cm'] 37)) := (Ext.refl wm).alloc _); (refine step_pushX rfl (.tmp 122) (.tmp 138) 28 rfl w24.heap.size 37 j0 _ 4 64 Tryd.underlying28 ji jz0 jz1 jz2 rfl zR _ k2 osC rfl ((oq.ext hmL).ext hza) wm.heap.size [.bool pm, .slice Am nm cm, .bool pm', .slice Am' nm' cm'] 1 rfl rfl (new4 wm 37 _ _ _ _) one4 nou4 (by omega) (by decide) (Nat.le_trans hXw.size (Nat.le_trans hmL.size hza.size)) ?_); intro v6 y6 o6 r6 s6; (have tb6 := boxR ((hB.ext hmL).ext hza) ((oq.ext hmL).ext hza) r6 (by decide)); (have c6 := tb6.c0); (have z6 := tb6.frozen 0); (obtain ⟨A6, d6, rfl⟩ := o6.shape); (have hS6 : Fr (PD (Value.slice AC k2 cC) rb) wr y6 := ((Fr.of hmL).trans (Fr.of hza)).trans (r6.weak (fun b hb => .inl hb))); (have hS7 : Fr (PD (Value.slice AC k2 cC) rb) wr (y6.setCell ⟨rb, 0, none⟩ (.slice A6 (k2 + 1) d6)) := hS6.set (p := ⟨rb, 0, none⟩) (.inr rfl) (fun z => by rw [c6]; intro e; cases e) _))
                              | skip
                            try (go_wp2_with fail)
                            refine hK.out _ _ ?_ (fun hHeld => ?_)
                            · (try dsimp only); (repeat (first | (with_reducible assumption) | (with_reducible apply Fr.drew) | (with_reducible apply Fr.drewN) | (with_reducible apply Fr.alloc) | (with_reducible refine Fr.step ?_ (by assumption))))
                            clear hK K
                            try simp only [Act.put, List.setIfInBounds_toArray, List.set_cons_zero, List.set_cons_succ]
                            refine wpAnyH_take (i := 19) (oi := { dst := some 140, op := Op.fieldAddr 48 (Operand.tmp 14) 0, type := 0, pos := "law.go:330", after := #[{ on := 0, ground := Ground.phase }, { on := 1, ground := Ground.phase }, { on := 2, ground := Ground.phase }, { on := 3, ground := Ground.phase }, { on := 4, ground := Ground.phase }, { on := 5, ground := Ground.phase }, { on := 6, ground := Ground.phase }, { on := 7, ground := Ground.phase }, { on := 8, ground := Ground.phase }, { on := 9, ground := Ground.phase }, { on := 10, ground := Ground.phase }, { on := 11, ground := Ground.phase }, { on := 12, ground := Ground.phase }, { on := 13, ground := Ground.phase }, { on := 14, ground := Ground.phase }, { on := 15, ground := Ground.phase }, { on := 16, ground := Ground.phase }, { on := 17, ground := Ground.phase }, { on := 18, ground := Ground.phase }], guard := none }) (v := ?_) rfl (by kernel_rfl) (by kernel_rfl) (by kernel_rfl) (fun _ _ _ h => h) (Or.inl ⟨by rfl, ?_⟩) (by assumption) ?_
                            rotate_left
                            · intro w hSw; (try dsimp only at hSw); go_simp; try (with_reducible rfl)
                            try simp only [Act.put, List.setIfInBounds_toArray, List.set_cons_zero, List.set_cons_succ]
                            refine wpAnyH_ready (rs := [20]) (by kernel_rfl) (by simp) ?_
                            refine AllReadyH.cons (o := { dst := none, op := Op.store 28 (Operand.tmp 140) (Operand.tmp 139), type := 0, pos := "law.go:330", after := #[{ on := 19, ground := Ground.data }, { on := 18, ground := Ground.data }, { on := 18, ground := Ground.chain }, { on := 0, ground := Ground.phase }, { on := 1, ground := Ground.phase }, { on := 2, ground := Ground.phase }, { on := 3, ground := Ground.phase }, { on := 4, ground := Ground.phase }, { on := 5, ground := Ground.phase }, { on := 6, ground := Ground.phase }, { on := 7, ground := Ground.phase }, { on := 8, ground := Ground.phase }, { on := 9, ground := Ground.phase }, { on := 10, ground := Ground.phase }, { on := 11, ground := Ground.phase }, { on := 12, ground := Ground.phase }, { on := 13, ground := Ground.phase }, { on := 14, ground := Ground.phase }, { on := 15, ground := Ground.phase }, { on := 16, ground := Ground.phase }, { on := 17, ground := Ground.phase }, { on := 18, ground := Ground.phase }], guard := none }) rfl (fun K hK => ?_) ?_
                            · go_simp
                              try (go_wp2_with fail)
                              refine hK.out _ _ ?_ (fun hHeld => ?_)
                              · (try dsimp only); (repeat (first | (with_reducible assumption) | (with_reducible apply Fr.drew) | (with_reducible apply Fr.drewN) | (with_reducible apply Fr.alloc) | (with_reducible refine Fr.step ?_ (by assumption))))
                              clear hK K
                              try simp only [Act.put, List.setIfInBounds_toArray, List.set_cons_zero, List.set_cons_succ]
                              refine wpAnyH_done (by kernel_rfl) ?_ _
                              have a6 := At.push (f := D.coef j) oq.1 (fun i hi => (aq i hi).fr (Fr.of (P := fun _ => False) (hmL.trans hza))) r6 (by rw [HOB.out]; exact (hbm.ext hza).1)
                              obtain ⟨hB2, hQ2, hX2⟩ := coef_push ((hB.ext hmL).ext hza) ((hQ.ext hmL).ext hza) o6 a6 r6 ((hXw.trans hmL).trans hza) hrbs
                              go_wp2_with fail
                              go_roundw
                              case rel => exact ⟨k2 + 1, _, by omega, by go_num, hB2, hQ2, hX2⟩
                              case measure => simp [intOf]; omega
                            exact AllReadyH.nil
                          exact AllReadyH.nil
                        exact AllReadyH.nil
                      exact AllReadyH.nil
                    refine AllReadyH.cons (o := { dst := some 137, op := Op.call { callee := Callee.value (Operand.func 33), args := #[Operand.tmp 131, Operand.tmp 136], argTypes := #[37, 37] }, type := 37, pos := "law.go:330", after := #[{ on := 10, ground := Ground.data }, { on := 15, ground := Ground.data }, { on := 15, ground := Ground.chain }], guard := none }) rfl (fun K hK => ?_) ?_
                    · go_simp
                      first
                        | (go_at_call 21; (with_reducible refine (RatOf_b zq _ (by omega) (by omega)).mono ?_); rintro e wl ⟨vl, rfl, hbl, hxl⟩; (obtain ⟨pl, Al, nl, cl, pl', Al', nl', cl', rfl⟩ := hbl.1.shape); (have hlL : Ext wr wl := Ext.trans (by repeat (first | (with_reducible exact Ext.refl _) | (with_reducible apply Ext.drew) | (with_reducible apply Ext.drewN))) hxl); (have d0 := hlL.cell d0w))
                        | (go_at_call 33; (with_reducible refine (RatMul_b _ _ _ _ _ _ _ (RatB.ext hrb (by repeat (first | (with_reducible exact Ext.refl _) | (with_reducible apply Ext.drew) | (with_reducible apply Ext.drewN) | (with_reducible refine Ext.trans ?_ (by assumption))))) (RatB.ext hbl (by repeat (first | (with_reducible exact Ext.refl _) | (with_reducible apply Ext.drew) | (with_reducible apply Ext.drewN) | (with_reducible refine Ext.trans ?_ (by assumption))))) (by omega)).mono ?_); rintro e wm ⟨vm, rfl, hbm, hxm⟩; (obtain ⟨pm, Am, nm, cm, pm', Am', nm', cm', rfl⟩ := hbm.1.shape); (have hmL : Ext wr wm := Ext.trans hlL (Ext.trans (by repeat (first | (with_reducible exact Ext.refl _) | (with_reducible apply Ext.drew) | (with_reducible apply Ext.drewN))) hxm)); (have d0 := hmL.cell d0w))
                        | ((have hza : Ext wm (wm.alloc (.cells #[.bool pm, .slice Am nm cm, .bool pm', .slice Am' nm' cm'] 37)) := (Ext.refl wm).alloc _); (refine step_pushX rfl (.tmp 122) (.tmp 138) 28 rfl w24.heap.size 37 j0 _ 4 64 Tryd.underlying28 ji jz0 jz1 jz2 rfl zR _ k2 osC rfl ((oq.ext hmL).ext hza) wm.heap.size [.bool pm, .slice Am nm cm, .bool pm', .slice Am' nm' cm'] 1 rfl rfl (new4 wm 37 _ _ _ _) one4 nou4 (by omega) (by decide) (Nat.le_trans hXw.size (Nat.le_trans hmL.size hza.size)) ?_); intro v6 y6 o6 r6 s6; (have tb6 := boxR ((hB.ext hmL).ext hza) ((oq.ext hmL).ext hza) r6 (by decide)); (have c6 := tb6.c0); (have z6 := tb6.frozen 0); (obtain ⟨A6, d6, rfl⟩ := o6.shape); (have hS6 : Fr (PD (Value.slice AC k2 cC) rb) wr y6 := ((Fr.of hmL).trans (Fr.of hza)).trans (r6.weak (fun b hb => .inl hb))); (have hS7 : Fr (PD (Value.slice AC k2 cC) rb) wr (y6.setCell ⟨rb, 0, none⟩ (.slice A6 (k2 + 1) d6)) := hS6.set (p := ⟨rb, 0, none⟩) (.inr rfl) (fun z => by rw [c6]; intro e; cases e) _))
                        | skip
                      try (go_wp2_with fail)
                      refine hK.out _ _ ?_ (fun hHeld => ?_)
                      · (try dsimp only); (repeat (first | (with_reducible assumption) | (with_reducible apply Fr.drew) | (with_reducible apply Fr.drewN) | (with_reducible apply Fr.alloc) | (with_reducible refine Fr.step ?_ (by assumption))))
                      clear hK K
                      try simp only [Act.put, List.setIfInBounds_toArray, List.set_cons_zero, List.set_cons_succ]
                      refine wpAnyH_ready (rs := [1, 17]) (by kernel_rfl) (by simp) ?_
                      refine AllReadyH.cons (o := { dst := some 122, op := Op.load 28 (Operand.tmp 121), type := 28, pos := "law.go:330", after := #[{ on := 0, ground := Ground.data }], guard := none }) rfl (fun K hK => ?_) ?_
                      · go_simp
                        try (go_wp2_with fail)
                        refine hK.out _ _ ?_ (fun hHeld => ?_)
                        · (try dsimp only); (repeat (first | (with_reducible assumption) | (with_reducible apply Fr.drew) | (with_reducible apply Fr.drewN) | (with_reducible apply Fr.alloc) | (with_reducible refine Fr.step ?_ (by assumption))))
                        clear hK K
                        try simp only [Act.put, List.setIfInBounds_toArray, List.set_cons_zero, List.set_cons_succ]
                        refine wpAnyH_ready (rs := [17]) (by kernel_rfl) (by simp) ?_
                        refine AllReadyH.cons (o := { dst := some 138, op := Op.buildSlice 28 1 #[(0, Operand.tmp 137)], type := 28, pos := "law.go:330", after := #[{ on := 16, ground := Ground.data }], guard := none }) rfl (fun K hK => ?_) ?_
                        · go_simp
                          try (go_wp2_with fail)
                          refine hK.out _ _ ?_ (fun hHeld => ?_)
                          · (try dsimp only); (repeat (first | (with_reducible assumption) | (with_reducible apply Fr.drew) | (with_reducible apply Fr.drewN) | (with_reducible apply Fr.alloc) | (with_reducible refine Fr.step ?_ (by assumption))))
                          clear hK K
                          try simp only [Act.put, List.setIfInBounds_toArray, List.set_cons_zero, List.set_cons_succ]
                          refine wpAnyH_ready (rs := [18]) (by kernel_rfl) (by simp) ?_
                          refine AllReadyH.cons (o := { dst := some 139, op := Op.call { callee := Callee.builtin Builtin.append, args := #[Operand.tmp 122, Operand.tmp 138], argTypes := #[28, 28] }, type := 28, pos := "law.go:330", after := #[{ on := 1, ground := Ground.data }, { on := 17, ground := Ground.data }, { on := 16, ground := Ground.chain }], guard := none }) rfl (fun K hK => ?_) ?_
                          · skip
                            first
                              | (go_at_call 21; (with_reducible refine (RatOf_b zq _ (by omega) (by omega)).mono ?_); rintro e wl ⟨vl, rfl, hbl, hxl⟩; (obtain ⟨pl, Al, nl, cl, pl', Al', nl', cl', rfl⟩ := hbl.1.shape); (have hlL : Ext wr wl := Ext.trans (by repeat (first | (with_reducible exact Ext.refl _) | (with_reducible apply Ext.drew) | (with_reducible apply Ext.drewN))) hxl); (have d0 := hlL.cell d0w))
                              | (go_at_call 33; (with_reducible refine (RatMul_b _ _ _ _ _ _ _ (RatB.ext hrb (by repeat (first | (with_reducible exact Ext.refl _) | (with_reducible apply Ext.drew) | (with_reducible apply Ext.drewN) | (with_reducible refine Ext.trans ?_ (by assumption))))) (RatB.ext hbl (by repeat (first | (with_reducible exact Ext.refl _) | (with_reducible apply Ext.drew) | (with_reducible apply Ext.drewN) | (with_reducible refine Ext.trans ?_ (by assumption))))) (by omega)).mono ?_); rintro e wm ⟨vm, rfl, hbm, hxm⟩; (obtain ⟨pm, Am, nm, cm, pm', Am', nm', cm', rfl⟩ := hbm.1.shape); (have hmL : Ext wr wm := Ext.trans hlL (Ext.trans (by repeat (first | (with_reducible exact Ext.refl _) | (with_reducible apply Ext.drew) | (with_reducible apply Ext.drewN))) hxm)); (have d0 := hmL.cell d0w))
                              | ((have hza : Ext wm (wm.alloc (.cells #[.bool pm, .slice Am nm cm, .bool pm', .slice Am' nm' cm'] 37)) := (Ext.refl wm).alloc _); (refine step_pushX rfl (.tmp 122) (.tmp 138) 28 rfl w24.heap.size 37 j0 _ 4 64 Tryd.underlying28 ji jz0 jz1 jz2 rfl zR _ k2 osC rfl ((oq.ext hmL).ext hza) wm.heap.size [.bool pm, .slice Am nm cm, .bool pm', .slice Am' nm' cm'] 1 rfl rfl (new4 wm 37 _ _ _ _) one4 nou4 (by omega) (by decide) (Nat.le_trans hXw.size (Nat.le_trans hmL.size hza.size)) ?_); intro v6 y6 o6 r6 s6; (have tb6 := boxR ((hB.ext hmL).ext hza) ((oq.ext hmL).ext hza) r6 (by decide)); (have c6 := tb6.c0); (have z6 := tb6.frozen 0); (obtain ⟨A6, d6, rfl⟩ := o6.shape); (have hS6 : Fr (PD (Value.slice AC k2 cC) rb) wr y6 := ((Fr.of hmL).trans (Fr.of hza)).trans (r6.weak (fun b hb => .inl hb))); (have hS7 : Fr (PD (Value.slice AC k2 cC) rb) wr (y6.setCell ⟨rb, 0, none⟩ (.slice A6 (k2 + 1) d6)) := hS6.set (p := ⟨rb, 0, none⟩) (.inr rfl) (fun z => by rw [c6]; intro e; cases e) _))
                              | skip
                            try (go_wp2_with fail)
                            refine hK.out _ _ ?_ (fun hHeld => ?_)
                            · (try dsimp only); (repeat (first | (with_reducible assumption) | (with_reducible apply Fr.drew) | (with_reducible apply Fr.drewN) | (with_reducible apply Fr.alloc) | (with_reducible refine Fr.step ?_ (by assumption))))
                            clear hK K
                            try simp only [Act.put, List.setIfInBounds_toArray, List.set_cons_zero, List.set_cons_succ]
                            refine wpAnyH_take (i := 19) (oi := { dst := some 140, op := Op.fieldAddr 48 (Operand.tmp 14) 0, type := 0, pos := "law.go:330", after := #[{ on := 0, ground := Ground.phase }, { on := 1, ground := Ground.phase }, { on := 2, ground := Ground.phase }, { on := 3, ground := Ground.phase }, { on := 4, ground := Ground.phase }, { on := 5, ground := Ground.phase }, { on := 6, ground := Ground.phase }, { on := 7, ground := Ground.phase }, { on := 8, ground := Ground.phase }, { on := 9, ground := Ground.phase }, { on := 10, ground := Ground.phase }, { on := 11, ground := Ground.phase }, { on := 12, ground := Ground.phase }, { on := 13, ground := Ground.phase }, { on := 14, ground := Ground.phase }, { on := 15, ground := Ground.phase }, { on := 16, ground := Ground.phase }, { on := 17, ground := Ground.phase }, { on := 18, ground := Ground.phase }], guard := none }) (v := ?_) rfl (by kernel_rfl) (by kernel_rfl) (by kernel_rfl) (fun _ _ _ h => h) (Or.inl ⟨by rfl, ?_⟩) (by assumption) ?_
                            rotate_left
                            · intro w hSw; (try dsimp only at hSw); go_simp; try (with_reducible rfl)
                            try simp only [Act.put, List.setIfInBounds_toArray, List.set_cons_zero, List.set_cons_succ]
                            refine wpAnyH_ready (rs := [20]) (by kernel_rfl) (by simp) ?_
                            refine AllReadyH.cons (o := { dst := none, op := Op.store 28 (Operand.tmp 140) (Operand.tmp 139), type := 0, pos := "law.go:330", after := #[{ on := 19, ground := Ground.data }, { on := 18, ground := Ground.data }, { on := 18, ground := Ground.chain }, { on := 0, ground := Ground.phase }, { on := 1, ground := Ground.phase }, { on := 2, ground := Ground.phase }, { on := 3, ground := Ground.phase }, { on := 4, ground := Ground.phase }, { on := 5, ground := Ground.phase }, { on := 6, ground := Ground.phase }, { on := 7, ground := Ground.phase }, { on := 8, ground := Ground.phase }, { on := 9, ground := Ground.phase }, { on := 10, ground := Ground.phase }, { on := 11, ground := Ground.phase }, { on := 12, ground := Ground.phase }, { on := 13, ground := Ground.phase }, { on := 14, ground := Ground.phase }, { on := 15, ground := Ground.phase }, { on := 16, ground := Ground.phase }, { on := 17, ground := Ground.phase }, { on := 18, ground := Ground.phase }], guard := none }) rfl (fun K hK => ?_) ?_
                            · go_simp
                              try (go_wp2_with fail)
                              refine hK.out _ _ ?_ (fun hHeld => ?_)
                              · (try dsimp only); (repeat (first | (with_reducible assumption) | (with_reducible apply Fr.drew) | (with_reducible apply Fr.drewN) | (with_reducible apply Fr.alloc) | (with_reducible refine Fr.step ?_ (by assumption))))
                              clear hK K
                              try simp only [Act.put, List.setIfInBounds_toArray, List.set_cons_zero, List.set_cons_succ]
                              refine wpAnyH_done (by kernel_rfl) ?_ _
                              have a6 := At.push (f := D.coef j) oq.1 (fun i hi => (aq i hi).fr (Fr.of (P := fun _ => False) (hmL.trans hza))) r6 (by rw [HOB.out]; exact (hbm.ext hza).1)
                              obtain ⟨hB2, hQ2, hX2⟩ := coef_push ((hB.ext hmL).ext hza) ((hQ.ext hmL).ext hza) o6 a6 r6 ((hXw.trans hmL).trans hza) hrbs
                              go_wp2_with fail
                              go_roundw
                              case rel => exact ⟨k2 + 1, _, by omega, by go_num, hB2, hQ2, hX2⟩
                              case measure => simp [intOf]; omega
                            exact AllReadyH.nil
                          exact AllReadyH.nil
                        exact AllReadyH.nil
                      refine AllReadyH.cons (o := { dst := some 138, op := Op.buildSlice 28 1 #[(0, Operand.tmp 137)], type := 28, pos := "law.go:330", after := #[{ on := 16, ground := Ground.data }], guard := none }) rfl (fun K hK => ?_) ?_
                      · go_simp
                        try (go_wp2_with fail)
                        refine hK.out _ _ ?_ (fun hHeld => ?_)
                        · (try dsimp only); (repeat (first | (with_reducible assumption) | (with_reducible apply Fr.drew) | (with_reducible apply Fr.drewN) | (with_reducible apply Fr.alloc) | (with_reducible refine Fr.step ?_ (by assumption))))
                        clear hK K
                        try simp only [Act.put, List.setIfInBounds_toArray, List.set_cons_zero, List.set_cons_succ]
                        refine wpAnyH_ready (rs := [1]) (by kernel_rfl) (by simp) ?_
                        refine AllReadyH.cons (o := { dst := some 122, op := Op.load 28 (Operand.tmp 121), type := 28, pos := "law.go:330", after := #[{ on := 0, ground := Ground.data }], guard := none }) rfl (fun K hK => ?_) ?_
                        · go_simp
                          try (go_wp2_with fail)
                          refine hK.out _ _ ?_ (fun hHeld => ?_)
                          · (try dsimp only); (repeat (first | (with_reducible assumption) | (with_reducible apply Fr.drew) | (with_reducible apply Fr.drewN) | (with_reducible apply Fr.alloc) | (with_reducible refine Fr.step ?_ (by assumption))))
                          clear hK K
                          try simp only [Act.put, List.setIfInBounds_toArray, List.set_cons_zero, List.set_cons_succ]
                          refine wpAnyH_ready (rs := [18]) (by kernel_rfl) (by simp) ?_
                          refine AllReadyH.cons (o := { dst := some 139, op := Op.call { callee := Callee.builtin Builtin.append, args := #[Operand.tmp 122, Operand.tmp 138], argTypes := #[28, 28] }, type := 28, pos := "law.go:330", after := #[{ on := 1, ground := Ground.data }, { on := 17, ground := Ground.data }, { on := 16, ground := Ground.chain }], guard := none }) rfl (fun K hK => ?_) ?_
                          · skip
                            first
                              | (go_at_call 21; (with_reducible refine (RatOf_b zq _ (by omega) (by omega)).mono ?_); rintro e wl ⟨vl, rfl, hbl, hxl⟩; (obtain ⟨pl, Al, nl, cl, pl', Al', nl', cl', rfl⟩ := hbl.1.shape); (have hlL : Ext wr wl := Ext.trans (by repeat (first | (with_reducible exact Ext.refl _) | (with_reducible apply Ext.drew) | (with_reducible apply Ext.drewN))) hxl); (have d0 := hlL.cell d0w))
                              | (go_at_call 33; (with_reducible refine (RatMul_b _ _ _ _ _ _ _ (RatB.ext hrb (by repeat (first | (with_reducible exact Ext.refl _) | (with_reducible apply Ext.drew) | (with_reducible apply Ext.drewN) | (with_reducible refine Ext.trans ?_ (by assumption))))) (RatB.ext hbl (by repeat (first | (with_reducible exact Ext.refl _) | (with_reducible apply Ext.drew) | (with_reducible apply Ext.drewN) | (with_reducible refine Ext.trans ?_ (by assumption))))) (by omega)).mono ?_); rintro e wm ⟨vm, rfl, hbm, hxm⟩; (obtain ⟨pm, Am, nm, cm, pm', Am', nm', cm', rfl⟩ := hbm.1.shape); (have hmL : Ext wr wm := Ext.trans hlL (Ext.trans (by repeat (first | (with_reducible exact Ext.refl _) | (with_reducible apply Ext.drew) | (with_reducible apply Ext.drewN))) hxm)); (have d0 := hmL.cell d0w))
                              | ((have hza : Ext wm (wm.alloc (.cells #[.bool pm, .slice Am nm cm, .bool pm', .slice Am' nm' cm'] 37)) := (Ext.refl wm).alloc _); (refine step_pushX rfl (.tmp 122) (.tmp 138) 28 rfl w24.heap.size 37 j0 _ 4 64 Tryd.underlying28 ji jz0 jz1 jz2 rfl zR _ k2 osC rfl ((oq.ext hmL).ext hza) wm.heap.size [.bool pm, .slice Am nm cm, .bool pm', .slice Am' nm' cm'] 1 rfl rfl (new4 wm 37 _ _ _ _) one4 nou4 (by omega) (by decide) (Nat.le_trans hXw.size (Nat.le_trans hmL.size hza.size)) ?_); intro v6 y6 o6 r6 s6; (have tb6 := boxR ((hB.ext hmL).ext hza) ((oq.ext hmL).ext hza) r6 (by decide)); (have c6 := tb6.c0); (have z6 := tb6.frozen 0); (obtain ⟨A6, d6, rfl⟩ := o6.shape); (have hS6 : Fr (PD (Value.slice AC k2 cC) rb) wr y6 := ((Fr.of hmL).trans (Fr.of hza)).trans (r6.weak (fun b hb => .inl hb))); (have hS7 : Fr (PD (Value.slice AC k2 cC) rb) wr (y6.setCell ⟨rb, 0, none⟩ (.slice A6 (k2 + 1) d6)) := hS6.set (p := ⟨rb, 0, none⟩) (.inr rfl) (fun z => by rw [c6]; intro e; cases e) _))
                              | skip
                            try (go_wp2_with fail)
                            refine hK.out _ _ ?_ (fun hHeld => ?_)
                            · (try dsimp only); (repeat (first | (with_reducible assumption) | (with_reducible apply Fr.drew) | (with_reducible apply Fr.drewN) | (with_reducible apply Fr.alloc) | (with_reducible refine Fr.step ?_ (by assumption))))
                            clear hK K
                            try simp only [Act.put, List.setIfInBounds_toArray, List.set_cons_zero, List.set_cons_succ]
                            refine wpAnyH_take (i := 19) (oi := { dst := some 140, op := Op.fieldAddr 48 (Operand.tmp 14) 0, type := 0, pos := "law.go:330", after := #[{ on := 0, ground := Ground.phase }, { on := 1, ground := Ground.phase }, { on := 2, ground := Ground.phase }, { on := 3, ground := Ground.phase }, { on := 4, ground := Ground.phase }, { on := 5, ground := Ground.phase }, { on := 6, ground := Ground.phase }, { on := 7, ground := Ground.phase }, { on := 8, ground := Ground.phase }, { on := 9, ground := Ground.phase }, { on := 10, ground := Ground.phase }, { on := 11, ground := Ground.phase }, { on := 12, ground := Ground.phase }, { on := 13, ground := Ground.phase }, { on := 14, ground := Ground.phase }, { on := 15, ground := Ground.phase }, { on := 16, ground := Ground.phase }, { on := 17, ground := Ground.phase }, { on := 18, ground := Ground.phase }], guard := none }) (v := ?_) rfl (by kernel_rfl) (by kernel_rfl) (by kernel_rfl) (fun _ _ _ h => h) (Or.inl ⟨by rfl, ?_⟩) (by assumption) ?_
                            rotate_left
                            · intro w hSw; (try dsimp only at hSw); go_simp; try (with_reducible rfl)
                            try simp only [Act.put, List.setIfInBounds_toArray, List.set_cons_zero, List.set_cons_succ]
                            refine wpAnyH_ready (rs := [20]) (by kernel_rfl) (by simp) ?_
                            refine AllReadyH.cons (o := { dst := none, op := Op.store 28 (Operand.tmp 140) (Operand.tmp 139), type := 0, pos := "law.go:330", after := #[{ on := 19, ground := Ground.data }, { on := 18, ground := Ground.data }, { on := 18, ground := Ground.chain }, { on := 0, ground := Ground.phase }, { on := 1, ground := Ground.phase }, { on := 2, ground := Ground.phase }, { on := 3, ground := Ground.phase }, { on := 4, ground := Ground.phase }, { on := 5, ground := Ground.phase }, { on := 6, ground := Ground.phase }, { on := 7, ground := Ground.phase }, { on := 8, ground := Ground.phase }, { on := 9, ground := Ground.phase }, { on := 10, ground := Ground.phase }, { on := 11, ground := Ground.phase }, { on := 12, ground := Ground.phase }, { on := 13, ground := Ground.phase }, { on := 14, ground := Ground.phase }, { on := 15, ground := Ground.phase }, { on := 16, ground := Ground.phase }, { on := 17, ground := Ground.phase }, { on := 18, ground := Ground.phase }], guard := none }) rfl (fun K hK => ?_) ?_
                            · go_simp
                              try (go_wp2_with fail)
                              refine hK.out _ _ ?_ (fun hHeld => ?_)
                              · (try dsimp only); (repeat (first | (with_reducible assumption) | (with_reducible apply Fr.drew) | (with_reducible apply Fr.drewN) | (with_reducible apply Fr.alloc) | (with_reducible refine Fr.step ?_ (by assumption))))
                              clear hK K
                              try simp only [Act.put, List.setIfInBounds_toArray, List.set_cons_zero, List.set_cons_succ]
                              refine wpAnyH_done (by kernel_rfl) ?_ _
                              have a6 := At.push (f := D.coef j) oq.1 (fun i hi => (aq i hi).fr (Fr.of (P := fun _ => False) (hmL.trans hza))) r6 (by rw [HOB.out]; exact (hbm.ext hza).1)
                              obtain ⟨hB2, hQ2, hX2⟩ := coef_push ((hB.ext hmL).ext hza) ((hQ.ext hmL).ext hza) o6 a6 r6 ((hXw.trans hmL).trans hza) hrbs
                              go_wp2_with fail
                              go_roundw
                              case rel => exact ⟨k2 + 1, _, by omega, by go_num, hB2, hQ2, hX2⟩
                              case measure => simp [intOf]; omega
                            exact AllReadyH.nil
                          exact AllReadyH.nil
                        exact AllReadyH.nil
                      exact AllReadyH.nil
                    exact AllReadyH.nil
                  exact AllReadyH.nil
                · obtain rfl : k2 = kk := by omega
                  obtain ⟨hnc, hcc, hrats⟩ := OwnQ.rats hQ
                  obtain ⟨bc, rfl, hRow, hbcs⟩ := hrats (by omega)
                  have hT9 := hT.ext hXw
                  have hX9 := hX.trans hXw
                  have hsz24 := hX.size
                  have HNE : Hid (∀ i, i < j → 0 < D.len i → rA i ≠ some ⟨bc, 0, none⟩) := Lib.hid (fun i hi hl e => by
                    obtain ⟨xs9, ox9, mx9⟩ := hT.rows
                    obtain ⟨b9, e9, hr9, -⟩ := (mx9.coef i hi).2.2 hl
                    rw [e] at e9; injection e9 with e9; injection e9 with e9
                    have := hr9.lt; omega)
                  have HNO : Hid ((Value.slice AO k2 cO).ownBlock ≠ some bc) := Lib.hid (fun e => by
                    obtain ⟨ys9, oq9, aq9⟩ := hT.obj
                    have := (oq9.lt e).2.1; omega)
                  have hC9 := hC.ext hXw
                  obtain ⟨xsR, oX, mX⟩ := hT9.rows
                  obtain ⟨AR, cR', rfl⟩ := oX.shape
                  have u0 := hB.c0
                  have u1 := hB.c1
                  have u2 := hB.cell 2
                  have u3 := hB.cell 3
                  have u4 := hB.cell 4
                  have u5 := hB.cell 5
                  have cR := hT9.box.c1
                  have zR' := hT9.box.frozen 1
                  have hsz := hX9.size
                  have hqr : RatV wr (.agg #[.bool x, .slice Bq d e, .bool y, .slice Bq' d' e']) (p.obj j) := hro.ext hXw
                  have hza : Ext wr (wr.alloc (.cells #[.slice (some ⟨bc, 0, none⟩) k2 cC, .int .u8 3, .bool x, .slice Bq d e, .bool y, .slice Bq' d' e'] 48)) := (Ext.refl wr).alloc _
                  clear oq aq hrats hT hX hC
                  go_wp2_with (at_builtin; refine wpList_pushX rfl (.tmp 143) (.tmp 145) 29 rfl U6.heap.size 48 irR _ 6 96 Tryd.underlying29 g1 g2 g3 g4 rfl zRow _ j xsR rfl (oX.ext hza) wr.heap.size [.slice (some ⟨bc, 0, none⟩) k2 cC, .int .u8 3, .bool x, .slice Bq d e, .bool y, .slice Bq' d' e'] 1 rfl rfl (new6 wr 48 _ _ _ _ _ _) one6 nou6 (by omega) (by decide) (by simp; omega) ?_; intro v6 y6 o6 r6 s6; have tb6 := boxR (hT9.box.ext hza) (oX.ext hza) r6 (by decide); have c6 := tb6.c1; have z6 := tb6.frozen 1; obtain ⟨A6, d6, rfl⟩ := o6.shape)
                  have hl0 := HL0.out
                  have hr0 := HR0.out
                  have o6' : OwnX y6 U6.heap.size 48 6 (.slice A6 (j + 1) d6) (j + 1) (xsR ++ [.slice (some ⟨bc, 0, none⟩) (D.len j) cC, .int .u8 (D.rel j : Int), .bool x, .slice Bq d e, .bool y, .slice Bq' d' e']) := by rw [hl0, hr0]; exact o6
                  obtain ⟨hT3, hF3⟩ := (hT9.ext hza).pushR (oX.ext hza) (mX.ext hza) o6' r6 (by rw [hr0]; omega) (by rw [HRI.out]; exact hqr.ext hza)
                    ⟨by rw [hl0]; exact hnc, hcc, fun _ => ⟨bc, rfl, by rw [hl0]; exact hRow.ext hza, Nat.le_trans hsz24 hbcs⟩⟩ (fun i hi hl _ => HNE.out i hi hl) (fun _ b e => by injection e with e; injection e with e; subst e; exact HNO.out)
                  have hX3 := hF3.ext (hX9.trans hza) (fun g hg => by
                    rcases hg with hg | rfl
                    · exact (oX.lt hg).1
                    · exact hdbs)
                  have hC3 := (hC9.ext hza).fr hF3 (fun g cs hcs hg => by
                    rcases hg with hg | rfl
                    · obtain ⟨-, -, cur, hcur⟩ := (oX.ext hza).lt hg
                      exact row_ne hcs hcur (by decide) rfl
                    · exact row_ne hcs (hT9.ext hza).box (by decide) rfl)
                  clear hl0 hr0
                  go_roundw
                  case rel => exact ⟨j + 1, _, _, _, by omega, by go_num, hT3, hC3, hX3⟩
                  case measure => simp [intOf]; omega
            · obtain rfl : j = p.n := by omega
              obtain ⟨xsR, oX, mX⟩ := id hT.rows
              obtain ⟨AR, cR', rfl⟩ := oX.shape
              have hP : ProbV wr (.agg #[.slice AO kk cO, .slice AR p.n cR']) D := by
                have hT' : Two wr U6.heap.size db (.slice AO kk cO) (.slice AR p.n cR') D.n D.m D.obj D rA rc := by rw [HDN.out, HDM.out]; exact hT
                exact hT'.prob
              have u0 := hT.box.c0
              have u1 := hT.box.c1
              clear oX mX hC
              go_wp2_with fail
              refine (Solve_l _ _ 24000000 _ hP (fun _ => HDB.out)).mono ?_
              rintro e w8 ⟨q2, B2, n2, c2, q2', B2', n2', c2', Bx, mx, dx, By, my, dy, f2, z2, xs2, ys2, rfl, hz2, -, -, -, -, hres2, hx8⟩
              have hfz : f2 = ip.pl.dual.err ∧ z2 = ip.pl.dual.val := by
                rw [HDD.out] at hres2
                rcases hres2.pl with ⟨-, h1, h2⟩ | ⟨h, _⟩
                · exact ⟨h1, h2⟩
                · rw [HDV.out] at h; cases h
              have hX8 := hX.trans hx8
              have HFZ := Lib.hid hfz
              clear hres2 u0 u1 hP hT hX hx8 hfz
              go_upto_region 32 with fail
              have TB := Box.new w8 39 #[.bool q2, .slice B2 n2 c2, .bool q2', .slice B2' n2' c2', .slice Bx mx dx, .slice By my dy]
              have hx9 : Ext w8 (w8.alloc (.cells #[.bool q2, .slice B2 n2 c2, .bool q2', .slice B2' n2' c2', .slice Bx mx dx, .slice By my dy] 39)) := (Ext.refl w8).alloc _
              generalize (w8.alloc (.cells #[.bool q2, .slice B2 n2 c2, .bool q2', .slice B2' n2' c2', .slice Bx mx dx, .slice By my dy] 39)) = U9 at *
              obtain ⟨tb, htb⟩ : ∃ x, x = w8.heap.size := ⟨_, rfl⟩
              rw [← htb] at TB ⊢
              have hz9 := hz2.ext hx9
              have hX9 := hX8.trans hx9
              have hzs := hz.ext hX9
              have SB9 := SB.ext hX9
              have hEF := hE6.trans hX9
              obtain ⟨hk1, hk2⟩ := HKZ.out
              have hval := (validB_pl _).1 HVA.out.symm
              have hopt := PL.dual_opt hval (PL.is HDV.out)
              rw [← HFZ.out.1, ← HFZ.out.2, ← hk1, ← hk2] at hopt
              have hrg := (PL.is hval).range
              rw [← hk1] at hrg
              have HOPT := Lib.hid hopt
              clear htb hz2 hx9 hX8 hk1 hk2 hopt SB hz
              rcases hrg with rfl | rfl | rfl
              · obtain ⟨rfl, rfl⟩ := HOPT.out.1 rfl
                go_upto_region 34 with fail
                have k0 : ∀ w', Later U9 w' → w'.cell? ⟨sb, 0, none⟩ = some _ := fun w' h => (SB9.ext h).c0
                have k1 : ∀ w', Later U9 w' → w'.cell? ⟨sb, 1, none⟩ = some _ := fun w' h => (SB9.ext h).c1
                have k2 : ∀ w', Later U9 w' → w'.cell? ⟨sb, 2, none⟩ = some _ := fun w' h => (SB9.ext h).c2
                have k3 : ∀ w', Later U9 w' → w'.cell? ⟨sb, 3, none⟩ = some _ := fun w' h => (SB9.ext h).c3
                have l0 : ∀ w', Later U9 w' → w'.cell? ⟨tb, 0, none⟩ = some _ := fun w' h => (TB.ext h).c0
                have l1 : ∀ w', Later U9 w' → w'.cell? ⟨tb, 1, none⟩ = some _ := fun w' h => (TB.ext h).c1
                have l2 : ∀ w', Later U9 w' → w'.cell? ⟨tb, 2, none⟩ = some _ := fun w' h => (TB.ext h).c2
                have l3 : ∀ w', Later U9 w' → w'.cell? ⟨tb, 3, none⟩ = some _ := fun w' h => (TB.ext h).c3
                have ks := Later.refl U9
                go_region_held3 (fun w' => Later U9 w') ((repeat (first | assumption | apply Later.drew | apply Later.drewN | apply Later.alloc | (refine Later.step ?_ (by assumption))))) (first
                  | (go_at_call 34; (with_reducible refine (RatNeg_b _ _ _ _ (RatB.ext hzs (by repeat (first | (with_reducible exact Ext.refl _) | (with_reducible apply Ext.drew) | (with_reducible apply Ext.drewN) | (with_reducible refine Ext.trans ?_ (by assumption)))))).mono ?_); rintro e wa ⟨va, rfl, hba, hxa⟩; (obtain ⟨pa, Aa, na, ca, pa', Aa', na', ca', rfl⟩ := hba.1.shape); (have hSa := Later.step (by assumption) hxa))
                  | (go_at_call 28; (with_reducible refine (RatCmp_b _ _ _ _ _ _ _ (RatB.ext hz9 (by repeat (first | (with_reducible exact Ext.refl _) | (with_reducible apply Ext.drew) | (with_reducible apply Ext.drewN) | (with_reducible refine Ext.trans ?_ (by assumption))))) (RatB.ext hba (by repeat (first | (with_reducible exact Ext.refl _) | (with_reducible apply Ext.drew) | (with_reducible apply Ext.drewN) | (with_reducible refine Ext.trans ?_ (by assumption))))) (by omega)).mono ?_); rintro e wb ⟨rfl, hxb⟩; rw [cmpQ_self])
                  )
                all_goals (go_wp2_with fail; go_ret)
                all_goals exact ⟨rfl, hEF.trans (by assumption)⟩
              · rcases HOPT.out.2.2 rfl with rfl | rfl
                · go_wp2_with fail
                  go_ret
                  exact ⟨rfl, hEF⟩
                · go_wp2_with fail
                  go_ret
                  exact ⟨rfl, hEF⟩
              · obtain rfl := HOPT.out.2.1 rfl
                go_wp2_with fail
                go_ret
                exact ⟨rfl, hEF⟩
end Go.Proofs.YtgffcblldebelaaDoor.Lp

/- The law LpFeasible, walked. -/
import Derived.Test.YtgffcblldebelaaDoorLYG
import Derived.Test.YtgffcblldebelaaDoorLX6A
import Derived.Test.YtgffcblldebelaaDoorLV5
set_option linter.unusedVariables false
set_option linter.unusedSimpArgs false
namespace Go.Proofs.YtgffcblldebelaaDoor.Lp
open Go.RowKit Go.Proofs.YtgffcblldebelaaDoor.Big Go.Proofs.YtgffcblldebelaaDoor.Rt

def bV (xs : List Int) : List Value := xs.map (Value.int .i8)
theorem bV_get {xs : List Int} {j : Nat} {x : Int} (h : xs[j]? = some x) : (bV xs)[j]? = some (.int .i8 x) := by simp [bV, h]
theorem bV_len (xs : List Int) : (bV xs).length = xs.length := by simp [bV]
set_option maxHeartbeats 1000000 in
set_option maxRecDepth 100000 in
theorem feasible_any (v : Value) (ip : IP) (A : Option Addr) (nx cx : Nat) (xs : List Int) (d : Nat) (w : World) (h : IPV w v ip) (hok : ip.ok) (hx : Row w (.slice A nx cx) (bV xs)) (hx8 : ∀ x ∈ xs, -128 ≤ x ∧ x ≤ 127) (hkd : d ≤ 255) (htab : TabOK w) :
    Calls Tryd.prog 13 #[v, .slice A nx cx, .int .u8 (d : Int)] w (ValPost w (.bool true)) := by
  have h0 := h
  obtain ⟨Ao, co, Ar, cr, rfl, -, -, -, -⟩ := h0
  obtain ⟨n0, hn0⟩ : ∃ n, n = ip.obj.length := ⟨_, rfl⟩
  obtain ⟨m0, hm0⟩ : ∃ n, n = ip.rows.length := ⟨_, rfl⟩
  obtain ⟨d0, hd0⟩ : ∃ n, n = ip.den := ⟨_, rfl⟩
  have HN0 := Lib.hid hn0
  have HM0 := Lib.hid hm0
  rw [← hn0, ← hm0, ← hd0] at h ⊢
  have HOK := Lib.hid hok
  obtain ⟨hnx, hcx, -, hrow⟩ := hx.inj
  rw [bV_len] at hnx hcx hrow
  rw [← hnx] at hcx hrow
  have HNX := Lib.hid hnx
  have HROW := Lib.hid hrow
  have HX8 := Lib.hid hx8
  clear hn0 hm0 hd0 hok hnx hrow hx hx8
  have B := Box.new w 25 #[.slice Ao n0 co, .slice Ar m0 cr, .int .u8 (d0 : Int)]
  have hE : Ext w (w.alloc (.cells #[.slice Ao n0 co, .slice Ar m0 cr, .int .u8 (d0 : Int)] 25)) := (Ext.refl w).alloc _
  go_enter Tryd.func13, Tryd.ntmps13
  go_upto_region 1 with fail
  generalize (w.alloc (.cells #[.slice Ao n0 co, .slice Ar m0 cr, .int .u8 (d0 : Int)] 25)) = V at *
  obtain ⟨ab, hab⟩ : ∃ x, x = w.heap.size := ⟨_, rfl⟩
  rw [← hab] at B ⊢
  clear hab
  go_wp2_with fail
  refine (awake_b _ (htab.ext hE)).mono ?_
  rintro e w1 ⟨rfl, hx1⟩
  replace hE := hE.trans hx1
  replace B := B.ext hx1
  have c0 := B.c0
  have c1 := B.c1
  have c2 := B.c2
  clear hx1
  go_wp2_with fail
  refine (little_b _ ip _ (h.ext hE) HOK.out).mono ?_
  rintro e w2 ⟨rfl, hx2⟩
  replace hE := hE.trans hx2
  replace B := B.ext hx2
  clear c0 c1 c2 hx2
  obtain ⟨F, hF⟩ : ∃ F, F = littleB ip := ⟨_, rfl⟩
  rw [← hF]
  have HFI := Lib.hid hF
  clear hF
  cases F with
  | false =>
    go_wp2_with fail
    refine (awake_b _ (htab.ext hE)).mono ?_
    rintro e w3 ⟨rfl, hx3⟩
    go_wp2_with fail
    go_ret
    exact ⟨rfl, hE.trans hx3⟩
  | true =>
  by_cases h8 : nx ≤ 8
  · have HLI := Lib.hid (little_iff.1 HFI.out.symm)
    have HRO := Lib.hid (little_ok HFI.out.symm)
    have HRS := Lib.hid (little_sm HFI.out.symm HOK.out)
    have g8 : decide ((8 : Int) < (nx : Int)) = false := by simp; omega
    obtain ⟨i0, ii, iz0, iz1, iz2⟩ := info_parts infoI64
    obtain ⟨j0, ji, jz0, jz1, jz2⟩ := info_parts infoRat
    go_wp2_with fail
    clear g8
    go_loopw [7, 8, 30] (fun lv pv i wr => ∃ k : Nat, k ≤ nx ∧ i = .int .i64 k ∧ OwnX wr w2.heap.size 2 1 lv k (jV (xs.take k)) ∧ OwnQ wr w2.heap.size pv k (fun j => qn (xs.getD j 0) d) ∧ Ext w2 wr) (fun _ _ i _ => nx - (intOf i).toNat)
    case atStart => exact ⟨0, by omega, rfl, OwnX.nil _ _ _ _, OwnQ.nil _ _ _, Ext.refl w2⟩
    case round =>
      obtain ⟨k, hk, rfl, hL, hQ, hX⟩ := hrel
      obtain ⟨A1, c1, rfl⟩ := hL.shape
      obtain ⟨A2, c2, rfl⟩ := hQ.shape
      by_cases hlt : k < nx
      · obtain ⟨b, off, rfl, hcell⟩ := HROW.out (by omega)
        obtain ⟨x, hxk⟩ : ∃ x, xs[k]? = some x := ⟨_, List.getElem?_eq_getElem (by have := HNX.out; omega)⟩
        have e0 := (hE.trans hX).cell (hcell k _ (bV_get hxk))
        obtain ⟨g1, g2⟩ := HX8.out x (List.mem_of_getElem? hxk)
        have r1 : IntKind.i64.wrap x = x := IntWalk.i64_in _ (by omega)
        have r2 : IntKind.i32.wrap x = x := by rw [IntKind.wrap_i32]; omega
        have HXK := Lib.hid hxk
        have HQK : Hid (qn x d = qn (xs.getD k 0) d) := Lib.hid (by rw [List.getD_eq_getElem?_getD, hxk]; rfl)
        clear hcell hxk
        have hza : Ext wr (wr.alloc (.cells #[.int .i64 x] 2)) := (Ext.refl wr).alloc _
        have hL1 := hL.ext hza
        have hQ1 := hQ.ext hza
        have hX1 := hX.trans hza
        have hN1 := new1J wr 2 (.int .i64 x)
        have hsz := hX1.size
        go_upto_region 9 with (at_builtin; refine wpList_pushX rfl (.tmp 34) (.tmp 37) 56 rfl w2.heap.size 2 i0 (.int .i64 0) 1 8 Tryd.underlying56 ii iz0 iz1 iz2 rfl zI64 _ k (jV (xs.take k)) rfl hL1 wr.heap.size [.int .i64 x] 1 rfl rfl hN1 one1i nou1i (by omega) (by decide) hsz ?_; intro v4 w4 o4 r4 s4; obtain ⟨A4, c4, rfl⟩ := o4.shape)
        have hX4 := r4.ext hX1 (fun g hg => (hL1.lt hg).1)
        obtain ⟨ys, oq, aq⟩ := hQ1
        have hap := own_apart oq hL1 (by decide)
        have oq4 := oq.fr r4 hap
        have aq4 := fun j hj => (aq j hj).fr r4
        have hQ4 : OwnQ w4 w2.heap.size (.slice A2 k c2) k (fun j => qn (xs.getD j 0) d) := ⟨ys, oq4, aq4⟩
        clear hza hL1 hN1 hsz hX1 r4 s4 e0 oq aq hap oq4 aq4 hL hQ
        go_wp2_with fail
        refine (number_b x d _ ⟨by omega, by omega⟩ hkd).mono ?_
        rintro e w5 ⟨v5, rfl, hb5, hx5⟩
        obtain ⟨p5, B5, m5, d5, p5', B5', m5', d5', rfl⟩ := hb5.1.shape
        have hz5 : Ext w4 (w5.alloc (.cells #[.bool p5, .slice B5 m5 d5, .bool p5', .slice B5' m5' d5'] 37)) := hx5.alloc _
        have hX5 := hX4.trans hz5
        have o5 := o4.ext hz5
        obtain ⟨ys5, oq5, aq5⟩ := hQ4.ext hz5
        have hb6 := hb5.1.ext ((Ext.refl w5).alloc (.cells #[.bool p5, .slice B5 m5 d5, .bool p5', .slice B5' m5' d5'] 37))
        have hN4 := new4 w5 37 (.bool p5) (.slice B5 m5 d5) (.bool p5') (.slice B5' m5' d5')
        rw [HQK.out] at hb6
        have hsz := hX5.size
        go_upto_region 10 with (at_builtin; refine wpList_pushX rfl (.tmp 39) (.tmp 44) 28 rfl w2.heap.size 37 j0 _ 4 64 Tryd.underlying28 ji jz0 jz1 jz2 rfl zR _ k ys5 rfl oq5 w5.heap.size [.bool p5, .slice B5 m5 d5, .bool p5', .slice B5' m5' d5'] 1 rfl rfl hN4 one4 nou4 (by omega) (by decide) hsz ?_; intro v6 w6 o6 r6 s6; obtain ⟨A6, c6, rfl⟩ := o6.shape)
        have hX6 := r6.ext hX5 (fun g hg => (oq5.lt hg).1)
        have a6 := At.push oq5.1 aq5 r6 hb6
        have o7 := o5.fr r6 (own_apart o5 oq5 (by decide))
        clear r6 s6 hN4 hsz hX5 hX4 oq5 aq5 hb5 hb6 o5 hQ4 hz5 hx5
        go_wp2_with fail
        go_roundw
        case rel => exact ⟨k + 1, by omega, by go_num, by rw [take_succ' _ HXK.out, ← jV_push]; exact o7, ⟨_, o6, a6⟩, hX6⟩
        case measure => simp [intOf]; omega
      · obtain rfl : k = nx := by omega
        have HPO := Lib.hid hQ.rats.rats
        have HLJ : Hid (RowJ wr (.slice A1 k c1) xs) := Lib.hid (by have := hL.rowE; rwa [List.take_of_length_le (by rw [HNX.out]; exact Nat.le_refl _)] at this)
        replace hE := hE.trans hX
        replace B := B.ext hX
        have c0 := B.c0
        have c1' := B.c1
        have c2' := B.c2
        clear hL hQ hX
        go_wp2_with fail
        refine (Make_b _ ip _ (h.ext hE) HOK.out).mono ?_
        rintro e w3 ⟨v3, a, rfl, hM, hx3⟩
        have hP := hM.prob
        have hv3 := hM.val
        subst hv3
        replace hE := hE.trans hx3
        replace B := B.ext hx3
        clear c0 c1' c2' hM
        go_upto_region 12 with fail
        obtain ⟨p, hp⟩ : ∃ p, p = ip.pl.toP := ⟨_, rfl⟩
        rw [← hp] at hP ⊢
        have HP := Lib.hid hp
        clear hp
        obtain ⟨D, hD⟩ : ∃ D : Int, D = 1 + (d : Int) % 6 := ⟨_, rfl⟩
        rw [← hD]
        have hD1 : 1 ≤ D := by omega
        have hD6 : D ≤ 6 := by omega
        have HD := Lib.hid hD
        clear hD
        have QBx := Box.new w3 31 #[.slice a.Ao p.n a.co, .slice a.Ar p.m a.cr]
        have hx4 : Ext w3 (w3.alloc (.cells #[.slice a.Ao p.n a.co, .slice a.Ar p.m a.cr] 31)) := (Ext.refl w3).alloc _
        generalize (w3.alloc (.cells #[.slice a.Ao p.n a.co, .slice a.Ar p.m a.cr] 31)) = U at *
        obtain ⟨qb, hqb⟩ : ∃ x, x = w3.heap.size := ⟨_, rfl⟩
        rw [← hqb] at QBx ⊢
        clear hqb
        replace hE := hE.trans hx4
        replace B := B.ext hx4
        have hPU := hP.ext hx4
        have hXU := HPO.out.ext (hx3.trans hx4)
        have HLU : Hid (RowJ U (.slice A1 k c1) xs) := Lib.hid (RowE.ext HLJ.out (hx3.trans hx4))
        have HCF : Hid ((∀ i, i < p.m → ∀ j, j < p.n → QB 2 (p.coef i j)) ∧ (∀ i, i < p.m → QB 2 (p.right i)) ∧ (∀ j, j < p.n → QB 2 (p.obj j)) ∧ (∀ j, j < k → QB 2 (qn (xs.getD j 0) d))) := Lib.hid (by
          rw [HP.out]
          refine ⟨fun i hi j _ => IP.coef_b HOK.out hi j, fun i hi => IP.right_b HOK.out hi, fun j _ => IP.obj_b HOK.out j, fun j hj => qn_bound ?_⟩
          obtain ⟨x, hx⟩ : ∃ x, xs[j]? = some x := ⟨_, List.getElem?_eq_getElem (by have := HNX.out; omega)⟩
          obtain ⟨g1, g2⟩ := HX8.out x (List.mem_of_getElem? hx)
          rw [List.getD_eq_getElem?_getD, hx]
          exact ⟨by show -2147483648 ≤ x; omega, by show x ≤ 2147483647; omega⟩)
        have HPN : Hid (p.n = n0 ∧ validB p = true) := Lib.hid (by rw [HP.out, IP.pn]; exact ⟨HN0.out.symm, HLI.out.2.2.2.2.1⟩)
        have c0 := B.c0
        clear hP hx3 hx4 HPO HLJ
        by_cases hkn : k = n0
        · have hlx : xs.length = ip.obj.length := by have := HNX.out; have := HN0.out; omega
          have HJ1 : Hid (ip.rp.feas xs D = feasB p k (fun j => qn (xs.getD j 0) d)) := Lib.hid (by rw [feas_join HFI.out.symm hlx HD.out, HP.out, hkn, HN0.out])
          have HJ2 : Hid ((if validB p = true ∧ k = p.n then dot p.n p.obj (fun j => qn (xs.getD j 0) d) else 0) = Rat.divInt (dotI ip.obj xs) D) := Lib.hid (by rw [if_pos ⟨HPN.out.2, hkn.trans HPN.out.1.symm⟩, HP.out]; exact value_join HFI.out.symm hlx HD.out)
          have hSb : -30720 ≤ dotI ip.obj xs ∧ dotI ip.obj xs ≤ 30720 := by
            unfold dotI
            have h5 := smI_le (n := min ip.obj.length xs.length) (C := 60 * 128) (by omega) (f := fun i => ip.obj.getD i 0 * xs.getD i 0) (fun j _ => abs_mul (HRS.out.obj j) (getD_inC HX8.out j) (by omega))
            have h6 : ((min ip.obj.length xs.length : Nat) : Int) ≤ 4 := by have := HLI.out.2.2.1; omega
            have h8 := Int.mul_le_mul_of_nonneg_right h6 (show (0 : Int) ≤ 60 * 128 by omega)
            omega
          have hXB : Hid (∀ i, inC 1296000 (xs.getD i 0)) := Lib.hid (fun i => by have := getD_inC HX8.out i; unfold inC at this ⊢; omega)
          have hk4 : k ≤ 4 := by have := HLI.out.2.2.1; have := HN0.out; omega
          obtain ⟨S, hS⟩ : ∃ S, S = dotI ip.obj xs := ⟨_, rfl⟩
          rw [← hS] at HJ2 hSb
          have HSS := Lib.hid hS
          clear hS
          have e1 : ((k : Int) == (n0 : Int)) = true := by simp; omega
          have q0 := QBx.c0
          have q1 := QBx.c1
          have p1 := B.c1
          have p2 := B.c2
          clear hkn hlx
          go_wp2_with fail
          refine (plain_b _ ip _ (h.ext hE) HOK.out).mono ?_
          rintro e w5 ⟨v5, rfl, hP5, hx5⟩
          replace hE := hE.trans hx5
          replace B := B.ext hx5
          replace QBx := QBx.ext hx5
          replace hPU := hPU.ext hx5
          replace hXU := hXU.ext hx5
          replace HLU : Hid (RowJ w5 (.slice A1 k c1) xs) := Lib.hid (RowE.ext HLU.out hx5)
          clear c0 p1 p2 q0 q1 hx5
          go_wp2_with fail
          refine (rvalue_b _ ip.rp _ _ _ xs _ hP5 HRS.out HLU.out hXB.out hk4).mono ?_
          rintro e w6 ⟨rfl, hx6⟩
          rw [show dotI ip.rp.obj xs = S from HSS.out.symm]
          replace hE := hE.trans hx6
          replace B := B.ext hx6
          replace QBx := QBx.ext hx6
          replace hPU := hPU.ext hx6
          replace hXU := hXU.ext hx6
          replace HLU : Hid (RowJ w6 (.slice A1 k c1) xs) := Lib.hid (RowE.ext HLU.out hx6)
          clear hP5 hx6
          go_wp2_with fail
          refine (Frac_b S D _ (by omega) (by omega) (by omega) (by omega) (by omega)).mono ?_
          rintro e w7 ⟨v7, rfl, hb7, hx7⟩
          obtain ⟨p7, A7, m7, d7, p7', A7', m7', d7', rfl⟩ := hb7.1.shape
          replace hE := hE.trans hx7
          replace B := B.ext hx7
          replace QBx := QBx.ext hx7
          replace hPU := hPU.ext hx7
          replace hXU := hXU.ext hx7
          replace HLU : Hid (RowJ w7 (.slice A1 k c1) xs) := Lib.hid (RowE.ext HLU.out hx7)
          clear hx7
          go_upto_region 15 with fail
          have FB := Box.new w7 37 #[.bool p7, .slice A7 m7 d7, .bool p7', .slice A7' m7' d7']
          have hx8 : Ext w7 (w7.alloc (.cells #[.bool p7, .slice A7 m7 d7, .bool p7', .slice A7' m7' d7'] 37)) := (Ext.refl w7).alloc _
          generalize (w7.alloc (.cells #[.bool p7, .slice A7 m7 d7, .bool p7', .slice A7' m7' d7'] 37)) = G at *
          obtain ⟨fb, hfb⟩ : ∃ x, x = w7.heap.size := ⟨_, rfl⟩
          rw [← hfb] at FB ⊢
          clear hfb
          replace hE := hE.trans hx8
          replace B := B.ext hx8
          replace QBx := QBx.ext hx8
          replace hPU := hPU.ext hx8
          replace hXU := hXU.ext hx8
          replace HLU : Hid (RowJ G (.slice A1 k c1) xs) := Lib.hid (RowE.ext HLU.out hx8)
          replace hb7 := hb7.ext hx8
          have hVG := h.ext hE
          clear hx8
          have kb0 : ∀ w', Later G w' → w'.cell? ⟨ab, 0, none⟩ = some _ := fun w' h => (B.ext h).c0
          have kb1 : ∀ w', Later G w' → w'.cell? ⟨ab, 1, none⟩ = some _ := fun w' h => (B.ext h).c1
          have kb2 : ∀ w', Later G w' → w'.cell? ⟨ab, 2, none⟩ = some _ := fun w' h => (B.ext h).c2
          have kq0 : ∀ w', Later G w' → w'.cell? ⟨qb, 0, none⟩ = some _ := fun w' h => (QBx.ext h).c0
          have kq1 : ∀ w', Later G w' → w'.cell? ⟨qb, 1, none⟩ = some _ := fun w' h => (QBx.ext h).c1
          have kf0 : ∀ w', Later G w' → w'.cell? ⟨fb, 0, none⟩ = some _ := fun w' h => (FB.ext h).c0
          have kf1 : ∀ w', Later G w' → w'.cell? ⟨fb, 1, none⟩ = some _ := fun w' h => (FB.ext h).c1
          have kf2 : ∀ w', Later G w' → w'.cell? ⟨fb, 2, none⟩ = some _ := fun w' h => (FB.ext h).c2
          have kf3 : ∀ w', Later G w' → w'.cell? ⟨fb, 3, none⟩ = some _ := fun w' h => (FB.ext h).c3
          have ks := Later.refl G
          obtain ⟨F, hF⟩ : ∃ F, F = feasB p k (fun j => qn (xs.getD j 0) d) := ⟨_, rfl⟩
          rw [← hF] at HJ1
          have HFF := Lib.hid hF
          clear hF
          have hDD : 0 ≤ D ∧ D ≤ 1296000 := by omega
          cases F
          all_goals (
            go_region_held3 (fun w' => Later G w') ((repeat (first | assumption | apply Later.drew | apply Later.drewN | apply Later.alloc | (refine Later.step ?_ (by assumption))))) (first
              | (go_at_call 37; (with_reducible refine (Feasible_b _ p _ _ _ _ 2 2 2 100 _ (ProbV.ext hPU (by repeat (first | (with_reducible exact Ext.refl _) | (with_reducible apply Ext.drew) | (with_reducible apply Ext.drewN) | (with_reducible refine Ext.trans ?_ (by assumption))))) (RatsV.ext hXU (by repeat (first | (with_reducible exact Ext.refl _) | (with_reducible apply Ext.drew) | (with_reducible apply Ext.drewN) | (with_reducible refine Ext.trans ?_ (by assumption))))) HCF.out.1 HCF.out.2.1 HCF.out.2.2.2 (by omega) (by omega) (by omega) (by omega) (by omega)).mono ?_); rintro e wk ⟨rfl, hxk⟩; rw [← HFF.out])
              | (go_at_call 26; (with_reducible refine (plain_b _ ip _ (IPV.ext hVG (by repeat (first | (with_reducible exact Ext.refl _) | (with_reducible apply Ext.drew) | (with_reducible apply Ext.drewN) | (with_reducible refine Ext.trans ?_ (by assumption))))) HOK.out).mono ?_); rintro e wk ⟨vk, rfl, hPk, hxk⟩)
              | (go_at_call 41; (with_reducible refine (rfeas_b _ ip.rp _ _ _ xs D _ (RPV.ext hPk (by repeat (first | (with_reducible exact Ext.refl _) | (with_reducible apply Ext.drew) | (with_reducible apply Ext.drewN) | (with_reducible refine Ext.trans ?_ (by assumption))))) HRS.out (RowE.ext HLU.out (by repeat (first | (with_reducible exact Ext.refl _) | (with_reducible apply Ext.drew) | (with_reducible apply Ext.drewN) | (with_reducible refine Ext.trans ?_ (by assumption))))) hXB.out hDD hk4).mono ?_); rintro e wk ⟨rfl, hxk⟩; rw [HJ1.out])
              | (go_at_call 38; (with_reducible refine (Value_b _ p _ _ _ _ 2 2 100 _ (ProbV.ext hPU (by repeat (first | (with_reducible exact Ext.refl _) | (with_reducible apply Ext.drew) | (with_reducible apply Ext.drewN) | (with_reducible refine Ext.trans ?_ (by assumption))))) (RatsV.ext hXU (by repeat (first | (with_reducible exact Ext.refl _) | (with_reducible apply Ext.drew) | (with_reducible apply Ext.drewN) | (with_reducible refine Ext.trans ?_ (by assumption))))) HCF.out.2.2.1 HCF.out.2.2.2 (by omega) (by omega) (by omega) (by omega)).mono ?_); rintro e wk ⟨vk, rfl, hbk, hxk⟩; rw [HJ2.out] at hbk; obtain ⟨pk, Ak, mk, dk, pk', Ak', mk', dk', rfl⟩ := hbk.1.shape)
              | (go_at_call 28; (with_reducible refine (RatCmp_b _ _ _ _ _ _ _ (RatB.ext hbk (by repeat (first | (with_reducible exact Ext.refl _) | (with_reducible apply Ext.drew) | (with_reducible apply Ext.drewN) | (with_reducible refine Ext.trans ?_ (by assumption))))) (RatB.ext hb7 (by repeat (first | (with_reducible exact Ext.refl _) | (with_reducible apply Ext.drew) | (with_reducible apply Ext.drewN) | (with_reducible refine Ext.trans ?_ (by assumption))))) (by omega)).mono ?_); rintro e wk ⟨rfl, hxk⟩; rw [cmpQ_self])
              )
            all_goals (
              clear kb0 kb1 kb2 kq0 kq1 kf0 kf1 kf2 kf3
              go_wp2_with fail
              go_ret
              exact ⟨rfl, hE.trans (by repeat (first | assumption | (with_reducible exact Ext.refl _) | (with_reducible apply Ext.drew) | (with_reducible apply Ext.drewN) | (with_reducible refine Ext.trans ?_ (by assumption))))⟩))
        · have e1 : ((k : Int) == (n0 : Int)) = false := by simp; omega
          have HFE : Hid (feasB p k (fun j => qn (xs.getD j 0) d) = false) := Lib.hid (by
            cases e : feasB p k (fun j => qn (xs.getD j 0) d) with
            | false => rfl
            | true => exact absurd ((feasB_iff.1 e).2.1.trans HPN.out.1) hkn)
          have HIF : Hid ((if validB p = true ∧ k = p.n then dot p.n p.obj (fun j => qn (xs.getD j 0) d) else 0) = 0) := Lib.hid (by rw [if_neg (fun h => hkn (h.2.trans HPN.out.1))])
          have q0 := QBx.c0
          have q1 := QBx.c1
          go_wp2_with fail
          refine (Feasible_b _ p _ _ _ _ 2 2 2 100 _ hPU hXU HCF.out.1 HCF.out.2.1 HCF.out.2.2.2 (by omega) (by omega) (by omega) (by omega) (by omega)).mono ?_
          rintro e w5 ⟨rfl, hx5⟩
          rw [HFE.out]
          replace hE := hE.trans hx5
          replace hPU := hPU.ext hx5
          replace hXU := hXU.ext hx5
          replace q0 := hx5.cell q0
          replace q1 := hx5.cell q1
          clear c0 hx5
          go_wp2_with fail
          refine (Value_b _ p _ _ _ _ 2 2 100 _ hPU hXU HCF.out.2.2.1 HCF.out.2.2.2 (by omega) (by omega) (by omega) (by omega)).mono ?_
          rintro e w6 ⟨v6, rfl, hb6, hx6⟩
          rw [HIF.out] at hb6
          replace hE := hE.trans hx6
          obtain ⟨p6, B6, m6, d6, p6', B6', m6', d6', rfl⟩ := hb6.1.shape
          go_wp2_with fail
          refine (RatSign_b _ 0 _ _ hb6).mono ?_
          rintro e w7 ⟨rfl, hx7⟩
          go_wp2_with fail
          go_ret
          exact ⟨rfl, hE.trans hx7⟩
  · have g8 : decide ((8 : Int) < (nx : Int)) = true := by simp; omega
    go_wp2_with fail
    refine (awake_b _ (htab.ext hE)).mono ?_
    rintro e w3 ⟨rfl, hx3⟩
    go_wp2_with fail
    go_ret
    exact ⟨rfl, hE.trans hx3⟩
end Go.Proofs.YtgffcblldebelaaDoor.Lp

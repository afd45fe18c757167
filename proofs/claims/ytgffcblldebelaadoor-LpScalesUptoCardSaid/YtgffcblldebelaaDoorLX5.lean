/- The law LpScales, walked. -/
import Derived.Test.YtgffcblldebelaaDoorLX6A
import Derived.Test.YtgffcblldebelaaDoorLXB
import Derived.Test.YtgffcblldebelaaDoorLXD
import Derived.BigRegion
set_option linter.unusedVariables false
set_option linter.unusedSimpArgs false
namespace Go.Proofs.YtgffcblldebelaaDoor.Lp
open Go.RowKit Go.Proofs.YtgffcblldebelaaDoor.Big Go.Proofs.YtgffcblldebelaaDoor.Rt

theorem meas_lt {m j : Nat} (h : j < m) : m - (intOf (Value.int .i64 ((j + 1 : Nat) : Int))).toNat < m - (intOf (Value.int .i64 (j : Int))).toNat := by
  simp only [intOf]
  omega
theorem meas_lt' {m j : Nat} (h : j < m) : m - (intOf (Value.int .i64 ((j : Int) + 1))).toNat < m - (intOf (Value.int .i64 (j : Int))).toNat := by
  simp only [intOf]
  omega
theorem ext4' {w0 w : World} {b : Nat} (hb : w0.heap.size ≤ b) (h : Ext w0 w) (u0 u1 u2 u3 : Value) : Ext w0 ((((w.setCell ⟨b, 0, none⟩ u0).setCell ⟨b, 1, none⟩ u1).setCell ⟨b, 2, none⟩ u2).setCell ⟨b, 3, none⟩ u3) :=
  (((h.set (p := ⟨b, 0, none⟩) hb u0).set (p := ⟨b, 1, none⟩) hb u1).set (p := ⟨b, 2, none⟩) hb u2).set (p := ⟨b, 3, none⟩) hb u3
set_option maxHeartbeats 4000000 in
set_option maxRecDepth 100000 in
theorem scales_any (v : Value) (ip : IP) (k0 : Int) (w : World) (h : IPV w v ip) (hok : ip.ok) (hk0 : 0 ≤ k0 ∧ k0 ≤ 255) (htab : TabOK w) : Calls Tryd.prog 7 #[v, .int .u8 k0] w (ValPost w (.bool true)) := by
  have h0 := h
  obtain ⟨Ao, co, Ar, cr, rfl, -, -, -, -⟩ := h0
  obtain ⟨n0, hn0⟩ : ∃ n, n = ip.obj.length := ⟨_, rfl⟩
  obtain ⟨m0, hm0⟩ : ∃ n, n = ip.rows.length := ⟨_, rfl⟩
  obtain ⟨d0, hd0⟩ : ∃ n, n = ip.den := ⟨_, rfl⟩
  have HN0 := Lib.hid hn0
  have HM0 := Lib.hid hm0
  rw [← hn0, ← hm0, ← hd0] at h ⊢
  have HOK := Lib.hid hok
  clear hn0 hm0 hd0 hok
  have B := Box.new w 25 #[.slice Ao n0 co, .slice Ar m0 cr, .int .u8 (d0 : Int)]
  have hE : Ext w (w.alloc (.cells #[.slice Ao n0 co, .slice Ar m0 cr, .int .u8 (d0 : Int)] 25)) := (Ext.refl w).alloc _
  go_enter Tryd.func7, Tryd.ntmps7
  go_upto_region 1 with fail
  generalize (w.alloc (.cells #[.slice Ao n0 co, .slice Ar m0 cr, .int .u8 (d0 : Int)] 25)) = V at *
  obtain ⟨ab, hab⟩ : ∃ x, x = w.heap.size := ⟨_, rfl⟩
  rw [← hab] at B ⊢
  clear hab
  go_wp2_with fail
  refine (awake_b _ (htab.ext hE)).mono ?_
  rintro e w1 ⟨rfl, hx1⟩
  replace hE := hE.trans hx1
  replace B := B.ext hx1
  have c0 := B.c0
  have c1 := B.c1
  have c2 := B.c2
  clear hx1
  go_wp2_with fail
  refine (fits_b _ ip _ (h.ext hE)).mono ?_
  rintro e w2 ⟨rfl, hx2⟩
  replace hE := hE.trans hx2
  replace B := B.ext hx2
  clear c0 c1 c2 hx2
  obtain ⟨F, hF⟩ : ∃ F, F = fitB ip := ⟨_, rfl⟩
  rw [← hF]
  have HFI := Lib.hid hF
  clear hF
  cases F with
  | false =>
    go_wp2_with fail
    refine (awake_b _ (htab.ext hE)).mono ?_
    rintro e w3 ⟨rfl, hx3⟩
    go_wp2_with fail
    go_ret
    exact ⟨rfl, hE.trans hx3⟩
  | true =>
  have hfit := fitB_iff.1 HFI.out.symm
  have HFT := Lib.hid hfit
  clear hfit
  have c0 := B.c0
  have c1 := B.c1
  have c2 := B.c2
  go_wp2_with fail
  refine (Make_b _ ip _ (h.ext hE) HOK.out).mono ?_
  rintro e w3 ⟨v3, a, rfl, hM, hx3⟩
  have hP := hM.prob
  have hv3 := hM.val
  subst hv3
  replace hE := hE.trans hx3
  replace B := B.ext hx3
  clear c0 c1 c2 hx3 hM
  go_wp2_with fail
  refine (Valid_b _ _ _ hP).mono ?_
  rintro e w4 ⟨rfl, hx4⟩
  replace hE := hE.trans hx4
  replace B := B.ext hx4
  clear hP hx4
  obtain ⟨F2, hF2⟩ : ∃ F, F = validB ip.pl.toP := ⟨_, rfl⟩
  rw [← hF2]
  have HVA := Lib.hid hF2
  clear hF2
  cases F2 with
  | false =>
    go_wp2_with fail
    refine (awake_b _ (htab.ext hE)).mono ?_
    rintro e w5 ⟨rfl, hx5⟩
    go_wp2_with fail
    go_ret
    exact ⟨rfl, hE.trans hx5⟩
  | true =>
  have HBD : Hid (Bnd ip.pl.toP 16000000) := Lib.hid (IP.bnd HOK.out (by rw [IP.pn]; exact HFT.out.1) (by rw [IP.pm]; have := HFT.out.2; omega) HVA.out.symm)
  have c0 := B.c0
  have c1 := B.c1
  have c2 := B.c2
  go_wp2_with fail
  refine (Make_b _ ip _ (h.ext hE) HOK.out).mono ?_
  rintro e w5 ⟨v5, a5, rfl, hM5, hx5⟩
  have hP5 := hM5.prob
  have hv5 := hM5.val
  subst hv5
  replace hE := hE.trans hx5
  replace B := B.ext hx5
  clear c0 c1 c2 hx5 hM5
  go_wp2_with fail
  refine (Solve_l _ _ 16000000 _ hP5 (fun _ => HBD.out)).mono ?_
  rintro e w6 ⟨q, A, n, c, q', A', n', c', Ax, nx, cx, Ay, ny, cy, k, z, xs, ys, rfl, hz, hX, hY, hbx, hby, hres, hx6⟩
  replace hE := hE.trans hx6
  replace B := B.ext hx6
  have hkz : ip.pl.valid = true ∧ k = ip.pl.err ∧ z = ip.pl.val := by
    rcases hres.pl with h | ⟨h, _⟩
    · exact h
    · rw [(validB_pl _).1 HVA.out.symm] at h; cases h
  have HKZ := Lib.hid hkz
  clear hP5 hx6 hX hY hbx hby hres hkz
  go_upto_region 4 with fail
  have SB := Box.new w6 39 #[.bool q, .slice A n c, .bool q', .slice A' n' c', .slice Ax nx cx, .slice Ay ny cy]
  have hx7 : Ext w6 (w6.alloc (.cells #[.bool q, .slice A n c, .bool q', .slice A' n' c', .slice Ax nx cx, .slice Ay ny cy] 39)) := (Ext.refl w6).alloc _
  generalize (w6.alloc (.cells #[.bool q, .slice A n c, .bool q', .slice A' n' c', .slice Ax nx cx, .slice Ay ny cy] 39)) = U at *
  obtain ⟨sb, hsb⟩ : ∃ x, x = w6.heap.size := ⟨_, rfl⟩
  rw [← hsb] at SB ⊢
  clear hsb
  replace hE := hE.trans hx7
  replace B := B.ext hx7
  replace hz := hz.ext hx7
  clear hx7
  have hEU := hE
  have SBU := SB
  have hzU := hz
  have c0 := B.c0
  have c1 := B.c1
  have c2 := B.c2
  go_wp2_with fail
  refine (Make_o _ ip _ (h.ext hE) HOK.out).mono ?_
  rintro e w8 ⟨v8, a8, rfl, hM8, hO8, hx8⟩
  have hv8 := hM8.val
  subst hv8
  replace hE := hE.trans hx8
  replace B := B.ext hx8
  replace SB := SB.ext hx8
  replace hz := hz.ext hx8
  clear c0 c1 c2
  go_upto_region 5 with fail
  have QB8 := Box.new w8 31 #[.slice a8.Ao ip.pl.toP.n a8.co, .slice a8.Ar ip.pl.toP.m a8.cr]
  have hx9 : Ext w8 (w8.alloc (.cells #[.slice a8.Ao ip.pl.toP.n a8.co, .slice a8.Ar ip.pl.toP.m a8.cr] 31)) := (Ext.refl w8).alloc _
  generalize (w8.alloc (.cells #[.slice a8.Ao ip.pl.toP.n a8.co, .slice a8.Ar ip.pl.toP.m a8.cr] 31)) = X at *
  obtain ⟨qb, hqb⟩ : ∃ x, x = w8.heap.size := ⟨_, rfl⟩
  rw [← hqb] at QB8 ⊢
  have hqs : U.heap.size ≤ qb := by rw [hqb]; exact hx8.size
  clear hqb
  have hO8 := hO8.ext hx9
  have hM8 := hM8.ext hx9
  replace hE := hE.trans hx9
  replace B := B.ext hx9
  replace SB := SB.ext hx9
  replace hz := hz.ext hx9
  have hXU := hx8.trans hx9
  clear hx8 hx9
  have HLT : Hid ((∀ k, Blk a8.Ao ip.pl.toP.n k → U.heap.size ≤ k ∧ k < X.heap.size) ∧ ∀ i, i < ip.pl.toP.m → ∀ k, Blk (a8.rA i) (ip.pl.toP.len i) k → U.heap.size ≤ k ∧ k < X.heap.size) := Lib.hid (by
    have key : ∀ {A : Option Addr} {n c : Nat} {f : Nat → Rat}, RatsO X U.heap.size A n c f → ∀ k, Blk A n k → U.heap.size ≤ k ∧ k < X.heap.size := fun {A n c f} hA k hk => by
      obtain ⟨b, e, hr, hb⟩ := hA.2.2 hk.1
      rw [hk.2] at e
      injection e with e
      injection e with e
      subst e
      exact ⟨hb, hr.lt⟩
    exact ⟨key hM8.obj, fun i hi => key (hM8.rows.coef i hi)⟩)
  go_wp2_with fail
  have hc9 : 0 ≤ k0 % 9 ∧ k0 % 9 ≤ 8 := by omega
  refine (RatOf_b (1 + k0 % 9) _ (by omega) (by omega)).mono ?_
  rintro e w9 ⟨v9, rfl, hb9, hx9⟩
  obtain ⟨pt, At, nt, ct, pt', At', nt', ct', rfl⟩ := hb9.1.shape
  obtain ⟨f, hf⟩ : ∃ f : Rat, f = ((1 + k0 % 9 : Int) : Rat) := ⟨_, rfl⟩
  rw [← hf] at hb9
  have HF0 : Hid (0 < f) := Lib.hid (by rw [hf]; exact Rat.intCast_pos.2 (by omega))
  clear hf
  go_upto_region 6 with fail
  have TB := Box.new w9 37 #[.bool pt, .slice At nt ct, .bool pt', .slice At' nt' ct']
  have hx10 : Ext w9 (w9.alloc (.cells #[.bool pt, .slice At nt ct, .bool pt', .slice At' nt' ct'] 37)) := (Ext.refl w9).alloc _
  generalize (w9.alloc (.cells #[.bool pt, .slice At nt ct, .bool pt', .slice At' nt' ct'] 37)) = Y at *
  obtain ⟨tb, htb⟩ : ∃ x, x = w9.heap.size := ⟨_, rfl⟩
  rw [← htb] at TB ⊢
  have hts : U.heap.size ≤ tb := by have := hXU.size; have := hx9.size; omega
  have htx : X.heap.size ≤ tb := by have := hx9.size; omega
  clear htb
  have hx11 := hx9.trans hx10
  replace hE := hE.trans hx11
  replace SB := SB.ext hx11
  replace hz := hz.ext hx11
  replace QB8 := QB8.ext hx11
  replace hM8 := hM8.ext hx11
  have hft := hb9.ext hx10
  replace hXU := hXU.trans hx11
  clear hx9 hx10 hx11 hb9 hO8 B
  have q0 := QB8.c0
  have t0 := TB.c0
  have t1 := TB.c1
  have t2 := TB.c2
  have t3 := TB.c3
  go_wp2_with fail
  obtain ⟨p, hp⟩ : ∃ p, p = ip.pl.toP := ⟨_, rfl⟩
  have HPP := Lib.hid hp
  have HCF : Hid ((∀ i, i < p.m → ∀ j, QB 2 (p.coef i j)) ∧ (∀ i, i < p.m → QB 2 (p.right i)) ∧ (∀ j, j < p.n → QB 2 (p.obj j))) := Lib.hid (by rw [hp]; exact ⟨fun i hi j => IP.coef_b HOK.out hi j, fun i hi => IP.right_b HOK.out hi, fun j _ => IP.obj_b HOK.out j⟩)
  have HVL : Hid p.Valid := Lib.hid (by rw [hp]; exact validB_iff.1 HVA.out.symm)
  have HPN : Hid (p.n ≤ 8 ∧ p.m ≤ 8) := Lib.hid (by rw [hp, IP.pn, IP.pm]; exact HFT.out)
  rw [← hp] at hM8 QB8 HLT ⊢
  clear hp
  refine (scale_b a8.Ao p.n a8.co p.obj _ f 2 2 _ hM8.obj.rats hft HCF.out.2.2 (by omega) (by omega) (by have := HPN.out.1; omega)).mono ?_
  rintro e w12 ⟨rfl, hg12, hk12⟩
  have hM12 := hM8.objs hk12 hg12
  have hX12 : Ext U w12 := hk12.ext hXU (fun b hb => (HLT.out.1 b hb).1)
  have QB12 := hk12.box QB8 (fun hb => by
    obtain ⟨b, e, hr⟩ := hM8.obj.rats.2.2 hb.1
    rw [hb.2] at e
    injection e with e
    injection e with e
    subst e
    obtain ⟨cs', hcs⟩ := hr.cells
    exact row_ne QB8 hcs (by decide) rfl)
  have TB12 := hk12.box TB (fun hb => by have := (HLT.out.1 _ hb).2; omega)
  have hft12 := hk12.ratB hft
  obtain ⟨Am, hAm⟩ : ∃ x, x = a8.Ar := ⟨_, rfl⟩
  rw [← hAm] at QB12 ⊢
  have HAM := Lib.hid hAm
  clear hAm hE SB hz QB8 TB hM8 hft hXU hk12 hg12 q0 t0 t1 t2 t3
  have q1 := QB12.c1
  go_wp2_with fail
  clear q1
  obtain ⟨b, hb⟩ : ∃ b : Nat → Bool, b = fun i : Nat => decide (((i : Int) + k0) % 2 = 0) := ⟨_, rfl⟩
  have HB := Lib.hid hb
  clear hb
  have hM0 : MkV w12 U.heap.size (.agg #[.slice a8.Ao p.n a8.co, .slice a8.Ar p.m a8.cr]) (scP p f b 0) a8 := by
    have e : scP p f b 0 = { p with obj := fun j => p.obj j * f } := by
      unfold scP
      simp
    rw [e]
    exact hM12
  clear hM12
  go_loopw [49] (fun i wr => ∃ j : Nat, j ≤ p.m ∧ i = .int .i64 j ∧ MkV wr U.heap.size (.agg #[.slice a8.Ao p.n a8.co, .slice a8.Ar p.m a8.cr]) (scP p f b j) a8 ∧ Box wr qb 31 #[.slice a8.Ao p.n a8.co, .slice Am p.m a8.cr] ∧ Box wr tb 37 #[.bool pt, .slice At nt ct, .bool pt', .slice At' nt' ct'] ∧ Ext U wr ∧ RatB wr (.agg #[.bool pt, .slice At nt ct, .bool pt', .slice At' nt' ct']) f 2) (fun i _ => p.m - (intOf i).toNat)
  case atStart => exact ⟨0, by omega, rfl, hM0, QB12, TB12, hX12, hft12⟩
  case round =>
    obtain ⟨j, hj, rfl, hMr, QBr, TBr, hXr, hftr⟩ := hrel
    clear hM0 QB12 TB12 hX12 hft12
    by_cases hlt : j < p.m
    · obtain ⟨hAr, -, -⟩ := hMr.blk (show 0 < p.m by omega)
      have hAm := HAM.out.trans hAr
      clear hAr HAM
      subst hAm
      have t0 := TBr.c0
      have t1 := TBr.c1
      have t2 := TBr.c2
      have t3 := TBr.c3
      go_upto_region 12 with fail
      clear t0 t1 t2 t3
      have NB := Box.new wr 37 #[.bool pt, .slice At nt ct, .bool pt', .slice At' nt' ct']
      have hxn : Ext wr (wr.alloc (.cells #[.bool pt, .slice At nt ct, .bool pt', .slice At' nt' ct'] 37)) := (Ext.refl wr).alloc _
      generalize (wr.alloc (.cells #[.bool pt, .slice At nt ct, .bool pt', .slice At' nt' ct'] 37)) = X1 at *
      obtain ⟨nb, hnb⟩ : ∃ x, x = wr.heap.size := ⟨_, rfl⟩
      rw [← hnb] at NB ⊢
      have hnl : wr.heap.size ≤ nb := by omega
      have hnq : qb ≠ nb := by have := QBr.lt; omega
      have hnt : tb ≠ nb := by have := TBr.lt; omega
      have htn : tb < nb := by have := TBr.lt; omega
      clear hnb
      have hw1 : IntKind.i64.wrap ((j : Int) + k0) = (j : Int) + k0 := IntWalk.i64_in _ (by have := HPN.out.2; omega)
      obtain ⟨bj, hbj⟩ : ∃ x, x = b j := ⟨_, rfl⟩
      have hcd : decide (((j : Int) + k0) % 2 = 0) = bj := by rw [hbj, HB.out]
      go_upto_if 58 with fail
      rename_i hK
      go_cut [] (fun wx => MkV wx U.heap.size (.agg #[.slice a8.Ao p.n a8.co, .slice a8.Ar p.m a8.cr]) { scP p f b j with rel := fun r => if r = j then (if b j = true then 4 - p.rel j else p.rel j) else (scP p f b j).rel r } a8 ∧ Box wx qb 31 #[.slice a8.Ao p.n a8.co, .slice (some ⟨a8.br, 0, none⟩) p.m a8.cr] ∧ Box wx tb 37 #[.bool pt, .slice At nt ct, .bool pt', .slice At' nt' ct'] ∧ Ext U wx ∧ RatB wx (.agg #[.bool pt, .slice At nt ct, .bool pt', .slice At' nt' ct']) f 2 ∧
        ∃ (y1 y2 : Bool) (Y1 Y2 : Option Addr) (u1 u2 u3 u4 : Nat), Box wx nb 37 #[.bool y1, .slice Y1 u1 u2, .bool y2, .slice Y2 u3 u4] ∧ RatB wx (.agg #[.bool y1, .slice Y1 u1 u2, .bool y2, .slice Y2 u3 u4]) (if b j = true then -f else f) 2)
      case first => as_aux_lemma =>
        have hm0 : 0 < p.m := by omega
        obtain ⟨-, hbr, cs, hcs, -⟩ := hMr.blk hm0
        have hbrl : a8.br < wr.heap.size := Box.lt (E := 48) (cs := cs) hcs
        have hbq : qb ≠ a8.br := row_ne QBr hcs (by decide)
        have hbt : tb ≠ a8.br := row_ne TBr hcs (by decide)
        have hbn : nb ≠ a8.br := by omega
        clear hcs hm0
        cases bj with
        | false =>
          have HBJ := Lib.hid hbj
          clear hbj
          have hc1 : ¬ ((j : Int) + k0) % 2 = 0 := of_decide_eq_false hcd
          have hc2 : (((j : Int) + k0) % 2 == 0) = false := by simpa using hc1
          go_wp2_with fail
          go_meet
          have e : { scP p f b j with rel := fun r => if r = j then (if b j = true then 4 - p.rel j else p.rel j) else (scP p f b j).rel r } = scP p f b j := by
            have h1 : (fun r => if r = j then (if b j = true then 4 - p.rel j else p.rel j) else (scP p f b j).rel r) = (scP p f b j).rel := by
              funext r
              by_cases e : r = j
              · subst e; rw [if_pos rfl, ← HBJ.out, scP_rel]; rfl
              · rw [if_neg e]
            rw [h1]
          rw [e]
          exact ⟨hMr.ext hxn, QBr.ext hxn, TBr.ext hxn, hXr.trans hxn, hftr.ext hxn, _, _, _, _, _, _, _, _, NB, by rw [← HBJ.out]; exact hftr.ext hxn⟩
        | true =>
          have HBJ := Lib.hid hbj
          clear hbj
          have hc1 : ((j : Int) + k0) % 2 = 0 := of_decide_eq_true hcd
          have hc2 : (((j : Int) + k0) % 2 == 0) = true := by simpa using hc1
          have n0 := NB.c0
          have n1 := NB.c1
          have n2 := NB.c2
          have n3 := NB.c3
          go_wp2_with fail
          refine (RatNeg_b _ f 2 _ (hftr.ext hxn)).mono ?_
          rintro e w3 ⟨v3, rfl, hb3, hx3⟩
          obtain ⟨p3, A3, m3, c3, p3', A3', m3', c3', rfl⟩ := hb3.1.shape
          have NB3 := NB.ext hx3
          clear n0 n1 n2 n3
          have n0 := NB3.c0
          have n1 := NB3.c1
          have n2 := NB3.c2
          have n3 := NB3.c3
          have z0 := NB3.frozen 0
          have z1 := NB3.frozen 1
          have z2 := NB3.frozen 2
          have z3 := NB3.frozen 3
          go_upto_region 14 with fail
          obtain ⟨g1, g2⟩ := RatV.put hb3.1 NB3
          have hx4 := ext4' (w0 := wr) (b := nb) hnl (hxn.trans hx3) (.bool p3) (.slice A3 m3 c3) (.bool p3') (.slice A3' m3' c3')
          generalize ((((w3.setCell ⟨nb, 0, none⟩ (.bool p3)).setCell ⟨nb, 1, none⟩ (.slice A3 m3 c3)).setCell ⟨nb, 2, none⟩ (.bool p3')).setCell ⟨nb, 3, none⟩ (.slice A3' m3' c3')) = W at *
          have hMW := hMr.ext hx4
          have QBW := QBr.ext hx4
          obtain ⟨d0, d1, dl, -⟩ := hMW.rows.row j hlt
          obtain ⟨-, -, cs, hcs, -⟩ := hMW.blk (show 0 < p.m by omega)
          rw [scP_rel] at d1 dl
          have d1 : W.cell? ⟨a8.br, j * 6 + 1, none⟩ = some _ := d1
          have q1 := QBW.c1
          have z4 : W.frozen? ⟨a8.br, j * 6 + 1, none⟩ = false := by simp [World.frozen?, hcs]
          have hcap := hMW.cap.1
          have i1 : (0 : Int) ≤ (j : Int) := by omega
          have i2 : (j : Int) < (p.m : Int) := by omega
          have HRL := Lib.hid (HVL.out.2.2.2 j hlt).2
          have h1R := HRL.out.1
          have h2R := HRL.out.2
          clear n0 n1 n2 n3 z0 z1 z2 z3 hcs d0 HRL dl
          go_region
          have e4 : (4 - (p.rel j : Int)) = ((4 - p.rel j : Nat) : Int) := by omega
          rw [e4]
          have hMF := (hMW.rels hlt (r := 4 - p.rel j) (by omega)).ext ((Ext.refl _).drew)
          have hF := ((Fr.refl (fun k => k = a8.br) W).set (p := ⟨a8.br, j * 6 + 1, none⟩) rfl (fun z => by rw [d1]; intro e; cases e) (.int .u8 ((4 - p.rel j : Nat) : Int))).drew
          go_wp2_with fail
          go_meet
          refine ⟨by rw [← HBJ.out]; exact hMF, hF.box QBW hbq, hF.box (TBr.ext hx4) hbt, hF.ext (hXr.trans hx4) (fun b hb => by rw [hb]; exact hbr), hF.ratB (hftr.ext hx4), _, _, _, _, _, _, _, _, hF.box g2 hbn, ?_⟩
          rw [← HBJ.out]
          exact hF.ratB ⟨g1, hb3.2⟩
      case rest => as_aux_lemma =>
        obtain ⟨hM2, QB2, TB2, hX2, hft2, y1, y2, Y1, Y2, u1, u2, u3, u4, NB2, hn2⟩ := hcut
        refine hK _ _ ?_
        clear hK hMr QBr TBr hXr hftr hxn NB hcd hw1
        obtain ⟨g, hg⟩ : ∃ g, g = (if b j = true then -f else f) := ⟨_, rfl⟩
        rw [← hg] at hn2
        have HG := Lib.hid hg
        clear hg
        obtain ⟨d0, -, -, -⟩ := hM2.rows.row j hlt
        have d0 : wc.cell? ⟨a8.br, j * 6, none⟩ = some (.slice (a8.rA j) (p.len j) (a8.rc j)) := d0
        have hcf : RatsV wc (a8.rA j) (p.len j) (a8.rc j) (p.coef j) := by
          have h1 := (hM2.rows.coef j hlt).rats
          have e : (scP p f b j).coef j = p.coef j := scP_coef p f b j
          rw [← e]; exact h1
        have hbl : ∀ k, Blk (a8.rA j) (p.len j) k → U.heap.size ≤ k := fun k hk => (HLT.out.2 j hlt k hk).1
        have hne := hM2.br_ne (show 0 < p.m by omega) (hM2.rows.coef j hlt).rats
        have hnq' : ¬ Blk (a8.rA j) (p.len j) qb := fun hk => by
          obtain ⟨b', e, hr⟩ := hcf.2.2 hk.1
          rw [hk.2] at e
          injection e with e
          injection e with e
          subst e
          obtain ⟨cs', hcs⟩ := hr.cells
          exact row_ne QB2 hcs (by decide) rfl
        have hnt' : ¬ Blk (a8.rA j) (p.len j) tb := fun hk => by have := (HLT.out.2 j hlt tb hk).2; omega
        have hnn' : ¬ Blk (a8.rA j) (p.len j) nb := fun hk => by have := (HLT.out.2 j hlt nb hk).2; omega
        have kq : ∀ w', Fr (Blk (a8.rA j) (p.len j)) wc w' → w'.cell? ⟨qb, 1, none⟩ = some _ := fun w' h => h.cell hnq' QB2.c1
        have kd : ∀ w', Fr (Blk (a8.rA j) (p.len j)) wc w' → w'.cell? ⟨a8.br, j * 6, none⟩ = some _ := fun w' h => h.cell hne d0
        have kn0 : ∀ w', Fr (Blk (a8.rA j) (p.len j)) wc w' → w'.cell? ⟨nb, 0, none⟩ = some _ := fun w' h => h.cell hnn' NB2.c0
        have kn1 : ∀ w', Fr (Blk (a8.rA j) (p.len j)) wc w' → w'.cell? ⟨nb, 1, none⟩ = some _ := fun w' h => h.cell hnn' NB2.c1
        have kn2 : ∀ w', Fr (Blk (a8.rA j) (p.len j)) wc w' → w'.cell? ⟨nb, 2, none⟩ = some _ := fun w' h => h.cell hnn' NB2.c2
        have kn3 : ∀ w', Fr (Blk (a8.rA j) (p.len j)) wc w' → w'.cell? ⟨nb, 3, none⟩ = some _ := fun w' h => h.cell hnn' NB2.c3
        have ks := Fr.refl (Blk (a8.rA j) (p.len j)) wc
        have i1 : (0 : Int) ≤ (j : Int) := by omega
        have i2 : (j : Int) < (p.m : Int) := by omega
        have hcap := hM2.cap.1
        have HCJ := Lib.hid (HCF.out.1 j hlt)
        have hlen : p.len j ≤ 1099511627776 := by have := (HVL.out.2.2.2 j hlt).1; have := HPN.out.1; omega
        clear d0
        go_upto_region 15 with fail
        go_region_held3 (fun w' => Fr (Blk (a8.rA j) (p.len j)) wc w') ((repeat (first | assumption | apply Fr.drew | apply Fr.drewN | apply Fr.alloc | (refine Fr.step ?_ (by assumption)) | (refine Fr.trans ?_ (by assumption))))) (first
          | (go_at_call 32; (with_reducible refine (scale_b _ _ _ (p.coef j) _ g 2 2 _ (RatsV.ext hcf (by repeat (first | (with_reducible exact Ext.refl _) | (with_reducible apply Ext.drew) | (with_reducible apply Ext.drewN)))) (RatB.ext hn2 (by repeat (first | (with_reducible exact Ext.refl _) | (with_reducible apply Ext.drew) | (with_reducible apply Ext.drewN)))) (fun i _ => HCJ.out i) (by omega) (by omega) hlen).mono ?_); rintro e wk ⟨rfl, hgk, hkk⟩; (have hF1 : Fr (Blk (a8.rA j) (p.len j)) wc wk := Fr.trans (by repeat (first | assumption | (with_reducible apply Fr.drew) | (with_reducible apply Fr.drewN))) hkk))
          )
        have hx2 := hkk
        obtain hFK := hF1
        have QB3 := hF1.box QB2 hnq'
        have TB3 := hF1.box TB2 hnt'
        have NB3 := hF1.box NB2 hnn'
        have hft3 := hF1.ratB hft2
        have hn3 := hF1.ratB hn2
        have hX3 := hF1.ext hX2 hbl
        have hM3 := hM2.coefs hlt hF1 hgk
        clear kq kd kn0 kn1 kn2 kn3 ks hcf hM2 QB2 TB2 NB2 hft2 hn2 hX2 hF1 hkk hgk
        obtain ⟨-, -, -, x1, B1, m1, c1, x1', B1', m1', c1', d2, d3, d4, d5, hr1⟩ := hM3.rows.row j hlt
        have hra : RatB wk (.agg #[.bool x1, .slice B1 m1 c1, .bool x1', .slice B1' m1' c1']) (p.right j) 2 := ⟨by
          have e : (scP p f b j).right j = p.right j := scP_right p f b j
          rw [← e]; exact hr1, HCF.out.2.1 j hlt⟩
        have hbrl := hM3.blk (show 0 < p.m by omega)
        have hqr : ¬ qb = a8.br := by obtain ⟨-, -, cs, hcs, -⟩ := hbrl; exact row_ne QB3 hcs (by decide)
        have htr : ¬ tb = a8.br := by obtain ⟨-, -, cs, hcs, -⟩ := hbrl; exact row_ne TB3 hcs (by decide)
        have hnr : ¬ nb = a8.br := by obtain ⟨-, -, cs, hcs, -⟩ := hbrl; exact row_ne NB3 hcs (by decide)
        have hbU := hbrl.2.1
        have d3 : wk.cell? ⟨a8.br, j * 6 + 2 + 1, none⟩ = some _ := d3
        have d4 : wk.cell? ⟨a8.br, j * 6 + 2 + 2, none⟩ = some _ := d4
        have d5 : wk.cell? ⟨a8.br, j * 6 + 2 + 3, none⟩ = some _ := d5
        have q1 := QB3.c1
        have n0 := NB3.c0
        have n1 := NB3.c1
        have n2 := NB3.c2
        have n3 := NB3.c3
        clear hr1 hbrl
        go_upto_region 16 with fail
        go_region_law (first
          | (go_simp; go_at_call 33; (with_reducible refine (RatMul_b _ _ (p.right j) g 2 2 _ (RatB.ext hra (by repeat (first | (with_reducible exact Ext.refl _) | (with_reducible apply Ext.drew) | (with_reducible apply Ext.drewN)))) (RatB.ext hn3 (by repeat (first | (with_reducible exact Ext.refl _) | (with_reducible apply Ext.drew) | (with_reducible apply Ext.drewN)))) (by omega)).mono ?_); rintro e wl ⟨vl, rfl, hbl1, hxl⟩; (obtain ⟨pl, Al, nl, cl, pl', Al', nl', cl', rfl⟩ := hbl1.1.shape); (have hlL : Ext wk wl := Ext.trans (by repeat (first | (with_reducible exact Ext.refl _) | (with_reducible apply Ext.drew) | (with_reducible apply Ext.drewN))) hxl); (have hz := (hM3.ext hlL).blk (show 0 < p.m by omega)); (have z2 : wl.frozen? ⟨a8.br, j * 6 + 2, none⟩ = false := by obtain ⟨-, -, cs, hcs, -⟩ := hz; simp [World.frozen?, hcs]); (have z3 : wl.frozen? ⟨a8.br, j * 6 + 2 + 1, none⟩ = false := by obtain ⟨-, -, cs, hcs, -⟩ := hz; simp [World.frozen?, hcs]); (have z4 : wl.frozen? ⟨a8.br, j * 6 + 2 + 2, none⟩ = false := by obtain ⟨-, -, cs, hcs, -⟩ := hz; simp [World.frozen?, hcs]); (have z5 : wl.frozen? ⟨a8.br, j * 6 + 2 + 3, none⟩ = false := by obtain ⟨-, -, cs, hcs, -⟩ := hz; simp [World.frozen?, hcs]); (have e1 := hlL.cell q1); (have e2 := hlL.cell d2); (have e3 := hlL.cell d3); (have e4 := hlL.cell d4); (have e5 := hlL.cell d5))
          )
        all_goals (
          have hMl := hM3.ext hlL
          have hMr := hMl.rights hlt (q := p.right j * g) hbl1.1
          have hFr := hMl.rightsF hlt (.bool pl) (.slice Al nl cl) (.bool pl') (.slice Al' nl' cl')
          have hQr := hFr.box (QB3.ext hlL) hqr
          have hTr := hFr.box (TB3.ext hlL) htr
          have hftr := hFr.ratB (hft3.ext hlL)
          have hXr := hFr.ext (hX3.trans hlL) (fun b hb => by rw [hb]; exact hbU)
          clear hMl hFr q1 d2 d3 d4 d5 n0 n1 n2 n3 e1 e2 e3 e4 e5 z2 z3 z4 z5
          clear hz
          have hpm := HPN.out.2
          go_wp2_with fail
          go_roundw
          case rel => exact ⟨j + 1, hlt, by go_num, by rw [← scP_step, ← HG.out]; exact hMr, hQr, hTr, hXr, hftr⟩
          case measure => first | exact meas_lt hlt | exact meas_lt' hlt | (simp [intOf]; omega))
    · obtain rfl : j = p.m := by omega
      have hAm := HAM.out
      subst hAm
      have hP2 := hMr.prob
      have h2v : (scP p f b p.m).Valid := ⟨HVL.out.1, HVL.out.2.1, HVL.out.2.2.1, fun i hi => ⟨(HVL.out.2.2.2 i hi).1, scP_vrel HVL.out.vrel i hi⟩⟩
      have h2b : Bnd (scP p f b p.m) 24000000 := by
        have hfq := hftr.2
        have hq : ∀ x : Rat, QB 2 x → ∀ i, QB 4 (x * (if b i = true then -f else f)) := fun x hx i => by
          split
          · exact QB_mul hx (QB_neg hfq)
          · exact QB_mul hx hfq
        refine (Bnd.of h2v.vrel 8 4 4 4 (.inl HPN.out.1) (by omega) (by omega) (by omega) (Nat.le_trans (bK3_mono HPN.out.2 (Nat.le_refl _) (Nat.le_refl _)) (show bK3 8 8 4 4 4 ≤ 134217728 by decide)) (fun i hi => QB_mul (HCF.out.2.2 i hi) hfq) (fun i hi l _ => ?_) (fun i hi => ?_)).up (Nat.le_trans (bK3_mono HPN.out.2 (Nat.le_refl _) (Nat.le_refl _)) (show bK3 8 8 4 4 4 ≤ 24000000 by decide)) (by omega)
        · show QB 4 ((if i < p.m then (fun l => p.coef i l * (if b i = true then -f else f)) else p.coef i) l)
          rw [if_pos (show i < p.m from hi)]; exact hq _ (HCF.out.1 i hi l) i
        · show QB 4 (if i < p.m then p.right i * (if b i = true then -f else f) else p.right i)
          rw [if_pos (show i < p.m from hi)]; exact hq _ (HCF.out.2.1 i hi) i
      have hres0 : (scP p f b p.m).sol.err = k ∧ (scP p f b p.m).sol.val = z * f := by
        have h1 : Is p.V k z := by
          have := PL.is HKZ.out.1
          rw [← HKZ.out.2.1, ← HKZ.out.2.2] at this
          exact this.congr (fun v => by rw [HPP.out]; exact (PL.V_iff _ v).symm)
        exact Is.same (Prob.is h2v.vrel) (h1.scale HF0.out (fun v => scP_V HF0.out HVL.out.vrel v))
      have H2B := Lib.hid h2b
      have HRS := Lib.hid hres0
      have H2V := Lib.hid h2v
      have SB := SBU.ext hXr
      have hz := hzU.ext hXr
      have q0 := QBr.c0
      have q1 := QBr.c1
      clear hMr h2b hres0 h2v SBU hzU
      go_wp2_with fail
      clear q0 q1
      refine (Solve_l _ _ 24000000 _ hP2 (fun _ => H2B.out)).mono ?_
      rintro e w9 ⟨q2, A2, n2, c2, q2', A2', n2', c2', Ax2, nx2, cx2, Ay2, ny2, cy2, k2, z2, xs2, ys2, rfl, hz2, hX2, hY2, hbx2, hby2, hres2, hx9⟩
      obtain ⟨rfl, rfl⟩ : k2 = k ∧ z2 = z * f := by
        rcases hres2 with ⟨h1, _⟩ | ⟨_, h1, h2, _⟩
        · rw [validB_iff.2 H2V.out] at h1; cases h1
        · exact ⟨h1.trans HRS.out.1, h2.trans HRS.out.2⟩
      clear hres2 hX2 hY2 hbx2 hby2 hP2 QBr H2B H2V
      have hX9 := hXr.trans hx9
      have SB9 := SB.ext hx9
      have TB9 := TBr.ext hx9
      have hz9 := hz.ext hx9
      have hft9 := hftr.ext hx9
      clear hXr hx9 SB TBr hz hftr
      go_upto_region 19 with fail
      have ZB := Box.new w9 39 #[.bool q2, .slice A2 n2 c2, .bool q2', .slice A2' n2' c2', .slice Ax2 nx2 cx2, .slice Ay2 ny2 cy2]
      have hx10 : Ext w9 (w9.alloc (.cells #[.bool q2, .slice A2 n2 c2, .bool q2', .slice A2' n2' c2', .slice Ax2 nx2 cx2, .slice Ay2 ny2 cy2] 39)) := (Ext.refl w9).alloc _
      generalize (w9.alloc (.cells #[.bool q2, .slice A2 n2 c2, .bool q2', .slice A2' n2' c2', .slice Ax2 nx2 cx2, .slice Ay2 ny2 cy2] 39)) = Z at *
      obtain ⟨zb, hzb⟩ : ∃ x, x = w9.heap.size := ⟨_, rfl⟩
      rw [← hzb] at ZB ⊢
      clear hzb
      have hX10 := (hEU.trans hX9).trans hx10
      have SB10 := SB9.ext hx10
      have TB10 := TB9.ext hx10
      have hz10 := hz9.ext hx10
      have hft10 := hft9.ext hx10
      have hz2' := hz2.ext hx10
      clear hX9 hx10 SB9 TB9 hz9 hft9 hz2
      have kt0 : ∀ w', Later Z w' → w'.cell? ⟨_, 0, none⟩ = some _ := fun w' h => (TB10.ext h).c0
      have kt1 : ∀ w', Later Z w' → w'.cell? ⟨_, 1, none⟩ = some _ := fun w' h => (TB10.ext h).c1
      have kt2 : ∀ w', Later Z w' → w'.cell? ⟨_, 2, none⟩ = some _ := fun w' h => (TB10.ext h).c2
      have kt3 : ∀ w', Later Z w' → w'.cell? ⟨_, 3, none⟩ = some _ := fun w' h => (TB10.ext h).c3
      have kz0 : ∀ w', Later Z w' → w'.cell? ⟨zb, 0, none⟩ = some _ := fun w' h => Later.cell h ZB.c0
      have kz1 : ∀ w', Later Z w' → w'.cell? ⟨zb, 1, none⟩ = some _ := fun w' h => Later.cell h ZB.c1
      have kz2 : ∀ w', Later Z w' → w'.cell? ⟨zb, 2, none⟩ = some _ := fun w' h => Later.cell h ZB.c2
      have kz3 : ∀ w', Later Z w' → w'.cell? ⟨zb, 3, none⟩ = some _ := fun w' h => Later.cell h ZB.c3
      have ks0 : ∀ w', Later Z w' → w'.cell? ⟨sb, 0, none⟩ = some _ := fun w' h => Later.cell h SB10.c0
      have ks1 : ∀ w', Later Z w' → w'.cell? ⟨sb, 1, none⟩ = some _ := fun w' h => Later.cell h SB10.c1
      have ks2 : ∀ w', Later Z w' → w'.cell? ⟨sb, 2, none⟩ = some _ := fun w' h => Later.cell h SB10.c2
      have ks3 : ∀ w', Later Z w' → w'.cell? ⟨sb, 3, none⟩ = some _ := fun w' h => Later.cell h SB10.c3
      have ks := Later.refl Z
      go_region_held3 (fun w' => Later Z w') ((repeat (first | assumption | apply Later.drew | apply Later.drewN | apply Later.alloc | (refine Later.step ?_ (by assumption))))) (first
        | (go_at_call 33; (with_reducible refine (RatMul_b _ _ z f (16000000 + 2) 2 _ (RatB.ext hz10 (by repeat (first | (with_reducible exact Ext.refl _) | (with_reducible apply Ext.drew) | (with_reducible apply Ext.drewN) | (with_reducible refine Ext.trans ?_ (by assumption))))) (RatB.ext hft10 (by repeat (first | (with_reducible exact Ext.refl _) | (with_reducible apply Ext.drew) | (with_reducible apply Ext.drewN) | (with_reducible refine Ext.trans ?_ (by assumption))))) (by omega)).mono ?_); rintro e wl ⟨vl, rfl, hbl, hxl⟩; (obtain ⟨pl, Al, nl, cl, pl', Al', nl', cl', rfl⟩ := hbl.1.shape))
        | (go_at_call 28; (with_reducible refine (RatCmp_b _ _ (z * f) (z * f) (24000000 + 2) _ _ (RatB.ext hz2' (by repeat (first | (with_reducible exact Ext.refl _) | (with_reducible apply Ext.drew) | (with_reducible apply Ext.drewN) | (with_reducible refine Ext.trans ?_ (by assumption))))) (RatB.ext hbl (by repeat (first | (with_reducible exact Ext.refl _) | (with_reducible apply Ext.drew) | (with_reducible apply Ext.drewN) | (with_reducible refine Ext.trans ?_ (by assumption))))) (by omega)).mono ?_); rintro e wm ⟨rfl, hxm⟩; rw [cmpQ_self])
        )
      all_goals (
        have hxx : Ext Z wm := by assumption
        go_wp2_with fail
        go_ret
        exact ⟨rfl, hX10.trans hxx⟩)
end Go.Proofs.YtgffcblldebelaaDoor.Lp

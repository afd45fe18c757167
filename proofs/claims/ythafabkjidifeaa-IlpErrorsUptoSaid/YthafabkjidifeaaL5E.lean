/- The law IlpErrors, walked. -/
import Derived.Test.YthafabkjidifeaaL5A
import Derived.Test.YthafabkjidifeaaIAW
import Derived.Test.YthafabkjidifeaaLV5
set_option linter.unusedVariables false
set_option linter.unusedSimpArgs false
namespace Go.Proofs.Ythafabkjidifeaa.Lp
open Go.RowKit Go.Proofs.Ythafabkjidifeaa.Big Go.Proofs.Ythafabkjidifeaa.Rt

theorem solveR_zero {P : Prob} (hv : validB P = true) (hi : intB P = true) : solveR 0 P = .fail 13 := by
  rw [solveR_eq hv hi]
  show resR (nodeF 0 (0 + 1) P ⟨0, none⟩) = _
  rw [nodeF_full (L := 0) (s := ⟨0, none⟩) (Nat.le_refl _)]
  rfl
theorem solveR_bad {L : Nat} {P : Prob} (h : ¬ (validB P = true ∧ intB P = true)) : solveR L P = .fail 3 := by
  unfold solveR; rw [if_neg h]
set_option maxHeartbeats 2000000 in
set_option maxRecDepth 100000 in
theorem errors_any (v : Value) (nodes : Int) (ip : IP) (w : World) (hv : IPV w v ip) (hok : ip.ok) (hv1 : -9223372036854775808 ≤ nodes ∧ nodes ≤ 9223372036854775807) : Calls Try.prog 6 #[v, .int .i64 nodes] w (ValPost w (.bool true)) := by
  obtain ⟨Ai, ni, ci, Aj, nj, cj, dd, rfl⟩ : ∃ A n c A' n' c' d, v = .agg #[.slice A n c, .slice A' n' c', .int .u8 d] := by
    obtain ⟨A, c, A', c', rfl, -⟩ := id hv
    exact ⟨_, _, _, _, _, _, _, rfl⟩
  have B1 := Box.new w 25 #[.slice Ai ni ci, .slice Aj nj cj, .int .u8 dd]
  have hE0 : Ext w (w.alloc (.cells #[.slice Ai ni ci, .slice Aj nj cj, .int .u8 dd] 25)) := (Ext.refl w).alloc _
  go_enter Try.func6, Try.ntmps6
  go_upto_region 1 with fail
  generalize (w.alloc (.cells #[.slice Ai ni ci, .slice Aj nj cj, .int .u8 dd] 25)) = V at *
  obtain ⟨ab, hab⟩ : ∃ x, x = w.heap.size := ⟨_, rfl⟩
  rw [← hab] at B1 ⊢
  clear hab
  go_wp2_with fail
  refine (awake_i _).mono ?_
  rintro e w1 ⟨rfl, hx1⟩
  have hE1 := hE0.trans hx1
  have B1 := B1.ext hx1
  have c0 : w1.cell? ⟨ab, 0, none⟩ = some _ := B1.cell 0
  have c1 : w1.cell? ⟨ab, 1, none⟩ = some _ := B1.cell 1
  have c2 : w1.cell? ⟨ab, 2, none⟩ = some _ := B1.cell 2
  have hv2 := hv.ext hE1
  clear hE0 hx1
  obtain ⟨rfl, rfl, -⟩ : ni = ip.obj.length ∧ nj = ip.rows.length ∧ True := by
    obtain ⟨_, _, _, _, e, -⟩ := hv2
    injection e with e
    have e1 := congrArg (fun a : Array Value => a[0]?) e
    have e2 := congrArg (fun a : Array Value => a[1]?) e
    simp at e1 e2
    exact ⟨e1.2.1, e2.2.1, trivial⟩
  obtain ⟨N, hN⟩ : ∃ n, n = ip.obj.length := ⟨_, rfl⟩
  obtain ⟨M, hM⟩ : ∃ n, n = ip.rows.length := ⟨_, rfl⟩
  have HN := Lib.hid hN
  have HM := Lib.hid hM
  rw [← hN, ← hM] at hv2 c0 c1
  clear B1 hv hN hM
  by_cases hN6 : 6 < N
  case pos =>
    have i1 : decide (6 < N) = true := by simpa using hN6
    go_wp2_with fail
    go_ret
    exact ⟨rfl, hE1⟩
  case neg =>
  have i1 : decide (6 < N) = false := by simpa using hN6
  by_cases hM8 : 8 < M
  case pos =>
    have i2 : decide (8 < M) = true := by simpa using hM8
    go_wp2_with fail
    go_ret
    exact ⟨rfl, hE1⟩
  case neg =>
  have i2 : decide (8 < M) = false := by simpa using hM8
  go_wp2_with fail
  refine (Make_b _ ip _ hv2 hok).mono ?_
  rintro e w2 ⟨y, a, rfl, hy, hx2⟩
  have hP0 : ProbV w2 y ip.pl.toP := MkV.prob hy
  obtain ⟨PP, hPP⟩ : ∃ P, P = ip.pl := ⟨_, rfl⟩
  have hPn : PP.toP.n = N := by rw [hPP, IP.pn, HN.out]
  have hPm : PP.toP.m = M := by rw [hPP, IP.pm, HM.out]
  have HOB : Hid (∀ j, QB 2 (PP.toP.obj j)) := Lib.hid (fun j => by rw [hPP]; exact IP.obj_b hok j)
  have HCO : Hid (∀ i, i < PP.toP.m → ∀ j, QB 2 (PP.toP.coef i j)) := Lib.hid (by rw [hPP]; exact fun i hi j => IP.coef_b hok hi j)
  have HRI : Hid (∀ i, i < PP.toP.m → QB 2 (PP.toP.right i)) := Lib.hid (by rw [hPP]; exact fun i hi => IP.right_b hok hi)
  have HCAN : Hid (validB PP.toP = true → CanI PP.toP 6 8 134217728) := Lib.hid (fun h => by
    have hM2 : bK3 8 6 2 3 2 ≤ 134217728 := by decide
    rw [hPP] at h hPn hPm ⊢
    exact IP.can hok (by omega) (by omega) (by omega) hM2 (by omega) h)
  have HLEN : Hid (∀ r ∈ PP.rows, r.coef.length ≤ 1048576) := Lib.hid (by rw [hPP]; exact IP.lens hok)
  rw [← hPP] at hP0
  have hE2 := hE1.trans hx2
  clear hPP hy hE1 hx2 c0 c1 c2 B1 hv2
  obtain ⟨Ao, co, Ar, cr, rfl, -⟩ := id hP0
  rw [hPn, hPm] at hP0 ⊢
  have HPN := Lib.hid hPn
  have HPM := Lib.hid hPm
  clear hPn hPm
  go_upto_region 6 with fail
  have GB := Box.new w2 39 #[.slice Ao N co, .slice Ar M cr]
  have hx3 : Ext w2 (w2.alloc (.cells #[.slice Ao N co, .slice Ar M cr] 39)) := (Ext.refl w2).alloc _
  generalize (w2.alloc (.cells #[.slice Ao N co, .slice Ar M cr] 39)) = W3 at *
  obtain ⟨gb, hgb⟩ : ∃ x, x = w2.heap.size := ⟨_, rfl⟩
  rw [← hgb] at GB ⊢
  clear hgb
  have hP := hP0.ext hx3
  have hE3 := hE2.trans hx3
  clear hP0 hx3 hE2
  go_wp2_with fail
  refine (RatOf_b 1 _ (by omega) (by omega)).mono ?_
  rintro e w4 ⟨v4, rfl, hb4, hx4⟩
  obtain ⟨p4, A4, n4, c4, p4', A4', n4', c4', rfl⟩ := hb4.1.shape
  go_upto_region 8 with fail
  have OB := Box.new w4 59 #[.bool p4, .slice A4 n4 c4, .bool p4', .slice A4' n4' c4']
  have hx5 : Ext w4 (w4.alloc (.cells #[.bool p4, .slice A4 n4 c4, .bool p4', .slice A4' n4' c4'] 59)) := (Ext.refl w4).alloc _
  generalize (w4.alloc (.cells #[.bool p4, .slice A4 n4 c4, .bool p4', .slice A4' n4' c4'] 59)) = W5 at *
  obtain ⟨ob, hob⟩ : ∃ x, x = w4.heap.size := ⟨_, rfl⟩
  rw [← hob] at OB ⊢
  clear hob
  have GB5 := (GB.ext hx4).ext hx5
  have hP5 := (hP.ext hx4).ext hx5
  have hE5 := (hE3.trans hx4).trans hx5
  have hone := hb4.ext hx5
  clear hx4 hx5 hb4 GB hP hE3
  obtain ⟨news, n1, n2, n3, n4r, n5⟩ := hP5.src
  have hobj : RatsV W5 Ao N co (fun j => PP.obj.getD j 0) := hP5.objsE
  have hx6 : Ext W5 (W5.alloc (.cells #[.slice Ao N co, .int .u8 0, .bool false, .slice none 0 0, .bool false, .slice none 0 0] 62)) := (Ext.refl W5).alloc _
  have RN := Box.new W5 62 #[.slice Ao N co, .int .u8 0, .bool false, .slice none 0 0, .bool false, .slice none 0 0]
  have hown := own_one (k := 6) (cs := [.slice Ao N co, .int .u8 0, .bool false, .slice none 0 0, .bool false, .slice none 0 0]) RN rfl (nou6' rfl)
  have hsz : W5.heap.size ≤ (W5.alloc (.cells #[.slice Ao N co, .int .u8 0, .bool false, .slice none 0 0, .bool false, .slice none 0 0] 62)).heap.size := by simp
  obtain ⟨LM, hLM⟩ : ∃ l, l = 1 + M := ⟨_, rfl⟩
  have HLM := Lib.hid hLM
  have hLM9 : LM ≤ 9 := by omega
  have hLM1 : 0 < LM := by omega
  clear hLM
  obtain ⟨irR, i1', i2', i3', i4'⟩ := info_parts infoRow
  have g0 := GB5.c0
  have g1 := (GB5.ext hx6).c1
  go_upto_region 9 with (at_builtin; refine wpList_pushA rfl _ _ 37 rfl W5.heap.size 62 irR _ 6 96 Try.underlying37 i1' i2' i3' i4' rfl zRow _ 1 _ rfl hown Ar M news cr rfl n1 (fun hm => by obtain ⟨ad, e, h⟩ := n2 hm; exact ⟨ad, e, fun j y hj => hx6.cell (h j y hj)⟩) n3 n4r (by omega) (by decide) hsz ?_; intro v6 w6 o6 r6 s6; rw [← HLM.out] at o6; obtain ⟨A6, c6, rfl⟩ := o6.shape)
  have hE6 : Ext W5 w6 := r6.ext hx6 (fun b hb => by have hb : some W5.heap.size = some b := hb; injection hb with hb; omega)
  obtain ⟨R0, hR0⟩ : ∃ R : List RL, R = ⟨PP.obj, 0, 0⟩ :: PP.rows := ⟨_, rfl⟩
  have hobn : PP.obj.length = N := HPN.out
  have hR : PRows w6 (fun i => ([.slice Ao N co, .int .u8 0, .bool false, .slice none 0 0, .bool false, .slice none 0 0] ++ news)[i]?) R0 := by
    rw [hR0]
    exact (n5.cons rfl (prx_obj hobn hobj)).ext hE6
  have hRl : R0.length = LM := by rw [hR0, HLM.out, ← HPM.out]; show PP.rows.length + 1 = 1 + PP.rows.length; omega
  have HRQ : Hid (∀ k, k < LM → (R0.getD k RL.zero).coef.length ≤ 1048576 ∧ ∀ j, QB 2 ((R0.getD k RL.zero).nums j)) := Lib.hid (by
    rw [hR0]
    intro k hk
    have h0 : QB 2 (0 : Rat) := QB_zero (by omega)
    cases k with
    | zero =>
      refine ⟨by show PP.obj.length ≤ 1048576; omega, fun j => ?_⟩
      cases j with
      | zero => exact h0
      | succ j => exact HOB.out j
    | succ k =>
      have hkm : k < PP.toP.m := by rw [HPM.out]; have := HLM.out; omega
      have hkm2 : k < PP.rows.length := hkm
      refine ⟨HLEN.out _ ?_, fun j => ?_⟩
      · show PP.rows.getD k RL.zero ∈ PP.rows
        rw [List.getD_eq_getElem?_getD, List.getElem?_eq_getElem hkm2]
        exact List.getElem_mem hkm2
      · cases j with
        | zero => exact HRI.out k hkm
        | succ j => exact HCO.out k hkm j)
  have HFI : Hid (frR R0 LM = !intB PP.toP) := Lib.hid (by
    rw [hR0, HLM.out, ← HPM.out, show 1 + PP.toP.m = PP.rows.length + 1 from Nat.add_comm _ _]
    exact frR_int PP)
  obtain ⟨XS, hXS⟩ : ∃ X, X = [.slice Ao N co, .int .u8 0, .bool false, .slice none 0 0, .bool false, .slice none 0 0] ++ news := ⟨_, rfl⟩
  rw [← hXS] at hR o6
  obtain ⟨gR, cap, e6, -, -, hcap, hcap2, -, -, hcell⟩ := o6.cells hLM1
  injection e6 with e6 _ e7
  subst e6 e7
  have HCEL : Hid (∀ j u, XS[j]? = some u → w6.cell? ⟨gR, j, none⟩ = some u) := Lib.hid hcell
  clear hcell hXS hR0 hobn n1 n2 n3 n4r n5 hobj hx6 RN hown hsz g0 g1 o6 r6 s6 HOB HCO HRI HLEN i1' i2' i3' i4'
  go_loopw [6, 37] (fun fv i wr => ∃ k : Nat, k ≤ LM ∧ i = .int .i64 k ∧ fv = .bool (frR R0 k) ∧ Ext w6 wr) (fun _ i _ => LM - (intOf i).toNat)
  case atStart => exact ⟨0, by omega, rfl, rfl, Ext.refl w6⟩
  case round =>
    obtain ⟨k, hk, rfl, rfl, hx⟩ := hrel
    have hEr : Ext W5 wr := hE6.trans hx
    by_cases hlt : k < LM
    · obtain ⟨r, hrk⟩ : ∃ r, R0[k]? = some r := ⟨_, List.getElem?_eq_getElem (by omega)⟩
      have hrd : R0.getD k RL.zero = r := by rw [List.getD_eq_getElem?_getD, hrk]; rfl
      obtain ⟨hrl, hrq⟩ := HRQ.out k hlt
      rw [hrd] at hrl hrq
      obtain ⟨F, hF⟩ : ∃ F, F = frR R0 k := ⟨_, rfl⟩
      rw [← hF]
      have HNX : Hid (frR R0 (k + 1) = (F || frN r.nums (r.coef.length + 1))) := Lib.hid (by
        show (frR R0 k || frN (R0.getD k RL.zero).nums ((R0.getD k RL.zero).coef.length + 1)) = _
        rw [hrd, hF])
      obtain ⟨Ac, cc, x, B, d, e, y, B', d', e', g0, g1, g2, g3, g4, g5, -, hrc, hrr⟩ := hR k r hrk
      have g0 := hx.cell (HCEL.out _ _ g0)
      have g1 := hx.cell (HCEL.out _ _ g1)
      have g2 := hx.cell (HCEL.out _ _ g2)
      have g3 := hx.cell (HCEL.out _ _ g3)
      have g4 := hx.cell (HCEL.out _ _ g4)
      have g5 := hx.cell (HCEL.out _ _ g5)
      obtain ⟨l, hl⟩ : ∃ l, l = r.coef.length := ⟨_, rfl⟩
      obtain ⟨Rl, hRl2⟩ : ∃ R : Int, R = (r.rel : Int) := ⟨_, rfl⟩
      rw [← hl] at g0 hrc hrl HNX
      rw [← hRl2] at g1
      have hcc := hrc.1
      have hrcw := hrc.ext hx
      have hrrw := hrr.ext hx
      have HRQ2 : Hid (∀ j, QB 2 (r.nums j)) := Lib.hid hrq
      have i1 : (0 : Int) ≤ (k : Int) := by omega
      have i2 : (k : Int) < (LM : Int) := by omega
      clear hrk hrd hF hl hRl2 hrc hrr hrq
      go_upto_region 11 with fail
      have RB := Box.new wr 62 #[.slice Ac l cc, .int .u8 Rl, .bool x, .slice B d e, .bool y, .slice B' d' e']
      have hxY : Ext wr (wr.alloc (.cells #[.slice Ac l cc, .int .u8 Rl, .bool x, .slice B d e, .bool y, .slice B' d' e'] 62)) := (Ext.refl wr).alloc _
      generalize (wr.alloc (.cells #[.slice Ac l cc, .int .u8 Rl, .bool x, .slice B d e, .bool y, .slice B' d' e'] 62)) = Y at *
      obtain ⟨rb, hrb⟩ : ∃ x, x = wr.heap.size := ⟨_, rfl⟩
      rw [← hrb] at RB ⊢
      clear hrb g0 g1 g2 g3 g4 g5
      have hcY := hrcw.ext hxY
      have hrY := hrrw.ext hxY
      have hxZ : Ext Y (Y.alloc (.cells #[.bool x, .slice B d e, .bool y, .slice B' d' e'] 59)) := (Ext.refl Y).alloc _
      have QN := Box.new Y 59 #[.bool x, .slice B d e, .bool y, .slice B' d' e']
      have hown := own_one (k := 4) (cs := [.bool x, .slice B d e, .bool y, .slice B' d' e']) QN rfl nou4'
      have hsz : Y.heap.size ≤ (Y.alloc (.cells #[.bool x, .slice B d e, .bool y, .slice B' d' e'] 59)).heap.size := by simp
      obtain ⟨ns, m1, m2, m3, m4, m5⟩ := rats_src hcY
      obtain ⟨l2, hl2⟩ : ∃ l2, l2 = 1 + l := ⟨_, rfl⟩
      have HL2 := Lib.hid hl2
      have hl3 : l2 ≤ 1048577 := by omega
      clear hl2
      obtain ⟨irQ, j1', j2', j3', j4'⟩ := info_parts infoRat
      have q2 : Y.cell? ⟨rb, 2, none⟩ = some _ := RB.cell 2
      have q3 : Y.cell? ⟨rb, 3, none⟩ = some _ := RB.cell 3
      have q4 : Y.cell? ⟨rb, 4, none⟩ = some _ := RB.cell 4
      have q5 : Y.cell? ⟨rb, 5, none⟩ = some _ := RB.cell 5
      have q0 := (RB.ext hxZ).c0
      go_upto_region 12 with (at_builtin; refine wpList_pushA rfl _ _ 36 rfl Y.heap.size 59 irQ _ 4 64 Try.underlying36 j1' j2' j3' j4' rfl zRat _ 1 _ rfl hown Ac l ns cc rfl m1 (fun hm => by obtain ⟨ad, e, h⟩ := m2 hm; exact ⟨ad, e, fun j y hj => hxZ.cell (h j y hj)⟩) m3 m4 (by omega) (by decide) hsz ?_; intro v7 w7 o7 r7 s7; have o7' := o7; rw [← HL2.out] at o7'; obtain ⟨A7, c7, rfl⟩ := o7'.shape)
      have hE7 : Ext Y w7 := r7.ext hxZ (fun b hb => by have hb : some Y.heap.size = some b := hb; injection hb with hb; omega)
      have hQ7 : OwnQ w7 Y.heap.size (.slice A7 l2 c7) (1 + l) r.nums := ownQ_cons o7 (hrY.ext hE7) (fun j hj => (m5 j hj).fr (P := fun _ => False) (Fr.of hE7)) rfl (fun j _ => rfl)
      rw [← HL2.out] at hQ7
      have hV7 := hQ7.rats.rats
      have hc7 := hV7.1
      have hEy : Ext w6 w7 := (hx.trans hxY).trans hE7
      clear hQ7 hown hsz QN m1 m2 m3 m4 m5 j1' j2' j3' j4' q0 q2 q3 q4 q5 o7 o7' r7 s7 hE7 hxZ hxY hrY hcY hrcw hrrw RB hEr
      go_loopw [6, 48] (fun fv i wv => ∃ j : Nat, j ≤ l2 ∧ i = .int .i64 j ∧ fv = .bool (F || frN r.nums j) ∧ Ext w7 wv) (fun _ i _ => l2 - (intOf i).toNat)
      case atStart => exact ⟨0, by omega, rfl, by simp [frN], Ext.refl w7⟩
      case round =>
        obtain ⟨j, hj, rfl, rfl, hz⟩ := hrel
        obtain ⟨G, hG⟩ : ∃ G, G = (F || frN r.nums j) := ⟨_, rfl⟩
        rw [← hG]
        by_cases hlj : j < l2
        · obtain ⟨b7, rfl, hW7⟩ := (hV7.ext hz).2.2 (by omega)
          obtain ⟨p3, A3, m3, c3, p3', A3', m3', c3', a0, a1, a2, a3, hr3⟩ := hW7.at hlj
          have i3 : (0 : Int) ≤ (j : Int) := by omega
          have i4 : (j : Int) < (l2 : Int) := by omega
          go_upto_region 14 with fail
          have XB := Box.new wr 59 #[.bool p3, .slice A3 m3 c3, .bool p3', .slice A3' m3' c3']
          have hxT : Ext wr (wr.alloc (.cells #[.bool p3, .slice A3 m3 c3, .bool p3', .slice A3' m3' c3'] 59)) := (Ext.refl wr).alloc _
          generalize (wr.alloc (.cells #[.bool p3, .slice A3 m3 c3, .bool p3', .slice A3' m3' c3'] 59)) = T at *
          obtain ⟨xb, hxb⟩ : ∃ x, x = wr.heap.size := ⟨_, rfl⟩
          rw [← hxb] at XB ⊢
          clear hxb a0 a1 a2 a3
          have hzT := hz.trans hxT
          have OBT := OB.ext ((hE6.trans hEy).trans hzT)
          have hxB : RatB T (.agg #[.bool p3, .slice A3 m3 c3, .bool p3', .slice A3' m3' c3']) (r.nums j) 2 := ⟨hr3.ext hxT, HRQ2.out j⟩
          have honeT := hone.ext ((hE6.trans hEy).trans hzT)
          cases G with
          | true =>
            have HN1 : Hid ((F || frN r.nums (j + 1)) = true) := Lib.hid (by
              show (F || (frN r.nums j || decide ((r.nums j).den ≠ 1))) = true
              rw [← Bool.or_assoc, ← hG]; rfl)
            have ks := Later.refl T
            clear hG
            refine wp_region_held_drew (S := fun w' => Later T w') (by kernel_rfl) ?_ (fun hHeld => ?_)
            · (try dsimp only); (repeat (first | assumption | apply Later.drew | apply Later.drewN | apply Later.alloc | (refine Later.step ?_ (by assumption))))
            refine wpAnyH_take (i := 0) (oi := { dst := some 52, op := Op.move (Operand.tmp 6), type := 4, pos := "law.go:355", after := #[], guard := none }) (v := ?_) rfl (by kernel_rfl) (by kernel_rfl) (by kernel_rfl) (fun _ _ _ h => h) (Or.inl ⟨by rfl, ?_⟩) (by assumption) ?_
            rotate_left
            · intro w hSw; (try dsimp only at hSw); go_simp; try (with_reducible rfl)
            try simp only [Act.put, List.setIfInBounds_toArray, List.set_cons_zero, List.set_cons_succ]
            refine wpAnyH_take (i := 1) (oi := { dst := some 53, op := Op.move (Operand.tmp 52), type := 4, pos := "law.go:355", after := #[{ on := 0, ground := Ground.data }], guard := none }) (v := ?_) rfl (by kernel_rfl) (by kernel_rfl) (by kernel_rfl) (fun _ _ _ h => h) (Or.inl ⟨by rfl, ?_⟩) (by assumption) ?_
            rotate_left
            · intro w hSw; (try dsimp only at hSw); go_simp; try (with_reducible rfl)
            try simp only [Act.put, List.setIfInBounds_toArray, List.set_cons_zero, List.set_cons_succ]
            refine wpAnyH_take (i := 2) (oi := { dst := some 54, op := Op.load 59 (Operand.tmp 11), type := 59, pos := "law.go:355", after := #[{ on := 1, ground := Ground.guard }], guard := some (1, false) }) (v := undef) rfl (by kernel_rfl) (by kernel_rfl) (by kernel_rfl) (fun _ _ _ h => h) (Or.inr ⟨by rfl, rfl⟩) (by assumption) ?_
            try simp only [Act.put, List.setIfInBounds_toArray, List.set_cons_zero, List.set_cons_succ]
            refine wpAnyH_take (i := 3) (oi := { dst := some 55, op := Op.call { callee := Callee.value (Operand.func 21), args := #[Operand.tmp 54], argTypes := #[59] }, type := 57, pos := "law.go:355", after := #[{ on := 2, ground := Ground.data }, { on := 1, ground := Ground.chain }, { on := 1, ground := Ground.guard }], guard := some (1, false) }) (v := undef) rfl (by kernel_rfl) (by kernel_rfl) (by kernel_rfl) (fun _ _ _ h => h) (Or.inr ⟨by rfl, rfl⟩) (by assumption) ?_
            try simp only [Act.put, List.setIfInBounds_toArray, List.set_cons_zero, List.set_cons_succ]
            refine wpAnyH_take (i := 4) (oi := { dst := some 56, op := Op.load 59 (Operand.tmp 7), type := 59, pos := "law.go:355", after := #[{ on := 1, ground := Ground.guard }], guard := some (1, false) }) (v := undef) rfl (by kernel_rfl) (by kernel_rfl) (by kernel_rfl) (fun _ _ _ h => h) (Or.inr ⟨by rfl, rfl⟩) (by assumption) ?_
            try simp only [Act.put, List.setIfInBounds_toArray, List.set_cons_zero, List.set_cons_succ]
            refine wpAnyH_take (i := 5) (oi := { dst := some 57, op := Op.call { callee := Callee.value (Operand.func 23), args := #[Operand.tmp 56], argTypes := #[59] }, type := 57, pos := "law.go:355", after := #[{ on := 4, ground := Ground.data }, { on := 3, ground := Ground.chain }, { on := 1, ground := Ground.guard }], guard := some (1, false) }) (v := undef) rfl (by kernel_rfl) (by kernel_rfl) (by kernel_rfl) (fun _ _ _ h => h) (Or.inr ⟨by rfl, rfl⟩) (by assumption) ?_
            try simp only [Act.put, List.setIfInBounds_toArray, List.set_cons_zero, List.set_cons_succ]
            refine wpAnyH_take (i := 6) (oi := { dst := some 58, op := Op.call { callee := Callee.value (Operand.func 22), args := #[Operand.tmp 55, Operand.tmp 57], argTypes := #[57, 57] }, type := 3, pos := "law.go:355", after := #[{ on := 3, ground := Ground.data }, { on := 5, ground := Ground.data }, { on := 5, ground := Ground.chain }, { on := 1, ground := Ground.guard }], guard := some (1, false) }) (v := undef) rfl (by kernel_rfl) (by kernel_rfl) (by kernel_rfl) (fun _ _ _ h => h) (Or.inr ⟨by rfl, rfl⟩) (by assumption) ?_
            try simp only [Act.put, List.setIfInBounds_toArray, List.set_cons_zero, List.set_cons_succ]
            refine wpAnyH_take (i := 7) (oi := { dst := some 59, op := Op.binOp BinOp.neq 3 (Operand.tmp 58) (Operand.const (Value.int IntKind.i64 0)) 3, type := 4, pos := "law.go:355", after := #[{ on := 6, ground := Ground.data }, { on := 1, ground := Ground.guard }], guard := some (1, false) }) (v := undef) rfl (by kernel_rfl) (by kernel_rfl) (by kernel_rfl) (fun _ _ _ h => h) (Or.inr ⟨by rfl, rfl⟩) (by assumption) ?_
            try simp only [Act.put, List.setIfInBounds_toArray, List.set_cons_zero, List.set_cons_succ]
            refine wpAnyH_take (i := 8) (oi := { dst := some 60, op := Op.pick (Operand.tmp 53) (Operand.const (Value.bool true)) (Operand.tmp 59), type := 4, pos := "law.go:355", after := #[{ on := 1, ground := Ground.data }, { on := 7, ground := Ground.data }], guard := none }) (v := ?_) rfl (by kernel_rfl) (by kernel_rfl) (by kernel_rfl) (fun _ _ _ h => h) (Or.inl ⟨by rfl, ?_⟩) (by assumption) ?_
            rotate_left
            · intro w hSw; (try dsimp only at hSw); go_simp; try (with_reducible rfl)
            try simp only [Act.put, List.setIfInBounds_toArray, List.set_cons_zero, List.set_cons_succ]
            refine wpAnyH_take (i := 9) (oi := { dst := some 6, op := Op.assign (Operand.tmp 60), type := 4, pos := "law.go:355", after := #[{ on := 8, ground := Ground.data }, { on := 6, ground := Ground.chain }, { on := 0, ground := Ground.phase }, { on := 1, ground := Ground.phase }, { on := 2, ground := Ground.phase }, { on := 3, ground := Ground.phase }, { on := 4, ground := Ground.phase }, { on := 5, ground := Ground.phase }, { on := 6, ground := Ground.phase }, { on := 7, ground := Ground.phase }, { on := 8, ground := Ground.phase }], guard := none }) (v := ?_) rfl (by kernel_rfl) (by kernel_rfl) (by kernel_rfl) (fun _ _ _ h => h) (Or.inl ⟨by rfl, ?_⟩) (by assumption) ?_
            rotate_left
            · intro w hSw; (try dsimp only at hSw); go_simp; try (with_reducible rfl)
            try simp only [Act.put, List.setIfInBounds_toArray, List.set_cons_zero, List.set_cons_succ]
            refine wpAnyH_done (by kernel_rfl) ?_ _
            have hLz : Ext T _ := hHeld
            go_wp2_with fail
            go_roundw
            case rel => first | exact ⟨j + 1, by omega, by go_num, by rw [HN1.out], hzT.trans hLz⟩ | ((repeat (apply Exists.intro (α := Value))); exact ⟨⟨j + 1, by omega, by go_num, by rw [HN1.out], hzT.trans hLz⟩, rfl⟩)
            case measure => simp [intOf]; omega
          | false =>
            obtain ⟨S, hS⟩ : ∃ S, S = decide ((r.nums j).den ≠ 1) := ⟨_, rfl⟩
            obtain ⟨g, hg⟩ : ∃ g, g = cmpZ ((r.nums j).den : Int) 1 := ⟨_, rfl⟩
            have HG : Hid (cmpZ ((r.nums j).den : Int) (((1 : Int) : Rat)).num = g) := Lib.hid (by rw [hg]; rfl)
            have eS : (g != 0) = S := by
              rw [hg, hS]
              by_cases h1 : (r.nums j).den = 1
              · have : cmpZ ((r.nums j).den : Int) 1 = 0 := by rw [h1]; exact cmpZ_self _
                rw [this]; simp [h1]
              · have : cmpZ ((r.nums j).den : Int) 1 ≠ 0 := fun h => by
                  have h2 : ((r.nums j).den : Int) = 1 := cmpZ_zero.1 h
                  omega
                simp [this, h1]
            have HN1 : Hid ((F || frN r.nums (j + 1)) = S) := Lib.hid (by
              show (F || (frN r.nums j || decide ((r.nums j).den ≠ 1))) = S
              rw [← Bool.or_assoc, ← hG, ← hS]; rfl)
            have k0 : ∀ w', Later T w' → w'.cell? ⟨xb, 0, none⟩ = some (.bool p3) := fun w' h => (XB.ext h).c0
            have k1 : ∀ w', Later T w' → w'.cell? ⟨xb, 1, none⟩ = some (.slice A3 m3 c3) := fun w' h => (XB.ext h).c1
            have k2 : ∀ w', Later T w' → w'.cell? ⟨xb, 2, none⟩ = some (.bool p3') := fun w' h => (XB.ext h).cell 2
            have k3 : ∀ w', Later T w' → w'.cell? ⟨xb, 3, none⟩ = some (.slice A3' m3' c3') := fun w' h => (XB.ext h).cell 3
            have k4 : ∀ w', Later T w' → w'.cell? ⟨ob, 0, none⟩ = some (.bool p4) := fun w' h => (OBT.ext h).c0
            have k5 : ∀ w', Later T w' → w'.cell? ⟨ob, 1, none⟩ = some (.slice A4 n4 c4) := fun w' h => (OBT.ext h).c1
            have k6 : ∀ w', Later T w' → w'.cell? ⟨ob, 2, none⟩ = some (.bool p4') := fun w' h => (OBT.ext h).cell 2
            have k7 : ∀ w', Later T w' → w'.cell? ⟨ob, 3, none⟩ = some (.slice A4' n4' c4') := fun w' h => (OBT.ext h).cell 3
            have ks := Later.refl T
            clear hG hS hg
            cases S with
            | false =>
              obtain rfl : g = 0 := by simpa using eS
              clear eS
              go_region_held3 (fun w' => Later T w') ((repeat (first | assumption | apply Later.drew | apply Later.drewN | apply Later.alloc | (refine Later.step ?_ (by assumption))))) (first
                | (go_at_call 21; (with_reducible refine (RatDen_b _ _ _ _ (RatB.ext hxB (by repeat (first | (with_reducible exact Ext.refl _) | (with_reducible apply Ext.drew) | (with_reducible apply Ext.drewN) | (with_reducible refine Ext.trans ?_ (by assumption)))))).mono ?_); rintro e wk ⟨vk, rfl, hbk, hxk⟩; (obtain ⟨pk, Ak, nk, ck, rfl⟩ := hbk.1.shape))
                | (go_at_call 23; (with_reducible refine (RatNum_b _ _ _ _ (RatB.ext honeT (by repeat (first | (with_reducible exact Ext.refl _) | (with_reducible apply Ext.drew) | (with_reducible apply Ext.drewN) | (with_reducible refine Ext.trans ?_ (by assumption)))))).mono ?_); rintro e wl ⟨vl, rfl, hbl, hxl⟩; (obtain ⟨pl, Al, nl, cl, rfl⟩ := hbl.1.shape))
                | (go_at_call 22; (with_reducible refine (Cmp_b _ _ _ _ _ _ _ (BigB.ext hbk (by repeat (first | (with_reducible exact Ext.refl _) | (with_reducible apply Ext.drew) | (with_reducible apply Ext.drewN) | (with_reducible refine Ext.trans ?_ (by assumption))))) (BigB.ext hbl (by repeat (first | (with_reducible exact Ext.refl _) | (with_reducible apply Ext.drew) | (with_reducible apply Ext.drewN) | (with_reducible refine Ext.trans ?_ (by assumption)))))).mono ?_); rintro e wm ⟨rfl, hxm⟩; (rw [HG.out]))
                )
              all_goals (
                have hLz : Ext T wm := by assumption
                clear k0 k1 k2 k3 k4 k5 k6 k7
                go_wp2_with fail
                go_roundw
                case rel => first | exact ⟨j + 1, by omega, by go_num, by rw [HN1.out], hzT.trans hLz⟩ | ((repeat (apply Exists.intro (α := Value))); exact ⟨⟨j + 1, by omega, by go_num, by rw [HN1.out], hzT.trans hLz⟩, rfl⟩)
                case measure => simp [intOf]; omega)
            | true =>
              have eS2 : (g == 0) = false := by simpa using eS
              go_region_held3 (fun w' => Later T w') ((repeat (first | assumption | apply Later.drew | apply Later.drewN | apply Later.alloc | (refine Later.step ?_ (by assumption))))) (first
                | (go_at_call 21; (with_reducible refine (RatDen_b _ _ _ _ (RatB.ext hxB (by repeat (first | (with_reducible exact Ext.refl _) | (with_reducible apply Ext.drew) | (with_reducible apply Ext.drewN) | (with_reducible refine Ext.trans ?_ (by assumption)))))).mono ?_); rintro e wk ⟨vk, rfl, hbk, hxk⟩; (obtain ⟨pk, Ak, nk, ck, rfl⟩ := hbk.1.shape))
                | (go_at_call 23; (with_reducible refine (RatNum_b _ _ _ _ (RatB.ext honeT (by repeat (first | (with_reducible exact Ext.refl _) | (with_reducible apply Ext.drew) | (with_reducible apply Ext.drewN) | (with_reducible refine Ext.trans ?_ (by assumption)))))).mono ?_); rintro e wl ⟨vl, rfl, hbl, hxl⟩; (obtain ⟨pl, Al, nl, cl, rfl⟩ := hbl.1.shape))
                | (go_at_call 22; (with_reducible refine (Cmp_b _ _ _ _ _ _ _ (BigB.ext hbk (by repeat (first | (with_reducible exact Ext.refl _) | (with_reducible apply Ext.drew) | (with_reducible apply Ext.drewN) | (with_reducible refine Ext.trans ?_ (by assumption))))) (BigB.ext hbl (by repeat (first | (with_reducible exact Ext.refl _) | (with_reducible apply Ext.drew) | (with_reducible apply Ext.drewN) | (with_reducible refine Ext.trans ?_ (by assumption)))))).mono ?_); rintro e wm ⟨rfl, hxm⟩; (rw [HG.out]))
                )
              all_goals (
                have hLz : Ext T wm := by assumption
                clear k0 k1 k2 k3 k4 k5 k6 k7
                go_wp2_with fail
                go_roundw
                case rel => first | exact ⟨j + 1, by omega, by go_num, by rw [HN1.out], hzT.trans hLz⟩ | ((repeat (apply Exists.intro (α := Value))); exact ⟨⟨j + 1, by omega, by go_num, by rw [HN1.out], hzT.trans hLz⟩, rfl⟩)
                case measure => simp [intOf]; omega)
        · obtain rfl : j = l2 := by omega
          have HN2 : Hid (frR R0 (k + 1) = G) := Lib.hid (by rw [HNX.out, hG, HL2.out, Nat.add_comm 1 l])
          have hyz := hEy.trans hz
          clear hG
          go_wp2_with fail
          go_roundw
          case rel => first | exact ⟨k + 1, by omega, by go_num, by rw [HN2.out], hyz⟩ | ((repeat (apply Exists.intro (α := Value))); exact ⟨⟨k + 1, by omega, by go_num, by rw [HN2.out], hyz⟩, rfl⟩)
          case measure => simp [intOf]; omega
    · obtain rfl : k = LM := by omega
      have hPr := hP5.ext hEr
      clear hx hcap hcap2
      rw [HFI.out]
      by_cases hg : validB PP.toP = true ∧ intB PP.toP = true
      · have HSR : Hid (solveR 0 PP.toP = .fail 13) := Lib.hid (solveR_zero hg.1 hg.2)
        have HVL := Lib.hid hg.1
        rw [hg.2]
        simp only [Bool.not_true]
        clear hg
        have hS := Solve_i _ PP.toP (min nodes 0) 6 8 134217728 0 wr hPr (by omega) (by omega) (by omega) HCAN.out (by have := HPM.out; omega) (by omega)
        rw [HSR.out] at hS
        have g0 := (GB5.ext hEr).c0
        have g1 := (GB5.ext hEr).c1
        go_wp2_with fail
        refine hS.mono ?_
        clear hS g0 g1
        rintro e wa ⟨rfl, hxa⟩
        have hnil : ∀ W, (binOp BinOp.eql 30 (.pointer none) (.pointer none)).run Try.prog W = .ok (.bool true) W := fun _ => by kernel_rfl
        go_upto_region 18 with fail
        have RD := Box.new wa 32 #[.int .i64 0, .slice none 0 0, .pointer none]
        have hxr : Ext wa (wa.alloc (.cells #[.int .i64 0, .slice none 0 0, .pointer none] 32)) := (Ext.refl wa).alloc _
        generalize (wa.alloc (.cells #[.int .i64 0, .slice none 0 0, .pointer none] 32)) = U4 at *
        obtain ⟨rd, hrd⟩ : ∃ x, x = wa.heap.size := ⟨_, rfl⟩
        rw [← hrd] at RD ⊢
        clear hrd
        have hEa := (hEr.trans hxa).trans hxr
        have hPa := (hPr.ext hxa).ext hxr
        have g0 := (GB5.ext hEa).c0
        have g1 := (GB5.ext hEa).c1
        clear hxa hxr
        go_wp2_with fail
        refine (Valid_b _ PP.toP _ hPa).mono ?_
        rintro e wb ⟨rfl, hxb⟩
        have RD := RD.ext hxb
        have d0 := RD.c0
        have d1 := RD.c1
        have d2 : wb.cell? ⟨rd, 2, none⟩ = some (.pointer none) := RD.cell 2
        have hEb := hEa.trans hxb
        clear g0 g1
        rw [HVL.out]
        go_wp2_with fail
        go_ret
        exact ⟨rfl, hE5.trans hEb⟩
      · have HSR : Hid (solveR 0 PP.toP = .fail 3) := Lib.hid (solveR_bad hg)
        obtain ⟨I, hI⟩ : ∃ I, I = !intB PP.toP := ⟨_, rfl⟩
        obtain ⟨V, hV⟩ : ∃ V, V = validB PP.toP := ⟨_, rfl⟩
        have hVI : V = false ∨ (V = true ∧ I = true) := by
          cases V with
          | false => exact .inl rfl
          | true =>
            refine .inr ⟨rfl, ?_⟩
            cases h : intB PP.toP with
            | false => rw [hI, h]; rfl
            | true => exact absurd ⟨hV.symm, h⟩ hg
        rw [← hI]
        have HVL := Lib.hid hV
        clear hg hI hV
        cases I with
        | false =>
          obtain rfl : V = false := by rcases hVI with h | h; exact h; exact absurd h.2 (by decide)
          clear hVI
          have hS := Solve_i _ PP.toP (min nodes 0) 6 8 134217728 0 wr hPr (by omega) (by omega) (by omega) HCAN.out (by have := HPM.out; omega) (by omega)
          rw [HSR.out] at hS
          have g0 := (GB5.ext hEr).c0
          have g1 := (GB5.ext hEr).c1
          go_wp2_with fail
          refine hS.mono ?_
          clear hS g0 g1
          rintro e wa ⟨rfl, hxa⟩
          have hnil : ∀ W, (binOp BinOp.eql 30 (.pointer none) (.pointer none)).run Try.prog W = .ok (.bool true) W := fun _ => by kernel_rfl
          go_upto_region 18 with fail
          have RD := Box.new wa 32 #[.int .i64 0, .slice none 0 0, .pointer none]
          have hxr : Ext wa (wa.alloc (.cells #[.int .i64 0, .slice none 0 0, .pointer none] 32)) := (Ext.refl wa).alloc _
          generalize (wa.alloc (.cells #[.int .i64 0, .slice none 0 0, .pointer none] 32)) = U4 at *
          obtain ⟨rd, hrd⟩ : ∃ x, x = wa.heap.size := ⟨_, rfl⟩
          rw [← hrd] at RD ⊢
          clear hrd
          have hEa := (hEr.trans hxa).trans hxr
          have hPa := (hPr.ext hxa).ext hxr
          have g0 := (GB5.ext hEa).c0
          have g1 := (GB5.ext hEa).c1
          clear hxa hxr
          go_wp2_with fail
          refine (Valid_b _ PP.toP _ hPa).mono ?_
          rintro e wb ⟨rfl, hxb⟩
          have RD := RD.ext hxb
          have d0 := RD.c0
          have d1 := RD.c1
          have d2 : wb.cell? ⟨rd, 2, none⟩ = some (.pointer none) := RD.cell 2
          have hEb := hEa.trans hxb
          clear g0 g1
          rw [← HVL.out]
          go_wp2_with fail
          go_ret
          exact ⟨rfl, hE5.trans hEb⟩
        | true =>
          clear hVI
          have hS := Solve_i _ PP.toP (min nodes 0) 6 8 134217728 0 wr hPr (by omega) (by omega) (by omega) HCAN.out (by have := HPM.out; omega) (by omega)
          rw [HSR.out] at hS
          have g0 := (GB5.ext hEr).c0
          have g1 := (GB5.ext hEr).c1
          go_wp2_with fail
          refine hS.mono ?_
          clear hS g0 g1
          rintro e wa ⟨rfl, hxa⟩
          have hnil : ∀ W, (binOp BinOp.eql 30 (.pointer none) (.pointer none)).run Try.prog W = .ok (.bool true) W := fun _ => by kernel_rfl
          go_upto_region 18 with fail
          have RD := Box.new wa 32 #[.int .i64 0, .slice none 0 0, .pointer none]
          have hxr : Ext wa (wa.alloc (.cells #[.int .i64 0, .slice none 0 0, .pointer none] 32)) := (Ext.refl wa).alloc _
          generalize (wa.alloc (.cells #[.int .i64 0, .slice none 0 0, .pointer none] 32)) = U4 at *
          obtain ⟨rd, hrd⟩ : ∃ x, x = wa.heap.size := ⟨_, rfl⟩
          rw [← hrd] at RD ⊢
          clear hrd
          have hEa := (hEr.trans hxa).trans hxr
          have hPa := (hPr.ext hxa).ext hxr
          have g0 := (GB5.ext hEa).c0
          have g1 := (GB5.ext hEa).c1
          clear hxa hxr
          go_wp2_with fail
          refine (Valid_b _ PP.toP _ hPa).mono ?_
          rintro e wb ⟨rfl, hxb⟩
          have RD := RD.ext hxb
          have d0 := RD.c0
          have d1 := RD.c1
          have d2 : wb.cell? ⟨rd, 2, none⟩ = some (.pointer none) := RD.cell 2
          have hEb := hEa.trans hxb
          clear g0 g1
          rw [← HVL.out]
          clear HVL
          cases V with
          | false =>
            go_wp2_with fail
            go_ret
            exact ⟨rfl, hE5.trans hEb⟩
          | true =>
            go_wp2_with fail
            go_ret
            exact ⟨rfl, hE5.trans hEb⟩
end Go.Proofs.Ythafabkjidifeaa.Lp

/- Walk: Check, over what it asks of the tree. -/
import Derived.Test.YtljncdcjkdgkeaaGreatDoorCK3
import Derived.Test.YtljncdcjkdgkeaaGreatDoorCK1
import Derived.Test.YtljncdcjkdgkeaaGreatDoorCW2
set_option linter.unusedVariables false
set_option linter.unusedSimpArgs false
namespace Go.Proofs.YtljncdcjkdgkeaaGreatDoor.Lp
open Go.RowKit Go.Proofs.YtljncdcjkdgkeaaGreatDoor.Big Go.Proofs.YtljncdcjkdgkeaaGreatDoor.Rt

def alZ (f : Nat → Rat) : Nat → Bool
  | 0 => true
  | n + 1 => alZ f n && decide ((f n).den = 1)
theorem alZ_iff {f : Nat → Rat} {n : Nat} : alZ f n = true ↔ ∀ j, j < n → (f j).den = 1 := by
  induction n with
  | zero => exact ⟨fun _ j hj => absurd hj (by omega), fun _ => rfl⟩
  | succ n ih =>
    show (alZ f n && decide ((f n).den = 1)) = true ↔ _
    rw [Bool.and_eq_true, ih, decide_eq_true_eq]
    refine ⟨fun h j hj => ?_, fun h => ⟨fun j hj => h j (by omega), h n (by omega)⟩⟩
    rcases Nat.lt_or_ge j n with hlt | hge
    · exact h.1 j hlt
    · obtain rfl : j = n := by omega
      exact h.2
/-- the bound that a leaf is held against -/
def limZ (z : Int) (s : Bool) : Rat := if s = true then (z : Rat) + ((1 : Int) : Rat) else (z : Rat)
def chkE (b R : Bool) : Int := if b = true then (if R = true then 0 else 19) else 3
theorem ProbV.objC {w : World} {p : Prob} {Ao : Option Addr} {n co : Nat} {r : Value} (h : ProbV w (.agg #[.slice Ao n co, r]) p) : RatsV w Ao n co p.obj := by
  obtain ⟨Ao', co', Ar', cr', e, h1, -⟩ := h
  injection e with e
  have e1 : Value.slice Ao n co = Value.slice Ao' p.n co' := by
    have := congrArg (fun a : Array Value => a[0]?) e
    simpa using this
  injection e1 with e1 e2 e3
  subst e1 e3
  rw [e2]
  exact h1
set_option maxHeartbeats 2000000 in
set_option maxRecDepth 100000 in
theorem Check_any (v t : Value) (p : Prob) (z : Int) (wf ft R : Bool) (Ko : Nat) (w : World) (hv : ProbV w v p) (hz0 : -9223372036854775808 ≤ z) (hz1 : z ≤ 9223372036854775807) (hKo : Ko ≤ 549755813888) (ho : ∀ j, j < p.n → QB Ko (p.obj j))
    (hwf : ∀ W, Ext w W → Calls Tryz.prog 32 #[t] W (fun e w' => e = .returned (.bool wf) ∧ Ext W w'))
    (hft : validB p = true → wf = true → ∀ W, Ext w W → Calls Tryz.prog 43 #[v, t] W (fun e w' => e = .returned (.bool ft) ∧ Ext W w'))
    (hpr : validB p = true → wf = true → ft = true → ∀ W (fb lb sb : Nat) (u1 u3 : Bool) (U2 U4 : Option Addr) (l2 l3 l4 l5 : Nat), Ext w W → w.heap.size ≤ fb → w.heap.size ≤ lb → w.heap.size ≤ sb → Box W fb 106 #[.func (.func 48) #[] #[.pointer (some ⟨fb, 0, none⟩), .pointer (some ⟨lb, 0, none⟩), .pointer (some ⟨sb, 0, none⟩)]] →
      Box W lb 58 #[.bool u1, .slice U2 l2 l3, .bool u3, .slice U4 l4 l5] → RatB W (.agg #[.bool u1, .slice U2 l2 l3, .bool u3, .slice U4 l4 l5]) (limZ z (alZ p.obj p.n)) 5 → Box W sb 4 #[.bool (alZ p.obj p.n)] →
      Calls Tryz.prog 48 #[v, t, .pointer (some ⟨fb, 0, none⟩), .pointer (some ⟨lb, 0, none⟩), .pointer (some ⟨sb, 0, none⟩)] W (ValPost W (.bool R))) :
    Calls Tryz.prog 16 #[v, .int .i64 z, t] w (ValPost w (.int .i64 (chkE (validB p && wf && ft) R))) := by
  obtain ⟨E, hEq⟩ : ∃ E, E = chkE (validB p && wf && ft) R := ⟨_, rfl⟩
  rw [← hEq]
  have HEQ := Lib.hid hEq
  clear hEq
  obtain ⟨Ao, co, Ar, cr, rfl, -⟩ := id hv
  have HO := Lib.hid ho
  have HPR := Lib.hid hpr
  have HFT := Lib.hid hft
  have HWF := Lib.hid hwf
  clear ho hpr hft hwf
  have PB := Box.new w 41 #[.slice Ao p.n co, .slice Ar p.m cr]
  have hE0 : Ext w (w.alloc (.cells #[.slice Ao p.n co, .slice Ar p.m cr] 41)) := (Ext.refl w).alloc _
  go_enter Tryz.func16, Tryz.ntmps16
  go_upto_region 1 with fail
  generalize (w.alloc (.cells #[.slice Ao p.n co, .slice Ar p.m cr] 41)) = V at *
  obtain ⟨pb, hpb⟩ : ∃ x, x = w.heap.size := ⟨_, rfl⟩
  rw [← hpb] at PB ⊢
  clear hpb
  have c0 := PB.c0
  have c1 := PB.c1
  go_wp2_with fail
  refine (Valid_b _ p _ (hv.ext hE0)).mono ?_
  rintro e w1 ⟨rfl, hx1⟩
  have PB1 := PB.ext hx1
  have hE1 := hE0.trans hx1
  obtain ⟨B, hB⟩ : ∃ B, B = validB p := ⟨_, rfl⟩
  rw [← hB]
  have HB := Lib.hid hB
  clear hB c0 c1 PB hE0 hx1
  cases B with
  | false =>
    have HE9 : Hid (E = 3) := Lib.hid (by rw [HEQ.out, ← HB.out]; simp [chkE])
    go_wp2_with fail
    go_ret
    exact ⟨by rw [HE9.out]; rfl, hE1⟩
  | true =>
  obtain ⟨a1, a2, a3, a4⟩ := validB_iff.1 HB.out.symm
  go_wp2_with fail
  refine (HWF.out _ hE1).mono ?_
  rintro e w2 ⟨rfl, hx2⟩
  have PB2 := PB1.ext hx2
  have hE2 := hE1.trans hx2
  clear PB1 hE1 hx2
  cases wf with
  | false =>
    have HE9 : Hid (E = 3) := Lib.hid (by rw [HEQ.out, ← HB.out]; simp [chkE])
    go_wp2_with fail
    go_ret
    exact ⟨by rw [HE9.out]; rfl, hE2⟩
  | true =>
  have c0 := PB2.c0
  have c1 := PB2.c1
  go_wp2_with fail
  refine (HFT.out HB.out.symm (by first | rfl | trivial) _ hE2).mono ?_
  rintro e w3 ⟨rfl, hx3⟩
  have PB3 := PB2.ext hx3
  have hE3 := hE2.trans hx3
  clear PB2 hE2 hx3 c0 c1
  cases ft with
  | false =>
    have HE9 : Hid (E = 3) := Lib.hid (by rw [HEQ.out, ← HB.out]; simp [chkE])
    go_wp2_with fail
    go_ret
    exact ⟨by rw [HE9.out]; rfl, hE3⟩
  | true =>
  go_wp2_with fail
  refine (RatOf_b z _ hz0 hz1).mono ?_
  rintro e w4 ⟨v4, rfl, hb4, hx4⟩
  obtain ⟨p4, A4, n4, c4, p4', A4', n4', c4', rfl⟩ := hb4.1.shape
  obtain ⟨LB, SB, hx5⟩ := boxesT2 w4 58 4 #[.bool p4, .slice A4 n4 c4, .bool p4', .slice A4' n4' c4'] #[.bool true]
  go_upto_region 4 with fail
  generalize ((w4.alloc (.cells #[.bool p4, .slice A4 n4 c4, .bool p4', .slice A4' n4' c4'] 58)).alloc (.cells #[.bool true] 4)) = W5 at *
  obtain ⟨sb, hsb⟩ : ∃ x, x = w4.heap.size + 1 := ⟨_, rfl⟩
  obtain ⟨lb, hlb⟩ : ∃ x, x = w4.heap.size := ⟨_, rfl⟩
  rw [← hsb] at SB ⊢
  rw [← hlb] at LB ⊢
  have hls : lb ≠ sb := by omega
  have hw4l : w4.heap.size ≤ lb := by omega
  have hw4s : w4.heap.size ≤ sb := by omega
  clear hsb hlb
  have PB5 := (PB3.ext hx4).ext hx5
  have hE5 := (hE3.trans hx4).trans hx5
  have hE4 := hE3.trans hx4
  have hwl : w.heap.size ≤ lb := Nat.le_trans hE4.size hw4l
  have hws : w.heap.size ≤ sb := Nat.le_trans hE4.size hw4s
  have hpl : pb ≠ lb := by have := (PB3.ext hx4).lt; omega
  have hps : pb ≠ sb := by have := (PB3.ext hx4).lt; omega
  have hb5 := hb4.ext hx5
  clear PB3 hE3 hx4 hb4 hx5
  have c0 := PB5.c0
  go_upto_region 5 with fail
  clear c0
  go_loopw [31] (fun i wr => ∃ j : Nat, j ≤ p.n ∧ i = .int .i64 j ∧ Box wr sb 4 #[.bool (alZ p.obj j)] ∧ Fr (fun k => k = sb) W5 wr) (fun i _ => p.n - (intOf i).toNat)
  case atStart => exact ⟨0, by omega, rfl, SB, Fr.refl _ _⟩
  case round =>
    clear SB
    obtain ⟨j, hj, rfl, SBr, hFr⟩ := hrel
    have hEr := hFr.ext hE5 (fun b hb => by rw [hb]; exact hws)
    obtain ⟨S, hS⟩ : ∃ S, S = alZ p.obj j := ⟨_, rfl⟩
    rw [← hS] at SBr
    have HS := Lib.hid hS
    clear hS
    by_cases hlt : j < p.n
    · have hob := (hv.ext hEr).objC
      have hoc := hob.1
      obtain ⟨qo, rfl, hqo⟩ := hob.2.2 (by omega)
      obtain ⟨p5, A5, m5, c5, p5', A5', m5', c5', o0, o1, o2, o3, hr5⟩ := hqo.at hlt
      have i1 : (0 : Int) ≤ (j : Int) := by omega
      have i2 : (j : Int) < (p.n : Int) := by omega
      go_upto_region 7 with fail
      have XB := Box.new wr 58 #[.bool p5, .slice A5 m5 c5, .bool p5', .slice A5' m5' c5']
      have hxT : Ext wr (wr.alloc (.cells #[.bool p5, .slice A5 m5 c5, .bool p5', .slice A5' m5' c5'] 58)) := (Ext.refl wr).alloc _
      generalize (wr.alloc (.cells #[.bool p5, .slice A5 m5 c5, .bool p5', .slice A5' m5' c5'] 58)) = T at *
      obtain ⟨xb, hxb⟩ : ∃ x, x = wr.heap.size := ⟨_, rfl⟩
      rw [← hxb] at XB ⊢
      clear hxb o0 o1 o2 o3
      have SBT := SBr.ext hxT
      have hxB : RatB T (.agg #[.bool p5, .slice A5 m5 c5, .bool p5', .slice A5' m5' c5']) (p.obj j) Ko := ⟨hr5.ext hxT, HO.out j hlt⟩
      have hFT := hFr.trans (Fr.of hxT)
      have s0 := SBT.c0
      have z0 := SBT.frozen 0
      cases S with
      | false =>
        have HN1 : Hid (alZ p.obj (j + 1) = false) := Lib.hid (by show (alZ p.obj j && decide ((p.obj j).den = 1)) = false; rw [← HS.out]; rfl)
        have SB2 := SBT.set 0 (.bool false)
        have hF2 := hFT.set (p := ⟨sb, 0, none⟩) rfl (fun z => by rw [s0]; intro e; cases e) (.bool false)
        have SB2 : Box (T.setCell ⟨sb, 0, none⟩ (.bool false)) sb 4 #[.bool (alZ p.obj (j + 1))] := by rw [HN1.out]; exact SB2
        go_wp2_with fail
        go_roundw
        case rel => first | exact ⟨j + 1, by omega, by go_num, SB2, hF2⟩ | ((repeat (apply Exists.intro (α := Value))); exact ⟨⟨j + 1, by omega, by go_num, SB2, hF2⟩, rfl⟩)
        case measure => simp [intOf]; omega
      | true =>
        obtain ⟨D, hD⟩ : ∃ D, D = decide ((p.obj j).den = 1) := ⟨_, rfl⟩
        obtain ⟨g, hg⟩ : ∃ g, g = cmpZ ((p.obj j).den : Int) 1 := ⟨_, rfl⟩
        have eD : (g == 0) = D := by
          rw [hg, hD]
          by_cases h1 : (p.obj j).den = 1
          · have : cmpZ ((p.obj j).den : Int) 1 = 0 := by rw [h1]; exact cmpZ_self _
            rw [this]; simp [h1]
          · have : cmpZ ((p.obj j).den : Int) 1 ≠ 0 := fun h => by
              have h2 : ((p.obj j).den : Int) = 1 := cmpZ_zero.1 h
              omega
            simp [this, h1]
        have HG := Lib.hid hg
        have HN1 : Hid (alZ p.obj (j + 1) = D) := Lib.hid (by show (alZ p.obj j && decide ((p.obj j).den = 1)) = D; rw [← HS.out, hD]; rfl)
        have x0 := XB.c0
        have x1 := XB.c1
        have x2 := XB.c2
        have x3 := XB.c3
        clear hg hD
        go_wp2_with fail
        refine (RatDen_b _ _ _ _ hxB).mono ?_
        rintro e w6 ⟨v6, rfl, hb6, hx6⟩
        obtain ⟨p6, A6, n6, c6, rfl⟩ := hb6.1.shape
        clear x0 x1 x2 x3
        go_wp2_with fail
        refine (Of_b 1 _ (by omega) (by omega)).mono ?_
        rintro e w7 ⟨v7, rfl, hb7, hx7⟩
        obtain ⟨p7, A7, n7, c7, rfl⟩ := hb7.1.shape
        go_wp2_with fail
        refine (Cmp_b _ _ _ _ _ _ _ (hb6.ext hx7) hb7).mono ?_
        rintro e w8 ⟨rfl, hx8⟩
        rw [← HG.out]
        have hx68 := (hx6.trans hx7).trans hx8
        have SB8 := SBT.ext hx68
        have hF8 := hFT.trans (Fr.of hx68)
        clear s0 z0
        have s0 := SB8.c0
        have z0 := SB8.frozen 0
        have SB9 := SB8.set 0 (.bool D)
        have hF9 := hF8.set (p := ⟨sb, 0, none⟩) rfl (fun z => by rw [s0]; intro e; cases e) (.bool D)
        have SB9 : Box (w8.setCell ⟨sb, 0, none⟩ (.bool D)) sb 4 #[.bool (alZ p.obj (j + 1))] := by rw [HN1.out]; exact SB9
        go_wp2_with fail
        go_roundw
        case rel => first | exact ⟨j + 1, by omega, by go_num, SB9, hF9⟩ | ((repeat (apply Exists.intro (α := Value))); exact ⟨⟨j + 1, by omega, by go_num, SB9, hF9⟩, rfl⟩)
        case measure => simp [intOf]; omega
    · obtain rfl : j = p.n := by omega
      have LBr := hFr.box LB hls
      have PBr := hFr.box PB5 hps
      have hb6 := hFr.ratB hb5
      have s0 := SBr.c0
      have hvr := hv.ext hEr
      clear LB PB5 hb5 hE5 hFr
      go_upto_if 44 with fail
      rename_i hK
      go_cut [] (fun wx => ∃ (u1 u3 : Bool) (U2 U4 : Option Addr) (l2 l3 l4 l5 : Nat), Box wx lb 58 #[.bool u1, .slice U2 l2 l3, .bool u3, .slice U4 l4 l5] ∧ RatB wx (.agg #[.bool u1, .slice U2 l2 l3, .bool u3, .slice U4 l4 l5]) (limZ z S) 5 ∧ Box wx sb 4 #[.bool S] ∧ Box wx pb 41 #[.slice Ao p.n co, .slice Ar p.m cr] ∧ Ext w wx)
      case first =>
        cases S with
        | false =>
          go_wp2_with fail
          go_meet
          exact ⟨_, _, _, _, _, _, _, _, LBr, ⟨hb6.1, QB_mono (by omega) hb6.2⟩, SBr, PBr, hEr⟩
        | true =>
          go_upto_region 10 with fail
          have q0 := LBr.c0
          have q1 := LBr.c1
          have q2 := LBr.c2
          have q3 := LBr.c3
          go_region_law (first
            | (go_simp; go_at_call 20; (with_reducible refine (RatOf_b 1 _ (by omega) (by omega)).mono ?_); rintro e wl ⟨vl, rfl, hbl, hxl⟩; (obtain ⟨pl, Al, nl, cl, pl', Al', nl', cl', rfl⟩ := hbl.1.shape); (have hlL : Ext wr wl := Ext.trans (by repeat (first | (with_reducible exact Ext.refl _) | (with_reducible apply Ext.drew) | (with_reducible apply Ext.drewN))) hxl); (have q0 := hlL.cell q0); (have q1 := hlL.cell q1); (have q2 := hlL.cell q2); (have q3 := hlL.cell q3))
            | (go_simp; go_at_call 47; (with_reducible refine (RatAdd_b _ _ _ _ _ _ _ (RatB.ext hb6 (by repeat (first | (with_reducible exact Ext.refl _) | (with_reducible apply Ext.drew) | (with_reducible apply Ext.drewN) | (with_reducible refine Ext.trans ?_ (by assumption))))) (RatB.ext hbl (by repeat (first | (with_reducible exact Ext.refl _) | (with_reducible apply Ext.drew) | (with_reducible apply Ext.drewN)))) (by omega)).mono ?_); rintro e wm ⟨vm, rfl, hbm, hxm⟩; (obtain ⟨pm, Am, nm, cm, pm', Am', nm', cm', rfl⟩ := hbm.1.shape); (have hmL : Ext wl wm := Ext.trans (by repeat (first | (with_reducible exact Ext.refl _) | (with_reducible apply Ext.drew) | (with_reducible apply Ext.drewN))) hxm); (have DBm := (LBr.ext hlL).ext hmL); (have q0 := DBm.c0); (have q1 := DBm.c1); (have q2 := DBm.c2); (have q3 := DBm.c3); (have z0 := DBm.frozen 0); (have z1 := DBm.frozen 1); (have z2 := DBm.frozen 2); (have z3 := DBm.frozen 3))
            )
          all_goals (
            obtain ⟨hf, pbx⟩ := put4 DBm (.bool pm) (.slice Am nm cm) (.bool pm') (.slice Am' nm' cm')
            have pp := hf.ratB hbm
            have SB9 := hf.box ((SBr.ext hlL).ext hmL) (Ne.symm hls)
            have PB9 := hf.box ((PBr.ext hlL).ext hmL) hpl
            have hE9 := hf.ext ((hEr.trans hlL).trans hmL) (fun b hb => by rw [hb]; exact hwl)
            clear DBm q0 q1 q2 q3 z0 z1 z2 z3 hf
            go_wp2_with fail
            go_meet
            exact ⟨_, _, _, _, _, _, _, _, pbx, pp, SB9, PB9, hE9⟩)
      case rest =>
      obtain ⟨u1, u3, U2, U4, l2, l3, l4, l5, LBc, hLz, SBc, PBc, hEc⟩ := hcut
      refine hK _ _ ?_
      clear hK LBr PBr SBr hb6 hEr hvr s0
      have hvc := hv.ext hEc
      go_upto_region 12 with fail
      have FB := Box.new wc 106 #[.nilFunc]
      have hxf : Ext wc (wc.alloc (.cells #[.nilFunc] 106)) := (Ext.refl wc).alloc _
      generalize (wc.alloc (.cells #[.nilFunc] 106)) = W6 at *
      obtain ⟨fb, hfb⟩ : ∃ x, x = wc.heap.size := ⟨_, rfl⟩
      rw [← hfb] at FB ⊢
      have hfw : w.heap.size ≤ fb := by have := hEc.size; omega
      have hfl : lb ≠ fb := by have := LBc.lt; omega
      have hfs : sb ≠ fb := by have := SBc.lt; omega
      have hfp : pb ≠ fb := by have := PBc.lt; omega
      clear hfb
      have LB6 := LBc.ext hxf
      have SB6 := SBc.ext hxf
      have PB6 := PBc.ext hxf
      have hL6 := hLz.ext hxf
      have hE6 := hEc.trans hxf
      clear LBc SBc PBc hLz hEc hxf
      obtain ⟨K, hKK⟩ : ∃ K : Value, K = .func (.func 48) #[] #[.pointer (some ⟨fb, 0, none⟩), .pointer (some ⟨lb, 0, none⟩), .pointer (some ⟨sb, 0, none⟩)] := ⟨_, rfl⟩
      have f0 := FB.c0
      have f1 := FB.frozen 0
      have hF : Fr (fun k => k = fb) W6 (W6.setCell ⟨fb, 0, none⟩ K) := (Fr.refl (fun k => k = fb) W6).set (p := ⟨fb, 0, none⟩) rfl (fun z => by rw [f0]; intro e; cases e) _
      have FB7 := FB.set 0 K
      have LB7 := hF.box LB6 hfl
      have SB7 := hF.box SB6 hfs
      have PB7 := hF.box PB6 hfp
      have hL7 := hF.ratB hL6
      have hE7 := hF.ext hE6 (fun b hb => by rw [hb]; exact hfw)
      go_upto_region 13 with fail
      rw [← hKK]
      generalize (W6.setCell ⟨fb, 0, none⟩ K) = W7 at *
      subst hKK
      clear hF f0 f1 FB LB6 SB6 PB6 hL6 hE6
      have k0 := FB7.c0
      have c0 := PB7.c0
      have c1 := PB7.c1
      rw [HS.out] at hL7 SB7
      have hcall := HPR.out HB.out.symm (by first | rfl | trivial) (by first | rfl | trivial) W7 fb lb sb u1 u3 U2 U4 l2 l3 l4 l5 hE7 hfw hwl hws FB7 LB7 hL7 SB7
      go_wp2_with fail
      refine hcall.mono ?_
      rintro e w8 ⟨rfl, hx8⟩
      have hE8 := hE7.trans hx8
      cases R with
      | false =>
        have HE9 : Hid (E = 19) := Lib.hid (by rw [HEQ.out, ← HB.out]; simp [chkE])
        go_wp2_with fail
        go_ret
        exact ⟨by rw [HE9.out]; rfl, hE8⟩
      | true =>
        have HE9 : Hid (E = 0) := Lib.hid (by rw [HEQ.out, ← HB.out]; simp [chkE])
        go_wp2_with fail
        go_ret
        exact ⟨by rw [HE9.out]; rfl, hE8⟩
end Go.Proofs.YtljncdcjkdgkeaaGreatDoor.Lp

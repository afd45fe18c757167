/- Walk: solved. -/
import Derived.Deep.DeepCutAuto
import Derived.Test.YtljncdcjkdgkeaaGreatDoorYII
import Derived.Test.YtljncdcjkdgkeaaGreatDoorYCN0
import Derived.Test.YtljncdcjkdgkeaaGreatDoorYCK3
set_option linter.unusedVariables false
set_option linter.unusedSimpArgs false
namespace Go.Proofs.YtljncdcjkdgkeaaGreatDoor.Lp
open Go.RowKit Go.Proofs.YtljncdcjkdgkeaaGreatDoor.Big Go.Proofs.YtljncdcjkdgkeaaGreatDoor.Rt
def SvdPost (w : World) (e : Ending) (w' : World) : Prop := Ext w w' ∧ (e = .returned (.tuple #[.pointer none, .int .i64 0, .bool false]) ∨ ∃ A z b h t, e = .returned (.tuple #[.pointer A, .int .i64 z, .bool true]) ∧ fit z = true ∧ qjd w' t A b h ∧ t.okY 134217740 ∧ t.okN ∧ t.dep ≤ 60)
theorem qjd.addrC {w : World} {t : CT} {A : Option Addr} {b h : Nat} (x : qjd w t A b h) : ∀ a, A = some a → ∃ k, a = ⟨k, 0, none⟩ := by
 cases t with
 | nil => intro a e; rw [x.1] at e; cases e
 | node vr fl em n y lo hi =>
   obtain ⟨k, L, H, Y, c, m1, m2, e, -⟩ := x
   intro a e'
   rw [e] at e'
   exact ⟨k, (Option.some.inj e').symm⟩
set_option maxHeartbeats 16000000 in
set_option maxRecDepth 100000 in
theorem solved_b (x : Value) (p : Prob) (lf at' : Nat) (ch : Int) (w : World) (hx : qga w x p) (hval : qba p = true) (hm : p.m ≤ 8) (hcan : ∀ M, M ≤ 68 → p.m ≤ M → CanI p 6 M 134217728) (hl : lf ≤ 255) (ha : at' ≤ 255) (hc0 : -128 ≤ ch) (hc1 : ch ≤ 127) :
 Calls Tryz.prog 18 #[x, .int .u8 (lf : Int), .int .u8 (at' : Int), .int .i8 ch] w (SvdPost w) := by
 obtain ⟨Ao, co, Ar, cr, rfl, -⟩ := id hx
 have PB := Box.new w 41 #[.slice Ao p.n co, .slice Ar p.m cr]
 have hE0 : Ext w (w.alloc (.cells #[.slice Ao p.n co, .slice Ar p.m cr] 41)) := (Ext.refl w).alloc _
 have HCAN := Lib.hid hcan
 have HVAL := Lib.hid hval
 clear hcan hval
 go_enter Tryz.func18, Tryz.ntmps18
 go_upto_region 1 with fail
 generalize (w.alloc (.cells #[.slice Ao p.n co, .slice Ar p.m cr] 41)) = U at *
 obtain ⟨pb, hpb⟩ : ∃ x, x = w.heap.size := ⟨_, rfl⟩
 rw [← hpb] at PB ⊢
 clear hpb
 have hP := hx.ext hE0
 have hS := Solve_i _ p 60 6 68 134217728 60 U hP (by omega) (by omega) (by decide) (fun _ => HCAN.out 68 (by omega) (by omega)) (by omega) (by omega)
 obtain ⟨R, hR⟩ : ∃ R, R = quu 60 p := ⟨_, rfl⟩
 rw [← hR] at hS
 have p0 := PB.c0
 have p1 := PB.c1
 go_wp2_with fail
 refine hS.mono ?_
 clear hS p0 p1
 cases R with
 | fail c =>
   rintro e w5 ⟨rfl, hx5⟩
   have hc := qnm hR.symm
   have e1 : (c != 0) = true := by
    have : c ≠ 0 := by omega
    simpa using this
   clear hR hc
   go_upto_region 2 with fail
   have hxr : Ext w5 (w5.alloc (.cells #[.int .i64 0, .slice none 0 0, .pointer none] 115)) := (Ext.refl w5).alloc _
   generalize (w5.alloc (.cells #[.int .i64 0, .slice none 0 0, .pointer none] 115)) = U2 at *
   go_wp2_with fail
   refine bodyPost_ret (v := .tuple #[.pointer none, .int .i64 0, .bool false]) (by simp [results, Tryz.results18, go_sem]) rfl ?_
   exact ⟨(hE0.trans hx5).trans hxr, .inl rfl⟩
 | done vv xx t =>
   rintro e w5 ⟨g, tb, h, rfl, -, hT, -, -, hx5⟩
   have hF := qyn (by omega) hR.symm
   obtain ⟨s, hs1, -⟩ := hF.eq
   have hsz : t.size ≤ 60 := by
    have hvi := (validB_iff.1 HVAL.out).vrel
    have hq := qx3 hR.symm
    have h3 := (qls hvi (q26 hq) hs1).2.2.2
    have e0 : s.solved = 0 + t.size := h3.1
    have := h3.2
    omega
   have hok := hT.ok hF.tree (by omega)
   have hfv := hF.fitv
   have hTS := hT.treeS
   have htd : t.ct.dep ≤ 60 := Nat.le_trans t.ct_dep hsz
   obtain ⟨T, hTT⟩ : ∃ T, T = t.ct := ⟨_, rfl⟩
   have hTn : T ≠ .nil := by rw [hTT]; cases t <;> exact fun h => by cases h
   rw [← hTT] at hok hTS htd
   have HOK := Lib.hid hok
   clear hR hF hs1 hsz hok hT hTT HVAL HCAN
   go_upto_region 2 with fail
   have RA := Box.new w5 115 #[.int .i64 vv, .slice (some ⟨g, 0, none⟩) p.n p.n, .pointer (some ⟨tb, 0, none⟩)]
   have hxr : Ext w5 (w5.alloc (.cells #[.int .i64 vv, .slice (some ⟨g, 0, none⟩) p.n p.n, .pointer (some ⟨tb, 0, none⟩)] 115)) := (Ext.refl w5).alloc _
   generalize (w5.alloc (.cells #[.int .i64 vv, .slice (some ⟨g, 0, none⟩) p.n p.n, .pointer (some ⟨tb, 0, none⟩)] 115)) = U2 at *
   obtain ⟨ra, hra⟩ : ∃ x, x = w5.heap.size := ⟨_, rfl⟩
   rw [← hra] at RA ⊢
   clear hra
   have hE6 := (hE0.trans hx5).trans hxr
   have r2 : U2.cell? ⟨ra, 2, none⟩ = some (.pointer (some ⟨tb, 0, none⟩)) := RA.cell 2
   have hnl : ∀ W, (binOp BinOp.eql 25 (.pointer (some ⟨tb, 0, none⟩)) (.pointer none)).run Tryz.prog W = .ok (.bool false) W := fun _ => by kernel_rfl
   have hTS6 := hTS.ext hxr
   clear hx5 hxr hE0 PB hP hx hTS
   go_wp2_with fail
   refine (copied_b T _ 0 _ hTS6 HOK.out.2 (by omega)).mono ?_
   rintro e w7 ⟨A, rfl, hTI, hx7⟩
   have RA7 := RA.ext hx7
   have hE7 := hE6.trans hx7
   obtain ⟨b1, hb1⟩ : ∃ b, b = U2.heap.size := ⟨_, rfl⟩
   obtain ⟨b2, hb2⟩ : ∃ b, b = w7.heap.size := ⟨_, rfl⟩
   rw [← hb1, ← hb2] at hTI
   have hb1w : w.heap.size ≤ b1 := by rw [hb1]; exact hE6.size
   have hra1 : ra < b1 := by rw [hb1]; exact RA.lt
   clear hb1 hb2 r2 hTS6 RA hE6 hx7 hnl
   obtain ⟨a0, rfl⟩ : ∃ k, A = some ⟨k, 0, none⟩ := by
    cases T with
    | nil => exact absurd rfl hTn
    | node vr fl em n y lo hi =>
      obtain ⟨k, L, H, Y, c, m1, m2, e, -⟩ := hTI
      exact ⟨k, e⟩
   have hPart : Part w7 (some ⟨a0, 0, none⟩) b1 b2 134217730 134217740 60 T (some ⟨a0, 0, none⟩) b1 b2 := by
    obtain ⟨q1, q2, q3, q4⟩ := Part.whole (K := 134217740) hTI (CT.okY_up (show 134217728 + 2 ≤ 134217730 by omega) HOK.out.1) HOK.out.2
    exact ⟨q1, q2, q3, fun W u' h1 h2 h3 h4 h5 => by
     obtain ⟨t', g1, g2, g3, g4⟩ := q4 W u' h1 h2 h3 h4 h5
     exact ⟨t', g1, g2, g3, Nat.le_trans g4 htd⟩⟩
   have HPT := Lib.hid hPart
   clear hPart hTI HOK htd hTn
   go_upto_region 6 with fail
   go_wp2_with fail
   go_loopw [14, 15] (fun v14 i wr => ∃ (u : CT) (au bu hu j : Nat), v14 = .pointer (some ⟨au, 0, none⟩) ∧ i = .int .i64 j ∧ j ≤ 30 ∧ Hid (Part w7 (some ⟨a0, 0, none⟩) b1 b2 134217730 134217740 60 u (some ⟨au, 0, none⟩) bu hu) ∧ b1 ≤ bu ∧ wr = w7) (fun _ i _ => 30 - (intOf i).toNat)
   case atStart => exact ⟨T, a0, b1, b2, 0, rfl, rfl, by omega, HPT, Nat.le_refl _, rfl⟩
   case round =>
    obtain ⟨u, au, bu, hu, j, rfl, rfl, hj, HP, hbu, rfl⟩ := hrel
    obtain ⟨hTu, -, -, -⟩ := HP.out
    cases u with
    | nil => exact absurd hTu.1 (fun e => by cases e)
    | node vr fl em n y lo hi =>
    obtain ⟨k, L, H, Y, c, m1, m2, e, h1, h2, NB, hY, hlo, hhi⟩ := hTu
    obtain rfl : k = au := by injection e with e; injection e with e; exact e.symm
    have t2 : wr.cell? ⟨k, 2, none⟩ = some (.pointer L) := NB.cell 2
    have t3 : wr.cell? ⟨k, 3, none⟩ = some (.pointer H) := NB.cell 3
    have hnx : ∀ W x, (binOp BinOp.neq 25 (.pointer (some ⟨x, 0, none⟩)) (.pointer none)).run Tryz.prog W = .ok (.bool true) W := fun _ _ => by kernel_rfl
    have hnn : ∀ W, (binOp BinOp.neq 25 (.pointer none) (.pointer none)).run Tryz.prog W = .ok (.bool false) W := fun _ => by kernel_rfl
    obtain ⟨C, hC⟩ : ∃ C : Bool, C = (decide (j < 30) && (L.isSome && H.isSome)) := ⟨_, rfl⟩
    have HC := Lib.hid hC
    clear hC e
    go_upto_region 7 with fail
    go_cut [48] (fun v wx => v = .bool C ∧ wx = wr)
    case first =>
     by_cases g1 : j < 30
     ·have i1 : decide ((j : Int) < 30) = true := by simp; omega
      have i2 : decide (j < 30) = true := by simpa using g1
      rcases L with _ | la
      ·go_wp2_with fail
       go_meet
       exact ⟨by rw [HC.out]; simp, rfl⟩
      ·obtain ⟨xl, rfl⟩ := hlo.addrC la rfl
       rcases H with _ | lh
       ·go_wp2_with fail
        go_meet
        exact ⟨by rw [HC.out]; simp, rfl⟩
       ·obtain ⟨xh, rfl⟩ := hhi.addrC lh rfl
        go_wp2_with fail
        go_meet
        exact ⟨by rw [HC.out, i2]; rfl, rfl⟩
     ·have i1 : decide ((j : Int) < 30) = false := by simp; omega
      have i2 : decide (j < 30) = false := by simpa using g1
      go_wp2_with fail
      go_meet
      exact ⟨by rw [HC.out, i2]; rfl, rfl⟩
    case rest =>
    rename_i hK
    obtain ⟨rfl, hwx⟩ := hcut
    refine hK _ _ ?_
    clear hK
    subst hwx
    cases C with
    | true =>
      have hCC : decide (j < 30) = true ∧ L.isSome = true ∧ H.isSome = true := by
       have := HC.out.symm
       simpa using this
      obtain ⟨g1, g2, g3⟩ := hCC
      have g1 : j < 30 := by simpa using g1
      obtain ⟨la, rfl⟩ := Option.isSome_iff_exists.1 g2
      obtain ⟨lh, rfl⟩ := Option.isSome_iff_exists.1 g3
      obtain ⟨xl, rfl⟩ := hlo.addrC la rfl
      obtain ⟨xh, rfl⟩ := hhi.addrC lh rfl
      have HPL := Lib.hid (Part.low (by omega) h1 h2 NB hY hlo hhi HP.out)
      have HPH := Lib.hid (Part.high (by omega) h1 h2 NB hY hlo hhi HP.out)
      have r1 : IntKind.i64.wrap ((j : Int) + 1) = (j : Int) + 1 := IntWalk.i64_in _ (by omega)
      have hl1 := hlo.le
      clear g2 g3 HC
      go_wp2_with fail
      all_goals (first
       | exact ⟨⟨lo, xl, m1, m2, j + 1, rfl, by go_num, by omega, HPL, by omega, trivial⟩, by simp [intOf]; omega⟩
       | exact ⟨⟨hi, xh, m2, hu, j + 1, rfl, by go_num, by omega, HPH, by omega, trivial⟩, by simp [intOf]; omega⟩)
    | false =>
      clear HC t2 t3 hnx hnn
      have t5 : wc.cell? ⟨k, 5, none⟩ = some (.slice Y n c) := NB.cell 5
      have r0 : wc.cell? ⟨ra, 0, none⟩ = some (.int .i64 vv) := RA7.c0
      by_cases hg : 0 < n ∧ ch ≠ 0
      ·have i1 : decide ((0 : Int) < (n : Int)) = true := by simp; omega
       have i1n : decide (0 < n) = true := by simp; omega
       have i2 : (ch != 0) = true := by simpa using hg.2
       have i3 : ((n : Int) == 0) = false := by simp; omega
       obtain ⟨g0, rfl, hRR⟩ := hY.1.rats.2.2 hg.1
       go_upto_region 14 with fail
       obtain ⟨J, hJ, hJn⟩ : ∃ J : Nat, (at' : Int) % (n : Int) = (J : Int) ∧ J < n := ⟨at' % n, by simp, Nat.mod_lt _ hg.1⟩
       rw [hJ]
       obtain ⟨p3, A3, m3, c3, p3', A3', m3', c3', o0, o1, o2, o3, hro⟩ := hRR.at hJn
       have hqb := HP.out.2.1.2.2.1 J hJn
       obtain ⟨q, hq⟩ : ∃ q, q = y J := ⟨_, rfl⟩
       rw [← hq] at hro hqb
       have hoB : RatB wc (.agg #[.bool p3, .slice A3 m3 c3, .bool p3', .slice A3' m3' c3']) q 134217730 := ⟨hro, hqb⟩
       have hkg : k ≠ g0 := by
        rintro rfl
        obtain ⟨cs, hc, -⟩ := hRR
        unfold Box at NB
        rw [NB] at hc
        injection hc with hc
        injection hc with _ hc
        exact absurd hc (by decide)
       have k5 : ∀ w', Fr (PNb g0) wc w' → w'.cell? ⟨k, 5, none⟩ = some (.slice (some ⟨g0, 0, none⟩) n c) := fun w' h => (h.box NB hkg).cell 5
       have ks := Fr.refl (PNb g0) wc
       have j1 : (0 : Int) ≤ (J : Int) := by omega
       have j2 : (J : Int) < (n : Int) := by omega
       have z0 := hRR.frozen (J * 4)
       have z1 := hRR.frozen (J * 4 + 1)
       have z2 := hRR.frozen (J * 4 + 2)
       have z3 := hRR.frozen (J * 4 + 3)
       have hc32 : in32 ch := ⟨by omega, by omega⟩
       have r4 : IntKind.i32.wrap ch = ch := IntWalk.i32_in _ (by omega)
       obtain ⟨DD, hD1, hDD⟩ : ∃ D : Nat, (at' : Int) / 16 = (D : Int) ∧ D ≤ 255 := ⟨at' / 16, by simp, by omega⟩
       have r5 : IntKind.u8.wrap (DD : Int) = (DD : Int) := IntWalk.u8_in _ (by omega)
       have hg0 : bu ≤ g0 := by
        obtain ⟨g', e, -, hb⟩ := hY.1.2.2 (by omega)
        injection e with e
        injection e with e
        omega
       have hgw : w.heap.size ≤ g0 := by omega
       have hrg : ra ≠ g0 := by omega
       clear hq hg hJ t5 i1 i1n i2 i3
       refine wp_region_held_drew (S := fun w' => Fr (PNb g0) wc w') (by kernel_rfl) ?_ (fun hHeld => ?_)
       ·(try dsimp only); (repeat (first | (with_reducible assumption) | (with_reducible apply Fr.drew) | (with_reducible apply Fr.drewN)))
       repeat' (first
        | simp only [Act.put, sqa, sqb, sqc]
        | (
         first
          | refine tky (i := 0) (oi := ⟨some 84, .move (.tmp 14), 25, "law.go:97", #[], none⟩) (v := ?_) rfl ?_ (by assumption) ?_
          | refine tky (i := 1) (oi := ⟨some 85, .nilCheck (.tmp 84), 0, "law.go:97", #[⟨0, .data⟩], none⟩) (v := ?_) rfl ?_ (by assumption) ?_
          | refine tky (i := 2) (oi := ⟨some 86, .fieldAddr 79 (.tmp 85) 5, 0, "law.go:97", #[⟨1, .data⟩], none⟩) (v := ?_) rfl ?_ (by assumption) ?_
          | refine tky (i := 3) (oi := ⟨some 87, .load 38 (.tmp 86), 38, "law.go:97", #[⟨2, .data⟩], none⟩) (v := ?_) rfl ?_ (by assumption) ?_
          | refine tky (i := 4) (oi := ⟨some 88, .move (.tmp 16), 3, "law.go:97", #[], none⟩) (v := ?_) rfl ?_ (by assumption) ?_
          | refine tky (i := 5) (oi := ⟨some 89, .move (.tmp 14), 25, "law.go:97", #[], none⟩) (v := ?_) rfl ?_ (by assumption) ?_
          | refine tky (i := 6) (oi := ⟨some 90, .nilCheck (.tmp 89), 0, "law.go:97", #[⟨5, .data⟩], none⟩) (v := ?_) rfl ?_ (by assumption) ?_
          | refine tky (i := 7) (oi := ⟨some 91, .fieldAddr 79 (.tmp 90) 5, 0, "law.go:97", #[⟨6, .data⟩], none⟩) (v := ?_) rfl ?_ (by assumption) ?_
          | refine tky (i := 8) (oi := ⟨some 92, .load 38 (.tmp 91), 38, "law.go:97", #[⟨7, .data⟩], none⟩) (v := ?_) rfl ?_ (by assumption) ?_
          | refine tky (i := 9) (oi := ⟨some 93, .move (.tmp 16), 3, "law.go:97", #[], none⟩) (v := ?_) rfl ?_ (by assumption) ?_
          | refine tky (i := 10) (oi := ⟨some 94, .indexAddr 38 (.tmp 92) (.tmp 93), 0, "law.go:97", #[⟨8, .data⟩, ⟨9, .data⟩], none⟩) (v := ?_) rfl ?_ (by assumption) ?_
          | refine tky (i := 12) (oi := ⟨some 96, .move (.tmp 3), 47, "law.go:97", #[], none⟩) (v := ?_) rfl ?_ (by assumption) ?_
          | refine tky (i := 13) (oi := ⟨some 97, .convert 47 21 (.tmp 96), 21, "law.go:97", #[⟨12, .data⟩], none⟩) (v := ?_) rfl ?_ (by assumption) ?_
          | refine tky (i := 14) (oi := ⟨some 98, .move (.tmp 2), 5, "law.go:97", #[], none⟩) (v := ?_) rfl ?_ (by assumption) ?_
          | refine tky (i := 15) (oi := ⟨some 99, .binOp BinOp.quo 5 (.tmp 98) (.const (Value.int IntKind.u8 16)) 5, 5, "law.go:97", #[⟨14, .data⟩], none⟩) (v := ?_) rfl ?_ (by assumption) ?_
          | refine tky (i := 18) (oi := ⟨some 102, .indexAddr 38 (.tmp 87) (.tmp 88), 0, "law.go:97", #[⟨3, .data⟩, ⟨4, .data⟩, ⟨0, .phase⟩, ⟨1, .phase⟩, ⟨2, .phase⟩, ⟨3, .phase⟩, ⟨4, .phase⟩, ⟨5, .phase⟩, ⟨6, .phase⟩, ⟨7, .phase⟩, ⟨8, .phase⟩, ⟨9, .phase⟩, ⟨10, .phase⟩, ⟨11, .phase⟩, ⟨12, .phase⟩, ⟨13, .phase⟩, ⟨14, .phase⟩, ⟨15, .phase⟩, ⟨16, .phase⟩, ⟨17, .phase⟩], none⟩) (v := ?_) rfl ?_ (by assumption) ?_
         rotate_left
         ·intro w hSw; (try dsimp only at hSw); go_simp; try (with_reducible rfl))
        | refine wpAnyH_ready (rs := [11, 16]) (by decide +kernel) (by simp) ?_
        | refine wpAnyH_ready (rs := [16]) (by decide +kernel) (by simp) ?_
        | refine wpAnyH_ready (rs := [17]) (by decide +kernel) (by simp) ?_
        | refine wpAnyH_ready (rs := [19]) (by decide +kernel) (by simp) ?_
        | refine wpAnyH_ready (rs := [11]) (by decide +kernel) (by simp) ?_
        | (
         refine AllReadyH.cons (o := ⟨some 95, .load 58 (.tmp 94), 58, "law.go:97", #[⟨10, .data⟩], none⟩) rfl (fun K hK => ?_) ?_
         go_simp
         try (go_wp2_with fail)
         refine hK.out _ _ ?_ (fun hHeld => ?_)
         ·(try dsimp only); (repeat (first | (with_reducible assumption) | (with_reducible apply Fr.drew) | (with_reducible apply Fr.drewN)))
         clear hK K)
        | (
         refine AllReadyH.cons (o := ⟨some 100, .call { callee := Callee.value (.func 54), args := #[.tmp 97, .tmp 99], argTypes := #[21, 5] }, 58, "law.go:97", #[⟨13, .data⟩, ⟨15, .data⟩], none⟩) rfl (fun K hK => ?_) ?_
         go_simp
         first
          | (go_at_call 54; (with_reducible refine (number4_b ch DD _ hc32 hDD).mono ?_); rintro e wk ⟨vk, rfl, hbk, hxk⟩; (obtain ⟨pk, Ak, nk, ck, pk', Ak', nk', ck', rfl⟩ := hbk.1.shape); (have hEk : Ext wc wk := Ext.trans eBx hxk); (have hLk : Fr (PNb g0) wc wk := Fr.of hEk); (have o0 := hEk.cell o0); (have o1 := hEk.cell o1); (have o2 := hEk.cell o2); (have o3 := hEk.cell o3))
         try (go_wp2_with fail)
         refine hK.out _ _ ?_ (fun hHeld => ?_)
         ·(try dsimp only); (repeat (first | (with_reducible assumption) | (with_reducible apply Fr.drew) | (with_reducible apply Fr.drewN)))
         clear hK K)
        | (
         refine AllReadyH.cons (o := ⟨some 101, .call { callee := Callee.value (.func 47), args := #[.tmp 95, .tmp 100], argTypes := #[58, 58] }, 58, "law.go:97", #[⟨11, .data⟩, ⟨16, .data⟩, ⟨16, .chain⟩], none⟩) rfl (fun K hK => ?_) ?_
         go_simp
         first
          | (go_at_call 47; (with_reducible refine (qcs _ _ _ _ _ _ _ (RatB.ext hoB (by repeat (first | (with_reducible exact Ext.refl _) | (with_reducible apply Ext.drew) | (with_reducible apply Ext.drewN) | (with_reducible exact hEk)))) (RatB.ext hbk eBx) (by omega)).mono ?_); rintro e wl ⟨vl, rfl, hbl, hxl⟩; (obtain ⟨pl, Al, nl, cl, pl', Al', nl', cl', rfl⟩ := hbl.1.shape); (have hkl : Ext wk wl := Ext.trans eBx hxl); (have hEl : Ext wc wl := Ext.trans hEk hkl); (have hLl : Fr (PNb g0) wc wl := Fr.of hEl); (have hRl := RowR.ext hRR hEl); (have o0 := hkl.cell o0); (have o1 := hkl.cell o1); (have o2 := hkl.cell o2); (have o3 := hkl.cell o3); (have z0 := hRl.frozen (J * 4)); (have z1 := hRl.frozen (J * 4 + 1)); (have z2 := hRl.frozen (J * 4 + 2)); (have z3 := hRl.frozen (J * 4 + 3)); (obtain ⟨s1, hF1⟩ := RowR.set hRl hJn hbl.1); (have hF2 : Fr (PNb g0) wl _ := hF1); (have hL2 := hLl.trans hF2))
         try (go_wp2_with fail)
         refine hK.out _ _ ?_ (fun hHeld => ?_)
         ·(try dsimp only); (repeat (first | (with_reducible assumption) | (with_reducible apply Fr.drew) | (with_reducible apply Fr.drewN)))
         clear hK K)
        | (
         refine AllReadyH.cons (o := ⟨none, .store 58 (.tmp 102) (.tmp 101), 0, "law.go:97", #[⟨18, .data⟩, ⟨17, .data⟩, ⟨17, .chain⟩, ⟨0, .phase⟩, ⟨1, .phase⟩, ⟨2, .phase⟩, ⟨3, .phase⟩, ⟨4, .phase⟩, ⟨5, .phase⟩, ⟨6, .phase⟩, ⟨7, .phase⟩, ⟨8, .phase⟩, ⟨9, .phase⟩, ⟨10, .phase⟩, ⟨11, .phase⟩, ⟨12, .phase⟩, ⟨13, .phase⟩, ⟨14, .phase⟩, ⟨15, .phase⟩, ⟨16, .phase⟩, ⟨17, .phase⟩], none⟩) rfl (fun K hK => ?_) ?_
         go_simp
         try (go_wp2_with fail)
         refine hK.out _ _ ?_ (fun hHeld => ?_)
         ·(try dsimp only); (repeat (first | (with_reducible assumption) | (with_reducible apply Fr.drew) | (with_reducible apply Fr.drewN)))
         clear hK K)
        | exact AllReadyH.nil
        | (
         refine wpAnyH_done (by decide +kernel) ?_ _
         obtain ⟨t', f1, f2, f3, f4⟩ := Part.change (by omega) h1 h2 NB hY (by omega) hlo hhi HP.out hL2 s1 (qqj (by omega) hbl.2)
         have hEN : Ext w _ := Fr.ext hL2 hE7 (fun b hb => by rw [show b = g0 from hb]; exact hgw)
         have r0 := (hL2.box RA7 hrg).c0
         clear o0 o1 o2 o3 z0 z1 z2 z3 k5
         go_upto_region 15 with fail
         generalize ((((wl.setCell ⟨g0, J * 4, none⟩ (.bool pl)).setCell ⟨g0, J * 4 + 1, none⟩ (.slice Al nl cl)).setCell ⟨g0, J * 4 + 2, none⟩ (.bool pl')).setCell ⟨g0, J * 4 + 3, none⟩ (.slice Al' nl' cl')) = WE at *
         go_quiet (fail)
         generalize hWW : World.drewN WE _ = W
         have hX : Ext WE W := by rw [← hWW]; exact (Ext.refl WE).drewN _
         clear hWW
         go_wp2_with fail
         refine bodyPost_ret (v := .tuple #[.pointer (some ⟨a0, 0, none⟩), .int .i64 vv, .bool true]) (by simp [results, Tryz.results18, go_sem]) rfl ?_
         exact ⟨hEN.trans hX, .inr ⟨_, vv, b1, b2, t', rfl, hfv, f1.ext hX, f2, f3, f4⟩⟩)
        )
      ·by_cases i1 : 0 < n
       ·have i1' : decide ((0 : Int) < (n : Int)) = true := by simp; omega
        have i1n : decide (0 < n) = true := by simp; omega
        have i2 : (ch != 0) = false := by
         have : ch = 0 := Classical.byContradiction fun h => hg ⟨i1, h⟩
         simp [this]
        clear i1 hg
        obtain ⟨t', f1, f2, f3, f4⟩ := HP.out.self (by omega)
        go_upto_region 15 with fail
        go_quiet (fail)
        generalize hWW : World.drewN wc _ = W
        have hX : Ext wc W := by rw [← hWW]; exact (Ext.refl wc).drewN _
        clear hWW
        go_wp2_with fail
        refine bodyPost_ret (v := .tuple #[.pointer (some ⟨a0, 0, none⟩), .int .i64 vv, .bool true]) (by simp [results, Tryz.results18, go_sem]) rfl ?_
        exact ⟨hE7.trans hX, .inr ⟨_, vv, b1, b2, t', rfl, hfv, f1.ext hX, f2, f3, f4⟩⟩
       ·have i1' : decide ((0 : Int) < (n : Int)) = false := by simp; omega
        have i1n : decide (0 < n) = false := by simp; omega
        clear i1 hg
        obtain ⟨t', f1, f2, f3, f4⟩ := HP.out.self (by omega)
        go_upto_region 15 with fail
        go_quiet (fail)
        generalize hWW : World.drewN wc _ = W
        have hX : Ext wc W := by rw [← hWW]; exact (Ext.refl wc).drewN _
        clear hWW
        go_wp2_with fail
        refine bodyPost_ret (v := .tuple #[.pointer (some ⟨a0, 0, none⟩), .int .i64 vv, .bool true]) (by simp [results, Tryz.results18, go_sem]) rfl ?_
        exact ⟨hE7.trans hX, .inr ⟨_, vv, b1, b2, t', rfl, hfv, f1.ext hX, f2, f3, f4⟩⟩
end Go.Proofs.YtljncdcjkdgkeaaGreatDoor.Lp

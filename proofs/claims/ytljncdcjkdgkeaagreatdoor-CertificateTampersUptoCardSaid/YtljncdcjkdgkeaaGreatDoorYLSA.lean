/- Walk: newTableau. -/
import Derived.Deep.CutBlock
import Derived.Deep.RegionLaw
import Derived.Test.YtljncdcjkdgkeaaGreatDoorYLN2
set_option linter.unusedVariables false
set_option linter.unusedSimpArgs false
namespace Go.Proofs.YtljncdcjkdgkeaaGreatDoor.Lp
open Go.RowKit Go.Proofs.YtljncdcjkdgkeaaGreatDoor.Big Go.Proofs.YtljncdcjkdgkeaaGreatDoor.Rt
set_option maxHeartbeats 8000000 in
set_option maxRecDepth 100000 in
theorem qbd (v : Value) (p : Prob) (K : Nat) (w : World) (hv : qga w v p) (hp : p.Valid) (hcf : ∀ i, i < p.m → ∀ j, j < p.n → QB K (p.coef i j)) (hrt : ∀ i, i < p.m → QB K (p.right i)) :
 Calls Tryz.prog 131 #[v] w (NewPost w p) := by
 have hv' := hv
 obtain ⟨Ao, co, Ar, cr, rfl, ho, hmc, hcr, hrows⟩ := hv
 obtain ⟨hn1, hn2, hm2, hrw⟩ := hp
 obtain ⟨n, hn⟩ : ∃ n, n = p.n := ⟨_, rfl⟩
 obtain ⟨m, hm⟩ : ∃ m, m = p.m := ⟨_, rfl⟩
 have HN := Lib.hid hn
 have HM := Lib.hid hm
 rw [← hn] at ho hn1 hn2 hrw hcf ⊢
 rw [← hm] at hmc hrows hm2 hrw hcf hrt ⊢
 have HCF := Lib.hid hcf
 have HRT := Lib.hid hrt
 have HROW := Lib.hid hrows
 have HRW := Lib.hid hrw
 clear hcf hrt hrows hrw hn hm hv' hcr
 obtain ⟨art, hart⟩ : ∃ a, a = n + cnt m (fun k => decide (p.rel k ≠ 2)) := ⟨_, rfl⟩
 have HART := Lib.hid hart
 obtain ⟨W, hW⟩ : ∃ a, a = art + cnt m (fun k => decide (p.dir k ≠ 1)) := ⟨_, rfl⟩
 have HW := Lib.hid hW
 have hartb : art ≤ n + m := by rw [hart]; have := qsk m (fun k => decide (p.rel k ≠ 2)); omega
 have hWb : W ≤ art + m := by rw [hW]; have := qsk m (fun k => decide (p.dir k ≠ 1)); omega
 have hna : n ≤ art := by rw [hart]; omega
 have haw : art ≤ W := by rw [hW]; omega
 clear hart hW
 obtain ⟨PB, TB, hE0⟩ := qwt w 41 200 #[.slice Ao n co, .slice Ar m cr] #[.slice none 0 0, .slice none 0 0, .slice none 0 0, .slice none 0 0, .slice none 0 0, .int .i64 (n : Int), .int .i64 0]
 go_enter Tryz.func131, Tryz.ntmps131
 go_upto_region 2 with fail
 generalize ((w.alloc (.cells #[.slice Ao n co, .slice Ar m cr] 41)).alloc (.cells #[.slice none 0 0, .slice none 0 0, .slice none 0 0, .slice none 0 0, .slice none 0 0, .int .i64 (n : Int), .int .i64 0] 200)) = V at *
 have p1 := PB.c1
 obtain ⟨tb, htb⟩ : ∃ x, x = w.heap.size + 1 := ⟨_, rfl⟩
 obtain ⟨pb, hpb⟩ : ∃ x, x = w.heap.size := ⟨_, rfl⟩
 rw [← htb] at TB ⊢
 rw [← hpb] at PB p1 ⊢
 have hpt : pb ≠ tb := by omega
 have hwt : w.heap.size ≤ tb := by omega
 have hwp : w.heap.size ≤ pb := by omega
 clear htb hpb
 have HPT := Lib.hid hpt
 go_wp2_with fail
 clear p1
 go_loopw [23] (fun i wr => ∃ k : Nat, k ≤ m ∧ i = .int .i64 k ∧ Box wr pb 41 #[.slice Ao n co, .slice Ar m cr] ∧ Box wr tb 200 (tc (.slice none 0 0) (.slice none 0 0) (.slice none 0 0) (.slice none 0 0) (n + cnt k (fun k => decide (p.rel k ≠ 2))) 0) ∧ Ext w wr) (fun i _ => m - (intOf i).toNat)
 case atStart => exact ⟨0, by omega, rfl, PB, TB, hE0⟩
 case round =>
  clear PB TB hE0
  obtain ⟨k, hk, rfl, PB, TB, hE⟩ := hrel
  by_cases hlt : k < m
  ·obtain ⟨br, rfl, hrow⟩ := HROW.out (by omega)
   obtain ⟨Ac, cc, x, A, d, e, y, A', d', e', g0, g1, g2, g3, g4, g5, r1, r2, r3⟩ := (hrow k hlt).ext hE
   obtain ⟨rel, hrel⟩ : ∃ r, r = p.rel k := ⟨_, rfl⟩
   rw [← hrel] at g1 r2
   obtain ⟨c, hc⟩ : ∃ c, c = n + cnt k (fun k => decide (p.rel k ≠ 2)) := ⟨_, rfl⟩
   rw [← hc] at TB
   have hcb : c ≤ n + k := by rw [hc]; have := qsk k (fun k => decide (p.rel k ≠ 2)); omega
   have HC : Hid (n + cnt (k + 1) (fun k => decide (p.rel k ≠ 2)) = c + if rel ≠ 2 then 1 else 0) := Lib.hid (by rw [qjj, hc, hrel]; simp; omega)
   clear hrel hrow r1 r3 hc
   go_upto_region 5 with fail
   have BB := Box.new wr 75 #[.slice Ac (p.len k) cc, .int .u8 (rel : Int), .bool x, .slice A d e, .bool y, .slice A' d' e']
   have hEx : Ext wr (wr.alloc (.cells #[.slice Ac (p.len k) cc, .int .u8 (rel : Int), .bool x, .slice A d e, .bool y, .slice A' d' e'] 75)) := (Ext.refl wr).alloc _
   generalize (wr.alloc (.cells #[.slice Ac (p.len k) cc, .int .u8 (rel : Int), .bool x, .slice A d e, .bool y, .slice A' d' e'] 75)) = U at *
   have PB := PB.ext hEx
   have TB := TB.ext hEx
   have hE := hE.trans hEx
   have d1 := BB.c1
   have t5 : U.cell? ⟨tb, 5, none⟩ = some (.int .i64 (c : Int)) := TB.cell 5
   have f5 := TB.frozen 5
   clear g0 g1 g2 g3 g4 g5 hEx
   by_cases hr2 : rel = 2
   ·have e1 : ((rel : Int) != 2) = false := by rw [hr2]; rfl
    have HC2 : Hid (n + cnt (k + 1) (fun k => decide (p.rel k ≠ 2)) = c) := Lib.hid (by rw [HC.out, if_neg (fun h => h hr2)]; rfl)
    clear hr2
    go_wp2_with fail
    go_roundw
    case rel => exact ⟨k + 1, by omega, by go_num, PB, by rw [HC2.out]; exact TB, hE⟩
    case measure => simp [intOf]; omega
   ·have e1 : ((rel : Int) != 2) = true := by simp; omega
    have HC2 : Hid (n + cnt (k + 1) (fun k => decide (p.rel k ≠ 2)) = c + 1) := Lib.hid (by rw [HC.out, if_pos hr2])
    clear hr2
    have TB2 : Box _ tb 200 (tc (.slice none 0 0) (.slice none 0 0) (.slice none 0 0) (.slice none 0 0) (c + 1) 0) := TB.set 5 (.int .i64 ((c + 1 : Nat) : Int))
    go_wp2_with fail
    go_roundw
    case rel => exact ⟨k + 1, by omega, by go_num, PB.far (p := ⟨tb, 5, none⟩) HPT.out _, by rw [HC2.out]; exact TB2, hE.set hwt _⟩
    case measure => simp [intOf]; omega
  ·obtain rfl : m = k := by omega
   have TB : Box wr tb 200 (tc (.slice none 0 0) (.slice none 0 0) (.slice none 0 0) (.slice none 0 0) art 0) := by rw [HART.out]; exact TB
   have t5 : wr.cell? ⟨tb, 5, none⟩ = some (.int .i64 (art : Int)) := TB.cell 5
   have t6 : wr.cell? ⟨tb, 6, none⟩ = some (.int .i64 0) := TB.cell 6
   have f6 := TB.frozen 6
   have p1 := PB.c1
   have TB2 : Box (wr.setCell ⟨tb, 6, none⟩ (.int .i64 (art : Int))) tb 200 (tc (.slice none 0 0) (.slice none 0 0) (.slice none 0 0) (.slice none 0 0) art art) := TB.set 6 (.int .i64 (art : Int))
   have PB2 := PB.far (p := ⟨tb, 6, none⟩) HPT.out (.int .i64 (art : Int))
   have hE2 : Ext w (wr.setCell ⟨tb, 6, none⟩ (.int .i64 (art : Int))) := hE.set hwt _
   go_upto_region 9 with fail
   generalize (wr.setCell ⟨tb, 6, none⟩ (.int .i64 (art : Int))) = V2 at *
   clear TB PB hE t5 t6 f6 p1
   have p1 := PB2.c1
   go_wp2_with fail
   clear p1
   go_loopw [48] (fun i wr => ∃ k : Nat, k ≤ m ∧ i = .int .i64 k ∧ Box wr pb 41 #[.slice Ao n co, .slice Ar m cr] ∧ Box wr tb 200 (tc (.slice none 0 0) (.slice none 0 0) (.slice none 0 0) (.slice none 0 0) art (art + cnt k (fun k => decide (p.dir k ≠ 1)))) ∧ Ext w wr) (fun i _ => m - (intOf i).toNat)
   case atStart => exact ⟨0, by omega, rfl, PB2, TB2, hE2⟩
   case round =>
    clear PB2 TB2 hE2
    obtain ⟨k, hk, rfl, PB, TB, hE⟩ := hrel
    by_cases hlt : k < m
    ·obtain ⟨br, rfl, hrow⟩ := HROW.out (by omega)
     obtain ⟨Ac, cc, x, A, d, e, y, A', d', e', g0, g1, g2, g3, g4, g5, r1, r2, r3⟩ := (hrow k hlt).ext hE
     have hrl := (HRW.out k hlt).2
     obtain ⟨rel, hrel⟩ : ∃ r, r = p.rel k := ⟨_, rfl⟩
     rw [← hrel] at g1 r2 hrl
     obtain ⟨dr, hdr⟩ : ∃ r, r = p.dir k := ⟨_, rfl⟩
     have hdn : dirN rel (p.right k) = dr := by rw [hrel, hdr]; rfl
     have hdl : dr ≤ 3 := by rw [← hdn]; unfold dirN; split <;> omega
     have HDN := Lib.hid hdn
     obtain ⟨c, hc⟩ : ∃ c, c = art + cnt k (fun k => decide (p.dir k ≠ 1)) := ⟨_, rfl⟩
     rw [← hc] at TB
     have hcb : c ≤ art + k := by rw [hc]; have := qsk k (fun k => decide (p.dir k ≠ 1)); omega
     have HC : Hid (art + cnt (k + 1) (fun k => decide (p.dir k ≠ 1)) = c + if dr ≠ 1 then 1 else 0) := Lib.hid (by rw [qjj, hc, hdr]; simp; omega)
     have hRV : RowV wr (.agg #[.slice Ac (p.len k) cc, .int .u8 (rel : Int), .bool x, .slice A d e, .bool y, .slice A' d' e']) (p.len k) (p.coef k) rel (p.right k) := ⟨_, _, _, _, _, _, _, _, _, _, rfl, r1, r2, r3⟩
     clear hrel hrow r1 r3 hc hdr hdn
     go_upto_region 12 with fail
     have BB := Box.new wr 75 #[.slice Ac (p.len k) cc, .int .u8 (rel : Int), .bool x, .slice A d e, .bool y, .slice A' d' e']
     have hEx : Ext wr (wr.alloc (.cells #[.slice Ac (p.len k) cc, .int .u8 (rel : Int), .bool x, .slice A d e, .bool y, .slice A' d' e'] 75)) := (Ext.refl wr).alloc _
     generalize (wr.alloc (.cells #[.slice Ac (p.len k) cc, .int .u8 (rel : Int), .bool x, .slice A d e, .bool y, .slice A' d' e'] 75)) = U at *
     have PB := PB.ext hEx
     have TB := TB.ext hEx
     have hE := hE.trans hEx
     have hRV := hRV.ext hEx
     have d0 := BB.c0
     have d1 := BB.c1
     have d2 := BB.c2
     have d3 := BB.c3
     have d4 : U.cell? ⟨wr.heap.size, 4, none⟩ = some (.bool y) := BB.cell 4
     have d5 : U.cell? ⟨wr.heap.size, 5, none⟩ = some (.slice A' d' e') := BB.cell 5
     clear g0 g1 g2 g3 g4 g5 hEx
     go_wp2_with fail
     refine (q5x _ _ _ rel (p.right k) K _ hRV (HRT.out k hlt) (by omega)).mono ?_
     rintro e1 w1 ⟨rfl, hx1⟩
     rw [HDN.out]
     have PB := PB.ext hx1
     have TB := TB.ext hx1
     have hE := hE.trans hx1
     have t6 : w1.cell? ⟨tb, 6, none⟩ = some (.int .i64 (c : Int)) := TB.cell 6
     have f6 := TB.frozen 6
     by_cases hr2 : dr = 1
     ·have e1 : ((dr : Int) != 1) = false := by rw [hr2]; rfl
      have HC2 : Hid (art + cnt (k + 1) (fun k => decide (p.dir k ≠ 1)) = c) := Lib.hid (by rw [HC.out, if_neg (fun h => h hr2)]; rfl)
      clear hr2
      go_wp2_with fail
      go_roundw
      case rel => exact ⟨k + 1, by omega, by go_num, PB, by rw [HC2.out]; exact TB, hE⟩
      case measure => simp [intOf]; omega
     ·have e1 : ((dr : Int) != 1) = true := by simp; omega
      have HC2 : Hid (art + cnt (k + 1) (fun k => decide (p.dir k ≠ 1)) = c + 1) := Lib.hid (by rw [HC.out, if_pos hr2])
      clear hr2
      have TB2 : Box _ tb 200 (tc (.slice none 0 0) (.slice none 0 0) (.slice none 0 0) (.slice none 0 0) art (c + 1)) := TB.set 6 (.int .i64 ((c + 1 : Nat) : Int))
      go_wp2_with fail
      go_roundw
      case rel => exact ⟨k + 1, by omega, by go_num, PB.far (p := ⟨tb, 6, none⟩) HPT.out _, by rw [HC2.out]; exact TB2, hE.set hwt _⟩
      case measure => simp [intOf]; omega
    ·obtain rfl : m = k := by omega
     have TB : Box wr tb 200 (tc (.slice none 0 0) (.slice none 0 0) (.slice none 0 0) (.slice none 0 0) art W) := by rw [HW.out]; exact TB
     have t5 : wr.cell? ⟨tb, 5, none⟩ = some (.int .i64 (art : Int)) := TB.cell 5
     have p0 := PB.c0
     have kt : ∀ w', Later wr w' → w'.cell? ⟨tb, 5, none⟩ = some _ := fun w' h => Later.cell h t5
     have kp : ∀ w', Later wr w' → w'.cell? ⟨pb, 0, none⟩ = some _ := fun w' h => Later.cell h p0
     have ks := Later.refl wr
     clear t5 p0
     go_upto_region 15 with fail
     go_cut [8, 9] (fun v v2 wx => v = .int .i64 (n : Int) ∧ v2 = .int .i64 (art : Int) ∧ Ext wr wx)
     case first =>
      go_region
      all_goals (go_wp2_with fail; go_meet)
      all_goals exact ⟨rfl, rfl, by repeat (first | exact Ext.refl _ | apply Ext.drew | apply Ext.drewN)⟩
     case rest =>
      obtain ⟨rfl, rfl, hx2⟩ := hcut
      rename_i hK
      refine hK _ _ ?_
      clear hK kt kp ks
      have PB := PB.ext hx2
      have TB := TB.ext hx2
      have hE := hE.trans hx2
      have p1 := PB.c1
      go_wp2_with fail
      clear p1
      go_loopw [8, 9, 73] (fun sv av iv wr => ∃ (i s t : Nat) (vr vb vu vf : Value) (rw : Nat → Nat), i ≤ m ∧ iv = .int .i64 i ∧ sv = .int .i64 (s : Int) ∧ av = .int .i64 (t : Int) ∧ Hid (s = p.sl i) ∧ Hid (t = p.ar i) ∧ s ≤ n + i ∧ t ≤ art + i ∧ NewI p w wr pb tb W art #[.slice Ao n co, .slice Ar m cr] i i i i vr vb vu vf rw) (fun _ _ i _ => m - (intOf i).toNat)
      case atStart => exact ⟨0, n, art, _, _, _, _, fun _ => 0, by omega, rfl, rfl, rfl, Lib.hid (by rw [HN.out]; rfl), Lib.hid (by rw [HART.out, HN.out, HM.out]; rfl), by omega, by omega, ⟨PB, TB, OwnX.nil _ _ _ _, OwnX.nil _ _ _ _, OwnX.nil _ _ _ _, OwnX.nil _ _ _ _, (fun g h => by cases h), fun k hk => by omega, fun k hk => by omega, hE⟩⟩
      case round =>
       clear PB TB hE hx2
       obtain ⟨i, sl, ar, vr, vb, vu, vf, rw', hi, rfl, rfl, rfl, HSL, HAR, hsl, har, NI⟩ := hrel
       by_cases hlt : i < m
       ·obtain ⟨br, rfl, hrow⟩ := HROW.out (by omega)
        obtain ⟨Ac, cc, x, A, d, e, y, A', d', e', g0, g1, g2, g3, g4, g5, r1, r2, r3⟩ := hrow i hlt
        have hrl := (HRW.out i hlt).2
        have hln := (HRW.out i hlt).1
        rw [hln] at g0 r1
        have hRVw : RowV w (.agg #[.slice Ac n cc, .int .u8 (p.rel i : Int), .bool x, .slice A d e, .bool y, .slice A' d' e']) n (p.coef i) (p.rel i) (p.right i) := ⟨_, _, _, _, _, _, _, _, _, _, rfl, r1, r2, r3⟩
        obtain ⟨-, -, hcf⟩ := r1
        obtain ⟨bc, rfl, hCo⟩ := hcf (by omega)
        have g0 := NI.ext.cell g0
        have g1 := NI.ext.cell g1
        have g2 := NI.ext.cell g2
        have g3 := NI.ext.cell g3
        have g4 := NI.ext.cell g4
        have g5 := NI.ext.cell g5
        have hCo := hCo.ext NI.ext
        have r3 := r3.ext NI.ext
        have hRV := hRVw.ext NI.ext
        obtain ⟨rel, hrel⟩ : ∃ r, r = p.rel i := ⟨_, rfl⟩
        rw [← hrel] at g1 r2 hrl hRV hRVw
        have HREL := Lib.hid hrel
        have HRVW := Lib.hid hRVw
        clear hrel hrow hcf hln hRVw
        go_upto_region 19 with fail
        have BB := Box.new wr 75 #[.slice (some ⟨bc, 0, none⟩) n cc, .int .u8 (rel : Int), .bool x, .slice A d e, .bool y, .slice A' d' e']
        have hEx : Ext wr (wr.alloc (.cells #[.slice (some ⟨bc, 0, none⟩) n cc, .int .u8 (rel : Int), .bool x, .slice A d e, .bool y, .slice A' d' e'] 75)) := (Ext.refl wr).alloc _
        generalize (wr.alloc (.cells #[.slice (some ⟨bc, 0, none⟩) n cc, .int .u8 (rel : Int), .bool x, .slice A d e, .bool y, .slice A' d' e'] 75)) = U at *
        obtain ⟨rb, hrb⟩ : ∃ b, b = wr.heap.size := ⟨_, rfl⟩
        rw [← hrb] at BB ⊢
        have NI := NI.mono hEx
        have hRV := hRV.ext hEx
        have hCo := hCo.ext hEx
        have r3 := r3.ext hEx
        clear g0 g1 g2 g3 g4 g5 hEx hrb
        have t6 : U.cell? ⟨tb, 6, none⟩ = some (.int .i64 (W : Int)) := NI.tbx.cell 6
        have hwL : w.heap.size ≤ U.heap.size := NI.ext.size
        have hLn : ∀ k, k < i → rw' k < U.heap.size := fun k hk => (NI.row k hk).1.lt
        have HLN := Lib.hid hLn
        clear hLn
        go_upto_region 20 with (at_make; refine qhn _ rfl _ _ rfl _ _ rfl rfl (W + 1) (by omega) (by omega) (by omega) ?_; intro w1 hR1 hx1)
        have c0 := (BB.ext hx1).c0
        have hCo1 := hCo.ext hx1
        obtain ⟨L, hL⟩ : ∃ L, L = U.heap.size := ⟨_, rfl⟩
        have hUL : U.heap.size ≤ L := by omega
        rw [← hL] at hR1 hwL HLN ⊢
        clear hL
        obtain ⟨w2, hrun, hR2, hF2⟩ := qzx w1 3 L bc (W + 1) (W + 1) n cc _ _ hR1 hCo1 (by omega)
        go_upto_region 21 with fail
        clear hrun
        have hx2 : Ext U w2 := hF2.ext hx1 (fun b hb => by rw [hb]; exact hUL)
        have t6 := hx2.cell t6
        have BB2 := BB.ext hx2
        have b2 := BB2.c2
        have b3 := BB2.c3
        have b4 : w2.cell? ⟨rb, 4, none⟩ = some (.bool y) := BB2.cell 4
        have b5 : w2.cell? ⟨rb, 5, none⟩ = some (.slice A' d' e') := BB2.cell 5
        obtain ⟨n1, n2, n3, n4, n5, n6, n7, n8, l0, l1, l2, l3, hlr⟩ := hR2.at (j := W) (by omega)
        clear hlr
        have f0 := hR2.frozen (W * 4)
        have f1 := hR2.frozen (W * 4 + 1)
        have f2 := hR2.frozen (W * 4 + 2)
        have f3 := hR2.frozen (W * 4 + 3)
        obtain ⟨z1, z2⟩ := hR2.set (j := W) (by omega) (r3.ext hx2)
        have i1 : (0 : Int) ≤ (W : Int) := by omega
        have i2 : (W : Int) < (W : Int) + 1 := by omega
        clear c0 hR1 hx1 hCo1 hF2
        go_cut [] (fun wx => RowR wx L (W + 1) (fun j => if j = W then p.right i else if j < n then p.coef i j else 0) ∧ Ext U wx)
        case first =>
         go_region
         all_goals (go_wp2_with fail; go_meet)
         all_goals (
          have hx3 : Ext U _ := ((((hx2.set (p := ⟨L, W * 4, none⟩) hUL (.bool x)).set (p := ⟨L, W * 4 + 1, none⟩) hUL (.slice A d e)).set (p := ⟨L, W * 4 + 2, none⟩) hUL (.bool y)).set (p := ⟨L, W * 4 + 3, none⟩) hUL (.slice A' d' e')).drew
          exact ⟨z1.ext ((Ext.refl _).drew), hx3⟩)
        case rest =>
         clear l0 l1 l2 l3 f0 f1 f2 f3 b2 b3 b4 b5 t6 hR2 z1 z2 BB2 hx2
         obtain ⟨hR, hx⟩ := hcut
         rename_i hK
         refine hK _ _ ?_
         clear hK
         obtain ⟨f1, hf1⟩ : ∃ f : Nat → Rat, f = fun j => if j = W then p.right i else if j < n then p.coef i j else 0 := ⟨_, rfl⟩
         rw [← hf1] at hR
         have HF1 := Lib.hid hf1
         have HQ1 : Hid (∀ j, j < W + 1 → QB (K + 1) (f1 j)) := Lib.hid (fun j hj => by
          rw [hf1]
          show QB (K + 1) (if j = W then p.right i else if j < n then p.coef i j else 0)
          by_cases h1 : j = W
          ·rw [if_pos h1]; exact qqj (by omega) (HRT.out i hlt)
          ·rw [if_neg h1]
           by_cases h2 : j < n
           ·rw [if_pos h2]; exact qqj (by omega) (HCF.out i hlt j h2)
           ·rw [if_neg h2]; exact QB0 (by omega))
         clear hf1
         have BB2 := BB.ext hx
         have d0 := BB2.c0
         have d1 := BB2.c1
         have d2 := BB2.c2
         have d3 := BB2.c3
         have d4 : wc.cell? ⟨rb, 4, none⟩ = some (.bool y) := BB2.cell 4
         have d5 : wc.cell? ⟨rb, 5, none⟩ = some (.slice A' d' e') := BB2.cell 5
         go_wp2_with fail
         refine (qam _ n (p.coef i) rel (p.right i) K _ (hRV.ext hx) (HRT.out i hlt)).mono ?_
         rintro e1 w3 ⟨rfl, hx3⟩
         have hR := hR.ext hx3
         have hx := hx.trans hx3
         obtain ⟨F, hF⟩ : ∃ F, F = qay rel (p.right i) := ⟨_, rfl⟩
         have HFL : Hid (F = p.flip i) := Lib.hid (by rw [hF, HREL.out]; rfl)
         rw [← hF]
         clear hF d0 d1 d2 d3 d4 d5 hx3 BB2
         go_upto_if 96 with fail
         go_cut [] (fun wx => RowR wx L (W + 1) (fun j => if F = true then -f1 j else f1 j) ∧ Ext U wx)
         case first =>
          cases F with
          | false =>
            go_wp2_with fail
            go_meet
            exact ⟨hR.congr (fun j hj => by rw [if_neg (by decide)]), hx⟩
          | true =>
            go_wp2_with fail
            go_loopw [99] (fun jv wr => ∃ j : Nat, j ≤ W + 1 ∧ jv = .int .i64 j ∧ RowR wr L (W + 1) (fun k => if k < j then -f1 k else f1 k) ∧ Ext U wr) (fun jv _ => W + 1 - (intOf jv).toNat)
            case atStart => exact ⟨0, by omega, rfl, hR.congr (fun k _ => by rw [if_neg (by omega)]), hx⟩
            case round =>
             clear hR hx
             obtain ⟨j, hj, rfl, hR, hx⟩ := hrel
             by_cases hlj : j < W + 1
             ·obtain ⟨q1, B1, m1, c1, q1', B1', m1', c1', u0, u1, u2, u3, hv⟩ := hR.at hlj
              rw [if_neg (by omega)] at hv
              go_wp2_with fail
              refine (qsz _ (f1 j) (K + 1) _ ⟨hv, HQ1.out j hlj⟩).mono ?_
              rintro e1 w4 ⟨v4, rfl, hb4, hx4⟩
              obtain ⟨q2, B2, m2, c2, q2', B2', m2', c2', rfl⟩ := hb4.1.shape
              have hR4 := hR.ext hx4
              clear u0 u1 u2 u3
              obtain ⟨_, _, _, _, _, _, _, _, u0, u1, u2, u3, _⟩ := hR4.at hlj
              have y0 := hR4.frozen (j * 4)
              have y1 := hR4.frozen (j * 4 + 1)
              have y2 := hR4.frozen (j * 4 + 2)
              have y3 := hR4.frozen (j * 4 + 3)
              obtain ⟨s1, s2⟩ := hR4.set hlj hb4.1
              have hx5 : Ext U _ := (((((hx.trans hx4).set (p := ⟨L, j * 4, none⟩) hUL (.bool q2)).set (p := ⟨L, j * 4 + 1, none⟩) hUL (.slice B2 m2 c2)).set (p := ⟨L, j * 4 + 2, none⟩) hUL (.bool q2')).set (p := ⟨L, j * 4 + 3, none⟩) hUL (.slice B2' m2' c2'))
              go_wp2_with fail
              go_roundw
              case rel => exact ⟨j + 1, by omega, by go_num, s1.congr (fun k hk => by
               by_cases h1 : k = j
               ·rw [if_pos h1, if_pos (by omega), h1]
               ·rw [if_neg h1]
                by_cases h2 : k < j
                ·rw [if_pos h2, if_pos (by omega)]
                ·rw [if_neg h2, if_neg (by omega)]), hx5⟩
              case measure => simp [intOf]; omega
             ·obtain rfl : j = W + 1 := by omega
              go_wp2_with fail
              go_meet
              exact ⟨hR.congr (fun k hk => by rw [if_pos hk]; simp), hx⟩
         case rest =>
          clear hR hx
          obtain ⟨hR, hx⟩ := hcut
          rename_i hK
          refine hK _ _ ?_
          clear hK
          obtain ⟨f2, hf2⟩ : ∃ f : Nat → Rat, f = fun j => if F = true then -f1 j else f1 j := ⟨_, rfl⟩
          rw [← hf2] at hR
          have HF2 := Lib.hid hf2
          clear hf2
          have BB2 := BB.ext hx
          have d0 := BB2.c0
          have d1 := BB2.c1
          have d2 := BB2.c2
          have d3 := BB2.c3
          have d4 : wc.cell? ⟨rb, 4, none⟩ = some (.bool y) := BB2.cell 4
          have d5 : wc.cell? ⟨rb, 5, none⟩ = some (.slice A' d' e') := BB2.cell 5
          go_wp2_with fail
          refine (q5x _ n (p.coef i) rel (p.right i) K _ (hRV.ext hx) (HRT.out i hlt) (by omega)).mono ?_
          rintro e1 w3 ⟨rfl, hx3⟩
          have hR := hR.ext hx3
          have hx := hx.trans hx3
          obtain ⟨dr, hdr⟩ : ∃ r, r = dirN rel (p.right i) := ⟨_, rfl⟩
          have HDR : Hid (dr = p.dir i) := Lib.hid (by rw [hdr, HREL.out]; rfl)
          have hd3 : (rel = 2 ∧ dr = 2) ∨ (rel ≠ 2 ∧ dr = 1) ∨ (rel ≠ 2 ∧ dr = 3) := by
           rw [hdr]; unfold dirN; split <;> omega
          have HD3 := Lib.hid hd3
          have HART2 : Hid (art = p.art) := Lib.hid (by rw [HART.out, HN.out, HM.out]; rfl)
          have hslW : rel ≠ 2 → sl < art := fun h => by
           rw [HSL.out, HART2.out]; exact Prob.sl_lt (by rw [← HM.out]; exact hlt) (by rw [← HREL.out]; exact h)
          rw [← hdr]
          clear hdr d0 d1 d2 d3 d4 d5 hx3 BB2
          go_upto_block 8 with fail
          go_cut [] (fun wx => RowR wx L (W + 1) (fun j => if rel ≠ 2 ∧ j = sl then (if dr = 1 then 1 else -1) else f2 j) ∧ Ext U wx)
          case first =>
           rcases hd3 with ⟨h1, h2⟩ | ⟨h1, h2⟩ | ⟨h1, h2⟩
           ·subst h2
            have H1 := Lib.hid h1
            clear h1
            go_wp2_with fail
            go_meet
            exact ⟨hR.congr (fun j hj => by rw [if_neg (fun h => h.1 H1.out)]), hx⟩
           ·subst h2
            have H1 := Lib.hid h1
            have hsW := hslW h1
            clear h1
            go_wp2_with fail
            refine (qfw 1 _ (by decide) (by decide)).mono ?_
            rintro e1 w4 ⟨v4, rfl, hb4, hx4⟩
            obtain ⟨q2, B2, m2, c2, q2', B2', m2', c2', rfl⟩ := hb4.1.shape
            have hR4 := hR.ext hx4
            obtain ⟨n1, n2, n3, n4, n5, n6, n7, n8, u0, u1, u2, u3, hur⟩ := hR4.at (j := sl) (by omega)
            have y0 := hR4.frozen (sl * 4)
            have y1 := hR4.frozen (sl * 4 + 1)
            have y2 := hR4.frozen (sl * 4 + 2)
            have y3 := hR4.frozen (sl * 4 + 3)
            obtain ⟨s1, s2⟩ := hR4.set (j := sl) (by omega) hb4.1
            have hx5 : Ext U _ := (((((hx.trans hx4).set (p := ⟨L, sl * 4, none⟩) hUL (.bool q2)).set (p := ⟨L, sl * 4 + 1, none⟩) hUL (.slice B2 m2 c2)).set (p := ⟨L, sl * 4 + 2, none⟩) hUL (.bool q2')).set (p := ⟨L, sl * 4 + 3, none⟩) hUL (.slice B2' m2' c2'))
            clear hur
            go_wp2_with fail
            go_meet
            exact ⟨s1.congr (fun j hj => by
             by_cases h : j = sl
             ·rw [if_pos h, if_pos ⟨H1.out, h⟩]; simp
             ·rw [if_neg h, if_neg (fun h' => h h'.2)]), hx5⟩
           ·subst h2
            have H1 := Lib.hid h1
            have hsW := hslW h1
            clear h1
            go_wp2_with fail
            refine (qfw (-1) _ (by decide) (by decide)).mono ?_
            rintro e1 w4 ⟨v4, rfl, hb4, hx4⟩
            obtain ⟨q2, B2, m2, c2, q2', B2', m2', c2', rfl⟩ := hb4.1.shape
            have hR4 := hR.ext hx4
            obtain ⟨n1, n2, n3, n4, n5, n6, n7, n8, u0, u1, u2, u3, hur⟩ := hR4.at (j := sl) (by omega)
            have y0 := hR4.frozen (sl * 4)
            have y1 := hR4.frozen (sl * 4 + 1)
            have y2 := hR4.frozen (sl * 4 + 2)
            have y3 := hR4.frozen (sl * 4 + 3)
            obtain ⟨s1, s2⟩ := hR4.set (j := sl) (by omega) hb4.1
            have hx5 : Ext U _ := (((((hx.trans hx4).set (p := ⟨L, sl * 4, none⟩) hUL (.bool q2)).set (p := ⟨L, sl * 4 + 1, none⟩) hUL (.slice B2 m2 c2)).set (p := ⟨L, sl * 4 + 2, none⟩) hUL (.bool q2')).set (p := ⟨L, sl * 4 + 3, none⟩) hUL (.slice B2' m2' c2'))
            clear hur
            go_wp2_with fail
            go_meet
            exact ⟨s1.congr (fun j hj => by
             by_cases h : j = sl
             ·rw [if_pos h, if_pos ⟨H1.out, h⟩]; simp
             ·rw [if_neg h, if_neg (fun h' => h h'.2)]), hx5⟩
          case rest =>
           clear hR hx hd3
           obtain ⟨hR, hx⟩ := hcut
           rename_i hK
           refine hK _ _ ?_
           clear hK
           obtain ⟨f3, hf3⟩ : ∃ f : Nat → Rat, f = fun j => if rel ≠ 2 ∧ j = sl then (if dr = 1 then 1 else -1) else f2 j := ⟨_, rfl⟩
           rw [← hf3] at hR
           have HF3 := Lib.hid hf3
           clear hf3
           obtain ⟨sl2, hsl2⟩ : ∃ s, s = p.sl (i + 1) := ⟨_, rfl⟩
           have HSL2 := Lib.hid hsl2
           have hsl3 : sl2 = sl + if rel ≠ 2 then 1 else 0 := by
            rw [hsl2, HSL.out, HREL.out]
            show p.n + (cnt i _ + if _ then 1 else 0) = p.n + cnt i _ + _
            by_cases h : p.rel i ≠ 2 <;> simp [h] <;> omega
           have hsl4 : sl2 ≤ n + (i + 1) := by rw [hsl3]; split <;> omega
           have HSL3 := Lib.hid hsl3
           have BB2 := BB.ext hx
           have d1 := BB2.c1
           clear hsl2 hsl3
           go_upto_if 128 with fail
           go_cut [8] (fun v wx => v = .int .i64 (sl2 : Int) ∧ RowR wx L (W + 1) f3 ∧ Ext U wx)
           case first =>
            by_cases h2 : rel = 2
            ·have e1 : ((rel : Int) != 2) = false := by rw [h2]; rfl
             have HS4 : Hid (sl = sl2) := Lib.hid (by rw [HSL3.out, if_neg (fun h => h h2)]; rfl)
             clear h2
             go_wp2_with fail
             go_meet
             exact ⟨by rw [HS4.out], hR, hx⟩
            ·have e1 : ((rel : Int) != 2) = true := by simp; omega
             have HS4 : Hid (((sl2 : Nat) : Int) = (sl : Int) + 1) := Lib.hid (by rw [HSL3.out, if_pos h2]; rfl)
             clear h2
             go_wp2_with fail
             go_meet
             exact ⟨by rw [HS4.out], hR, hx⟩
           case rest =>
            clear hR hx d1 BB2
            obtain ⟨rfl, hR, hx⟩ := hcut
            rename_i hK
            refine hK _ _ ?_
            clear hK
            have BB2 := BB.ext hx
            have d0 := BB2.c0
            have d1 := BB2.c1
            have d2 := BB2.c2
            have d3 := BB2.c3
            have d4 : wc.cell? ⟨rb, 4, none⟩ = some (.bool y) := BB2.cell 4
            have d5 : wc.cell? ⟨rb, 5, none⟩ = some (.slice A' d' e') := BB2.cell 5
            go_wp2_with fail
            refine (q5x _ n (p.coef i) rel (p.right i) K _ (hRV.ext hx) (HRT.out i hlt) (by omega)).mono ?_
            rintro e1 w3 ⟨rfl, hx3⟩
            have hR := hR.ext hx3
            have hx := hx.trans hx3
            have HDN : Hid (dirN rel (p.right i) = dr) := Lib.hid (by rw [HDR.out, HREL.out]; rfl)
            rw [HDN.out]
            obtain ⟨ar2, har2⟩ : ∃ s, s = p.ar (i + 1) := ⟨_, rfl⟩
            have HAR2 := Lib.hid har2
            have har3 : ar2 = ar + if dr ≠ 1 then 1 else 0 := by
             rw [har2, HAR.out, HDR.out]
             show p.art + (cnt i _ + if _ then 1 else 0) = p.art + cnt i _ + _
             by_cases h : p.dir i ≠ 1 <;> simp [h] <;> omega
            have har4 : ar2 ≤ art + (i + 1) := by rw [har3]; split <;> omega
            have HAR3 := Lib.hid har3
            obtain ⟨ui, hui⟩ : ∃ s, s = p.un i := ⟨_, rfl⟩
            have HUI := Lib.hid hui
            have hui2 : ui = if dr = 1 then sl else ar := by rw [hui, HDR.out, HSL.out, HAR.out]; rfl
            have HUI2 := Lib.hid hui2
            have HW2 : Hid (W = p.W) := Lib.hid (by rw [HW.out, HART2.out, HM.out]; rfl)
            have harW : dr ≠ 1 → ar < W := fun h => by
             rw [HAR.out, HW2.out]; exact Prob.ar_lt (by rw [← HM.out]; exact hlt) (by rw [← HDR.out]; exact h)
            clear hui hui2 har2 har3 d0 d1 d2 d3 d4 d5 hx3 BB2
            go_upto_if 133 with fail
            go_cut [9, 14] (fun v v2 wx => v = .int .i64 (ar2 : Int) ∧ v2 = .int .i64 (ui : Int) ∧ RowR wx L (W + 1) (fun j => if dr ≠ 1 ∧ j = ar then 1 else f3 j) ∧ Ext U wx)
            case first =>
             by_cases h2 : dr = 1
             ·have e1 : ((dr : Int) != 1) = false := by rw [h2]; rfl
              have HS4 : Hid (ar = ar2) := Lib.hid (by rw [HAR3.out, if_neg (fun h => h h2)]; rfl)
              have HS5 : Hid (sl = ui) := Lib.hid (by rw [HUI2.out, if_pos h2])
              have H2 := Lib.hid h2
              clear h2
              go_wp2_with fail
              go_meet
              exact ⟨by rw [HS4.out], by rw [HS5.out], hR.congr (fun j hj => by rw [if_neg (fun h => h.1 H2.out)]), hx⟩
             ·have e1 : ((dr : Int) != 1) = true := by simp; omega
              have HS4 : Hid (((ar2 : Nat) : Int) = (ar : Int) + 1) := Lib.hid (by rw [HAR3.out, if_pos h2]; rfl)
              have HS5 : Hid (ar = ui) := Lib.hid (by rw [HUI2.out, if_neg h2])
              have hsW := harW h2
              have H2 := Lib.hid h2
              clear h2
              go_wp2_with fail
              refine (qfw 1 _ (by decide) (by decide)).mono ?_
              rintro e1 w4 ⟨v4, rfl, hb4, hx4⟩
              obtain ⟨q2, B2, m2, c2, q2', B2', m2', c2', rfl⟩ := hb4.1.shape
              have hR4 := hR.ext hx4
              obtain ⟨n1, n2, n3, n4, n5, n6, n7, n8, u0, u1, u2, u3, hur⟩ := hR4.at (j := ar) (by omega)
              have y0 := hR4.frozen (ar * 4)
              have y1 := hR4.frozen (ar * 4 + 1)
              have y2 := hR4.frozen (ar * 4 + 2)
              have y3 := hR4.frozen (ar * 4 + 3)
              obtain ⟨s1, s2⟩ := hR4.set (j := ar) (by omega) hb4.1
              have hx5 : Ext U _ := (((((hx.trans hx4).set (p := ⟨L, ar * 4, none⟩) hUL (.bool q2)).set (p := ⟨L, ar * 4 + 1, none⟩) hUL (.slice B2 m2 c2)).set (p := ⟨L, ar * 4 + 2, none⟩) hUL (.bool q2')).set (p := ⟨L, ar * 4 + 3, none⟩) hUL (.slice B2' m2' c2'))
              clear hur
              go_wp2_with fail
              go_meet
              exact ⟨by rw [HS4.out], by rw [HS5.out], s1.congr (fun j hj => by
               by_cases h : j = ar
               ·rw [if_pos h, if_pos ⟨H2.out, h⟩]; simp
               ·rw [if_neg h, if_neg (fun h' => h h'.2)]), hx5⟩
            case rest =>
             clear hR hx
             obtain ⟨rfl, rfl, hR, hx⟩ := hcut
             rename_i hK
             refine hK _ _ ?_
             clear hK
             have hR : RowR wc L (W + 1) (p.T0 i) := hR.congr (fun j hj => by
              rw [← T0_of (by rw [← HM.out]; exact hlt) (by rw [← HW2.out]; omega), HF3.out, HF2.out, HF1.out, HFL.out, HDR.out, HREL.out, HSL.out, HAR.out, HW2.out, HN.out])
             have t0 : wc.cell? ⟨tb, 0, none⟩ = some vr := (NI.mono hx).tbx.c0
             have hxa : Ext wc (wc.alloc (.cells #[.slice (some ⟨L, 0, none⟩) (W + 1) (W + 1)] 38)) := (Ext.refl wc).alloc _
             have NIa := (NI.mono hx).mono hxa
             have hRa := hR.ext hxa
             have BB5 := (BB.ext hx).ext hxa
             have hRn := new1 wc 38 (.slice (some ⟨L, 0, none⟩) (W + 1) (W + 1))
             obtain ⟨il, il1, il2, il3, il4⟩ := info_parts infoL
             have ea := NIa.base
             clear hR hxa NI hRV BB hx
             go_upto_region 41 with (at_builtin; refine qbx rfl (.tmp 145) (.tmp 147) 197 rfl w.heap.size 38 il (.slice none 0 0) 1 24 Tryz.underlying197 il1 il2 il3 il4 rfl zL vr i (rwL rw' W i) rfl NIa.orr wc.heap.size [.slice (some ⟨L, 0, none⟩) (W + 1) (W + 1)] 1 rfl rfl hRn (one1 rfl) (nou1 rfl) (by omega) (by decide) ea ?_; intro v1 w1 o1 r1 s1; have tb1 := r1.box NIa.tbx (fun e => (NIa.apart.1 _ e).2.1 rfl); have c1 := tb1.c0; have y1 := tb1.frozen 0; obtain ⟨A1, d1, rfl⟩ := o1.shape)
             have NI5 := NIa.pushR hwt o1 r1 hRa hwL (fun k hk => by have := HLN.out k hk; omega)
             have BB5 := ((boxR BB5 NIa.orr r1 (by decide)).far (p := ⟨tb, 0, none⟩) (qb8 BB5 NIa.tbx (by decide)) (.slice A1 (i + 1) d1))
             clear t0 hRn ea NIa o1 r1 s1 tb1 c1 y1 hRa il il1 il2 il3 il4
             generalize (w1.setCell ⟨tb, 0, none⟩ (.slice A1 (i + 1) d1)) = w2 at *
             obtain ⟨rw2, hrw2⟩ : ∃ x, x = fun k => if k = i then L else rw' k := ⟨_, rfl⟩
             rw [← hrw2] at NI5
             clear hrw2
             obtain ⟨ij, ij1, ij2, ij3, ij4⟩ := info_parts infoI
             have t0 : w2.cell? ⟨tb, 2, none⟩ = some vb := NI5.tbx.c2
             have hxa : Ext w2 (w2.alloc (.cells #[.int .i64 (ui : Int)] 3)) := (Ext.refl w2).alloc _
             have NIa := NI5.mono hxa
             have BB5 := BB5.ext hxa
             have hRn := new1 w2 3 (.int .i64 (ui : Int))
             have ea := NIa.base
             clear hxa NI5
             go_upto_region 42 with (at_builtin; refine qbx rfl (.tmp 155) (.tmp 157) 30 rfl w.heap.size 3 ij (.int .i64 0) 1 8 Tryz.underlying30 ij1 ij2 ij3 ij4 rfl zI vb i (inL p.un i) rfl NIa.ob w2.heap.size [.int .i64 (ui : Int)] 1 rfl rfl hRn (one1 rfl) (nou1 rfl) (by omega) (by decide) ea ?_; intro v2 y2 o2 r2' s2'; have tb2 := r2'.box NIa.tbx (fun e => (NIa.apart.2.1 _ e).2.1 rfl); have c2' := tb2.c2; have z2 := tb2.frozen 2; obtain ⟨A2, d2, rfl⟩ := o2.shape)
             have NI6 := NIa.pushB hwt (by rw [← HUI.out]; exact o2) r2' s2'
             have BB5 := ((boxR BB5 NIa.ob r2' (by decide)).far (p := ⟨tb, 2, none⟩) (qb8 BB5 NIa.tbx (by decide)) (.slice A2 (i + 1) d2))
             clear t0 hRn ea NIa o2 r2' s2' tb2 c2' z2
             generalize (y2.setCell ⟨tb, 2, none⟩ (.slice A2 (i + 1) d2)) = w4 at *
             have t0 : w4.cell? ⟨tb, 3, none⟩ = some vu := NI6.tbx.c3
             have hxa : Ext w4 (w4.alloc (.cells #[.int .i64 (ui : Int)] 3)) := (Ext.refl w4).alloc _
             have NIa := NI6.mono hxa
             have BB5 := BB5.ext hxa
             have hRn := new1 w4 3 (.int .i64 (ui : Int))
             have ea := NIa.base
             clear hxa NI6
             go_upto_region 43 with (at_builtin; refine qbx rfl (.tmp 165) (.tmp 167) 30 rfl w.heap.size 3 ij (.int .i64 0) 1 8 Tryz.underlying30 ij1 ij2 ij3 ij4 rfl zI vu i (inL p.un i) rfl NIa.ou w4.heap.size [.int .i64 (ui : Int)] 1 rfl rfl hRn (one1 rfl) (nou1 rfl) (by omega) (by decide) ea ?_; intro v3 y3 o3 r3' s3'; have tb3 := r3'.box NIa.tbx (fun e => (NIa.apart.2.2.1 _ e).2.1 rfl); have c3' := tb3.c3; have z3 := tb3.frozen 3; obtain ⟨A3, d3, rfl⟩ := o3.shape)
             have NI7 := NIa.pushU hwt (by rw [← HUI.out]; exact o3) r3' s3'
             have BB5 := ((boxR BB5 NIa.ou r3' (by decide)).far (p := ⟨tb, 3, none⟩) (qb8 BB5 NIa.tbx (by decide)) (.slice A3 (i + 1) d3))
             clear t0 hRn ea NIa o3 r3' s3' tb3 c3' z3
             generalize (y3.setCell ⟨tb, 3, none⟩ (.slice A3 (i + 1) d3)) = w5 at *
             clear ij ij1 ij2 ij3 ij4
             have e5 := NI7.ext
             have HFB : Hid (qay rel (p.right i) = F) := Lib.hid (by rw [HFL.out, HREL.out]; rfl)
             have hRV := HRVW.out.ext e5
             have t0 : w5.cell? ⟨tb, 4, none⟩ = some vf := NI7.tbx.cell 4
             have k0 := BB5.c0
             have k1 := BB5.c1
             have k2 := BB5.c2
             have k3 := BB5.c3
             have k4 : w5.cell? ⟨rb, 4, none⟩ = some (.bool y) := BB5.cell 4
             have k5 : w5.cell? ⟨rb, 5, none⟩ = some (.slice A' d' e') := BB5.cell 5
             obtain ⟨ib, ib1, ib2, ib3, ib4⟩ := info_parts infoB
             go_region_law (first
              | (have hza := hy3.alloc (.cells #[.bool F] 4); refine qos rfl (.tmp 175) (.tmp 178) 198 rfl w.heap.size 4 ib (.bool false) 1 1 Tryz.underlying198 ib1 ib2 ib3 ib4 rfl zB vf i (boL p.flip i) (by simp [Act.eval, Act.put]) (NI7.of'.ext hza) w3.heap.size [.bool F] 1 (by simp [Act.eval, Act.put]) rfl (new1 w3 4 (.bool F)) (one1 rfl) (nou1 rfl) (by omega) (by decide) (NI7.mono hza).base ?_; intro v4 y4 o4 r4 s4; have tb4 := r4.box (NI7.mono hza).tbx (fun e => ((NI7.mono hza).apart.2.2.2.1 _ e).2.1 rfl); have c4 : y4.cell? ⟨tb, 4, none⟩ = some vf := tb4.cell 4; have z4 := tb4.frozen 4; obtain ⟨A4, d4, rfl⟩ := o4.shape)
              | (go_simp; go_at_call 167; refine (qam _ n (p.coef i) rel (p.right i) K _ (hRV.ext (by repeat (first | exact Ext.refl _ | apply Ext.drew))) (HRT.out i hlt)).mono ?_; rintro e1 w3 ⟨rfl, hx3⟩; have hy3 : Ext w5 w3 := Ext.trans (by repeat (first | exact Ext.refl _ | apply Ext.drew)) hx3; have k9 := hy3.cell t0; have k10 := (hy3.alloc (.cells #[.bool F] 4)).cell t0; rw [HFB.out]))
             all_goals (
              have NI8 := (NI7.mono hza).pushF hwt (by rw [← HFL.out]; exact o4) r4
              go_wp2_with fail
              go_roundw
              case rel => exact ⟨i + 1, sl2, ar2, _, _, _, _, rw2, by omega, by go_num, rfl, rfl, HSL2, HAR2, hsl4, har4, NI8⟩
              case measure => simp [intOf]; omega)
       ·obtain rfl : m = i := by omega
        go_wp2_with fail
        go_ret
        obtain ⟨a, rfl, h2, h3, h4⟩ := NI.tab
        have HA : art = p.art := by rw [HART.out, HN.out, HM.out]; rfl
        have HW2 : W = p.W := by rw [HW.out, HA, HM.out]; rfl
        refine ⟨a, rfl, by rw [← HM.out, ← HW2, ← HA]; exact h3, NI.ext, hwt, fun i hi => ?_, fun hm => h4 (by rw [HM.out]; exact hm)⟩
        rw [h2]
        exact (NI.row i (by rw [HM.out]; exact hi)).2
end Go.Proofs.YtljncdcjkdgkeaaGreatDoor.Lp

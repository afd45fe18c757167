/- Walk: the law's prove. -/
import Derived.Test.YtljncdcjkdgkeaaGreatDoorYCardU
import Derived.Test.YtljncdcjkdgkeaaGreatDoorYT5C
import Derived.Test.YtljncdcjkdgkeaaGreatDoorYIBR
import Derived.Test.YtljncdcjkdgkeaaGreatDoorYCLC
import Derived.Test.YtljncdcjkdgkeaaGreatDoorYCK3
set_option linter.unusedVariables false
set_option linter.unusedSimpArgs false
set_option maxRecDepth 100000
namespace Go.Proofs.YtljncdcjkdgkeaaGreatDoor.Lp
open Go.RowKit Go.Proofs.YtljncdcjkdgkeaaGreatDoor.Big Go.Proofs.YtljncdcjkdgkeaaGreatDoor.Rt
def pk5 : Oper := ⟨some 105, .call { callee := Callee.value (.func 58), args := #[.tmp 100, .tmp 104], argTypes := #[41, 38] }, 120, "law.go:191", #[⟨0, .data⟩, ⟨4, .data⟩], none⟩
def pk10 : Oper := ⟨some 12, .alloc 58, 0, "law.go:191", #[], none⟩
def pk12 : Oper := ⟨none, .store 58 (.tmp 12) (.tmp 107), 0, "law.go:191", #[⟨10, .data⟩, ⟨8, .data⟩, ⟨11, .chain⟩, ⟨0, .phase⟩, ⟨1, .phase⟩, ⟨2, .phase⟩, ⟨3, .phase⟩, ⟨4, .phase⟩, ⟨5, .phase⟩, ⟨6, .phase⟩, ⟨7, .phase⟩, ⟨8, .phase⟩, ⟨9, .textOnly .lateStores⟩, ⟨10, .phase⟩, ⟨11, .phase⟩], none⟩
theorem RatB.upC {w : World} {v : Value} {q : Rat} {j k : Nat} (h : RatB w v q j) (hjk : j ≤ k) : RatB w v q k := ⟨h.1, qqj hjk h.2⟩
theorem flce (x : Rat) : (cmpZ (q3f x) (qak x) == 0) = decide (x.den = 1) := by
 have hd := x.den_pos
 have hz : (0 : Int) < (x.den : Int) := by omega
 have key : q3f x = qak x ↔ x.den = 1 := by
  unfold q3f qak
  constructor
  ·intro h
   have h1 := Int.mul_ediv_add_emod x.num x.den
   have h2 := Int.mul_ediv_add_emod (-x.num) x.den
   have h3 := Int.emod_nonneg x.num (b := (x.den : Int)) (by omega)
   have h4 := Int.emod_nonneg (-x.num) (b := (x.den : Int)) (by omega)
   have h5 : (x.den : Int) ∣ x.num := by
    refine Int.dvd_of_emod_eq_zero ?_
    rw [show x.num / (x.den : Int) = -((-x.num) / (x.den : Int)) from h, Int.mul_neg] at h1
    omega
   have h6 := x.reduced
   have h7 : x.den ∣ x.num.natAbs := Int.ofNat_dvd_left.1 h5
   have h8 : Nat.gcd x.num.natAbs x.den = 1 := h6
   rw [Nat.gcd_eq_right h7] at h8
   exact h8
  ·intro h
   rw [h]
   simp
 rw [Bool.eq_iff_iff, beq_iff_eq, decide_eq_true_eq]
 exact cmpZ_zero.trans key
set_option maxHeartbeats 600000 in
theorem prove_no (x : Value) (p : Prob) (z : Int) (dpt nb : Nat) (fl : Int) (em : Bool) (L H Y : Option Addr) (n c : Nat) (w : World) (hx : qga w x p) (hno : ¬ (fl = 0 ∧ L = none ∧ H = none ∧ n = p.m)) (hL : ∀ a, L = some a → ∃ x, a = ⟨x, 0, none⟩) (hH : ∀ a, H = some a → ∃ x, a = ⟨x, 0, none⟩) (NB : Box w nb 79 (q89 (-1) fl L H em Y n c)) (hdp : dpt ≤ 200) :
 Calls Tryz.prog 19 #[x, .int .i64 z, .pointer (some ⟨nb, 0, none⟩), .int .i64 (dpt : Int)] w (qjz w (.int .i64 2)) := by
 obtain ⟨Ao, co, Ar, cr, rfl, -⟩ := id hx
 have PB := Box.new w 41 #[.slice Ao p.n co, .slice Ar p.m cr]
 have hE0 : Ext w (w.alloc (.cells #[.slice Ao p.n co, .slice Ar p.m cr] 41)) := (Ext.refl w).alloc _
 have hnl : ∀ W, (binOp BinOp.eql 25 (.pointer (some ⟨nb, 0, none⟩)) (.pointer none)).run Tryz.prog W = .ok (.bool false) W := fun _ => by kernel_rfl
 have hnx : ∀ W x, (binOp BinOp.neq 25 (.pointer (some ⟨x, 0, none⟩)) (.pointer none)).run Tryz.prog W = .ok (.bool true) W := fun _ _ => by kernel_rfl
 have hnn : ∀ W, (binOp BinOp.neq 25 (.pointer none) (.pointer none)).run Tryz.prog W = .ok (.bool false) W := fun _ => by kernel_rfl
 have e200 : decide ((200 : Int) < (dpt : Int)) = false := by simp; omega
 go_enter Tryz.func19, Tryz.ntmps19
 go_upto_region 1 with fail
 generalize (w.alloc (.cells #[.slice Ao p.n co, .slice Ar p.m cr] 41)) = V0 at *
 obtain ⟨pb, hpb⟩ : ∃ x, x = w.heap.size := ⟨_, rfl⟩
 rw [← hpb] at PB ⊢
 clear hpb
 have NB1 := NB.ext hE0
 have hxV := hx.ext hE0
 have q0 := PB.c0
 have q1 := PB.c1
 have t0 : V0.cell? ⟨nb, 0, none⟩ = some (.int .i64 (-1)) := NB1.cell 0
 have t1 : V0.cell? ⟨nb, 1, none⟩ = some (.int .i64 fl) := NB1.cell 1
 have t2 : V0.cell? ⟨nb, 2, none⟩ = some (.pointer L) := NB1.cell 2
 have t3 : V0.cell? ⟨nb, 3, none⟩ = some (.pointer H) := NB1.cell 3
 have t5 : V0.cell? ⟨nb, 5, none⟩ = some (.slice Y n c) := NB1.cell 5
 go_upto_region 4 with fail
 clear hnl e200 t0
 by_cases hf : fl = 0
 ·subst hf
  rcases L with _ | a
  ·rcases H with _ | a
   ·have e5 : ((n : Int) != (p.m : Int)) = true := by
     have : n ≠ p.m := fun h => hno ⟨rfl, rfl, rfl, h⟩
     simp; omega
    clear hno hL hH
    go_quiet (fail)
    generalize hWW : World.drewN V0 _ = W
    have hX : Ext w W := by rw [← hWW]; exact hE0.drewN _
    clear hWW
    go_wp2_with fail
    go_ret
    exact ⟨rfl, hX⟩
   ·obtain ⟨k, rfl⟩ := hH a rfl
    clear hno hL hH
    go_quiet (fail)
    generalize hWW : World.drewN V0 _ = W
    have hX : Ext w W := by rw [← hWW]; exact hE0.drewN _
    clear hWW
    go_wp2_with fail
    go_ret
    exact ⟨rfl, hX⟩
  ·obtain ⟨k, rfl⟩ := hL a rfl
   clear hno hL hH
   go_quiet (fail)
   generalize hWW : World.drewN V0 _ = W
   have hX : Ext w W := by rw [← hWW]; exact hE0.drewN _
   clear hWW
   go_wp2_with fail
   go_ret
   exact ⟨rfl, hX⟩
 ·have e4 : (fl != 0) = true := by simpa using hf
  clear hno hL hH hf
  go_quiet (fail)
  generalize hWW : World.drewN V0 _ = W
  have hX : Ext w W := by rw [← hWW]; exact hE0.drewN _
  clear hWW
  go_wp2_with fail
  go_ret
  exact ⟨rfl, hX⟩
set_option maxHeartbeats 600000 in
theorem prove_nin (x : Value) (p : Prob) (z : Int) (dpt nb : Nat) (vr fl : Int) (em : Bool) (L H Y : Option Addr) (n c : Nat) (w : World) (hx : qga w x p) (hv : vr ≠ -1) (hno : ¬ (0 ≤ vr ∧ vr < (p.n : Int) ∧ em = false ∧ n = 0)) (NB : Box w nb 79 (q89 vr fl L H em Y n c)) (hdp : dpt ≤ 200) :
 Calls Tryz.prog 19 #[x, .int .i64 z, .pointer (some ⟨nb, 0, none⟩), .int .i64 (dpt : Int)] w (qjz w (.int .i64 2)) := by
 have e3 : (vr == -1) = false := by simpa using hv
 obtain ⟨Ao, co, Ar, cr, rfl, -⟩ := id hx
 have PB := Box.new w 41 #[.slice Ao p.n co, .slice Ar p.m cr]
 have hE0 : Ext w (w.alloc (.cells #[.slice Ao p.n co, .slice Ar p.m cr] 41)) := (Ext.refl w).alloc _
 have hnl : ∀ W, (binOp BinOp.eql 25 (.pointer (some ⟨nb, 0, none⟩)) (.pointer none)).run Tryz.prog W = .ok (.bool false) W := fun _ => by kernel_rfl
 have hnx : ∀ W x, (binOp BinOp.neq 25 (.pointer (some ⟨x, 0, none⟩)) (.pointer none)).run Tryz.prog W = .ok (.bool true) W := fun _ _ => by kernel_rfl
 have hnn : ∀ W, (binOp BinOp.neq 25 (.pointer none) (.pointer none)).run Tryz.prog W = .ok (.bool false) W := fun _ => by kernel_rfl
 have e200 : decide ((200 : Int) < (dpt : Int)) = false := by simp; omega
 go_enter Tryz.func19, Tryz.ntmps19
 go_upto_region 1 with fail
 generalize (w.alloc (.cells #[.slice Ao p.n co, .slice Ar p.m cr] 41)) = V0 at *
 obtain ⟨pb, hpb⟩ : ∃ x, x = w.heap.size := ⟨_, rfl⟩
 rw [← hpb] at PB ⊢
 clear hpb
 have NB1 := NB.ext hE0
 have hxV := hx.ext hE0
 have q0 := PB.c0
 have q1 := PB.c1
 have t0 : V0.cell? ⟨nb, 0, none⟩ = some (.int .i64 vr) := NB1.cell 0
 have t4 : V0.cell? ⟨nb, 4, none⟩ = some (.bool em) := NB1.cell 4
 have t5 : V0.cell? ⟨nb, 5, none⟩ = some (.slice Y n c) := NB1.cell 5
 go_upto_region 21 with fail
 clear hnl e200 e3
 by_cases g1 : vr < 0
 ·have g1' : decide (vr < 0) = true := by simpa using g1
  clear hno hv g1
  go_quiet (fail)
  generalize hWW : World.drewN V0 _ = W
  have hX : Ext w W := by rw [← hWW]; exact hE0.drewN _
  clear hWW
  go_wp2_with fail
  go_ret
  exact ⟨rfl, hX⟩
 ·have g1' : decide (vr < 0) = false := by simpa using g1
  by_cases g2 : (p.n : Int) ≤ vr
  ·have g2' : decide ((p.n : Int) ≤ vr) = true := by simpa using g2
   clear hno hv g1 g2
   go_quiet (fail)
   generalize hWW : World.drewN V0 _ = W
   have hX : Ext w W := by rw [← hWW]; exact hE0.drewN _
   clear hWW
   go_wp2_with fail
   go_ret
   exact ⟨rfl, hX⟩
  ·have g2' : decide ((p.n : Int) ≤ vr) = false := by simpa using g2
   cases em with
   | true =>
     clear hno hv g1 g2
     go_quiet (fail)
     generalize hWW : World.drewN V0 _ = W
     have hX : Ext w W := by rw [← hWW]; exact hE0.drewN _
     clear hWW
     go_wp2_with fail
     go_ret
     exact ⟨rfl, hX⟩
   | false =>
     have g3 : decide ((0 : Int) < (n : Int)) = true := by
      have : n ≠ 0 := fun h => hno ⟨by omega, by omega, rfl, h⟩
      simp; omega
     have g4 : decide (0 < n) = true := by
      have : n ≠ 0 := fun h => hno ⟨by omega, by omega, rfl, h⟩
      simp; omega
     clear hno hv g1 g2
     go_quiet (fail)
     generalize hWW : World.drewN V0 _ = W
     have hX : Ext w W := by rw [← hWW]; exact hE0.drewN _
     clear hWW
     go_wp2_with fail
     go_ret
     exact ⟨rfl, hX⟩
set_option maxHeartbeats 600000 in
theorem prove_in (x : Value) (p : Prob) (z : Int) (dpt nb V : Nat) (fl : Int) (L H Y : Option Addr) (c ra rb : Nat) (w : World) (hx : qga w x p) (hval : qba p = true) (hv : V < p.n) (hf : fit fl = true) (NB : Box w nb 79 (q89 (V : Int) fl L H false Y 0 c)) (hdp : dpt ≤ 200)
 (H1 : ∀ W y, Ext w W → qga W y (p.side V fl false) → Calls Tryz.prog 19 #[y, .int .i64 z, .pointer L, .int .i64 ((dpt : Int) + 1)] W (qjz W (.int .i64 (ra : Int))))
 (H2 : ∀ W y, Ext w W → qga W y (p.side V fl true) → Calls Tryz.prog 19 #[y, .int .i64 z, .pointer H, .int .i64 ((dpt : Int) + 1)] W (qjz W (.int .i64 (rb : Int)))) :
 Calls Tryz.prog 19 #[x, .int .i64 z, .pointer (some ⟨nb, 0, none⟩), .int .i64 (dpt : Int)] w (qjz w (.int .i64 ((max ra rb : Nat) : Int))) := by
 have HH1 := Lib.hid H1
 have HH2 := Lib.hid H2
 clear H1 H2
 obtain ⟨M, hM⟩ : ∃ M : Int, M = ((max ra rb : Nat) : Int) := ⟨_, rfl⟩
 rw [← hM]
 have HM : Hid (max (ra : Int) (rb : Int) = M) := Lib.hid (by omega)
 clear hM
 have e3 : ((V : Int) == -1) = false := by simp
 have r1 : IntKind.i64.wrap ((dpt : Int) + 1) = (dpt : Int) + 1 := IntWalk.i64_in _ (by omega)
 obtain ⟨Ao, co, Ar, cr, rfl, -⟩ := id hx
 have PB := Box.new w 41 #[.slice Ao p.n co, .slice Ar p.m cr]
 have hE0 : Ext w (w.alloc (.cells #[.slice Ao p.n co, .slice Ar p.m cr] 41)) := (Ext.refl w).alloc _
 have hnl : ∀ W, (binOp BinOp.eql 25 (.pointer (some ⟨nb, 0, none⟩)) (.pointer none)).run Tryz.prog W = .ok (.bool false) W := fun _ => by kernel_rfl
 have hnx : ∀ W x, (binOp BinOp.neq 25 (.pointer (some ⟨x, 0, none⟩)) (.pointer none)).run Tryz.prog W = .ok (.bool true) W := fun _ _ => by kernel_rfl
 have hnn : ∀ W, (binOp BinOp.neq 25 (.pointer none) (.pointer none)).run Tryz.prog W = .ok (.bool false) W := fun _ => by kernel_rfl
 have e200 : decide ((200 : Int) < (dpt : Int)) = false := by simp; omega
 go_enter Tryz.func19, Tryz.ntmps19
 go_upto_region 1 with fail
 generalize (w.alloc (.cells #[.slice Ao p.n co, .slice Ar p.m cr] 41)) = V0 at *
 obtain ⟨pb, hpb⟩ : ∃ x, x = w.heap.size := ⟨_, rfl⟩
 rw [← hpb] at PB ⊢
 clear hpb
 have NB1 := NB.ext hE0
 have hxV := hx.ext hE0
 have q0 := PB.c0
 have q1 := PB.c1
 have t0 : V0.cell? ⟨nb, 0, none⟩ = some (.int .i64 (V : Int)) := NB1.cell 0
 have t4 : V0.cell? ⟨nb, 4, none⟩ = some (.bool false) := NB1.cell 4
 have t5 : V0.cell? ⟨nb, 5, none⟩ = some (.slice Y 0 c) := NB1.cell 5
 have g1' : decide ((V : Int) < 0) = false := by simp
 have g2' : decide ((p.n : Int) ≤ (V : Int)) = false := by simp; omega
 go_upto_region 21 with fail
 clear hnl e200 e3
 go_quiet (fail)
 generalize hWW : World.drewN V0 _ = W1
 have hX1 : Ext V0 W1 := by rw [← hWW]; exact (Ext.refl V0).drewN _
 clear hWW
 go_upto_region 23 with fail
 clear t0 t4 t5 g1' g2' q0 q1
 have NB2 := NB1.ext hX1
 have PB2 := PB.ext hX1
 have hx2 := hxV.ext hX1
 have hE1 := hE0.trans hX1
 have k1 : ∀ w', Later W1 w' → w'.cell? ⟨pb, 0, none⟩ = some (.slice Ao p.n co) := fun w' h => (PB2.ext h).c0
 have k2 : ∀ w', Later W1 w' → w'.cell? ⟨pb, 1, none⟩ = some (.slice Ar p.m cr) := fun w' h => (PB2.ext h).c1
 have k3 : ∀ w', Later W1 w' → w'.cell? ⟨nb, 0, none⟩ = some (.int .i64 (V : Int)) := fun w' h => (NB2.ext h).cell 0
 have k4 : ∀ w', Later W1 w' → w'.cell? ⟨nb, 1, none⟩ = some (.int .i64 fl) := fun w' h => (NB2.ext h).cell 1
 have k5 : ∀ w', Later W1 w' → w'.cell? ⟨nb, 2, none⟩ = some (.pointer L) := fun w' h => (NB2.ext h).cell 2
 have ks := Later.refl W1
 go_cut [14] (fun v wx => v = .int .i64 (ra : Int) ∧ Ext W1 wx)
 case first =>
  go_region_held3 (fun w' => Later W1 w') ((repeat (first | (with_reducible assumption) | (with_reducible apply Later.drew) | (with_reducible apply Later.drewN) | (with_reducible refine Later.step ?_ (by with_reducible assumption))))) (first
   | (go_at_call 59; (with_reducible refine (q8j _ p V fl false _ (qga.ext hx2 eBx) hval hv hf).mono ?_); rintro e wa ⟨y1, rfl, hy1, hxa⟩; (have hEa : Ext W1 wa := Ext.trans eBx hxa); (have hLa : Later W1 wa := hEa))
   | (go_at_call 19; (with_reducible refine (HH1.out _ y1 (Ext.trans hE1 (Ext.trans hEa eBx)) (qga.ext hy1 eBx)).mono ?_); rintro e wb ⟨rfl, hxb⟩; (have hEb : Ext W1 wb := Ext.trans hEa (Ext.trans eBx hxb)); (have hLb : Later W1 wb := hEb))
   )
  all_goals (
   go_wp2_with fail
   go_meet
   exact ⟨rfl, hEb⟩)
 case rest =>
 obtain ⟨rfl, hxc⟩ := hcut
 rename_i hK
 refine hK _ _ ?_
 clear hK k1 k2 k3 k4 k5 ks
 have NB3 := NB2.ext hxc
 have PB3 := PB2.ext hxc
 have hx3 := hx2.ext hxc
 have hE2 := hE1.trans hxc
 have k1 : ∀ w', Later wc w' → w'.cell? ⟨pb, 0, none⟩ = some (.slice Ao p.n co) := fun w' h => (PB3.ext h).c0
 have k2 : ∀ w', Later wc w' → w'.cell? ⟨pb, 1, none⟩ = some (.slice Ar p.m cr) := fun w' h => (PB3.ext h).c1
 have k3 : ∀ w', Later wc w' → w'.cell? ⟨nb, 0, none⟩ = some (.int .i64 (V : Int)) := fun w' h => (NB3.ext h).cell 0
 have k4 : ∀ w', Later wc w' → w'.cell? ⟨nb, 1, none⟩ = some (.int .i64 fl) := fun w' h => (NB3.ext h).cell 1
 have k5 : ∀ w', Later wc w' → w'.cell? ⟨nb, 3, none⟩ = some (.pointer H) := fun w' h => (NB3.ext h).cell 3
 have ks := Later.refl wc
 go_upto_region 24 with fail
 go_cut [15] (fun v wx => v = .int .i64 (rb : Int) ∧ Ext wc wx)
 case first =>
  go_region_held3 (fun w' => Later wc w') ((repeat (first | (with_reducible assumption) | (with_reducible apply Later.drew) | (with_reducible apply Later.drewN) | (with_reducible refine Later.step ?_ (by with_reducible assumption))))) (first
   | (go_at_call 59; (with_reducible refine (q8j _ p V fl true _ (qga.ext hx3 eBx) hval hv hf).mono ?_); rintro e wa ⟨y1, rfl, hy1, hxa⟩; (have hEa : Ext wc wa := Ext.trans eBx hxa); (have hLa : Later wc wa := hEa))
   | (go_at_call 19; (with_reducible refine (HH2.out _ y1 (Ext.trans hE2 (Ext.trans hEa eBx)) (qga.ext hy1 eBx)).mono ?_); rintro e wb ⟨rfl, hxb⟩; (have hEb : Ext wc wb := Ext.trans hEa (Ext.trans eBx hxb)); (have hLb : Later wc wb := hEb))
   )
  all_goals (
   go_wp2_with fail
   go_meet
   exact ⟨rfl, hEb⟩)
 case rest =>
 obtain ⟨rfl, hxd⟩ := hcut
 rename_i hK
 refine hK _ _ ?_
 clear hK k1 k2 k3 k4 k5 ks
 have hE3 := hE2.trans hxd
 go_wp2_with fail
 go_ret
 exact ⟨by rw [HM.out] <;> rfl, hE3⟩
set_option maxHeartbeats 16000000 in
theorem prove_lf (x : Value) (p : Prob) (z : Int) (dpt nb M Ky T : Nat) (hT1 : 1 + 300 * (7 + Ky) ≤ T) (hT2 : T ≤ 100000000000) (em : Bool) (Y : Option Addr) (n c : Nat) (y : Nat → Rat) (w : World) (hx : qga w x p) (hcan : CanC p M) (hz : fit z = true) (NB : Box w nb 79 (q89 (-1) 0 none none em Y n c)) (hY : q94 w Y n c y) (hq : ∀ j, j < n → QB Ky (y j)) (hnm : n = p.m) (hdp : dpt ≤ 200) :
 Calls Tryz.prog 19 #[x, .int .i64 z, .pointer (some ⟨nb, 0, none⟩), .int .i64 (dpt : Int)] w (qjz w (.int .i64 (lfN z p em n y : Int))) := by
 obtain ⟨z1, z2⟩ := fit_iff.1 hz
 obtain ⟨R, hR⟩ : ∃ R : Int, R = (lfN z p em n y : Int) := ⟨_, rfl⟩
 rw [← hR]
 have HR := Lib.hid hR
 have HC := Lib.hid hcan
 have HQ := Lib.hid hq
 have HNM := Lib.hid hnm
 have hT : 1 + p.m * (3 + 3 + Ky + 1) ≤ T := by
  have h1 := hcan.lim
  have h2 := hcan.m
  have := Nat.mul_le_mul (show p.m ≤ 300 by omega) (show 3 + 3 + Ky + 1 ≤ 7 + Ky by omega)
  omega
 have e5 : ((n : Int) != (p.m : Int)) = false := by simp [hnm]
 clear hR hcan hq hnm hz
 obtain ⟨Ao, co, Ar, cr, rfl, -⟩ := id hx
 have PB := Box.new w 41 #[.slice Ao p.n co, .slice Ar p.m cr]
 have hE0 : Ext w (w.alloc (.cells #[.slice Ao p.n co, .slice Ar p.m cr] 41)) := (Ext.refl w).alloc _
 have hnl : ∀ W, (binOp BinOp.eql 25 (.pointer (some ⟨nb, 0, none⟩)) (.pointer none)).run Tryz.prog W = .ok (.bool false) W := fun _ => by kernel_rfl
 have hnx : ∀ W x, (binOp BinOp.neq 25 (.pointer (some ⟨x, 0, none⟩)) (.pointer none)).run Tryz.prog W = .ok (.bool true) W := fun _ _ => by kernel_rfl
 have hnn : ∀ W, (binOp BinOp.neq 25 (.pointer none) (.pointer none)).run Tryz.prog W = .ok (.bool false) W := fun _ => by kernel_rfl
 have e200 : decide ((200 : Int) < (dpt : Int)) = false := by simp; omega
 go_enter Tryz.func19, Tryz.ntmps19
 go_upto_region 1 with fail
 generalize (w.alloc (.cells #[.slice Ao p.n co, .slice Ar p.m cr] 41)) = V0 at *
 obtain ⟨pb, hpb⟩ : ∃ x, x = w.heap.size := ⟨_, rfl⟩
 rw [← hpb] at PB ⊢
 clear hpb
 have NB1 := NB.ext hE0
 have hxV := hx.ext hE0
 have q0 := PB.c0
 have q1 := PB.c1
 have t0 : V0.cell? ⟨nb, 0, none⟩ = some (.int .i64 (-1)) := NB1.cell 0
 have t1 : V0.cell? ⟨nb, 1, none⟩ = some (.int .i64 0) := NB1.cell 1
 have t2 : V0.cell? ⟨nb, 2, none⟩ = some (.pointer none) := NB1.cell 2
 have t3 : V0.cell? ⟨nb, 3, none⟩ = some (.pointer none) := NB1.cell 3
 have t5 : V0.cell? ⟨nb, 5, none⟩ = some (.slice Y n c) := NB1.cell 5
 go_upto_region 4 with fail
 clear hnl e200 t0
 go_quiet (fail)
 generalize hWW : World.drewN V0 _ = W1
 have hX1 : Ext V0 W1 := by rw [← hWW]; exact (Ext.refl V0).drewN _
 clear hWW t1 t2 t3 t5 q0 q1
 have NB2 := NB1.ext hX1
 have PB2 := PB.ext hX1
 have hx2 := hxV.ext hX1
 have hE1 := hE0.trans hX1
 have hY2 := hY.ext hE1
 clear NB1 PB hxV hX1 NB hE0 hx e5
 have t4 : W1.cell? ⟨nb, 4, none⟩ = some (.bool em) := NB2.cell 4
 cases em with
 | true =>
   have HRE : Hid (R = if empB p n y = true then 0 else 1) := Lib.hid (by rw [HR.out]; unfold lfN; rw [if_pos rfl]; split <;> rfl)
   obtain ⟨F, hF⟩ : ∃ F, F = empB p n y := ⟨_, rfl⟩
   rw [← hF] at HRE
   have HF := Lib.hid hF
   have HCE : Hid (∀ W, Ext W1 W → Calls Tryz.prog 55 #[.agg #[.slice Ao p.n co, .slice Ar p.m cr], .slice Y n c] W (qjz W (.bool F))) := Lib.hid (fun W hW => by
    rw [HF.out]
    exact Empty_b _ p Y n c y 3 3 Ky T W (hx2.ext hW) (hY2.ext hW) HC.out.coef HC.out.right HQ.out hT (by omega) (by omega))
   clear hF
   go_upto_region 7 with fail
   clear t4
   have k1 : ∀ w', Later W1 w' → w'.cell? ⟨pb, 0, none⟩ = some (.slice Ao p.n co) := fun w' h => (PB2.ext h).c0
   have k2 : ∀ w', Later W1 w' → w'.cell? ⟨pb, 1, none⟩ = some (.slice Ar p.m cr) := fun w' h => (PB2.ext h).c1
   have k5 : ∀ w', Later W1 w' → w'.cell? ⟨nb, 5, none⟩ = some (.slice Y n c) := fun w' h => (NB2.ext h).cell 5
   have ks := Later.refl W1
   cases F with
   | true =>
     have hRR : R = 0 := by rw [HRE.out, if_pos rfl]
     go_region_held3 (fun w' => Later W1 w') ((repeat (first | (with_reducible assumption) | (with_reducible apply Later.drew) | (with_reducible apply Later.drewN) | (with_reducible refine Later.step ?_ (by with_reducible assumption))))) (first
      | (go_at_call 55; (with_reducible refine (HCE.out _ eBx).mono ?_); rintro e wo ⟨rfl, hxo⟩; (have hLo : Later W1 wo := by repeat (first | (with_reducible assumption) | (with_reducible apply Later.drew) | (with_reducible apply Later.drewN) | (with_reducible refine Later.step ?_ (by with_reducible assumption)))))
      )
     all_goals (
      clear k1 k2 k5
      go_wp2_with fail
      go_ret
      exact ⟨by first | rfl | (rw [hRR] <;> rfl), Ext.trans hE1 hLo⟩)
   | false =>
     have hRR : R = 1 := by rw [HRE.out, if_neg (by decide)]
     go_region_held3 (fun w' => Later W1 w') ((repeat (first | (with_reducible assumption) | (with_reducible apply Later.drew) | (with_reducible apply Later.drewN) | (with_reducible refine Later.step ?_ (by with_reducible assumption))))) (first
      | (go_at_call 55; (with_reducible refine (HCE.out _ eBx).mono ?_); rintro e wo ⟨rfl, hxo⟩; (have hLo : Later W1 wo := by repeat (first | (with_reducible assumption) | (with_reducible apply Later.drew) | (with_reducible apply Later.drewN) | (with_reducible refine Later.step ?_ (by with_reducible assumption)))))
      )
     all_goals (
      clear k1 k2 k5
      go_wp2_with fail
      go_ret
      exact ⟨by first | rfl | (rw [hRR] <;> rfl), Ext.trans hE1 hLo⟩)
 | false =>
 obtain ⟨B, hB⟩ : ∃ B, B = q42 p n y (z : Rat) := ⟨_, rfl⟩
 obtain ⟨I, hI⟩ : ∃ I, I = alZ p.obj p.n := ⟨_, rfl⟩
 obtain ⟨r, hr⟩ : ∃ r, r = p.rhs y := ⟨_, rfl⟩
 obtain ⟨D, hD⟩ : ∃ D, D = decide (r < (z : Rat) + ((1 : Int) : Rat)) := ⟨_, rfl⟩
 obtain ⟨C, hC⟩ : ∃ C, C = q42 p n y r := ⟨_, rfl⟩
 have HRE : Hid (R = if B = true then 0 else if (I && (D && C)) = true then 0 else 1) := Lib.hid (by
  rw [HR.out, hB, hI, hD, hC, hr]
  unfold lfN
  rw [if_neg (by decide)]
  cases q42 p n y (z : Rat) with
  | true => rfl
  | false =>
    simp only [Bool.false_eq_true, if_false, Bool.and_eq_true, decide_eq_true_eq]
    split <;> rfl)
 have HLB : Hid (∀ W vz, Ext W1 W → RatB W vz (z : Rat) 3 → Calls Tryz.prog 30 #[.agg #[.slice Ao p.n co, .slice Ar p.m cr], vz, .slice Y n c] W (qjz W (.bool B))) := Lib.hid (fun W vz hW hzz => by
  rw [hB]
  exact Leaf_b _ p vz (z : Rat) Y n c y 3 3 3 Ky 3 T W (hx2.ext hW) hzz (hY2.ext hW) HC.out.coef HC.out.right HC.out.obj HQ.out hT (by omega) (by omega) (by omega) (by omega))
 have HLR0 : Hid (∀ W vz, Ext W1 W → RatB W vz r T → Calls Tryz.prog 30 #[.agg #[.slice Ao p.n co, .slice Ar p.m cr], vz, .slice Y n c] W (qjz W (.bool C))) := Lib.hid (fun W vz hW hzz => by
  rw [hC]
  exact Leaf_b _ p vz r Y n c y 3 3 3 Ky T T W (hx2.ext hW) hzz (hY2.ext hW) HC.out.coef HC.out.right HC.out.obj HQ.out hT (by omega) (by omega) (by omega) (by omega))
 have HCB0 : Hid (∀ W, Ext W1 W → Calls Tryz.prog 58 #[.agg #[.slice Ao p.n co, .slice Ar p.m cr], .slice Y n c] W (fun e w' => ∃ Al cl q A n c q' A' n' c', e = .returned (.tuple #[.slice Al p.n cl, .agg #[.bool q, .slice A n c, .bool q', .slice A' n' c'], .bool (sgB p y p.m)]) ∧ qjq w' W.heap.size Al p.n cl (p.left y) ∧ RatB w' (.agg #[.bool q, .slice A n c, .bool q', .slice A' n' c']) r T ∧ (∀ j, j < p.n → QB T (p.left y j)) ∧ Ext W w')) := Lib.hid (fun W hW => by
  rw [hr]
  exact qi9 _ p Y n c y 3 3 Ky T W (hx2.ext hW) HC.out.val (hY2.ext hW) HNM.out HC.out.coef HC.out.right HQ.out hT (by omega) (by omega))
 have HII := Lib.hid hI
 have HDD := Lib.hid hD
 clear hB hI hD hC hr
 have hpn : p.n ≤ 6 := HC.out.n
 go_upto_region 11 with fail
 clear t4
 have hob0 := hx2.objC
 go_wp2_with fail
 go_loopw [9, 10] (fun v9 i wr => ∃ j : Nat, j ≤ p.n ∧ i = .int .i64 j ∧ v9 = .bool (alZ p.obj j) ∧ Ext W1 wr) (fun _ i _ => p.n - (intOf i).toNat)
 case atStart => exact ⟨0, by omega, rfl, rfl, Ext.refl _⟩
 case round =>
  obtain ⟨j, hj, rfl, hv9, hXr⟩ := hrel
  have PBr := PB2.ext hXr
  have hob := hob0.ext hXr
  have hoc := hob.1
  have q0 := PBr.c0
  obtain ⟨S, hS⟩ : ∃ S, S = alZ p.obj j := ⟨_, rfl⟩
  rw [← hS] at hv9
  subst hv9
  have HS := Lib.hid hS
  clear hS
  by_cases hlt : j < p.n
  ·obtain ⟨qo, rfl, hqo⟩ := hob.2.2 (by omega)
   obtain ⟨p6, A6, m6, c6, p6', A6', m6', c6', o0, o1, o2, o3, hro⟩ := hqo.at hlt
   obtain ⟨QO, hQO⟩ : ∃ q, q = p.obj j := ⟨_, rfl⟩
   rw [← hQO] at hro
   have hoB : RatB wr _ QO 3 := ⟨hro, by rw [hQO]; exact HC.out.obj j hlt⟩
   have HN1 : Hid (alZ p.obj (j + 1) = (S && decide (QO.den = 1))) := Lib.hid (by show (alZ p.obj j && decide ((p.obj j).den = 1)) = _; rw [HS.out, hQO])
   clear hQO
   have i1 : (0 : Int) ≤ (j : Int) := by omega
   have i2 : (j : Int) < (p.n : Int) := by omega
   go_upto_region 14 with fail
   clear q0
   ·have ks := Later.refl wr
    cases S with
    | false =>
      refine wp_region_held_drew (S := fun w' => Later wr w') (by kernel_rfl) ?_ (fun hHeld => ?_)
      ·(try dsimp only); exact kLx
      refine wpAnyH_take (i := 0) (oi := ⟨some 74, .move (.tmp 9), 4, "law.go:186", #[], none⟩) (v := ?_) rfl (by kernel_rfl) (by kernel_rfl) (by kernel_rfl) (fun _ _ _ h => h) (Or.inl ⟨by rfl, ?_⟩) (by assumption) ?_
      rotate_left
      ·intro w hSw; (try dsimp only at hSw); go_simp; try (with_reducible rfl)
      try simp only [Act.put, sqa, sqb, sqc]
      refine wpAnyH_take (i := 1) (oi := ⟨some 75, .move (.tmp 74), 4, "law.go:186", #[⟨0, .data⟩], none⟩) (v := ?_) rfl (by kernel_rfl) (by kernel_rfl) (by kernel_rfl) (fun _ _ _ h => h) (Or.inl ⟨by rfl, ?_⟩) (by assumption) ?_
      rotate_left
      ·intro w hSw; (try dsimp only at hSw); go_simp; try (with_reducible rfl)
      try simp only [Act.put, sqa, sqb, sqc]
      refine wpAnyH_take (i := 2) (oi := ⟨some 76, .fieldAddr 41 (.tmp 4) 0, 0, "law.go:186", #[⟨1, .guard⟩], some (1, true)⟩) (v := undef) rfl (by kernel_rfl) (by kernel_rfl) (by kernel_rfl) (fun _ _ _ h => h) (Or.inr ⟨by rfl, rfl⟩) (by assumption) ?_
      try simp only [Act.put, sqa, sqb, sqc]
      refine wpAnyH_take (i := 3) (oi := ⟨some 77, .load 38 (.tmp 76), 38, "law.go:186", #[⟨2, .data⟩, ⟨1, .guard⟩], some (1, true)⟩) (v := undef) rfl (by kernel_rfl) (by kernel_rfl) (by kernel_rfl) (fun _ _ _ h => h) (Or.inr ⟨by rfl, rfl⟩) (by assumption) ?_
      try simp only [Act.put, sqa, sqb, sqc]
      refine wpAnyH_take (i := 4) (oi := ⟨some 78, .move (.tmp 10), 3, "law.go:186", #[⟨1, .guard⟩], some (1, true)⟩) (v := undef) rfl (by kernel_rfl) (by kernel_rfl) (by kernel_rfl) (fun _ _ _ h => h) (Or.inr ⟨by rfl, rfl⟩) (by assumption) ?_
      try simp only [Act.put, sqa, sqb, sqc]
      refine wpAnyH_take (i := 5) (oi := ⟨some 79, .indexAddr 38 (.tmp 77) (.tmp 78), 0, "law.go:186", #[⟨3, .data⟩, ⟨4, .data⟩, ⟨1, .guard⟩], some (1, true)⟩) (v := undef) rfl (by kernel_rfl) (by kernel_rfl) (by kernel_rfl) (fun _ _ _ h => h) (Or.inr ⟨by rfl, rfl⟩) (by assumption) ?_
      try simp only [Act.put, sqa, sqb, sqc]
      refine wpAnyH_take (i := 6) (oi := ⟨some 80, .load 58 (.tmp 79), 58, "law.go:186", #[⟨5, .data⟩, ⟨1, .guard⟩], some (1, true)⟩) (v := undef) rfl (by kernel_rfl) (by kernel_rfl) (by kernel_rfl) (fun _ _ _ h => h) (Or.inr ⟨by rfl, rfl⟩) (by assumption) ?_
      try simp only [Act.put, sqa, sqb, sqc]
      refine wpAnyH_take (i := 7) (oi := ⟨some 81, .call { callee := Callee.value (.func 56), args := #[.tmp 80], argTypes := #[58] }, 56, "law.go:186", #[⟨6, .data⟩, ⟨1, .chain⟩, ⟨1, .guard⟩], some (1, true)⟩) (v := undef) rfl (by kernel_rfl) (by kernel_rfl) (by kernel_rfl) (fun _ _ _ h => h) (Or.inr ⟨by rfl, rfl⟩) (by assumption) ?_
      try simp only [Act.put, sqa, sqb, sqc]
      refine wpAnyH_take (i := 8) (oi := ⟨some 82, .fieldAddr 41 (.tmp 4) 0, 0, "law.go:186", #[⟨1, .guard⟩], some (1, true)⟩) (v := undef) rfl (by kernel_rfl) (by kernel_rfl) (by kernel_rfl) (fun _ _ _ h => h) (Or.inr ⟨by rfl, rfl⟩) (by assumption) ?_
      try simp only [Act.put, sqa, sqb, sqc]
      refine wpAnyH_take (i := 9) (oi := ⟨some 83, .load 38 (.tmp 82), 38, "law.go:186", #[⟨8, .data⟩, ⟨1, .guard⟩], some (1, true)⟩) (v := undef) rfl (by kernel_rfl) (by kernel_rfl) (by kernel_rfl) (fun _ _ _ h => h) (Or.inr ⟨by rfl, rfl⟩) (by assumption) ?_
      try simp only [Act.put, sqa, sqb, sqc]
      refine wpAnyH_take (i := 10) (oi := ⟨some 84, .move (.tmp 10), 3, "law.go:186", #[⟨1, .guard⟩], some (1, true)⟩) (v := undef) rfl (by kernel_rfl) (by kernel_rfl) (by kernel_rfl) (fun _ _ _ h => h) (Or.inr ⟨by rfl, rfl⟩) (by assumption) ?_
      try simp only [Act.put, sqa, sqb, sqc]
      refine wpAnyH_take (i := 11) (oi := ⟨some 85, .indexAddr 38 (.tmp 83) (.tmp 84), 0, "law.go:186", #[⟨9, .data⟩, ⟨10, .data⟩, ⟨1, .guard⟩], some (1, true)⟩) (v := undef) rfl (by kernel_rfl) (by kernel_rfl) (by kernel_rfl) (fun _ _ _ h => h) (Or.inr ⟨by rfl, rfl⟩) (by assumption) ?_
      try simp only [Act.put, sqa, sqb, sqc]
      refine wpAnyH_take (i := 12) (oi := ⟨some 86, .load 58 (.tmp 85), 58, "law.go:186", #[⟨11, .data⟩, ⟨1, .guard⟩], some (1, true)⟩) (v := undef) rfl (by kernel_rfl) (by kernel_rfl) (by kernel_rfl) (fun _ _ _ h => h) (Or.inr ⟨by rfl, rfl⟩) (by assumption) ?_
      try simp only [Act.put, sqa, sqb, sqc]
      refine wpAnyH_take (i := 13) (oi := ⟨some 87, .call { callee := Callee.value (.func 57), args := #[.tmp 86], argTypes := #[58] }, 56, "law.go:186", #[⟨12, .data⟩, ⟨7, .chain⟩, ⟨1, .guard⟩], some (1, true)⟩) (v := undef) rfl (by kernel_rfl) (by kernel_rfl) (by kernel_rfl) (fun _ _ _ h => h) (Or.inr ⟨by rfl, rfl⟩) (by assumption) ?_
      try simp only [Act.put, sqa, sqb, sqc]
      refine wpAnyH_take (i := 14) (oi := ⟨some 88, .call { callee := Callee.value (.func 45), args := #[.tmp 81, .tmp 87], argTypes := #[56, 56] }, 3, "law.go:186", #[⟨7, .data⟩, ⟨13, .data⟩, ⟨13, .chain⟩, ⟨1, .guard⟩], some (1, true)⟩) (v := undef) rfl (by kernel_rfl) (by kernel_rfl) (by kernel_rfl) (fun _ _ _ h => h) (Or.inr ⟨by rfl, rfl⟩) (by assumption) ?_
      try simp only [Act.put, sqa, sqb, sqc]
      refine wpAnyH_take (i := 15) (oi := ⟨some 89, .binOp BinOp.eql 3 (.tmp 88) (.const (Value.int IntKind.i64 0)) 3, 4, "law.go:186", #[⟨14, .data⟩, ⟨1, .guard⟩], some (1, true)⟩) (v := undef) rfl (by kernel_rfl) (by kernel_rfl) (by kernel_rfl) (fun _ _ _ h => h) (Or.inr ⟨by rfl, rfl⟩) (by assumption) ?_
      try simp only [Act.put, sqa, sqb, sqc]
      refine wpAnyH_take (i := 16) (oi := ⟨some 90, .pick (.tmp 75) (.tmp 89) (.const (Value.bool false)), 4, "law.go:186", #[⟨1, .data⟩, ⟨15, .data⟩], none⟩) (v := ?_) rfl (by kernel_rfl) (by kernel_rfl) (by kernel_rfl) (fun _ _ _ h => h) (Or.inl ⟨by rfl, ?_⟩) (by assumption) ?_
      rotate_left
      ·intro w hSw; (try dsimp only at hSw); go_simp; try (with_reducible rfl)
      try simp only [Act.put, sqa, sqb, sqc]
      refine wpAnyH_take (i := 17) (oi := ⟨some 9, .assign (.tmp 90), 4, "law.go:186", #[⟨16, .data⟩, ⟨14, .chain⟩, ⟨0, .phase⟩, ⟨1, .phase⟩, ⟨2, .phase⟩, ⟨3, .phase⟩, ⟨4, .phase⟩, ⟨5, .phase⟩, ⟨6, .phase⟩, ⟨7, .phase⟩, ⟨8, .phase⟩, ⟨9, .phase⟩, ⟨10, .phase⟩, ⟨11, .phase⟩, ⟨12, .phase⟩, ⟨13, .phase⟩, ⟨14, .phase⟩, ⟨15, .phase⟩, ⟨16, .phase⟩], none⟩) (v := ?_) rfl (by kernel_rfl) (by kernel_rfl) (by kernel_rfl) (fun _ _ _ h => h) (Or.inl ⟨by rfl, ?_⟩) (by assumption) ?_
      rotate_left
      ·intro w hSw; (try dsimp only at hSw); go_simp; try (with_reducible rfl)
      try simp only [Act.put, sqa, sqb, sqc]
      refine wpAnyH_done (by kernel_rfl) ?_ _
      go_wp2_with fail
      go_roundw
      case rel => exact ⟨j + 1, by omega, by go_num, by rw [HN1.out]; rfl, by first | exact hXr | exact hXr.drew | exact hXr.drewN _ | exact hXr.drew.drewN _ | exact (hXr.drewN _).drew⟩
      case measure => simp [intOf]; omega
    | true =>
      obtain ⟨g, hg⟩ : ∃ g, g = cmpZ (q3f QO) (qak QO) := ⟨_, rfl⟩
      have HG1 := Lib.hid hg
      have HGE : Hid ((g == 0) = decide (QO.den = 1)) := Lib.hid (by rw [hg]; exact flce QO)
      clear hg
      have kp : ∀ w', Later wr w' → w'.cell? ⟨pb, 0, none⟩ = some (.slice (some ⟨qo, 0, none⟩) p.n co) := fun w' h => (PBr.ext h).c0
      have ko0 : ∀ w', Later wr w' → w'.cell? ⟨qo, j * 4, none⟩ = some _ := fun w' h => Ext.cell h o0
      have ko1 : ∀ w', Later wr w' → w'.cell? ⟨qo, j * 4 + 1, none⟩ = some _ := fun w' h => Ext.cell h o1
      have ko2 : ∀ w', Later wr w' → w'.cell? ⟨qo, j * 4 + 2, none⟩ = some _ := fun w' h => Ext.cell h o2
      have ko3 : ∀ w', Later wr w' → w'.cell? ⟨qo, j * 4 + 3, none⟩ = some _ := fun w' h => Ext.cell h o3
      clear o0 o1 o2 o3
      go_region_held3 (fun w' => Later wr w') ((repeat (first | (with_reducible assumption) | (with_reducible apply Later.drew) | (with_reducible apply Later.drewN) | (with_reducible refine Later.step ?_ (by with_reducible assumption))))) (first
       | (go_at_call 56; (with_reducible refine (qjc _ QO 3 _ (RatB.ext hoB eCx) (by decide)).mono ?_); rintro e wk ⟨vk, rfl, hbk, hxk⟩; (obtain ⟨pk, Ak, nk, ck, rfl⟩ := hbk.1.shape))
       | (go_at_call 57; (with_reducible refine (RatCeil_b _ QO 3 _ (RatB.ext hoB eCx) (by decide)).mono ?_); rintro e wl ⟨vl, rfl, hbl, hxl⟩; (obtain ⟨pl, Al, nl, cl, rfl⟩ := hbl.1.shape))
       | (go_at_call 45; (with_reducible refine (qc9 _ _ _ _ _ _ _ (BigB.ext hbk eCx) (BigB.ext hbl eBx)).mono ?_); rintro e wm ⟨rfl, hxm⟩; (rw [← HG1.out]); (have hLm : Later wr wm := by repeat (first | (with_reducible assumption) | (with_reducible apply Later.drew) | (with_reducible apply Later.drewN) | (with_reducible refine Later.step ?_ (by with_reducible assumption)))))
       )
      all_goals (
       have hXc : Ext W1 wm := Ext.trans hXr hLm
       go_wp2_with fail
       go_roundw
       case rel => exact ⟨j + 1, by omega, by go_num, by rw [HN1.out, ← HGE.out]; rfl, hXc⟩
       case measure => simp [intOf]; omega)
  ·obtain rfl : j = p.n := by omega
   obtain rfl : S = I := by rw [HS.out, HII.out]
   clear HS hob0 hob
   have NBr := NB2.ext hXr
   have hErr := hE1.trans hXr
   go_upto_region 15 with fail
   clear q0
   have k1 : ∀ w', Later wr w' → w'.cell? ⟨pb, 0, none⟩ = some (.slice Ao p.n co) := fun w' h => (PBr.ext h).c0
   have k2 : ∀ w', Later wr w' → w'.cell? ⟨pb, 1, none⟩ = some (.slice Ar p.m cr) := fun w' h => (PBr.ext h).c1
   have k5 : ∀ w', Later wr w' → w'.cell? ⟨nb, 5, none⟩ = some (.slice Y n c) := fun w' h => (NBr.ext h).cell 5
   have ks := Later.refl wr
   obtain ⟨TV, hTV⟩ : ∃ t : Value, t = .bool B := ⟨_, rfl⟩
   go_upto_if 98 with fail
   rename_i hK9
   go_cut [98] (fun v wx => v = .bool B ∧ Ext wr wx)
   case first =>
    go_region_held3 (fun w' => Later wr w') ((repeat (first | (with_reducible assumption) | (with_reducible apply Later.drew) | (with_reducible apply Later.drewN) | (with_reducible refine Later.step ?_ (by with_reducible assumption))))) (first
     | (go_at_call 20; (with_reducible refine (qfw z _ z1 z2).mono ?_); rintro e wk ⟨vk, rfl, hbk, hxk⟩; (obtain ⟨pk, Ak, nk, ck, pk', Ak', nk', ck', rfl⟩ := hbk.1.shape))
     | (go_at_call 30; (with_reducible refine (HLB.out _ _ (by repeat (first | (with_reducible exact hXr) | (with_reducible apply Ext.drew) | (with_reducible apply Ext.drewN) | (with_reducible refine Ext.trans ?_ (by with_reducible assumption)))) (RatB.ext (RatB.upC hbk (by omega)) eBx)).mono ?_); rintro e wo ⟨rfl, hxo⟩; (have hLo : Later wr wo := by repeat (first | (with_reducible assumption) | (with_reducible apply Later.drew) | (with_reducible apply Later.drewN) | (with_reducible refine Later.step ?_ (by with_reducible assumption)))))
     )
    all_goals (
     go_wp2_with fail
     go_meet
     exact ⟨rfl, hLo⟩)
   case rest =>
   obtain ⟨rfl, hxc⟩ := hcut
   refine hK9 _ _ ?_
   clear hK9 k1 k2 k5 ks hTV
   have hE2 := hErr.trans hxc
   cases B with
   | true =>
     have hRR : R = 0 := by rw [HRE.out, if_pos rfl]
     go_wp2_with fail
     go_ret
     exact ⟨by first | rfl | (rw [hRR] <;> rfl), hE2⟩
   | false =>
   have HRES0 : Hid (R = if (S && (D && C)) = true then 0 else 1) := Lib.hid (by rw [HRE.out, if_neg (by decide)])
   clear HRE
   have PB3 := PBr.ext hxc
   have NB3 := NBr.ext hxc
   have hX3 := hXr.trans hxc
   clear PBr NBr hXr hxc hErr
   obtain ⟨W2, hW2⟩ : ∃ W, W = wc := ⟨_, rfl⟩
   rw [← hW2] at PB3 NB3 hX3 hE2 ⊢
   clear hW2
   have HCB : Hid (∀ W, Ext W2 W → _) := Lib.hid (fun W hW => HCB0.out W (hX3.trans hW))
   have k1 : ∀ w', Later W2 w' → w'.cell? ⟨pb, 0, none⟩ = some (.slice Ao p.n co) := fun w' h => (PB3.ext h).c0
   have k2 : ∀ w', Later W2 w' → w'.cell? ⟨pb, 1, none⟩ = some (.slice Ar p.m cr) := fun w' h => (PB3.ext h).c1
   have k5 : ∀ w', Later W2 w' → w'.cell? ⟨nb, 5, none⟩ = some (.slice Y n c) := fun w' h => (NB3.ext h).cell 5
   go_upto_region 17 with fail
   go_cut [12] (fun v wx => ∃ (bR : Nat) (x1 : Bool) (X2 : Option Addr) (n2 c2 : Nat) (x3 : Bool) (X4 : Option Addr) (n4 c4 : Nat), v = .pointer (some ⟨bR, 0, none⟩) ∧ Box wx bR 58 #[.bool x1, .slice X2 n2 c2, .bool x3, .slice X4 n4 c4] ∧ RatB wx (.agg #[.bool x1, .slice X2 n2 c2, .bool x3, .slice X4 n4 c4]) r T ∧ Ext W2 wx)
   case first =>
    refine wp_region_held_drew (S := fun w' => Later W2 w') (by kernel_rfl) ?_ (fun hHeld => ?_)
    ·exact (Later.refl W2).drew
    have hE : Ext W2 W2.drew := (Ext.refl W2).drew
    generalize W2.drew = Z1 at *
    refine wpAnyH_take (i := 0) (oi := ⟨some 100, .load 41 (.tmp 4), 41, "law.go:191", #[], none⟩) (v := ?_) rfl (by kernel_rfl) (by kernel_rfl) (by kernel_rfl) (fun _ _ _ h => h) (Or.inl ⟨by rfl, ?_⟩) (by assumption) ?_
    rotate_left
    ·intro w hSw; (try dsimp only at hSw); go_simp; try (with_reducible rfl)
    try simp only [Act.put, sqa, sqb, sqc]
    refine wpAnyH_take (i := 1) (oi := ⟨some 101, .move (.tmp 2), 25, "law.go:191", #[], none⟩) (v := ?_) rfl (by kernel_rfl) (by kernel_rfl) (by kernel_rfl) (fun _ _ _ h => h) (Or.inl ⟨by rfl, ?_⟩) (by assumption) ?_
    rotate_left
    ·intro w hSw; (try dsimp only at hSw); go_simp; try (with_reducible rfl)
    try simp only [Act.put, sqa, sqb, sqc]
    refine wpAnyH_take (i := 2) (oi := ⟨some 102, .nilCheck (.tmp 101), 0, "law.go:191", #[⟨1, .data⟩], none⟩) (v := ?_) rfl (by kernel_rfl) (by kernel_rfl) (by kernel_rfl) (fun _ _ _ h => h) (Or.inl ⟨by rfl, ?_⟩) (by assumption) ?_
    rotate_left
    ·intro w hSw; (try dsimp only at hSw); go_simp; try (with_reducible rfl)
    try simp only [Act.put, sqa, sqb, sqc]
    refine wpAnyH_take (i := 3) (oi := ⟨some 103, .fieldAddr 79 (.tmp 102) 5, 0, "law.go:191", #[⟨2, .data⟩], none⟩) (v := ?_) rfl (by kernel_rfl) (by kernel_rfl) (by kernel_rfl) (fun _ _ _ h => h) (Or.inl ⟨by rfl, ?_⟩) (by assumption) ?_
    rotate_left
    ·intro w hSw; (try dsimp only at hSw); go_simp; try (with_reducible rfl)
    try simp only [Act.put, sqa, sqb, sqc]
    refine wpAnyH_take (i := 4) (oi := ⟨some 104, .load 38 (.tmp 103), 38, "law.go:191", #[⟨3, .data⟩], none⟩) (v := ?_) rfl (by kernel_rfl) (by kernel_rfl) (by kernel_rfl) (fun _ _ _ h => h) (Or.inl ⟨by rfl, ?_⟩) (by assumption) ?_
    rotate_left
    ·intro w hSw; (try dsimp only at hSw); go_simp; try (with_reducible rfl)
    try simp only [Act.put, sqa, sqb, sqc]
    refine wpAnyH_ready (rs := [5, 10]) (by kernel_rfl) (by simp) ?_
    refine AllReadyH.cons (o := pk5) rfl (fun K hK => ?_) ?_
    ·unfold pk5
     go_simp
     go_at_call 58
     refine (HCB.out Z1 (by first | exact hE | exact Ext.refl _)).mono ?_
     rintro e Z2 ⟨Al, cl, x1, X2, n2, c2, x3, X4, n4, c4, rfl, -, hqq, -, hx⟩
     have hE := hE.trans hx
     clear hx
     have hLt : Later W2 Z2 := hE
     try (go_wp2_with fail)
     refine hK.out _ _ hLt (fun hHeld => ?_)
     clear hK K hLt
     try simp only [Act.put, sqa, sqb, sqc]
     refine wpAnyH_take (i := 6) (oi := ⟨some 99, .move (.tmp 105), 120, "law.go:191", #[⟨5, .data⟩], none⟩) (v := ?_) rfl (by kernel_rfl) (by kernel_rfl) (by kernel_rfl) (fun _ _ _ h => h) (Or.inl ⟨by rfl, ?_⟩) (by assumption) ?_
     rotate_left
     ·intro w hSw; (try dsimp only at hSw); go_simp; try (with_reducible rfl)
     try simp only [Act.put, sqa, sqb, sqc]
     refine wpAnyH_take (i := 7) (oi := ⟨some 106, .extract (.tmp 99) 0, 38, "law.go:191", #[⟨6, .data⟩], none⟩) (v := ?_) rfl (by kernel_rfl) (by kernel_rfl) (by kernel_rfl) (fun _ _ _ h => h) (Or.inl ⟨by rfl, ?_⟩) (by assumption) ?_
     rotate_left
     ·intro w hSw; (try dsimp only at hSw); go_simp; try (with_reducible rfl)
     try simp only [Act.put, sqa, sqb, sqc]
     refine wpAnyH_take (i := 8) (oi := ⟨some 107, .extract (.tmp 99) 1, 58, "law.go:191", #[⟨6, .data⟩, ⟨11, .gcOnly .lateStores⟩], none⟩) (v := ?_) rfl (by kernel_rfl) (by kernel_rfl) (by kernel_rfl) (fun _ _ _ h => h) (Or.inl ⟨by rfl, ?_⟩) (by assumption) ?_
     rotate_left
     ·intro w hSw; (try dsimp only at hSw); go_simp; try (with_reducible rfl)
     try simp only [Act.put, sqa, sqb, sqc]
     refine wpAnyH_take (i := 9) (oi := ⟨some 108, .extract (.tmp 99) 2, 4, "law.go:191", #[⟨6, .data⟩, ⟨12, .gcOnly .lateStores⟩], none⟩) (v := ?_) rfl (by kernel_rfl) (by kernel_rfl) (by kernel_rfl) (fun _ _ _ h => h) (Or.inl ⟨by rfl, ?_⟩) (by assumption) ?_
     rotate_left
     ·intro w hSw; (try dsimp only at hSw); go_simp; try (with_reducible rfl)
     try simp only [Act.put, sqa, sqb, sqc]
     refine wpAnyH_ready (rs := [10]) (by kernel_rfl) (by simp) ?_
     refine AllReadyH.cons (o := pk10) rfl (fun K hK => ?_) ?_
     ·unfold pk10
      go_simp
      have RB := Box.new Z2 58 #[.bool false, .slice none 0 0, .bool false, .slice none 0 0]
      have hx : Ext Z2 (Z2.alloc (.cells #[.bool false, .slice none 0 0, .bool false, .slice none 0 0] 58)) := (Ext.refl Z2).alloc _
      generalize (Z2.alloc (.cells #[.bool false, .slice none 0 0, .bool false, .slice none 0 0] 58)) = Z3 at *
      obtain ⟨bR, hbR⟩ : ∃ x, x = Z2.heap.size := ⟨_, rfl⟩
      rw [← hbR] at RB ⊢
      have hwR : W2.heap.size ≤ bR := by have := hE.size; omega
      clear hbR
      have hqq := hqq.ext hx
      have hE := hE.trans hx
      clear hx
      have hLt : Later W2 Z3 := hE
      refine hK.out _ _ hLt (fun hHeld => ?_)
      clear hK K hLt
      try simp only [Act.put, sqa, sqb, sqc]
      refine wpAnyH_take (i := 11) (oi := ⟨some 11, .assign (.tmp 106), 38, "law.go:191", #[⟨7, .data⟩, ⟨5, .chain⟩, ⟨0, .phase⟩, ⟨1, .phase⟩, ⟨2, .phase⟩, ⟨3, .phase⟩, ⟨4, .phase⟩, ⟨5, .phase⟩, ⟨6, .phase⟩, ⟨7, .phase⟩, ⟨8, .textOnly .lateStores⟩, ⟨9, .textOnly .lateStores⟩, ⟨10, .phase⟩], none⟩) (v := ?_) rfl (by kernel_rfl) (by kernel_rfl) (by kernel_rfl) (fun _ _ _ h => h) (Or.inl ⟨by rfl, ?_⟩) (by assumption) ?_
      rotate_left
      ·intro w hSw; (try dsimp only at hSw); go_simp; try (with_reducible rfl)
      try simp only [Act.put, sqa, sqb, sqc]
      refine wpAnyH_ready (rs := [12]) (by kernel_rfl) (by simp) ?_
      refine AllReadyH.cons (o := pk12) rfl (fun K hK => ?_) ?_
      ·have y0 : Z3.cell? ⟨bR, 0, none⟩ = some _ := RB.cell 0
       have z0 := RB.frozen 0
       have y1 : Z3.cell? ⟨bR, 1, none⟩ = some _ := RB.cell 1
       have z1 := RB.frozen 1
       have y2 : Z3.cell? ⟨bR, 2, none⟩ = some _ := RB.cell 2
       have z2 := RB.frozen 2
       have y3 : Z3.cell? ⟨bR, 3, none⟩ = some _ := RB.cell 3
       have z3 := RB.frozen 3
       unfold pk12
       go_simp
       obtain ⟨hf, RB2⟩ := put4 RB (.bool x1) (.slice X2 n2 c2) (.bool x3) (.slice X4 n4 c4)
       have hqq := hf.ratB hqq
       have hE := hf.ext hE (fun b hb => by rw [hb]; exact hwR)
       clear hf y0 z0 y1 z1 y2 z2 y3 z3
       have RB := RB2
       clear RB2
       generalize ((((Z3.setCell ⟨bR, 0, none⟩ (.bool x1)).setCell ⟨bR, 1, none⟩ (.slice X2 n2 c2)).setCell ⟨bR, 2, none⟩ (.bool x3)).setCell ⟨bR, 3, none⟩ (.slice X4 n4 c4)) = Z4 at *
       have hLt : Later W2 Z4 := hE
       refine hK.out _ _ hLt (fun hHeld => ?_)
       clear hK K hLt
       try simp only [Act.put, sqa, sqb, sqc]
       refine wpAnyH_take (i := 13) (oi := ⟨some 13, .assign (.tmp 108), 4, "law.go:191", #[⟨9, .data⟩, ⟨12, .chain⟩, ⟨0, .phase⟩, ⟨1, .phase⟩, ⟨2, .phase⟩, ⟨3, .phase⟩, ⟨4, .phase⟩, ⟨5, .phase⟩, ⟨6, .phase⟩, ⟨7, .phase⟩, ⟨8, .phase⟩, ⟨9, .phase⟩, ⟨10, .phase⟩, ⟨11, .phase⟩, ⟨12, .phase⟩], none⟩) (v := ?_) rfl (by kernel_rfl) (by kernel_rfl) (by kernel_rfl) (fun _ _ _ h => h) (Or.inl ⟨by rfl, ?_⟩) (by assumption) ?_
       rotate_left
       ·intro w hSw; (try dsimp only at hSw); go_simp; try (with_reducible rfl)
       try simp only [Act.put, sqa, sqb, sqc]
       refine wpAnyH_done (by kernel_rfl) ?_ _
       go_wp2_with fail
       go_meet
       exact ⟨bR, x1, X2, n2, c2, x3, X4, n4, c4, rfl, RB, hqq, hE⟩
      exact AllReadyH.nil
     exact AllReadyH.nil
    refine AllReadyH.cons (o := pk10) rfl (fun K hK => ?_) ?_
    ·unfold pk10
     go_simp
     have RB := Box.new Z1 58 #[.bool false, .slice none 0 0, .bool false, .slice none 0 0]
     have hx : Ext Z1 (Z1.alloc (.cells #[.bool false, .slice none 0 0, .bool false, .slice none 0 0] 58)) := (Ext.refl Z1).alloc _
     generalize (Z1.alloc (.cells #[.bool false, .slice none 0 0, .bool false, .slice none 0 0] 58)) = Z5 at *
     obtain ⟨bR, hbR⟩ : ∃ x, x = Z1.heap.size := ⟨_, rfl⟩
     rw [← hbR] at RB ⊢
     have hwR : W2.heap.size ≤ bR := by have := hE.size; omega
     clear hbR
     have hE := hE.trans hx
     clear hx
     have hLt : Later W2 Z5 := hE
     refine hK.out _ _ hLt (fun hHeld => ?_)
     clear hK K hLt
     try simp only [Act.put, sqa, sqb, sqc]
     refine wpAnyH_ready (rs := [5]) (by kernel_rfl) (by simp) ?_
     refine AllReadyH.cons (o := pk5) rfl (fun K hK => ?_) ?_
     ·unfold pk5
      go_simp
      go_at_call 58
      refine (HCB.out Z5 (by first | exact hE | exact Ext.refl _)).mono ?_
      rintro e Z6 ⟨Al, cl, x1, X2, n2, c2, x3, X4, n4, c4, rfl, -, hqq, -, hx⟩
      have RB := RB.ext hx
      have hE := hE.trans hx
      clear hx
      have hLt : Later W2 Z6 := hE
      try (go_wp2_with fail)
      refine hK.out _ _ hLt (fun hHeld => ?_)
      clear hK K hLt
      try simp only [Act.put, sqa, sqb, sqc]
      refine wpAnyH_take (i := 6) (oi := ⟨some 99, .move (.tmp 105), 120, "law.go:191", #[⟨5, .data⟩], none⟩) (v := ?_) rfl (by kernel_rfl) (by kernel_rfl) (by kernel_rfl) (fun _ _ _ h => h) (Or.inl ⟨by rfl, ?_⟩) (by assumption) ?_
      rotate_left
      ·intro w hSw; (try dsimp only at hSw); go_simp; try (with_reducible rfl)
      try simp only [Act.put, sqa, sqb, sqc]
      refine wpAnyH_take (i := 7) (oi := ⟨some 106, .extract (.tmp 99) 0, 38, "law.go:191", #[⟨6, .data⟩], none⟩) (v := ?_) rfl (by kernel_rfl) (by kernel_rfl) (by kernel_rfl) (fun _ _ _ h => h) (Or.inl ⟨by rfl, ?_⟩) (by assumption) ?_
      rotate_left
      ·intro w hSw; (try dsimp only at hSw); go_simp; try (with_reducible rfl)
      try simp only [Act.put, sqa, sqb, sqc]
      refine wpAnyH_take (i := 8) (oi := ⟨some 107, .extract (.tmp 99) 1, 58, "law.go:191", #[⟨6, .data⟩, ⟨11, .gcOnly .lateStores⟩], none⟩) (v := ?_) rfl (by kernel_rfl) (by kernel_rfl) (by kernel_rfl) (fun _ _ _ h => h) (Or.inl ⟨by rfl, ?_⟩) (by assumption) ?_
      rotate_left
      ·intro w hSw; (try dsimp only at hSw); go_simp; try (with_reducible rfl)
      try simp only [Act.put, sqa, sqb, sqc]
      refine wpAnyH_take (i := 9) (oi := ⟨some 108, .extract (.tmp 99) 2, 4, "law.go:191", #[⟨6, .data⟩, ⟨12, .gcOnly .lateStores⟩], none⟩) (v := ?_) rfl (by kernel_rfl) (by kernel_rfl) (by kernel_rfl) (fun _ _ _ h => h) (Or.inl ⟨by rfl, ?_⟩) (by assumption) ?_
      rotate_left
      ·intro w hSw; (try dsimp only at hSw); go_simp; try (with_reducible rfl)
      try simp only [Act.put, sqa, sqb, sqc]
      refine wpAnyH_take (i := 11) (oi := ⟨some 11, .assign (.tmp 106), 38, "law.go:191", #[⟨7, .data⟩, ⟨5, .chain⟩, ⟨0, .phase⟩, ⟨1, .phase⟩, ⟨2, .phase⟩, ⟨3, .phase⟩, ⟨4, .phase⟩, ⟨5, .phase⟩, ⟨6, .phase⟩, ⟨7, .phase⟩, ⟨8, .textOnly .lateStores⟩, ⟨9, .textOnly .lateStores⟩, ⟨10, .phase⟩], none⟩) (v := ?_) rfl (by kernel_rfl) (by kernel_rfl) (by kernel_rfl) (fun _ _ _ h => h) (Or.inl ⟨by rfl, ?_⟩) (by assumption) ?_
      rotate_left
      ·intro w hSw; (try dsimp only at hSw); go_simp; try (with_reducible rfl)
      try simp only [Act.put, sqa, sqb, sqc]
      refine wpAnyH_ready (rs := [12]) (by kernel_rfl) (by simp) ?_
      refine AllReadyH.cons (o := pk12) rfl (fun K hK => ?_) ?_
      ·have y0 : Z6.cell? ⟨bR, 0, none⟩ = some _ := RB.cell 0
       have z0 := RB.frozen 0
       have y1 : Z6.cell? ⟨bR, 1, none⟩ = some _ := RB.cell 1
       have z1 := RB.frozen 1
       have y2 : Z6.cell? ⟨bR, 2, none⟩ = some _ := RB.cell 2
       have z2 := RB.frozen 2
       have y3 : Z6.cell? ⟨bR, 3, none⟩ = some _ := RB.cell 3
       have z3 := RB.frozen 3
       unfold pk12
       go_simp
       obtain ⟨hf, RB2⟩ := put4 RB (.bool x1) (.slice X2 n2 c2) (.bool x3) (.slice X4 n4 c4)
       have hqq := hf.ratB hqq
       have hE := hf.ext hE (fun b hb => by rw [hb]; exact hwR)
       clear hf y0 z0 y1 z1 y2 z2 y3 z3
       have RB := RB2
       clear RB2
       generalize ((((Z6.setCell ⟨bR, 0, none⟩ (.bool x1)).setCell ⟨bR, 1, none⟩ (.slice X2 n2 c2)).setCell ⟨bR, 2, none⟩ (.bool x3)).setCell ⟨bR, 3, none⟩ (.slice X4 n4 c4)) = Z7 at *
       have hLt : Later W2 Z7 := hE
       refine hK.out _ _ hLt (fun hHeld => ?_)
       clear hK K hLt
       try simp only [Act.put, sqa, sqb, sqc]
       refine wpAnyH_take (i := 13) (oi := ⟨some 13, .assign (.tmp 108), 4, "law.go:191", #[⟨9, .data⟩, ⟨12, .chain⟩, ⟨0, .phase⟩, ⟨1, .phase⟩, ⟨2, .phase⟩, ⟨3, .phase⟩, ⟨4, .phase⟩, ⟨5, .phase⟩, ⟨6, .phase⟩, ⟨7, .phase⟩, ⟨8, .phase⟩, ⟨9, .phase⟩, ⟨10, .phase⟩, ⟨11, .phase⟩, ⟨12, .phase⟩], none⟩) (v := ?_) rfl (by kernel_rfl) (by kernel_rfl) (by kernel_rfl) (fun _ _ _ h => h) (Or.inl ⟨by rfl, ?_⟩) (by assumption) ?_
       rotate_left
       ·intro w hSw; (try dsimp only at hSw); go_simp; try (with_reducible rfl)
       try simp only [Act.put, sqa, sqb, sqc]
       refine wpAnyH_done (by kernel_rfl) ?_ _
       go_wp2_with fail
       go_meet
       exact ⟨bR, x1, X2, n2, c2, x3, X4, n4, c4, rfl, RB, hqq, hE⟩
      exact AllReadyH.nil
     exact AllReadyH.nil
    exact AllReadyH.nil
   case rest =>
   obtain ⟨bR, x1, X2, n2, c2, x3, X4, n4, c4, rfl, RB, hr6, hxd⟩ := hcut
   rename_i hK
   refine hK _ _ ?_
   clear hK k1 k2 k5
   have PB4 := PB3.ext hxd
   have NB4 := NB3.ext hxd
   have hX4 := hX3.trans hxd
   have hE3 := hE2.trans hxd
   obtain ⟨W3, hW3⟩ : ∃ W, W = wc := ⟨_, rfl⟩
   rw [← hW3] at PB4 NB4 hX4 hE3 RB hr6 ⊢
   clear hW3 PB3 NB3 hX3 hE2 hxd HCB
   have HLR : Hid (∀ W, Ext W3 W → Calls Tryz.prog 30 #[.agg #[.slice Ao p.n co, .slice Ar p.m cr], .agg #[.bool x1, .slice X2 n2 c2, .bool x3, .slice X4 n4 c4], .slice Y n c] W (qjz W (.bool C))) := Lib.hid (fun W hW => HLR0.out W _ (hX4.trans hW) (hr6.ext hW))
   obtain ⟨g, hg⟩ : ∃ g, g = cmpQ r ((z : Rat) + ((1 : Int) : Rat)) := ⟨_, rfl⟩
   have HG1 := Lib.hid hg
   have HGD : Hid (D = true → g = -1) := Lib.hid (fun h => by
    rw [HDD.out, decide_eq_true_eq] at h
    rw [hg]
    rcases qq3 r ((z : Rat) + ((1 : Int) : Rat)) with ⟨-, h'⟩ | ⟨h', -⟩ | ⟨h', -⟩
    ·exact h'
    ·exact absurd h (by rw [h']; exact Rat.lt_irrefl)
    ·exact absurd h (Rat.not_lt.2 (Rat.le_of_lt h')))
   have HGN : Hid (D = false → decide (g < 0) = false) := Lib.hid (fun h => by
    rw [HDD.out, decide_eq_false_iff_not] at h
    rw [hg]
    rcases qq3 r ((z : Rat) + ((1 : Int) : Rat)) with ⟨h', -⟩ | ⟨-, h'⟩ | ⟨-, h'⟩
    ·exact absurd h' h
    ·rw [h']; rfl
    ·rw [h']; rfl)
   clear hg
   have k1 : ∀ w', Later W3 w' → w'.cell? ⟨pb, 0, none⟩ = some (.slice Ao p.n co) := fun w' h => (PB4.ext h).c0
   have k2 : ∀ w', Later W3 w' → w'.cell? ⟨pb, 1, none⟩ = some (.slice Ar p.m cr) := fun w' h => (PB4.ext h).c1
   have k5 : ∀ w', Later W3 w' → w'.cell? ⟨nb, 5, none⟩ = some (.slice Y n c) := fun w' h => (NB4.ext h).cell 5
   have kr0 : ∀ w', Later W3 w' → w'.cell? ⟨bR, 0, none⟩ = some _ := fun w' h => (RB.ext h).c0
   have kr1 : ∀ w', Later W3 w' → w'.cell? ⟨bR, 1, none⟩ = some _ := fun w' h => (RB.ext h).c1
   have kr2 : ∀ w', Later W3 w' → w'.cell? ⟨bR, 2, none⟩ = some _ := fun w' h => (RB.ext h).c2
   have kr3 : ∀ w', Later W3 w' → w'.cell? ⟨bR, 3, none⟩ = some _ := fun w' h => (RB.ext h).c3
   have ks := Later.refl W3
   go_upto_region 18 with fail
   cases S with
   | false =>
     have HRES : Hid (R = 1) := Lib.hid (by rw [HRES0.out]; rfl)
     clear HRES0
     refine wp_region_held_drew (S := fun w' => Later W3 w') (by kernel_rfl) ?_ (fun hHeld => ?_)
     ·(try dsimp only); exact kLx
     refine wpAnyH_take (i := 0) (oi := ⟨some 109, .move (.tmp 9), 4, "law.go:192", #[], none⟩) (v := ?_) rfl (by kernel_rfl) (by kernel_rfl) (by kernel_rfl) (fun _ _ _ h => h) (Or.inl ⟨by rfl, ?_⟩) (by assumption) ?_
     rotate_left
     ·intro w hSw; (try dsimp only at hSw); go_simp; try (with_reducible rfl)
     try simp only [Act.put, sqa, sqb, sqc]
     refine wpAnyH_take (i := 1) (oi := ⟨some 110, .move (.tmp 109), 4, "law.go:192", #[⟨0, .data⟩], none⟩) (v := ?_) rfl (by kernel_rfl) (by kernel_rfl) (by kernel_rfl) (fun _ _ _ h => h) (Or.inl ⟨by rfl, ?_⟩) (by assumption) ?_
     rotate_left
     ·intro w hSw; (try dsimp only at hSw); go_simp; try (with_reducible rfl)
     try simp only [Act.put, sqa, sqb, sqc]
     refine wpAnyH_take (i := 2) (oi := ⟨some 111, .load 58 (.tmp 12), 58, "law.go:192", #[⟨1, .guard⟩], some (1, true)⟩) (v := undef) rfl (by kernel_rfl) (by kernel_rfl) (by kernel_rfl) (fun _ _ _ h => h) (Or.inr ⟨by rfl, rfl⟩) (by assumption) ?_
     try simp only [Act.put, sqa, sqb, sqc]
     refine wpAnyH_take (i := 3) (oi := ⟨some 112, .move (.tmp 1), 3, "law.go:192", #[⟨1, .guard⟩], some (1, true)⟩) (v := undef) rfl (by kernel_rfl) (by kernel_rfl) (by kernel_rfl) (fun _ _ _ h => h) (Or.inr ⟨by rfl, rfl⟩) (by assumption) ?_
     try simp only [Act.put, sqa, sqb, sqc]
     refine wpAnyH_take (i := 4) (oi := ⟨some 113, .call { callee := Callee.value (.func 20), args := #[.tmp 112], argTypes := #[3] }, 58, "law.go:192", #[⟨3, .data⟩, ⟨1, .chain⟩, ⟨1, .guard⟩], some (1, true)⟩) (v := undef) rfl (by kernel_rfl) (by kernel_rfl) (by kernel_rfl) (fun _ _ _ h => h) (Or.inr ⟨by rfl, rfl⟩) (by assumption) ?_
     try simp only [Act.put, sqa, sqb, sqc]
     refine wpAnyH_take (i := 5) (oi := ⟨some 114, .call { callee := Callee.value (.func 20), args := #[.const (Value.int IntKind.i64 1)], argTypes := #[3] }, 58, "law.go:192", #[⟨4, .chain⟩, ⟨1, .guard⟩], some (1, true)⟩) (v := undef) rfl (by kernel_rfl) (by kernel_rfl) (by kernel_rfl) (fun _ _ _ h => h) (Or.inr ⟨by rfl, rfl⟩) (by assumption) ?_
     try simp only [Act.put, sqa, sqb, sqc]
     refine wpAnyH_take (i := 6) (oi := ⟨some 115, .call { callee := Callee.value (.func 47), args := #[.tmp 113, .tmp 114], argTypes := #[58, 58] }, 58, "law.go:192", #[⟨4, .data⟩, ⟨5, .data⟩, ⟨5, .chain⟩, ⟨1, .guard⟩], some (1, true)⟩) (v := undef) rfl (by kernel_rfl) (by kernel_rfl) (by kernel_rfl) (fun _ _ _ h => h) (Or.inr ⟨by rfl, rfl⟩) (by assumption) ?_
     try simp only [Act.put, sqa, sqb, sqc]
     refine wpAnyH_take (i := 7) (oi := ⟨some 116, .call { callee := Callee.value (.func 23), args := #[.tmp 111, .tmp 115], argTypes := #[58, 58] }, 3, "law.go:192", #[⟨2, .data⟩, ⟨6, .data⟩, ⟨6, .chain⟩, ⟨1, .guard⟩], some (1, true)⟩) (v := undef) rfl (by kernel_rfl) (by kernel_rfl) (by kernel_rfl) (fun _ _ _ h => h) (Or.inr ⟨by rfl, rfl⟩) (by assumption) ?_
     try simp only [Act.put, sqa, sqb, sqc]
     refine wpAnyH_take (i := 8) (oi := ⟨some 117, .binOp BinOp.lss 3 (.tmp 116) (.const (Value.int IntKind.i64 0)) 3, 4, "law.go:192", #[⟨7, .data⟩, ⟨1, .guard⟩], some (1, true)⟩) (v := undef) rfl (by kernel_rfl) (by kernel_rfl) (by kernel_rfl) (fun _ _ _ h => h) (Or.inr ⟨by rfl, rfl⟩) (by assumption) ?_
     try simp only [Act.put, sqa, sqb, sqc]
     refine wpAnyH_take (i := 9) (oi := ⟨some 118, .pick (.tmp 110) (.tmp 117) (.const (Value.bool false)), 4, "law.go:192", #[⟨1, .data⟩, ⟨8, .data⟩], none⟩) (v := ?_) rfl (by kernel_rfl) (by kernel_rfl) (by kernel_rfl) (fun _ _ _ h => h) (Or.inl ⟨by rfl, ?_⟩) (by assumption) ?_
     rotate_left
     ·intro w hSw; (try dsimp only at hSw); go_simp; try (with_reducible rfl)
     try simp only [Act.put, sqa, sqb, sqc]
     refine wpAnyH_take (i := 10) (oi := ⟨some 119, .move (.tmp 118), 4, "law.go:192", #[⟨9, .data⟩, ⟨7, .chain⟩], none⟩) (v := ?_) rfl (by kernel_rfl) (by kernel_rfl) (by kernel_rfl) (fun _ _ _ h => h) (Or.inl ⟨by rfl, ?_⟩) (by assumption) ?_
     rotate_left
     ·intro w hSw; (try dsimp only at hSw); go_simp; try (with_reducible rfl)
     try simp only [Act.put, sqa, sqb, sqc]
     refine wpAnyH_take (i := 11) (oi := ⟨some 120, .load 41 (.tmp 4), 41, "law.go:192", #[⟨10, .guard⟩], some (10, true)⟩) (v := undef) rfl (by kernel_rfl) (by kernel_rfl) (by kernel_rfl) (fun _ _ _ h => h) (Or.inr ⟨by rfl, rfl⟩) (by assumption) ?_
     try simp only [Act.put, sqa, sqb, sqc]
     refine wpAnyH_take (i := 12) (oi := ⟨some 121, .load 58 (.tmp 12), 58, "law.go:192", #[⟨10, .guard⟩], some (10, true)⟩) (v := undef) rfl (by kernel_rfl) (by kernel_rfl) (by kernel_rfl) (fun _ _ _ h => h) (Or.inr ⟨by rfl, rfl⟩) (by assumption) ?_
     try simp only [Act.put, sqa, sqb, sqc]
     refine wpAnyH_take (i := 13) (oi := ⟨some 122, .move (.tmp 2), 25, "law.go:192", #[⟨10, .guard⟩], some (10, true)⟩) (v := undef) rfl (by kernel_rfl) (by kernel_rfl) (by kernel_rfl) (fun _ _ _ h => h) (Or.inr ⟨by rfl, rfl⟩) (by assumption) ?_
     try simp only [Act.put, sqa, sqb, sqc]
     refine wpAnyH_take (i := 14) (oi := ⟨some 123, .nilCheck (.tmp 122), 0, "law.go:192", #[⟨13, .data⟩, ⟨10, .guard⟩], some (10, true)⟩) (v := undef) rfl (by kernel_rfl) (by kernel_rfl) (by kernel_rfl) (fun _ _ _ h => h) (Or.inr ⟨by rfl, rfl⟩) (by assumption) ?_
     try simp only [Act.put, sqa, sqb, sqc]
     refine wpAnyH_take (i := 15) (oi := ⟨some 124, .fieldAddr 79 (.tmp 123) 5, 0, "law.go:192", #[⟨14, .data⟩, ⟨10, .guard⟩], some (10, true)⟩) (v := undef) rfl (by kernel_rfl) (by kernel_rfl) (by kernel_rfl) (fun _ _ _ h => h) (Or.inr ⟨by rfl, rfl⟩) (by assumption) ?_
     try simp only [Act.put, sqa, sqb, sqc]
     refine wpAnyH_take (i := 16) (oi := ⟨some 125, .load 38 (.tmp 124), 38, "law.go:192", #[⟨15, .data⟩, ⟨10, .guard⟩], some (10, true)⟩) (v := undef) rfl (by kernel_rfl) (by kernel_rfl) (by kernel_rfl) (fun _ _ _ h => h) (Or.inr ⟨by rfl, rfl⟩) (by assumption) ?_
     try simp only [Act.put, sqa, sqb, sqc]
     refine wpAnyH_take (i := 17) (oi := ⟨some 126, .call { callee := Callee.value (.func 30), args := #[.tmp 120, .tmp 121, .tmp 125], argTypes := #[41, 58, 38] }, 4, "law.go:192", #[⟨11, .data⟩, ⟨12, .data⟩, ⟨16, .data⟩, ⟨10, .chain⟩, ⟨10, .guard⟩], some (10, true)⟩) (v := undef) rfl (by kernel_rfl) (by kernel_rfl) (by kernel_rfl) (fun _ _ _ h => h) (Or.inr ⟨by rfl, rfl⟩) (by assumption) ?_
     try simp only [Act.put, sqa, sqb, sqc]
     refine wpAnyH_take (i := 18) (oi := ⟨some 127, .pick (.tmp 119) (.tmp 126) (.const (Value.bool false)), 4, "law.go:192", #[⟨10, .data⟩, ⟨17, .data⟩], none⟩) (v := ?_) rfl (by kernel_rfl) (by kernel_rfl) (by kernel_rfl) (fun _ _ _ h => h) (Or.inl ⟨by rfl, ?_⟩) (by assumption) ?_
     rotate_left
     ·intro w hSw; (try dsimp only at hSw); go_simp; try (with_reducible rfl)
     try simp only [Act.put, sqa, sqb, sqc]
     refine wpAnyH_done (by kernel_rfl) ?_ _
     go_wp2_with fail
     go_ret
     exact ⟨by rw [HRES.out] <;> rfl, Ext.trans hE3 (by repeat (first | (with_reducible assumption) | (with_reducible exact Ext.refl _) | (with_reducible apply Ext.drew) | (with_reducible apply Ext.drewN)))⟩
   | true =>
   cases D with
   | false =>
     have HRES : Hid (R = 1) := Lib.hid (by rw [HRES0.out]; rfl)
     have gneg := HGN.out rfl
     clear HRES0 HGD HGN
     refine wp_region_held_drew (S := fun w' => Later W3 w') (by kernel_rfl) ?_ (fun hHeld => ?_)
     ·(try dsimp only); exact kLx
     repeat' (first
      | simp only [Act.put, sqa, sqb, sqc]
      | (
       first
        | refine tky (i := 0) (oi := ⟨some 109, .move (.tmp 9), 4, "law.go:192", #[], none⟩) (v := ?_) rfl ?_ (by assumption) ?_
        | refine tky (i := 1) (oi := ⟨some 110, .move (.tmp 109), 4, "law.go:192", #[⟨0, .data⟩], none⟩) (v := ?_) rfl ?_ (by assumption) ?_
        | refine tky (i := 2) (oi := ⟨some 111, .load 58 (.tmp 12), 58, "law.go:192", #[⟨1, .guard⟩], some (1, true)⟩) (v := ?_) rfl ?_ (by assumption) ?_
        | refine tky (i := 3) (oi := ⟨some 112, .move (.tmp 1), 3, "law.go:192", #[⟨1, .guard⟩], some (1, true)⟩) (v := ?_) rfl ?_ (by assumption) ?_
        | refine tky (i := 8) (oi := ⟨some 117, .binOp BinOp.lss 3 (.tmp 116) (.const (Value.int IntKind.i64 0)) 3, 4, "law.go:192", #[⟨7, .data⟩, ⟨1, .guard⟩], some (1, true)⟩) (v := ?_) rfl ?_ (by assumption) ?_
        | refine tky (i := 9) (oi := ⟨some 118, .pick (.tmp 110) (.tmp 117) (.const (Value.bool false)), 4, "law.go:192", #[⟨1, .data⟩, ⟨8, .data⟩], none⟩) (v := ?_) rfl ?_ (by assumption) ?_
        | refine tky (i := 10) (oi := ⟨some 119, .move (.tmp 118), 4, "law.go:192", #[⟨9, .data⟩, ⟨7, .chain⟩], none⟩) (v := ?_) rfl ?_ (by assumption) ?_
        | refine tky (i := 18) (oi := ⟨some 127, .pick (.tmp 119) (.tmp 126) (.const (Value.bool false)), 4, "law.go:192", #[⟨10, .data⟩, ⟨17, .data⟩], none⟩) (v := ?_) rfl ?_ (by assumption) ?_
       rotate_left
       ·intro w hSw; (try dsimp only at hSw); go_simp; try (with_reducible rfl))
      | (
       first
        | refine wpAnyH_take (i := 11) (oi := ⟨some 120, .load 41 (.tmp 4), 41, "law.go:192", #[⟨10, .guard⟩], some (10, true)⟩) (v := undef) rfl (by decide +kernel) (by decide +kernel) (by decide +kernel) (fun _ _ _ h => h) (Or.inr ⟨by rfl, rfl⟩) (by assumption) ?_
        | refine wpAnyH_take (i := 12) (oi := ⟨some 121, .load 58 (.tmp 12), 58, "law.go:192", #[⟨10, .guard⟩], some (10, true)⟩) (v := undef) rfl (by decide +kernel) (by decide +kernel) (by decide +kernel) (fun _ _ _ h => h) (Or.inr ⟨by rfl, rfl⟩) (by assumption) ?_
        | refine wpAnyH_take (i := 13) (oi := ⟨some 122, .move (.tmp 2), 25, "law.go:192", #[⟨10, .guard⟩], some (10, true)⟩) (v := undef) rfl (by decide +kernel) (by decide +kernel) (by decide +kernel) (fun _ _ _ h => h) (Or.inr ⟨by rfl, rfl⟩) (by assumption) ?_
        | refine wpAnyH_take (i := 14) (oi := ⟨some 123, .nilCheck (.tmp 122), 0, "law.go:192", #[⟨13, .data⟩, ⟨10, .guard⟩], some (10, true)⟩) (v := undef) rfl (by decide +kernel) (by decide +kernel) (by decide +kernel) (fun _ _ _ h => h) (Or.inr ⟨by rfl, rfl⟩) (by assumption) ?_
        | refine wpAnyH_take (i := 15) (oi := ⟨some 124, .fieldAddr 79 (.tmp 123) 5, 0, "law.go:192", #[⟨14, .data⟩, ⟨10, .guard⟩], some (10, true)⟩) (v := undef) rfl (by decide +kernel) (by decide +kernel) (by decide +kernel) (fun _ _ _ h => h) (Or.inr ⟨by rfl, rfl⟩) (by assumption) ?_
        | refine wpAnyH_take (i := 16) (oi := ⟨some 125, .load 38 (.tmp 124), 38, "law.go:192", #[⟨15, .data⟩, ⟨10, .guard⟩], some (10, true)⟩) (v := undef) rfl (by decide +kernel) (by decide +kernel) (by decide +kernel) (fun _ _ _ h => h) (Or.inr ⟨by rfl, rfl⟩) (by assumption) ?_
        | refine wpAnyH_take (i := 17) (oi := ⟨some 126, .call { callee := Callee.value (.func 30), args := #[.tmp 120, .tmp 121, .tmp 125], argTypes := #[41, 58, 38] }, 4, "law.go:192", #[⟨11, .data⟩, ⟨12, .data⟩, ⟨16, .data⟩, ⟨10, .chain⟩, ⟨10, .guard⟩], some (10, true)⟩) (v := undef) rfl (by decide +kernel) (by decide +kernel) (by decide +kernel) (fun _ _ _ h => h) (Or.inr ⟨by rfl, rfl⟩) (by assumption) ?_)
      | refine wpAnyH_ready (rs := [4]) (by decide +kernel) (by simp) ?_
      | refine wpAnyH_ready (rs := [5]) (by decide +kernel) (by simp) ?_
      | refine wpAnyH_ready (rs := [6]) (by decide +kernel) (by simp) ?_
      | refine wpAnyH_ready (rs := [7]) (by decide +kernel) (by simp) ?_
      | (
       refine AllReadyH.cons (o := ⟨some 113, .call { callee := Callee.value (.func 20), args := #[.tmp 112], argTypes := #[3] }, 58, "law.go:192", #[⟨3, .data⟩, ⟨1, .chain⟩, ⟨1, .guard⟩], some (1, true)⟩) rfl (fun K hK => ?_) ?_
       go_simp
       first
        | (go_at_call 20; (with_reducible refine (qfw z _ z1 z2).mono ?_); rintro e wk ⟨vk, rfl, hbk, hxk⟩; (obtain ⟨pk, Ak, nk, ck, pk', Ak', nk', ck', rfl⟩ := hbk.1.shape))
        | (go_at_call 20; (with_reducible refine (qfw 1 _ (by omega) (by omega)).mono ?_); rintro e wl ⟨vl, rfl, hbl, hxl⟩; (obtain ⟨pl, Al, nl, cl, pl', Al', nl', cl', rfl⟩ := hbl.1.shape))
       try (go_wp2_with fail)
       refine hK.out _ _ ?_ (fun hHeld => ?_)
       ·(try dsimp only); exact kLx
       clear hK K)
      | (
       refine AllReadyH.cons (o := ⟨some 114, .call { callee := Callee.value (.func 20), args := #[.const (Value.int IntKind.i64 1)], argTypes := #[3] }, 58, "law.go:192", #[⟨4, .chain⟩, ⟨1, .guard⟩], some (1, true)⟩) rfl (fun K hK => ?_) ?_
       go_simp
       first
        | (go_at_call 20; (with_reducible refine (qfw z _ z1 z2).mono ?_); rintro e wk ⟨vk, rfl, hbk, hxk⟩; (obtain ⟨pk, Ak, nk, ck, pk', Ak', nk', ck', rfl⟩ := hbk.1.shape))
        | (go_at_call 20; (with_reducible refine (qfw 1 _ (by omega) (by omega)).mono ?_); rintro e wl ⟨vl, rfl, hbl, hxl⟩; (obtain ⟨pl, Al, nl, cl, pl', Al', nl', cl', rfl⟩ := hbl.1.shape))
       try (go_wp2_with fail)
       refine hK.out _ _ ?_ (fun hHeld => ?_)
       ·(try dsimp only); exact kLx
       clear hK K)
      | (
       refine AllReadyH.cons (o := ⟨some 115, .call { callee := Callee.value (.func 47), args := #[.tmp 113, .tmp 114], argTypes := #[58, 58] }, 58, "law.go:192", #[⟨4, .data⟩, ⟨5, .data⟩, ⟨5, .chain⟩, ⟨1, .guard⟩], some (1, true)⟩) rfl (fun K hK => ?_) ?_
       go_simp
       first
        | (go_at_call 47; (with_reducible refine (qcs _ _ _ _ _ _ _ (RatB.ext hbk eCx) (RatB.ext hbl eBx) (by decide)).mono ?_); rintro e wm ⟨vm, rfl, hbm, hxm⟩; (obtain ⟨pm, Am, nm, cm, pm', Am', nm', cm', rfl⟩ := hbm.1.shape))
       try (go_wp2_with fail)
       refine hK.out _ _ ?_ (fun hHeld => ?_)
       ·(try dsimp only); exact kLx
       clear hK K)
      | (
       refine AllReadyH.cons (o := ⟨some 116, .call { callee := Callee.value (.func 23), args := #[.tmp 111, .tmp 115], argTypes := #[58, 58] }, 3, "law.go:192", #[⟨2, .data⟩, ⟨6, .data⟩, ⟨6, .chain⟩, ⟨1, .guard⟩], some (1, true)⟩) rfl (fun K hK => ?_) ?_
       go_simp
       first
        | (go_at_call 23; (with_reducible refine (q8w _ _ r _ T _ _ (RatB.ext hr6 eCx) (RatB.ext hbm eBx) (by omega)).mono ?_); rintro e wn ⟨rfl, hxn⟩; (rw [← HG1.out]); (have hLn : Later W3 wn := by repeat (first | (with_reducible assumption) | (with_reducible apply Later.drew) | (with_reducible apply Later.drewN) | (with_reducible refine Later.step ?_ (by with_reducible assumption)))); (have hEn : Ext W3 wn := hLn))
       try (go_wp2_with fail)
       refine hK.out _ _ ?_ (fun hHeld => ?_)
       ·(try dsimp only); exact kLx
       clear hK K)
      | exact AllReadyH.nil
      | (
       refine wpAnyH_done (by decide +kernel) ?_ _
       go_wp2_with fail
       go_ret
       exact ⟨by rw [HRES.out] <;> rfl, Ext.trans hE3 (by repeat (first | (with_reducible assumption) | (with_reducible exact Ext.refl _) | (with_reducible apply Ext.drew) | (with_reducible apply Ext.drewN)))⟩)
      )
   | true =>
     obtain rfl := HGD.out rfl
     clear HGD HGN
     cases C with
     | true =>
       have HRES : Hid (R = 0) := Lib.hid (by rw [HRES0.out]; rfl)
       clear HRES0
       go_region_held3 (fun w' => Later W3 w') ((repeat (first | (with_reducible assumption) | (with_reducible apply Later.drew) | (with_reducible apply Later.drewN) | (with_reducible refine Later.step ?_ (by with_reducible assumption))))) (first
        | (go_at_call 20; (with_reducible refine (qfw z _ z1 z2).mono ?_); rintro e wk ⟨vk, rfl, hbk, hxk⟩; (obtain ⟨pk, Ak, nk, ck, pk', Ak', nk', ck', rfl⟩ := hbk.1.shape))
        | (go_at_call 20; (with_reducible refine (qfw 1 _ (by omega) (by omega)).mono ?_); rintro e wl ⟨vl, rfl, hbl, hxl⟩; (obtain ⟨pl, Al, nl, cl, pl', Al', nl', cl', rfl⟩ := hbl.1.shape))
        | (go_at_call 47; (with_reducible refine (qcs _ _ _ _ _ _ _ (RatB.ext hbk eCx) (RatB.ext hbl eBx) (by decide)).mono ?_); rintro e wm ⟨vm, rfl, hbm, hxm⟩; (obtain ⟨pm, Am, nm, cm, pm', Am', nm', cm', rfl⟩ := hbm.1.shape))
        | (go_at_call 23; (with_reducible refine (q8w _ _ r _ T _ _ (RatB.ext hr6 eCx) (RatB.ext hbm eBx) (by omega)).mono ?_); rintro e wn ⟨rfl, hxn⟩; (rw [← HG1.out]); (have hLn : Later W3 wn := by repeat (first | (with_reducible assumption) | (with_reducible apply Later.drew) | (with_reducible apply Later.drewN) | (with_reducible refine Later.step ?_ (by with_reducible assumption)))); (have hEn : Ext W3 wn := hLn))
        | (go_at_call 30; (with_reducible refine (HLR.out _ eCx).mono ?_); rintro e wo ⟨rfl, hxo⟩; (have hLo : Later W3 wo := by repeat (first | (with_reducible assumption) | (with_reducible apply Later.drew) | (with_reducible apply Later.drewN) | (with_reducible refine Later.step ?_ (by with_reducible assumption)))))
        )
       all_goals (
        clear k1 k2 k5 kr0 kr1 kr2 kr3
        go_wp2_with fail
        go_ret
        exact ⟨by rw [HRES.out] <;> rfl, Ext.trans hE3 hLo⟩)
     | false =>
       have HRES : Hid (R = 1) := Lib.hid (by rw [HRES0.out]; rfl)
       clear HRES0
       go_region_held3 (fun w' => Later W3 w') ((repeat (first | (with_reducible assumption) | (with_reducible apply Later.drew) | (with_reducible apply Later.drewN) | (with_reducible refine Later.step ?_ (by with_reducible assumption))))) (first
        | (go_at_call 20; (with_reducible refine (qfw z _ z1 z2).mono ?_); rintro e wk ⟨vk, rfl, hbk, hxk⟩; (obtain ⟨pk, Ak, nk, ck, pk', Ak', nk', ck', rfl⟩ := hbk.1.shape))
        | (go_at_call 20; (with_reducible refine (qfw 1 _ (by omega) (by omega)).mono ?_); rintro e wl ⟨vl, rfl, hbl, hxl⟩; (obtain ⟨pl, Al, nl, cl, pl', Al', nl', cl', rfl⟩ := hbl.1.shape))
        | (go_at_call 47; (with_reducible refine (qcs _ _ _ _ _ _ _ (RatB.ext hbk eCx) (RatB.ext hbl eBx) (by decide)).mono ?_); rintro e wm ⟨vm, rfl, hbm, hxm⟩; (obtain ⟨pm, Am, nm, cm, pm', Am', nm', cm', rfl⟩ := hbm.1.shape))
        | (go_at_call 23; (with_reducible refine (q8w _ _ r _ T _ _ (RatB.ext hr6 eCx) (RatB.ext hbm eBx) (by omega)).mono ?_); rintro e wn ⟨rfl, hxn⟩; (rw [← HG1.out]); (have hLn : Later W3 wn := by repeat (first | (with_reducible assumption) | (with_reducible apply Later.drew) | (with_reducible apply Later.drewN) | (with_reducible refine Later.step ?_ (by with_reducible assumption)))); (have hEn : Ext W3 wn := hLn))
        | (go_at_call 30; (with_reducible refine (HLR.out _ eCx).mono ?_); rintro e wo ⟨rfl, hxo⟩; (have hLo : Later W3 wo := by repeat (first | (with_reducible assumption) | (with_reducible apply Later.drew) | (with_reducible apply Later.drewN) | (with_reducible refine Later.step ?_ (by with_reducible assumption)))))
        )
       all_goals (
        clear k1 k2 k5 kr0 kr1 kr2 kr3
        go_wp2_with fail
        go_ret
        exact ⟨by rw [HRES.out] <;> rfl, Ext.trans hE3 hLo⟩)
theorem prove_b (Ky : Nat) (hKy : Ky ≤ 134217740) (z : Int) (M : Nat) (hz : fit z = true) (t : CT) : ∀ (p : Prob) (v : Value) (A : Option Addr) (b h dpt : Nat) (w : World), CanC p M → qga w v p → qjd w t A b h → t.okY Ky → p.m + t.dep ≤ M → dpt + t.dep ≤ 200 →
 Calls Tryz.prog 19 #[v, .int .i64 z, .pointer A, .int .i64 (dpt : Int)] w (qjz w (.int .i64 (prvN z p t : Int))) := by
 induction t with
 | nil =>
   intro p v A b h dpt w hc hv hT hok hm hd
   obtain ⟨rfl, -⟩ := hT
   obtain ⟨Ao, co, Ar, cr, rfl, -⟩ := id hv
   have hnn : ∀ W, (binOp BinOp.eql 25 (.pointer none) (.pointer none)).run Tryz.prog W = .ok (.bool true) W := fun _ => by kernel_rfl
   have hE0 : Ext w (w.alloc (.cells #[.slice Ao p.n co, .slice Ar p.m cr] 41)) := (Ext.refl w).alloc _
   go_enter Tryz.func19, Tryz.ntmps19
   go_wp2_with fail
   go_ret
   exact ⟨rfl, hE0⟩
 | node vr fl em n y lo hi iha ihb =>
   intro p v A b h dpt w hc hv hT hok hm hd
   obtain ⟨k, L, H, Y, c, m1, m2, rfl, h1, h2, NB, hY, hlo, hhi⟩ := hT
   have hdd : (CT.node vr fl em n y lo hi).dep = 1 + max lo.dep hi.dep := rfl
   rw [hdd] at hm hd
   obtain ⟨o1, o2, o3, o4, o5⟩ := hok
   have hlim := hc.lim
   unfold prvN
   by_cases hvr : vr = -1
   ·subst hvr
    rw [if_pos rfl]
    by_cases hg : fl = 0 ∧ lo.isNil = true ∧ hi.isNil = true ∧ n = p.m
    ·rw [if_pos hg]
     obtain ⟨rfl, a1, a2, a3⟩ := hg
     have e1 : L = none := hlo.nilA.2 (by cases lo with | nil => rfl | node vr fl em n y a b => cases a1)
     have e2 : H = none := hhi.nilA.2 (by cases hi with | nil => rfl | node vr fl em n y a b => cases a2)
     subst e1 e2
     exact prove_lf v p z dpt k M Ky (1 + 300 * (7 + Ky)) (Nat.le_refl _) (by omega) em Y n c y w hv hc hz NB hY.1.rats o3 a3 (by omega)
    ·rw [if_neg hg]
     refine prove_no v p z dpt k fl em L H Y n c w hv (fun hh => hg ⟨hh.1, ?_, ?_, hh.2.2.2⟩) (fun a e => ?_) (fun a e => ?_) NB (by omega)
     ·have := hlo.nilA.1 hh.2.1
      rw [this]; rfl
     ·have := hhi.nilA.1 hh.2.2.1
      rw [this]; rfl
     ·cases lo with
      | nil => rw [hlo.1] at e; cases e
      | node vr fl em n y a b =>
        obtain ⟨k', L', H', Y', c', m1', m2', e', -⟩ := hlo
        rw [e] at e'
        exact ⟨k', Option.some.inj e'⟩
     ·cases hi with
      | nil => rw [hhi.1] at e; cases e
      | node vr fl em n y a b =>
        obtain ⟨k', L', H', Y', c', m1', m2', e', -⟩ := hhi
        rw [e] at e'
        exact ⟨k', Option.some.inj e'⟩
   ·rw [if_neg hvr]
    by_cases hg : 0 ≤ vr ∧ vr < (p.n : Int) ∧ em = false ∧ n = 0
    ·rw [if_pos hg]
     obtain ⟨g1, g2, rfl, rfl⟩ := hg
     obtain ⟨V, rfl⟩ : ∃ V : Nat, vr = (V : Int) := ⟨vr.toNat, by omega⟩
     rw [Int.toNat_natCast]
     have hM : p.m + 1 ≤ M := by omega
     refine prove_in v p z dpt k V fl L H Y c _ _ w hv hc.val (by omega) o1 NB (by omega) ?_ ?_
     ·intro W q hW hq
      have := iha (p.side V fl false) q L m1 m2 (dpt + 1) W (hc.side hM o1 false) hq (hlo.ext hW) o4 (by show p.m + 1 + lo.dep ≤ M; omega) (by omega)
      rw [show ((dpt + 1 : Nat) : Int) = (dpt : Int) + 1 by omega] at this
      exact this
     ·intro W q hW hq
      have := ihb (p.side V fl true) q H m2 h (dpt + 1) W (hc.side hM o1 true) hq (hhi.ext hW) o5 (by show p.m + 1 + hi.dep ≤ M; omega) (by omega)
      rw [show ((dpt + 1 : Nat) : Int) = (dpt : Int) + 1 by omega] at this
      exact this
    ·rw [if_neg hg]
     exact prove_nin v p z dpt k vr fl em L H Y n c w hv hvr hg NB (by omega)
end Go.Proofs.YtljncdcjkdgkeaaGreatDoor.Lp

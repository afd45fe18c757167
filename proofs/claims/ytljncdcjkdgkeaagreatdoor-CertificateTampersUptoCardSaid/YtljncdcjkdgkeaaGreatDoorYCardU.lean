/- Lists of small integers among the arguments, opened. Walk: Check's closure at an empty leaf. Walks: wellFormed, fits: their bodies, at a leaf. Walk: Check, over what it asks of the tree.  -/
import Derived.Test.YtljncdcjkdgkeaaGreatDoorYCBT
import Derived.Test.YtljncdcjkdgkeaaGreatDoorYT6
import Derived.Test.YtljncdcjkdgkeaaGreatDoorYCV8
import Derived.Laws.EntriesVeiled
import Derived.Test.YtljncdcjkdgkeaaGreatDoorYLV5
import Derived.Test.YtljncdcjkdgkeaaGreatDoorYCK3
import Derived.Test.YtljncdcjkdgkeaaGreatDoorYLJ
import Derived.Laws.AppendOwnNone
import Derived.Test.YtljncdcjkdgkeaaGreatDoorYLN2
import Derived.Test.YtljncdcjkdgkeaaGreatDoorYLN3
import Derived.Test.YtljncdcjkdgkeaaGreatDoorYShelf
set_option linter.unusedVariables false
set_option linter.unusedSimpArgs false
namespace Go.Proofs.YtljncdcjkdgkeaaGreatDoor.Big
open Go.ChangeShapes Go.WideShapes Go.ChangeAt Go.RowKit Go.Proofs.YtljncdcjkdgkeaaGreatDoor.Lp
theorem wfi8 {n : Int} (h : (Lit.int .i8 n).wf = true) : -128 ≤ n ∧ n ≤ 127 := (Lit.wf_int_iff' .i8 n).1 h
section
variable {H : Type} {enc : TypeId × Value → H} {W : World} {base : Nat} {r : Reach} {b0 : Nat}
end
end Go.Proofs.YtljncdcjkdgkeaaGreatDoor.Big
namespace Go.Proofs.YtljncdcjkdgkeaaGreatDoor.Lp
open Go.RowKit Go.Proofs.YtljncdcjkdgkeaaGreatDoor.Big Go.Proofs.YtljncdcjkdgkeaaGreatDoor.Rt
set_option maxHeartbeats 8000000 in
set_option maxRecDepth 100000 in
theorem q33 (v f1 f2 f3 : Value) (tb : Nat) (fl : Int) (p : Prob) (Ay : Option Addr) (ny cy : Nat) (y : Nat → Rat) (Kc Kr Ky T : Nat) (w : World) (hT0 : Box w tb 79 (q89 (-1) fl none none true Ay ny cy)) (hv : qga w v p) (hval : qba p = true) (hy : q94 w Ay ny cy y)
 (hc : ∀ i, i < p.m → ∀ j, j < p.n → QB Kc (p.coef i j)) (hr : ∀ i, i < p.m → QB Kr (p.right i)) (hq : ∀ j, j < ny → QB Ky (y j)) (hT : 1 + p.m * (Kc + Kr + Ky + 1) ≤ T) (hT2 : T ≤ 137438953472) (hT3 : Kc + Kr + Ky ≤ 137438953472) :
 Calls Tryz.prog 48 #[v, .pointer (some ⟨tb, 0, none⟩), f1, f2, f3] w (qjz w (.bool (pntB p ny y))) := by
 have hv0 := hv
 obtain ⟨Ao, co, Ar, cr, rfl, -⟩ := hv0
 have HC := Lib.hid hc
 have HR := Lib.hid hr
 have HY := Lib.hid hq
 have HT := Lib.hid hT
 have HV := Lib.hid hval
 clear hc hr hq hT hval
 obtain ⟨F, hF⟩ : ∃ F, F = pntB p ny y := ⟨_, rfl⟩
 have HF := Lib.hid hF
 rw [← hF]
 clear hF
 have PB := Box.new w 41 #[.slice Ao p.n co, .slice Ar p.m cr]
 have hE0 : Ext w (w.alloc (.cells #[.slice Ao p.n co, .slice Ar p.m cr] 41)) := (Ext.refl w).alloc _
 go_enter Tryz.func48, Tryz.ntmps48
 go_upto_region 1 with fail
 generalize (w.alloc (.cells #[.slice Ao p.n co, .slice Ar p.m cr] 41)) = V at *
 have TB := hT0.ext hE0
 have t0 : V.cell? ⟨tb, 0, none⟩ = some (.int .i64 (-1)) := TB.cell 0
 have t4 : V.cell? ⟨tb, 4, none⟩ = some (.bool true) := TB.cell 4
 have hvV := hv.ext hE0
 have hyV := hy.ext hE0
 go_upto_region 4 with fail
 have k30 : ∀ w', Later V w' → w'.cell? ⟨_, 0, none⟩ = some _ := fun w' h => (PB.ext h).c0
 have k31 : ∀ w', Later V w' → w'.cell? ⟨_, 1, none⟩ = some _ := fun w' h => (PB.ext h).c1
 have k5 : ∀ w', Later V w' → w'.cell? ⟨tb, 5, none⟩ = some (.slice Ay ny cy) := fun w' h => (TB.ext h).cell 5
 have ks := Later.refl V
 clear t0 t4
 go_region_held3 (fun w' => Later V w') ((repeat (first | assumption | apply Later.drew | apply Later.drewN | apply Later.alloc | (refine Later.step ?_ (by assumption))))) (first
  | (go_at_call 50; (with_reducible refine (qdi _ p Ay ny cy y Kc Kr Ky T _ (qga.ext hvV eAx) HV.out (q94.ext hyV eAx) HC.out HR.out HY.out HT.out hT2 hT3).mono ?_); rintro e wk ⟨rfl, hxk⟩; rw [← HF.out])
  )
 all_goals (
  have hxk2 : Ext V wk := by assumption
  clear k30 k31 k5
  go_wp2_with fail
  go_ret
  exact ⟨rfl, hE0.trans hxk2⟩)
theorem ql8 (w : World) (E F : TypeId) : ∃ V, V = (((w.alloc (.map #[] 0)).alloc (.cells #[.map (some w.heap.size)] E)).alloc (.cells #[.nilFunc] F)) ∧ V.heap[w.heap.size]? = some (.map #[] 0) ∧ Box V (w.heap.size + 1) E #[.map (some w.heap.size)] ∧ Box V (w.heap.size + 1 + 1) F #[.nilFunc] ∧ Ext w V := by
 have s1 : (w.alloc (.map #[] 0)).heap.size = w.heap.size + 1 := by simp
 have s2 : ((w.alloc (.map #[] 0)).alloc (.cells #[.map (some w.heap.size)] E)).heap.size = w.heap.size + 1 + 1 := by simp
 refine ⟨_, rfl, ?_, ?_, ?_, (((Ext.refl w).alloc _).alloc _).alloc _⟩
 ·have h0 : (w.alloc (.map #[] 0)).heap[w.heap.size]? = some (.map #[] 0) := heap_alloc_new w _
  have h1 := (Below.block ((((Ext.refl (w.alloc (.map #[] 0))).alloc (.cells #[.map (some w.heap.size)] E)).alloc (.cells #[.nilFunc] F))) w.heap.size (by rw [s1]; omega))
  exact h1.trans h0
 ·have := (Box.new (w.alloc (.map #[] 0)) E #[.map (some w.heap.size)]).alloc (.cells #[.nilFunc] F)
  rwa [s1] at this
 ·have := Box.new ((w.alloc (.map #[] 0)).alloc (.cells #[.map (some w.heap.size)] E)) F #[.nilFunc]
  rwa [s2] at this
set_option maxHeartbeats 4000000 in
set_option maxRecDepth 100000 in
theorem q84 (tb : Nat) (fl : Int) (em : Bool) (A : Option Addr) (n c : Nat) (w : World) (hT : Box w tb 79 (q89 (-1) fl none none em A n c)) :
 Calls Tryz.prog 32 #[.pointer (some ⟨tb, 0, none⟩)] w (fun e w' => e = .returned (.bool (decide (fl = 0))) ∧ Ext w w') := by
 have hmm := @run_makeMap Tryz.prog
 obtain ⟨V, hV, hM, hB, hF, hE⟩ := ql8 w 131 132
 go_enter Tryz.func32, Tryz.ntmps32
 go_upto_region 3 with fail
 simp only [← hV]
 clear hV hmm
 obtain ⟨mb, hmb⟩ : ∃ x, x = w.heap.size := ⟨_, rfl⟩
 obtain ⟨hb, hhb⟩ : ∃ x, x = w.heap.size + 1 := ⟨_, rfl⟩
 obtain ⟨fb, hfb⟩ : ∃ x, x = w.heap.size + 1 + 1 := ⟨_, rfl⟩
 rw [← hfb, ← hhb, ← hmb]
 rw [← hfb] at hF
 rw [← hhb] at hB
 rw [← hmb] at hM hB
 have hms : w.heap.size ≤ mb := by omega
 have hfs : w.heap.size ≤ fb := by omega
 have n1 : hb ≠ fb := by omega
 have n2 : mb ≠ fb := by omega
 have hT0 := hT.ext hE
 have n3 : tb ≠ fb := by have := hT.lt; omega
 clear hmb hhb hfb
 have f0 := hF.c0
 have f1 := hF.frozen 0
 obtain ⟨K, hK⟩ : ∃ K : Value, K = .func (.func 67) #[] #[.pointer (some ⟨hb, 0, none⟩), .pointer (some ⟨fb, 0, none⟩)] := ⟨_, rfl⟩
 have hF2 := hF.set 0 K
 have hB2 : Box (V.setCell ⟨fb, 0, none⟩ K) hb 131 #[.map (some mb)] := hB.far (p := ⟨fb, 0, none⟩) n1 K
 have hM2 : (V.setCell ⟨fb, 0, none⟩ K).heap[mb]? = some (.map #[] 0) := (Below.heap_setCell V ⟨fb, 0, none⟩ K mb n2).trans hM
 have hT2 : Box (V.setCell ⟨fb, 0, none⟩ K) tb 79 (q89 (-1) fl none none em A n c) := hT0.far (p := ⟨fb, 0, none⟩) n3 K
 have hE2 : Ext w (V.setCell ⟨fb, 0, none⟩ K) := hE.set (p := ⟨fb, 0, none⟩) hfs K
 go_upto_region 4 with fail
 rw [← hK]
 generalize (V.setCell ⟨fb, 0, none⟩ K) = V2 at *
 have k0 := hF2.c0
 subst hK
 go_wp2_with fail
 refine (q5z tb hb fb mb fl 0 em A n c 0 _ _ hT2 hB2 hM2 (by omega)).mono ?_
 rintro e w3 ⟨rfl, hx3⟩
 have hx := hx3 w hE2 hms
 by_cases hf : fl = 0
 ·subst hf
  go_wp2_with fail
  go_ret
  exact ⟨rfl, hx⟩
 ·rw [if_neg hf]
  go_wp2_with fail
  go_ret
  exact ⟨by rw [decide_eq_false hf]; rfl, hx⟩
set_option maxHeartbeats 4000000 in
set_option maxRecDepth 100000 in
theorem fits_leaf (tb : Nat) (fl : Int) (em : Bool) (A : Option Addr) (n c : Nat) (Ao Ar : Option Addr) (no co m cr : Nat) (w : World) (hT : Box w tb 79 (q89 (-1) fl none none em A n c)) (hm : m ≤ 9000000000000000000) :
 Calls Tryz.prog 43 #[.agg #[.slice Ao no co, .slice Ar m cr], .pointer (some ⟨tb, 0, none⟩)] w (fun e w' => e = .returned (.bool (decide (n = m))) ∧ Ext w w') := by
 have hmm := @run_makeMap Tryz.prog
 have hPB := Box.new w 41 #[.slice Ao no co, .slice Ar m cr]
 have hE0 : Ext w (w.alloc (.cells #[.slice Ao no co, .slice Ar m cr] 41)) := (Ext.refl w).alloc _
 go_enter Tryz.func43, Tryz.ntmps43
 go_upto_region 1 with fail
 obtain ⟨pb, hpb⟩ : ∃ x, x = w.heap.size := ⟨_, rfl⟩
 rw [← hpb] at hPB ⊢
 generalize hU : (w.alloc (.cells #[.slice Ao no co, .slice Ar m cr] 41)) = U at *
 have hT := hT.ext hE0
 clear hU hpb
 obtain ⟨V, hV, hM, hB, hF, hE⟩ := ql8 U 140 141
 go_upto_region 3 with fail
 simp only [← hV]
 clear hV hmm
 have n4 : pb < U.heap.size := hPB.lt
 have hPB := hPB.ext hE
 obtain ⟨mb, hmb⟩ : ∃ x, x = U.heap.size := ⟨_, rfl⟩
 obtain ⟨hb, hhb⟩ : ∃ x, x = U.heap.size + 1 := ⟨_, rfl⟩
 obtain ⟨fb, hfb⟩ : ∃ x, x = U.heap.size + 1 + 1 := ⟨_, rfl⟩
 rw [← hfb, ← hhb, ← hmb]
 rw [← hfb] at hF
 rw [← hhb] at hB
 rw [← hmb] at hM hB
 have hms : U.heap.size ≤ mb := by omega
 have hfs : U.heap.size ≤ fb := by omega
 have n1 : hb ≠ fb := by omega
 have n2 : mb ≠ fb := by omega
 have n5 : pb ≠ fb := by omega
 have hT0 := hT.ext hE
 have n3 : tb ≠ fb := by have := hT.lt; omega
 clear hmb hhb hfb
 have f0 := hF.c0
 have f1 := hF.frozen 0
 obtain ⟨K, hK⟩ : ∃ K : Value, K = .func (.func 76) #[] #[.pointer (some ⟨hb, 0, none⟩), .pointer (some ⟨pb, 0, none⟩), .pointer (some ⟨fb, 0, none⟩)] := ⟨_, rfl⟩
 have hF2 := hF.set 0 K
 have hB2 : Box (V.setCell ⟨fb, 0, none⟩ K) hb 140 #[.map (some mb)] := hB.far (p := ⟨fb, 0, none⟩) n1 K
 have hM2 : (V.setCell ⟨fb, 0, none⟩ K).heap[mb]? = some (.map #[] 0) := (Below.heap_setCell V ⟨fb, 0, none⟩ K mb n2).trans hM
 have hT2 : Box (V.setCell ⟨fb, 0, none⟩ K) tb 79 (q89 (-1) fl none none em A n c) := hT0.far (p := ⟨fb, 0, none⟩) n3 K
 have hP2 : Box (V.setCell ⟨fb, 0, none⟩ K) pb 41 #[.slice Ao no co, .slice Ar m cr] := hPB.far (p := ⟨fb, 0, none⟩) n5 K
 have hE2 : Ext U (V.setCell ⟨fb, 0, none⟩ K) := hE.set (p := ⟨fb, 0, none⟩) hfs K
 go_upto_region 4 with fail
 rw [← hK]
 generalize (V.setCell ⟨fb, 0, none⟩ K) = V2 at *
 have k0 := hF2.c0
 subst hK
 go_wp2_with fail
 refine (qzb tb hb pb mb fl 0 em A n c 0 Ao Ar no co m cr _ _ hT2 hB2 hM2 hP2 (by omega) (by omega) hm).mono ?_
 rintro e w3 ⟨rfl, hx3⟩
 have hx := hE0.trans (hx3 U hE2 hms)
 rw [show ((n : Int) == (m : Int) + 0) = decide (n = m) by rw [Bool.eq_iff_iff]; simp; omega]
 go_wp2_with fail
 go_ret
 exact ⟨rfl, hx⟩
def alZ (f : Nat → Rat) : Nat → Bool
 | 0 => true
 | n + 1 => alZ f n && decide ((f n).den = 1)
def limZ (z : Int) (s : Bool) : Rat := if s = true then (z : Rat) + ((1 : Int) : Rat) else (z : Rat)
def chkE (b R : Bool) : Int := if b = true then (if R = true then 0 else 19) else 3
theorem qga.objC {w : World} {p : Prob} {Ao : Option Addr} {n co : Nat} {r : Value} (h : qga w (.agg #[.slice Ao n co, r]) p) : q94 w Ao n co p.obj := by
 obtain ⟨Ao', co', Ar', cr', e, h1, -⟩ := h
 injection e with e
 have e1 : Value.slice Ao n co = Value.slice Ao' p.n co' := by
  have := congrArg (fun a : Array Value => a[0]?) e
  simpa using this
 injection e1 with e1 e2 e3
 subst e1 e3
 rw [e2]
 exact h1
set_option maxHeartbeats 2000000 in
set_option maxRecDepth 100000 in
theorem qtr (v t : Value) (p : Prob) (z : Int) (wf ft R : Bool) (Ko : Nat) (w : World) (hv : qga w v p) (hz0 : -9223372036854775808 ≤ z) (hz1 : z ≤ 9223372036854775807) (hKo : Ko ≤ 549755813888) (ho : ∀ j, j < p.n → QB Ko (p.obj j))
 (hwf : ∀ W, Ext w W → Calls Tryz.prog 32 #[t] W (fun e w' => e = .returned (.bool wf) ∧ Ext W w'))
 (hft : qba p = true → wf = true → ∀ W, Ext w W → Calls Tryz.prog 43 #[v, t] W (fun e w' => e = .returned (.bool ft) ∧ Ext W w'))
 (hpr : qba p = true → wf = true → ft = true → ∀ W (fb lb sb : Nat) (u1 u3 : Bool) (U2 U4 : Option Addr) (l2 l3 l4 l5 : Nat), Ext w W → w.heap.size ≤ fb → w.heap.size ≤ lb → w.heap.size ≤ sb → Box W fb 106 #[.func (.func 48) #[] #[.pointer (some ⟨fb, 0, none⟩), .pointer (some ⟨lb, 0, none⟩), .pointer (some ⟨sb, 0, none⟩)]] →
  Box W lb 58 #[.bool u1, .slice U2 l2 l3, .bool u3, .slice U4 l4 l5] → RatB W (.agg #[.bool u1, .slice U2 l2 l3, .bool u3, .slice U4 l4 l5]) (limZ z (alZ p.obj p.n)) 5 → Box W sb 4 #[.bool (alZ p.obj p.n)] →
  Calls Tryz.prog 48 #[v, t, .pointer (some ⟨fb, 0, none⟩), .pointer (some ⟨lb, 0, none⟩), .pointer (some ⟨sb, 0, none⟩)] W (qjz W (.bool R))) :
 Calls Tryz.prog 16 #[v, .int .i64 z, t] w (qjz w (.int .i64 (chkE (qba p && wf && ft) R))) := by
 obtain ⟨E, hEq⟩ : ∃ E, E = chkE (qba p && wf && ft) R := ⟨_, rfl⟩
 rw [← hEq]
 have HEQ := Lib.hid hEq
 clear hEq
 obtain ⟨Ao, co, Ar, cr, rfl, -⟩ := id hv
 have HO := Lib.hid ho
 have HPR := Lib.hid hpr
 have HFT := Lib.hid hft
 have HWF := Lib.hid hwf
 clear ho hpr hft hwf
 have PB := Box.new w 41 #[.slice Ao p.n co, .slice Ar p.m cr]
 have hE0 : Ext w (w.alloc (.cells #[.slice Ao p.n co, .slice Ar p.m cr] 41)) := (Ext.refl w).alloc _
 go_enter Tryz.func16, Tryz.ntmps16
 go_upto_region 1 with fail
 generalize (w.alloc (.cells #[.slice Ao p.n co, .slice Ar p.m cr] 41)) = V at *
 obtain ⟨pb, hpb⟩ : ∃ x, x = w.heap.size := ⟨_, rfl⟩
 rw [← hpb] at PB ⊢
 clear hpb
 have c0 := PB.c0
 have c1 := PB.c1
 go_wp2_with fail
 refine (q72 _ p _ (hv.ext hE0)).mono ?_
 rintro e w1 ⟨rfl, hx1⟩
 have PB1 := PB.ext hx1
 have hE1 := hE0.trans hx1
 obtain ⟨B, hB⟩ : ∃ B, B = qba p := ⟨_, rfl⟩
 rw [← hB]
 have HB := Lib.hid hB
 clear hB c0 c1 PB hE0 hx1
 cases B with
 | false =>
   have HE9 : Hid (E = 3) := Lib.hid (by rw [HEQ.out, ← HB.out]; simp [chkE])
   go_wp2_with fail
   go_ret
   exact ⟨by rw [HE9.out]; rfl, hE1⟩
 | true =>
 obtain ⟨a1, a2, a3, a4⟩ := validB_iff.1 HB.out.symm
 go_wp2_with fail
 refine (HWF.out _ hE1).mono ?_
 rintro e w2 ⟨rfl, hx2⟩
 have PB2 := PB1.ext hx2
 have hE2 := hE1.trans hx2
 clear PB1 hE1 hx2
 cases wf with
 | false =>
   have HE9 : Hid (E = 3) := Lib.hid (by rw [HEQ.out, ← HB.out]; simp [chkE])
   go_wp2_with fail
   go_ret
   exact ⟨by rw [HE9.out]; rfl, hE2⟩
 | true =>
 have c0 := PB2.c0
 have c1 := PB2.c1
 go_wp2_with fail
 refine (HFT.out HB.out.symm (by first | rfl | trivial) _ hE2).mono ?_
 rintro e w3 ⟨rfl, hx3⟩
 have PB3 := PB2.ext hx3
 have hE3 := hE2.trans hx3
 clear PB2 hE2 hx3 c0 c1
 cases ft with
 | false =>
   have HE9 : Hid (E = 3) := Lib.hid (by rw [HEQ.out, ← HB.out]; simp [chkE])
   go_wp2_with fail
   go_ret
   exact ⟨by rw [HE9.out]; rfl, hE3⟩
 | true =>
 go_wp2_with fail
 refine (qfw z _ hz0 hz1).mono ?_
 rintro e w4 ⟨v4, rfl, hb4, hx4⟩
 obtain ⟨p4, A4, n4, c4, p4', A4', n4', c4', rfl⟩ := hb4.1.shape
 obtain ⟨LB, SB, hx5⟩ := qwt w4 58 4 #[.bool p4, .slice A4 n4 c4, .bool p4', .slice A4' n4' c4'] #[.bool true]
 go_upto_region 4 with fail
 generalize ((w4.alloc (.cells #[.bool p4, .slice A4 n4 c4, .bool p4', .slice A4' n4' c4'] 58)).alloc (.cells #[.bool true] 4)) = W5 at *
 obtain ⟨sb, hsb⟩ : ∃ x, x = w4.heap.size + 1 := ⟨_, rfl⟩
 obtain ⟨lb, hlb⟩ : ∃ x, x = w4.heap.size := ⟨_, rfl⟩
 rw [← hsb] at SB ⊢
 rw [← hlb] at LB ⊢
 have hls : lb ≠ sb := by omega
 have hw4l : w4.heap.size ≤ lb := by omega
 have hw4s : w4.heap.size ≤ sb := by omega
 clear hsb hlb
 have PB5 := (PB3.ext hx4).ext hx5
 have hE5 := (hE3.trans hx4).trans hx5
 have hE4 := hE3.trans hx4
 have hwl : w.heap.size ≤ lb := Nat.le_trans hE4.size hw4l
 have hws : w.heap.size ≤ sb := Nat.le_trans hE4.size hw4s
 have hpl : pb ≠ lb := by have := (PB3.ext hx4).lt; omega
 have hps : pb ≠ sb := by have := (PB3.ext hx4).lt; omega
 have hb5 := hb4.ext hx5
 clear PB3 hE3 hx4 hb4 hx5
 have c0 := PB5.c0
 go_upto_region 5 with fail
 clear c0
 go_loopw [31] (fun i wr => ∃ j : Nat, j ≤ p.n ∧ i = .int .i64 j ∧ Box wr sb 4 #[.bool (alZ p.obj j)] ∧ Fr (fun k => k = sb) W5 wr) (fun i _ => p.n - (intOf i).toNat)
 case atStart => exact ⟨0, by omega, rfl, SB, Fr.refl _ _⟩
 case round =>
  clear SB
  obtain ⟨j, hj, rfl, SBr, hFr⟩ := hrel
  have hEr := hFr.ext hE5 (fun b hb => by rw [hb]; exact hws)
  obtain ⟨S, hS⟩ : ∃ S, S = alZ p.obj j := ⟨_, rfl⟩
  rw [← hS] at SBr
  have HS := Lib.hid hS
  clear hS
  by_cases hlt : j < p.n
  ·have hob := (hv.ext hEr).objC
   have hoc := hob.1
   obtain ⟨qo, rfl, hqo⟩ := hob.2.2 (by omega)
   obtain ⟨p5, A5, m5, c5, p5', A5', m5', c5', o0, o1, o2, o3, hr5⟩ := hqo.at hlt
   have i1 : (0 : Int) ≤ (j : Int) := by omega
   have i2 : (j : Int) < (p.n : Int) := by omega
   go_upto_region 7 with fail
   have XB := Box.new wr 58 #[.bool p5, .slice A5 m5 c5, .bool p5', .slice A5' m5' c5']
   have hxT : Ext wr (wr.alloc (.cells #[.bool p5, .slice A5 m5 c5, .bool p5', .slice A5' m5' c5'] 58)) := (Ext.refl wr).alloc _
   generalize (wr.alloc (.cells #[.bool p5, .slice A5 m5 c5, .bool p5', .slice A5' m5' c5'] 58)) = T at *
   obtain ⟨xb, hxb⟩ : ∃ x, x = wr.heap.size := ⟨_, rfl⟩
   rw [← hxb] at XB ⊢
   clear hxb o0 o1 o2 o3
   have SBT := SBr.ext hxT
   have hxB : RatB T (.agg #[.bool p5, .slice A5 m5 c5, .bool p5', .slice A5' m5' c5']) (p.obj j) Ko := ⟨hr5.ext hxT, HO.out j hlt⟩
   have hFT := hFr.trans (Fr.of hxT)
   have s0 := SBT.c0
   have z0 := SBT.frozen 0
   cases S with
   | false =>
     have HN1 : Hid (alZ p.obj (j + 1) = false) := Lib.hid (by show (alZ p.obj j && decide ((p.obj j).den = 1)) = false; rw [← HS.out]; rfl)
     have SB2 := SBT.set 0 (.bool false)
     have hF2 := hFT.set (p := ⟨sb, 0, none⟩) rfl (fun z => by rw [s0]; intro e; cases e) (.bool false)
     have SB2 : Box (T.setCell ⟨sb, 0, none⟩ (.bool false)) sb 4 #[.bool (alZ p.obj (j + 1))] := by rw [HN1.out]; exact SB2
     go_wp2_with fail
     go_roundw
     case rel => first | exact ⟨j + 1, by omega, by go_num, SB2, hF2⟩ | ((repeat (apply Exists.intro (α := Value))); exact ⟨⟨j + 1, by omega, by go_num, SB2, hF2⟩, rfl⟩)
     case measure => simp [intOf]; omega
   | true =>
     obtain ⟨D, hD⟩ : ∃ D, D = decide ((p.obj j).den = 1) := ⟨_, rfl⟩
     obtain ⟨g, hg⟩ : ∃ g, g = cmpZ ((p.obj j).den : Int) 1 := ⟨_, rfl⟩
     have eD : (g == 0) = D := by
      rw [hg, hD]
      by_cases h1 : (p.obj j).den = 1
      ·have : cmpZ ((p.obj j).den : Int) 1 = 0 := by rw [h1]; exact cmpZ_self _
       rw [this]; simp [h1]
      ·have : cmpZ ((p.obj j).den : Int) 1 ≠ 0 := fun h => by
        have h2 : ((p.obj j).den : Int) = 1 := cmpZ_zero.1 h
        omega
       simp [this, h1]
     have HG := Lib.hid hg
     have HN1 : Hid (alZ p.obj (j + 1) = D) := Lib.hid (by show (alZ p.obj j && decide ((p.obj j).den = 1)) = D; rw [← HS.out, hD]; rfl)
     have x0 := XB.c0
     have x1 := XB.c1
     have x2 := XB.c2
     have x3 := XB.c3
     clear hg hD
     go_wp2_with fail
     refine (q07 _ _ _ _ hxB).mono ?_
     rintro e w6 ⟨v6, rfl, hb6, hx6⟩
     obtain ⟨p6, A6, n6, c6, rfl⟩ := hb6.1.shape
     clear x0 x1 x2 x3
     go_wp2_with fail
     refine (Of_b 1 _ (by omega) (by omega)).mono ?_
     rintro e w7 ⟨v7, rfl, hb7, hx7⟩
     obtain ⟨p7, A7, n7, c7, rfl⟩ := hb7.1.shape
     go_wp2_with fail
     refine (qc9 _ _ _ _ _ _ _ (hb6.ext hx7) hb7).mono ?_
     rintro e w8 ⟨rfl, hx8⟩
     rw [← HG.out]
     have hx68 := (hx6.trans hx7).trans hx8
     have SB8 := SBT.ext hx68
     have hF8 := hFT.trans (Fr.of hx68)
     clear s0 z0
     have s0 := SB8.c0
     have z0 := SB8.frozen 0
     have SB9 := SB8.set 0 (.bool D)
     have hF9 := hF8.set (p := ⟨sb, 0, none⟩) rfl (fun z => by rw [s0]; intro e; cases e) (.bool D)
     have SB9 : Box (w8.setCell ⟨sb, 0, none⟩ (.bool D)) sb 4 #[.bool (alZ p.obj (j + 1))] := by rw [HN1.out]; exact SB9
     go_wp2_with fail
     go_roundw
     case rel => first | exact ⟨j + 1, by omega, by go_num, SB9, hF9⟩ | ((repeat (apply Exists.intro (α := Value))); exact ⟨⟨j + 1, by omega, by go_num, SB9, hF9⟩, rfl⟩)
     case measure => simp [intOf]; omega
  ·obtain rfl : j = p.n := by omega
   have LBr := hFr.box LB hls
   have PBr := hFr.box PB5 hps
   have hb6 := hFr.ratB hb5
   have s0 := SBr.c0
   have hvr := hv.ext hEr
   clear LB PB5 hb5 hE5 hFr
   go_upto_if 44 with fail
   rename_i hK
   go_cut [] (fun wx => ∃ (u1 u3 : Bool) (U2 U4 : Option Addr) (l2 l3 l4 l5 : Nat), Box wx lb 58 #[.bool u1, .slice U2 l2 l3, .bool u3, .slice U4 l4 l5] ∧ RatB wx (.agg #[.bool u1, .slice U2 l2 l3, .bool u3, .slice U4 l4 l5]) (limZ z S) 5 ∧ Box wx sb 4 #[.bool S] ∧ Box wx pb 41 #[.slice Ao p.n co, .slice Ar p.m cr] ∧ Ext w wx)
   case first =>
    cases S with
    | false =>
      go_wp2_with fail
      go_meet
      exact ⟨_, _, _, _, _, _, _, _, LBr, ⟨hb6.1, qqj (by omega) hb6.2⟩, SBr, PBr, hEr⟩
    | true =>
      go_upto_region 10 with fail
      have q0 := LBr.c0
      have q1 := LBr.c1
      have q2 := LBr.c2
      have q3 := LBr.c3
      go_region_law (first
       | (go_simp; go_at_call 20; (with_reducible refine (qfw 1 _ (by omega) (by omega)).mono ?_); rintro e wl ⟨vl, rfl, hbl, hxl⟩; (obtain ⟨pl, Al, nl, cl, pl', Al', nl', cl', rfl⟩ := hbl.1.shape); (have hlL : Ext wr wl := Ext.trans eBx hxl); (have q0 := hlL.cell q0); (have q1 := hlL.cell q1); (have q2 := hlL.cell q2); (have q3 := hlL.cell q3))
       | (go_simp; go_at_call 47; (with_reducible refine (qcs _ _ _ _ _ _ _ (RatB.ext hb6 eAx) (RatB.ext hbl eBx) (by omega)).mono ?_); rintro e wm ⟨vm, rfl, hbm, hxm⟩; (obtain ⟨pm, Am, nm, cm, pm', Am', nm', cm', rfl⟩ := hbm.1.shape); (have hmL : Ext wl wm := Ext.trans eBx hxm); (have DBm := (LBr.ext hlL).ext hmL); (have q0 := DBm.c0); (have q1 := DBm.c1); (have q2 := DBm.c2); (have q3 := DBm.c3); (have z0 := DBm.frozen 0); (have z1 := DBm.frozen 1); (have z2 := DBm.frozen 2); (have z3 := DBm.frozen 3))
       )
      all_goals (
       obtain ⟨hf, pbx⟩ := put4 DBm (.bool pm) (.slice Am nm cm) (.bool pm') (.slice Am' nm' cm')
       have pp := hf.ratB hbm
       have SB9 := hf.box ((SBr.ext hlL).ext hmL) (Ne.symm hls)
       have PB9 := hf.box ((PBr.ext hlL).ext hmL) hpl
       have hE9 := hf.ext ((hEr.trans hlL).trans hmL) (fun b hb => by rw [hb]; exact hwl)
       clear DBm q0 q1 q2 q3 z0 z1 z2 z3 hf
       go_wp2_with fail
       go_meet
       exact ⟨_, _, _, _, _, _, _, _, pbx, pp, SB9, PB9, hE9⟩)
   case rest =>
   obtain ⟨u1, u3, U2, U4, l2, l3, l4, l5, LBc, hLz, SBc, PBc, hEc⟩ := hcut
   refine hK _ _ ?_
   clear hK LBr PBr SBr hb6 hEr hvr s0
   have hvc := hv.ext hEc
   go_upto_region 12 with fail
   have FB := Box.new wc 106 #[.nilFunc]
   have hxf : Ext wc (wc.alloc (.cells #[.nilFunc] 106)) := (Ext.refl wc).alloc _
   generalize (wc.alloc (.cells #[.nilFunc] 106)) = W6 at *
   obtain ⟨fb, hfb⟩ : ∃ x, x = wc.heap.size := ⟨_, rfl⟩
   rw [← hfb] at FB ⊢
   have hfw : w.heap.size ≤ fb := by have := hEc.size; omega
   have hfl : lb ≠ fb := by have := LBc.lt; omega
   have hfs : sb ≠ fb := by have := SBc.lt; omega
   have hfp : pb ≠ fb := by have := PBc.lt; omega
   clear hfb
   have LB6 := LBc.ext hxf
   have SB6 := SBc.ext hxf
   have PB6 := PBc.ext hxf
   have hL6 := hLz.ext hxf
   have hE6 := hEc.trans hxf
   clear LBc SBc PBc hLz hEc hxf
   obtain ⟨K, hKK⟩ : ∃ K : Value, K = .func (.func 48) #[] #[.pointer (some ⟨fb, 0, none⟩), .pointer (some ⟨lb, 0, none⟩), .pointer (some ⟨sb, 0, none⟩)] := ⟨_, rfl⟩
   have f0 := FB.c0
   have f1 := FB.frozen 0
   have hF : Fr (fun k => k = fb) W6 (W6.setCell ⟨fb, 0, none⟩ K) := (Fr.refl (fun k => k = fb) W6).set (p := ⟨fb, 0, none⟩) rfl (fun z => by rw [f0]; intro e; cases e) _
   have FB7 := FB.set 0 K
   have LB7 := hF.box LB6 hfl
   have SB7 := hF.box SB6 hfs
   have PB7 := hF.box PB6 hfp
   have hL7 := hF.ratB hL6
   have hE7 := hF.ext hE6 (fun b hb => by rw [hb]; exact hfw)
   go_upto_region 13 with fail
   rw [← hKK]
   generalize (W6.setCell ⟨fb, 0, none⟩ K) = W7 at *
   subst hKK
   clear hF f0 f1 FB LB6 SB6 PB6 hL6 hE6
   have k0 := FB7.c0
   have c0 := PB7.c0
   have c1 := PB7.c1
   rw [HS.out] at hL7 SB7
   have hcall := HPR.out HB.out.symm (by first | rfl | trivial) (by first | rfl | trivial) W7 fb lb sb u1 u3 U2 U4 l2 l3 l4 l5 hE7 hfw hwl hws FB7 LB7 hL7 SB7
   go_wp2_with fail
   refine hcall.mono ?_
   rintro e w8 ⟨rfl, hx8⟩
   have hE8 := hE7.trans hx8
   cases R with
   | false =>
     have HE9 : Hid (E = 19) := Lib.hid (by rw [HEQ.out, ← HB.out]; simp [chkE])
     go_wp2_with fail
     go_ret
     exact ⟨by rw [HE9.out]; rfl, hE8⟩
   | true =>
     have HE9 : Hid (E = 0) := Lib.hid (by rw [HEQ.out, ← HB.out]; simp [chkE])
     go_wp2_with fail
     go_ret
     exact ⟨by rw [HE9.out]; rfl, hE8⟩
def fit (z : Int) : Bool := decide (-9223372036854775808 ≤ z) && decide (z ≤ 9223372036854775807)
theorem fit_iff {z : Int} : fit z = true ↔ -9223372036854775808 ≤ z ∧ z ≤ 9223372036854775807 := by
 unfold fit; rw [Bool.and_eq_true, decide_eq_true_eq, decide_eq_true_eq]
structure BS where
 solved : Nat
 best : Option (Int × (Nat → Int))
inductive BT where
 | leaf (empty : Bool) (m : Nat) (y : Nat → Rat)
 | node (v : Nat) (f : Int) (low high : BT)
def BT.size : BT → Nat
 | .leaf _ _ _ => 1
 | .node _ _ a b => a.size + b.size + 1
def Prob.side (p : Prob) (v : Nat) (f : Int) (high : Bool) : Prob :=
 { p with m := p.m + 1, len := fun i => if i = p.m then p.n else p.len i, coef := fun i => if i = p.m then (fun j => if j = v then 1 else 0) else p.coef i, rel := fun i => if i = p.m then (if high = true then 3 else 1) else p.rel i, right := fun i => if i = p.m then ((f + (if high = true then 1 else 0) : Int) : Rat) else p.right i }
def qqr (x : Nat → Rat) : Nat → Option Nat
 | 0 => none
 | n + 1 => match qqr x n with
   | some v => some v
   | none => if (x n).den = 1 then none else some n
def qus (x : Nat → Rat) : Nat → Bool
 | 0 => true
 | n + 1 => qus x n && fit (x n).num
def BS.cut (s : BS) (z : Rat) : Bool := match s.best with
 | none => false
 | some (v, _) => decide (z.floor ≤ v)
def BS.tick (s : BS) : BS := { s with solved := s.solved + 1 }
noncomputable def qtq (L : Nat) : Nat → Prob → BS → Except Int (BT × BS)
 | 0, _, _ => .error 13
 | k + 1, p, s =>
   if L ≤ s.solved then .error 13 else
   match p.sol with
   | .inf y => .ok (.leaf true p.m y, s.tick)
   | .unb => .error 18
   | .opt z x y =>
     if s.cut z = true then .ok (.leaf false p.m y, s.tick)
     else match qqr x p.n with
      | some v =>
        if fit (x v).floor = true then
         match qtq L k (p.side v (x v).floor false) s.tick with
         | .error e => .error e
         | .ok (lo, s1) =>
           match qtq L k (p.side v (x v).floor true) s1 with
           | .error e => .error e
           | .ok (hi, s2) => .ok (.node v (x v).floor lo hi, s2)
        else .error 2
      | none => if (qus x p.n && fit z.floor) = true then .ok (.leaf false p.m y, ⟨s.solved + 1, some (z.floor, fun j => (x j).num)⟩) else .error 2
noncomputable def q9d (L : Nat) (p : Prob) : Except Int (BT × BS) := qtq L (L + 1) p ⟨0, none⟩
theorem qxp {x : Nat → Rat} {n : Nat} (h : qqr x n = none) : ∀ j, j < n → (x j).den = 1 := by
 induction n with
 | zero => intro j hj; omega
 | succ n ih =>
   unfold qqr at h
   cases e : qqr x n with
   | some v => rw [e] at h; cases h
   | none =>
     rw [e] at h
     have h : (if (x n).den = 1 then none else some n) = none := h
     split at h
     ·next h1 =>
      intro j hj
      rcases Nat.lt_or_ge j n with hlt | hge
      ·exact ih e j hlt
      ·obtain rfl : j = n := by omega
       exact h1
     ·cases h
theorem q82 {x : Nat → Rat} {n v : Nat} (h : qqr x n = some v) : v < n ∧ (x v).den ≠ 1 ∧ ∀ j, j < v → (x j).den = 1 := by
 induction n with
 | zero => cases h
 | succ n ih =>
   unfold qqr at h
   cases e : qqr x n with
   | some u =>
     rw [e] at h
     have h : some u = some v := h
     injection h with h
     subst h
     obtain ⟨a, b, c⟩ := ih e
     exact ⟨by omega, b, c⟩
   | none =>
     rw [e] at h
     have h : (if (x n).den = 1 then none else some n) = some v := h
     split at h
     ·cases h
     ·next h1 =>
      injection h with h
      subst h
      exact ⟨by omega, h1, qxp e⟩
theorem fracV_at {x : Nat → Rat} {n v : Nat} (hv : v < n) (h : qqr x v = none) (hd : (x v).den ≠ 1) : qqr x n = some v := by
 induction n with
 | zero => omega
 | succ n ih =>
   unfold qqr
   rcases Nat.lt_or_ge v n with hlt | hge
   ·rw [ih hlt]
   ·obtain rfl : v = n := by omega
    rw [h]
    exact if_neg hd
theorem qm0 {x : Nat → Rat} {n : Nat} (h : qqr x n = none) (hd : (x n).den = 1) : qqr x (n + 1) = none := by
 unfold qqr; rw [h]; exact if_pos hd
theorem fitsV_iff {x : Nat → Rat} {n : Nat} : qus x n = true ↔ ∀ j, j < n → fit (x j).num = true := by
 induction n with
 | zero => exact ⟨fun _ j hj => absurd hj (by omega), fun _ => rfl⟩
 | succ n ih =>
   show (qus x n && fit (x n).num) = true ↔ _
   rw [Bool.and_eq_true, ih]
   refine ⟨fun h j hj => ?_, fun h => ⟨fun j hj => h j (by omega), h n (by omega)⟩⟩
   rcases Nat.lt_or_ge j n with hlt | hge
   ·exact h.1 j hlt
   ·obtain rfl : j = n := by omega
    exact h.2
theorem qd0 {q : Rat} (h : q.den = 1) : ((q.num : Int) : Rat) = q := by
 exact Rat.ext rfl h.symm
section
variable {p : Prob} {v : Nat} {f : Int} {high : Bool}
theorem Prob.side_vrel (h : p.Vrel) : (p.side v f high).Vrel := by
 intro i hi
 have hi : i < p.m + 1 := hi
 show 1 ≤ (if i = p.m then (if high = true then 3 else 1) else p.rel i) ∧ (if i = p.m then (if high = true then 3 else 1) else p.rel i) ≤ 3
 by_cases e : i = p.m
 ·rw [if_pos e]; split <;> exact ⟨by omega, by omega⟩
 ·rw [if_neg e]; exact h i (by omega)
theorem Prob.side_dot (hv : v < p.n) (x : Nat → Rat) : dot (p.side v f high).n ((p.side v f high).coef p.m) x = x v := by
 have e : (p.side v f high).coef p.m = fun j => if j = v then 1 else 0 := if_pos rfl
 rw [e]
 show sm p.n (fun j => (if j = v then 1 else 0) * x j) = x v
 rw [qfn hv (fun j _ hne => by rw [if_neg hne]; exact Rat.zero_mul _), if_pos rfl]
 exact Rat.one_mul _
theorem Prob.side_feas (hv : v < p.n) {x : Nat → Rat} : (p.side v f high).Feas x ↔ p.Feas x ∧ (if high = true then ((f + 1 : Int) : Rat) ≤ x v else x v ≤ (f : Rat)) := by
 have key : Holds ((p.side v f high).rel p.m) (dot (p.side v f high).n ((p.side v f high).coef p.m) x) ((p.side v f high).right p.m) ↔ (if high = true then ((f + 1 : Int) : Rat) ≤ x v else x v ≤ (f : Rat)) := by
  rw [Prob.side_dot hv]
  have e1 : (p.side v f high).rel p.m = if high = true then 3 else 1 := if_pos rfl
  have e2 : (p.side v f high).right p.m = ((f + (if high = true then 1 else 0) : Int) : Rat) := if_pos rfl
  rw [e1, e2]
  unfold Holds
  cases high with
  | true => exact ⟨fun h => h.2.2 rfl, fun h => ⟨fun e => (by cases e), fun e => (by cases e), fun _ => h⟩⟩
  | false =>
    rw [if_neg (by decide), if_neg (by decide), if_neg (by decide), Int.add_zero]
    exact ⟨fun h => h.1 rfl, fun h => ⟨fun _ => h, fun e => (by cases e), fun e => (by cases e)⟩⟩
 have old : ∀ i, i < p.m → (Holds ((p.side v f high).rel i) (dot (p.side v f high).n ((p.side v f high).coef i) x) ((p.side v f high).right i) ↔ Holds (p.rel i) (dot p.n (p.coef i) x) (p.right i)) := fun i hi => by
  have e0 : (p.side v f high).rel i = p.rel i := if_neg (by omega)
  have e1 : (p.side v f high).coef i = p.coef i := if_neg (by omega)
  have e2 : (p.side v f high).right i = p.right i := if_neg (by omega)
  rw [e0, e1, e2]; exact Iff.rfl
 constructor
 ·rintro ⟨h1, h2⟩
  exact ⟨⟨h1, fun i hi => (old i hi).1 (h2 i (by show i < p.m + 1; omega))⟩, key.1 (h2 p.m (by show p.m < p.m + 1; omega))⟩
 ·rintro ⟨⟨h1, h2⟩, h3⟩
  refine ⟨h1, fun i hi => ?_⟩
  have hi : i < p.m + 1 := hi
  rcases Nat.lt_or_ge i p.m with hlt | hge
  ·exact (old i hlt).2 (h2 i hlt)
  ·obtain rfl : i = p.m := by omega
   exact key.2 h3
end
def Prob.FeasI (p : Prob) (x : Nat → Int) : Prop := p.Feas (fun j => (x j : Rat))
def Prob.objI (p : Prob) (x : Nat → Int) : Rat := dot p.n p.obj (fun j => (x j : Rat))
def Prob.IntObj (p : Prob) : Prop := ∀ j, j < p.n → (p.obj j).den = 1
theorem Prob.side_int {p : Prob} {v : Nat} {f : Int} (hv : v < p.n) {x : Nat → Int} (h : p.FeasI x) : (p.side v f false).FeasI x ∨ (p.side v f true).FeasI x := by
 rcases Int.lt_or_le f (x v) with h1 | h1
 ·refine .inr ((Prob.side_feas hv).2 ⟨h, ?_⟩)
  rw [if_pos rfl]
  exact Rat.intCast_le_intCast.2 (by omega)
 ·refine .inl ((Prob.side_feas hv).2 ⟨h, ?_⟩)
  rw [if_neg (by decide)]
  exact Rat.intCast_le_intCast.2 (by omega)
theorem sm_den {n : Nat} {f : Nat → Rat} (h : ∀ j, j < n → (f j).den = 1) : (sm n f).den = 1 := by
 have : ∃ z : Int, sm n f = (z : Rat) := by
  induction n with
  | zero => exact ⟨0, rfl⟩
  | succ n ih =>
    obtain ⟨z, hz⟩ := ih (fun j hj => h j (by omega))
    refine ⟨z + (f n).num, ?_⟩
    show sm n f + f n = _
    rw [hz, Rat.intCast_add, qd0 (h n (by omega))]
 obtain ⟨z, hz⟩ := this
 rw [hz]; rfl
theorem mul_den {a b : Rat} (ha : a.den = 1) (hb : b.den = 1) : (a * b).den = 1 := by
 rw [← qd0 ha, ← qd0 hb, ← Rat.intCast_mul]; rfl
theorem Prob.objI_int {p : Prob} (h : p.IntObj) (x : Nat → Int) : ((p.objI x).floor : Rat) = p.objI x := by
 have : (p.objI x).den = 1 := sm_den fun j hj => mul_den (h j hj) rfl
 have e := qd0 this
 rw [← e, Rat.floor_intCast]
def BT.Ok : BT → Prob → Option Int → Prop
 | .leaf true m y, p, _ => m = p.m ∧ p.Refutes y
 | .leaf false m y, p, V => m = p.m ∧ ∃ z v, p.Proves y z ∧ V = some v ∧ z.floor ≤ v
 | .node v f a b, p, V => v < p.n ∧ fit f = true ∧ a.Ok (p.side v f false) V ∧ b.Ok (p.side v f true) V
theorem BT.Ok.up {t : BT} {p : Prob} {V V' : Option Int} (h : t.Ok p V) (hV : ∀ v, V = some v → ∃ v', V' = some v' ∧ v ≤ v') : t.Ok p V' := by
 induction t generalizing p with
 | leaf e m y =>
   cases e with
   | true => exact h
   | false =>
     obtain ⟨h0, z, v, h1, h2, h3⟩ := h
     obtain ⟨v', h4, h5⟩ := hV v h2
     exact ⟨h0, z, v', h1, h4, Int.le_trans h3 h5⟩
 | node v f a b iha ihb => exact ⟨h.1, h.2.1, iha h.2.2.1, ihb h.2.2.2⟩
theorem BT.Ok.bound {t : BT} {p : Prob} {V : Option Int} (h : t.Ok p V) (hv : p.Vrel) (ho : p.IntObj) {x : Nat → Int} (hx : p.FeasI x) : ∃ v : Int, V = some v ∧ p.objI x ≤ (v : Rat) := by
 induction t generalizing p with
 | leaf e m y =>
   cases e with
   | true => exact (Prob.Refutes.none hv h.2 hx).elim
   | false =>
     obtain ⟨-, z, v, h1, h2, h3⟩ := h
     refine ⟨v, h2, ?_⟩
     have h4 : p.objI x ≤ z := h1.bound hv hx
     have h5 := Rat.floor_monotone h4
     rw [← Prob.objI_int ho x]
     exact Rat.intCast_le_intCast.2 (Int.le_trans h5 h3)
 | node u f a b iha ihb =>
   rcases Prob.side_int (f := f) h.1 hx with h1 | h1
   ·exact iha (p := p.side u f false) h.2.2.1 (Prob.side_vrel hv) ho h1
   ·exact ihb (p := p.side u f true) h.2.2.2 (Prob.side_vrel hv) ho h1
def BS.Fits (s : BS) (p : Prob) : Prop := ∀ v x, s.best = some (v, x) → p.FeasI x ∧ p.objI x = (v : Rat) ∧ fit v = true ∧ ∀ j, j < p.n → fit (x j) = true
def BS.val (s : BS) : Option Int := s.best.map Prod.fst
theorem qls {L k : Nat} {p : Prob} {s s' : BS} {t : BT} (hv : p.Vrel) (ho : p.IntObj) (h : qtq L k p s = .ok (t, s')) :
 t.Ok p s'.val ∧ (∀ v, s.val = some v → ∃ v', s'.val = some v' ∧ v ≤ v') ∧ (s'.best = s.best ∨ s'.Fits p) ∧ s'.solved = s.solved + t.size ∧ s'.solved ≤ L := by
 induction k generalizing p s s' t with
 | zero => cases h
 | succ k ih =>
   unfold qtq at h
   split at h
   ·cases h
   ·next hL =>
    have hans := Prob.sol_ans hv
    cases es : p.sol with
    | inf y =>
      rw [es] at h hans
      simp only [Except.ok.injEq, Prod.mk.injEq] at h
      obtain ⟨rfl, rfl⟩ := h
      exact ⟨⟨rfl, hans⟩, fun v hv => ⟨v, hv, Int.le_refl _⟩, .inl rfl, rfl, by show s.solved + 1 ≤ L; omega⟩
    | unb => rw [es] at h; cases h
    | opt z x y =>
      rw [es] at h hans
      obtain ⟨a1, a2, a3⟩ := hans
      simp only at h
      split at h
      ·next hc =>
       simp only [Except.ok.injEq, Prod.mk.injEq] at h
       obtain ⟨rfl, rfl⟩ := h
       refine ⟨⟨rfl, z, ?_⟩, fun v hv => ⟨v, hv, Int.le_refl _⟩, .inl rfl, rfl, by show s.solved + 1 ≤ L; omega⟩
       unfold BS.cut at hc
       cases eb : s.best with
       | none => rw [eb] at hc; cases hc
       | some q =>
         obtain ⟨v, xx⟩ := q
         rw [eb] at hc
         exact ⟨v, a3, by show s.best.map Prod.fst = _; rw [eb]; rfl, by simpa using hc⟩
      ·next hc =>
       cases ef : qqr x p.n with
       | some v =>
         rw [ef] at h
         simp only at h
         split at h
         ·next hfit =>
          obtain ⟨hvn, hvd, -⟩ := q82 ef
          cases e1 : qtq L k (p.side v (x v).floor false) s.tick with
          | error e => rw [e1] at h; cases h
          | ok r1 =>
            obtain ⟨lo, s1⟩ := r1
            rw [e1] at h
            simp only at h
            cases e2 : qtq L k (p.side v (x v).floor true) s1 with
            | error e => rw [e2] at h; cases h
            | ok r2 =>
              obtain ⟨hi, s2⟩ := r2
              rw [e2] at h
              simp only [Except.ok.injEq, Prod.mk.injEq] at h
              obtain ⟨rfl, rfl⟩ := h
              obtain ⟨b1, b2, b3, b4, b5⟩ := ih (Prob.side_vrel hv) ho e1
              obtain ⟨c1, c2, c3, c4, c5⟩ := ih (Prob.side_vrel hv) ho e2
              have lift : ∀ {hg : Bool} {q : BS}, q.Fits (p.side v (x v).floor hg) → q.Fits p := fun {hg q} hq u w hu => by
               obtain ⟨g1, g2⟩ := hq u w hu
               exact ⟨((Prob.side_feas hvn).1 g1).1, g2⟩
              refine ⟨⟨hvn, hfit, b1.up c2, c1⟩, fun u hu => ?_, ?_, ?_, c5⟩
              ·obtain ⟨u1, h1, h2⟩ := b2 u hu
               obtain ⟨u2, h3, h4⟩ := c2 u1 h1
               exact ⟨u2, h3, Int.le_trans h2 h4⟩
              ·rcases c3 with c3 | c3
               ·rcases b3 with b3 | b3
                ·exact .inl (c3.trans b3)
                ·exact .inr (fun u w hu => lift b3 u w (by rw [← c3]; exact hu))
               ·exact .inr (lift c3)
              ·rw [c4, b4]
               show s.solved + 1 + lo.size + hi.size = s.solved + (lo.size + hi.size + 1)
               omega
         ·cases h
       | none =>
         rw [ef] at h
         simp only at h
         split at h
         ·next hfit =>
          simp only [Except.ok.injEq, Prod.mk.injEq] at h
          obtain ⟨rfl, rfl⟩ := h
          rw [Bool.and_eq_true, fitsV_iff] at hfit
          have hden := qxp ef
          have hxi : ∀ j, j < p.n → (((x j).num : Int) : Rat) = x j := fun j hj => qd0 (hden j hj)
          have hdot : ∀ a : Nat → Rat, dot p.n a (fun j => (((x j).num : Int) : Rat)) = dot p.n a x := fun a => que fun j hj => by show a j * (((x j).num : Int) : Rat) = _; rw [hxi j hj]
          have hz : p.objI (fun j => (x j).num) = z := (hdot _).trans a2
          have hzi := Prob.objI_int ho (fun j => (x j).num)
          rw [hz] at hzi
          refine ⟨⟨rfl, z, z.floor, a3, rfl, Int.le_refl _⟩, fun v hv' => ⟨z.floor, rfl, ?_⟩, .inr ?_, rfl, by show s.solved + 1 ≤ L; omega⟩
          ·unfold BS.cut at hc
           unfold BS.val at hv'
           cases eb : s.best with
           | none => rw [eb] at hv'; cases hv'
           | some q =>
             obtain ⟨v', xx⟩ := q
             rw [eb] at hc hv'
             have hv'' : some v' = some v := hv'
             injection hv'' with hv''
             subst hv''
             have : ¬ z.floor ≤ v' := by simpa using hc
             omega
          ·intro v w hu
           have hu : some (z.floor, fun j => (x j).num) = some (v, w) := hu
           injection hu with hu
           injection hu with e1 e2
           subst e1 e2
           refine ⟨⟨fun j hj => ?_, fun i hi => ?_⟩, hz.trans hzi.symm, hfit.2, fun j hj => hfit.1 j hj⟩
           ·show (0 : Rat) ≤ (((x j).num : Int) : Rat)
            rw [hxi j hj]; exact a1.1 j hj
           ·rw [hdot]; exact a1.2 i hi
         ·cases h
theorem q60 {L k : Nat} {p : Prob} {s s' : BS} {t : BT} (h : qtq L k p s = .ok (t, s')) : s'.solved = s.solved + t.size := by
 induction k generalizing p s s' t with
 | zero => cases h
 | succ k ih =>
   unfold qtq at h
   split at h
   ·cases h
   ·cases es : p.sol with
    | inf y =>
      rw [es] at h
      simp only [Except.ok.injEq, Prod.mk.injEq] at h
      obtain ⟨rfl, rfl⟩ := h
      rfl
    | unb => rw [es] at h; cases h
    | opt z x y =>
      rw [es] at h
      simp only at h
      split at h
      ·simp only [Except.ok.injEq, Prod.mk.injEq] at h
       obtain ⟨rfl, rfl⟩ := h
       rfl
      ·cases ef : qqr x p.n with
       | some v =>
         rw [ef] at h
         simp only at h
         split at h
         ·cases e1 : qtq L k (p.side v (x v).floor false) s.tick with
          | error e => rw [e1] at h; cases h
          | ok r1 =>
            obtain ⟨lo, s1⟩ := r1
            rw [e1] at h
            simp only at h
            cases e2 : qtq L k (p.side v (x v).floor true) s1 with
            | error e => rw [e2] at h; cases h
            | ok r2 =>
              obtain ⟨hi, s2⟩ := r2
              rw [e2] at h
              simp only [Except.ok.injEq, Prod.mk.injEq] at h
              obtain ⟨rfl, rfl⟩ := h
              rw [ih e2, ih e1]
              show s.solved + 1 + lo.size + hi.size = s.solved + (lo.size + hi.size + 1)
              omega
         ·cases h
       | none =>
         rw [ef] at h
         simp only at h
         split at h
         ·simp only [Except.ok.injEq, Prod.mk.injEq] at h
          obtain ⟨rfl, rfl⟩ := h
          rfl
         ·cases h
def upd (f : Nat → Int) (v : Nat) (z : Int) (j : Nat) : Int := if j = v then z else f j
theorem qpb {L : Nat} {p : Prob} {s : BS} {t : BT} (hv : p.Vrel) (ho : p.IntObj) (h : q9d L p = .ok (t, s)) : t.Ok p s.val ∧
 (∀ v x, s.best = some (v, x) → p.FeasI x ∧ p.objI x = (v : Rat) ∧ fit v = true ∧ (∀ j, j < p.n → fit (x j) = true) ∧ ∀ u, p.FeasI u → p.objI u ≤ (v : Rat)) ∧ (s.best = none → ∀ u, ¬ p.FeasI u) := by
 obtain ⟨h1, -, h2, -, -⟩ := qls hv ho h
 refine ⟨h1, fun v x hb => ?_, fun hb u hu => ?_⟩
 ·rcases h2 with h2 | h2
  ·rw [hb] at h2; cases h2
  ·obtain ⟨a, b, c, d⟩ := h2 v x hb
   refine ⟨a, b, c, d, fun u hu => ?_⟩
   obtain ⟨w, e1, e2⟩ := h1.bound hv ho hu
   unfold BS.val at e1
   rw [hb] at e1
   have e1 : some v = some w := e1
   injection e1 with e1
   rw [e1]; exact e2
 ·obtain ⟨w, e1, e2⟩ := h1.bound hv ho hu
  unfold BS.val at e1
  rw [hb] at e1
  cases e1
theorem wp_pushN {w : World} {o : Oper} {a : Act} {K : Act → World → Prop} {Q : Exit → Act → World → Prop}
 (s x : Operand) (t : TypeId) (hop : o.op = Op.call { callee := Callee.builtin Builtin.append, args := #[s, x], argTypes := #[t, t] })
 (base : Nat) (e : TypeId) (i : TypeInfo) (z : Value) (k bytes : Nat) (h1 : Tryz.prog.underlying t = some (.slice e)) (h2 : Tryz.prog.info? e = some i) (h3 : i.zero = some z) (h4 : i.size = k) (h5 : i.bytes = bytes) (h6 : z.cells.size = k) (hz : ∀ u ∈ z.cells.toList, noU u = true)
 (v : Value) (n : Nat) (xs : List Value) (hs : a.eval s = v) (hown : OwnX w base e k v n xs) (ad : Addr) (m : Nat) (news : List Value) (c : Nat) (hx : a.eval x = .slice (some ad) m c) (hm0 : 0 < m) (hnl : news.length = m * k) (hnews : ∀ j y, news[j]? = some y → w.cell? (ad.add j) = some y) (h1c : ∀ y ∈ news, y.oneCell' = true) (hnu : ∀ y ∈ news, noU y = true)
 (b1 : n + m ≤ 1099511627776) (b2 : bytes ≤ 128) (hbase : base ≤ w.heap.size)
 (hK : ∀ v' w', OwnX w' base e k v' (n + m) (xs ++ news) → Fr (fun g => v.ownBlock = some g) w w' → qyo w v v' → K (a.put o.dst v') w') :
 Oper.wp Tryz.prog o a w K Q := by
 subst h4 h5
 have hbyt : (n + m) * i.bytes ≤ 140737488355328 := Nat.le_trans (Nat.mul_le_mul b1 b2) (by decide)
 have hml : n + m ≤ maxLen := by unfold maxLen; omega
 have hlen : (xs ++ news).length = (n + m) * i.size := by rw [List.length_append, hown.1, hnl, Nat.add_mul]
 have hl1 : news.length = m * i.size := hnl
 -- where a new block comes
 have grown : ∀ old, (∀ u ∈ xs, noU u = true) → OwnX (w.drew.alloc (.cells (xs.toArray ++ news.toArray ++ Builtin.zeroCells z.cells (grownCap w (n + m) old e - (n + m))) e)) base e i.size (.slice (some ⟨w.heap.size, 0, none⟩) (n + m) (grownCap w (n + m) old e)) (n + m) (xs ++ news) := by
  intro old hxu
  have hge := grownCap_ge w (n + m) old e
  have hcm : grownCap w (n + m) old e ≤ maxLen := grownCap_le_maxLen w (n + m) old e hml
  refine ⟨hlen, .inr ⟨w.heap.size, _, _, rfl, hbase, heap_alloc_new w.drew _, hge, hcm, ?_, ?_, ?_⟩⟩
  ·simp only [Array.size_append, List.size_toArray, size_zeroCells, h6, hown.1, hnl]
   obtain ⟨d, hd⟩ : ∃ d, grownCap w (n + m) old e = n + m + d := ⟨grownCap w (n + m) old e - (n + m), by omega⟩
   rw [hd, show n + m + d - (n + m) = d by omega, Nat.add_mul, Nat.add_mul]
  ·simp only [Array.toList_append, List.append_assoc]
   rw [← List.append_assoc, ← hlen]
   exact List.take_left
  ·intro u hu
   simp only [Array.toList_append, List.mem_append] at hu
   rcases hu with (hu | hu) | hu
   ·exact hxu u hu
   ·exact hnu u hu
   ·exact q2s hz _ u hu
 have frN : ∀ (obj : Obj) (P : Nat → Prop), Fr P w (w.drew.alloc obj) := fun obj P => ((Fr.refl P w).drew).alloc obj
 have fin : ∀ (v' : Value) (w' : World), (Builtin.append_ #[t, t] o.type #[v, .slice (some ad) m c]).run Tryz.prog w = .ok v' w' → K (a.put o.dst v') w' → Oper.wp Tryz.prog o a w K Q := by
  intro v' w' hrun hr
  unfold Oper.wp
  simp [execOp, hop, resolve, invoke, builtin, hs, hx, hrun, Result.andThen]
  exact hr
 rcases hown.2 with ⟨rfl, rfl⟩ | ⟨g, cap, cur, rfl, hb, g5, g6, g7, g8, g9, g10⟩
 ·have hx0 : xs = [] := List.eq_nil_of_length_eq_zero (by simpa using hown.1)
  subst hx0
  have hr := run_append_nil (P := Tryz.prog) w t o.type e i z h1 h2 h3 ad m c news hl1 hnews hm0 (by omega) (by rw [Nat.zero_add] at hbyt; omega)
  have hgr := grown 0 (fun u hu => by cases hu)
  simp only [Nat.zero_add, List.nil_append, Array.empty_append] at hgr hr hK
  refine fin _ _ hr (hK _ _ hgr (frN _ _) (.inr ⟨_, rfl, Nat.le_refl _⟩))
 ·by_cases hcap : n + m ≤ cap
  ·have hnk : n * i.size + m * i.size ≤ cap * i.size := by rw [← Nat.add_mul]; exact Nat.mul_le_mul_right _ hcap
   have hr := run_append_room (P := Tryz.prog) w t o.type e i h1 h2 g n cap cur g5 ad m c news hl1 hnews h1c hcap (by rw [hnl, g8]; exact hnk)
   have hcn : (cur.toList.take (n * i.size)).length = n * i.size := by rw [List.length_take, Array.length_toList, g8]; omega
   have hmem : ∀ u ∈ cur.toList.take (n * i.size) ++ news ++ cur.toList.drop (n * i.size + news.length), noU u = true := by
    intro u hu
    simp only [List.mem_append] at hu
    rcases hu with (hu | hu) | hu
    ·exact g10 u (List.mem_of_mem_take hu)
    ·exact hnu u hu
    ·exact g10 u (List.mem_of_mem_drop hu)
   refine fin _ _ hr (hK _ _ ⟨hlen, .inr ⟨g, cap, _, rfl, hb, setRow_heap w g cur _ e _ g5, hcap, g7, ?_, ?_, by simpa using hmem⟩⟩ ?_ (.inl rfl))
   ·simp only [List.size_toArray, List.length_append, hcn, List.length_drop, Array.length_toList, hnl, g8]; omega
   ·rw [g9, ← hlen]; exact List.take_left
   ·refine ⟨rfl, rfl, rfl, by simp [World.setRow], fun k _ hne => setRow_other w g k _ (fun e' => hne (by rw [e']; rfl)), fun b' j zz hzz => ?_⟩
    by_cases e' : b' = g
    ·subst e'
     rw [cell_of_row w b' j cur _ (0, 0) g5] at hzz
     have := g10 _ (Array.mem_toList_iff.2 (Array.mem_of_getElem? hzz))
     cases this
    ·rw [World.cell?_of_block (w := w) (w' := w.setRow g _) (a := ⟨b', j, none⟩) (setRow_other w g b' _ e')]; exact hzz
  ·have holds : ∀ j u, xs[j]? = some u → w.cell? ((⟨g, 0, none⟩ : Addr).add j) = some u := fun j u hj => by
    rw [Lib.add_plain, Nat.zero_add, cell_of_row w g j cur _ (0, 0) g5, ← Array.getElem?_toList]
    rw [← g9, List.getElem?_take] at hj
    split at hj
    ·exact hj
    ·cases hj
   have hlt : cap < n + m := Nat.lt_of_not_le hcap
   have hr := run_append_grow (P := Tryz.prog) w t o.type e i z h1 h2 h3 ⟨g, 0, none⟩ n cap xs hown.1 holds ad m c news hl1 hnews hlt (by omega) (growslice_fits hlt hbyt)
   refine fin _ _ hr (hK _ _ (grown cap (fun u hu => g10 u (by rw [← g9] at hu; exact List.mem_of_mem_take hu))) (frN _ _) (.inr ⟨_, rfl, Nat.le_refl _⟩))
theorem q2u {w : World} {base : Nat} {t ty e : TypeId} {i : TypeInfo} {k n : Nat} {v : Value} {xs : List Value} (ht : Tryz.prog.underlying t = some (.slice e)) (hi : Tryz.prog.info? e = some i) (hown : OwnX w base e k v n xs) (A : Option Addr) (c : Nat) :
 (Builtin.append_ #[t, t] ty #[v, .slice A 0 c]).run Tryz.prog w = .ok v w := by
 rcases hown.2 with ⟨rfl, rfl⟩ | ⟨g, cap, cur, rfl, _, _, hnc, _⟩
 ·cases A with
  | none => simp [Builtin.append_, run_underlying ht, sizeOf, typeInfo, hi, Builtin.lenOf, Builtin.firstCells]
  | some ad =>
    have hf := run_firstCells_some (P := Tryz.prog) w i.size 0 ad 0 c [] (by simp) (fun j v hj => by simp at hj)
    simp [Builtin.append_, run_underlying ht, sizeOf, typeInfo, hi, Builtin.lenOf, hf]
 ·cases A with
  | none => simp [Builtin.append_, run_underlying ht, sizeOf, typeInfo, hi, Builtin.lenOf, Builtin.firstCells, hnc, storeCells]
  | some ad =>
    have hf := run_firstCells_some (P := Tryz.prog) w i.size 0 ad 0 c [] (by simp) (fun j v hj => by simp at hj)
    simp [Builtin.append_, run_underlying ht, sizeOf, typeInfo, hi, Builtin.lenOf, hf, hnc, storeCells]
theorem q0s {w : World} {o : Oper} {a : Act} {K : Act → World → Prop} {Q : Exit → Act → World → Prop}
 (s x : Operand) (t : TypeId) (hop : o.op = Op.call { callee := Callee.builtin Builtin.append, args := #[s, x], argTypes := #[t, t] })
 (base : Nat) (e : TypeId) (i : TypeInfo) (z : Value) (k bytes : Nat) (h1 : Tryz.prog.underlying t = some (.slice e)) (h2 : Tryz.prog.info? e = some i) (h3 : i.zero = some z) (h4 : i.size = k) (h5 : i.bytes = bytes) (h6 : z.cells.size = k) (hz : ∀ u ∈ z.cells.toList, noU u = true)
 (v : Value) (n : Nat) (xs : List Value) (hs : a.eval s = v) (hown : OwnX w base e k v n xs) (A : Option Addr) (m : Nat) (news : List Value) (c : Nat) (hx : a.eval x = .slice A m c) (hnl : news.length = m * k) (hsrc : 0 < m → ∃ ad, A = some ad ∧ ∀ j y, news[j]? = some y → w.cell? (ad.add j) = some y) (h1c : ∀ y ∈ news, y.oneCell' = true) (hnu : ∀ y ∈ news, noU y = true)
 (b1 : n + m ≤ 1099511627776) (b2 : bytes ≤ 128) (hbase : base ≤ w.heap.size)
 (hK : ∀ v' w', OwnX w' base e k v' (n + m) (xs ++ news) → Fr (fun g => v.ownBlock = some g) w w' → qyo w v v' → K (a.put o.dst v') w') :
 Oper.wp Tryz.prog o a w K Q := by
 rcases Nat.eq_zero_or_pos m with hm | hm
 ·subst hm
  have hn0 : news = [] := List.eq_nil_of_length_eq_zero (by simpa using hnl)
  subst hn0
  have hr := q2u (ty := o.type) h1 h2 hown A c
  unfold Oper.wp
  simp [execOp, hop, resolve, invoke, builtin, hs, hx, hr, Result.andThen]
  exact hK v w (by simpa using hown) (Fr.refl _ _) (.inl rfl)
 ·obtain ⟨ad, rfl, hnews⟩ := hsrc hm
  exact wp_pushN s x t hop base e i z k bytes h1 h2 h3 h4 h5 h6 hz v n xs hs hown ad m news c hx hm hnl hnews h1c hnu b1 b2 hbase hK
theorem qyk {w : World} {b off L : Nat} (h : ∀ i, i < L → ∃ y, w.cell? ⟨b, off + i, none⟩ = some y ∧ y.oneCell' = true ∧ noU y = true) :
 ∃ xs : List Value, xs.length = L ∧ (∀ i, i < L → xs[i]? = w.cell? ⟨b, off + i, none⟩) ∧ (∀ j y, xs[j]? = some y → w.cell? ((⟨b, off, none⟩ : Addr).add j) = some y) ∧ (∀ y ∈ xs, y.oneCell' = true) ∧ ∀ y ∈ xs, noU y = true := by
 have key : ∀ i, i < L → ((List.range L).map fun j => (w.cell? ⟨b, off + j, none⟩).getD .nilIface)[i]? = w.cell? ⟨b, off + i, none⟩ := fun i hi => by
  obtain ⟨y, hy, _⟩ := h i hi
  rw [List.getElem?_map, List.getElem?_range hi]
  simp [hy]
 refine ⟨_, by simp, key, fun j y hj => ?_, fun y hy => ?_, fun y hy => ?_⟩
 ·have hl : j < L := by have := (List.getElem?_eq_some_iff.1 hj).1; simpa using this
  rw [key j hl] at hj
  rw [show (⟨b, off, none⟩ : Addr).add j = ⟨b, off + j, none⟩ by simp [Addr.add]]
  exact hj
 ·obtain ⟨j, hj, rfl⟩ := List.mem_map.1 hy
  obtain ⟨y, hy', h1, _⟩ := h j (List.mem_range.1 hj)
  rw [hy']; exact h1
 ·obtain ⟨j, hj, rfl⟩ := List.mem_map.1 hy
  obtain ⟨y, hy', _, h2⟩ := h j (List.mem_range.1 hj)
  rw [hy']; exact h2
def PRX (w : World) (X : Nat → Option Value) (off : Nat) (r : RL) : Prop :=
 ∃ A c x B d e y B' d' e', X off = some (.slice A r.coef.length c) ∧ X (off + 1) = some (.int .u8 (r.rel : Int)) ∧ X (off + 2) = some (.bool x) ∧ X (off + 3) = some (.slice B d e) ∧ X (off + 4) = some (.bool y) ∧ X (off + 5) = some (.slice B' d' e') ∧ r.rel ≤ 255 ∧
  q94 w A r.coef.length c (fun j => r.coef.getD j 0) ∧ RatV w (.agg #[.bool x, .slice B d e, .bool y, .slice B' d' e']) r.right
def q5k (w : World) (X : Nat → Option Value) (rows : List RL) : Prop := ∀ j r, rows[j]? = some r → PRX w X (j * 6) r
theorem q94.fr {P : Nat → Prop} {w w' : World} {A : Option Addr} {n c : Nat} {f : Nat → Rat} (h : q94 w A n c f) (k : Fr P w w') (hP : ∀ b n f, RowR w b n f → ¬ P b) : q94 w' A n c f :=
 ⟨h.1, h.2.1, fun hn => by obtain ⟨b, e, hr⟩ := h.2.2 hn; exact ⟨b, e, hr.fr k (hP _ _ _ hr)⟩⟩
theorem PRX.fr {P : Nat → Prop} {w w' : World} {X : Nat → Option Value} {off : Nat} {r : RL} (h : PRX w X off r) (k : Fr P w w') (hP : ∀ b n f, RowR w b n f → ¬ P b) : PRX w' X off r := by
 obtain ⟨A, c, x, B, d, e, y, B', d', e', h0, h1, h2, h3, h4, h5, h6, h7, h8⟩ := h
 exact ⟨A, c, x, B, d, e, y, B', d', e', h0, h1, h2, h3, h4, h5, h6, h7.fr k hP, k.rat h8⟩
theorem PRX.ext {w w' : World} {X : Nat → Option Value} {off : Nat} {r : RL} (h : PRX w X off r) (k : Ext w w') : PRX w' X off r := h.fr (P := fun _ => False) (Fr.of k) (fun _ _ _ _ => id)
theorem PRX.X {w : World} {X Y : Nat → Option Value} {off off' : Nat} {r : RL} (h : PRX w X off r) (e : ∀ i, i < 6 → ∀ u, X (off + i) = some u → Y (off' + i) = some u) : PRX w Y off' r := by
 obtain ⟨A, c, x, B, d, e1, y, B', d', e', h0, h1, h2, h3, h4, h5, h6, h7, h8⟩ := h
 exact ⟨A, c, x, B, d, e1, y, B', d', e', e 0 (by omega) _ h0, e 1 (by omega) _ h1, e 2 (by omega) _ h2, e 3 (by omega) _ h3, e 4 (by omega) _ h4, e 5 (by omega) _ h5, h6, h7, h8⟩
theorem q5k.fr {P : Nat → Prop} {w w' : World} {X : Nat → Option Value} {rows : List RL} (h : q5k w X rows) (k : Fr P w w') (hP : ∀ b n f, RowR w b n f → ¬ P b) : q5k w' X rows := fun j r hj => (h j r hj).fr k hP
theorem q5k.ext {w w' : World} {X : Nat → Option Value} {rows : List RL} (h : q5k w X rows) (k : Ext w w') : q5k w' X rows := fun j r hj => (h j r hj).ext k
theorem q5k.push {w : World} {xs ys : List Value} {rows : List RL} {r : RL} (h : q5k w (fun i => xs[i]?) rows) (hl : xs.length = rows.length * 6) (hr : PRX w (fun i => ys[i]?) 0 r) : q5k w (fun i => (xs ++ ys)[i]?) (rows ++ [r]) := by
 intro j s hj
 rcases Nat.lt_or_ge j rows.length with hlt | hge
 ·rw [List.getElem?_append_left hlt] at hj
  exact (h j s hj).X fun i hi u hu => (List.getElem?_append_left (by omega)).trans hu
 ·rw [List.getElem?_append_right hge] at hj
  have hj0 : j - rows.length = 0 := by
   have := (List.getElem?_eq_some_iff.1 hj).1; simp at this; omega
  rw [hj0] at hj
  obtain rfl := Option.some.inj hj
  refine hr.X fun i hi u hu => ?_
  show (xs ++ ys)[j * 6 + i]? = some u
  rw [List.getElem?_append_right (by omega), hl, ← hu]
  show ys[j * 6 + i - rows.length * 6]? = ys[0 + i]?
  congr 1; omega
theorem prows_src {w : World} {b off : Nat} {rows : List RL} (h : q5k w (fun i => w.cell? ⟨b, off + i, none⟩) rows) :
 ∃ xs : List Value, xs.length = rows.length * 6 ∧ (∀ j y, xs[j]? = some y → w.cell? ((⟨b, off, none⟩ : Addr).add j) = some y) ∧ (∀ y ∈ xs, y.oneCell' = true) ∧ (∀ y ∈ xs, noU y = true) ∧ q5k w (fun i => xs[i]?) rows := by
 obtain ⟨xs, h1, h2, h3, h4, h5⟩ := qyk (w := w) (b := b) (off := off) (L := rows.length * 6) (fun i hi => by
  obtain ⟨A, c, x, B, d, e, y, B', d', e', g0, g1, g2, g3, g4, g5, _⟩ := h (i / 6) _ (List.getElem?_eq_getElem (by omega))
  rcases (show i % 6 = 0 ∨ i % 6 = 1 ∨ i % 6 = 2 ∨ i % 6 = 3 ∨ i % 6 = 4 ∨ i % 6 = 5 by omega) with q | q | q | q | q | q
  ·exact ⟨_, by rw [show off + i = off + i / 6 * 6 by omega]; exact g0, rfl, rfl⟩
  ·exact ⟨_, by rw [show off + i = off + (i / 6 * 6 + 1) by omega]; exact g1, rfl, rfl⟩
  ·exact ⟨_, by rw [show off + i = off + (i / 6 * 6 + 2) by omega]; exact g2, rfl, rfl⟩
  ·exact ⟨_, by rw [show off + i = off + (i / 6 * 6 + 3) by omega]; exact g3, rfl, rfl⟩
  ·exact ⟨_, by rw [show off + i = off + (i / 6 * 6 + 4) by omega]; exact g4, rfl, rfl⟩
  ·exact ⟨_, by rw [show off + i = off + (i / 6 * 6 + 5) by omega]; exact g5, rfl, rfl⟩)
 refine ⟨xs, h1, h3, h4, h5, fun j r hj => ?_⟩
 have hjl : j < rows.length := (List.getElem?_eq_some_iff.1 hj).1
 exact (h j r hj).X fun i hi u hu => by rw [← hu]; exact h2 _ (by omega)
theorem qpe {w : World} {base : Nat} {v : Value} {obj : List Rat} {rows : List RL} {xs : List Value} {Ao : Option Addr} {co : Nat} (o : OwnX w base 75 6 v rows.length xs) (h : q5k w (fun i => xs[i]?) rows) (ho : q94 w Ao obj.length co (fun j => obj.getD j 0)) :
 qga w (.agg #[.slice Ao obj.length co, v]) (⟨obj, rows⟩ : PL).toP := by
 obtain ⟨A, c, rfl⟩ := o.shape
 have hcap : rows.length ≤ c ∧ c ≤ 9223372036854775807 := by
  rcases o.2 with ⟨e', h0⟩ | ⟨g, cap, cur, e', _, _, h5, h6, _⟩
  ·injection e' with _ _ e'; omega
  ·injection e' with _ _ e'
   unfold maxLen at h6; omega
 refine ⟨Ao, co, A, c, rfl, ho, hcap.1, hcap.2, fun hm => ?_⟩
 obtain ⟨g, cap, e, _, hb, h3, h4, _, _, h8⟩ := o.cells hm
 injection e with e1 e2 e3
 refine ⟨g, e1, fun i hi => ?_⟩
 have hi' : i < rows.length := hi
 obtain ⟨A', c', x, B, d, e, y, B', d', e', g0, g1, g2, g3, g4, g5, h6, h7, h8'⟩ := h i rows[i] (List.getElem?_eq_getElem hi')
 have hrw : (⟨obj, rows⟩ : PL).rows.getD i RL.zero = rows[i] := by
  show rows.getD i RL.zero = rows[i]
  rw [List.getD_eq_getElem?_getD, List.getElem?_eq_getElem hi']; rfl
 refine ⟨A', c', x, B, d, e, y, B', d', e', ?_, ?_, h8 _ _ g2, h8 _ _ g3, h8 _ _ g4, h8 _ _ g5, ?_, ?_, ?_⟩
 ·show _ = some (Value.slice A' ((⟨obj, rows⟩ : PL).rows.getD i RL.zero).coef.length c'); rw [hrw]; exact h8 _ _ g0
 ·show _ = some (Value.int .u8 (((⟨obj, rows⟩ : PL).rows.getD i RL.zero).rel : Int)); rw [hrw]; exact h8 _ _ g1
 ·show q94 w A' ((⟨obj, rows⟩ : PL).rows.getD i RL.zero).coef.length c' (fun j => ((⟨obj, rows⟩ : PL).rows.getD i RL.zero).coef.getD j 0); rw [hrw]; exact h7
 ·show ((⟨obj, rows⟩ : PL).rows.getD i RL.zero).rel ≤ 255; rw [hrw]; exact h6
 ·show RatV w _ ((⟨obj, rows⟩ : PL).rows.getD i RL.zero).right; rw [hrw]; exact h8'
def Pts (w : World) (b n : Nat) (f : Nat → Int) : Prop := ∃ cs : Array Value, w.heap[b]? = some (.cells cs 3 (0, 0)) ∧ cs.size = n ∧ ∀ j, j < n → cs[j]? = some (.int .i64 (f j))
section
variable {w w' : World} {b n : Nat} {f g : Nat → Int}
theorem Pts.cell (h : Pts w b n f) {j : Nat} (hj : j < n) : w.cell? ⟨b, j, none⟩ = some (.int .i64 (f j)) := by
 obtain ⟨cs, h1, _, h3⟩ := h; exact (cell_of_row w b j cs _ (0, 0) h1).trans (h3 j hj)
theorem Pts.frozen (h : Pts w b n f) (j : Nat) : w.frozen? ⟨b, j, none⟩ = false := by
 obtain ⟨cs, h1, _⟩ := h; simp [World.frozen?, h1]
theorem Pts.fr {P : Nat → Prop} (h : Pts w b n f) (k : Fr P w w') (hp : ¬ P b) : Pts w' b n f := by
 obtain ⟨cs, h1, h2⟩ := h; exact ⟨cs, k.row hp h1, h2⟩
theorem Pts.ext (h : Pts w b n f) (k : Ext w w') : Pts w' b n f := h.fr (P := fun _ => False) (Fr.of k) id
theorem Pts.congr (h : Pts w b n f) (e : ∀ j, j < n → f j = g j) : Pts w b n g := by
 obtain ⟨cs, h1, h2, h3⟩ := h; exact ⟨cs, h1, h2, fun j hj => by rw [h3 j hj, e j hj]⟩
theorem Pts.set (h : Pts w b n f) {j : Nat} (hj : j < n) (x : Int) : Pts (w.setCell ⟨b, j, none⟩ (.int .i64 x)) b n (fun i => if i = j then x else f i) := by
 obtain ⟨cs, h1, h2, h3⟩ := h
 refine ⟨cs.setIfInBounds j (.int .i64 x), ?_, by simpa using h2, fun i hi => (?_ : _ = some (Value.int .i64 (if i = j then x else f i)))⟩
 ·simp [World.setCell, Array.getElem?_modify, h1]
 ·by_cases e : i = j
  ·subst e; rw [if_pos rfl]; simp [h2, hi]
  ·rw [if_neg e, Array.getElem?_setIfInBounds_ne (Ne.symm e)]; exact h3 i hi
end
def qmf (K : Nat) (w : World) : BT → Nat → Nat → Prop
 | .leaf e m y, b, h => b < h ∧ ∃ A c, Box w b 79 (q89 (-1) 0 none none e A m c) ∧ q94 w A m c y ∧ ∀ j, j < m → QB K (y j)
 | .node v f x z, b, h => ∃ bx hx bz, b < bx ∧ qmf K w x bx hx ∧ hx ≤ bz ∧ qmf K w z bz h ∧ Box w b 79 (q89 v f (some ⟨bx, 0, none⟩) (some ⟨bz, 0, none⟩) false none 0 0)
theorem qmf.lt {K : Nat} {w : World} {t : BT} {b h : Nat} (k : qmf K w t b h) : b < h := by
 induction t generalizing b h with
 | leaf e m y => exact k.1
 | node v f x z ihx ihz =>
   obtain ⟨bx, hx, bz, h1, h2, h3, h4, -⟩ := k
   have := ihx h2
   have := ihz h4
   omega
theorem qmf.up {K : Nat} {w : World} {t : BT} {b h h' : Nat} (k : qmf K w t b h) (e : h ≤ h') : qmf K w t b h' := by
 induction t generalizing b h with
 | leaf _ m y => exact ⟨Nat.lt_of_lt_of_le k.1 e, k.2⟩
 | node v f x z ihx ihz =>
   obtain ⟨bx, hx, bz, h1, h2, h3, h4, h5⟩ := k
   exact ⟨bx, hx, bz, h1, h2, h3, ihz h4 e, h5⟩
theorem qmf.fr {P : Nat → Prop} {K : Nat} {w w' : World} {t : BT} {b h : Nat} (k : qmf K w t b h) (r : Fr P w w') (hn : ∀ k cs, w.heap[k]? = some (.cells cs 79 (0, 0)) → ¬ P k) (hr : ∀ b n f, RowR w b n f → ¬ P b) : qmf K w' t b h := by
 induction t generalizing b h with
 | leaf _ m y =>
   obtain ⟨h1, A, c, h2, h3, h4⟩ := k
   exact ⟨h1, A, c, r.box h2 (hn _ _ h2), h3.fr r hr, h4⟩
 | node v f x z ihx ihz =>
   obtain ⟨bx, hx, bz, h1, h2, h3, h4, h5⟩ := k
   exact ⟨bx, hx, bz, h1, ihx h2, h3, ihz h4, r.box h5 (hn _ _ h5)⟩
theorem qmf.ext {K : Nat} {w w' : World} {t : BT} {b h : Nat} (k : qmf K w t b h) (r : Ext w w') : qmf K w' t b h := k.fr (P := fun _ => False) (Fr.of r) (fun _ _ _ => id) (fun _ _ _ _ => id)
def qhb (w : World) (sb L n : Nat) (s : BS) : Prop :=
 ∃ fo va A m c, Box w sb 153 #[.int .i64 (L : Int), .int .i64 (s.solved : Int), .bool fo, .int .i64 va, .slice A m c] ∧ (s.best = none → fo = false) ∧
  ∀ v x, s.best = some (v, x) → fo = true ∧ va = v ∧ fit v = true ∧ m = n ∧ c = n ∧ ∃ g, A = some ⟨g, 0, none⟩ ∧ Pts w g n x
theorem qhb.ext {w w' : World} {sb L n : Nat} {s : BS} (h : qhb w sb L n s) (k : Ext w w') : qhb w' sb L n s := by
 obtain ⟨fo, va, A, m, c, h1, h2, h3⟩ := h
 refine ⟨fo, va, A, m, c, h1.ext k, h2, fun v x e => ?_⟩
 obtain ⟨a1, a2, a0, a3, a4, g, a5, a6⟩ := h3 v x e
 exact ⟨a1, a2, a0, a3, a4, g, a5, a6.ext k⟩
abbrev FrS (sb : Nat) (w w' : World) : Prop := Fr (fun k => k = sb) w w'
theorem qcm {w : World} {sb : Nat} {cs : Array Value} (h : Box w sb 153 cs) : ∀ b n f, RowR w b n f → ¬ (b = sb) := by
 rintro b n f ⟨ds, h1, -⟩ rfl
 unfold Box at h
 rw [h1] at h
 injection h with h
 injection h with _ h _
 exact absurd h (by decide)
theorem q5y {w : World} {sb : Nat} {cs : Array Value} (h : Box w sb 153 cs) : ∀ k ds, w.heap[k]? = some (.cells ds 79 (0, 0)) → ¬ (k = sb) := by
 rintro k ds h1 rfl
 unfold Box at h
 rw [h1] at h
 injection h with h
 injection h with _ h _
 exact absurd h (by decide)
theorem qmf.frS {K sb : Nat} {w w' : World} {t : BT} {b h : Nat} {cs : Array Value} (k : qmf K w t b h) (r : FrS sb w w') (hs : Box w sb 153 cs) : qmf K w' t b h :=
 k.fr r (q5y hs) (qcm hs)
theorem q94.frS {w w' : World} {sb : Nat} {cs : Array Value} {A : Option Addr} {n c : Nat} {f : Nat → Rat} (h : q94 w A n c f) (r : FrS sb w w') (hs : Box w sb 153 cs) : q94 w' A n c f := h.fr r (qcm hs)
theorem qga.frS {w w' : World} {sb : Nat} {x1 : Int} {cs : List Value} {v : Value} {p : Prob} (h : qga w v p) (r : FrS sb w w') (hs : Box w sb 153 (.int .i64 x1 :: cs).toArray) : qga w' v p := by
 obtain ⟨Ao, co, Ar, cr, rfl, h1, h2, h3, h4⟩ := h
 refine ⟨Ao, co, Ar, cr, rfl, h1.frS r hs, h2, h3, fun hm => ?_⟩
 obtain ⟨br, e, hr⟩ := h4 hm
 have hne : ¬ (br = sb) := by
  rintro rfl
  obtain ⟨Ac, cc, x, A, d, e', y, A', d', e'', g0, -⟩ := hr 0 hm
  have c0 := hs.c0
  rw [Nat.zero_mul] at g0
  rw [g0] at c0
  cases c0
 refine ⟨br, e, fun i hi => ?_⟩
 obtain ⟨Ac, cc, x, A, d, e', y, A', d', e'', g0, g1, g2, g3, g4, g5, k1, k2, k3⟩ := hr i hi
 exact ⟨Ac, cc, x, A, d, e', y, A', d', e'', r.cell hne g0, r.cell hne g1, r.cell hne g2, r.cell hne g3, r.cell hne g4, r.cell hne g5, k1.frS r hs, k2, r.rat k3⟩
theorem qga.congr {w : World} {v : Value} {p q : Prob} (h : qga w v p) (hn : p.n = q.n) (hm : p.m = q.m) (ho : ∀ j, j < p.n → p.obj j = q.obj j) (hr : ∀ i, i < p.m → p.len i = q.len i ∧ p.rel i = q.rel i ∧ p.right i = q.right i ∧ ∀ j, j < p.len i → p.coef i j = q.coef i j) : qga w v q := by
 obtain ⟨Ao, co, Ar, cr, rfl, h1, h2, h3, h4⟩ := h
 refine ⟨Ao, co, Ar, cr, by rw [hn, hm], ?_, by omega, h3, fun hq => ?_⟩
 ·rw [← hn]; exact h1.congr ho
 ·obtain ⟨br, e, hrow⟩ := h4 (by omega)
  refine ⟨br, e, fun i hi => ?_⟩
  obtain ⟨Ac, cc, x, A, d, e', y, A', d', e'', g0, g1, g2, g3, g4, g5, k1, k2, k3⟩ := hrow i (by omega)
  obtain ⟨r1, r2, r3, r4⟩ := hr i (by omega)
  refine ⟨Ac, cc, x, A, d, e', y, A', d', e'', by rw [← r1]; exact g0, by rw [← r2]; exact g1, g2, g3, g4, g5, ?_, by rw [← r2]; exact k2, by rw [← r3]; exact k3⟩
  rw [← r1]; exact k1.congr r4
def Prob.toL (p : Prob) : PL := ⟨(List.range p.n).map p.obj, (List.range p.m).map fun i => ⟨(List.range (p.len i)).map (p.coef i), p.rel i, p.right i⟩⟩
theorem qnl {α : Type} (f : Nat → α) (z : α) {n i : Nat} (h : i < n) : ((List.range n).map f).getD i z = f i := by
 rw [List.getD_eq_getElem?_getD, List.getElem?_map, List.getElem?_range h]; rfl
theorem Prob.toL_row (p : Prob) {i : Nat} (h : i < p.m) : p.toL.rows.getD i RL.zero = ⟨(List.range (p.len i)).map (p.coef i), p.rel i, p.right i⟩ := qnl _ _ h
theorem qga.toL {w : World} {v : Value} {p : Prob} (h : qga w v p) : qga w v p.toL.toP := by
 refine h.congr (by show _ = ((List.range p.n).map p.obj).length; simp) (by show _ = ((List.range p.m).map _).length; simp) (fun j hj => (qnl _ _ hj).symm) (fun i hi => ?_)
 show _ = (p.toL.rows.getD i RL.zero).coef.length ∧ _ = (p.toL.rows.getD i RL.zero).rel ∧ _ = (p.toL.rows.getD i RL.zero).right ∧ ∀ j, j < p.len i → p.coef i j = (p.toL.rows.getD i RL.zero).coef.getD j 0
 rw [p.toL_row hi]
 exact ⟨by simp, rfl, rfl, fun j hj => (qnl _ _ hj).symm⟩
def qgh (n v : Nat) (f : Int) (b : Bool) : RL := ⟨(List.range n).map (fun j => if j = v then 1 else 0), if b = true then 3 else 1, ((f + (if b = true then 1 else 0) : Int) : Rat)⟩
theorem qga.side {w : World} {x : Value} {p : Prob} {v : Nat} {f : Int} {b : Bool} (h : qga w x (⟨p.toL.obj, p.toL.rows ++ [qgh p.n v f b]⟩ : PL).toP) : qga w x (p.side v f b) := by
 have hlm : p.toL.rows.length = p.m := by show ((List.range p.m).map _).length = _; simp
 have hln : p.toL.obj.length = p.n := by show ((List.range p.n).map _).length = _; simp
 refine h.congr hln (by show (p.toL.rows ++ [qgh p.n v f b]).length = p.m + 1; rw [List.length_append, hlm]; rfl) (fun j hj => qnl _ _ (by rw [← hln]; exact hj)) (fun i hi => ?_)
 have hi : i < (p.toL.rows ++ [qgh p.n v f b]).length := hi
 rw [List.length_append, hlm] at hi
 have hi : i < p.m + 1 := hi
 show ((p.toL.rows ++ [qgh p.n v f b]).getD i RL.zero).coef.length = (if i = p.m then p.n else p.len i) ∧ ((p.toL.rows ++ [qgh p.n v f b]).getD i RL.zero).rel = (if i = p.m then (if b = true then 3 else 1) else p.rel i) ∧ ((p.toL.rows ++ [qgh p.n v f b]).getD i RL.zero).right = (if i = p.m then ((f + (if b = true then 1 else 0) : Int) : Rat) else p.right i) ∧
  ∀ j, j < ((p.toL.rows ++ [qgh p.n v f b]).getD i RL.zero).coef.length → ((p.toL.rows ++ [qgh p.n v f b]).getD i RL.zero).coef.getD j 0 = (if i = p.m then (fun j => if j = v then 1 else 0) else p.coef i) j
 by_cases e : i = p.m
 ·have hg : (p.toL.rows ++ [qgh p.n v f b]).getD i RL.zero = qgh p.n v f b := by
   rw [List.getD_eq_getElem?_getD, List.getElem?_append_right (by omega), hlm, e, Nat.sub_self]; rfl
  rw [hg, if_pos e, if_pos e, if_pos e, if_pos e]
  refine ⟨by show ((List.range p.n).map _).length = _; simp, rfl, rfl, fun j hj => qnl _ _ ?_⟩
  have hj : j < ((List.range p.n).map fun j => if j = v then (1 : Rat) else 0).length := hj
  simpa using hj
 ·have hg : (p.toL.rows ++ [qgh p.n v f b]).getD i RL.zero = p.toL.rows.getD i RL.zero := by
   rw [List.getD_eq_getElem?_getD, List.getD_eq_getElem?_getD, List.getElem?_append_left (by omega)]
  rw [hg, p.toL_row (by omega), if_neg e, if_neg e, if_neg e, if_neg e]
  refine ⟨by simp, rfl, rfl, fun j hj => qnl _ _ ?_⟩
  have hj : j < ((List.range (p.len i)).map (p.coef i)).length := hj
  simpa using hj
structure CanI (p : Prob) (k M K : Nat) : Prop where
 val : qba p = true
 n : p.n ≤ k
 m : p.m ≤ M
 lim : M ≤ 1000
 obj : ∀ j, j < p.n → QB 2 (p.obj j)
 coef : ∀ i, i < p.m → ∀ j, j < p.n → QB 2 (p.coef i j)
 right : ∀ i, i < p.m → QB 3 (p.right i)
 big : bK3 M k 2 3 2 ≤ K
 top : K ≤ 134217728
theorem CanI.bnd {p : Prob} {k M K : Nat} (h : CanI p k M K) : Bnd p K := by
 have hr := (validB_iff.1 h.val).vrel
 have h1 : bK3 p.m k 2 3 2 ≤ bK3 M k 2 3 2 := qrw h.m (Nat.le_refl _) (Nat.le_refl _)
 have := h.big
 have := h.top
 exact (Bnd.of hr k 2 3 2 (.inl h.n) (by omega) (by omega) (by omega) (by omega) h.obj h.coef h.right).up (by omega) (by omega)
theorem fit_QB {f : Int} (h : fit f = true) (b : Bool) : QB 3 (((f + (if b = true then 1 else 0) : Int)) : Rat) := by
 obtain ⟨h1, h2⟩ := fit_iff.1 h
 refine ⟨?_, qgv (by omega)⟩
 show B 3 (f + (if b = true then 1 else 0))
 unfold B
 have : pw 3 = 79228162514264337593543950336 := by decide
 rw [this]
 split <;> omega
theorem CanI.side {p : Prob} {k M K : Nat} (h : CanI p k M K) (hm : p.m + 1 ≤ M) {v : Nat} {f : Int} (hf : fit f = true) (b : Bool) : CanI (p.side v f b) k M K := by
 obtain ⟨a1, a2, a3, a4⟩ := validB_iff.1 h.val
 have hM := h.lim
 refine ⟨validB_iff.2 ⟨a1, a2, ?_, fun i hi => ?_⟩, h.n, hm, h.lim, h.obj, fun i hi j hj => ?_, fun i hi => ?_, h.big, h.top⟩
 ·show p.m + 1 ≤ 1000; omega
 ·have hi : i < p.m + 1 := hi
  show (if i = p.m then p.n else p.len i) = p.n ∧ 1 ≤ (if i = p.m then (if b = true then 3 else 1) else p.rel i) ∧ (if i = p.m then (if b = true then 3 else 1) else p.rel i) ≤ 3
  by_cases e : i = p.m
  ·rw [if_pos e, if_pos e]; refine ⟨rfl, ?_⟩; split <;> exact ⟨by omega, by omega⟩
  ·rw [if_neg e, if_neg e]; exact a4 i (by omega)
 ·have hi : i < p.m + 1 := hi
  show QB 2 ((if i = p.m then (fun j => if j = v then 1 else 0) else p.coef i) j)
  by_cases e : i = p.m
  ·rw [if_pos e]
   show QB 2 (if j = v then 1 else 0)
   split
   ·exact q9t (by omega)
   ·exact qkw (by omega)
  ·rw [if_neg e]; exact h.coef i (by omega) j hj
 ·have hi : i < p.m + 1 := hi
  show QB 3 (if i = p.m then ((f + (if b = true then 1 else 0) : Int) : Rat) else p.right i)
  by_cases e : i = p.m
  ·rw [if_pos e]; exact fit_QB hf b
  ·rw [if_neg e]; exact h.right i (by omega)
def CT.dep : CT → Nat
 | .nil => 0
 | .node _ _ _ _ _ a b => 1 + max a.dep b.dep
def CT.isNil : CT → Bool
 | .nil => true
 | .node .. => false
def CT.wf : CT → Bool
 | .nil => false
 | .node vr fl em n _ a b => if vr = -1 then decide (fl = 0) && (a.isNil && b.isNil) else decide (0 ≤ vr) && (decide (vr ≤ 9999) && (!em && (decide (n = 0) && (a.wf && b.wf))))
def CT.hgt : CT → Int
 | .nil => -1
 | .node vr fl em n _ a b => if vr = -1 then (if fl = 0 ∧ a.isNil = true ∧ b.isNil = true then 0 else -1) else if 0 ≤ vr ∧ vr ≤ 9999 ∧ em = false ∧ n = 0 then (if 0 ≤ a.hgt ∧ 0 ≤ b.hgt then max a.hgt b.hgt + 1 else -1) else -1
theorem CT.hgt_lo (t : CT) : -1 ≤ t.hgt := by
 cases t with
 | nil => exact Int.le_refl _
 | node vr fl em n y a b =>
   unfold CT.hgt
   split
   ·split <;> omega
   ·split
    ·split
     ·omega
     ·omega
    ·omega
theorem CT.hgt_hi (t : CT) : t.hgt < (t.dep : Int) := by
 induction t with
 | nil => show (-1 : Int) < ((0 : Nat) : Int); omega
 | node vr fl em n y a b iha ihb =>
   have e : (CT.node vr fl em n y a b).dep = 1 + max a.dep b.dep := rfl
   rw [e]
   unfold CT.hgt
   split
   ·split <;> omega
   ·split
    ·split
     ·omega
     ·omega
    ·omega
theorem CT.hgt_wf (t : CT) : 0 ≤ t.hgt ↔ t.wf = true := by
 induction t with
 | nil => exact ⟨fun h => absurd h (by decide), fun h => by cases h⟩
 | node vr fl em n y a b iha ihb =>
   unfold CT.hgt CT.wf
   by_cases h1 : vr = -1
   ·rw [if_pos h1, if_pos h1]
    by_cases h2 : fl = 0 ∧ a.isNil = true ∧ b.isNil = true
    ·rw [if_pos h2]; simp [h2]
    ·rw [if_neg h2]
     simp only [Bool.and_eq_true, decide_eq_true_eq]
     exact ⟨fun h => absurd h (by decide), fun h => absurd h h2⟩
   ·rw [if_neg h1, if_neg h1]
    simp only [Bool.and_eq_true, decide_eq_true_eq, Bool.not_eq_true', ← iha, ← ihb]
    by_cases h2 : 0 ≤ vr ∧ vr ≤ 9999 ∧ em = false ∧ n = 0
    ·rw [if_pos h2]
     by_cases h3 : 0 ≤ a.hgt ∧ 0 ≤ b.hgt
     ·rw [if_pos h3]
      exact ⟨fun _ => ⟨h2.1, h2.2.1, h2.2.2.1, h2.2.2.2, h3⟩, fun _ => by omega⟩
     ·rw [if_neg h3]
      exact ⟨fun h => absurd h (by decide), fun h => absurd h.2.2.2.2 h3⟩
    ·rw [if_neg h2]
     exact ⟨fun h => absurd h (by decide), fun h => absurd ⟨h.1, h.2.1, h.2.2.1, h.2.2.2.1⟩ h2⟩
def CT.fit (n : Nat) : CT → Nat → Bool
 | .nil, _ => false
 | .node vr _ _ ny _ a b, m => if vr = -1 then decide (ny = m) else decide (vr < n) && (a.fit n (m + 1) && b.fit n (m + 1))
def CT.okY (K : Nat) : CT → Prop
 | .nil => True
 | .node _ fl _ n y a b => Lp.fit fl = true ∧ n ≤ 1000 ∧ (∀ j, j < n → QB K (y j)) ∧ a.okY K ∧ b.okY K
def prvC (q : Rat) (s : Bool) : Prob → CT → Bool
 | _, .nil => false
 | p, .node vr fl em n y a b => if 0 ≤ vr then prvC q s (p.side vr.toNat fl false) a && prvC q s (p.side vr.toNat fl true) b else if em = true then pntB p n y else chkB (bndB p n y) (p.rhs y) q s
def lfN (z : Int) (p : Prob) (em : Bool) (n : Nat) (y : Nat → Rat) : Nat :=
 if em = true then (if empB p n y = true then 0 else 1)
 else if q42 p n y (z : Rat) = true then 0
 else if alZ p.obj p.n = true ∧ p.rhs y < (z : Rat) + ((1 : Int) : Rat) ∧ q42 p n y (p.rhs y) = true then 0 else 1
def prvN (z : Int) : Prob → CT → Nat
 | _, .nil => 2
 | p, .node vr fl em n y a b =>
   if vr = -1 then
    (if fl = 0 ∧ a.isNil = true ∧ b.isNil = true ∧ n = p.m then lfN z p em n y else 2)
   else if 0 ≤ vr ∧ vr < (p.n : Int) ∧ em = false ∧ n = 0 then max (prvN z (p.side vr.toNat fl false) a) (prvN z (p.side vr.toNat fl true) b) else 2
theorem qor {p : Prob} {k : Nat} {f : Int} {b : Bool} (h : qba p = true) (hm : p.m + 1 ≤ 1000) : qba (p.side k f b) = true := by
 obtain ⟨a1, a2, a3, a4⟩ := validB_iff.1 h
 refine validB_iff.2 ⟨a1, a2, ?_, fun i hi => ?_⟩
 ·show p.m + 1 ≤ 1000; omega
 ·have hi : i < p.m + 1 := hi
  show (if i = p.m then p.n else p.len i) = p.n ∧ 1 ≤ (if i = p.m then (if b = true then 3 else 1) else p.rel i) ∧ (if i = p.m then (if b = true then 3 else 1) else p.rel i) ≤ 3
  by_cases e : i = p.m
  ·rw [if_pos e, if_pos e]; refine ⟨rfl, ?_⟩; split <;> exact ⟨by omega, by omega⟩
  ·rw [if_neg e, if_neg e]; exact a4 i (by omega)
theorem lfN_le (z : Int) (p : Prob) (em : Bool) (n : Nat) (y : Nat → Rat) : lfN z p em n y ≤ 1 := by
 unfold lfN
 repeat' split
 all_goals omega
theorem qot (z : Int) (t : CT) (p : Prob) : prvN z p t ≤ 2 := by
 induction t generalizing p with
 | nil => exact Nat.le_refl _
 | node vr fl em n y a b iha ihb =>
   unfold prvN
   have h1 := iha (p.side vr.toNat fl false)
   have h2 := ihb (p.side vr.toNat fl true)
   have h3 := lfN_le z p em n y
   repeat' split
   all_goals omega
theorem prv_bad (z : Int) (t : CT) (p : Prob) (hn : p.n ≤ 9999) (h : (t.wf && t.fit p.n p.m) = false) : prvN z p t = 2 := by
 induction t generalizing p with
 | nil => rfl
 | node vr fl em n y a b iha ihb =>
   unfold prvN
   unfold CT.wf CT.fit at h
   by_cases h1 : vr = -1
   ·rw [if_pos h1] at h ⊢
    rw [if_pos h1] at h
    rw [if_neg]
    rintro ⟨e1, e2, e3, e4⟩
    simp [e1, e2, e3, e4] at h
   ·rw [if_neg h1] at h ⊢
    rw [if_neg h1] at h
    split
    ·rename_i h2
     have h2' : vr ≤ 9999 := by omega
     have h3 : (a.wf && a.fit p.n (p.m + 1)) = false ∨ (b.wf && b.fit p.n (p.m + 1)) = false := by
      simp only [decide_eq_true h2.1, decide_eq_true h2', h2.2.2.1, decide_eq_true h2.2.2.2, decide_eq_true h2.2.1, Bool.true_and, Bool.not_false] at h
      revert h
      cases a.wf <;> cases b.wf <;> cases a.fit p.n (p.m + 1) <;> cases b.fit p.n (p.m + 1) <;> simp
     have l1 := qot z a (p.side vr.toNat fl false)
     have l2 := qot z b (p.side vr.toNat fl true)
     rcases h3 with h3 | h3
     ·have := iha (p.side vr.toNat fl false) hn h3
      omega
     ·have := ihb (p.side vr.toNat fl true) hn h3
      omega
    ·rfl
theorem lim_leaf (B s : Bool) (q : Rat) (z : Int) : chkB B q (limZ z s) s = (B && (decide (q ≤ (z : Rat)) || (s && decide (q < (z : Rat) + ((1 : Int) : Rat))))) := by
 unfold chkB limZ
 cases B with
 | false => rfl
 | true =>
   cases s with
   | true =>
     rw [show ((1 : Int) : Rat) = 1 from rfl]
     simp only [Bool.true_and, Bool.not_true, Bool.false_and, Bool.or_false, if_true]
     by_cases h : q < (z : Rat) + 1
     ·simp [h]
     ·have h2 : ¬ q ≤ (z : Rat) := fun h3 => h (by grind)
      simp [h, h2]
   | false =>
     simp only [Bool.true_and, Bool.not_false, Bool.false_and, Bool.or_false, Bool.false_eq_true, if_false]
     rw [Bool.eq_iff_iff]
     simp only [Bool.or_eq_true, decide_eq_true_eq]
     constructor
     ·rintro (h | h)
      ·exact Rat.le_of_lt h
      ·rw [h]; exact Rat.le_refl
     ·intro h
      by_cases e : q = (z : Rat)
      ·exact .inr e
      ·exact .inl (Rat.lt_of_le_of_ne h e)
theorem prv_good (z : Int) (t : CT) (p : Prob) (hv : qba p = true) (hm : p.m + t.dep ≤ 1000) (h : (t.wf && t.fit p.n p.m) = true) : prvN z p t = if prvC (limZ z (alZ p.obj p.n)) (alZ p.obj p.n) p t = true then 0 else 1 := by
 induction t generalizing p with
 | nil => cases h
 | node vr fl em n y a b iha ihb =>
   have hd : (CT.node vr fl em n y a b).dep = 1 + max a.dep b.dep := rfl
   rw [hd] at hm
   unfold prvN prvC
   unfold CT.wf CT.fit at h
   by_cases h1 : vr = -1
   ·rw [if_pos h1] at h ⊢
    rw [if_pos h1] at h
    simp only [Bool.and_eq_true, decide_eq_true_eq] at h
    obtain ⟨⟨e1, e2, e3⟩, e4⟩ := h
    rw [if_pos ⟨e1, e2, e3, e4⟩, if_neg (by omega : ¬ 0 ≤ vr)]
    unfold lfN
    cases em with
    | true =>
      simp only [if_true]
      unfold empB
      rw [hv, Bool.true_and]
    | false =>
      simp only [Bool.false_eq_true, if_false]
      rw [lim_leaf]
      unfold q42
      rw [hv]
      cases bndB p n y with
      | false => simp
      | true =>
        by_cases g1 : p.rhs y ≤ (z : Rat)
        ·simp [g1]
        ·cases alZ p.obj p.n with
         | false => simp [g1]
         | true => by_cases g2 : p.rhs y < (z : Rat) + ((1 : Int) : Rat) <;> simp [g1, g2]
   ·rw [if_neg h1] at h ⊢
    rw [if_neg h1] at h
    simp only [Bool.and_eq_true, decide_eq_true_eq, Bool.not_eq_true'] at h
    obtain ⟨⟨e1, e2, e3, e4, e5, e6⟩, e7, e8, e9⟩ := h
    have i1 := iha (p.side vr.toNat fl false) (qor hv (by omega)) (by show p.m + 1 + a.dep ≤ 1000; omega) (by rw [Bool.and_eq_true]; exact ⟨e5, e8⟩)
    have i2 := ihb (p.side vr.toNat fl true) (qor hv (by omega)) (by show p.m + 1 + b.dep ≤ 1000; omega) (by rw [Bool.and_eq_true]; exact ⟨e6, e9⟩)
    have o1 : ∀ c, (p.side vr.toNat fl c).obj = p.obj := fun _ => rfl
    have o2 : ∀ c, (p.side vr.toNat fl c).n = p.n := fun _ => rfl
    rw [o1, o2] at i1 i2
    rw [if_pos ⟨e1, e7, e3, e4⟩, if_pos e1, i1, i2]
    cases prvC (limZ z (alZ p.obj p.n)) (alZ p.obj p.n) (p.side vr.toNat fl false) a <;> cases prvC (limZ z (alZ p.obj p.n)) (alZ p.obj p.n) (p.side vr.toNat fl true) b <;> rfl
def errN : Nat → Int
 | 0 => 0
 | 1 => 19
 | _ => 3
theorem prv_err (z : Int) (t : CT) (p : Prob) (hv : qba p = true) (hm : p.m + t.dep ≤ 1000) : chkE (qba p && t.wf && t.fit p.n p.m) (prvC (limZ z (alZ p.obj p.n)) (alZ p.obj p.n) p t) = errN (prvN z p t) := by
 have hn := (validB_iff.1 hv).2.1
 rw [hv, Bool.true_and]
 cases h : (t.wf && t.fit p.n p.m) with
 | false => rw [prv_bad z t p (by omega) h]; rfl
 | true =>
   rw [prv_good z t p hv hm h]
   cases prvC (limZ z (alZ p.obj p.n)) (alZ p.obj p.n) p t <;> rfl
structure CanC (p : Prob) (M : Nat) : Prop where
 val : qba p = true
 n : p.n ≤ 6
 m : p.m ≤ M
 lim : M ≤ 300
 obj : ∀ j, j < p.n → QB 3 (p.obj j)
 coef : ∀ i, i < p.m → ∀ j, j < p.n → QB 3 (p.coef i j)
 right : ∀ i, i < p.m → QB 3 (p.right i)
theorem CanC.side {p : Prob} {M : Nat} (h : CanC p M) (hm : p.m + 1 ≤ M) {v : Nat} {f : Int} (hf : Lp.fit f = true) (b : Bool) : CanC (p.side v f b) M := by
 have hl := h.lim
 refine ⟨qor h.val (by omega), h.n, hm, h.lim, h.obj, fun i hi j hj => ?_, fun i hi => ?_⟩
 ·have hi : i < p.m + 1 := hi
  show QB 3 ((if i = p.m then (fun j => if j = v then 1 else 0) else p.coef i) j)
  by_cases e : i = p.m
  ·rw [if_pos e]
   show QB 3 (if j = v then (1 : Rat) else 0)
   split
   ·exact q9t (by omega)
   ·exact qkw (by omega)
  ·rw [if_neg e]; exact h.coef i (by omega) j hj
 ·have hi : i < p.m + 1 := hi
  show QB 3 (if i = p.m then ((f + (if b = true then 1 else 0) : Int) : Rat) else p.right i)
  by_cases e : i = p.m
  ·rw [if_pos e]; exact fit_QB hf b
  ·rw [if_neg e]; exact h.right i (by omega)
end Go.Proofs.YtljncdcjkdgkeaaGreatDoor.Lp

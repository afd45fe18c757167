/- Walk: Check's closure at an empty leaf. -/
import Derived.Test.YtljncdcjkdgkeaaGreatDoorCVA
set_option linter.unusedVariables false
set_option linter.unusedSimpArgs false
namespace Go.Proofs.YtljncdcjkdgkeaaGreatDoor.Lp
open Go.RowKit Go.Proofs.YtljncdcjkdgkeaaGreatDoor.Big Go.Proofs.YtljncdcjkdgkeaaGreatDoor.Rt

set_option maxHeartbeats 8000000 in
set_option maxRecDepth 100000 in
theorem provesC_empty (v f1 f2 f3 : Value) (tb : Nat) (fl : Int) (p : Prob) (Ay : Option Addr) (ny cy : Nat) (y : Nat → Rat) (Kc Kr Ky T : Nat) (w : World) (hT0 : Box w tb 79 (NodeC (-1) fl none none true Ay ny cy)) (hv : ProbV w v p) (hval : validB p = true) (hy : RatsV w Ay ny cy y)
    (hc : ∀ i, i < p.m → ∀ j, j < p.n → QB Kc (p.coef i j)) (hr : ∀ i, i < p.m → QB Kr (p.right i)) (hq : ∀ j, j < ny → QB Ky (y j)) (hT : 1 + p.m * (Kc + Kr + Ky + 1) ≤ T) (hT2 : T ≤ 137438953472) (hT3 : Kc + Kr + Ky ≤ 137438953472) :
    Calls Tryz.prog 48 #[v, .pointer (some ⟨tb, 0, none⟩), f1, f2, f3] w (ValPost w (.bool (pntB p ny y))) := by
  have hv0 := hv
  obtain ⟨Ao, co, Ar, cr, rfl, -⟩ := hv0
  have HC := Lib.hid hc
  have HR := Lib.hid hr
  have HY := Lib.hid hq
  have HT := Lib.hid hT
  have HV := Lib.hid hval
  clear hc hr hq hT hval
  obtain ⟨F, hF⟩ : ∃ F, F = pntB p ny y := ⟨_, rfl⟩
  have HF := Lib.hid hF
  rw [← hF]
  clear hF
  have PB := Box.new w 41 #[.slice Ao p.n co, .slice Ar p.m cr]
  have hE0 : Ext w (w.alloc (.cells #[.slice Ao p.n co, .slice Ar p.m cr] 41)) := (Ext.refl w).alloc _
  go_enter Tryz.func48, Tryz.ntmps48
  go_upto_region 1 with fail
  generalize (w.alloc (.cells #[.slice Ao p.n co, .slice Ar p.m cr] 41)) = V at *
  have TB := hT0.ext hE0
  have t0 : V.cell? ⟨tb, 0, none⟩ = some (.int .i64 (-1)) := TB.cell 0
  have t4 : V.cell? ⟨tb, 4, none⟩ = some (.bool true) := TB.cell 4
  have hvV := hv.ext hE0
  have hyV := hy.ext hE0
  go_upto_region 4 with fail
  have k30 : ∀ w', Later V w' → w'.cell? ⟨_, 0, none⟩ = some _ := fun w' h => (PB.ext h).c0
  have k31 : ∀ w', Later V w' → w'.cell? ⟨_, 1, none⟩ = some _ := fun w' h => (PB.ext h).c1
  have k5 : ∀ w', Later V w' → w'.cell? ⟨tb, 5, none⟩ = some (.slice Ay ny cy) := fun w' h => (TB.ext h).cell 5
  have ks := Later.refl V
  clear t0 t4
  go_region_held3 (fun w' => Later V w') ((repeat (first | assumption | apply Later.drew | apply Later.drewN | apply Later.alloc | (refine Later.step ?_ (by assumption))))) (first
    | (go_at_call 50; (with_reducible refine (pointless_b _ p Ay ny cy y Kc Kr Ky T _ (ProbV.ext hvV (by repeat (first | (with_reducible exact Ext.refl _) | (with_reducible apply Ext.drew) | (with_reducible apply Ext.drewN) | (with_reducible refine Ext.trans ?_ (by assumption))))) HV.out (RatsV.ext hyV (by repeat (first | (with_reducible exact Ext.refl _) | (with_reducible apply Ext.drew) | (with_reducible apply Ext.drewN) | (with_reducible refine Ext.trans ?_ (by assumption))))) HC.out HR.out HY.out HT.out hT2 hT3).mono ?_); rintro e wk ⟨rfl, hxk⟩; rw [← HF.out])
    )
  all_goals (
    have hxk2 : Ext V wk := by assumption
    clear k30 k31 k5
    go_wp2_with fail
    go_ret
    exact ⟨rfl, hE0.trans hxk2⟩)
end Go.Proofs.YtljncdcjkdgkeaaGreatDoor.Lp

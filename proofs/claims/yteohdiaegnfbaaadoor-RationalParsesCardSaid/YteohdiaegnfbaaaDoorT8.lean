/- Walks: the law helpers long, same, two. -/
import Derived.Test.YteohdiaegnfbaaaDoorT6
import Derived.Test.YteohdiaegnfbaaaDoorT7
set_option linter.unusedVariables false
set_option linter.unusedSimpArgs false
namespace Go.Proofs.YteohdiaegnfbaaaDoor.Rt
open Go.RowKit Go.Proofs.YteohdiaegnfbaaaDoor.Big
open Go.Lib (itoa)

theorem long_any (s : ByteArray) (w : World) : Calls Tryd.prog 15 #[.string s] w (fun e w' => e = .returned (.bool (decide ((200 : Int) < s.size))) ∧ w = w') := by
  go_enter Tryd.func15, Tryd.ntmps15
  go_wp2_with fail
  go_ret
  exact ⟨rfl, rfl⟩

theorem RatText_n (x : Value) (q : Rat) (k : Nat) (w : World) (S : ByteArray) (hS : S = ⟨(ratText q).toArray⟩) (hx : RatB w x q k) (hL : k ≤ 549755813888) (htab : TabOK w) : Calls Tryd.prog 14 #[x] w (fun e w' => e = .returned (.string S) ∧ Ext w w') := by
  subst hS; exact RatText_b x q k w hx hL htab

theorem drew_of {w w' : World} (h : Ext w.drew w') : Ext w w' := (Ext.refl w).drew.trans h

set_option maxRecDepth 100000 in
set_option maxHeartbeats 4000000 in
theorem RatSame_eq (x y : Value) (X Y : Rat) (j k : Nat) (w : World) (hx : RatB w x X j) (hy : RatB w y Y k) (hL : max j k ≤ 549755813888) (htab : TabOK w) (h : X = Y) : Calls Tryd.prog 24 #[x, y] w (fun e w' => e = .returned (.bool true) ∧ Ext w w') := by
  have e1 : (cmpQ X Y == 0) = true := by rw [(cmpQ_eq X Y).2 h]; rfl
  obtain ⟨S, hS⟩ : ∃ S : ByteArray, S = ⟨(ratText X).toArray⟩ := ⟨_, rfl⟩
  have hS2 : S = ⟨(ratText Y).toArray⟩ := by rw [hS, h]
  have HS := Lib.hid hS
  have HS2 := Lib.hid hS2
  clear hS hS2 h
  obtain ⟨p1, A1, n1, c1, p1', A1', n1', c1', rfl⟩ := hx.1.shape
  obtain ⟨p2, A2, n2, c2, p2', A2', n2', c2', rfl⟩ := hy.1.shape
  go_enter Tryd.func24, Tryd.ntmps24
  go_wp2_with fail
  obtain ⟨B0, B1, hE0⟩ := boxesT2 w 29 29 #[.bool p1, .slice A1 n1 c1, .bool p1', .slice A1' n1' c1'] #[.bool p2, .slice A2 n2 c2, .bool p2', .slice A2' n2' c2']
  have hX := hx.ext hE0
  have hY := hy.ext hE0
  have hTab := htab.ext hE0
  generalize ((w.alloc (.cells #[.bool p1, .slice A1 n1 c1, .bool p1', .slice A1' n1' c1'] 29)).alloc (.cells #[.bool p2, .slice A2 n2 c2, .bool p2', .slice A2' n2' c2'] 29)) = W at *
  clear hx hy htab
  have k00 : ∀ w', Later W w' → w'.cell? ⟨_, 0, none⟩ = some _ := fun w' h => (B0.ext h).c0
  have k01 : ∀ w', Later W w' → w'.cell? ⟨_, 1, none⟩ = some _ := fun w' h => (B0.ext h).c1
  have k02 : ∀ w', Later W w' → w'.cell? ⟨_, 2, none⟩ = some _ := fun w' h => (B0.ext h).c2
  have k03 : ∀ w', Later W w' → w'.cell? ⟨_, 3, none⟩ = some _ := fun w' h => (B0.ext h).c3
  have k10 : ∀ w', Later W w' → w'.cell? ⟨_, 0, none⟩ = some _ := fun w' h => (B1.ext h).c0
  have k11 : ∀ w', Later W w' → w'.cell? ⟨_, 1, none⟩ = some _ := fun w' h => (B1.ext h).c1
  have k12 : ∀ w', Later W w' → w'.cell? ⟨_, 2, none⟩ = some _ := fun w' h => (B1.ext h).c2
  have k13 : ∀ w', Later W w' → w'.cell? ⟨_, 3, none⟩ = some _ := fun w' h => (B1.ext h).c3
  have hS0 := Later.refl W
  go_region_held3 (fun w' => Later W w') ((repeat (first | assumption | apply Later.drew | apply Later.drewN | apply Later.alloc | (refine Later.step ?_ (by assumption))))) (first
    | (go_at_call 35; (with_reducible refine (RatCmp_b _ _ _ _ _ _ _ (RatB.ext (by assumption) (by repeat (first | (with_reducible exact Ext.refl _) | (with_reducible apply Ext.drew) | (with_reducible apply Ext.drewN) | (with_reducible refine Ext.trans ?_ (by assumption))))) (RatB.ext (by assumption) (by repeat (first | (with_reducible exact Ext.refl _) | (with_reducible apply Ext.drew) | (with_reducible apply Ext.drewN) | (with_reducible refine Ext.trans ?_ (by assumption))))) hL).mono ?_); rintro e wk ⟨rfl, hxk⟩)
    | (go_at_call 14; (with_reducible refine (RatText_n _ _ _ _ S HS.out (hX.ext (by repeat (first | (with_reducible exact Ext.refl _) | (with_reducible apply Ext.drew) | (with_reducible apply Ext.drewN) | (with_reducible refine Ext.trans ?_ (by assumption))))) (by omega) (hTab.ext (by repeat (first | (with_reducible exact Ext.refl _) | (with_reducible apply Ext.drew) | (with_reducible apply Ext.drewN) | (with_reducible refine Ext.trans ?_ (by assumption)))))).mono ?_); rintro e wk ⟨rfl, hxk⟩)
    | (go_at_call 14; (with_reducible refine (RatText_n _ _ _ _ S HS2.out (hY.ext (by repeat (first | (with_reducible exact Ext.refl _) | (with_reducible apply Ext.drew) | (with_reducible apply Ext.drewN) | (with_reducible refine Ext.trans ?_ (by assumption))))) (by omega) (hTab.ext (by repeat (first | (with_reducible exact Ext.refl _) | (with_reducible apply Ext.drew) | (with_reducible apply Ext.drewN) | (with_reducible refine Ext.trans ?_ (by assumption)))))).mono ?_); rintro e wk ⟨rfl, hxk⟩)
    )
  all_goals go_wp2_with fail
  all_goals go_ret
  all_goals exact ⟨rfl, hE0.trans (show Later W _ by assumption)⟩

set_option maxRecDepth 100000 in
set_option maxHeartbeats 4000000 in
theorem RatSame_ne (x y : Value) (X Y : Rat) (j k : Nat) (w : World) (hx : RatB w x X j) (hy : RatB w y Y k) (hL : max j k ≤ 549755813888) (htab : TabOK w) (h : X ≠ Y) : Calls Tryd.prog 24 #[x, y] w (fun e w' => e = .returned (.bool false) ∧ Ext w w') := by
  have e1 : (cmpQ X Y == 0) = false := by
    have := mt (cmpQ_eq X Y).1 h
    simpa using this
  clear h
  obtain ⟨p1, A1, n1, c1, p1', A1', n1', c1', rfl⟩ := hx.1.shape
  obtain ⟨p2, A2, n2, c2, p2', A2', n2', c2', rfl⟩ := hy.1.shape
  go_enter Tryd.func24, Tryd.ntmps24
  go_wp2_with fail
  obtain ⟨B0, B1, hE0⟩ := boxesT2 w 29 29 #[.bool p1, .slice A1 n1 c1, .bool p1', .slice A1' n1' c1'] #[.bool p2, .slice A2 n2 c2, .bool p2', .slice A2' n2' c2']
  have hX := hx.ext hE0
  have hY := hy.ext hE0
  have hTab := htab.ext hE0
  generalize ((w.alloc (.cells #[.bool p1, .slice A1 n1 c1, .bool p1', .slice A1' n1' c1'] 29)).alloc (.cells #[.bool p2, .slice A2 n2 c2, .bool p2', .slice A2' n2' c2'] 29)) = W at *
  clear hx hy htab
  have q00 := B0.c0
  have q01 := B0.c1
  have q02 := B0.c2
  have q03 := B0.c3
  have q10 := B1.c0
  have q11 := B1.c1
  have q12 := B1.c2
  have q13 := B1.c3
  go_region_with (first
    | (go_at_call 35; (with_reducible refine (RatCmp_b _ _ _ _ _ _ _ (hX.ext (by repeat (first | (with_reducible exact Ext.refl _) | (with_reducible apply Ext.drew) | (with_reducible apply Ext.drewN)))) (hY.ext (by repeat (first | (with_reducible exact Ext.refl _) | (with_reducible apply Ext.drew) | (with_reducible apply Ext.drewN)))) hL).mono ?_); rintro e wk ⟨rfl, hxk⟩))
  all_goals go_wp2_with fail
  all_goals go_ret
  all_goals exact ⟨rfl, hE0.trans (drew_of hxk)⟩
end Go.Proofs.YteohdiaegnfbaaaDoor.Rt

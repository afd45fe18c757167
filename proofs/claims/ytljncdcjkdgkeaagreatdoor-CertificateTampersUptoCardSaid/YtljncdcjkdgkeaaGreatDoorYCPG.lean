/- Walk: Check's closure at any tree; Check of any tree. -/
import Derived.Test.YtljncdcjkdgkeaaGreatDoorYCFG
import Derived.Test.YtljncdcjkdgkeaaGreatDoorYCSD
set_option linter.unusedVariables false
set_option linter.unusedSimpArgs false
namespace Go.Proofs.YtljncdcjkdgkeaaGreatDoor.Lp
open Go.RowKit Go.Proofs.YtljncdcjkdgkeaaGreatDoor.Big Go.Proofs.YtljncdcjkdgkeaaGreatDoor.Rt
def ckK (fb lb sb : Nat) : Value := .func (.func 48) #[] #[.pointer (some ⟨fb, 0, none⟩), .pointer (some ⟨lb, 0, none⟩), .pointer (some ⟨sb, 0, none⟩)]
set_option maxHeartbeats 16000000 in
set_option maxRecDepth 100000 in
theorem qf7 (x : Value) (p : Prob) (v : Nat) (f : Int) (em : Bool) (L H Y : Option Addr) (ny cy nb fb lb sb : Nat) (ra rb : Bool) (w : World) (hx : qga w x p) (hv : v < p.n) (hn : p.n ≤ 1000) (hm : p.m ≤ 1000) (hf : fit f = true) (NB : Box w nb 79 (q89 v f L H em Y ny cy)) (FB : Box w fb 106 #[ckK fb lb sb])
 (H1 : ∀ W y, Ext w W → qga W y (p.side v f false) → Calls Tryz.prog 48 #[y, .pointer L, .pointer (some ⟨fb, 0, none⟩), .pointer (some ⟨lb, 0, none⟩), .pointer (some ⟨sb, 0, none⟩)] W (qjz W (.bool ra)))
 (H2 : ∀ W y, Ext w W → qga W y (p.side v f true) → Calls Tryz.prog 48 #[y, .pointer H, .pointer (some ⟨fb, 0, none⟩), .pointer (some ⟨lb, 0, none⟩), .pointer (some ⟨sb, 0, none⟩)] W (qjz W (.bool rb))) :
 Calls Tryz.prog 48 #[x, .pointer (some ⟨nb, 0, none⟩), .pointer (some ⟨fb, 0, none⟩), .pointer (some ⟨lb, 0, none⟩), .pointer (some ⟨sb, 0, none⟩)] w (qjz w (.bool (ra && rb))) := by
 have HH1 := Lib.hid H1
 have HH2 := Lib.hid H2
 clear H1 H2
 obtain ⟨Ao, co, Ar, cr, rfl, -⟩ := id hx
 have PB := Box.new w 41 #[.slice Ao p.n co, .slice Ar p.m cr]
 have hE0 : Ext w (w.alloc (.cells #[.slice Ao p.n co, .slice Ar p.m cr] 41)) := (Ext.refl w).alloc _
 go_enter Tryz.func48, Tryz.ntmps48
 go_upto_region 1 with fail
 generalize (w.alloc (.cells #[.slice Ao p.n co, .slice Ar p.m cr] 41)) = V0 at *
 obtain ⟨pb, hpb⟩ : ∃ x, x = w.heap.size := ⟨_, rfl⟩
 rw [← hpb] at PB ⊢
 clear hpb
 have NB1 := NB.ext hE0
 have FB1 := FB.ext hE0
 have hxV := hx.ext hE0
 have t0 : V0.cell? ⟨nb, 0, none⟩ = some (.int .i64 (v : Int)) := NB1.cell 0
 have i1 : decide ((0 : Int) ≤ (v : Int)) = true := by simp
 go_upto_region 2 with fail
 clear t0 i1
 have k0 : ∀ w', Later V0 w' → w'.cell? ⟨fb, 0, none⟩ = some (.func (.func 48) #[] #[.pointer (some ⟨fb, 0, none⟩), .pointer (some ⟨lb, 0, none⟩), .pointer (some ⟨sb, 0, none⟩)]) := fun w' h => (FB1.ext h).c0
 have k1 : ∀ w', Later V0 w' → w'.cell? ⟨pb, 0, none⟩ = some (.slice Ao p.n co) := fun w' h => (PB.ext h).c0
 have k2 : ∀ w', Later V0 w' → w'.cell? ⟨pb, 1, none⟩ = some (.slice Ar p.m cr) := fun w' h => (PB.ext h).c1
 have k3 : ∀ w', Later V0 w' → w'.cell? ⟨nb, 0, none⟩ = some (.int .i64 (v : Int)) := fun w' h => (NB1.ext h).cell 0
 have k4 : ∀ w', Later V0 w' → w'.cell? ⟨nb, 1, none⟩ = some (.int .i64 f) := fun w' h => (NB1.ext h).cell 1
 have k5 : ∀ w', Later V0 w' → w'.cell? ⟨nb, 2, none⟩ = some (.pointer L) := fun w' h => (NB1.ext h).cell 2
 have k6 : ∀ w', Later V0 w' → w'.cell? ⟨nb, 3, none⟩ = some (.pointer H) := fun w' h => (NB1.ext h).cell 3
 have ks := Later.refl V0
 clear hx NB FB
 cases ra with
 | false =>
   simp only [Bool.false_and]
   refine wp_region_held_drew (S := fun w' => Later V0 w') (by kernel_rfl) ?_ (fun hHeld => ?_)
   ·(try dsimp only); exact kLx
   repeat' (first
    | simp only [Act.put, sqa, sqb, sqc]
    | (
     first
      | refine tky (i := 0) (oi := ⟨some 15, .load 106 (.tmp 2), 106, "certificate.go:160", #[], none⟩) (v := ?_) rfl ?_ (by assumption) ?_
      | refine tky (i := 1) (oi := ⟨some 16, .load 41 (.tmp 5), 41, "certificate.go:160", #[], none⟩) (v := ?_) rfl ?_ (by assumption) ?_
      | refine tky (i := 2) (oi := ⟨some 17, .move (.tmp 1), 25, "certificate.go:160", #[], none⟩) (v := ?_) rfl ?_ (by assumption) ?_
      | refine tky (i := 3) (oi := ⟨some 18, .nilCheck (.tmp 17), 0, "certificate.go:160", #[⟨2, .data⟩], none⟩) (v := ?_) rfl ?_ (by assumption) ?_
      | refine tky (i := 4) (oi := ⟨some 19, .fieldAddr 79 (.tmp 18) 0, 0, "certificate.go:160", #[⟨3, .data⟩], none⟩) (v := ?_) rfl ?_ (by assumption) ?_
      | refine tky (i := 5) (oi := ⟨some 20, .load 3 (.tmp 19), 3, "certificate.go:160", #[⟨4, .data⟩], none⟩) (v := ?_) rfl ?_ (by assumption) ?_
      | refine tky (i := 6) (oi := ⟨some 21, .move (.tmp 1), 25, "certificate.go:160", #[], none⟩) (v := ?_) rfl ?_ (by assumption) ?_
      | refine tky (i := 7) (oi := ⟨some 22, .nilCheck (.tmp 21), 0, "certificate.go:160", #[⟨6, .data⟩], none⟩) (v := ?_) rfl ?_ (by assumption) ?_
      | refine tky (i := 8) (oi := ⟨some 23, .fieldAddr 79 (.tmp 22) 1, 0, "certificate.go:160", #[⟨7, .data⟩], none⟩) (v := ?_) rfl ?_ (by assumption) ?_
      | refine tky (i := 9) (oi := ⟨some 24, .load 3 (.tmp 23), 3, "certificate.go:160", #[⟨8, .data⟩], none⟩) (v := ?_) rfl ?_ (by assumption) ?_
      | refine tky (i := 11) (oi := ⟨some 26, .move (.tmp 1), 25, "certificate.go:160", #[], none⟩) (v := ?_) rfl ?_ (by assumption) ?_
      | refine tky (i := 12) (oi := ⟨some 27, .nilCheck (.tmp 26), 0, "certificate.go:160", #[⟨11, .data⟩], none⟩) (v := ?_) rfl ?_ (by assumption) ?_
      | refine tky (i := 13) (oi := ⟨some 28, .fieldAddr 79 (.tmp 27) 2, 0, "certificate.go:160", #[⟨12, .data⟩], none⟩) (v := ?_) rfl ?_ (by assumption) ?_
      | refine tky (i := 14) (oi := ⟨some 29, .load 25 (.tmp 28), 25, "certificate.go:160", #[⟨13, .data⟩], none⟩) (v := ?_) rfl ?_ (by assumption) ?_
      | refine tky (i := 16) (oi := ⟨some 31, .move (.tmp 30), 4, "certificate.go:160", #[⟨15, .data⟩, ⟨15, .chain⟩], none⟩) (v := ?_) rfl ?_ (by assumption) ?_
      | refine tky (i := 33) (oi := ⟨some 48, .pick (.tmp 31) (.tmp 47) (.const (Value.bool false)), 4, "certificate.go:160", #[⟨16, .data⟩, ⟨32, .data⟩], none⟩) (v := ?_) rfl ?_ (by assumption) ?_
      | refine tky (i := 34) (oi := ⟨some 7, .assign (.tmp 48), 4, "certificate.go:160", #[⟨33, .data⟩, ⟨32, .chain⟩, ⟨0, .phase⟩, ⟨1, .phase⟩, ⟨2, .phase⟩, ⟨3, .phase⟩, ⟨4, .phase⟩, ⟨5, .phase⟩, ⟨6, .phase⟩, ⟨7, .phase⟩, ⟨8, .phase⟩, ⟨9, .phase⟩, ⟨10, .phase⟩, ⟨11, .phase⟩, ⟨12, .phase⟩, ⟨13, .phase⟩, ⟨14, .phase⟩, ⟨15, .phase⟩, ⟨16, .phase⟩, ⟨17, .phase⟩, ⟨18, .phase⟩, ⟨19, .phase⟩, ⟨20, .phase⟩, ⟨21, .phase⟩, ⟨22, .phase⟩, ⟨23, .phase⟩, ⟨24, .phase⟩, ⟨25, .phase⟩, ⟨26, .phase⟩, ⟨27, .phase⟩, ⟨28, .phase⟩, ⟨29, .phase⟩, ⟨30, .phase⟩, ⟨31, .phase⟩, ⟨32, .phase⟩, ⟨33, .phase⟩], none⟩) (v := ?_) rfl ?_ (by assumption) ?_
     rotate_left
     ·intro w hSw; (try dsimp only at hSw); go_simp; try (with_reducible rfl))
    | (
     first
      | refine wpAnyH_take (i := 17) (oi := ⟨some 32, .load 106 (.tmp 2), 106, "certificate.go:160", #[⟨16, .guard⟩], some (16, true)⟩) (v := undef) rfl (by decide +kernel) (by decide +kernel) (by decide +kernel) (fun _ _ _ h => h) (Or.inr ⟨by rfl, rfl⟩) (by assumption) ?_
      | refine wpAnyH_take (i := 18) (oi := ⟨some 33, .load 41 (.tmp 5), 41, "certificate.go:160", #[⟨16, .guard⟩], some (16, true)⟩) (v := undef) rfl (by decide +kernel) (by decide +kernel) (by decide +kernel) (fun _ _ _ h => h) (Or.inr ⟨by rfl, rfl⟩) (by assumption) ?_
      | refine wpAnyH_take (i := 19) (oi := ⟨some 34, .move (.tmp 1), 25, "certificate.go:160", #[⟨16, .guard⟩], some (16, true)⟩) (v := undef) rfl (by decide +kernel) (by decide +kernel) (by decide +kernel) (fun _ _ _ h => h) (Or.inr ⟨by rfl, rfl⟩) (by assumption) ?_
      | refine wpAnyH_take (i := 20) (oi := ⟨some 35, .nilCheck (.tmp 34), 0, "certificate.go:160", #[⟨19, .data⟩, ⟨16, .guard⟩], some (16, true)⟩) (v := undef) rfl (by decide +kernel) (by decide +kernel) (by decide +kernel) (fun _ _ _ h => h) (Or.inr ⟨by rfl, rfl⟩) (by assumption) ?_
      | refine wpAnyH_take (i := 21) (oi := ⟨some 36, .fieldAddr 79 (.tmp 35) 0, 0, "certificate.go:160", #[⟨20, .data⟩, ⟨16, .guard⟩], some (16, true)⟩) (v := undef) rfl (by decide +kernel) (by decide +kernel) (by decide +kernel) (fun _ _ _ h => h) (Or.inr ⟨by rfl, rfl⟩) (by assumption) ?_
      | refine wpAnyH_take (i := 22) (oi := ⟨some 37, .load 3 (.tmp 36), 3, "certificate.go:160", #[⟨21, .data⟩, ⟨16, .guard⟩], some (16, true)⟩) (v := undef) rfl (by decide +kernel) (by decide +kernel) (by decide +kernel) (fun _ _ _ h => h) (Or.inr ⟨by rfl, rfl⟩) (by assumption) ?_
      | refine wpAnyH_take (i := 23) (oi := ⟨some 38, .move (.tmp 1), 25, "certificate.go:160", #[⟨16, .guard⟩], some (16, true)⟩) (v := undef) rfl (by decide +kernel) (by decide +kernel) (by decide +kernel) (fun _ _ _ h => h) (Or.inr ⟨by rfl, rfl⟩) (by assumption) ?_
      | refine wpAnyH_take (i := 24) (oi := ⟨some 39, .nilCheck (.tmp 38), 0, "certificate.go:160", #[⟨23, .data⟩, ⟨16, .guard⟩], some (16, true)⟩) (v := undef) rfl (by decide +kernel) (by decide +kernel) (by decide +kernel) (fun _ _ _ h => h) (Or.inr ⟨by rfl, rfl⟩) (by assumption) ?_
      | refine wpAnyH_take (i := 25) (oi := ⟨some 40, .fieldAddr 79 (.tmp 39) 1, 0, "certificate.go:160", #[⟨24, .data⟩, ⟨16, .guard⟩], some (16, true)⟩) (v := undef) rfl (by decide +kernel) (by decide +kernel) (by decide +kernel) (fun _ _ _ h => h) (Or.inr ⟨by rfl, rfl⟩) (by assumption) ?_
      | refine wpAnyH_take (i := 26) (oi := ⟨some 41, .load 3 (.tmp 40), 3, "certificate.go:160", #[⟨25, .data⟩, ⟨16, .guard⟩], some (16, true)⟩) (v := undef) rfl (by decide +kernel) (by decide +kernel) (by decide +kernel) (fun _ _ _ h => h) (Or.inr ⟨by rfl, rfl⟩) (by assumption) ?_
      | refine wpAnyH_take (i := 27) (oi := ⟨some 42, .call { callee := Callee.value (.func 49), args := #[.tmp 33, .tmp 37, .tmp 41, .const (Value.bool true)], argTypes := #[41, 3, 3, 4] }, 41, "certificate.go:161", #[⟨18, .data⟩, ⟨22, .data⟩, ⟨26, .data⟩, ⟨16, .chain⟩, ⟨16, .guard⟩], some (16, true)⟩) (v := undef) rfl (by decide +kernel) (by decide +kernel) (by decide +kernel) (fun _ _ _ h => h) (Or.inr ⟨by rfl, rfl⟩) (by assumption) ?_
      | refine wpAnyH_take (i := 28) (oi := ⟨some 43, .move (.tmp 1), 25, "certificate.go:160", #[⟨16, .guard⟩], some (16, true)⟩) (v := undef) rfl (by decide +kernel) (by decide +kernel) (by decide +kernel) (fun _ _ _ h => h) (Or.inr ⟨by rfl, rfl⟩) (by assumption) ?_
      | refine wpAnyH_take (i := 29) (oi := ⟨some 44, .nilCheck (.tmp 43), 0, "certificate.go:160", #[⟨28, .data⟩, ⟨16, .guard⟩], some (16, true)⟩) (v := undef) rfl (by decide +kernel) (by decide +kernel) (by decide +kernel) (fun _ _ _ h => h) (Or.inr ⟨by rfl, rfl⟩) (by assumption) ?_
      | refine wpAnyH_take (i := 30) (oi := ⟨some 45, .fieldAddr 79 (.tmp 44) 3, 0, "certificate.go:160", #[⟨29, .data⟩, ⟨16, .guard⟩], some (16, true)⟩) (v := undef) rfl (by decide +kernel) (by decide +kernel) (by decide +kernel) (fun _ _ _ h => h) (Or.inr ⟨by rfl, rfl⟩) (by assumption) ?_
      | refine wpAnyH_take (i := 31) (oi := ⟨some 46, .load 25 (.tmp 45), 25, "certificate.go:160", #[⟨30, .data⟩, ⟨16, .guard⟩], some (16, true)⟩) (v := undef) rfl (by decide +kernel) (by decide +kernel) (by decide +kernel) (fun _ _ _ h => h) (Or.inr ⟨by rfl, rfl⟩) (by assumption) ?_
      | refine wpAnyH_take (i := 32) (oi := ⟨some 47, .call { callee := Callee.value (.tmp 32), args := #[.tmp 42, .tmp 46], argTypes := #[41, 25] }, 4, "certificate.go:161", #[⟨17, .data⟩, ⟨27, .data⟩, ⟨31, .data⟩, ⟨27, .chain⟩, ⟨16, .guard⟩], some (16, true)⟩) (v := undef) rfl (by decide +kernel) (by decide +kernel) (by decide +kernel) (fun _ _ _ h => h) (Or.inr ⟨by rfl, rfl⟩) (by assumption) ?_)
    | refine wpAnyH_ready (rs := [10]) (by decide +kernel) (by simp) ?_
    | refine wpAnyH_ready (rs := [15]) (by decide +kernel) (by simp) ?_
    | (
     refine AllReadyH.cons (o := ⟨some 25, .call { callee := Callee.value (.func 49), args := #[.tmp 16, .tmp 20, .tmp 24, .const (Value.bool false)], argTypes := #[41, 3, 3, 4] }, 41, "certificate.go:160", #[⟨1, .data⟩, ⟨5, .data⟩, ⟨9, .data⟩], none⟩) rfl (fun K hK => ?_) ?_
     go_simp
     first
      | (go_at_call 49; (with_reducible refine (q1a _ p v f false _ (qga.ext hxV eBx) hv hn hm hf).mono ?_); rintro e wa hsp; (obtain ⟨y1, rfl, hy1, hxa⟩ := hsp.prob); (have hEa : Ext V0 wa := Ext.trans eBx hxa); (have hLa : Later V0 wa := hEa))
      | (go_at_call 49; (with_reducible refine (q1a _ p v f true _ (qga.ext hxV eCx) hv hn hm hf).mono ?_); rintro e wc hsp; (obtain ⟨y2, rfl, hy2, hxc⟩ := hsp.prob); (have hEc : Ext V0 wc := Ext.trans hEb (Ext.trans eBx hxc)); (have hLc : Later V0 wc := hEc))
     try (go_wp2_with fail)
     refine hK.out _ _ ?_ (fun hHeld => ?_)
     ·(try dsimp only); exact kLx
     clear hK K)
    | (
     refine AllReadyH.cons (o := ⟨some 30, .call { callee := Callee.value (.tmp 15), args := #[.tmp 25, .tmp 29], argTypes := #[41, 25] }, 4, "certificate.go:160", #[⟨0, .data⟩, ⟨10, .data⟩, ⟨14, .data⟩, ⟨10, .chain⟩], none⟩) rfl (fun K hK => ?_) ?_
     go_simp
     first
      | (go_at_call 49; (with_reducible refine (q1a _ p v f false _ (qga.ext hxV eBx) hv hn hm hf).mono ?_); rintro e wa hsp; (obtain ⟨y1, rfl, hy1, hxa⟩ := hsp.prob); (have hEa : Ext V0 wa := Ext.trans eBx hxa); (have hLa : Later V0 wa := hEa))
      | (go_at_call 49; (with_reducible refine (q1a _ p v f true _ (qga.ext hxV eCx) hv hn hm hf).mono ?_); rintro e wc hsp; (obtain ⟨y2, rfl, hy2, hxc⟩ := hsp.prob); (have hEc : Ext V0 wc := Ext.trans hEb (Ext.trans eBx hxc)); (have hLc : Later V0 wc := hEc))
      | (go_at_call 48; (with_reducible refine (HH1.out _ y1 (Ext.trans hE0 (Ext.trans hEa eBx)) (qga.ext hy1 eBx)).mono ?_); rintro e wb ⟨rfl, hxb⟩; (have hEb : Ext V0 wb := Ext.trans hEa (Ext.trans eBx hxb)); (have hLb : Later V0 wb := hEb))
      | (go_at_call 48; (with_reducible refine (HH2.out _ y2 (Ext.trans hE0 (Ext.trans hEc eBx)) (qga.ext hy2 eBx)).mono ?_); rintro e wd ⟨rfl, hxd⟩; (have hEd : Ext V0 wd := Ext.trans hEc (Ext.trans eBx hxd)); (have hLd : Later V0 wd := hEd))
     try (go_wp2_with fail)
     refine hK.out _ _ ?_ (fun hHeld => ?_)
     ·(try dsimp only); exact kLx
     clear hK K)
    | exact AllReadyH.nil
    | (
     refine wpAnyH_done (by decide +kernel) ?_ _
     go_wp2_with fail
     go_ret
     exact ⟨rfl, Ext.trans hE0 (Ext.trans hEb eBx)⟩)
    )
 | true =>
   simp only [Bool.true_and]
   go_region_held3 (fun w' => Later V0 w') ((repeat (first | (with_reducible assumption) | (with_reducible apply Later.drew) | (with_reducible apply Later.drewN) | (with_reducible refine Later.step ?_ (by with_reducible assumption))))) (first
    | (go_at_call 49; (with_reducible refine (q1a _ p v f false _ (qga.ext hxV eBx) hv hn hm hf).mono ?_); rintro e wa hsp; (obtain ⟨y1, rfl, hy1, hxa⟩ := hsp.prob); (have hEa : Ext V0 wa := Ext.trans eBx hxa); (have hLa : Later V0 wa := hEa))
    | (go_at_call 49; (with_reducible refine (q1a _ p v f true _ (qga.ext hxV eCx) hv hn hm hf).mono ?_); rintro e wc hsp; (obtain ⟨y2, rfl, hy2, hxc⟩ := hsp.prob); (have hEc : Ext V0 wc := Ext.trans hEb (Ext.trans eBx hxc)); (have hLc : Later V0 wc := hEc))
    | (go_at_call 48; (with_reducible refine (HH1.out _ y1 (Ext.trans hE0 (Ext.trans hEa eBx)) (qga.ext hy1 eBx)).mono ?_); rintro e wb ⟨rfl, hxb⟩; (have hEb : Ext V0 wb := Ext.trans hEa (Ext.trans eBx hxb)); (have hLb : Later V0 wb := hEb))
    | (go_at_call 48; (with_reducible refine (HH2.out _ y2 (Ext.trans hE0 (Ext.trans hEc eBx)) (qga.ext hy2 eBx)).mono ?_); rintro e wd ⟨rfl, hxd⟩; (have hEd : Ext V0 wd := Ext.trans hEc (Ext.trans eBx hxd)); (have hLd : Later V0 wd := hEd))
    )
   all_goals (
    clear k0 k1 k2 k3 k4 k5 k6
    go_wp2_with fail
    go_ret
    exact ⟨rfl, Ext.trans hE0 hEd⟩)
theorem q89.nils {w : World} {t : CT} {A : Option Addr} {b h : Nat} (x : qjd w t A b h) (ht : t.isNil = true) : A = none := by
 cases t with
 | nil => exact x.1
 | node vr fl em n y lo hi => cases ht
theorem provesC_b (Ky : Nat) (hKy : Ky ≤ 134217740) (z : Rat) (s : Bool) (fb lb sb : Nat) (u1 u3 : Bool) (U2 U4 : Option Addr) (l2 l3 l4 l5 M : Nat) (t : CT) : ∀ (p : Prob) (v : Value) (A : Option Addr) (b h : Nat) (w : World), CanC p M → qga w v p → qjd w t A b h → t.wf = true → t.fit p.n p.m = true → t.okY Ky → p.m + t.dep ≤ M + 1 → Box w fb 106 #[ckK fb lb sb] → Box w lb 58 #[.bool u1, .slice U2 l2 l3, .bool u3, .slice U4 l4 l5] → RatB w (.agg #[.bool u1, .slice U2 l2 l3, .bool u3, .slice U4 l4 l5]) z 5 → Box w sb 4 #[.bool s] →
 Calls Tryz.prog 48 #[v, .pointer A, .pointer (some ⟨fb, 0, none⟩), .pointer (some ⟨lb, 0, none⟩), .pointer (some ⟨sb, 0, none⟩)] w (qjz w (.bool (prvC z s p t))) := by
 induction t with
 | nil => intro p v A b h w hc hv hT hwf; cases hwf
 | node vr fl em n y lo hi iha ihb =>
   intro p v A b h w hc hv hT hwf hft hok hdep FB LB hz SB
   obtain ⟨k, L, H, Y, c, m1, m2, rfl, h1, h2, NB, hY, hlo, hhi⟩ := hT
   have hd : (CT.node vr fl em n y lo hi).dep = 1 + max lo.dep hi.dep := rfl
   rw [hd] at hdep
   obtain ⟨o1, o2, o3, o4, o5⟩ := hok
   have hlim := hc.lim
   have hcm := hc.m
   have hTm : 1 + p.m * (3 + 3 + Ky + 1) ≤ 1 + 300 * (7 + Ky) := by
    have := Nat.mul_le_mul (show p.m ≤ 300 by omega) (show 3 + 3 + Ky + 1 ≤ 7 + Ky by omega)
    omega
   unfold CT.wf at hwf
   unfold CT.fit at hft
   unfold prvC
   by_cases hvr : vr = -1
   ·subst hvr
    rw [if_pos rfl] at hwf hft
    simp only [Bool.and_eq_true, decide_eq_true_eq] at hwf hft
    rw [if_neg (by decide)]
    obtain ⟨rfl, a1, a2⟩ := hwf
    obtain rfl := q89.nils hlo a1
    obtain rfl := q89.nils hhi a2
    cases em with
    | true =>
      rw [if_pos rfl]
      exact q33 v _ _ _ k 0 p Y n c y 3 3 Ky (1 + 300 * (7 + Ky)) w NB hv hc.val hY.1.rats hc.coef hc.right o3 hTm (by omega) (by omega)
    | false =>
      rw [if_neg (by decide)]
      exact qq5 v _ k lb sb 0 p Y n c y 3 3 3 Ky 5 (1 + 300 * (7 + Ky)) z s u1 u3 U2 U4 l2 l3 l4 l5 w NB hv hc.val hY.1.rats LB hz SB hc.coef hc.right hc.obj o3 hTm (by omega) (by omega) (by decide) (by decide)
   ·rw [if_neg hvr] at hwf hft
    simp only [Bool.and_eq_true, decide_eq_true_eq, Bool.not_eq_true'] at hwf hft
    obtain ⟨g1, g2, rfl, rfl, w1, w2⟩ := hwf
    obtain ⟨f1, f2, f3⟩ := hft
    rw [if_pos g1]
    obtain ⟨V, rfl⟩ : ∃ V : Nat, vr = (V : Int) := ⟨vr.toNat, by omega⟩
    rw [Int.toNat_natCast]
    have hcn := hc.n
    have d1 : 1 ≤ lo.dep := by cases lo with | nil => cases w1 | node vr fl em n y a b => show 1 ≤ 1 + _; omega
    have hm1 : p.m + 1 ≤ M := by omega
    refine qf7 v p V fl false L H Y 0 c k fb lb sb _ _ w hv (by omega) (by omega) (by omega) o1 NB FB ?_ ?_
    ·intro W q hW hq
     exact iha (p.side V fl false) q L m1 m2 W (hc.side hm1 o1 false) hq (hlo.ext hW) w1 f2 o4 (by show p.m + 1 + lo.dep ≤ M + 1; omega) (FB.ext hW) (LB.ext hW) (hz.ext hW) (SB.ext hW)
    ·intro W q hW hq
     exact ihb (p.side V fl true) q H m2 h W (hc.side hm1 o1 true) hq (hhi.ext hW) w2 f3 o5 (by show p.m + 1 + hi.dep ≤ M + 1; omega) (FB.ext hW) (LB.ext hW) (hz.ext hW) (SB.ext hW)
theorem Check_t (t : CT) (A : Option Addr) (b h M : Nat) (v : Value) (p : Prob) (z : Int) (w : World) (hv : qga w v p) (hT : qjd w t A b h) (hz : fit z = true) (hM : M ≤ 300) (hn : p.n ≤ 6) (hm : p.m + t.dep ≤ M) (hd : t.dep ≤ 200) (Ky : Nat) (hKy : Ky ≤ 134217740) (hok : t.okY Ky)
 (ho : ∀ j, j < p.n → QB 2 (p.obj j)) (hc : ∀ i, i < p.m → ∀ j, j < p.n → QB 2 (p.coef i j)) (hr : ∀ i, i < p.m → QB 2 (p.right i)) :
 Calls Tryz.prog 16 #[v, .int .i64 z, .pointer A] w (qjz w (.int .i64 (chkE (qba p && t.wf && t.fit p.n p.m) (prvC (limZ z (alZ p.obj p.n)) (alZ p.obj p.n) p t)))) := by
 obtain ⟨z1, z2⟩ := fit_iff.1 hz
 refine qtr v (.pointer A) p z t.wf (t.fit p.n p.m) _ 2 w hv z1 z2 (by decide) ho (fun W hW => qbw t A b h W (hT.ext hW) hd) (fun hval hwf W hW => ?_) (fun hval hwf hft W fb lb sb u1 u3 U2 U4 l2 l3 l4 l5 hW _ _ _ FB LB hz6 SB => ?_)
 ·obtain ⟨Ao, co, Ar, cr, rfl, -⟩ := id hv
  exact fits_t t A b h Ao Ar p.n co p.m cr W (hT.ext hW) hwf (by omega) (by omega)
 ·have hcan : CanC p M := ⟨hval, hn, by omega, hM, fun j hj => qqj (by omega) (ho j hj), fun i hi j hj => qqj (by omega) (hc i hi j hj), fun i hi => qqj (by omega) (hr i hi)⟩
  exact provesC_b Ky hKy _ _ fb lb sb u1 u3 U2 U4 l2 l3 l4 l5 M t p v A b h W hcan (hv.ext hW) (hT.ext hW) hwf hft hok (by omega) FB LB hz6 SB
end Go.Proofs.YtljncdcjkdgkeaaGreatDoor.Lp

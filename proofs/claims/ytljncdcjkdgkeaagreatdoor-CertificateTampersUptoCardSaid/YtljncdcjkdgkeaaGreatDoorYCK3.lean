/- Walk: Check's closure at a leaf that is not empty. -/
import Derived.Deep.DeepCutAuto
import Derived.Test.YtljncdcjkdgkeaaGreatDoorYCV8
set_option linter.unusedVariables false
set_option linter.unusedSimpArgs false
namespace Go.Proofs.YtljncdcjkdgkeaaGreatDoor.Lp
open Go.RowKit Go.Proofs.YtljncdcjkdgkeaaGreatDoor.Big Go.Proofs.YtljncdcjkdgkeaaGreatDoor.Rt
theorem put4 {w : World} {b : Nat} {p p' : Bool} {A A' : Option Addr} {n c n' c' : Nat} (B : Box w b 58 #[.bool p, .slice A n c, .bool p', .slice A' n' c']) (u0 u1 u2 u3 : Value) : Fr (fun k => k = b) w ((((w.setCell ⟨b, 0, none⟩ u0).setCell ⟨b, 1, none⟩ u1).setCell ⟨b, 2, none⟩ u2).setCell ⟨b, 3, none⟩ u3) ∧ Box ((((w.setCell ⟨b, 0, none⟩ u0).setCell ⟨b, 1, none⟩ u1).setCell ⟨b, 2, none⟩ u2).setCell ⟨b, 3, none⟩ u3) b 58 #[u0, u1, u2, u3] :=
 ⟨((((Fr.refl (fun k => k = b) w).set (p := ⟨b, 0, none⟩) rfl (fun z => by rw [B.c0]; intro e; cases e) _).set (p := ⟨b, 1, none⟩) rfl (fun z => by rw [(B.set 0 _).c1]; intro e; cases e) _).set (p := ⟨b, 2, none⟩) rfl (fun z => by rw [((B.set 0 _).set 1 _).c2]; intro e; cases e) _).set (p := ⟨b, 3, none⟩) rfl (fun z => by rw [(((B.set 0 _).set 1 _).set 2 _).c3]; intro e; cases e) _, (((B.set 0 u0).set 1 u1).set 2 u2).set 3 u3⟩
def chkB (b : Bool) (q z : Rat) (s : Bool) : Bool := b && (decide (q < z) || (!s && decide (q = z)))
def dk5 : Oper := { dst := some 65, op := Op.call { callee := Callee.value (Operand.func 51), args := #[Operand.tmp 60, Operand.tmp 64], argTypes := #[41, 38] }, type := 112, pos := "certificate.go:166", after := #[{ on := 0, ground := Ground.data }, { on := 4, ground := Ground.data }], guard := none }
def dk9 : Oper := { dst := some 8, op := Op.alloc 58, type := 0, pos := "certificate.go:166", after := #[], guard := none }
def dk10 : Oper := { dst := none, op := Op.store 58 (Operand.tmp 8) (Operand.tmp 66), type := 0, pos := "certificate.go:166", after := #[{ on := 9, ground := Ground.data }, { on := 7, ground := Ground.data }, { on := 5, ground := Ground.chain }, { on := 0, ground := Ground.phase }, { on := 1, ground := Ground.phase }, { on := 2, ground := Ground.phase }, { on := 3, ground := Ground.phase }, { on := 4, ground := Ground.phase }, { on := 5, ground := Ground.phase }, { on := 6, ground := Ground.phase }, { on := 7, ground := Ground.phase }, { on := 8, ground := Ground.textOnly Departure.lateStores }, { on := 9, ground := Ground.phase }], guard := none }
set_option maxHeartbeats 2000000 in
set_option maxRecDepth 100000 in
theorem qq5 (v f1 : Value) (tb lb sb : Nat) (fl : Int) (p : Prob) (Ay : Option Addr) (ny cy : Nat) (y : Nat → Rat) (Kc Kr Ko Ky Kz T : Nat) (z : Rat) (s : Bool) (u1 u3 : Bool) (U2 U4 : Option Addr) (l2 l3 l4 l5 : Nat) (w : World) (hT0 : Box w tb 79 (q89 (-1) fl none none false Ay ny cy)) (hv : qga w v p) (hval : qba p = true) (hy : q94 w Ay ny cy y)
 (hLB : Box w lb 58 #[.bool u1, .slice U2 l2 l3, .bool u3, .slice U4 l4 l5]) (hz : RatB w (.agg #[.bool u1, .slice U2 l2 l3, .bool u3, .slice U4 l4 l5]) z Kz) (hSB : Box w sb 4 #[.bool s])
 (hc : ∀ i, i < p.m → ∀ j, j < p.n → QB Kc (p.coef i j)) (hr : ∀ i, i < p.m → QB Kr (p.right i)) (ho : ∀ j, j < p.n → QB Ko (p.obj j)) (hq : ∀ j, j < ny → QB Ky (y j)) (hT : 1 + p.m * (Kc + Kr + Ky + 1) ≤ T) (hT2 : T ≤ 137438953472) (hT3 : Kc + Kr + Ky ≤ 137438953472) (hT4 : Ko ≤ 137438953472) (hT5 : Kz ≤ 137438953472) :
 Calls Tryz.prog 48 #[v, .pointer (some ⟨tb, 0, none⟩), f1, .pointer (some ⟨lb, 0, none⟩), .pointer (some ⟨sb, 0, none⟩)] w (qjz w (.bool (chkB (bndB p ny y) (p.rhs y) z s))) := by
 obtain ⟨Ao, co, Ar, cr, rfl, -⟩ := id hv
 have HC := Lib.hid hc
 have HR := Lib.hid hr
 have HY := Lib.hid hq
 have HO := Lib.hid ho
 have HT := Lib.hid hT
 have HV := Lib.hid hval
 clear hc hr ho hq hT hval
 obtain ⟨F, hF⟩ : ∃ F, F = bndB p ny y := ⟨_, rfl⟩
 obtain ⟨q, hq⟩ : ∃ q, q = p.rhs y := ⟨_, rfl⟩
 have HF := Lib.hid hF
 have HQ := Lib.hid hq
 rw [← hF, ← hq]
 clear hF hq
 have PB := Box.new w 41 #[.slice Ao p.n co, .slice Ar p.m cr]
 have hE0 : Ext w (w.alloc (.cells #[.slice Ao p.n co, .slice Ar p.m cr] 41)) := (Ext.refl w).alloc _
 go_enter Tryz.func48, Tryz.ntmps48
 go_upto_region 1 with fail
 generalize (w.alloc (.cells #[.slice Ao p.n co, .slice Ar p.m cr] 41)) = V at *
 obtain ⟨pb, hpb⟩ : ∃ x, x = w.heap.size := ⟨_, rfl⟩
 rw [← hpb] at PB ⊢
 clear hpb
 have TB := hT0.ext hE0
 have t0 : V.cell? ⟨tb, 0, none⟩ = some (.int .i64 (-1)) := TB.cell 0
 have t4 : V.cell? ⟨tb, 4, none⟩ = some (.bool false) := TB.cell 4
 have hvV := hv.ext hE0
 have hyV := hy.ext hE0
 go_upto_region 5 with fail
 clear t0 t4
 go_cut [8, 9] (fun v8 v9 wx => ∃ (b8 : Nat) (x1 : Bool) (X2 : Option Addr) (n2 c2 : Nat) (x3 : Bool) (X4 : Option Addr) (n4 c4 : Nat), v8 = .pointer (some ⟨b8, 0, none⟩) ∧ v9 = .bool F ∧ Box wx b8 58 #[.bool x1, .slice X2 n2 c2, .bool x3, .slice X4 n4 c4] ∧ (F = true → RatB wx (.agg #[.bool x1, .slice X2 n2 c2, .bool x3, .slice X4 n4 c4]) q T) ∧ Ext V wx)
 case first =>
  have k30 : ∀ w', Later V w' → w'.cell? ⟨pb, 0, none⟩ = some _ := fun w' h => (PB.ext h).c0
  have k31 : ∀ w', Later V w' → w'.cell? ⟨pb, 1, none⟩ = some _ := fun w' h => (PB.ext h).c1
  have k5 : ∀ w', Later V w' → w'.cell? ⟨tb, 5, none⟩ = some (.slice Ay ny cy) := fun w' h => (TB.ext h).cell 5
  clear PB TB hT0 hLB hSB hz hv hy
  refine wp_region_held_drew (S := fun w' => Later V w') (by kernel_rfl) ?_ (fun hHeld => ?_)
  ·exact (Later.refl V).drew
  have hE : Ext V V.drew := (Ext.refl V).drew
  generalize V.drew = Z1 at *
  refine wpAnyH_take (i := 0) (oi := { dst := some 60, op := Op.load 41 (Operand.tmp 5), type := 41, pos := "certificate.go:166", after := #[], guard := none }) (v := ?_) rfl (by kernel_rfl) (by kernel_rfl) (by kernel_rfl) (fun _ _ _ h => h) (Or.inl ⟨by rfl, ?_⟩) (by assumption) ?_
  rotate_left
  ·intro w hSw; (try dsimp only at hSw); go_simp; try (with_reducible rfl)
  try simp only [Act.put, sqa, sqb, sqc]
  refine wpAnyH_take (i := 1) (oi := { dst := some 61, op := Op.move (Operand.tmp 1), type := 25, pos := "certificate.go:166", after := #[], guard := none }) (v := ?_) rfl (by kernel_rfl) (by kernel_rfl) (by kernel_rfl) (fun _ _ _ h => h) (Or.inl ⟨by rfl, ?_⟩) (by assumption) ?_
  rotate_left
  ·intro w hSw; (try dsimp only at hSw); go_simp; try (with_reducible rfl)
  try simp only [Act.put, sqa, sqb, sqc]
  refine wpAnyH_take (i := 2) (oi := { dst := some 62, op := Op.nilCheck (Operand.tmp 61), type := 0, pos := "certificate.go:166", after := #[{ on := 1, ground := Ground.data }], guard := none }) (v := ?_) rfl (by kernel_rfl) (by kernel_rfl) (by kernel_rfl) (fun _ _ _ h => h) (Or.inl ⟨by rfl, ?_⟩) (by assumption) ?_
  rotate_left
  ·intro w hSw; (try dsimp only at hSw); go_simp; try (with_reducible rfl)
  try simp only [Act.put, sqa, sqb, sqc]
  refine wpAnyH_take (i := 3) (oi := { dst := some 63, op := Op.fieldAddr 79 (Operand.tmp 62) 5, type := 0, pos := "certificate.go:166", after := #[{ on := 2, ground := Ground.data }], guard := none }) (v := ?_) rfl (by kernel_rfl) (by kernel_rfl) (by kernel_rfl) (fun _ _ _ h => h) (Or.inl ⟨by rfl, ?_⟩) (by assumption) ?_
  rotate_left
  ·intro w hSw; (try dsimp only at hSw); go_simp; try (with_reducible rfl)
  try simp only [Act.put, sqa, sqb, sqc]
  refine wpAnyH_take (i := 4) (oi := { dst := some 64, op := Op.load 38 (Operand.tmp 63), type := 38, pos := "certificate.go:166", after := #[{ on := 3, ground := Ground.data }], guard := none }) (v := ?_) rfl (by kernel_rfl) (by kernel_rfl) (by kernel_rfl) (fun _ _ _ h => h) (Or.inl ⟨by rfl, ?_⟩) (by assumption) ?_
  rotate_left
  ·intro w hSw; (try dsimp only at hSw); go_simp; try (with_reducible rfl)
  try simp only [Act.put, sqa, sqb, sqc]
  refine wpAnyH_ready (rs := [5, 9]) (by kernel_rfl) (by simp) ?_
  refine AllReadyH.cons (o := dk5) rfl (fun K hK => ?_) ?_
  ·unfold dk5
   go_simp
   go_at_call 51
   refine (qj0 _ p Ay ny cy y Kc Kr Ko Ky T _ (hvV.ext hE) HV.out (hyV.ext hE) HC.out HR.out HO.out HY.out HT.out hT2 hT3 hT4).mono ?_
   rintro e Z2 ⟨x1, X2, n2, c2, x3, X4, n4, c4, rfl, hqq, hx⟩
   rw [← HF.out] at hqq ⊢
   rw [← HQ.out] at hqq
   have hE := hE.trans hx
   clear hx
   have hLt : Later V Z2 := hE
   try (go_wp2_with fail)
   refine hK.out _ _ hLt (fun hHeld => ?_)
   clear hK K hLt
   try simp only [Act.put, sqa, sqb, sqc]
   refine wpAnyH_take (i := 6) (oi := { dst := some 59, op := Op.move (Operand.tmp 65), type := 112, pos := "certificate.go:166", after := #[{ on := 5, ground := Ground.data }], guard := none }) (v := ?_) rfl (by kernel_rfl) (by kernel_rfl) (by kernel_rfl) (fun _ _ _ h => h) (Or.inl ⟨by rfl, ?_⟩) (by assumption) ?_
   rotate_left
   ·intro w hSw; (try dsimp only at hSw); go_simp; try (with_reducible rfl)
   try simp only [Act.put, sqa, sqb, sqc]
   refine wpAnyH_take (i := 7) (oi := { dst := some 66, op := Op.extract (Operand.tmp 59) 0, type := 58, pos := "certificate.go:166", after := #[{ on := 6, ground := Ground.data }], guard := none }) (v := ?_) rfl (by kernel_rfl) (by kernel_rfl) (by kernel_rfl) (fun _ _ _ h => h) (Or.inl ⟨by rfl, ?_⟩) (by assumption) ?_
   rotate_left
   ·intro w hSw; (try dsimp only at hSw); go_simp; try (with_reducible rfl)
   try simp only [Act.put, sqa, sqb, sqc]
   refine wpAnyH_take (i := 8) (oi := { dst := some 67, op := Op.extract (Operand.tmp 59) 1, type := 4, pos := "certificate.go:166", after := #[{ on := 6, ground := Ground.data }, { on := 10, ground := Ground.gcOnly Departure.lateStores }], guard := none }) (v := ?_) rfl (by kernel_rfl) (by kernel_rfl) (by kernel_rfl) (fun _ _ _ h => h) (Or.inl ⟨by rfl, ?_⟩) (by assumption) ?_
   rotate_left
   ·intro w hSw; (try dsimp only at hSw); go_simp; try (with_reducible rfl)
   try simp only [Act.put, sqa, sqb, sqc]
   refine wpAnyH_ready (rs := [9]) (by kernel_rfl) (by simp) ?_
   refine AllReadyH.cons (o := dk9) rfl (fun K hK => ?_) ?_
   ·unfold dk9
    go_simp
    have NB := Box.new Z2 58 #[.bool false, .slice none 0 0, .bool false, .slice none 0 0]
    have hx : Ext Z2 (Z2.alloc (.cells #[.bool false, .slice none 0 0, .bool false, .slice none 0 0] 58)) := (Ext.refl Z2).alloc _
    generalize (Z2.alloc (.cells #[.bool false, .slice none 0 0, .bool false, .slice none 0 0] 58)) = Z3 at *
    obtain ⟨bN, hbN⟩ : ∃ x, x = Z2.heap.size := ⟨_, rfl⟩
    rw [← hbN] at NB ⊢
    have hwN : V.heap.size ≤ bN := by have := hE.size; omega
    clear hbN
    have hqq := fun h => (hqq h).ext hx
    have hE := hE.trans hx
    clear hx
    have hLt : Later V Z3 := hE
    refine hK.out _ _ hLt (fun hHeld => ?_)
    clear hK K hLt
    try simp only [Act.put, sqa, sqb, sqc]
    refine wpAnyH_ready (rs := [10]) (by kernel_rfl) (by simp) ?_
    refine AllReadyH.cons (o := dk10) rfl (fun K hK => ?_) ?_
    ·have y0 : Z3.cell? ⟨bN, 0, none⟩ = some _ := NB.cell 0
     have z0 := NB.frozen 0
     have y1 : Z3.cell? ⟨bN, 1, none⟩ = some _ := NB.cell 1
     have z1 := NB.frozen 1
     have y2 : Z3.cell? ⟨bN, 2, none⟩ = some _ := NB.cell 2
     have z2 := NB.frozen 2
     have y3 : Z3.cell? ⟨bN, 3, none⟩ = some _ := NB.cell 3
     have z3 := NB.frozen 3
     unfold dk10
     go_simp
     obtain ⟨hf, NB2⟩ := put4 NB (.bool x1) (.slice X2 n2 c2) (.bool x3) (.slice X4 n4 c4)
     have hqq := fun h => hf.ratB (hqq h)
     have hE := hf.ext hE (fun b hb => by rw [hb]; exact hwN)
     clear hf y0 z0 y1 z1 y2 z2 y3 z3
     have NB := NB2
     clear NB2
     generalize ((((Z3.setCell ⟨bN, 0, none⟩ (.bool x1)).setCell ⟨bN, 1, none⟩ (.slice X2 n2 c2)).setCell ⟨bN, 2, none⟩ (.bool x3)).setCell ⟨bN, 3, none⟩ (.slice X4 n4 c4)) = Z4 at *
     have hLt : Later V Z4 := hE
     refine hK.out _ _ hLt (fun hHeld => ?_)
     clear hK K hLt
     try simp only [Act.put, sqa, sqb, sqc]
     refine wpAnyH_take (i := 11) (oi := { dst := some 9, op := Op.assign (Operand.tmp 67), type := 4, pos := "certificate.go:166", after := #[{ on := 8, ground := Ground.data }, { on := 10, ground := Ground.chain }, { on := 0, ground := Ground.phase }, { on := 1, ground := Ground.phase }, { on := 2, ground := Ground.phase }, { on := 3, ground := Ground.phase }, { on := 4, ground := Ground.phase }, { on := 5, ground := Ground.phase }, { on := 6, ground := Ground.phase }, { on := 7, ground := Ground.phase }, { on := 8, ground := Ground.phase }, { on := 9, ground := Ground.phase }, { on := 10, ground := Ground.phase }], guard := none }) (v := ?_) rfl (by kernel_rfl) (by kernel_rfl) (by kernel_rfl) (fun _ _ _ h => h) (Or.inl ⟨by rfl, ?_⟩) (by assumption) ?_
     rotate_left
     ·intro w hSw; (try dsimp only at hSw); go_simp; try (with_reducible rfl)
     try simp only [Act.put, sqa, sqb, sqc]
     refine wpAnyH_done (by kernel_rfl) ?_ _
     go_wp2_with fail
     go_meet
     exact ⟨bN, x1, X2, n2, c2, x3, X4, n4, c4, rfl, rfl, NB, hqq, hE⟩
    exact AllReadyH.nil
   exact AllReadyH.nil
  refine AllReadyH.cons (o := dk9) rfl (fun K hK => ?_) ?_
  ·unfold dk9
   go_simp
   have NB := Box.new Z1 58 #[.bool false, .slice none 0 0, .bool false, .slice none 0 0]
   have hx : Ext Z1 (Z1.alloc (.cells #[.bool false, .slice none 0 0, .bool false, .slice none 0 0] 58)) := (Ext.refl Z1).alloc _
   generalize (Z1.alloc (.cells #[.bool false, .slice none 0 0, .bool false, .slice none 0 0] 58)) = Z5 at *
   obtain ⟨bN, hbN⟩ : ∃ x, x = Z1.heap.size := ⟨_, rfl⟩
   rw [← hbN] at NB ⊢
   have hwN : V.heap.size ≤ bN := by have := hE.size; omega
   clear hbN
   have hE := hE.trans hx
   clear hx
   have hLt : Later V Z5 := hE
   refine hK.out _ _ hLt (fun hHeld => ?_)
   clear hK K hLt
   try simp only [Act.put, sqa, sqb, sqc]
   refine wpAnyH_ready (rs := [5]) (by kernel_rfl) (by simp) ?_
   refine AllReadyH.cons (o := dk5) rfl (fun K hK => ?_) ?_
   ·unfold dk5
    go_simp
    go_at_call 51
    refine (qj0 _ p Ay ny cy y Kc Kr Ko Ky T _ (hvV.ext hE) HV.out (hyV.ext hE) HC.out HR.out HO.out HY.out HT.out hT2 hT3 hT4).mono ?_
    rintro e Z6 ⟨x1, X2, n2, c2, x3, X4, n4, c4, rfl, hqq, hx⟩
    rw [← HF.out] at hqq ⊢
    rw [← HQ.out] at hqq
    have NB := NB.ext hx
    have hE := hE.trans hx
    clear hx
    have hLt : Later V Z6 := hE
    try (go_wp2_with fail)
    refine hK.out _ _ hLt (fun hHeld => ?_)
    clear hK K hLt
    try simp only [Act.put, sqa, sqb, sqc]
    refine wpAnyH_take (i := 6) (oi := { dst := some 59, op := Op.move (Operand.tmp 65), type := 112, pos := "certificate.go:166", after := #[{ on := 5, ground := Ground.data }], guard := none }) (v := ?_) rfl (by kernel_rfl) (by kernel_rfl) (by kernel_rfl) (fun _ _ _ h => h) (Or.inl ⟨by rfl, ?_⟩) (by assumption) ?_
    rotate_left
    ·intro w hSw; (try dsimp only at hSw); go_simp; try (with_reducible rfl)
    try simp only [Act.put, sqa, sqb, sqc]
    refine wpAnyH_take (i := 7) (oi := { dst := some 66, op := Op.extract (Operand.tmp 59) 0, type := 58, pos := "certificate.go:166", after := #[{ on := 6, ground := Ground.data }], guard := none }) (v := ?_) rfl (by kernel_rfl) (by kernel_rfl) (by kernel_rfl) (fun _ _ _ h => h) (Or.inl ⟨by rfl, ?_⟩) (by assumption) ?_
    rotate_left
    ·intro w hSw; (try dsimp only at hSw); go_simp; try (with_reducible rfl)
    try simp only [Act.put, sqa, sqb, sqc]
    refine wpAnyH_take (i := 8) (oi := { dst := some 67, op := Op.extract (Operand.tmp 59) 1, type := 4, pos := "certificate.go:166", after := #[{ on := 6, ground := Ground.data }, { on := 10, ground := Ground.gcOnly Departure.lateStores }], guard := none }) (v := ?_) rfl (by kernel_rfl) (by kernel_rfl) (by kernel_rfl) (fun _ _ _ h => h) (Or.inl ⟨by rfl, ?_⟩) (by assumption) ?_
    rotate_left
    ·intro w hSw; (try dsimp only at hSw); go_simp; try (with_reducible rfl)
    try simp only [Act.put, sqa, sqb, sqc]
    refine wpAnyH_ready (rs := [10]) (by kernel_rfl) (by simp) ?_
    refine AllReadyH.cons (o := dk10) rfl (fun K hK => ?_) ?_
    ·have y0 : Z6.cell? ⟨bN, 0, none⟩ = some _ := NB.cell 0
     have z0 := NB.frozen 0
     have y1 : Z6.cell? ⟨bN, 1, none⟩ = some _ := NB.cell 1
     have z1 := NB.frozen 1
     have y2 : Z6.cell? ⟨bN, 2, none⟩ = some _ := NB.cell 2
     have z2 := NB.frozen 2
     have y3 : Z6.cell? ⟨bN, 3, none⟩ = some _ := NB.cell 3
     have z3 := NB.frozen 3
     unfold dk10
     go_simp
     obtain ⟨hf, NB2⟩ := put4 NB (.bool x1) (.slice X2 n2 c2) (.bool x3) (.slice X4 n4 c4)
     have hqq := fun h => hf.ratB (hqq h)
     have hE := hf.ext hE (fun b hb => by rw [hb]; exact hwN)
     clear hf y0 z0 y1 z1 y2 z2 y3 z3
     have NB := NB2
     clear NB2
     generalize ((((Z6.setCell ⟨bN, 0, none⟩ (.bool x1)).setCell ⟨bN, 1, none⟩ (.slice X2 n2 c2)).setCell ⟨bN, 2, none⟩ (.bool x3)).setCell ⟨bN, 3, none⟩ (.slice X4 n4 c4)) = Z7 at *
     have hLt : Later V Z7 := hE
     refine hK.out _ _ hLt (fun hHeld => ?_)
     clear hK K hLt
     try simp only [Act.put, sqa, sqb, sqc]
     refine wpAnyH_take (i := 11) (oi := { dst := some 9, op := Op.assign (Operand.tmp 67), type := 4, pos := "certificate.go:166", after := #[{ on := 8, ground := Ground.data }, { on := 10, ground := Ground.chain }, { on := 0, ground := Ground.phase }, { on := 1, ground := Ground.phase }, { on := 2, ground := Ground.phase }, { on := 3, ground := Ground.phase }, { on := 4, ground := Ground.phase }, { on := 5, ground := Ground.phase }, { on := 6, ground := Ground.phase }, { on := 7, ground := Ground.phase }, { on := 8, ground := Ground.phase }, { on := 9, ground := Ground.phase }, { on := 10, ground := Ground.phase }], guard := none }) (v := ?_) rfl (by kernel_rfl) (by kernel_rfl) (by kernel_rfl) (fun _ _ _ h => h) (Or.inl ⟨by rfl, ?_⟩) (by assumption) ?_
     rotate_left
     ·intro w hSw; (try dsimp only at hSw); go_simp; try (with_reducible rfl)
     try simp only [Act.put, sqa, sqb, sqc]
     refine wpAnyH_done (by kernel_rfl) ?_ _
     go_wp2_with fail
     go_meet
     exact ⟨bN, x1, X2, n2, c2, x3, X4, n4, c4, rfl, rfl, NB, hqq, hE⟩
    exact AllReadyH.nil
   exact AllReadyH.nil
  exact AllReadyH.nil
 case rest =>
 obtain ⟨b8, x1, X2, n2, c2, x3, X4, n4, c4, rfl, rfl, QB8, hq8, hxc⟩ := hcut
 rename_i hK
 refine hK _ _ ?_
 clear hK
 have hE1 := hE0.trans hxc
 have LB := hLB.ext hE1
 have SB := hSB.ext hE1
 have hz1 := hz.ext hE1
 cases F with
 | false =>
   go_wp2_with fail
   go_ret
   exact ⟨rfl, hE1⟩
 | true =>
   have hq9 := hq8 rfl
   have e0 := QB8.c0
   have e1 := QB8.c1
   have e2 := QB8.c2
   have e3 := QB8.c3
   have l0 := LB.c0
   have l1 := LB.c1
   have l2' := LB.c2
   have l3' := LB.c3
   clear hq8
   go_wp2_with fail
   refine (q8w _ _ q z T Kz _ hq9 hz1 (by omega)).mono ?_
   rintro e w2 ⟨rfl, hx2⟩
   obtain ⟨g, hg⟩ : ∃ g, g = cmpQ q z := ⟨_, rfl⟩
   rw [← hg]
   have QB9 := QB8.ext hx2
   have LB2 := LB.ext hx2
   have SB2 := SB.ext hx2
   have hq2 := hq9.ext hx2
   have hz2 := hz1.ext hx2
   have hE2 := hE1.trans hx2
   clear e0 e1 e2 e3 l0 l1 l2' l3'
   by_cases hlt : q < z
   ·have hgl : g = -1 := by
     rw [hg]
     rcases qq3 q z with ⟨-, h⟩ | ⟨h, -⟩ | ⟨h, -⟩
     ·exact h
     ·exact absurd hlt (by rw [h]; exact Rat.lt_irrefl)
     ·exact absurd hlt (Rat.not_lt.2 (Rat.le_of_lt h))
    subst hgl
    clear hg
    go_wp2_with fail
    go_ret
    exact ⟨by unfold chkB; rw [decide_eq_true hlt]; rfl, hE2⟩
   ·have hgl : ¬ g < 0 := by
     rw [hg]
     rcases qq3 q z with ⟨h, -⟩ | ⟨-, h⟩ | ⟨-, h⟩
     ·exact absurd h hlt
     ·rw [h]; decide
     ·rw [h]; decide
    have hge : (g == 0) = decide (q = z) := by
     rw [hg]
     rcases qq3 q z with ⟨h, -⟩ | ⟨h, h'⟩ | ⟨h, h'⟩
     ·exact absurd h hlt
     ·rw [h', decide_eq_true h]; rfl
     ·rw [h', decide_eq_false (fun e => by rw [e] at h; exact absurd h Rat.lt_irrefl)]; rfl
    have HG : Hid (cmpQ q z = g) := Lib.hid hg.symm
    have i1 : decide (g < 0) = false := decide_eq_false hgl
    have s0 := SB2.c0
    clear hg hgl
    cases s with
    | true =>
      clear hge
      go_wp2_with fail
      go_ret
      exact ⟨by unfold chkB; rw [decide_eq_false hlt]; rfl, hE2⟩
    | false =>
      obtain ⟨D, hD⟩ : ∃ D, D = decide (q = z) := ⟨_, rfl⟩
      rw [← hD] at hge
      have HD := Lib.hid hD
      clear hD
      have e0 := QB9.c0
      have e1 := QB9.c1
      have e2 := QB9.c2
      have e3 := QB9.c3
      have l0 := LB2.c0
      have l1 := LB2.c1
      have l2' := LB2.c2
      have l3' := LB2.c3
      have HH : Hid (chkB true q z false = D) := Lib.hid (by unfold chkB; rw [decide_eq_false hlt, ← HD.out]; simp)
      go_wp2_with fail
      refine (q8w _ _ q z T Kz _ hq2 hz2 (by omega)).mono ?_
      rintro e w3 ⟨rfl, hx3⟩
      rw [HG.out]
      clear e0 e1 e2 e3 l0 l1 l2' l3'
      go_wp2_with fail
      go_ret
      exact ⟨by rw [HH.out]; rfl, hE2.trans hx3⟩
end Go.Proofs.YtljncdcjkdgkeaaGreatDoor.Lp

/- Walk: the law BigintInts. -/
import Derived.Test.YtnojllmidpdbcaaDoorLGcd
import Derived.Test.YtnojllmidpdbcaaDoorLSmall
set_option linter.unusedVariables false
set_option linter.unusedSimpArgs false
namespace Go.Proofs.YtnojllmidpdbcaaDoor.Big
open Go.RowKit

theorem cmpZ_ge {x y : Int} : decide (0 ≤ cmpZ x y) = decide (y ≤ x) := by
  unfold cmpZ; split
  · simp; omega
  · split <;> simp <;> omega
theorem cmpZ_le {x y : Int} : decide (cmpZ x y ≤ 0) = decide (x ≤ y) := by
  unfold cmpZ; split
  · simp; omega
  · split <;> simp <;> omega
theorem parse_bound2 {s : ByteArray} (h0 : s.size ≤ 80) (h : isDec s.data.toList = true) : B 80 (parseZ s.data.toList) := parse_bound (by unfold okT; simp [h0, h])

set_option maxRecDepth 100000 in
set_option maxHeartbeats 8000000 in
theorem ints_any (n : Int) (s : ByteArray) (w : World) (h0 : -9223372036854775808 ≤ n) (h1 : n ≤ 9223372036854775807) (htab : TabOK w) :
    Calls Tryd.prog 4 #[.int .i64 n, .string s] w (fun e w' => e = .returned (.bool true) ∧ Ext w w') := by
  go_enter Tryd.func4, Tryd.ntmps4
  go_wp2_with fail
  refine (awake_any _ htab).mono ?_
  rintro e w1 ⟨rfl, hx1⟩
  go_wp2_with fail
  refine (Of_any n _ h0 h1).mono ?_
  rintro e w2 ⟨v2, rfl, hb2, hx2⟩
  obtain ⟨p2, A2, k2, c2, rfl⟩ := hb2.shape
  go_upto_region 4 with fail
  have hE2 : Ext w2 (w2.alloc (.cells #[.bool p2, .slice A2 k2 c2] 25)) := (Ext.refl w2).alloc _
  have B5 := Box.new w2 25 #[.bool p2, .slice A2 k2 c2]
  have hN := hb2.ext hE2
  have hE0 := (hx1.trans hx2).trans hE2
  generalize (w2.alloc (.cells #[.bool p2, .slice A2 k2 c2] 25)) = W at *
  clear hE2 hx1 hx2 hb2
  have q0 := B5.c0
  have q1 := B5.c1
  go_wp2_with fail
  refine (Int_fit _ n _ hN h0 h1).mono ?_
  rintro e w3 ⟨rfl, hx3⟩
  have B5 := B5.ext hx3
  have q0 := B5.c0
  have q1 := B5.c1
  have hN := hN.ext hx3
  have hE3 := hE0.trans hx3
  obtain ⟨e1, e2, sg, hsg⟩ : ∃ e1 e2 : Bool, ∃ sg : Int, decide (0 < n) = e1 ∧ decide (n < 0) = e2 ∧ n.sign = sg ∧ ((e1 = true ∧ e2 = false ∧ sg = 1) ∨ (e1 = false ∧ e2 = false ∧ sg = 0) ∨ (e1 = false ∧ e2 = true ∧ sg = -1)) := by
    refine ⟨_, _, _, rfl, rfl, rfl, ?_⟩
    rcases sign_cases n with ⟨a, b⟩ | ⟨a, b⟩ | ⟨a, b⟩
    · right; right; refine ⟨by simp; omega, by simp; omega, b⟩
    · right; left; refine ⟨by simp; omega, by simp; omega, b⟩
    · left; refine ⟨by simp; omega, by simp; omega, b⟩
  obtain ⟨g1, g2, g3, hc⟩ := hsg
  clear q0 q1
  rcases hc with ⟨rfl, rfl, rfl⟩ | ⟨rfl, rfl, rfl⟩ | ⟨rfl, rfl, rfl⟩
  · have q0 := B5.c0
    have q1 := B5.c1
    go_wp2_with fail
    refine (Sign_any _ n _ hN).mono ?_
    rintro e w4 ⟨rfl, hx4⟩
    go_wp2_with fail
    refine (Of_any (-9223372036854775808) _ (by decide) (by decide)).mono ?_
    rintro e w5 ⟨v5, rfl, hb5, hx5⟩
    obtain ⟨p5, A5, k5, c5, rfl⟩ := hb5.shape
    go_wp2_with fail
    refine (Of_any 9223372036854775807 _ (by decide) (by decide)).mono ?_
    rintro e w6 ⟨v6, rfl, hb6, hx6⟩
    obtain ⟨p6, A6, k6, c6, rfl⟩ := hb6.shape
    obtain ⟨L, hL⟩ : ∃ L : Int, L = -9223372036854775808 := ⟨_, rfl⟩
    obtain ⟨M, hM⟩ : ∃ L : Int, L = 9223372036854775807 := ⟨_, rfl⟩
    rw [← hL] at hb5
    rw [← hM] at hb6
    have hE6 := ((hE3.trans hx4).trans hx5).trans hx6
    have hb5 := hb5.ext hx6
    go_upto_region 13 with fail
    obtain ⟨B9, B10, hE⟩ := boxes2 w6 25 #[.bool p5, .slice A5 k5 c5] #[.bool p6, .slice A6 k6 c6]
    have hb5 := hb5.ext hE
    have hb6 := hb6.ext hE
    have hE7 := hE6.trans hE
    clear hE6 hE3 hx4 hx5 hx6 B5 q0 q1 hE
    generalize ((w6.alloc (.cells #[.bool p5, .slice A5 k5 c5] 25)).alloc (.cells #[.bool p6, .slice A6 k6 c6] 25)) = W7 at *
    by_cases hs : 80 < s.size
    · have e1 : decide ((80 : Int) < (s.size : Int)) = true := by simp; omega
      clear hs
      go_wp2_with fail
      go_ret
      exact ⟨rfl, hE7⟩
    have e1 : decide ((80 : Int) < (s.size : Int)) = false := by simp; omega
    go_wp2_with fail
    refine (Parse_any s _ (by omega)).mono ?_
    rintro e w8 ⟨v8, Y, rfl, hy, hY1, -, hx8⟩
    obtain ⟨p8, A8, k8, c8, rfl⟩ := hy.shape
    have bY : isDec s.data.toList = true → B 80 Y := fun h => by rw [hY1 h]; exact parse_bound2 (by omega) h
    generalize isDec s.data.toList = ds at *
    clear hY1 hs
    have B9 := B9.ext hx8
    have B10 := B10.ext hx8
    have hb5 := hb5.ext hx8
    have hb6 := hb6.ext hx8
    have hE8 := hE7.trans hx8
    go_upto_region 16 with fail
    have hE : Ext w8 (w8.alloc (.cells #[.bool p8, .slice A8 k8 c8] 25)) := (Ext.refl w8).alloc _
    have B11 := Box.new w8 25 #[.bool p8, .slice A8 k8 c8]
    have B9 := B9.ext hE
    have B10 := B10.ext hE
    have hb5 := hb5.ext hE
    have hb6 := hb6.ext hE
    have hy := hy.ext hE
    have hE8 := hE8.trans hE
    clear hE hE7 hx8
    generalize (w8.alloc (.cells #[.bool p8, .slice A8 k8 c8] 25)) = W9 at *
    cases ds
    case false =>
      go_wp2_with fail
      go_ret
      exact ⟨rfl, hE8⟩
    have bYY : B 80 Y := bY rfl
    clear bY
    have k90 : ∀ w', Later W9 w' → w'.cell? ⟨w6.heap.size, 0, none⟩ = some (.bool p5) := fun w' h => (B9.ext h).c0
    have k91 : ∀ w', Later W9 w' → w'.cell? ⟨w6.heap.size, 1, none⟩ = some (.slice A5 k5 c5) := fun w' h => (B9.ext h).c1
    have ka0 : ∀ w', Later W9 w' → w'.cell? ⟨w6.heap.size + 1, 0, none⟩ = some (.bool p6) := fun w' h => (B10.ext h).c0
    have ka1 : ∀ w', Later W9 w' → w'.cell? ⟨w6.heap.size + 1, 1, none⟩ = some (.slice A6 k6 c6) := fun w' h => (B10.ext h).c1
    have kb0 : ∀ w', Later W9 w' → w'.cell? ⟨w8.heap.size, 0, none⟩ = some (.bool p8) := fun w' h => (B11.ext h).c0
    have kb1 : ∀ w', Later W9 w' → w'.cell? ⟨w8.heap.size, 1, none⟩ = some (.slice A8 k8 c8) := fun w' h => (B11.ext h).c1
    have l9 := Later.refl W9
    clear B9 B10 B11
    have c1 := cmpZ_ge (x := Y) (y := L)
    have c2 := cmpZ_le (x := Y) (y := M)
    obtain ⟨z1, hz1⟩ : ∃ z, z = cmpZ Y L := ⟨_, rfl⟩
    obtain ⟨z2, hz2⟩ : ∃ z, z = cmpZ Y M := ⟨_, rfl⟩
    rw [← hz1] at c1
    rw [← hz2] at c2
    replace hz1 := hz1.symm
    replace hz2 := hz2.symm
    have hf : fits Y = (decide (L ≤ Y) && decide (Y ≤ M)) := by unfold fits; rw [hL, hM]
    obtain ⟨d1, hd1⟩ : ∃ d, d = decide (L ≤ Y) := ⟨_, rfl⟩
    obtain ⟨d2, hd2⟩ : ∃ d, d = decide (Y ≤ M) := ⟨_, rfl⟩
    rw [← hd1] at c1 hf
    rw [← hd2] at c2 hf
    have HL := Lib.hid hL
    have HM := Lib.hid hM
    have HD1 := Lib.hid hd1
    have HD2 := Lib.hid hd2
    clear hL hM hd1 hd2
    go_wp2_with fail
    refine (Int_any _ Y 80 _ hy bYY (by decide)).mono ?_
    rintro e w10 ⟨rfl, hx10⟩
    have l10 := l9.step hx10
    rw [hf]
    clear hf
    have lf := l10
    cases d1
    · go_wp2_with fail
      refine (Cmp_any _ _ Y L _ (hy.ext l10) (hb5.ext l10)).mono ?_
      rintro e w11 ⟨rfl, hx11⟩
      rw [hz1]
      have l11 := l10.step hx11
      clear lf l10
      go_upto_region 21 with fail
      refine wp_region_held_drew (S := fun w' => Later W9 w') (by kernel_rfl) ?_ (fun hHeld => ?_)
      · (try dsimp only); (repeat (first | assumption | apply Later.drew | apply Later.drewN | apply Later.alloc | (refine Later.step ?_ (by assumption))))
      refine wpAnyH_take (i := 0) (oi := { dst := some 70, op := Op.move (Operand.tmp 14), type := 4, pos := "law.go:95", after := #[], guard := none }) (v := ?_) rfl (by kernel_rfl) (by kernel_rfl) (by kernel_rfl) (fun _ _ _ h => h) (Or.inl ⟨by rfl, ?_⟩) (by assumption) ?_
      rotate_left
      · intro w hSw; (try dsimp only at hSw); go_simp; try (with_reducible rfl)
      try simp only [Act.put, List.setIfInBounds_toArray, List.set_cons_zero, List.set_cons_succ]
      refine wpAnyH_take (i := 1) (oi := { dst := some 71, op := Op.unOp UnOp.not 4 (Operand.tmp 70), type := 4, pos := "law.go:95", after := #[{ on := 0, ground := Ground.data }], guard := none }) (v := ?_) rfl (by kernel_rfl) (by kernel_rfl) (by kernel_rfl) (fun _ _ _ h => h) (Or.inl ⟨by rfl, ?_⟩) (by assumption) ?_
      rotate_left
      · intro w hSw; (try dsimp only at hSw); go_simp; try (with_reducible rfl)
      try simp only [Act.put, List.setIfInBounds_toArray, List.set_cons_zero, List.set_cons_succ]
      refine wpAnyH_take (i := 2) (oi := { dst := some 72, op := Op.move (Operand.tmp 71), type := 4, pos := "law.go:95", after := #[{ on := 1, ground := Ground.data }], guard := none }) (v := ?_) rfl (by kernel_rfl) (by kernel_rfl) (by kernel_rfl) (fun _ _ _ h => h) (Or.inl ⟨by rfl, ?_⟩) (by assumption) ?_
      rotate_left
      · intro w hSw; (try dsimp only at hSw); go_simp; try (with_reducible rfl)
      try simp only [Act.put, List.setIfInBounds_toArray, List.set_cons_zero, List.set_cons_succ]
      refine wpAnyH_take (i := 3) (oi := { dst := some 73, op := Op.move (Operand.tmp 13), type := 3, pos := "law.go:95", after := #[{ on := 2, ground := Ground.guard }], guard := some (2, true) }) (v := ?_) rfl (by kernel_rfl) (by kernel_rfl) (by kernel_rfl) (fun _ _ _ h => h) (Or.inl ⟨by rfl, ?_⟩) (by assumption) ?_
      rotate_left
      · intro w hSw; (try dsimp only at hSw); go_simp; try (with_reducible rfl)
      try simp only [Act.put, List.setIfInBounds_toArray, List.set_cons_zero, List.set_cons_succ]
      refine wpAnyH_take (i := 4) (oi := { dst := some 74, op := Op.binOp BinOp.eql 3 (Operand.tmp 73) (Operand.const (Value.int IntKind.i64 0)) 3, type := 4, pos := "law.go:95", after := #[{ on := 3, ground := Ground.data }, { on := 2, ground := Ground.guard }], guard := some (2, true) }) (v := ?_) rfl (by kernel_rfl) (by kernel_rfl) (by kernel_rfl) (fun _ _ _ h => h) (Or.inl ⟨by rfl, ?_⟩) (by assumption) ?_
      rotate_left
      · intro w hSw; (try dsimp only at hSw); go_simp; try (with_reducible rfl)
      try simp only [Act.put, List.setIfInBounds_toArray, List.set_cons_zero, List.set_cons_succ]
      refine wpAnyH_take (i := 5) (oi := { dst := some 75, op := Op.pick (Operand.tmp 72) (Operand.tmp 74) (Operand.const (Value.bool false)), type := 4, pos := "law.go:95", after := #[{ on := 2, ground := Ground.data }, { on := 4, ground := Ground.data }], guard := none }) (v := ?_) rfl (by kernel_rfl) (by kernel_rfl) (by kernel_rfl) (fun _ _ _ h => h) (Or.inl ⟨by rfl, ?_⟩) (by assumption) ?_
      rotate_left
      · intro w hSw; (try dsimp only at hSw); go_simp; try (with_reducible rfl)
      try simp only [Act.put, List.setIfInBounds_toArray, List.set_cons_zero, List.set_cons_succ]
      refine wpAnyH_take (i := 6) (oi := { dst := some 76, op := Op.move (Operand.tmp 75), type := 4, pos := "law.go:95", after := #[{ on := 5, ground := Ground.data }, { on := 2, ground := Ground.chain }], guard := none }) (v := ?_) rfl (by kernel_rfl) (by kernel_rfl) (by kernel_rfl) (fun _ _ _ h => h) (Or.inl ⟨by rfl, ?_⟩) (by assumption) ?_
      rotate_left
      · intro w hSw; (try dsimp only at hSw); go_simp; try (with_reducible rfl)
      try simp only [Act.put, List.setIfInBounds_toArray, List.set_cons_zero, List.set_cons_succ]
      refine wpAnyH_take (i := 7) (oi := { dst := some 77, op := Op.move (Operand.tmp 14), type := 4, pos := "law.go:95", after := #[{ on := 6, ground := Ground.guard }], guard := some (6, false) }) (v := undef) rfl (by kernel_rfl) (by kernel_rfl) (by kernel_rfl) (fun _ _ _ h => h) (Or.inr ⟨by rfl, rfl⟩) (by assumption) ?_
      try simp only [Act.put, List.setIfInBounds_toArray, List.set_cons_zero, List.set_cons_succ]
      refine wpAnyH_take (i := 8) (oi := { dst := some 78, op := Op.move (Operand.tmp 77), type := 4, pos := "law.go:95", after := #[{ on := 7, ground := Ground.data }, { on := 6, ground := Ground.chain }, { on := 6, ground := Ground.guard }], guard := some (6, false) }) (v := undef) rfl (by kernel_rfl) (by kernel_rfl) (by kernel_rfl) (fun _ _ _ h => h) (Or.inr ⟨by rfl, rfl⟩) (by assumption) ?_
      try simp only [Act.put, List.setIfInBounds_toArray, List.set_cons_zero, List.set_cons_succ]
      refine wpAnyH_take (i := 9) (oi := { dst := some 79, op := Op.move (Operand.tmp 13), type := 3, pos := "law.go:95", after := #[{ on := 8, ground := Ground.guard }], guard := some (8, true) }) (v := undef) rfl (by kernel_rfl) (by kernel_rfl) (by kernel_rfl) (fun _ _ _ h => h) (Or.inr ⟨by rfl, rfl⟩) (by assumption) ?_
      try simp only [Act.put, List.setIfInBounds_toArray, List.set_cons_zero, List.set_cons_succ]
      refine wpAnyH_take (i := 10) (oi := { dst := some 80, op := Op.call { callee := Callee.value (Operand.func 18), args := #[Operand.tmp 79], argTypes := #[3] }, type := 25, pos := "law.go:95", after := #[{ on := 9, ground := Ground.data }, { on := 8, ground := Ground.chain }, { on := 8, ground := Ground.guard }], guard := some (8, true) }) (v := undef) rfl (by kernel_rfl) (by kernel_rfl) (by kernel_rfl) (fun _ _ _ h => h) (Or.inr ⟨by rfl, rfl⟩) (by assumption) ?_
      try simp only [Act.put, List.setIfInBounds_toArray, List.set_cons_zero, List.set_cons_succ]
      refine wpAnyH_take (i := 11) (oi := { dst := some 81, op := Op.load 25 (Operand.tmp 11), type := 25, pos := "law.go:95", after := #[{ on := 8, ground := Ground.guard }], guard := some (8, true) }) (v := undef) rfl (by kernel_rfl) (by kernel_rfl) (by kernel_rfl) (fun _ _ _ h => h) (Or.inr ⟨by rfl, rfl⟩) (by assumption) ?_
      try simp only [Act.put, List.setIfInBounds_toArray, List.set_cons_zero, List.set_cons_succ]
      refine wpAnyH_take (i := 12) (oi := { dst := some 82, op := Op.call { callee := Callee.value (Operand.func 20), args := #[Operand.tmp 80, Operand.tmp 81], argTypes := #[25, 25] }, type := 3, pos := "law.go:95", after := #[{ on := 10, ground := Ground.data }, { on := 11, ground := Ground.data }, { on := 10, ground := Ground.chain }, { on := 8, ground := Ground.guard }], guard := some (8, true) }) (v := undef) rfl (by kernel_rfl) (by kernel_rfl) (by kernel_rfl) (fun _ _ _ h => h) (Or.inr ⟨by rfl, rfl⟩) (by assumption) ?_
      try simp only [Act.put, List.setIfInBounds_toArray, List.set_cons_zero, List.set_cons_succ]
      refine wpAnyH_take (i := 13) (oi := { dst := some 83, op := Op.binOp BinOp.eql 3 (Operand.tmp 82) (Operand.const (Value.int IntKind.i64 0)) 3, type := 4, pos := "law.go:95", after := #[{ on := 12, ground := Ground.data }, { on := 8, ground := Ground.guard }], guard := some (8, true) }) (v := undef) rfl (by kernel_rfl) (by kernel_rfl) (by kernel_rfl) (fun _ _ _ h => h) (Or.inr ⟨by rfl, rfl⟩) (by assumption) ?_
      try simp only [Act.put, List.setIfInBounds_toArray, List.set_cons_zero, List.set_cons_succ]
      refine wpAnyH_take (i := 14) (oi := { dst := some 84, op := Op.pick (Operand.tmp 78) (Operand.tmp 83) (Operand.const (Value.bool false)), type := 4, pos := "law.go:95", after := #[{ on := 8, ground := Ground.data }, { on := 13, ground := Ground.data }, { on := 6, ground := Ground.guard }], guard := some (6, false) }) (v := undef) rfl (by kernel_rfl) (by kernel_rfl) (by kernel_rfl) (fun _ _ _ h => h) (Or.inr ⟨by rfl, rfl⟩) (by assumption) ?_
      try simp only [Act.put, List.setIfInBounds_toArray, List.set_cons_zero, List.set_cons_succ]
      refine wpAnyH_take (i := 15) (oi := { dst := some 85, op := Op.pick (Operand.tmp 76) (Operand.const (Value.bool true)) (Operand.tmp 84), type := 4, pos := "law.go:95", after := #[{ on := 6, ground := Ground.data }, { on := 14, ground := Ground.data }], guard := none }) (v := ?_) rfl (by kernel_rfl) (by kernel_rfl) (by kernel_rfl) (fun _ _ _ h => h) (Or.inl ⟨by rfl, ?_⟩) (by assumption) ?_
      rotate_left
      · intro w hSw; (try dsimp only at hSw); go_simp; try (with_reducible rfl)
      try simp only [Act.put, List.setIfInBounds_toArray, List.set_cons_zero, List.set_cons_succ]
      refine wpAnyH_take (i := 16) (oi := { dst := some 4, op := Op.assign (Operand.tmp 85), type := 4, pos := "law.go:95", after := #[{ on := 15, ground := Ground.data }, { on := 12, ground := Ground.chain }, { on := 0, ground := Ground.phase }, { on := 1, ground := Ground.phase }, { on := 2, ground := Ground.phase }, { on := 3, ground := Ground.phase }, { on := 4, ground := Ground.phase }, { on := 5, ground := Ground.phase }, { on := 6, ground := Ground.phase }, { on := 7, ground := Ground.phase }, { on := 8, ground := Ground.phase }, { on := 9, ground := Ground.phase }, { on := 10, ground := Ground.phase }, { on := 11, ground := Ground.phase }, { on := 12, ground := Ground.phase }, { on := 13, ground := Ground.phase }, { on := 14, ground := Ground.phase }, { on := 15, ground := Ground.phase }], guard := none }) (v := ?_) rfl (by kernel_rfl) (by kernel_rfl) (by kernel_rfl) (fun _ _ _ h => h) (Or.inl ⟨by rfl, ?_⟩) (by assumption) ?_
      rotate_left
      · intro w hSw; (try dsimp only at hSw); go_simp; try (with_reducible rfl)
      try simp only [Act.put, List.setIfInBounds_toArray, List.set_cons_zero, List.set_cons_succ]
      refine wpAnyH_done (by kernel_rfl) ?_ _
      go_wp2_with fail
      go_ret
      exact ⟨rfl, hE8.trans (show Later W9 _ by first | assumption | (apply Later.drew; assumption) | (apply Later.drewN; assumption))⟩
    
    cases d2
    · go_wp2_with fail
      refine (Cmp_any _ _ Y L _ (hy.ext l10) (hb5.ext l10)).mono ?_
      rintro e w11 ⟨rfl, hx11⟩
      rw [hz1]
      have l11 := l10.step hx11
      go_wp2_with fail
      refine (Cmp_any _ _ Y M _ (hy.ext l11) (hb6.ext l11)).mono ?_
      rintro e w12 ⟨rfl, hx12⟩
      rw [hz2]
      have l12 := l11.step hx12
      clear lf l10 l11
      go_upto_region 21 with fail
      refine wp_region_held_drew (S := fun w' => Later W9 w') (by kernel_rfl) ?_ (fun hHeld => ?_)
      · (try dsimp only); (repeat (first | assumption | apply Later.drew | apply Later.drewN | apply Later.alloc | (refine Later.step ?_ (by assumption))))
      refine wpAnyH_take (i := 0) (oi := { dst := some 70, op := Op.move (Operand.tmp 14), type := 4, pos := "law.go:95", after := #[], guard := none }) (v := ?_) rfl (by kernel_rfl) (by kernel_rfl) (by kernel_rfl) (fun _ _ _ h => h) (Or.inl ⟨by rfl, ?_⟩) (by assumption) ?_
      rotate_left
      · intro w hSw; (try dsimp only at hSw); go_simp; try (with_reducible rfl)
      try simp only [Act.put, List.setIfInBounds_toArray, List.set_cons_zero, List.set_cons_succ]
      refine wpAnyH_take (i := 1) (oi := { dst := some 71, op := Op.unOp UnOp.not 4 (Operand.tmp 70), type := 4, pos := "law.go:95", after := #[{ on := 0, ground := Ground.data }], guard := none }) (v := ?_) rfl (by kernel_rfl) (by kernel_rfl) (by kernel_rfl) (fun _ _ _ h => h) (Or.inl ⟨by rfl, ?_⟩) (by assumption) ?_
      rotate_left
      · intro w hSw; (try dsimp only at hSw); go_simp; try (with_reducible rfl)
      try simp only [Act.put, List.setIfInBounds_toArray, List.set_cons_zero, List.set_cons_succ]
      refine wpAnyH_take (i := 2) (oi := { dst := some 72, op := Op.move (Operand.tmp 71), type := 4, pos := "law.go:95", after := #[{ on := 1, ground := Ground.data }], guard := none }) (v := ?_) rfl (by kernel_rfl) (by kernel_rfl) (by kernel_rfl) (fun _ _ _ h => h) (Or.inl ⟨by rfl, ?_⟩) (by assumption) ?_
      rotate_left
      · intro w hSw; (try dsimp only at hSw); go_simp; try (with_reducible rfl)
      try simp only [Act.put, List.setIfInBounds_toArray, List.set_cons_zero, List.set_cons_succ]
      refine wpAnyH_take (i := 3) (oi := { dst := some 73, op := Op.move (Operand.tmp 13), type := 3, pos := "law.go:95", after := #[{ on := 2, ground := Ground.guard }], guard := some (2, true) }) (v := ?_) rfl (by kernel_rfl) (by kernel_rfl) (by kernel_rfl) (fun _ _ _ h => h) (Or.inl ⟨by rfl, ?_⟩) (by assumption) ?_
      rotate_left
      · intro w hSw; (try dsimp only at hSw); go_simp; try (with_reducible rfl)
      try simp only [Act.put, List.setIfInBounds_toArray, List.set_cons_zero, List.set_cons_succ]
      refine wpAnyH_take (i := 4) (oi := { dst := some 74, op := Op.binOp BinOp.eql 3 (Operand.tmp 73) (Operand.const (Value.int IntKind.i64 0)) 3, type := 4, pos := "law.go:95", after := #[{ on := 3, ground := Ground.data }, { on := 2, ground := Ground.guard }], guard := some (2, true) }) (v := ?_) rfl (by kernel_rfl) (by kernel_rfl) (by kernel_rfl) (fun _ _ _ h => h) (Or.inl ⟨by rfl, ?_⟩) (by assumption) ?_
      rotate_left
      · intro w hSw; (try dsimp only at hSw); go_simp; try (with_reducible rfl)
      try simp only [Act.put, List.setIfInBounds_toArray, List.set_cons_zero, List.set_cons_succ]
      refine wpAnyH_take (i := 5) (oi := { dst := some 75, op := Op.pick (Operand.tmp 72) (Operand.tmp 74) (Operand.const (Value.bool false)), type := 4, pos := "law.go:95", after := #[{ on := 2, ground := Ground.data }, { on := 4, ground := Ground.data }], guard := none }) (v := ?_) rfl (by kernel_rfl) (by kernel_rfl) (by kernel_rfl) (fun _ _ _ h => h) (Or.inl ⟨by rfl, ?_⟩) (by assumption) ?_
      rotate_left
      · intro w hSw; (try dsimp only at hSw); go_simp; try (with_reducible rfl)
      try simp only [Act.put, List.setIfInBounds_toArray, List.set_cons_zero, List.set_cons_succ]
      refine wpAnyH_take (i := 6) (oi := { dst := some 76, op := Op.move (Operand.tmp 75), type := 4, pos := "law.go:95", after := #[{ on := 5, ground := Ground.data }, { on := 2, ground := Ground.chain }], guard := none }) (v := ?_) rfl (by kernel_rfl) (by kernel_rfl) (by kernel_rfl) (fun _ _ _ h => h) (Or.inl ⟨by rfl, ?_⟩) (by assumption) ?_
      rotate_left
      · intro w hSw; (try dsimp only at hSw); go_simp; try (with_reducible rfl)
      try simp only [Act.put, List.setIfInBounds_toArray, List.set_cons_zero, List.set_cons_succ]
      refine wpAnyH_take (i := 7) (oi := { dst := some 77, op := Op.move (Operand.tmp 14), type := 4, pos := "law.go:95", after := #[{ on := 6, ground := Ground.guard }], guard := some (6, false) }) (v := undef) rfl (by kernel_rfl) (by kernel_rfl) (by kernel_rfl) (fun _ _ _ h => h) (Or.inr ⟨by rfl, rfl⟩) (by assumption) ?_
      try simp only [Act.put, List.setIfInBounds_toArray, List.set_cons_zero, List.set_cons_succ]
      refine wpAnyH_take (i := 8) (oi := { dst := some 78, op := Op.move (Operand.tmp 77), type := 4, pos := "law.go:95", after := #[{ on := 7, ground := Ground.data }, { on := 6, ground := Ground.chain }, { on := 6, ground := Ground.guard }], guard := some (6, false) }) (v := undef) rfl (by kernel_rfl) (by kernel_rfl) (by kernel_rfl) (fun _ _ _ h => h) (Or.inr ⟨by rfl, rfl⟩) (by assumption) ?_
      try simp only [Act.put, List.setIfInBounds_toArray, List.set_cons_zero, List.set_cons_succ]
      refine wpAnyH_take (i := 9) (oi := { dst := some 79, op := Op.move (Operand.tmp 13), type := 3, pos := "law.go:95", after := #[{ on := 8, ground := Ground.guard }], guard := some (8, true) }) (v := undef) rfl (by kernel_rfl) (by kernel_rfl) (by kernel_rfl) (fun _ _ _ h => h) (Or.inr ⟨by rfl, rfl⟩) (by assumption) ?_
      try simp only [Act.put, List.setIfInBounds_toArray, List.set_cons_zero, List.set_cons_succ]
      refine wpAnyH_take (i := 10) (oi := { dst := some 80, op := Op.call { callee := Callee.value (Operand.func 18), args := #[Operand.tmp 79], argTypes := #[3] }, type := 25, pos := "law.go:95", after := #[{ on := 9, ground := Ground.data }, { on := 8, ground := Ground.chain }, { on := 8, ground := Ground.guard }], guard := some (8, true) }) (v := undef) rfl (by kernel_rfl) (by kernel_rfl) (by kernel_rfl) (fun _ _ _ h => h) (Or.inr ⟨by rfl, rfl⟩) (by assumption) ?_
      try simp only [Act.put, List.setIfInBounds_toArray, List.set_cons_zero, List.set_cons_succ]
      refine wpAnyH_take (i := 11) (oi := { dst := some 81, op := Op.load 25 (Operand.tmp 11), type := 25, pos := "law.go:95", after := #[{ on := 8, ground := Ground.guard }], guard := some (8, true) }) (v := undef) rfl (by kernel_rfl) (by kernel_rfl) (by kernel_rfl) (fun _ _ _ h => h) (Or.inr ⟨by rfl, rfl⟩) (by assumption) ?_
      try simp only [Act.put, List.setIfInBounds_toArray, List.set_cons_zero, List.set_cons_succ]
      refine wpAnyH_take (i := 12) (oi := { dst := some 82, op := Op.call { callee := Callee.value (Operand.func 20), args := #[Operand.tmp 80, Operand.tmp 81], argTypes := #[25, 25] }, type := 3, pos := "law.go:95", after := #[{ on := 10, ground := Ground.data }, { on := 11, ground := Ground.data }, { on := 10, ground := Ground.chain }, { on := 8, ground := Ground.guard }], guard := some (8, true) }) (v := undef) rfl (by kernel_rfl) (by kernel_rfl) (by kernel_rfl) (fun _ _ _ h => h) (Or.inr ⟨by rfl, rfl⟩) (by assumption) ?_
      try simp only [Act.put, List.setIfInBounds_toArray, List.set_cons_zero, List.set_cons_succ]
      refine wpAnyH_take (i := 13) (oi := { dst := some 83, op := Op.binOp BinOp.eql 3 (Operand.tmp 82) (Operand.const (Value.int IntKind.i64 0)) 3, type := 4, pos := "law.go:95", after := #[{ on := 12, ground := Ground.data }, { on := 8, ground := Ground.guard }], guard := some (8, true) }) (v := undef) rfl (by kernel_rfl) (by kernel_rfl) (by kernel_rfl) (fun _ _ _ h => h) (Or.inr ⟨by rfl, rfl⟩) (by assumption) ?_
      try simp only [Act.put, List.setIfInBounds_toArray, List.set_cons_zero, List.set_cons_succ]
      refine wpAnyH_take (i := 14) (oi := { dst := some 84, op := Op.pick (Operand.tmp 78) (Operand.tmp 83) (Operand.const (Value.bool false)), type := 4, pos := "law.go:95", after := #[{ on := 8, ground := Ground.data }, { on := 13, ground := Ground.data }, { on := 6, ground := Ground.guard }], guard := some (6, false) }) (v := undef) rfl (by kernel_rfl) (by kernel_rfl) (by kernel_rfl) (fun _ _ _ h => h) (Or.inr ⟨by rfl, rfl⟩) (by assumption) ?_
      try simp only [Act.put, List.setIfInBounds_toArray, List.set_cons_zero, List.set_cons_succ]
      refine wpAnyH_take (i := 15) (oi := { dst := some 85, op := Op.pick (Operand.tmp 76) (Operand.const (Value.bool true)) (Operand.tmp 84), type := 4, pos := "law.go:95", after := #[{ on := 6, ground := Ground.data }, { on := 14, ground := Ground.data }], guard := none }) (v := ?_) rfl (by kernel_rfl) (by kernel_rfl) (by kernel_rfl) (fun _ _ _ h => h) (Or.inl ⟨by rfl, ?_⟩) (by assumption) ?_
      rotate_left
      · intro w hSw; (try dsimp only at hSw); go_simp; try (with_reducible rfl)
      try simp only [Act.put, List.setIfInBounds_toArray, List.set_cons_zero, List.set_cons_succ]
      refine wpAnyH_take (i := 16) (oi := { dst := some 4, op := Op.assign (Operand.tmp 85), type := 4, pos := "law.go:95", after := #[{ on := 15, ground := Ground.data }, { on := 12, ground := Ground.chain }, { on := 0, ground := Ground.phase }, { on := 1, ground := Ground.phase }, { on := 2, ground := Ground.phase }, { on := 3, ground := Ground.phase }, { on := 4, ground := Ground.phase }, { on := 5, ground := Ground.phase }, { on := 6, ground := Ground.phase }, { on := 7, ground := Ground.phase }, { on := 8, ground := Ground.phase }, { on := 9, ground := Ground.phase }, { on := 10, ground := Ground.phase }, { on := 11, ground := Ground.phase }, { on := 12, ground := Ground.phase }, { on := 13, ground := Ground.phase }, { on := 14, ground := Ground.phase }, { on := 15, ground := Ground.phase }], guard := none }) (v := ?_) rfl (by kernel_rfl) (by kernel_rfl) (by kernel_rfl) (fun _ _ _ h => h) (Or.inl ⟨by rfl, ?_⟩) (by assumption) ?_
      rotate_left
      · intro w hSw; (try dsimp only at hSw); go_simp; try (with_reducible rfl)
      try simp only [Act.put, List.setIfInBounds_toArray, List.set_cons_zero, List.set_cons_succ]
      refine wpAnyH_done (by kernel_rfl) ?_ _
      go_wp2_with fail
      go_ret
      exact ⟨rfl, hE8.trans (show Later W9 _ by first | assumption | (apply Later.drew; assumption) | (apply Later.drewN; assumption))⟩
    
    go_wp2_with fail
    refine (Cmp_any _ _ Y L _ (hy.ext l10) (hb5.ext l10)).mono ?_
    rintro e w11 ⟨rfl, hx11⟩
    rw [hz1]
    have l11 := l10.step hx11
    go_wp2_with fail
    refine (Cmp_any _ _ Y M _ (hy.ext l11) (hb6.ext l11)).mono ?_
    rintro e w12 ⟨rfl, hx12⟩
    rw [hz2]
    have l12 := l11.step hx12
    clear lf l10 l11
    have hlo : -9223372036854775808 ≤ Y := by have h1 := HD1.out; have h2 := HL.out; simp at h1; omega
    have hhi : Y ≤ 9223372036854775807 := by have h1 := HD2.out; have h2 := HM.out; simp at h1; omega
    have hYY : BigB W9 _ Y 80 := ⟨hy, bYY⟩
    go_upto_region 21 with fail
    refine wp_region_held_drew (S := fun w' => Later W9 w') (by kernel_rfl) ?_ (fun hHeld => ?_)
    · (try dsimp only); (repeat (first | assumption | apply Later.drew | apply Later.drewN | apply Later.alloc | (refine Later.step ?_ (by assumption))))
    refine wpAnyH_take (i := 0) (oi := { dst := some 70, op := Op.move (Operand.tmp 14), type := 4, pos := "law.go:95", after := #[], guard := none }) (v := ?_) rfl (by kernel_rfl) (by kernel_rfl) (by kernel_rfl) (fun _ _ _ h => h) (Or.inl ⟨by rfl, ?_⟩) (by assumption) ?_
    rotate_left
    · intro w hSw; (try dsimp only at hSw); go_simp; try (with_reducible rfl)
    try simp only [Act.put, List.setIfInBounds_toArray, List.set_cons_zero, List.set_cons_succ]
    refine wpAnyH_take (i := 1) (oi := { dst := some 71, op := Op.unOp UnOp.not 4 (Operand.tmp 70), type := 4, pos := "law.go:95", after := #[{ on := 0, ground := Ground.data }], guard := none }) (v := ?_) rfl (by kernel_rfl) (by kernel_rfl) (by kernel_rfl) (fun _ _ _ h => h) (Or.inl ⟨by rfl, ?_⟩) (by assumption) ?_
    rotate_left
    · intro w hSw; (try dsimp only at hSw); go_simp; try (with_reducible rfl)
    try simp only [Act.put, List.setIfInBounds_toArray, List.set_cons_zero, List.set_cons_succ]
    refine wpAnyH_take (i := 2) (oi := { dst := some 72, op := Op.move (Operand.tmp 71), type := 4, pos := "law.go:95", after := #[{ on := 1, ground := Ground.data }], guard := none }) (v := ?_) rfl (by kernel_rfl) (by kernel_rfl) (by kernel_rfl) (fun _ _ _ h => h) (Or.inl ⟨by rfl, ?_⟩) (by assumption) ?_
    rotate_left
    · intro w hSw; (try dsimp only at hSw); go_simp; try (with_reducible rfl)
    try simp only [Act.put, List.setIfInBounds_toArray, List.set_cons_zero, List.set_cons_succ]
    refine wpAnyH_take (i := 3) (oi := { dst := some 73, op := Op.move (Operand.tmp 13), type := 3, pos := "law.go:95", after := #[{ on := 2, ground := Ground.guard }], guard := some (2, true) }) (v := undef) rfl (by kernel_rfl) (by kernel_rfl) (by kernel_rfl) (fun _ _ _ h => h) (Or.inr ⟨by rfl, rfl⟩) (by assumption) ?_
    try simp only [Act.put, List.setIfInBounds_toArray, List.set_cons_zero, List.set_cons_succ]
    refine wpAnyH_take (i := 4) (oi := { dst := some 74, op := Op.binOp BinOp.eql 3 (Operand.tmp 73) (Operand.const (Value.int IntKind.i64 0)) 3, type := 4, pos := "law.go:95", after := #[{ on := 3, ground := Ground.data }, { on := 2, ground := Ground.guard }], guard := some (2, true) }) (v := undef) rfl (by kernel_rfl) (by kernel_rfl) (by kernel_rfl) (fun _ _ _ h => h) (Or.inr ⟨by rfl, rfl⟩) (by assumption) ?_
    try simp only [Act.put, List.setIfInBounds_toArray, List.set_cons_zero, List.set_cons_succ]
    refine wpAnyH_take (i := 5) (oi := { dst := some 75, op := Op.pick (Operand.tmp 72) (Operand.tmp 74) (Operand.const (Value.bool false)), type := 4, pos := "law.go:95", after := #[{ on := 2, ground := Ground.data }, { on := 4, ground := Ground.data }], guard := none }) (v := ?_) rfl (by kernel_rfl) (by kernel_rfl) (by kernel_rfl) (fun _ _ _ h => h) (Or.inl ⟨by rfl, ?_⟩) (by assumption) ?_
    rotate_left
    · intro w hSw; (try dsimp only at hSw); go_simp; try (with_reducible rfl)
    try simp only [Act.put, List.setIfInBounds_toArray, List.set_cons_zero, List.set_cons_succ]
    refine wpAnyH_take (i := 6) (oi := { dst := some 76, op := Op.move (Operand.tmp 75), type := 4, pos := "law.go:95", after := #[{ on := 5, ground := Ground.data }, { on := 2, ground := Ground.chain }], guard := none }) (v := ?_) rfl (by kernel_rfl) (by kernel_rfl) (by kernel_rfl) (fun _ _ _ h => h) (Or.inl ⟨by rfl, ?_⟩) (by assumption) ?_
    rotate_left
    · intro w hSw; (try dsimp only at hSw); go_simp; try (with_reducible rfl)
    try simp only [Act.put, List.setIfInBounds_toArray, List.set_cons_zero, List.set_cons_succ]
    refine wpAnyH_take (i := 7) (oi := { dst := some 77, op := Op.move (Operand.tmp 14), type := 4, pos := "law.go:95", after := #[{ on := 6, ground := Ground.guard }], guard := some (6, false) }) (v := ?_) rfl (by kernel_rfl) (by kernel_rfl) (by kernel_rfl) (fun _ _ _ h => h) (Or.inl ⟨by rfl, ?_⟩) (by assumption) ?_
    rotate_left
    · intro w hSw; (try dsimp only at hSw); go_simp; try (with_reducible rfl)
    try simp only [Act.put, List.setIfInBounds_toArray, List.set_cons_zero, List.set_cons_succ]
    refine wpAnyH_take (i := 8) (oi := { dst := some 78, op := Op.move (Operand.tmp 77), type := 4, pos := "law.go:95", after := #[{ on := 7, ground := Ground.data }, { on := 6, ground := Ground.chain }, { on := 6, ground := Ground.guard }], guard := some (6, false) }) (v := ?_) rfl (by kernel_rfl) (by kernel_rfl) (by kernel_rfl) (fun _ _ _ h => h) (Or.inl ⟨by rfl, ?_⟩) (by assumption) ?_
    rotate_left
    · intro w hSw; (try dsimp only at hSw); go_simp; try (with_reducible rfl)
    try simp only [Act.put, List.setIfInBounds_toArray, List.set_cons_zero, List.set_cons_succ]
    refine wpAnyH_take (i := 9) (oi := { dst := some 79, op := Op.move (Operand.tmp 13), type := 3, pos := "law.go:95", after := #[{ on := 8, ground := Ground.guard }], guard := some (8, true) }) (v := ?_) rfl (by kernel_rfl) (by kernel_rfl) (by kernel_rfl) (fun _ _ _ h => h) (Or.inl ⟨by rfl, ?_⟩) (by assumption) ?_
    rotate_left
    · intro w hSw; (try dsimp only at hSw); go_simp; try (with_reducible rfl)
    try simp only [Act.put, List.setIfInBounds_toArray, List.set_cons_zero, List.set_cons_succ]
    refine wpAnyH_take (i := 11) (oi := { dst := some 81, op := Op.load 25 (Operand.tmp 11), type := 25, pos := "law.go:95", after := #[{ on := 8, ground := Ground.guard }], guard := some (8, true) }) (v := ?_) rfl (by kernel_rfl) (by kernel_rfl) (by kernel_rfl) (fun _ _ _ h => h) (Or.inl ⟨by rfl, ?_⟩) (by assumption) ?_
    rotate_left
    · intro w hSw; (try dsimp only at hSw); go_simp; try (with_reducible rfl)
    try simp only [Act.put, List.setIfInBounds_toArray, List.set_cons_zero, List.set_cons_succ]
    refine wpAnyH_ready (rs := [10]) (by kernel_rfl) (by simp) ?_
    refine AllReadyH.cons (o := { dst := some 80, op := Op.call { callee := Callee.value (Operand.func 18), args := #[Operand.tmp 79], argTypes := #[3] }, type := 25, pos := "law.go:95", after := #[{ on := 9, ground := Ground.data }, { on := 8, ground := Ground.chain }, { on := 8, ground := Ground.guard }], guard := some (8, true) }) rfl (fun K hK => ?_) ?_
    · go_simp
      first
        | (go_at_call 24; (with_reducible refine (Add_b _ _ _ _ _ _ _ (BigB.ext (by assumption) (by repeat (first | (with_reducible exact Ext.refl _) | (with_reducible apply Ext.drew) | (with_reducible apply Ext.drewN) | (with_reducible refine Ext.trans ?_ (by assumption))))) (BigB.ext (by assumption) (by repeat (first | (with_reducible exact Ext.refl _) | (with_reducible apply Ext.drew) | (with_reducible apply Ext.drewN) | (with_reducible refine Ext.trans ?_ (by assumption))))) (by decide)).mono ?_); rintro e wk ⟨vk, rfl, hbk, hxk⟩; (obtain ⟨pk, Ak, nk, ck, rfl⟩ := hbk.1.shape))
        | (go_at_call 28; (with_reducible refine (Sub_b _ _ _ _ _ _ _ (BigB.ext (by assumption) (by repeat (first | (with_reducible exact Ext.refl _) | (with_reducible apply Ext.drew) | (with_reducible apply Ext.drewN) | (with_reducible refine Ext.trans ?_ (by assumption))))) (BigB.ext (by assumption) (by repeat (first | (with_reducible exact Ext.refl _) | (with_reducible apply Ext.drew) | (with_reducible apply Ext.drewN) | (with_reducible refine Ext.trans ?_ (by assumption))))) (by decide)).mono ?_); rintro e wk ⟨vk, rfl, hbk, hxk⟩; (obtain ⟨pk, Ak, nk, ck, rfl⟩ := hbk.1.shape))
        | (go_at_call 23; (with_reducible refine (Mul_b _ _ _ _ _ _ _ (BigB.ext (by assumption) (by repeat (first | (with_reducible exact Ext.refl _) | (with_reducible apply Ext.drew) | (with_reducible apply Ext.drewN) | (with_reducible refine Ext.trans ?_ (by assumption))))) (BigB.ext (by assumption) (by repeat (first | (with_reducible exact Ext.refl _) | (with_reducible apply Ext.drew) | (with_reducible apply Ext.drewN) | (with_reducible refine Ext.trans ?_ (by assumption))))) (by decide)).mono ?_); rintro e wk ⟨vk, rfl, hbk, hxk⟩; (obtain ⟨pk, Ak, nk, ck, rfl⟩ := hbk.1.shape))
        | (go_at_call 27; (with_reducible refine (Neg_b _ _ _ _ (BigB.ext (by assumption) (by repeat (first | (with_reducible exact Ext.refl _) | (with_reducible apply Ext.drew) | (with_reducible apply Ext.drewN) | (with_reducible refine Ext.trans ?_ (by assumption)))))).mono ?_); rintro e wk ⟨vk, rfl, hbk, hxk⟩; (obtain ⟨pk, Ak, nk, ck, rfl⟩ := hbk.1.shape))
        | (go_at_call 25; (with_reducible refine (abs_b _ _ _ _ (BigB.ext (by assumption) (by repeat (first | (with_reducible exact Ext.refl _) | (with_reducible apply Ext.drew) | (with_reducible apply Ext.drewN) | (with_reducible refine Ext.trans ?_ (by assumption)))))).mono ?_); rintro e wk ⟨vk, rfl, hbk, hxk⟩; (obtain ⟨pk, Ak, nk, ck, rfl⟩ := hbk.1.shape))
        | (go_at_call 20; (with_reducible refine (Cmp_eqb _ _ _ _ _ _ _ (BigB.ext (by assumption) (by repeat (first | (with_reducible exact Ext.refl _) | (with_reducible apply Ext.drew) | (with_reducible apply Ext.drewN) | (with_reducible refine Ext.trans ?_ (by assumption))))) (BigB.ext (by assumption) (by repeat (first | (with_reducible exact Ext.refl _) | (with_reducible apply Ext.drew) | (with_reducible apply Ext.drewN) | (with_reducible refine Ext.trans ?_ (by assumption))))) (by first | exact Int.add_comm _ _ | exact Int.mul_comm _ _ | exact Int.add_assoc _ _ _ | exact Int.mul_assoc _ _ _ | exact Int.mul_add _ _ _ | exact Int.sub_eq_add_neg | assumption | exact rfl)).mono ?_); rintro e wk ⟨rfl, hxk⟩)
        | (go_at_call 20; (with_reducible refine (Cmp_b _ _ _ _ _ _ _ (BigB.ext (by assumption) (by repeat (first | (with_reducible exact Ext.refl _) | (with_reducible apply Ext.drew) | (with_reducible apply Ext.drewN) | (with_reducible refine Ext.trans ?_ (by assumption))))) (BigB.ext (by assumption) (by repeat (first | (with_reducible exact Ext.refl _) | (with_reducible apply Ext.drew) | (with_reducible apply Ext.drewN) | (with_reducible refine Ext.trans ?_ (by assumption)))))).mono ?_); rintro e wk ⟨rfl, hxk⟩)
        | (go_at_call 16; (with_reducible refine (Sign_b _ _ _ _ (BigB.ext (by assumption) (by repeat (first | (with_reducible exact Ext.refl _) | (with_reducible apply Ext.drew) | (with_reducible apply Ext.drewN) | (with_reducible refine Ext.trans ?_ (by assumption)))))).mono ?_); rintro e wk ⟨rfl, hxk⟩)
        | (go_at_call 35; (with_reducible refine (Gcd_b _ _ _ _ _ _ _ (BigB.ext (by assumption) (by repeat (first | (with_reducible exact Ext.refl _) | (with_reducible apply Ext.drew) | (with_reducible apply Ext.drewN) | (with_reducible refine Ext.trans ?_ (by assumption))))) (BigB.ext (by assumption) (by repeat (first | (with_reducible exact Ext.refl _) | (with_reducible apply Ext.drew) | (with_reducible apply Ext.drewN) | (with_reducible refine Ext.trans ?_ (by assumption))))) (by decide)).mono ?_); rintro e wk ⟨vk, rfl, hbk, hxk⟩; (obtain ⟨pk, Ak, nk, ck, rfl⟩ := hbk.1.shape))
        | (go_at_call 18; (with_reducible refine (Of_b _ _ (by first | assumption | decide) (by first | assumption | decide)).mono ?_); rintro e wk ⟨vk, rfl, hbk, hxk⟩; (obtain ⟨pk, Ak, nk, ck, rfl⟩ := hbk.1.shape))
      try (go_wp2_with fail)
      refine hK.out _ _ ?_ (fun hHeld => ?_)
      · (try dsimp only); (repeat (first | assumption | apply Later.drew | apply Later.drewN | apply Later.alloc | (refine Later.step ?_ (by assumption))))
      clear hK K
      try simp only [Act.put, List.setIfInBounds_toArray, List.set_cons_zero, List.set_cons_succ]
      refine wpAnyH_ready (rs := [12]) (by kernel_rfl) (by simp) ?_
      refine AllReadyH.cons (o := { dst := some 82, op := Op.call { callee := Callee.value (Operand.func 20), args := #[Operand.tmp 80, Operand.tmp 81], argTypes := #[25, 25] }, type := 3, pos := "law.go:95", after := #[{ on := 10, ground := Ground.data }, { on := 11, ground := Ground.data }, { on := 10, ground := Ground.chain }, { on := 8, ground := Ground.guard }], guard := some (8, true) }) rfl (fun K hK => ?_) ?_
      · go_simp
        first
          | (go_at_call 24; (with_reducible refine (Add_b _ _ _ _ _ _ _ (BigB.ext (by assumption) (by repeat (first | (with_reducible exact Ext.refl _) | (with_reducible apply Ext.drew) | (with_reducible apply Ext.drewN) | (with_reducible refine Ext.trans ?_ (by assumption))))) (BigB.ext (by assumption) (by repeat (first | (with_reducible exact Ext.refl _) | (with_reducible apply Ext.drew) | (with_reducible apply Ext.drewN) | (with_reducible refine Ext.trans ?_ (by assumption))))) (by decide)).mono ?_); rintro e wk ⟨vk, rfl, hbk, hxk⟩; (obtain ⟨pk, Ak, nk, ck, rfl⟩ := hbk.1.shape))
          | (go_at_call 28; (with_reducible refine (Sub_b _ _ _ _ _ _ _ (BigB.ext (by assumption) (by repeat (first | (with_reducible exact Ext.refl _) | (with_reducible apply Ext.drew) | (with_reducible apply Ext.drewN) | (with_reducible refine Ext.trans ?_ (by assumption))))) (BigB.ext (by assumption) (by repeat (first | (with_reducible exact Ext.refl _) | (with_reducible apply Ext.drew) | (with_reducible apply Ext.drewN) | (with_reducible refine Ext.trans ?_ (by assumption))))) (by decide)).mono ?_); rintro e wk ⟨vk, rfl, hbk, hxk⟩; (obtain ⟨pk, Ak, nk, ck, rfl⟩ := hbk.1.shape))
          | (go_at_call 23; (with_reducible refine (Mul_b _ _ _ _ _ _ _ (BigB.ext (by assumption) (by repeat (first | (with_reducible exact Ext.refl _) | (with_reducible apply Ext.drew) | (with_reducible apply Ext.drewN) | (with_reducible refine Ext.trans ?_ (by assumption))))) (BigB.ext (by assumption) (by repeat (first | (with_reducible exact Ext.refl _) | (with_reducible apply Ext.drew) | (with_reducible apply Ext.drewN) | (with_reducible refine Ext.trans ?_ (by assumption))))) (by decide)).mono ?_); rintro e wk ⟨vk, rfl, hbk, hxk⟩; (obtain ⟨pk, Ak, nk, ck, rfl⟩ := hbk.1.shape))
          | (go_at_call 27; (with_reducible refine (Neg_b _ _ _ _ (BigB.ext (by assumption) (by repeat (first | (with_reducible exact Ext.refl _) | (with_reducible apply Ext.drew) | (with_reducible apply Ext.drewN) | (with_reducible refine Ext.trans ?_ (by assumption)))))).mono ?_); rintro e wk ⟨vk, rfl, hbk, hxk⟩; (obtain ⟨pk, Ak, nk, ck, rfl⟩ := hbk.1.shape))
          | (go_at_call 25; (with_reducible refine (abs_b _ _ _ _ (BigB.ext (by assumption) (by repeat (first | (with_reducible exact Ext.refl _) | (with_reducible apply Ext.drew) | (with_reducible apply Ext.drewN) | (with_reducible refine Ext.trans ?_ (by assumption)))))).mono ?_); rintro e wk ⟨vk, rfl, hbk, hxk⟩; (obtain ⟨pk, Ak, nk, ck, rfl⟩ := hbk.1.shape))
          | (go_at_call 20; (with_reducible refine (Cmp_eqb _ _ _ _ _ _ _ (BigB.ext (by assumption) (by repeat (first | (with_reducible exact Ext.refl _) | (with_reducible apply Ext.drew) | (with_reducible apply Ext.drewN) | (with_reducible refine Ext.trans ?_ (by assumption))))) (BigB.ext (by assumption) (by repeat (first | (with_reducible exact Ext.refl _) | (with_reducible apply Ext.drew) | (with_reducible apply Ext.drewN) | (with_reducible refine Ext.trans ?_ (by assumption))))) (by first | exact Int.add_comm _ _ | exact Int.mul_comm _ _ | exact Int.add_assoc _ _ _ | exact Int.mul_assoc _ _ _ | exact Int.mul_add _ _ _ | exact Int.sub_eq_add_neg | assumption | exact rfl)).mono ?_); rintro e wk ⟨rfl, hxk⟩)
          | (go_at_call 20; (with_reducible refine (Cmp_b _ _ _ _ _ _ _ (BigB.ext (by assumption) (by repeat (first | (with_reducible exact Ext.refl _) | (with_reducible apply Ext.drew) | (with_reducible apply Ext.drewN) | (with_reducible refine Ext.trans ?_ (by assumption))))) (BigB.ext (by assumption) (by repeat (first | (with_reducible exact Ext.refl _) | (with_reducible apply Ext.drew) | (with_reducible apply Ext.drewN) | (with_reducible refine Ext.trans ?_ (by assumption)))))).mono ?_); rintro e wk ⟨rfl, hxk⟩)
          | (go_at_call 16; (with_reducible refine (Sign_b _ _ _ _ (BigB.ext (by assumption) (by repeat (first | (with_reducible exact Ext.refl _) | (with_reducible apply Ext.drew) | (with_reducible apply Ext.drewN) | (with_reducible refine Ext.trans ?_ (by assumption)))))).mono ?_); rintro e wk ⟨rfl, hxk⟩)
          | (go_at_call 35; (with_reducible refine (Gcd_b _ _ _ _ _ _ _ (BigB.ext (by assumption) (by repeat (first | (with_reducible exact Ext.refl _) | (with_reducible apply Ext.drew) | (with_reducible apply Ext.drewN) | (with_reducible refine Ext.trans ?_ (by assumption))))) (BigB.ext (by assumption) (by repeat (first | (with_reducible exact Ext.refl _) | (with_reducible apply Ext.drew) | (with_reducible apply Ext.drewN) | (with_reducible refine Ext.trans ?_ (by assumption))))) (by decide)).mono ?_); rintro e wk ⟨vk, rfl, hbk, hxk⟩; (obtain ⟨pk, Ak, nk, ck, rfl⟩ := hbk.1.shape))
          | (go_at_call 18; (with_reducible refine (Of_b _ _ (by first | assumption | decide) (by first | assumption | decide)).mono ?_); rintro e wk ⟨vk, rfl, hbk, hxk⟩; (obtain ⟨pk, Ak, nk, ck, rfl⟩ := hbk.1.shape))
        try (go_wp2_with fail)
        refine hK.out _ _ ?_ (fun hHeld => ?_)
        · (try dsimp only); (repeat (first | assumption | apply Later.drew | apply Later.drewN | apply Later.alloc | (refine Later.step ?_ (by assumption))))
        clear hK K
        try simp only [Act.put, List.setIfInBounds_toArray, List.set_cons_zero, List.set_cons_succ]
        refine wpAnyH_take (i := 13) (oi := { dst := some 83, op := Op.binOp BinOp.eql 3 (Operand.tmp 82) (Operand.const (Value.int IntKind.i64 0)) 3, type := 4, pos := "law.go:95", after := #[{ on := 12, ground := Ground.data }, { on := 8, ground := Ground.guard }], guard := some (8, true) }) (v := ?_) rfl (by kernel_rfl) (by kernel_rfl) (by kernel_rfl) (fun _ _ _ h => h) (Or.inl ⟨by rfl, ?_⟩) (by assumption) ?_
        rotate_left
        · intro w hSw; (try dsimp only at hSw); go_simp; try (with_reducible rfl)
        try simp only [Act.put, List.setIfInBounds_toArray, List.set_cons_zero, List.set_cons_succ]
        refine wpAnyH_take (i := 14) (oi := { dst := some 84, op := Op.pick (Operand.tmp 78) (Operand.tmp 83) (Operand.const (Value.bool false)), type := 4, pos := "law.go:95", after := #[{ on := 8, ground := Ground.data }, { on := 13, ground := Ground.data }, { on := 6, ground := Ground.guard }], guard := some (6, false) }) (v := ?_) rfl (by kernel_rfl) (by kernel_rfl) (by kernel_rfl) (fun _ _ _ h => h) (Or.inl ⟨by rfl, ?_⟩) (by assumption) ?_
        rotate_left
        · intro w hSw; (try dsimp only at hSw); go_simp; try (with_reducible rfl)
        try simp only [Act.put, List.setIfInBounds_toArray, List.set_cons_zero, List.set_cons_succ]
        refine wpAnyH_take (i := 15) (oi := { dst := some 85, op := Op.pick (Operand.tmp 76) (Operand.const (Value.bool true)) (Operand.tmp 84), type := 4, pos := "law.go:95", after := #[{ on := 6, ground := Ground.data }, { on := 14, ground := Ground.data }], guard := none }) (v := ?_) rfl (by kernel_rfl) (by kernel_rfl) (by kernel_rfl) (fun _ _ _ h => h) (Or.inl ⟨by rfl, ?_⟩) (by assumption) ?_
        rotate_left
        · intro w hSw; (try dsimp only at hSw); go_simp; try (with_reducible rfl)
        try simp only [Act.put, List.setIfInBounds_toArray, List.set_cons_zero, List.set_cons_succ]
        refine wpAnyH_take (i := 16) (oi := { dst := some 4, op := Op.assign (Operand.tmp 85), type := 4, pos := "law.go:95", after := #[{ on := 15, ground := Ground.data }, { on := 12, ground := Ground.chain }, { on := 0, ground := Ground.phase }, { on := 1, ground := Ground.phase }, { on := 2, ground := Ground.phase }, { on := 3, ground := Ground.phase }, { on := 4, ground := Ground.phase }, { on := 5, ground := Ground.phase }, { on := 6, ground := Ground.phase }, { on := 7, ground := Ground.phase }, { on := 8, ground := Ground.phase }, { on := 9, ground := Ground.phase }, { on := 10, ground := Ground.phase }, { on := 11, ground := Ground.phase }, { on := 12, ground := Ground.phase }, { on := 13, ground := Ground.phase }, { on := 14, ground := Ground.phase }, { on := 15, ground := Ground.phase }], guard := none }) (v := ?_) rfl (by kernel_rfl) (by kernel_rfl) (by kernel_rfl) (fun _ _ _ h => h) (Or.inl ⟨by rfl, ?_⟩) (by assumption) ?_
        rotate_left
        · intro w hSw; (try dsimp only at hSw); go_simp; try (with_reducible rfl)
        try simp only [Act.put, List.setIfInBounds_toArray, List.set_cons_zero, List.set_cons_succ]
        refine wpAnyH_done (by kernel_rfl) ?_ _
        go_wp2_with fail
        go_ret
        exact ⟨rfl, hE8.trans (show Later W9 _ by first | assumption | (apply Later.drew; assumption) | (apply Later.drewN; assumption))⟩
      exact AllReadyH.nil
    exact AllReadyH.nil
  · have q0 := B5.c0
    have q1 := B5.c1
    go_wp2_with fail
    refine (Sign_any _ n _ hN).mono ?_
    rintro e w4 ⟨rfl, hx4⟩
    go_wp2_with fail
    refine (Of_any (-9223372036854775808) _ (by decide) (by decide)).mono ?_
    rintro e w5 ⟨v5, rfl, hb5, hx5⟩
    obtain ⟨p5, A5, k5, c5, rfl⟩ := hb5.shape
    go_wp2_with fail
    refine (Of_any 9223372036854775807 _ (by decide) (by decide)).mono ?_
    rintro e w6 ⟨v6, rfl, hb6, hx6⟩
    obtain ⟨p6, A6, k6, c6, rfl⟩ := hb6.shape
    obtain ⟨L, hL⟩ : ∃ L : Int, L = -9223372036854775808 := ⟨_, rfl⟩
    obtain ⟨M, hM⟩ : ∃ L : Int, L = 9223372036854775807 := ⟨_, rfl⟩
    rw [← hL] at hb5
    rw [← hM] at hb6
    have hE6 := ((hE3.trans hx4).trans hx5).trans hx6
    have hb5 := hb5.ext hx6
    go_upto_region 13 with fail
    obtain ⟨B9, B10, hE⟩ := boxes2 w6 25 #[.bool p5, .slice A5 k5 c5] #[.bool p6, .slice A6 k6 c6]
    have hb5 := hb5.ext hE
    have hb6 := hb6.ext hE
    have hE7 := hE6.trans hE
    clear hE6 hE3 hx4 hx5 hx6 B5 q0 q1 hE
    generalize ((w6.alloc (.cells #[.bool p5, .slice A5 k5 c5] 25)).alloc (.cells #[.bool p6, .slice A6 k6 c6] 25)) = W7 at *
    by_cases hs : 80 < s.size
    · have e1 : decide ((80 : Int) < (s.size : Int)) = true := by simp; omega
      clear hs
      go_wp2_with fail
      go_ret
      exact ⟨rfl, hE7⟩
    have e1 : decide ((80 : Int) < (s.size : Int)) = false := by simp; omega
    go_wp2_with fail
    refine (Parse_any s _ (by omega)).mono ?_
    rintro e w8 ⟨v8, Y, rfl, hy, hY1, -, hx8⟩
    obtain ⟨p8, A8, k8, c8, rfl⟩ := hy.shape
    have bY : isDec s.data.toList = true → B 80 Y := fun h => by rw [hY1 h]; exact parse_bound2 (by omega) h
    generalize isDec s.data.toList = ds at *
    clear hY1 hs
    have B9 := B9.ext hx8
    have B10 := B10.ext hx8
    have hb5 := hb5.ext hx8
    have hb6 := hb6.ext hx8
    have hE8 := hE7.trans hx8
    go_upto_region 16 with fail
    have hE : Ext w8 (w8.alloc (.cells #[.bool p8, .slice A8 k8 c8] 25)) := (Ext.refl w8).alloc _
    have B11 := Box.new w8 25 #[.bool p8, .slice A8 k8 c8]
    have B9 := B9.ext hE
    have B10 := B10.ext hE
    have hb5 := hb5.ext hE
    have hb6 := hb6.ext hE
    have hy := hy.ext hE
    have hE8 := hE8.trans hE
    clear hE hE7 hx8
    generalize (w8.alloc (.cells #[.bool p8, .slice A8 k8 c8] 25)) = W9 at *
    cases ds
    case false =>
      go_wp2_with fail
      go_ret
      exact ⟨rfl, hE8⟩
    have bYY : B 80 Y := bY rfl
    clear bY
    have k90 : ∀ w', Later W9 w' → w'.cell? ⟨w6.heap.size, 0, none⟩ = some (.bool p5) := fun w' h => (B9.ext h).c0
    have k91 : ∀ w', Later W9 w' → w'.cell? ⟨w6.heap.size, 1, none⟩ = some (.slice A5 k5 c5) := fun w' h => (B9.ext h).c1
    have ka0 : ∀ w', Later W9 w' → w'.cell? ⟨w6.heap.size + 1, 0, none⟩ = some (.bool p6) := fun w' h => (B10.ext h).c0
    have ka1 : ∀ w', Later W9 w' → w'.cell? ⟨w6.heap.size + 1, 1, none⟩ = some (.slice A6 k6 c6) := fun w' h => (B10.ext h).c1
    have kb0 : ∀ w', Later W9 w' → w'.cell? ⟨w8.heap.size, 0, none⟩ = some (.bool p8) := fun w' h => (B11.ext h).c0
    have kb1 : ∀ w', Later W9 w' → w'.cell? ⟨w8.heap.size, 1, none⟩ = some (.slice A8 k8 c8) := fun w' h => (B11.ext h).c1
    have l9 := Later.refl W9
    clear B9 B10 B11
    have c1 := cmpZ_ge (x := Y) (y := L)
    have c2 := cmpZ_le (x := Y) (y := M)
    obtain ⟨z1, hz1⟩ : ∃ z, z = cmpZ Y L := ⟨_, rfl⟩
    obtain ⟨z2, hz2⟩ : ∃ z, z = cmpZ Y M := ⟨_, rfl⟩
    rw [← hz1] at c1
    rw [← hz2] at c2
    replace hz1 := hz1.symm
    replace hz2 := hz2.symm
    have hf : fits Y = (decide (L ≤ Y) && decide (Y ≤ M)) := by unfold fits; rw [hL, hM]
    obtain ⟨d1, hd1⟩ : ∃ d, d = decide (L ≤ Y) := ⟨_, rfl⟩
    obtain ⟨d2, hd2⟩ : ∃ d, d = decide (Y ≤ M) := ⟨_, rfl⟩
    rw [← hd1] at c1 hf
    rw [← hd2] at c2 hf
    have HL := Lib.hid hL
    have HM := Lib.hid hM
    have HD1 := Lib.hid hd1
    have HD2 := Lib.hid hd2
    clear hL hM hd1 hd2
    go_wp2_with fail
    refine (Int_any _ Y 80 _ hy bYY (by decide)).mono ?_
    rintro e w10 ⟨rfl, hx10⟩
    have l10 := l9.step hx10
    rw [hf]
    clear hf
    have lf := l10
    cases d1
    · go_wp2_with fail
      refine (Cmp_any _ _ Y L _ (hy.ext l10) (hb5.ext l10)).mono ?_
      rintro e w11 ⟨rfl, hx11⟩
      rw [hz1]
      have l11 := l10.step hx11
      clear lf l10
      go_upto_region 21 with fail
      refine wp_region_held_drew (S := fun w' => Later W9 w') (by kernel_rfl) ?_ (fun hHeld => ?_)
      · (try dsimp only); (repeat (first | assumption | apply Later.drew | apply Later.drewN | apply Later.alloc | (refine Later.step ?_ (by assumption))))
      refine wpAnyH_take (i := 0) (oi := { dst := some 70, op := Op.move (Operand.tmp 14), type := 4, pos := "law.go:95", after := #[], guard := none }) (v := ?_) rfl (by kernel_rfl) (by kernel_rfl) (by kernel_rfl) (fun _ _ _ h => h) (Or.inl ⟨by rfl, ?_⟩) (by assumption) ?_
      rotate_left
      · intro w hSw; (try dsimp only at hSw); go_simp; try (with_reducible rfl)
      try simp only [Act.put, List.setIfInBounds_toArray, List.set_cons_zero, List.set_cons_succ]
      refine wpAnyH_take (i := 1) (oi := { dst := some 71, op := Op.unOp UnOp.not 4 (Operand.tmp 70), type := 4, pos := "law.go:95", after := #[{ on := 0, ground := Ground.data }], guard := none }) (v := ?_) rfl (by kernel_rfl) (by kernel_rfl) (by kernel_rfl) (fun _ _ _ h => h) (Or.inl ⟨by rfl, ?_⟩) (by assumption) ?_
      rotate_left
      · intro w hSw; (try dsimp only at hSw); go_simp; try (with_reducible rfl)
      try simp only [Act.put, List.setIfInBounds_toArray, List.set_cons_zero, List.set_cons_succ]
      refine wpAnyH_take (i := 2) (oi := { dst := some 72, op := Op.move (Operand.tmp 71), type := 4, pos := "law.go:95", after := #[{ on := 1, ground := Ground.data }], guard := none }) (v := ?_) rfl (by kernel_rfl) (by kernel_rfl) (by kernel_rfl) (fun _ _ _ h => h) (Or.inl ⟨by rfl, ?_⟩) (by assumption) ?_
      rotate_left
      · intro w hSw; (try dsimp only at hSw); go_simp; try (with_reducible rfl)
      try simp only [Act.put, List.setIfInBounds_toArray, List.set_cons_zero, List.set_cons_succ]
      refine wpAnyH_take (i := 3) (oi := { dst := some 73, op := Op.move (Operand.tmp 13), type := 3, pos := "law.go:95", after := #[{ on := 2, ground := Ground.guard }], guard := some (2, true) }) (v := ?_) rfl (by kernel_rfl) (by kernel_rfl) (by kernel_rfl) (fun _ _ _ h => h) (Or.inl ⟨by rfl, ?_⟩) (by assumption) ?_
      rotate_left
      · intro w hSw; (try dsimp only at hSw); go_simp; try (with_reducible rfl)
      try simp only [Act.put, List.setIfInBounds_toArray, List.set_cons_zero, List.set_cons_succ]
      refine wpAnyH_take (i := 4) (oi := { dst := some 74, op := Op.binOp BinOp.eql 3 (Operand.tmp 73) (Operand.const (Value.int IntKind.i64 0)) 3, type := 4, pos := "law.go:95", after := #[{ on := 3, ground := Ground.data }, { on := 2, ground := Ground.guard }], guard := some (2, true) }) (v := ?_) rfl (by kernel_rfl) (by kernel_rfl) (by kernel_rfl) (fun _ _ _ h => h) (Or.inl ⟨by rfl, ?_⟩) (by assumption) ?_
      rotate_left
      · intro w hSw; (try dsimp only at hSw); go_simp; try (with_reducible rfl)
      try simp only [Act.put, List.setIfInBounds_toArray, List.set_cons_zero, List.set_cons_succ]
      refine wpAnyH_take (i := 5) (oi := { dst := some 75, op := Op.pick (Operand.tmp 72) (Operand.tmp 74) (Operand.const (Value.bool false)), type := 4, pos := "law.go:95", after := #[{ on := 2, ground := Ground.data }, { on := 4, ground := Ground.data }], guard := none }) (v := ?_) rfl (by kernel_rfl) (by kernel_rfl) (by kernel_rfl) (fun _ _ _ h => h) (Or.inl ⟨by rfl, ?_⟩) (by assumption) ?_
      rotate_left
      · intro w hSw; (try dsimp only at hSw); go_simp; try (with_reducible rfl)
      try simp only [Act.put, List.setIfInBounds_toArray, List.set_cons_zero, List.set_cons_succ]
      refine wpAnyH_take (i := 6) (oi := { dst := some 76, op := Op.move (Operand.tmp 75), type := 4, pos := "law.go:95", after := #[{ on := 5, ground := Ground.data }, { on := 2, ground := Ground.chain }], guard := none }) (v := ?_) rfl (by kernel_rfl) (by kernel_rfl) (by kernel_rfl) (fun _ _ _ h => h) (Or.inl ⟨by rfl, ?_⟩) (by assumption) ?_
      rotate_left
      · intro w hSw; (try dsimp only at hSw); go_simp; try (with_reducible rfl)
      try simp only [Act.put, List.setIfInBounds_toArray, List.set_cons_zero, List.set_cons_succ]
      refine wpAnyH_take (i := 7) (oi := { dst := some 77, op := Op.move (Operand.tmp 14), type := 4, pos := "law.go:95", after := #[{ on := 6, ground := Ground.guard }], guard := some (6, false) }) (v := undef) rfl (by kernel_rfl) (by kernel_rfl) (by kernel_rfl) (fun _ _ _ h => h) (Or.inr ⟨by rfl, rfl⟩) (by assumption) ?_
      try simp only [Act.put, List.setIfInBounds_toArray, List.set_cons_zero, List.set_cons_succ]
      refine wpAnyH_take (i := 8) (oi := { dst := some 78, op := Op.move (Operand.tmp 77), type := 4, pos := "law.go:95", after := #[{ on := 7, ground := Ground.data }, { on := 6, ground := Ground.chain }, { on := 6, ground := Ground.guard }], guard := some (6, false) }) (v := undef) rfl (by kernel_rfl) (by kernel_rfl) (by kernel_rfl) (fun _ _ _ h => h) (Or.inr ⟨by rfl, rfl⟩) (by assumption) ?_
      try simp only [Act.put, List.setIfInBounds_toArray, List.set_cons_zero, List.set_cons_succ]
      refine wpAnyH_take (i := 9) (oi := { dst := some 79, op := Op.move (Operand.tmp 13), type := 3, pos := "law.go:95", after := #[{ on := 8, ground := Ground.guard }], guard := some (8, true) }) (v := undef) rfl (by kernel_rfl) (by kernel_rfl) (by kernel_rfl) (fun _ _ _ h => h) (Or.inr ⟨by rfl, rfl⟩) (by assumption) ?_
      try simp only [Act.put, List.setIfInBounds_toArray, List.set_cons_zero, List.set_cons_succ]
      refine wpAnyH_take (i := 10) (oi := { dst := some 80, op := Op.call { callee := Callee.value (Operand.func 18), args := #[Operand.tmp 79], argTypes := #[3] }, type := 25, pos := "law.go:95", after := #[{ on := 9, ground := Ground.data }, { on := 8, ground := Ground.chain }, { on := 8, ground := Ground.guard }], guard := some (8, true) }) (v := undef) rfl (by kernel_rfl) (by kernel_rfl) (by kernel_rfl) (fun _ _ _ h => h) (Or.inr ⟨by rfl, rfl⟩) (by assumption) ?_
      try simp only [Act.put, List.setIfInBounds_toArray, List.set_cons_zero, List.set_cons_succ]
      refine wpAnyH_take (i := 11) (oi := { dst := some 81, op := Op.load 25 (Operand.tmp 11), type := 25, pos := "law.go:95", after := #[{ on := 8, ground := Ground.guard }], guard := some (8, true) }) (v := undef) rfl (by kernel_rfl) (by kernel_rfl) (by kernel_rfl) (fun _ _ _ h => h) (Or.inr ⟨by rfl, rfl⟩) (by assumption) ?_
      try simp only [Act.put, List.setIfInBounds_toArray, List.set_cons_zero, List.set_cons_succ]
      refine wpAnyH_take (i := 12) (oi := { dst := some 82, op := Op.call { callee := Callee.value (Operand.func 20), args := #[Operand.tmp 80, Operand.tmp 81], argTypes := #[25, 25] }, type := 3, pos := "law.go:95", after := #[{ on := 10, ground := Ground.data }, { on := 11, ground := Ground.data }, { on := 10, ground := Ground.chain }, { on := 8, ground := Ground.guard }], guard := some (8, true) }) (v := undef) rfl (by kernel_rfl) (by kernel_rfl) (by kernel_rfl) (fun _ _ _ h => h) (Or.inr ⟨by rfl, rfl⟩) (by assumption) ?_
      try simp only [Act.put, List.setIfInBounds_toArray, List.set_cons_zero, List.set_cons_succ]
      refine wpAnyH_take (i := 13) (oi := { dst := some 83, op := Op.binOp BinOp.eql 3 (Operand.tmp 82) (Operand.const (Value.int IntKind.i64 0)) 3, type := 4, pos := "law.go:95", after := #[{ on := 12, ground := Ground.data }, { on := 8, ground := Ground.guard }], guard := some (8, true) }) (v := undef) rfl (by kernel_rfl) (by kernel_rfl) (by kernel_rfl) (fun _ _ _ h => h) (Or.inr ⟨by rfl, rfl⟩) (by assumption) ?_
      try simp only [Act.put, List.setIfInBounds_toArray, List.set_cons_zero, List.set_cons_succ]
      refine wpAnyH_take (i := 14) (oi := { dst := some 84, op := Op.pick (Operand.tmp 78) (Operand.tmp 83) (Operand.const (Value.bool false)), type := 4, pos := "law.go:95", after := #[{ on := 8, ground := Ground.data }, { on := 13, ground := Ground.data }, { on := 6, ground := Ground.guard }], guard := some (6, false) }) (v := undef) rfl (by kernel_rfl) (by kernel_rfl) (by kernel_rfl) (fun _ _ _ h => h) (Or.inr ⟨by rfl, rfl⟩) (by assumption) ?_
      try simp only [Act.put, List.setIfInBounds_toArray, List.set_cons_zero, List.set_cons_succ]
      refine wpAnyH_take (i := 15) (oi := { dst := some 85, op := Op.pick (Operand.tmp 76) (Operand.const (Value.bool true)) (Operand.tmp 84), type := 4, pos := "law.go:95", after := #[{ on := 6, ground := Ground.data }, { on := 14, ground := Ground.data }], guard := none }) (v := ?_) rfl (by kernel_rfl) (by kernel_rfl) (by kernel_rfl) (fun _ _ _ h => h) (Or.inl ⟨by rfl, ?_⟩) (by assumption) ?_
      rotate_left
      · intro w hSw; (try dsimp only at hSw); go_simp; try (with_reducible rfl)
      try simp only [Act.put, List.setIfInBounds_toArray, List.set_cons_zero, List.set_cons_succ]
      refine wpAnyH_take (i := 16) (oi := { dst := some 4, op := Op.assign (Operand.tmp 85), type := 4, pos := "law.go:95", after := #[{ on := 15, ground := Ground.data }, { on := 12, ground := Ground.chain }, { on := 0, ground := Ground.phase }, { on := 1, ground := Ground.phase }, { on := 2, ground := Ground.phase }, { on := 3, ground := Ground.phase }, { on := 4, ground := Ground.phase }, { on := 5, ground := Ground.phase }, { on := 6, ground := Ground.phase }, { on := 7, ground := Ground.phase }, { on := 8, ground := Ground.phase }, { on := 9, ground := Ground.phase }, { on := 10, ground := Ground.phase }, { on := 11, ground := Ground.phase }, { on := 12, ground := Ground.phase }, { on := 13, ground := Ground.phase }, { on := 14, ground := Ground.phase }, { on := 15, ground := Ground.phase }], guard := none }) (v := ?_) rfl (by kernel_rfl) (by kernel_rfl) (by kernel_rfl) (fun _ _ _ h => h) (Or.inl ⟨by rfl, ?_⟩) (by assumption) ?_
      rotate_left
      · intro w hSw; (try dsimp only at hSw); go_simp; try (with_reducible rfl)
      try simp only [Act.put, List.setIfInBounds_toArray, List.set_cons_zero, List.set_cons_succ]
      refine wpAnyH_done (by kernel_rfl) ?_ _
      go_wp2_with fail
      go_ret
      exact ⟨rfl, hE8.trans (show Later W9 _ by first | assumption | (apply Later.drew; assumption) | (apply Later.drewN; assumption))⟩
    
    cases d2
    · go_wp2_with fail
      refine (Cmp_any _ _ Y L _ (hy.ext l10) (hb5.ext l10)).mono ?_
      rintro e w11 ⟨rfl, hx11⟩
      rw [hz1]
      have l11 := l10.step hx11
      go_wp2_with fail
      refine (Cmp_any _ _ Y M _ (hy.ext l11) (hb6.ext l11)).mono ?_
      rintro e w12 ⟨rfl, hx12⟩
      rw [hz2]
      have l12 := l11.step hx12
      clear lf l10 l11
      go_upto_region 21 with fail
      refine wp_region_held_drew (S := fun w' => Later W9 w') (by kernel_rfl) ?_ (fun hHeld => ?_)
      · (try dsimp only); (repeat (first | assumption | apply Later.drew | apply Later.drewN | apply Later.alloc | (refine Later.step ?_ (by assumption))))
      refine wpAnyH_take (i := 0) (oi := { dst := some 70, op := Op.move (Operand.tmp 14), type := 4, pos := "law.go:95", after := #[], guard := none }) (v := ?_) rfl (by kernel_rfl) (by kernel_rfl) (by kernel_rfl) (fun _ _ _ h => h) (Or.inl ⟨by rfl, ?_⟩) (by assumption) ?_
      rotate_left
      · intro w hSw; (try dsimp only at hSw); go_simp; try (with_reducible rfl)
      try simp only [Act.put, List.setIfInBounds_toArray, List.set_cons_zero, List.set_cons_succ]
      refine wpAnyH_take (i := 1) (oi := { dst := some 71, op := Op.unOp UnOp.not 4 (Operand.tmp 70), type := 4, pos := "law.go:95", after := #[{ on := 0, ground := Ground.data }], guard := none }) (v := ?_) rfl (by kernel_rfl) (by kernel_rfl) (by kernel_rfl) (fun _ _ _ h => h) (Or.inl ⟨by rfl, ?_⟩) (by assumption) ?_
      rotate_left
      · intro w hSw; (try dsimp only at hSw); go_simp; try (with_reducible rfl)
      try simp only [Act.put, List.setIfInBounds_toArray, List.set_cons_zero, List.set_cons_succ]
      refine wpAnyH_take (i := 2) (oi := { dst := some 72, op := Op.move (Operand.tmp 71), type := 4, pos := "law.go:95", after := #[{ on := 1, ground := Ground.data }], guard := none }) (v := ?_) rfl (by kernel_rfl) (by kernel_rfl) (by kernel_rfl) (fun _ _ _ h => h) (Or.inl ⟨by rfl, ?_⟩) (by assumption) ?_
      rotate_left
      · intro w hSw; (try dsimp only at hSw); go_simp; try (with_reducible rfl)
      try simp only [Act.put, List.setIfInBounds_toArray, List.set_cons_zero, List.set_cons_succ]
      refine wpAnyH_take (i := 3) (oi := { dst := some 73, op := Op.move (Operand.tmp 13), type := 3, pos := "law.go:95", after := #[{ on := 2, ground := Ground.guard }], guard := some (2, true) }) (v := ?_) rfl (by kernel_rfl) (by kernel_rfl) (by kernel_rfl) (fun _ _ _ h => h) (Or.inl ⟨by rfl, ?_⟩) (by assumption) ?_
      rotate_left
      · intro w hSw; (try dsimp only at hSw); go_simp; try (with_reducible rfl)
      try simp only [Act.put, List.setIfInBounds_toArray, List.set_cons_zero, List.set_cons_succ]
      refine wpAnyH_take (i := 4) (oi := { dst := some 74, op := Op.binOp BinOp.eql 3 (Operand.tmp 73) (Operand.const (Value.int IntKind.i64 0)) 3, type := 4, pos := "law.go:95", after := #[{ on := 3, ground := Ground.data }, { on := 2, ground := Ground.guard }], guard := some (2, true) }) (v := ?_) rfl (by kernel_rfl) (by kernel_rfl) (by kernel_rfl) (fun _ _ _ h => h) (Or.inl ⟨by rfl, ?_⟩) (by assumption) ?_
      rotate_left
      · intro w hSw; (try dsimp only at hSw); go_simp; try (with_reducible rfl)
      try simp only [Act.put, List.setIfInBounds_toArray, List.set_cons_zero, List.set_cons_succ]
      refine wpAnyH_take (i := 5) (oi := { dst := some 75, op := Op.pick (Operand.tmp 72) (Operand.tmp 74) (Operand.const (Value.bool false)), type := 4, pos := "law.go:95", after := #[{ on := 2, ground := Ground.data }, { on := 4, ground := Ground.data }], guard := none }) (v := ?_) rfl (by kernel_rfl) (by kernel_rfl) (by kernel_rfl) (fun _ _ _ h => h) (Or.inl ⟨by rfl, ?_⟩) (by assumption) ?_
      rotate_left
      · intro w hSw; (try dsimp only at hSw); go_simp; try (with_reducible rfl)
      try simp only [Act.put, List.setIfInBounds_toArray, List.set_cons_zero, List.set_cons_succ]
      refine wpAnyH_take (i := 6) (oi := { dst := some 76, op := Op.move (Operand.tmp 75), type := 4, pos := "law.go:95", after := #[{ on := 5, ground := Ground.data }, { on := 2, ground := Ground.chain }], guard := none }) (v := ?_) rfl (by kernel_rfl) (by kernel_rfl) (by kernel_rfl) (fun _ _ _ h => h) (Or.inl ⟨by rfl, ?_⟩) (by assumption) ?_
      rotate_left
      · intro w hSw; (try dsimp only at hSw); go_simp; try (with_reducible rfl)
      try simp only [Act.put, List.setIfInBounds_toArray, List.set_cons_zero, List.set_cons_succ]
      refine wpAnyH_take (i := 7) (oi := { dst := some 77, op := Op.move (Operand.tmp 14), type := 4, pos := "law.go:95", after := #[{ on := 6, ground := Ground.guard }], guard := some (6, false) }) (v := undef) rfl (by kernel_rfl) (by kernel_rfl) (by kernel_rfl) (fun _ _ _ h => h) (Or.inr ⟨by rfl, rfl⟩) (by assumption) ?_
      try simp only [Act.put, List.setIfInBounds_toArray, List.set_cons_zero, List.set_cons_succ]
      refine wpAnyH_take (i := 8) (oi := { dst := some 78, op := Op.move (Operand.tmp 77), type := 4, pos := "law.go:95", after := #[{ on := 7, ground := Ground.data }, { on := 6, ground := Ground.chain }, { on := 6, ground := Ground.guard }], guard := some (6, false) }) (v := undef) rfl (by kernel_rfl) (by kernel_rfl) (by kernel_rfl) (fun _ _ _ h => h) (Or.inr ⟨by rfl, rfl⟩) (by assumption) ?_
      try simp only [Act.put, List.setIfInBounds_toArray, List.set_cons_zero, List.set_cons_succ]
      refine wpAnyH_take (i := 9) (oi := { dst := some 79, op := Op.move (Operand.tmp 13), type := 3, pos := "law.go:95", after := #[{ on := 8, ground := Ground.guard }], guard := some (8, true) }) (v := undef) rfl (by kernel_rfl) (by kernel_rfl) (by kernel_rfl) (fun _ _ _ h => h) (Or.inr ⟨by rfl, rfl⟩) (by assumption) ?_
      try simp only [Act.put, List.setIfInBounds_toArray, List.set_cons_zero, List.set_cons_succ]
      refine wpAnyH_take (i := 10) (oi := { dst := some 80, op := Op.call { callee := Callee.value (Operand.func 18), args := #[Operand.tmp 79], argTypes := #[3] }, type := 25, pos := "law.go:95", after := #[{ on := 9, ground := Ground.data }, { on := 8, ground := Ground.chain }, { on := 8, ground := Ground.guard }], guard := some (8, true) }) (v := undef) rfl (by kernel_rfl) (by kernel_rfl) (by kernel_rfl) (fun _ _ _ h => h) (Or.inr ⟨by rfl, rfl⟩) (by assumption) ?_
      try simp only [Act.put, List.setIfInBounds_toArray, List.set_cons_zero, List.set_cons_succ]
      refine wpAnyH_take (i := 11) (oi := { dst := some 81, op := Op.load 25 (Operand.tmp 11), type := 25, pos := "law.go:95", after := #[{ on := 8, ground := Ground.guard }], guard := some (8, true) }) (v := undef) rfl (by kernel_rfl) (by kernel_rfl) (by kernel_rfl) (fun _ _ _ h => h) (Or.inr ⟨by rfl, rfl⟩) (by assumption) ?_
      try simp only [Act.put, List.setIfInBounds_toArray, List.set_cons_zero, List.set_cons_succ]
      refine wpAnyH_take (i := 12) (oi := { dst := some 82, op := Op.call { callee := Callee.value (Operand.func 20), args := #[Operand.tmp 80, Operand.tmp 81], argTypes := #[25, 25] }, type := 3, pos := "law.go:95", after := #[{ on := 10, ground := Ground.data }, { on := 11, ground := Ground.data }, { on := 10, ground := Ground.chain }, { on := 8, ground := Ground.guard }], guard := some (8, true) }) (v := undef) rfl (by kernel_rfl) (by kernel_rfl) (by kernel_rfl) (fun _ _ _ h => h) (Or.inr ⟨by rfl, rfl⟩) (by assumption) ?_
      try simp only [Act.put, List.setIfInBounds_toArray, List.set_cons_zero, List.set_cons_succ]
      refine wpAnyH_take (i := 13) (oi := { dst := some 83, op := Op.binOp BinOp.eql 3 (Operand.tmp 82) (Operand.const (Value.int IntKind.i64 0)) 3, type := 4, pos := "law.go:95", after := #[{ on := 12, ground := Ground.data }, { on := 8, ground := Ground.guard }], guard := some (8, true) }) (v := undef) rfl (by kernel_rfl) (by kernel_rfl) (by kernel_rfl) (fun _ _ _ h => h) (Or.inr ⟨by rfl, rfl⟩) (by assumption) ?_
      try simp only [Act.put, List.setIfInBounds_toArray, List.set_cons_zero, List.set_cons_succ]
      refine wpAnyH_take (i := 14) (oi := { dst := some 84, op := Op.pick (Operand.tmp 78) (Operand.tmp 83) (Operand.const (Value.bool false)), type := 4, pos := "law.go:95", after := #[{ on := 8, ground := Ground.data }, { on := 13, ground := Ground.data }, { on := 6, ground := Ground.guard }], guard := some (6, false) }) (v := undef) rfl (by kernel_rfl) (by kernel_rfl) (by kernel_rfl) (fun _ _ _ h => h) (Or.inr ⟨by rfl, rfl⟩) (by assumption) ?_
      try simp only [Act.put, List.setIfInBounds_toArray, List.set_cons_zero, List.set_cons_succ]
      refine wpAnyH_take (i := 15) (oi := { dst := some 85, op := Op.pick (Operand.tmp 76) (Operand.const (Value.bool true)) (Operand.tmp 84), type := 4, pos := "law.go:95", after := #[{ on := 6, ground := Ground.data }, { on := 14, ground := Ground.data }], guard := none }) (v := ?_) rfl (by kernel_rfl) (by kernel_rfl) (by kernel_rfl) (fun _ _ _ h => h) (Or.inl ⟨by rfl, ?_⟩) (by assumption) ?_
      rotate_left
      · intro w hSw; (try dsimp only at hSw); go_simp; try (with_reducible rfl)
      try simp only [Act.put, List.setIfInBounds_toArray, List.set_cons_zero, List.set_cons_succ]
      refine wpAnyH_take (i := 16) (oi := { dst := some 4, op := Op.assign (Operand.tmp 85), type := 4, pos := "law.go:95", after := #[{ on := 15, ground := Ground.data }, { on := 12, ground := Ground.chain }, { on := 0, ground := Ground.phase }, { on := 1, ground := Ground.phase }, { on := 2, ground := Ground.phase }, { on := 3, ground := Ground.phase }, { on := 4, ground := Ground.phase }, { on := 5, ground := Ground.phase }, { on := 6, ground := Ground.phase }, { on := 7, ground := Ground.phase }, { on := 8, ground := Ground.phase }, { on := 9, ground := Ground.phase }, { on := 10, ground := Ground.phase }, { on := 11, ground := Ground.phase }, { on := 12, ground := Ground.phase }, { on := 13, ground := Ground.phase }, { on := 14, ground := Ground.phase }, { on := 15, ground := Ground.phase }], guard := none }) (v := ?_) rfl (by kernel_rfl) (by kernel_rfl) (by kernel_rfl) (fun _ _ _ h => h) (Or.inl ⟨by rfl, ?_⟩) (by assumption) ?_
      rotate_left
      · intro w hSw; (try dsimp only at hSw); go_simp; try (with_reducible rfl)
      try simp only [Act.put, List.setIfInBounds_toArray, List.set_cons_zero, List.set_cons_succ]
      refine wpAnyH_done (by kernel_rfl) ?_ _
      go_wp2_with fail
      go_ret
      exact ⟨rfl, hE8.trans (show Later W9 _ by first | assumption | (apply Later.drew; assumption) | (apply Later.drewN; assumption))⟩
    
    go_wp2_with fail
    refine (Cmp_any _ _ Y L _ (hy.ext l10) (hb5.ext l10)).mono ?_
    rintro e w11 ⟨rfl, hx11⟩
    rw [hz1]
    have l11 := l10.step hx11
    go_wp2_with fail
    refine (Cmp_any _ _ Y M _ (hy.ext l11) (hb6.ext l11)).mono ?_
    rintro e w12 ⟨rfl, hx12⟩
    rw [hz2]
    have l12 := l11.step hx12
    clear lf l10 l11
    have hlo : -9223372036854775808 ≤ Y := by have h1 := HD1.out; have h2 := HL.out; simp at h1; omega
    have hhi : Y ≤ 9223372036854775807 := by have h1 := HD2.out; have h2 := HM.out; simp at h1; omega
    have hYY : BigB W9 _ Y 80 := ⟨hy, bYY⟩
    go_upto_region 21 with fail
    refine wp_region_held_drew (S := fun w' => Later W9 w') (by kernel_rfl) ?_ (fun hHeld => ?_)
    · (try dsimp only); (repeat (first | assumption | apply Later.drew | apply Later.drewN | apply Later.alloc | (refine Later.step ?_ (by assumption))))
    refine wpAnyH_take (i := 0) (oi := { dst := some 70, op := Op.move (Operand.tmp 14), type := 4, pos := "law.go:95", after := #[], guard := none }) (v := ?_) rfl (by kernel_rfl) (by kernel_rfl) (by kernel_rfl) (fun _ _ _ h => h) (Or.inl ⟨by rfl, ?_⟩) (by assumption) ?_
    rotate_left
    · intro w hSw; (try dsimp only at hSw); go_simp; try (with_reducible rfl)
    try simp only [Act.put, List.setIfInBounds_toArray, List.set_cons_zero, List.set_cons_succ]
    refine wpAnyH_take (i := 1) (oi := { dst := some 71, op := Op.unOp UnOp.not 4 (Operand.tmp 70), type := 4, pos := "law.go:95", after := #[{ on := 0, ground := Ground.data }], guard := none }) (v := ?_) rfl (by kernel_rfl) (by kernel_rfl) (by kernel_rfl) (fun _ _ _ h => h) (Or.inl ⟨by rfl, ?_⟩) (by assumption) ?_
    rotate_left
    · intro w hSw; (try dsimp only at hSw); go_simp; try (with_reducible rfl)
    try simp only [Act.put, List.setIfInBounds_toArray, List.set_cons_zero, List.set_cons_succ]
    refine wpAnyH_take (i := 2) (oi := { dst := some 72, op := Op.move (Operand.tmp 71), type := 4, pos := "law.go:95", after := #[{ on := 1, ground := Ground.data }], guard := none }) (v := ?_) rfl (by kernel_rfl) (by kernel_rfl) (by kernel_rfl) (fun _ _ _ h => h) (Or.inl ⟨by rfl, ?_⟩) (by assumption) ?_
    rotate_left
    · intro w hSw; (try dsimp only at hSw); go_simp; try (with_reducible rfl)
    try simp only [Act.put, List.setIfInBounds_toArray, List.set_cons_zero, List.set_cons_succ]
    refine wpAnyH_take (i := 3) (oi := { dst := some 73, op := Op.move (Operand.tmp 13), type := 3, pos := "law.go:95", after := #[{ on := 2, ground := Ground.guard }], guard := some (2, true) }) (v := undef) rfl (by kernel_rfl) (by kernel_rfl) (by kernel_rfl) (fun _ _ _ h => h) (Or.inr ⟨by rfl, rfl⟩) (by assumption) ?_
    try simp only [Act.put, List.setIfInBounds_toArray, List.set_cons_zero, List.set_cons_succ]
    refine wpAnyH_take (i := 4) (oi := { dst := some 74, op := Op.binOp BinOp.eql 3 (Operand.tmp 73) (Operand.const (Value.int IntKind.i64 0)) 3, type := 4, pos := "law.go:95", after := #[{ on := 3, ground := Ground.data }, { on := 2, ground := Ground.guard }], guard := some (2, true) }) (v := undef) rfl (by kernel_rfl) (by kernel_rfl) (by kernel_rfl) (fun _ _ _ h => h) (Or.inr ⟨by rfl, rfl⟩) (by assumption) ?_
    try simp only [Act.put, List.setIfInBounds_toArray, List.set_cons_zero, List.set_cons_succ]
    refine wpAnyH_take (i := 5) (oi := { dst := some 75, op := Op.pick (Operand.tmp 72) (Operand.tmp 74) (Operand.const (Value.bool false)), type := 4, pos := "law.go:95", after := #[{ on := 2, ground := Ground.data }, { on := 4, ground := Ground.data }], guard := none }) (v := ?_) rfl (by kernel_rfl) (by kernel_rfl) (by kernel_rfl) (fun _ _ _ h => h) (Or.inl ⟨by rfl, ?_⟩) (by assumption) ?_
    rotate_left
    · intro w hSw; (try dsimp only at hSw); go_simp; try (with_reducible rfl)
    try simp only [Act.put, List.setIfInBounds_toArray, List.set_cons_zero, List.set_cons_succ]
    refine wpAnyH_take (i := 6) (oi := { dst := some 76, op := Op.move (Operand.tmp 75), type := 4, pos := "law.go:95", after := #[{ on := 5, ground := Ground.data }, { on := 2, ground := Ground.chain }], guard := none }) (v := ?_) rfl (by kernel_rfl) (by kernel_rfl) (by kernel_rfl) (fun _ _ _ h => h) (Or.inl ⟨by rfl, ?_⟩) (by assumption) ?_
    rotate_left
    · intro w hSw; (try dsimp only at hSw); go_simp; try (with_reducible rfl)
    try simp only [Act.put, List.setIfInBounds_toArray, List.set_cons_zero, List.set_cons_succ]
    refine wpAnyH_take (i := 7) (oi := { dst := some 77, op := Op.move (Operand.tmp 14), type := 4, pos := "law.go:95", after := #[{ on := 6, ground := Ground.guard }], guard := some (6, false) }) (v := ?_) rfl (by kernel_rfl) (by kernel_rfl) (by kernel_rfl) (fun _ _ _ h => h) (Or.inl ⟨by rfl, ?_⟩) (by assumption) ?_
    rotate_left
    · intro w hSw; (try dsimp only at hSw); go_simp; try (with_reducible rfl)
    try simp only [Act.put, List.setIfInBounds_toArray, List.set_cons_zero, List.set_cons_succ]
    refine wpAnyH_take (i := 8) (oi := { dst := some 78, op := Op.move (Operand.tmp 77), type := 4, pos := "law.go:95", after := #[{ on := 7, ground := Ground.data }, { on := 6, ground := Ground.chain }, { on := 6, ground := Ground.guard }], guard := some (6, false) }) (v := ?_) rfl (by kernel_rfl) (by kernel_rfl) (by kernel_rfl) (fun _ _ _ h => h) (Or.inl ⟨by rfl, ?_⟩) (by assumption) ?_
    rotate_left
    · intro w hSw; (try dsimp only at hSw); go_simp; try (with_reducible rfl)
    try simp only [Act.put, List.setIfInBounds_toArray, List.set_cons_zero, List.set_cons_succ]
    refine wpAnyH_take (i := 9) (oi := { dst := some 79, op := Op.move (Operand.tmp 13), type := 3, pos := "law.go:95", after := #[{ on := 8, ground := Ground.guard }], guard := some (8, true) }) (v := ?_) rfl (by kernel_rfl) (by kernel_rfl) (by kernel_rfl) (fun _ _ _ h => h) (Or.inl ⟨by rfl, ?_⟩) (by assumption) ?_
    rotate_left
    · intro w hSw; (try dsimp only at hSw); go_simp; try (with_reducible rfl)
    try simp only [Act.put, List.setIfInBounds_toArray, List.set_cons_zero, List.set_cons_succ]
    refine wpAnyH_take (i := 11) (oi := { dst := some 81, op := Op.load 25 (Operand.tmp 11), type := 25, pos := "law.go:95", after := #[{ on := 8, ground := Ground.guard }], guard := some (8, true) }) (v := ?_) rfl (by kernel_rfl) (by kernel_rfl) (by kernel_rfl) (fun _ _ _ h => h) (Or.inl ⟨by rfl, ?_⟩) (by assumption) ?_
    rotate_left
    · intro w hSw; (try dsimp only at hSw); go_simp; try (with_reducible rfl)
    try simp only [Act.put, List.setIfInBounds_toArray, List.set_cons_zero, List.set_cons_succ]
    refine wpAnyH_ready (rs := [10]) (by kernel_rfl) (by simp) ?_
    refine AllReadyH.cons (o := { dst := some 80, op := Op.call { callee := Callee.value (Operand.func 18), args := #[Operand.tmp 79], argTypes := #[3] }, type := 25, pos := "law.go:95", after := #[{ on := 9, ground := Ground.data }, { on := 8, ground := Ground.chain }, { on := 8, ground := Ground.guard }], guard := some (8, true) }) rfl (fun K hK => ?_) ?_
    · go_simp
      first
        | (go_at_call 24; (with_reducible refine (Add_b _ _ _ _ _ _ _ (BigB.ext (by assumption) (by repeat (first | (with_reducible exact Ext.refl _) | (with_reducible apply Ext.drew) | (with_reducible apply Ext.drewN) | (with_reducible refine Ext.trans ?_ (by assumption))))) (BigB.ext (by assumption) (by repeat (first | (with_reducible exact Ext.refl _) | (with_reducible apply Ext.drew) | (with_reducible apply Ext.drewN) | (with_reducible refine Ext.trans ?_ (by assumption))))) (by decide)).mono ?_); rintro e wk ⟨vk, rfl, hbk, hxk⟩; (obtain ⟨pk, Ak, nk, ck, rfl⟩ := hbk.1.shape))
        | (go_at_call 28; (with_reducible refine (Sub_b _ _ _ _ _ _ _ (BigB.ext (by assumption) (by repeat (first | (with_reducible exact Ext.refl _) | (with_reducible apply Ext.drew) | (with_reducible apply Ext.drewN) | (with_reducible refine Ext.trans ?_ (by assumption))))) (BigB.ext (by assumption) (by repeat (first | (with_reducible exact Ext.refl _) | (with_reducible apply Ext.drew) | (with_reducible apply Ext.drewN) | (with_reducible refine Ext.trans ?_ (by assumption))))) (by decide)).mono ?_); rintro e wk ⟨vk, rfl, hbk, hxk⟩; (obtain ⟨pk, Ak, nk, ck, rfl⟩ := hbk.1.shape))
        | (go_at_call 23; (with_reducible refine (Mul_b _ _ _ _ _ _ _ (BigB.ext (by assumption) (by repeat (first | (with_reducible exact Ext.refl _) | (with_reducible apply Ext.drew) | (with_reducible apply Ext.drewN) | (with_reducible refine Ext.trans ?_ (by assumption))))) (BigB.ext (by assumption) (by repeat (first | (with_reducible exact Ext.refl _) | (with_reducible apply Ext.drew) | (with_reducible apply Ext.drewN) | (with_reducible refine Ext.trans ?_ (by assumption))))) (by decide)).mono ?_); rintro e wk ⟨vk, rfl, hbk, hxk⟩; (obtain ⟨pk, Ak, nk, ck, rfl⟩ := hbk.1.shape))
        | (go_at_call 27; (with_reducible refine (Neg_b _ _ _ _ (BigB.ext (by assumption) (by repeat (first | (with_reducible exact Ext.refl _) | (with_reducible apply Ext.drew) | (with_reducible apply Ext.drewN) | (with_reducible refine Ext.trans ?_ (by assumption)))))).mono ?_); rintro e wk ⟨vk, rfl, hbk, hxk⟩; (obtain ⟨pk, Ak, nk, ck, rfl⟩ := hbk.1.shape))
        | (go_at_call 25; (with_reducible refine (abs_b _ _ _ _ (BigB.ext (by assumption) (by repeat (first | (with_reducible exact Ext.refl _) | (with_reducible apply Ext.drew) | (with_reducible apply Ext.drewN) | (with_reducible refine Ext.trans ?_ (by assumption)))))).mono ?_); rintro e wk ⟨vk, rfl, hbk, hxk⟩; (obtain ⟨pk, Ak, nk, ck, rfl⟩ := hbk.1.shape))
        | (go_at_call 20; (with_reducible refine (Cmp_eqb _ _ _ _ _ _ _ (BigB.ext (by assumption) (by repeat (first | (with_reducible exact Ext.refl _) | (with_reducible apply Ext.drew) | (with_reducible apply Ext.drewN) | (with_reducible refine Ext.trans ?_ (by assumption))))) (BigB.ext (by assumption) (by repeat (first | (with_reducible exact Ext.refl _) | (with_reducible apply Ext.drew) | (with_reducible apply Ext.drewN) | (with_reducible refine Ext.trans ?_ (by assumption))))) (by first | exact Int.add_comm _ _ | exact Int.mul_comm _ _ | exact Int.add_assoc _ _ _ | exact Int.mul_assoc _ _ _ | exact Int.mul_add _ _ _ | exact Int.sub_eq_add_neg | assumption | exact rfl)).mono ?_); rintro e wk ⟨rfl, hxk⟩)
        | (go_at_call 20; (with_reducible refine (Cmp_b _ _ _ _ _ _ _ (BigB.ext (by assumption) (by repeat (first | (with_reducible exact Ext.refl _) | (with_reducible apply Ext.drew) | (with_reducible apply Ext.drewN) | (with_reducible refine Ext.trans ?_ (by assumption))))) (BigB.ext (by assumption) (by repeat (first | (with_reducible exact Ext.refl _) | (with_reducible apply Ext.drew) | (with_reducible apply Ext.drewN) | (with_reducible refine Ext.trans ?_ (by assumption)))))).mono ?_); rintro e wk ⟨rfl, hxk⟩)
        | (go_at_call 16; (with_reducible refine (Sign_b _ _ _ _ (BigB.ext (by assumption) (by repeat (first | (with_reducible exact Ext.refl _) | (with_reducible apply Ext.drew) | (with_reducible apply Ext.drewN) | (with_reducible refine Ext.trans ?_ (by assumption)))))).mono ?_); rintro e wk ⟨rfl, hxk⟩)
        | (go_at_call 35; (with_reducible refine (Gcd_b _ _ _ _ _ _ _ (BigB.ext (by assumption) (by repeat (first | (with_reducible exact Ext.refl _) | (with_reducible apply Ext.drew) | (with_reducible apply Ext.drewN) | (with_reducible refine Ext.trans ?_ (by assumption))))) (BigB.ext (by assumption) (by repeat (first | (with_reducible exact Ext.refl _) | (with_reducible apply Ext.drew) | (with_reducible apply Ext.drewN) | (with_reducible refine Ext.trans ?_ (by assumption))))) (by decide)).mono ?_); rintro e wk ⟨vk, rfl, hbk, hxk⟩; (obtain ⟨pk, Ak, nk, ck, rfl⟩ := hbk.1.shape))
        | (go_at_call 18; (with_reducible refine (Of_b _ _ (by first | assumption | decide) (by first | assumption | decide)).mono ?_); rintro e wk ⟨vk, rfl, hbk, hxk⟩; (obtain ⟨pk, Ak, nk, ck, rfl⟩ := hbk.1.shape))
      try (go_wp2_with fail)
      refine hK.out _ _ ?_ (fun hHeld => ?_)
      · (try dsimp only); (repeat (first | assumption | apply Later.drew | apply Later.drewN | apply Later.alloc | (refine Later.step ?_ (by assumption))))
      clear hK K
      try simp only [Act.put, List.setIfInBounds_toArray, List.set_cons_zero, List.set_cons_succ]
      refine wpAnyH_ready (rs := [12]) (by kernel_rfl) (by simp) ?_
      refine AllReadyH.cons (o := { dst := some 82, op := Op.call { callee := Callee.value (Operand.func 20), args := #[Operand.tmp 80, Operand.tmp 81], argTypes := #[25, 25] }, type := 3, pos := "law.go:95", after := #[{ on := 10, ground := Ground.data }, { on := 11, ground := Ground.data }, { on := 10, ground := Ground.chain }, { on := 8, ground := Ground.guard }], guard := some (8, true) }) rfl (fun K hK => ?_) ?_
      · go_simp
        first
          | (go_at_call 24; (with_reducible refine (Add_b _ _ _ _ _ _ _ (BigB.ext (by assumption) (by repeat (first | (with_reducible exact Ext.refl _) | (with_reducible apply Ext.drew) | (with_reducible apply Ext.drewN) | (with_reducible refine Ext.trans ?_ (by assumption))))) (BigB.ext (by assumption) (by repeat (first | (with_reducible exact Ext.refl _) | (with_reducible apply Ext.drew) | (with_reducible apply Ext.drewN) | (with_reducible refine Ext.trans ?_ (by assumption))))) (by decide)).mono ?_); rintro e wk ⟨vk, rfl, hbk, hxk⟩; (obtain ⟨pk, Ak, nk, ck, rfl⟩ := hbk.1.shape))
          | (go_at_call 28; (with_reducible refine (Sub_b _ _ _ _ _ _ _ (BigB.ext (by assumption) (by repeat (first | (with_reducible exact Ext.refl _) | (with_reducible apply Ext.drew) | (with_reducible apply Ext.drewN) | (with_reducible refine Ext.trans ?_ (by assumption))))) (BigB.ext (by assumption) (by repeat (first | (with_reducible exact Ext.refl _) | (with_reducible apply Ext.drew) | (with_reducible apply Ext.drewN) | (with_reducible refine Ext.trans ?_ (by assumption))))) (by decide)).mono ?_); rintro e wk ⟨vk, rfl, hbk, hxk⟩; (obtain ⟨pk, Ak, nk, ck, rfl⟩ := hbk.1.shape))
          | (go_at_call 23; (with_reducible refine (Mul_b _ _ _ _ _ _ _ (BigB.ext (by assumption) (by repeat (first | (with_reducible exact Ext.refl _) | (with_reducible apply Ext.drew) | (with_reducible apply Ext.drewN) | (with_reducible refine Ext.trans ?_ (by assumption))))) (BigB.ext (by assumption) (by repeat (first | (with_reducible exact Ext.refl _) | (with_reducible apply Ext.drew) | (with_reducible apply Ext.drewN) | (with_reducible refine Ext.trans ?_ (by assumption))))) (by decide)).mono ?_); rintro e wk ⟨vk, rfl, hbk, hxk⟩; (obtain ⟨pk, Ak, nk, ck, rfl⟩ := hbk.1.shape))
          | (go_at_call 27; (with_reducible refine (Neg_b _ _ _ _ (BigB.ext (by assumption) (by repeat (first | (with_reducible exact Ext.refl _) | (with_reducible apply Ext.drew) | (with_reducible apply Ext.drewN) | (with_reducible refine Ext.trans ?_ (by assumption)))))).mono ?_); rintro e wk ⟨vk, rfl, hbk, hxk⟩; (obtain ⟨pk, Ak, nk, ck, rfl⟩ := hbk.1.shape))
          | (go_at_call 25; (with_reducible refine (abs_b _ _ _ _ (BigB.ext (by assumption) (by repeat (first | (with_reducible exact Ext.refl _) | (with_reducible apply Ext.drew) | (with_reducible apply Ext.drewN) | (with_reducible refine Ext.trans ?_ (by assumption)))))).mono ?_); rintro e wk ⟨vk, rfl, hbk, hxk⟩; (obtain ⟨pk, Ak, nk, ck, rfl⟩ := hbk.1.shape))
          | (go_at_call 20; (with_reducible refine (Cmp_eqb _ _ _ _ _ _ _ (BigB.ext (by assumption) (by repeat (first | (with_reducible exact Ext.refl _) | (with_reducible apply Ext.drew) | (with_reducible apply Ext.drewN) | (with_reducible refine Ext.trans ?_ (by assumption))))) (BigB.ext (by assumption) (by repeat (first | (with_reducible exact Ext.refl _) | (with_reducible apply Ext.drew) | (with_reducible apply Ext.drewN) | (with_reducible refine Ext.trans ?_ (by assumption))))) (by first | exact Int.add_comm _ _ | exact Int.mul_comm _ _ | exact Int.add_assoc _ _ _ | exact Int.mul_assoc _ _ _ | exact Int.mul_add _ _ _ | exact Int.sub_eq_add_neg | assumption | exact rfl)).mono ?_); rintro e wk ⟨rfl, hxk⟩)
          | (go_at_call 20; (with_reducible refine (Cmp_b _ _ _ _ _ _ _ (BigB.ext (by assumption) (by repeat (first | (with_reducible exact Ext.refl _) | (with_reducible apply Ext.drew) | (with_reducible apply Ext.drewN) | (with_reducible refine Ext.trans ?_ (by assumption))))) (BigB.ext (by assumption) (by repeat (first | (with_reducible exact Ext.refl _) | (with_reducible apply Ext.drew) | (with_reducible apply Ext.drewN) | (with_reducible refine Ext.trans ?_ (by assumption)))))).mono ?_); rintro e wk ⟨rfl, hxk⟩)
          | (go_at_call 16; (with_reducible refine (Sign_b _ _ _ _ (BigB.ext (by assumption) (by repeat (first | (with_reducible exact Ext.refl _) | (with_reducible apply Ext.drew) | (with_reducible apply Ext.drewN) | (with_reducible refine Ext.trans ?_ (by assumption)))))).mono ?_); rintro e wk ⟨rfl, hxk⟩)
          | (go_at_call 35; (with_reducible refine (Gcd_b _ _ _ _ _ _ _ (BigB.ext (by assumption) (by repeat (first | (with_reducible exact Ext.refl _) | (with_reducible apply Ext.drew) | (with_reducible apply Ext.drewN) | (with_reducible refine Ext.trans ?_ (by assumption))))) (BigB.ext (by assumption) (by repeat (first | (with_reducible exact Ext.refl _) | (with_reducible apply Ext.drew) | (with_reducible apply Ext.drewN) | (with_reducible refine Ext.trans ?_ (by assumption))))) (by decide)).mono ?_); rintro e wk ⟨vk, rfl, hbk, hxk⟩; (obtain ⟨pk, Ak, nk, ck, rfl⟩ := hbk.1.shape))
          | (go_at_call 18; (with_reducible refine (Of_b _ _ (by first | assumption | decide) (by first | assumption | decide)).mono ?_); rintro e wk ⟨vk, rfl, hbk, hxk⟩; (obtain ⟨pk, Ak, nk, ck, rfl⟩ := hbk.1.shape))
        try (go_wp2_with fail)
        refine hK.out _ _ ?_ (fun hHeld => ?_)
        · (try dsimp only); (repeat (first | assumption | apply Later.drew | apply Later.drewN | apply Later.alloc | (refine Later.step ?_ (by assumption))))
        clear hK K
        try simp only [Act.put, List.setIfInBounds_toArray, List.set_cons_zero, List.set_cons_succ]
        refine wpAnyH_take (i := 13) (oi := { dst := some 83, op := Op.binOp BinOp.eql 3 (Operand.tmp 82) (Operand.const (Value.int IntKind.i64 0)) 3, type := 4, pos := "law.go:95", after := #[{ on := 12, ground := Ground.data }, { on := 8, ground := Ground.guard }], guard := some (8, true) }) (v := ?_) rfl (by kernel_rfl) (by kernel_rfl) (by kernel_rfl) (fun _ _ _ h => h) (Or.inl ⟨by rfl, ?_⟩) (by assumption) ?_
        rotate_left
        · intro w hSw; (try dsimp only at hSw); go_simp; try (with_reducible rfl)
        try simp only [Act.put, List.setIfInBounds_toArray, List.set_cons_zero, List.set_cons_succ]
        refine wpAnyH_take (i := 14) (oi := { dst := some 84, op := Op.pick (Operand.tmp 78) (Operand.tmp 83) (Operand.const (Value.bool false)), type := 4, pos := "law.go:95", after := #[{ on := 8, ground := Ground.data }, { on := 13, ground := Ground.data }, { on := 6, ground := Ground.guard }], guard := some (6, false) }) (v := ?_) rfl (by kernel_rfl) (by kernel_rfl) (by kernel_rfl) (fun _ _ _ h => h) (Or.inl ⟨by rfl, ?_⟩) (by assumption) ?_
        rotate_left
        · intro w hSw; (try dsimp only at hSw); go_simp; try (with_reducible rfl)
        try simp only [Act.put, List.setIfInBounds_toArray, List.set_cons_zero, List.set_cons_succ]
        refine wpAnyH_take (i := 15) (oi := { dst := some 85, op := Op.pick (Operand.tmp 76) (Operand.const (Value.bool true)) (Operand.tmp 84), type := 4, pos := "law.go:95", after := #[{ on := 6, ground := Ground.data }, { on := 14, ground := Ground.data }], guard := none }) (v := ?_) rfl (by kernel_rfl) (by kernel_rfl) (by kernel_rfl) (fun _ _ _ h => h) (Or.inl ⟨by rfl, ?_⟩) (by assumption) ?_
        rotate_left
        · intro w hSw; (try dsimp only at hSw); go_simp; try (with_reducible rfl)
        try simp only [Act.put, List.setIfInBounds_toArray, List.set_cons_zero, List.set_cons_succ]
        refine wpAnyH_take (i := 16) (oi := { dst := some 4, op := Op.assign (Operand.tmp 85), type := 4, pos := "law.go:95", after := #[{ on := 15, ground := Ground.data }, { on := 12, ground := Ground.chain }, { on := 0, ground := Ground.phase }, { on := 1, ground := Ground.phase }, { on := 2, ground := Ground.phase }, { on := 3, ground := Ground.phase }, { on := 4, ground := Ground.phase }, { on := 5, ground := Ground.phase }, { on := 6, ground := Ground.phase }, { on := 7, ground := Ground.phase }, { on := 8, ground := Ground.phase }, { on := 9, ground := Ground.phase }, { on := 10, ground := Ground.phase }, { on := 11, ground := Ground.phase }, { on := 12, ground := Ground.phase }, { on := 13, ground := Ground.phase }, { on := 14, ground := Ground.phase }, { on := 15, ground := Ground.phase }], guard := none }) (v := ?_) rfl (by kernel_rfl) (by kernel_rfl) (by kernel_rfl) (fun _ _ _ h => h) (Or.inl ⟨by rfl, ?_⟩) (by assumption) ?_
        rotate_left
        · intro w hSw; (try dsimp only at hSw); go_simp; try (with_reducible rfl)
        try simp only [Act.put, List.setIfInBounds_toArray, List.set_cons_zero, List.set_cons_succ]
        refine wpAnyH_done (by kernel_rfl) ?_ _
        go_wp2_with fail
        go_ret
        exact ⟨rfl, hE8.trans (show Later W9 _ by first | assumption | (apply Later.drew; assumption) | (apply Later.drewN; assumption))⟩
      exact AllReadyH.nil
    exact AllReadyH.nil
  · have q0 := B5.c0
    have q1 := B5.c1
    go_wp2_with fail
    refine (Sign_any _ n _ hN).mono ?_
    rintro e w4 ⟨rfl, hx4⟩
    go_wp2_with fail
    refine (Of_any (-9223372036854775808) _ (by decide) (by decide)).mono ?_
    rintro e w5 ⟨v5, rfl, hb5, hx5⟩
    obtain ⟨p5, A5, k5, c5, rfl⟩ := hb5.shape
    go_wp2_with fail
    refine (Of_any 9223372036854775807 _ (by decide) (by decide)).mono ?_
    rintro e w6 ⟨v6, rfl, hb6, hx6⟩
    obtain ⟨p6, A6, k6, c6, rfl⟩ := hb6.shape
    obtain ⟨L, hL⟩ : ∃ L : Int, L = -9223372036854775808 := ⟨_, rfl⟩
    obtain ⟨M, hM⟩ : ∃ L : Int, L = 9223372036854775807 := ⟨_, rfl⟩
    rw [← hL] at hb5
    rw [← hM] at hb6
    have hE6 := ((hE3.trans hx4).trans hx5).trans hx6
    have hb5 := hb5.ext hx6
    go_upto_region 13 with fail
    obtain ⟨B9, B10, hE⟩ := boxes2 w6 25 #[.bool p5, .slice A5 k5 c5] #[.bool p6, .slice A6 k6 c6]
    have hb5 := hb5.ext hE
    have hb6 := hb6.ext hE
    have hE7 := hE6.trans hE
    clear hE6 hE3 hx4 hx5 hx6 B5 q0 q1 hE
    generalize ((w6.alloc (.cells #[.bool p5, .slice A5 k5 c5] 25)).alloc (.cells #[.bool p6, .slice A6 k6 c6] 25)) = W7 at *
    by_cases hs : 80 < s.size
    · have e1 : decide ((80 : Int) < (s.size : Int)) = true := by simp; omega
      clear hs
      go_wp2_with fail
      go_ret
      exact ⟨rfl, hE7⟩
    have e1 : decide ((80 : Int) < (s.size : Int)) = false := by simp; omega
    go_wp2_with fail
    refine (Parse_any s _ (by omega)).mono ?_
    rintro e w8 ⟨v8, Y, rfl, hy, hY1, -, hx8⟩
    obtain ⟨p8, A8, k8, c8, rfl⟩ := hy.shape
    have bY : isDec s.data.toList = true → B 80 Y := fun h => by rw [hY1 h]; exact parse_bound2 (by omega) h
    generalize isDec s.data.toList = ds at *
    clear hY1 hs
    have B9 := B9.ext hx8
    have B10 := B10.ext hx8
    have hb5 := hb5.ext hx8
    have hb6 := hb6.ext hx8
    have hE8 := hE7.trans hx8
    go_upto_region 16 with fail
    have hE : Ext w8 (w8.alloc (.cells #[.bool p8, .slice A8 k8 c8] 25)) := (Ext.refl w8).alloc _
    have B11 := Box.new w8 25 #[.bool p8, .slice A8 k8 c8]
    have B9 := B9.ext hE
    have B10 := B10.ext hE
    have hb5 := hb5.ext hE
    have hb6 := hb6.ext hE
    have hy := hy.ext hE
    have hE8 := hE8.trans hE
    clear hE hE7 hx8
    generalize (w8.alloc (.cells #[.bool p8, .slice A8 k8 c8] 25)) = W9 at *
    cases ds
    case false =>
      go_wp2_with fail
      go_ret
      exact ⟨rfl, hE8⟩
    have bYY : B 80 Y := bY rfl
    clear bY
    have k90 : ∀ w', Later W9 w' → w'.cell? ⟨w6.heap.size, 0, none⟩ = some (.bool p5) := fun w' h => (B9.ext h).c0
    have k91 : ∀ w', Later W9 w' → w'.cell? ⟨w6.heap.size, 1, none⟩ = some (.slice A5 k5 c5) := fun w' h => (B9.ext h).c1
    have ka0 : ∀ w', Later W9 w' → w'.cell? ⟨w6.heap.size + 1, 0, none⟩ = some (.bool p6) := fun w' h => (B10.ext h).c0
    have ka1 : ∀ w', Later W9 w' → w'.cell? ⟨w6.heap.size + 1, 1, none⟩ = some (.slice A6 k6 c6) := fun w' h => (B10.ext h).c1
    have kb0 : ∀ w', Later W9 w' → w'.cell? ⟨w8.heap.size, 0, none⟩ = some (.bool p8) := fun w' h => (B11.ext h).c0
    have kb1 : ∀ w', Later W9 w' → w'.cell? ⟨w8.heap.size, 1, none⟩ = some (.slice A8 k8 c8) := fun w' h => (B11.ext h).c1
    have l9 := Later.refl W9
    clear B9 B10 B11
    have c1 := cmpZ_ge (x := Y) (y := L)
    have c2 := cmpZ_le (x := Y) (y := M)
    obtain ⟨z1, hz1⟩ : ∃ z, z = cmpZ Y L := ⟨_, rfl⟩
    obtain ⟨z2, hz2⟩ : ∃ z, z = cmpZ Y M := ⟨_, rfl⟩
    rw [← hz1] at c1
    rw [← hz2] at c2
    replace hz1 := hz1.symm
    replace hz2 := hz2.symm
    have hf : fits Y = (decide (L ≤ Y) && decide (Y ≤ M)) := by unfold fits; rw [hL, hM]
    obtain ⟨d1, hd1⟩ : ∃ d, d = decide (L ≤ Y) := ⟨_, rfl⟩
    obtain ⟨d2, hd2⟩ : ∃ d, d = decide (Y ≤ M) := ⟨_, rfl⟩
    rw [← hd1] at c1 hf
    rw [← hd2] at c2 hf
    have HL := Lib.hid hL
    have HM := Lib.hid hM
    have HD1 := Lib.hid hd1
    have HD2 := Lib.hid hd2
    clear hL hM hd1 hd2
    go_wp2_with fail
    refine (Int_any _ Y 80 _ hy bYY (by decide)).mono ?_
    rintro e w10 ⟨rfl, hx10⟩
    have l10 := l9.step hx10
    rw [hf]
    clear hf
    have lf := l10
    cases d1
    · go_wp2_with fail
      refine (Cmp_any _ _ Y L _ (hy.ext l10) (hb5.ext l10)).mono ?_
      rintro e w11 ⟨rfl, hx11⟩
      rw [hz1]
      have l11 := l10.step hx11
      clear lf l10
      go_upto_region 21 with fail
      refine wp_region_held_drew (S := fun w' => Later W9 w') (by kernel_rfl) ?_ (fun hHeld => ?_)
      · (try dsimp only); (repeat (first | assumption | apply Later.drew | apply Later.drewN | apply Later.alloc | (refine Later.step ?_ (by assumption))))
      refine wpAnyH_take (i := 0) (oi := { dst := some 70, op := Op.move (Operand.tmp 14), type := 4, pos := "law.go:95", after := #[], guard := none }) (v := ?_) rfl (by kernel_rfl) (by kernel_rfl) (by kernel_rfl) (fun _ _ _ h => h) (Or.inl ⟨by rfl, ?_⟩) (by assumption) ?_
      rotate_left
      · intro w hSw; (try dsimp only at hSw); go_simp; try (with_reducible rfl)
      try simp only [Act.put, List.setIfInBounds_toArray, List.set_cons_zero, List.set_cons_succ]
      refine wpAnyH_take (i := 1) (oi := { dst := some 71, op := Op.unOp UnOp.not 4 (Operand.tmp 70), type := 4, pos := "law.go:95", after := #[{ on := 0, ground := Ground.data }], guard := none }) (v := ?_) rfl (by kernel_rfl) (by kernel_rfl) (by kernel_rfl) (fun _ _ _ h => h) (Or.inl ⟨by rfl, ?_⟩) (by assumption) ?_
      rotate_left
      · intro w hSw; (try dsimp only at hSw); go_simp; try (with_reducible rfl)
      try simp only [Act.put, List.setIfInBounds_toArray, List.set_cons_zero, List.set_cons_succ]
      refine wpAnyH_take (i := 2) (oi := { dst := some 72, op := Op.move (Operand.tmp 71), type := 4, pos := "law.go:95", after := #[{ on := 1, ground := Ground.data }], guard := none }) (v := ?_) rfl (by kernel_rfl) (by kernel_rfl) (by kernel_rfl) (fun _ _ _ h => h) (Or.inl ⟨by rfl, ?_⟩) (by assumption) ?_
      rotate_left
      · intro w hSw; (try dsimp only at hSw); go_simp; try (with_reducible rfl)
      try simp only [Act.put, List.setIfInBounds_toArray, List.set_cons_zero, List.set_cons_succ]
      refine wpAnyH_take (i := 3) (oi := { dst := some 73, op := Op.move (Operand.tmp 13), type := 3, pos := "law.go:95", after := #[{ on := 2, ground := Ground.guard }], guard := some (2, true) }) (v := ?_) rfl (by kernel_rfl) (by kernel_rfl) (by kernel_rfl) (fun _ _ _ h => h) (Or.inl ⟨by rfl, ?_⟩) (by assumption) ?_
      rotate_left
      · intro w hSw; (try dsimp only at hSw); go_simp; try (with_reducible rfl)
      try simp only [Act.put, List.setIfInBounds_toArray, List.set_cons_zero, List.set_cons_succ]
      refine wpAnyH_take (i := 4) (oi := { dst := some 74, op := Op.binOp BinOp.eql 3 (Operand.tmp 73) (Operand.const (Value.int IntKind.i64 0)) 3, type := 4, pos := "law.go:95", after := #[{ on := 3, ground := Ground.data }, { on := 2, ground := Ground.guard }], guard := some (2, true) }) (v := ?_) rfl (by kernel_rfl) (by kernel_rfl) (by kernel_rfl) (fun _ _ _ h => h) (Or.inl ⟨by rfl, ?_⟩) (by assumption) ?_
      rotate_left
      · intro w hSw; (try dsimp only at hSw); go_simp; try (with_reducible rfl)
      try simp only [Act.put, List.setIfInBounds_toArray, List.set_cons_zero, List.set_cons_succ]
      refine wpAnyH_take (i := 5) (oi := { dst := some 75, op := Op.pick (Operand.tmp 72) (Operand.tmp 74) (Operand.const (Value.bool false)), type := 4, pos := "law.go:95", after := #[{ on := 2, ground := Ground.data }, { on := 4, ground := Ground.data }], guard := none }) (v := ?_) rfl (by kernel_rfl) (by kernel_rfl) (by kernel_rfl) (fun _ _ _ h => h) (Or.inl ⟨by rfl, ?_⟩) (by assumption) ?_
      rotate_left
      · intro w hSw; (try dsimp only at hSw); go_simp; try (with_reducible rfl)
      try simp only [Act.put, List.setIfInBounds_toArray, List.set_cons_zero, List.set_cons_succ]
      refine wpAnyH_take (i := 6) (oi := { dst := some 76, op := Op.move (Operand.tmp 75), type := 4, pos := "law.go:95", after := #[{ on := 5, ground := Ground.data }, { on := 2, ground := Ground.chain }], guard := none }) (v := ?_) rfl (by kernel_rfl) (by kernel_rfl) (by kernel_rfl) (fun _ _ _ h => h) (Or.inl ⟨by rfl, ?_⟩) (by assumption) ?_
      rotate_left
      · intro w hSw; (try dsimp only at hSw); go_simp; try (with_reducible rfl)
      try simp only [Act.put, List.setIfInBounds_toArray, List.set_cons_zero, List.set_cons_succ]
      refine wpAnyH_take (i := 7) (oi := { dst := some 77, op := Op.move (Operand.tmp 14), type := 4, pos := "law.go:95", after := #[{ on := 6, ground := Ground.guard }], guard := some (6, false) }) (v := undef) rfl (by kernel_rfl) (by kernel_rfl) (by kernel_rfl) (fun _ _ _ h => h) (Or.inr ⟨by rfl, rfl⟩) (by assumption) ?_
      try simp only [Act.put, List.setIfInBounds_toArray, List.set_cons_zero, List.set_cons_succ]
      refine wpAnyH_take (i := 8) (oi := { dst := some 78, op := Op.move (Operand.tmp 77), type := 4, pos := "law.go:95", after := #[{ on := 7, ground := Ground.data }, { on := 6, ground := Ground.chain }, { on := 6, ground := Ground.guard }], guard := some (6, false) }) (v := undef) rfl (by kernel_rfl) (by kernel_rfl) (by kernel_rfl) (fun _ _ _ h => h) (Or.inr ⟨by rfl, rfl⟩) (by assumption) ?_
      try simp only [Act.put, List.setIfInBounds_toArray, List.set_cons_zero, List.set_cons_succ]
      refine wpAnyH_take (i := 9) (oi := { dst := some 79, op := Op.move (Operand.tmp 13), type := 3, pos := "law.go:95", after := #[{ on := 8, ground := Ground.guard }], guard := some (8, true) }) (v := undef) rfl (by kernel_rfl) (by kernel_rfl) (by kernel_rfl) (fun _ _ _ h => h) (Or.inr ⟨by rfl, rfl⟩) (by assumption) ?_
      try simp only [Act.put, List.setIfInBounds_toArray, List.set_cons_zero, List.set_cons_succ]
      refine wpAnyH_take (i := 10) (oi := { dst := some 80, op := Op.call { callee := Callee.value (Operand.func 18), args := #[Operand.tmp 79], argTypes := #[3] }, type := 25, pos := "law.go:95", after := #[{ on := 9, ground := Ground.data }, { on := 8, ground := Ground.chain }, { on := 8, ground := Ground.guard }], guard := some (8, true) }) (v := undef) rfl (by kernel_rfl) (by kernel_rfl) (by kernel_rfl) (fun _ _ _ h => h) (Or.inr ⟨by rfl, rfl⟩) (by assumption) ?_
      try simp only [Act.put, List.setIfInBounds_toArray, List.set_cons_zero, List.set_cons_succ]
      refine wpAnyH_take (i := 11) (oi := { dst := some 81, op := Op.load 25 (Operand.tmp 11), type := 25, pos := "law.go:95", after := #[{ on := 8, ground := Ground.guard }], guard := some (8, true) }) (v := undef) rfl (by kernel_rfl) (by kernel_rfl) (by kernel_rfl) (fun _ _ _ h => h) (Or.inr ⟨by rfl, rfl⟩) (by assumption) ?_
      try simp only [Act.put, List.setIfInBounds_toArray, List.set_cons_zero, List.set_cons_succ]
      refine wpAnyH_take (i := 12) (oi := { dst := some 82, op := Op.call { callee := Callee.value (Operand.func 20), args := #[Operand.tmp 80, Operand.tmp 81], argTypes := #[25, 25] }, type := 3, pos := "law.go:95", after := #[{ on := 10, ground := Ground.data }, { on := 11, ground := Ground.data }, { on := 10, ground := Ground.chain }, { on := 8, ground := Ground.guard }], guard := some (8, true) }) (v := undef) rfl (by kernel_rfl) (by kernel_rfl) (by kernel_rfl) (fun _ _ _ h => h) (Or.inr ⟨by rfl, rfl⟩) (by assumption) ?_
      try simp only [Act.put, List.setIfInBounds_toArray, List.set_cons_zero, List.set_cons_succ]
      refine wpAnyH_take (i := 13) (oi := { dst := some 83, op := Op.binOp BinOp.eql 3 (Operand.tmp 82) (Operand.const (Value.int IntKind.i64 0)) 3, type := 4, pos := "law.go:95", after := #[{ on := 12, ground := Ground.data }, { on := 8, ground := Ground.guard }], guard := some (8, true) }) (v := undef) rfl (by kernel_rfl) (by kernel_rfl) (by kernel_rfl) (fun _ _ _ h => h) (Or.inr ⟨by rfl, rfl⟩) (by assumption) ?_
      try simp only [Act.put, List.setIfInBounds_toArray, List.set_cons_zero, List.set_cons_succ]
      refine wpAnyH_take (i := 14) (oi := { dst := some 84, op := Op.pick (Operand.tmp 78) (Operand.tmp 83) (Operand.const (Value.bool false)), type := 4, pos := "law.go:95", after := #[{ on := 8, ground := Ground.data }, { on := 13, ground := Ground.data }, { on := 6, ground := Ground.guard }], guard := some (6, false) }) (v := undef) rfl (by kernel_rfl) (by kernel_rfl) (by kernel_rfl) (fun _ _ _ h => h) (Or.inr ⟨by rfl, rfl⟩) (by assumption) ?_
      try simp only [Act.put, List.setIfInBounds_toArray, List.set_cons_zero, List.set_cons_succ]
      refine wpAnyH_take (i := 15) (oi := { dst := some 85, op := Op.pick (Operand.tmp 76) (Operand.const (Value.bool true)) (Operand.tmp 84), type := 4, pos := "law.go:95", after := #[{ on := 6, ground := Ground.data }, { on := 14, ground := Ground.data }], guard := none }) (v := ?_) rfl (by kernel_rfl) (by kernel_rfl) (by kernel_rfl) (fun _ _ _ h => h) (Or.inl ⟨by rfl, ?_⟩) (by assumption) ?_
      rotate_left
      · intro w hSw; (try dsimp only at hSw); go_simp; try (with_reducible rfl)
      try simp only [Act.put, List.setIfInBounds_toArray, List.set_cons_zero, List.set_cons_succ]
      refine wpAnyH_take (i := 16) (oi := { dst := some 4, op := Op.assign (Operand.tmp 85), type := 4, pos := "law.go:95", after := #[{ on := 15, ground := Ground.data }, { on := 12, ground := Ground.chain }, { on := 0, ground := Ground.phase }, { on := 1, ground := Ground.phase }, { on := 2, ground := Ground.phase }, { on := 3, ground := Ground.phase }, { on := 4, ground := Ground.phase }, { on := 5, ground := Ground.phase }, { on := 6, ground := Ground.phase }, { on := 7, ground := Ground.phase }, { on := 8, ground := Ground.phase }, { on := 9, ground := Ground.phase }, { on := 10, ground := Ground.phase }, { on := 11, ground := Ground.phase }, { on := 12, ground := Ground.phase }, { on := 13, ground := Ground.phase }, { on := 14, ground := Ground.phase }, { on := 15, ground := Ground.phase }], guard := none }) (v := ?_) rfl (by kernel_rfl) (by kernel_rfl) (by kernel_rfl) (fun _ _ _ h => h) (Or.inl ⟨by rfl, ?_⟩) (by assumption) ?_
      rotate_left
      · intro w hSw; (try dsimp only at hSw); go_simp; try (with_reducible rfl)
      try simp only [Act.put, List.setIfInBounds_toArray, List.set_cons_zero, List.set_cons_succ]
      refine wpAnyH_done (by kernel_rfl) ?_ _
      go_wp2_with fail
      go_ret
      exact ⟨rfl, hE8.trans (show Later W9 _ by first | assumption | (apply Later.drew; assumption) | (apply Later.drewN; assumption))⟩
    
    cases d2
    · go_wp2_with fail
      refine (Cmp_any _ _ Y L _ (hy.ext l10) (hb5.ext l10)).mono ?_
      rintro e w11 ⟨rfl, hx11⟩
      rw [hz1]
      have l11 := l10.step hx11
      go_wp2_with fail
      refine (Cmp_any _ _ Y M _ (hy.ext l11) (hb6.ext l11)).mono ?_
      rintro e w12 ⟨rfl, hx12⟩
      rw [hz2]
      have l12 := l11.step hx12
      clear lf l10 l11
      go_upto_region 21 with fail
      refine wp_region_held_drew (S := fun w' => Later W9 w') (by kernel_rfl) ?_ (fun hHeld => ?_)
      · (try dsimp only); (repeat (first | assumption | apply Later.drew | apply Later.drewN | apply Later.alloc | (refine Later.step ?_ (by assumption))))
      refine wpAnyH_take (i := 0) (oi := { dst := some 70, op := Op.move (Operand.tmp 14), type := 4, pos := "law.go:95", after := #[], guard := none }) (v := ?_) rfl (by kernel_rfl) (by kernel_rfl) (by kernel_rfl) (fun _ _ _ h => h) (Or.inl ⟨by rfl, ?_⟩) (by assumption) ?_
      rotate_left
      · intro w hSw; (try dsimp only at hSw); go_simp; try (with_reducible rfl)
      try simp only [Act.put, List.setIfInBounds_toArray, List.set_cons_zero, List.set_cons_succ]
      refine wpAnyH_take (i := 1) (oi := { dst := some 71, op := Op.unOp UnOp.not 4 (Operand.tmp 70), type := 4, pos := "law.go:95", after := #[{ on := 0, ground := Ground.data }], guard := none }) (v := ?_) rfl (by kernel_rfl) (by kernel_rfl) (by kernel_rfl) (fun _ _ _ h => h) (Or.inl ⟨by rfl, ?_⟩) (by assumption) ?_
      rotate_left
      · intro w hSw; (try dsimp only at hSw); go_simp; try (with_reducible rfl)
      try simp only [Act.put, List.setIfInBounds_toArray, List.set_cons_zero, List.set_cons_succ]
      refine wpAnyH_take (i := 2) (oi := { dst := some 72, op := Op.move (Operand.tmp 71), type := 4, pos := "law.go:95", after := #[{ on := 1, ground := Ground.data }], guard := none }) (v := ?_) rfl (by kernel_rfl) (by kernel_rfl) (by kernel_rfl) (fun _ _ _ h => h) (Or.inl ⟨by rfl, ?_⟩) (by assumption) ?_
      rotate_left
      · intro w hSw; (try dsimp only at hSw); go_simp; try (with_reducible rfl)
      try simp only [Act.put, List.setIfInBounds_toArray, List.set_cons_zero, List.set_cons_succ]
      refine wpAnyH_take (i := 3) (oi := { dst := some 73, op := Op.move (Operand.tmp 13), type := 3, pos := "law.go:95", after := #[{ on := 2, ground := Ground.guard }], guard := some (2, true) }) (v := ?_) rfl (by kernel_rfl) (by kernel_rfl) (by kernel_rfl) (fun _ _ _ h => h) (Or.inl ⟨by rfl, ?_⟩) (by assumption) ?_
      rotate_left
      · intro w hSw; (try dsimp only at hSw); go_simp; try (with_reducible rfl)
      try simp only [Act.put, List.setIfInBounds_toArray, List.set_cons_zero, List.set_cons_succ]
      refine wpAnyH_take (i := 4) (oi := { dst := some 74, op := Op.binOp BinOp.eql 3 (Operand.tmp 73) (Operand.const (Value.int IntKind.i64 0)) 3, type := 4, pos := "law.go:95", after := #[{ on := 3, ground := Ground.data }, { on := 2, ground := Ground.guard }], guard := some (2, true) }) (v := ?_) rfl (by kernel_rfl) (by kernel_rfl) (by kernel_rfl) (fun _ _ _ h => h) (Or.inl ⟨by rfl, ?_⟩) (by assumption) ?_
      rotate_left
      · intro w hSw; (try dsimp only at hSw); go_simp; try (with_reducible rfl)
      try simp only [Act.put, List.setIfInBounds_toArray, List.set_cons_zero, List.set_cons_succ]
      refine wpAnyH_take (i := 5) (oi := { dst := some 75, op := Op.pick (Operand.tmp 72) (Operand.tmp 74) (Operand.const (Value.bool false)), type := 4, pos := "law.go:95", after := #[{ on := 2, ground := Ground.data }, { on := 4, ground := Ground.data }], guard := none }) (v := ?_) rfl (by kernel_rfl) (by kernel_rfl) (by kernel_rfl) (fun _ _ _ h => h) (Or.inl ⟨by rfl, ?_⟩) (by assumption) ?_
      rotate_left
      · intro w hSw; (try dsimp only at hSw); go_simp; try (with_reducible rfl)
      try simp only [Act.put, List.setIfInBounds_toArray, List.set_cons_zero, List.set_cons_succ]
      refine wpAnyH_take (i := 6) (oi := { dst := some 76, op := Op.move (Operand.tmp 75), type := 4, pos := "law.go:95", after := #[{ on := 5, ground := Ground.data }, { on := 2, ground := Ground.chain }], guard := none }) (v := ?_) rfl (by kernel_rfl) (by kernel_rfl) (by kernel_rfl) (fun _ _ _ h => h) (Or.inl ⟨by rfl, ?_⟩) (by assumption) ?_
      rotate_left
      · intro w hSw; (try dsimp only at hSw); go_simp; try (with_reducible rfl)
      try simp only [Act.put, List.setIfInBounds_toArray, List.set_cons_zero, List.set_cons_succ]
      refine wpAnyH_take (i := 7) (oi := { dst := some 77, op := Op.move (Operand.tmp 14), type := 4, pos := "law.go:95", after := #[{ on := 6, ground := Ground.guard }], guard := some (6, false) }) (v := undef) rfl (by kernel_rfl) (by kernel_rfl) (by kernel_rfl) (fun _ _ _ h => h) (Or.inr ⟨by rfl, rfl⟩) (by assumption) ?_
      try simp only [Act.put, List.setIfInBounds_toArray, List.set_cons_zero, List.set_cons_succ]
      refine wpAnyH_take (i := 8) (oi := { dst := some 78, op := Op.move (Operand.tmp 77), type := 4, pos := "law.go:95", after := #[{ on := 7, ground := Ground.data }, { on := 6, ground := Ground.chain }, { on := 6, ground := Ground.guard }], guard := some (6, false) }) (v := undef) rfl (by kernel_rfl) (by kernel_rfl) (by kernel_rfl) (fun _ _ _ h => h) (Or.inr ⟨by rfl, rfl⟩) (by assumption) ?_
      try simp only [Act.put, List.setIfInBounds_toArray, List.set_cons_zero, List.set_cons_succ]
      refine wpAnyH_take (i := 9) (oi := { dst := some 79, op := Op.move (Operand.tmp 13), type := 3, pos := "law.go:95", after := #[{ on := 8, ground := Ground.guard }], guard := some (8, true) }) (v := undef) rfl (by kernel_rfl) (by kernel_rfl) (by kernel_rfl) (fun _ _ _ h => h) (Or.inr ⟨by rfl, rfl⟩) (by assumption) ?_
      try simp only [Act.put, List.setIfInBounds_toArray, List.set_cons_zero, List.set_cons_succ]
      refine wpAnyH_take (i := 10) (oi := { dst := some 80, op := Op.call { callee := Callee.value (Operand.func 18), args := #[Operand.tmp 79], argTypes := #[3] }, type := 25, pos := "law.go:95", after := #[{ on := 9, ground := Ground.data }, { on := 8, ground := Ground.chain }, { on := 8, ground := Ground.guard }], guard := some (8, true) }) (v := undef) rfl (by kernel_rfl) (by kernel_rfl) (by kernel_rfl) (fun _ _ _ h => h) (Or.inr ⟨by rfl, rfl⟩) (by assumption) ?_
      try simp only [Act.put, List.setIfInBounds_toArray, List.set_cons_zero, List.set_cons_succ]
      refine wpAnyH_take (i := 11) (oi := { dst := some 81, op := Op.load 25 (Operand.tmp 11), type := 25, pos := "law.go:95", after := #[{ on := 8, ground := Ground.guard }], guard := some (8, true) }) (v := undef) rfl (by kernel_rfl) (by kernel_rfl) (by kernel_rfl) (fun _ _ _ h => h) (Or.inr ⟨by rfl, rfl⟩) (by assumption) ?_
      try simp only [Act.put, List.setIfInBounds_toArray, List.set_cons_zero, List.set_cons_succ]
      refine wpAnyH_take (i := 12) (oi := { dst := some 82, op := Op.call { callee := Callee.value (Operand.func 20), args := #[Operand.tmp 80, Operand.tmp 81], argTypes := #[25, 25] }, type := 3, pos := "law.go:95", after := #[{ on := 10, ground := Ground.data }, { on := 11, ground := Ground.data }, { on := 10, ground := Ground.chain }, { on := 8, ground := Ground.guard }], guard := some (8, true) }) (v := undef) rfl (by kernel_rfl) (by kernel_rfl) (by kernel_rfl) (fun _ _ _ h => h) (Or.inr ⟨by rfl, rfl⟩) (by assumption) ?_
      try simp only [Act.put, List.setIfInBounds_toArray, List.set_cons_zero, List.set_cons_succ]
      refine wpAnyH_take (i := 13) (oi := { dst := some 83, op := Op.binOp BinOp.eql 3 (Operand.tmp 82) (Operand.const (Value.int IntKind.i64 0)) 3, type := 4, pos := "law.go:95", after := #[{ on := 12, ground := Ground.data }, { on := 8, ground := Ground.guard }], guard := some (8, true) }) (v := undef) rfl (by kernel_rfl) (by kernel_rfl) (by kernel_rfl) (fun _ _ _ h => h) (Or.inr ⟨by rfl, rfl⟩) (by assumption) ?_
      try simp only [Act.put, List.setIfInBounds_toArray, List.set_cons_zero, List.set_cons_succ]
      refine wpAnyH_take (i := 14) (oi := { dst := some 84, op := Op.pick (Operand.tmp 78) (Operand.tmp 83) (Operand.const (Value.bool false)), type := 4, pos := "law.go:95", after := #[{ on := 8, ground := Ground.data }, { on := 13, ground := Ground.data }, { on := 6, ground := Ground.guard }], guard := some (6, false) }) (v := undef) rfl (by kernel_rfl) (by kernel_rfl) (by kernel_rfl) (fun _ _ _ h => h) (Or.inr ⟨by rfl, rfl⟩) (by assumption) ?_
      try simp only [Act.put, List.setIfInBounds_toArray, List.set_cons_zero, List.set_cons_succ]
      refine wpAnyH_take (i := 15) (oi := { dst := some 85, op := Op.pick (Operand.tmp 76) (Operand.const (Value.bool true)) (Operand.tmp 84), type := 4, pos := "law.go:95", after := #[{ on := 6, ground := Ground.data }, { on := 14, ground := Ground.data }], guard := none }) (v := ?_) rfl (by kernel_rfl) (by kernel_rfl) (by kernel_rfl) (fun _ _ _ h => h) (Or.inl ⟨by rfl, ?_⟩) (by assumption) ?_
      rotate_left
      · intro w hSw; (try dsimp only at hSw); go_simp; try (with_reducible rfl)
      try simp only [Act.put, List.setIfInBounds_toArray, List.set_cons_zero, List.set_cons_succ]
      refine wpAnyH_take (i := 16) (oi := { dst := some 4, op := Op.assign (Operand.tmp 85), type := 4, pos := "law.go:95", after := #[{ on := 15, ground := Ground.data }, { on := 12, ground := Ground.chain }, { on := 0, ground := Ground.phase }, { on := 1, ground := Ground.phase }, { on := 2, ground := Ground.phase }, { on := 3, ground := Ground.phase }, { on := 4, ground := Ground.phase }, { on := 5, ground := Ground.phase }, { on := 6, ground := Ground.phase }, { on := 7, ground := Ground.phase }, { on := 8, ground := Ground.phase }, { on := 9, ground := Ground.phase }, { on := 10, ground := Ground.phase }, { on := 11, ground := Ground.phase }, { on := 12, ground := Ground.phase }, { on := 13, ground := Ground.phase }, { on := 14, ground := Ground.phase }, { on := 15, ground := Ground.phase }], guard := none }) (v := ?_) rfl (by kernel_rfl) (by kernel_rfl) (by kernel_rfl) (fun _ _ _ h => h) (Or.inl ⟨by rfl, ?_⟩) (by assumption) ?_
      rotate_left
      · intro w hSw; (try dsimp only at hSw); go_simp; try (with_reducible rfl)
      try simp only [Act.put, List.setIfInBounds_toArray, List.set_cons_zero, List.set_cons_succ]
      refine wpAnyH_done (by kernel_rfl) ?_ _
      go_wp2_with fail
      go_ret
      exact ⟨rfl, hE8.trans (show Later W9 _ by first | assumption | (apply Later.drew; assumption) | (apply Later.drewN; assumption))⟩
    
    go_wp2_with fail
    refine (Cmp_any _ _ Y L _ (hy.ext l10) (hb5.ext l10)).mono ?_
    rintro e w11 ⟨rfl, hx11⟩
    rw [hz1]
    have l11 := l10.step hx11
    go_wp2_with fail
    refine (Cmp_any _ _ Y M _ (hy.ext l11) (hb6.ext l11)).mono ?_
    rintro e w12 ⟨rfl, hx12⟩
    rw [hz2]
    have l12 := l11.step hx12
    clear lf l10 l11
    have hlo : -9223372036854775808 ≤ Y := by have h1 := HD1.out; have h2 := HL.out; simp at h1; omega
    have hhi : Y ≤ 9223372036854775807 := by have h1 := HD2.out; have h2 := HM.out; simp at h1; omega
    have hYY : BigB W9 _ Y 80 := ⟨hy, bYY⟩
    go_upto_region 21 with fail
    refine wp_region_held_drew (S := fun w' => Later W9 w') (by kernel_rfl) ?_ (fun hHeld => ?_)
    · (try dsimp only); (repeat (first | assumption | apply Later.drew | apply Later.drewN | apply Later.alloc | (refine Later.step ?_ (by assumption))))
    refine wpAnyH_take (i := 0) (oi := { dst := some 70, op := Op.move (Operand.tmp 14), type := 4, pos := "law.go:95", after := #[], guard := none }) (v := ?_) rfl (by kernel_rfl) (by kernel_rfl) (by kernel_rfl) (fun _ _ _ h => h) (Or.inl ⟨by rfl, ?_⟩) (by assumption) ?_
    rotate_left
    · intro w hSw; (try dsimp only at hSw); go_simp; try (with_reducible rfl)
    try simp only [Act.put, List.setIfInBounds_toArray, List.set_cons_zero, List.set_cons_succ]
    refine wpAnyH_take (i := 1) (oi := { dst := some 71, op := Op.unOp UnOp.not 4 (Operand.tmp 70), type := 4, pos := "law.go:95", after := #[{ on := 0, ground := Ground.data }], guard := none }) (v := ?_) rfl (by kernel_rfl) (by kernel_rfl) (by kernel_rfl) (fun _ _ _ h => h) (Or.inl ⟨by rfl, ?_⟩) (by assumption) ?_
    rotate_left
    · intro w hSw; (try dsimp only at hSw); go_simp; try (with_reducible rfl)
    try simp only [Act.put, List.setIfInBounds_toArray, List.set_cons_zero, List.set_cons_succ]
    refine wpAnyH_take (i := 2) (oi := { dst := some 72, op := Op.move (Operand.tmp 71), type := 4, pos := "law.go:95", after := #[{ on := 1, ground := Ground.data }], guard := none }) (v := ?_) rfl (by kernel_rfl) (by kernel_rfl) (by kernel_rfl) (fun _ _ _ h => h) (Or.inl ⟨by rfl, ?_⟩) (by assumption) ?_
    rotate_left
    · intro w hSw; (try dsimp only at hSw); go_simp; try (with_reducible rfl)
    try simp only [Act.put, List.setIfInBounds_toArray, List.set_cons_zero, List.set_cons_succ]
    refine wpAnyH_take (i := 3) (oi := { dst := some 73, op := Op.move (Operand.tmp 13), type := 3, pos := "law.go:95", after := #[{ on := 2, ground := Ground.guard }], guard := some (2, true) }) (v := undef) rfl (by kernel_rfl) (by kernel_rfl) (by kernel_rfl) (fun _ _ _ h => h) (Or.inr ⟨by rfl, rfl⟩) (by assumption) ?_
    try simp only [Act.put, List.setIfInBounds_toArray, List.set_cons_zero, List.set_cons_succ]
    refine wpAnyH_take (i := 4) (oi := { dst := some 74, op := Op.binOp BinOp.eql 3 (Operand.tmp 73) (Operand.const (Value.int IntKind.i64 0)) 3, type := 4, pos := "law.go:95", after := #[{ on := 3, ground := Ground.data }, { on := 2, ground := Ground.guard }], guard := some (2, true) }) (v := undef) rfl (by kernel_rfl) (by kernel_rfl) (by kernel_rfl) (fun _ _ _ h => h) (Or.inr ⟨by rfl, rfl⟩) (by assumption) ?_
    try simp only [Act.put, List.setIfInBounds_toArray, List.set_cons_zero, List.set_cons_succ]
    refine wpAnyH_take (i := 5) (oi := { dst := some 75, op := Op.pick (Operand.tmp 72) (Operand.tmp 74) (Operand.const (Value.bool false)), type := 4, pos := "law.go:95", after := #[{ on := 2, ground := Ground.data }, { on := 4, ground := Ground.data }], guard := none }) (v := ?_) rfl (by kernel_rfl) (by kernel_rfl) (by kernel_rfl) (fun _ _ _ h => h) (Or.inl ⟨by rfl, ?_⟩) (by assumption) ?_
    rotate_left
    · intro w hSw; (try dsimp only at hSw); go_simp; try (with_reducible rfl)
    try simp only [Act.put, List.setIfInBounds_toArray, List.set_cons_zero, List.set_cons_succ]
    refine wpAnyH_take (i := 6) (oi := { dst := some 76, op := Op.move (Operand.tmp 75), type := 4, pos := "law.go:95", after := #[{ on := 5, ground := Ground.data }, { on := 2, ground := Ground.chain }], guard := none }) (v := ?_) rfl (by kernel_rfl) (by kernel_rfl) (by kernel_rfl) (fun _ _ _ h => h) (Or.inl ⟨by rfl, ?_⟩) (by assumption) ?_
    rotate_left
    · intro w hSw; (try dsimp only at hSw); go_simp; try (with_reducible rfl)
    try simp only [Act.put, List.setIfInBounds_toArray, List.set_cons_zero, List.set_cons_succ]
    refine wpAnyH_take (i := 7) (oi := { dst := some 77, op := Op.move (Operand.tmp 14), type := 4, pos := "law.go:95", after := #[{ on := 6, ground := Ground.guard }], guard := some (6, false) }) (v := ?_) rfl (by kernel_rfl) (by kernel_rfl) (by kernel_rfl) (fun _ _ _ h => h) (Or.inl ⟨by rfl, ?_⟩) (by assumption) ?_
    rotate_left
    · intro w hSw; (try dsimp only at hSw); go_simp; try (with_reducible rfl)
    try simp only [Act.put, List.setIfInBounds_toArray, List.set_cons_zero, List.set_cons_succ]
    refine wpAnyH_take (i := 8) (oi := { dst := some 78, op := Op.move (Operand.tmp 77), type := 4, pos := "law.go:95", after := #[{ on := 7, ground := Ground.data }, { on := 6, ground := Ground.chain }, { on := 6, ground := Ground.guard }], guard := some (6, false) }) (v := ?_) rfl (by kernel_rfl) (by kernel_rfl) (by kernel_rfl) (fun _ _ _ h => h) (Or.inl ⟨by rfl, ?_⟩) (by assumption) ?_
    rotate_left
    · intro w hSw; (try dsimp only at hSw); go_simp; try (with_reducible rfl)
    try simp only [Act.put, List.setIfInBounds_toArray, List.set_cons_zero, List.set_cons_succ]
    refine wpAnyH_take (i := 9) (oi := { dst := some 79, op := Op.move (Operand.tmp 13), type := 3, pos := "law.go:95", after := #[{ on := 8, ground := Ground.guard }], guard := some (8, true) }) (v := ?_) rfl (by kernel_rfl) (by kernel_rfl) (by kernel_rfl) (fun _ _ _ h => h) (Or.inl ⟨by rfl, ?_⟩) (by assumption) ?_
    rotate_left
    · intro w hSw; (try dsimp only at hSw); go_simp; try (with_reducible rfl)
    try simp only [Act.put, List.setIfInBounds_toArray, List.set_cons_zero, List.set_cons_succ]
    refine wpAnyH_take (i := 11) (oi := { dst := some 81, op := Op.load 25 (Operand.tmp 11), type := 25, pos := "law.go:95", after := #[{ on := 8, ground := Ground.guard }], guard := some (8, true) }) (v := ?_) rfl (by kernel_rfl) (by kernel_rfl) (by kernel_rfl) (fun _ _ _ h => h) (Or.inl ⟨by rfl, ?_⟩) (by assumption) ?_
    rotate_left
    · intro w hSw; (try dsimp only at hSw); go_simp; try (with_reducible rfl)
    try simp only [Act.put, List.setIfInBounds_toArray, List.set_cons_zero, List.set_cons_succ]
    refine wpAnyH_ready (rs := [10]) (by kernel_rfl) (by simp) ?_
    refine AllReadyH.cons (o := { dst := some 80, op := Op.call { callee := Callee.value (Operand.func 18), args := #[Operand.tmp 79], argTypes := #[3] }, type := 25, pos := "law.go:95", after := #[{ on := 9, ground := Ground.data }, { on := 8, ground := Ground.chain }, { on := 8, ground := Ground.guard }], guard := some (8, true) }) rfl (fun K hK => ?_) ?_
    · go_simp
      first
        | (go_at_call 24; (with_reducible refine (Add_b _ _ _ _ _ _ _ (BigB.ext (by assumption) (by repeat (first | (with_reducible exact Ext.refl _) | (with_reducible apply Ext.drew) | (with_reducible apply Ext.drewN) | (with_reducible refine Ext.trans ?_ (by assumption))))) (BigB.ext (by assumption) (by repeat (first | (with_reducible exact Ext.refl _) | (with_reducible apply Ext.drew) | (with_reducible apply Ext.drewN) | (with_reducible refine Ext.trans ?_ (by assumption))))) (by decide)).mono ?_); rintro e wk ⟨vk, rfl, hbk, hxk⟩; (obtain ⟨pk, Ak, nk, ck, rfl⟩ := hbk.1.shape))
        | (go_at_call 28; (with_reducible refine (Sub_b _ _ _ _ _ _ _ (BigB.ext (by assumption) (by repeat (first | (with_reducible exact Ext.refl _) | (with_reducible apply Ext.drew) | (with_reducible apply Ext.drewN) | (with_reducible refine Ext.trans ?_ (by assumption))))) (BigB.ext (by assumption) (by repeat (first | (with_reducible exact Ext.refl _) | (with_reducible apply Ext.drew) | (with_reducible apply Ext.drewN) | (with_reducible refine Ext.trans ?_ (by assumption))))) (by decide)).mono ?_); rintro e wk ⟨vk, rfl, hbk, hxk⟩; (obtain ⟨pk, Ak, nk, ck, rfl⟩ := hbk.1.shape))
        | (go_at_call 23; (with_reducible refine (Mul_b _ _ _ _ _ _ _ (BigB.ext (by assumption) (by repeat (first | (with_reducible exact Ext.refl _) | (with_reducible apply Ext.drew) | (with_reducible apply Ext.drewN) | (with_reducible refine Ext.trans ?_ (by assumption))))) (BigB.ext (by assumption) (by repeat (first | (with_reducible exact Ext.refl _) | (with_reducible apply Ext.drew) | (with_reducible apply Ext.drewN) | (with_reducible refine Ext.trans ?_ (by assumption))))) (by decide)).mono ?_); rintro e wk ⟨vk, rfl, hbk, hxk⟩; (obtain ⟨pk, Ak, nk, ck, rfl⟩ := hbk.1.shape))
        | (go_at_call 27; (with_reducible refine (Neg_b _ _ _ _ (BigB.ext (by assumption) (by repeat (first | (with_reducible exact Ext.refl _) | (with_reducible apply Ext.drew) | (with_reducible apply Ext.drewN) | (with_reducible refine Ext.trans ?_ (by assumption)))))).mono ?_); rintro e wk ⟨vk, rfl, hbk, hxk⟩; (obtain ⟨pk, Ak, nk, ck, rfl⟩ := hbk.1.shape))
        | (go_at_call 25; (with_reducible refine (abs_b _ _ _ _ (BigB.ext (by assumption) (by repeat (first | (with_reducible exact Ext.refl _) | (with_reducible apply Ext.drew) | (with_reducible apply Ext.drewN) | (with_reducible refine Ext.trans ?_ (by assumption)))))).mono ?_); rintro e wk ⟨vk, rfl, hbk, hxk⟩; (obtain ⟨pk, Ak, nk, ck, rfl⟩ := hbk.1.shape))
        | (go_at_call 20; (with_reducible refine (Cmp_eqb _ _ _ _ _ _ _ (BigB.ext (by assumption) (by repeat (first | (with_reducible exact Ext.refl _) | (with_reducible apply Ext.drew) | (with_reducible apply Ext.drewN) | (with_reducible refine Ext.trans ?_ (by assumption))))) (BigB.ext (by assumption) (by repeat (first | (with_reducible exact Ext.refl _) | (with_reducible apply Ext.drew) | (with_reducible apply Ext.drewN) | (with_reducible refine Ext.trans ?_ (by assumption))))) (by first | exact Int.add_comm _ _ | exact Int.mul_comm _ _ | exact Int.add_assoc _ _ _ | exact Int.mul_assoc _ _ _ | exact Int.mul_add _ _ _ | exact Int.sub_eq_add_neg | assumption | exact rfl)).mono ?_); rintro e wk ⟨rfl, hxk⟩)
        | (go_at_call 20; (with_reducible refine (Cmp_b _ _ _ _ _ _ _ (BigB.ext (by assumption) (by repeat (first | (with_reducible exact Ext.refl _) | (with_reducible apply Ext.drew) | (with_reducible apply Ext.drewN) | (with_reducible refine Ext.trans ?_ (by assumption))))) (BigB.ext (by assumption) (by repeat (first | (with_reducible exact Ext.refl _) | (with_reducible apply Ext.drew) | (with_reducible apply Ext.drewN) | (with_reducible refine Ext.trans ?_ (by assumption)))))).mono ?_); rintro e wk ⟨rfl, hxk⟩)
        | (go_at_call 16; (with_reducible refine (Sign_b _ _ _ _ (BigB.ext (by assumption) (by repeat (first | (with_reducible exact Ext.refl _) | (with_reducible apply Ext.drew) | (with_reducible apply Ext.drewN) | (with_reducible refine Ext.trans ?_ (by assumption)))))).mono ?_); rintro e wk ⟨rfl, hxk⟩)
        | (go_at_call 35; (with_reducible refine (Gcd_b _ _ _ _ _ _ _ (BigB.ext (by assumption) (by repeat (first | (with_reducible exact Ext.refl _) | (with_reducible apply Ext.drew) | (with_reducible apply Ext.drewN) | (with_reducible refine Ext.trans ?_ (by assumption))))) (BigB.ext (by assumption) (by repeat (first | (with_reducible exact Ext.refl _) | (with_reducible apply Ext.drew) | (with_reducible apply Ext.drewN) | (with_reducible refine Ext.trans ?_ (by assumption))))) (by decide)).mono ?_); rintro e wk ⟨vk, rfl, hbk, hxk⟩; (obtain ⟨pk, Ak, nk, ck, rfl⟩ := hbk.1.shape))
        | (go_at_call 18; (with_reducible refine (Of_b _ _ (by first | assumption | decide) (by first | assumption | decide)).mono ?_); rintro e wk ⟨vk, rfl, hbk, hxk⟩; (obtain ⟨pk, Ak, nk, ck, rfl⟩ := hbk.1.shape))
      try (go_wp2_with fail)
      refine hK.out _ _ ?_ (fun hHeld => ?_)
      · (try dsimp only); (repeat (first | assumption | apply Later.drew | apply Later.drewN | apply Later.alloc | (refine Later.step ?_ (by assumption))))
      clear hK K
      try simp only [Act.put, List.setIfInBounds_toArray, List.set_cons_zero, List.set_cons_succ]
      refine wpAnyH_ready (rs := [12]) (by kernel_rfl) (by simp) ?_
      refine AllReadyH.cons (o := { dst := some 82, op := Op.call { callee := Callee.value (Operand.func 20), args := #[Operand.tmp 80, Operand.tmp 81], argTypes := #[25, 25] }, type := 3, pos := "law.go:95", after := #[{ on := 10, ground := Ground.data }, { on := 11, ground := Ground.data }, { on := 10, ground := Ground.chain }, { on := 8, ground := Ground.guard }], guard := some (8, true) }) rfl (fun K hK => ?_) ?_
      · go_simp
        first
          | (go_at_call 24; (with_reducible refine (Add_b _ _ _ _ _ _ _ (BigB.ext (by assumption) (by repeat (first | (with_reducible exact Ext.refl _) | (with_reducible apply Ext.drew) | (with_reducible apply Ext.drewN) | (with_reducible refine Ext.trans ?_ (by assumption))))) (BigB.ext (by assumption) (by repeat (first | (with_reducible exact Ext.refl _) | (with_reducible apply Ext.drew) | (with_reducible apply Ext.drewN) | (with_reducible refine Ext.trans ?_ (by assumption))))) (by decide)).mono ?_); rintro e wk ⟨vk, rfl, hbk, hxk⟩; (obtain ⟨pk, Ak, nk, ck, rfl⟩ := hbk.1.shape))
          | (go_at_call 28; (with_reducible refine (Sub_b _ _ _ _ _ _ _ (BigB.ext (by assumption) (by repeat (first | (with_reducible exact Ext.refl _) | (with_reducible apply Ext.drew) | (with_reducible apply Ext.drewN) | (with_reducible refine Ext.trans ?_ (by assumption))))) (BigB.ext (by assumption) (by repeat (first | (with_reducible exact Ext.refl _) | (with_reducible apply Ext.drew) | (with_reducible apply Ext.drewN) | (with_reducible refine Ext.trans ?_ (by assumption))))) (by decide)).mono ?_); rintro e wk ⟨vk, rfl, hbk, hxk⟩; (obtain ⟨pk, Ak, nk, ck, rfl⟩ := hbk.1.shape))
          | (go_at_call 23; (with_reducible refine (Mul_b _ _ _ _ _ _ _ (BigB.ext (by assumption) (by repeat (first | (with_reducible exact Ext.refl _) | (with_reducible apply Ext.drew) | (with_reducible apply Ext.drewN) | (with_reducible refine Ext.trans ?_ (by assumption))))) (BigB.ext (by assumption) (by repeat (first | (with_reducible exact Ext.refl _) | (with_reducible apply Ext.drew) | (with_reducible apply Ext.drewN) | (with_reducible refine Ext.trans ?_ (by assumption))))) (by decide)).mono ?_); rintro e wk ⟨vk, rfl, hbk, hxk⟩; (obtain ⟨pk, Ak, nk, ck, rfl⟩ := hbk.1.shape))
          | (go_at_call 27; (with_reducible refine (Neg_b _ _ _ _ (BigB.ext (by assumption) (by repeat (first | (with_reducible exact Ext.refl _) | (with_reducible apply Ext.drew) | (with_reducible apply Ext.drewN) | (with_reducible refine Ext.trans ?_ (by assumption)))))).mono ?_); rintro e wk ⟨vk, rfl, hbk, hxk⟩; (obtain ⟨pk, Ak, nk, ck, rfl⟩ := hbk.1.shape))
          | (go_at_call 25; (with_reducible refine (abs_b _ _ _ _ (BigB.ext (by assumption) (by repeat (first | (with_reducible exact Ext.refl _) | (with_reducible apply Ext.drew) | (with_reducible apply Ext.drewN) | (with_reducible refine Ext.trans ?_ (by assumption)))))).mono ?_); rintro e wk ⟨vk, rfl, hbk, hxk⟩; (obtain ⟨pk, Ak, nk, ck, rfl⟩ := hbk.1.shape))
          | (go_at_call 20; (with_reducible refine (Cmp_eqb _ _ _ _ _ _ _ (BigB.ext (by assumption) (by repeat (first | (with_reducible exact Ext.refl _) | (with_reducible apply Ext.drew) | (with_reducible apply Ext.drewN) | (with_reducible refine Ext.trans ?_ (by assumption))))) (BigB.ext (by assumption) (by repeat (first | (with_reducible exact Ext.refl _) | (with_reducible apply Ext.drew) | (with_reducible apply Ext.drewN) | (with_reducible refine Ext.trans ?_ (by assumption))))) (by first | exact Int.add_comm _ _ | exact Int.mul_comm _ _ | exact Int.add_assoc _ _ _ | exact Int.mul_assoc _ _ _ | exact Int.mul_add _ _ _ | exact Int.sub_eq_add_neg | assumption | exact rfl)).mono ?_); rintro e wk ⟨rfl, hxk⟩)
          | (go_at_call 20; (with_reducible refine (Cmp_b _ _ _ _ _ _ _ (BigB.ext (by assumption) (by repeat (first | (with_reducible exact Ext.refl _) | (with_reducible apply Ext.drew) | (with_reducible apply Ext.drewN) | (with_reducible refine Ext.trans ?_ (by assumption))))) (BigB.ext (by assumption) (by repeat (first | (with_reducible exact Ext.refl _) | (with_reducible apply Ext.drew) | (with_reducible apply Ext.drewN) | (with_reducible refine Ext.trans ?_ (by assumption)))))).mono ?_); rintro e wk ⟨rfl, hxk⟩)
          | (go_at_call 16; (with_reducible refine (Sign_b _ _ _ _ (BigB.ext (by assumption) (by repeat (first | (with_reducible exact Ext.refl _) | (with_reducible apply Ext.drew) | (with_reducible apply Ext.drewN) | (with_reducible refine Ext.trans ?_ (by assumption)))))).mono ?_); rintro e wk ⟨rfl, hxk⟩)
          | (go_at_call 35; (with_reducible refine (Gcd_b _ _ _ _ _ _ _ (BigB.ext (by assumption) (by repeat (first | (with_reducible exact Ext.refl _) | (with_reducible apply Ext.drew) | (with_reducible apply Ext.drewN) | (with_reducible refine Ext.trans ?_ (by assumption))))) (BigB.ext (by assumption) (by repeat (first | (with_reducible exact Ext.refl _) | (with_reducible apply Ext.drew) | (with_reducible apply Ext.drewN) | (with_reducible refine Ext.trans ?_ (by assumption))))) (by decide)).mono ?_); rintro e wk ⟨vk, rfl, hbk, hxk⟩; (obtain ⟨pk, Ak, nk, ck, rfl⟩ := hbk.1.shape))
          | (go_at_call 18; (with_reducible refine (Of_b _ _ (by first | assumption | decide) (by first | assumption | decide)).mono ?_); rintro e wk ⟨vk, rfl, hbk, hxk⟩; (obtain ⟨pk, Ak, nk, ck, rfl⟩ := hbk.1.shape))
        try (go_wp2_with fail)
        refine hK.out _ _ ?_ (fun hHeld => ?_)
        · (try dsimp only); (repeat (first | assumption | apply Later.drew | apply Later.drewN | apply Later.alloc | (refine Later.step ?_ (by assumption))))
        clear hK K
        try simp only [Act.put, List.setIfInBounds_toArray, List.set_cons_zero, List.set_cons_succ]
        refine wpAnyH_take (i := 13) (oi := { dst := some 83, op := Op.binOp BinOp.eql 3 (Operand.tmp 82) (Operand.const (Value.int IntKind.i64 0)) 3, type := 4, pos := "law.go:95", after := #[{ on := 12, ground := Ground.data }, { on := 8, ground := Ground.guard }], guard := some (8, true) }) (v := ?_) rfl (by kernel_rfl) (by kernel_rfl) (by kernel_rfl) (fun _ _ _ h => h) (Or.inl ⟨by rfl, ?_⟩) (by assumption) ?_
        rotate_left
        · intro w hSw; (try dsimp only at hSw); go_simp; try (with_reducible rfl)
        try simp only [Act.put, List.setIfInBounds_toArray, List.set_cons_zero, List.set_cons_succ]
        refine wpAnyH_take (i := 14) (oi := { dst := some 84, op := Op.pick (Operand.tmp 78) (Operand.tmp 83) (Operand.const (Value.bool false)), type := 4, pos := "law.go:95", after := #[{ on := 8, ground := Ground.data }, { on := 13, ground := Ground.data }, { on := 6, ground := Ground.guard }], guard := some (6, false) }) (v := ?_) rfl (by kernel_rfl) (by kernel_rfl) (by kernel_rfl) (fun _ _ _ h => h) (Or.inl ⟨by rfl, ?_⟩) (by assumption) ?_
        rotate_left
        · intro w hSw; (try dsimp only at hSw); go_simp; try (with_reducible rfl)
        try simp only [Act.put, List.setIfInBounds_toArray, List.set_cons_zero, List.set_cons_succ]
        refine wpAnyH_take (i := 15) (oi := { dst := some 85, op := Op.pick (Operand.tmp 76) (Operand.const (Value.bool true)) (Operand.tmp 84), type := 4, pos := "law.go:95", after := #[{ on := 6, ground := Ground.data }, { on := 14, ground := Ground.data }], guard := none }) (v := ?_) rfl (by kernel_rfl) (by kernel_rfl) (by kernel_rfl) (fun _ _ _ h => h) (Or.inl ⟨by rfl, ?_⟩) (by assumption) ?_
        rotate_left
        · intro w hSw; (try dsimp only at hSw); go_simp; try (with_reducible rfl)
        try simp only [Act.put, List.setIfInBounds_toArray, List.set_cons_zero, List.set_cons_succ]
        refine wpAnyH_take (i := 16) (oi := { dst := some 4, op := Op.assign (Operand.tmp 85), type := 4, pos := "law.go:95", after := #[{ on := 15, ground := Ground.data }, { on := 12, ground := Ground.chain }, { on := 0, ground := Ground.phase }, { on := 1, ground := Ground.phase }, { on := 2, ground := Ground.phase }, { on := 3, ground := Ground.phase }, { on := 4, ground := Ground.phase }, { on := 5, ground := Ground.phase }, { on := 6, ground := Ground.phase }, { on := 7, ground := Ground.phase }, { on := 8, ground := Ground.phase }, { on := 9, ground := Ground.phase }, { on := 10, ground := Ground.phase }, { on := 11, ground := Ground.phase }, { on := 12, ground := Ground.phase }, { on := 13, ground := Ground.phase }, { on := 14, ground := Ground.phase }, { on := 15, ground := Ground.phase }], guard := none }) (v := ?_) rfl (by kernel_rfl) (by kernel_rfl) (by kernel_rfl) (fun _ _ _ h => h) (Or.inl ⟨by rfl, ?_⟩) (by assumption) ?_
        rotate_left
        · intro w hSw; (try dsimp only at hSw); go_simp; try (with_reducible rfl)
        try simp only [Act.put, List.setIfInBounds_toArray, List.set_cons_zero, List.set_cons_succ]
        refine wpAnyH_done (by kernel_rfl) ?_ _
        go_wp2_with fail
        go_ret
        exact ⟨rfl, hE8.trans (show Later W9 _ by first | assumption | (apply Later.drew; assumption) | (apply Later.drewN; assumption))⟩
      exact AllReadyH.nil
    exact AllReadyH.nil
end Go.Proofs.YtnojllmidpdbcaaDoor.Big

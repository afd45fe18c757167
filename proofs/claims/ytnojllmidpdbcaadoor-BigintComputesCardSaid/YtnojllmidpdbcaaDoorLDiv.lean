/- Walk: the law BigintDivides. -/
import Derived.Test.YtnojllmidpdbcaaDoorQ3
set_option linter.unusedVariables false
set_option linter.unusedSimpArgs false
namespace Go.Proofs.YtnojllmidpdbcaaDoor.Big
open Go.RowKit

theorem tdiv_bound {k : Nat} {x : Int} (y : Int) (b : B k x) : B k (x.tdiv y) := by
  unfold B at *; rw [Int.natAbs_tdiv]; exact Nat.lt_of_le_of_lt (Nat.div_le_self _ _) b
theorem tmod_bound {k : Nat} {x : Int} (y : Int) (b : B k x) : B k (x.tmod y) := by
  unfold B at *; rw [Int.natAbs_tmod]; exact Nat.lt_of_le_of_lt (Nat.mod_le _ _) b
theorem tmod_sign {x y : Int} (h : x.tmod y ≠ 0) : (x.tmod y).sign = x.sign := by
  have h0 : (x.tmod y).natAbs = x.natAbs % y.natAbs := Int.natAbs_tmod ..
  have h1 := Nat.mod_le x.natAbs y.natAbs
  generalize x.natAbs % y.natAbs = m at h0 h1
  rcases Int.lt_trichotomy x 0 with hx | hx | hx
  · have h2 : x.tmod y ≤ 0 := by
      have := Int.tmod_nonneg (a := -x) y (by omega)
      rw [Int.neg_tmod] at this
      omega
    rw [Int.sign_eq_neg_one_of_neg hx, Int.sign_eq_neg_one_of_neg (by omega)]
  · omega
  · have h2 : 0 ≤ x.tmod y := Int.tmod_nonneg y (by omega)
    rw [Int.sign_eq_one_of_pos hx, Int.sign_eq_one_of_pos (by omega)]
theorem tmod_lt' {x y : Int} (h : y ≠ 0) : cmpZ ((x.tmod y).natAbs : Nat) (y.natAbs : Nat) = -1 := by
  have h0 : (x.tmod y).natAbs = x.natAbs % y.natAbs := Int.natAbs_tmod ..
  have h1 := Nat.mod_lt x.natAbs (show 0 < y.natAbs by omega)
  unfold cmpZ
  rw [if_pos (by omega)]

set_option maxRecDepth 100000 in
set_option maxHeartbeats 8000000 in
theorem divides_any (s t : ByteArray) (w : World) (htab : TabOK w) :
    Calls Tryd.prog 5 #[.string s, .string t] w (fun e w' => e = .returned (.bool true) ∧ Ext w w') := by
  go_enter Tryd.func5, Tryd.ntmps5
  go_wp2_with fail
  refine (awake_any _ htab).mono ?_
  rintro e w1 ⟨rfl, hx1⟩
  go_wp2_with fail
  refine (two_any s t _).mono ?_
  rintro e w2 ⟨v2, v3, X, Y, rfl, hX0, hY0, hXY, hx2⟩
  obtain ⟨p2, A2, k2, c2, rfl⟩ := hX0.shape
  obtain ⟨p3, A3, k3, c3, rfl⟩ := hY0.shape
  obtain ⟨o1, ho1⟩ : ∃ o, o = (okT s && okT t) := ⟨_, rfl⟩
  rw [← ho1]
  have HXY := Lib.hid hXY
  have HO1 := Lib.hid ho1
  clear hXY ho1
  go_upto_region 4 with fail
  obtain ⟨B7, B8, hE⟩ := boxes2 w2 25 #[.bool p2, .slice A2 k2 c2] #[.bool p3, .slice A3 k3 c3]
  have hX := hX0.ext hE
  have hY := hY0.ext hE
  have hE0 := (hx1.trans hx2).trans hE
  generalize ((w2.alloc (.cells #[.bool p2, .slice A2 k2 c2] 25)).alloc (.cells #[.bool p3, .slice A3 k3 c3] 25)) = W at *
  clear hE hx1 hx2 hX0 hY0
  have k70 : ∀ w', Ext W w' → w'.cell? ⟨w2.heap.size, 0, none⟩ = some (.bool p2) := fun w' h => (B7.ext h).c0
  have k71 : ∀ w', Ext W w' → w'.cell? ⟨w2.heap.size, 1, none⟩ = some (.slice A2 k2 c2) := fun w' h => (B7.ext h).c1
  have k80 : ∀ w', Ext W w' → w'.cell? ⟨w2.heap.size + 1, 0, none⟩ = some (.bool p3) := fun w' h => (B8.ext h).c0
  have k81 : ∀ w', Ext W w' → w'.cell? ⟨w2.heap.size + 1, 1, none⟩ = some (.slice A3 k3 c3) := fun w' h => (B8.ext h).c1
  have hS0 := Ext.refl W
  cases o1
  case false =>
    go_wp2_with fail
    go_ret
    exact ⟨rfl, hE0⟩
  have hos := HO1.out
  simp only [Bool.true_eq, Bool.and_eq_true] at hos
  have bX : B 80 X := by rw [(HXY.out hos.1 hos.2).1]; exact parse_bound hos.1
  have bY : B 80 Y := by rw [(HXY.out hos.1 hos.2).2]; exact parse_bound hos.2
  clear hos HXY HO1
  go_wp2_with fail
  refine (Sign_any _ _ _ (hY.ext hS0)).mono ?_
  rintro e w3 ⟨rfl, hx3⟩
  have hS3 := hS0.trans hx3
  by_cases hy : Y = 0
  · have e1 : (Y.sign == 0) = true := by rw [hy]; rfl
    clear hy
    go_wp2_with fail
    go_ret
    exact ⟨rfl, hE0.trans hS3⟩
  have e1 : (Y.sign == 0) = false := by simpa using hy
  obtain ⟨sy, hsy⟩ : ∃ sy, sy = Y.sign := ⟨_, rfl⟩
  rw [← hsy] at e1 ⊢
  have HY := Lib.hid hy
  clear hy hsy
  go_wp2_with fail
  refine (Div_any _ _ X Y 80 _ (hX.ext hS3) (hY.ext hS3) bX (by decide) HY.out).mono ?_
  rintro e w4 ⟨q, r, rfl, hq, hr, hx4⟩
  have hS4 := hS3.trans hx4
  obtain ⟨pq, Aq, nq, cq, rfl⟩ := hq.shape
  obtain ⟨pr, Ar, nr, cr, rfl⟩ := hr.shape
  have bQ := tdiv_bound Y bX
  have bR := tmod_bound Y bX
  have hQR : X.tdiv Y * Y + X.tmod Y = X := by rw [Int.mul_comm]; exact Int.mul_tdiv_add_tmod X Y
  have hlt := tmod_lt' (x := X) HY.out
  have hsg := fun h => tmod_sign (x := X) (y := Y) h
  generalize X.tdiv Y = Q at *
  generalize X.tmod Y = R at *
  have HQR := Lib.hid hQR
  clear hQR
  go_upto_region 7 with fail
  obtain ⟨B5, Bq, Br, hE⟩ := boxes2' w4 25 #[.bool pq, .slice Aq nq cq] #[.bool pr, .slice Ar nr cr] (B7.ext hS4)
  have B6 := (B8.ext hS4).ext hE
  have hq := hq.ext hE
  have hr := hr.ext hE
  have hX := (hX.ext hS4).ext hE
  have hY := (hY.ext hS4).ext hE
  have hE1 := (hE0.trans hS4).trans hE
  clear k70 k71 k80 k81 B7 B8 hS0 hS3 hS4 hx3 hx4 hE0 hE
  generalize ((w4.alloc (.cells #[.bool pq, .slice Aq nq cq] 25)).alloc (.cells #[.bool pr, .slice Ar nr cr] 25)) = V at *
  have k50 : ∀ w', Later V w' → w'.cell? ⟨w2.heap.size, 0, none⟩ = some (.bool p2) := fun w' h => (B5.ext h).c0
  have k51 : ∀ w', Later V w' → w'.cell? ⟨w2.heap.size, 1, none⟩ = some (.slice A2 k2 c2) := fun w' h => (B5.ext h).c1
  have k60 : ∀ w', Later V w' → w'.cell? ⟨w2.heap.size + 1, 0, none⟩ = some (.bool p3) := fun w' h => (B6.ext h).c0
  have k61 : ∀ w', Later V w' → w'.cell? ⟨w2.heap.size + 1, 1, none⟩ = some (.slice A3 k3 c3) := fun w' h => (B6.ext h).c1
  have k80 : ∀ w', Later V w' → w'.cell? ⟨w4.heap.size, 0, none⟩ = some (.bool pq) := fun w' h => (Bq.ext h).c0
  have k81 : ∀ w', Later V w' → w'.cell? ⟨w4.heap.size, 1, none⟩ = some (.slice Aq nq cq) := fun w' h => (Bq.ext h).c1
  have k90 : ∀ w', Later V w' → w'.cell? ⟨w4.heap.size + 1, 0, none⟩ = some (.bool pr) := fun w' h => (Br.ext h).c0
  have k91 : ∀ w', Later V w' → w'.cell? ⟨w4.heap.size + 1, 1, none⟩ = some (.slice Ar nr cr) := fun w' h => (Br.ext h).c1
  have ks := Later.refl V
  have hXX : BigB V _ X 80 := ⟨hX, bX⟩
  have hYY : BigB V _ Y 80 := ⟨hY, bY⟩
  have hQQ : BigB V _ Q 80 := ⟨hq, bQ⟩
  have hRR : BigB V _ R 80 := ⟨hr, bR⟩
  have hcase : R.sign = 0 ∨ ∃ sg, (sg == 0) = false ∧ R.sign = sg ∧ X.sign = sg := by
    by_cases h : R = 0
    · left; rw [h]; rfl
    · right
      refine ⟨X.sign, ?_, hsg h, rfl⟩
      have := hsg h
      rw [← this]; simpa using h
  have hQR := HQR.out
  clear hsg B5 B6 Bq Br hX hY hq hr bX bY bQ bR HY
  rcases hcase with h1 | ⟨sg, h1, h2, h3⟩
  · skip
    refine wp_region_held_drew (S := fun w' => Later V w') (by kernel_rfl) ?_ (fun hHeld => ?_)
    · (try dsimp only); (repeat (first | assumption | apply Later.drew | apply Later.drewN | apply Later.alloc | (refine Later.step ?_ (by assumption))))
    refine wpAnyH_take (i := 0) (oi := { dst := some 34, op := Op.move (Operand.tmp 10), type := 26, pos := "law.go:143", after := #[], guard := none }) (v := ?_) rfl (by kernel_rfl) (by kernel_rfl) (by kernel_rfl) (fun _ _ _ h => h) (Or.inl ⟨by rfl, ?_⟩) (by assumption) ?_
    rotate_left
    · intro w hSw; (try dsimp only at hSw); go_simp; try (with_reducible rfl)
    try simp only [Act.put, List.setIfInBounds_toArray, List.set_cons_zero, List.set_cons_succ]
    refine wpAnyH_take (i := 1) (oi := { dst := some 35, op := Op.binOp BinOp.eql 26 (Operand.tmp 34) (Operand.const (Value.int IntKind.i64 0)) 26, type := 4, pos := "law.go:143", after := #[{ on := 0, ground := Ground.data }], guard := none }) (v := ?_) rfl (by kernel_rfl) (by kernel_rfl) (by kernel_rfl) (fun _ _ _ h => h) (Or.inl ⟨by rfl, ?_⟩) (by assumption) ?_
    rotate_left
    · intro w hSw; (try dsimp only at hSw); go_simp; try (with_reducible rfl)
    try simp only [Act.put, List.setIfInBounds_toArray, List.set_cons_zero, List.set_cons_succ]
    refine wpAnyH_take (i := 2) (oi := { dst := some 36, op := Op.move (Operand.tmp 35), type := 4, pos := "law.go:143", after := #[{ on := 1, ground := Ground.data }], guard := none }) (v := ?_) rfl (by kernel_rfl) (by kernel_rfl) (by kernel_rfl) (fun _ _ _ h => h) (Or.inl ⟨by rfl, ?_⟩) (by assumption) ?_
    rotate_left
    · intro w hSw; (try dsimp only at hSw); go_simp; try (with_reducible rfl)
    try simp only [Act.put, List.setIfInBounds_toArray, List.set_cons_zero, List.set_cons_succ]
    refine wpAnyH_take (i := 3) (oi := { dst := some 37, op := Op.load 25 (Operand.tmp 8), type := 25, pos := "law.go:143", after := #[{ on := 2, ground := Ground.guard }], guard := some (2, true) }) (v := ?_) rfl (by kernel_rfl) (by kernel_rfl) (by kernel_rfl) (fun _ _ _ h => h) (Or.inl ⟨by rfl, ?_⟩) (by assumption) ?_
    rotate_left
    · intro w hSw; (try dsimp only at hSw); go_simp; try (with_reducible rfl)
    try simp only [Act.put, List.setIfInBounds_toArray, List.set_cons_zero, List.set_cons_succ]
    refine wpAnyH_take (i := 4) (oi := { dst := some 38, op := Op.load 25 (Operand.tmp 6), type := 25, pos := "law.go:143", after := #[{ on := 2, ground := Ground.guard }], guard := some (2, true) }) (v := ?_) rfl (by kernel_rfl) (by kernel_rfl) (by kernel_rfl) (fun _ _ _ h => h) (Or.inl ⟨by rfl, ?_⟩) (by assumption) ?_
    rotate_left
    · intro w hSw; (try dsimp only at hSw); go_simp; try (with_reducible rfl)
    try simp only [Act.put, List.setIfInBounds_toArray, List.set_cons_zero, List.set_cons_succ]
    refine wpAnyH_take (i := 6) (oi := { dst := some 40, op := Op.load 25 (Operand.tmp 9), type := 25, pos := "law.go:143", after := #[{ on := 2, ground := Ground.guard }], guard := some (2, true) }) (v := ?_) rfl (by kernel_rfl) (by kernel_rfl) (by kernel_rfl) (fun _ _ _ h => h) (Or.inl ⟨by rfl, ?_⟩) (by assumption) ?_
    rotate_left
    · intro w hSw; (try dsimp only at hSw); go_simp; try (with_reducible rfl)
    try simp only [Act.put, List.setIfInBounds_toArray, List.set_cons_zero, List.set_cons_succ]
    refine wpAnyH_take (i := 8) (oi := { dst := some 42, op := Op.load 25 (Operand.tmp 5), type := 25, pos := "law.go:143", after := #[{ on := 2, ground := Ground.guard }], guard := some (2, true) }) (v := ?_) rfl (by kernel_rfl) (by kernel_rfl) (by kernel_rfl) (fun _ _ _ h => h) (Or.inl ⟨by rfl, ?_⟩) (by assumption) ?_
    rotate_left
    · intro w hSw; (try dsimp only at hSw); go_simp; try (with_reducible rfl)
    try simp only [Act.put, List.setIfInBounds_toArray, List.set_cons_zero, List.set_cons_succ]
    refine wpAnyH_ready (rs := [5]) (by kernel_rfl) (by simp) ?_
    refine AllReadyH.cons (o := { dst := some 39, op := Op.call { callee := Callee.value (Operand.func 23), args := #[Operand.tmp 37, Operand.tmp 38], argTypes := #[25, 25] }, type := 25, pos := "law.go:143", after := #[{ on := 3, ground := Ground.data }, { on := 4, ground := Ground.data }, { on := 2, ground := Ground.chain }, { on := 2, ground := Ground.guard }], guard := some (2, true) }) rfl (fun K hK => ?_) ?_
    · go_simp
      first
        | (go_at_call 24; (with_reducible refine (Add_b _ _ _ _ _ _ _ (BigB.ext (by assumption) (by repeat (first | (with_reducible exact Ext.refl _) | (with_reducible apply Ext.drew) | (with_reducible apply Ext.drewN) | (with_reducible refine Ext.trans ?_ (by assumption))))) (BigB.ext (by assumption) (by repeat (first | (with_reducible exact Ext.refl _) | (with_reducible apply Ext.drew) | (with_reducible apply Ext.drewN) | (with_reducible refine Ext.trans ?_ (by assumption))))) (by decide)).mono ?_); rintro e wk ⟨vk, rfl, hbk, hxk⟩; (obtain ⟨pk, Ak, nk, ck, rfl⟩ := hbk.1.shape))
        | (go_at_call 28; (with_reducible refine (Sub_b _ _ _ _ _ _ _ (BigB.ext (by assumption) (by repeat (first | (with_reducible exact Ext.refl _) | (with_reducible apply Ext.drew) | (with_reducible apply Ext.drewN) | (with_reducible refine Ext.trans ?_ (by assumption))))) (BigB.ext (by assumption) (by repeat (first | (with_reducible exact Ext.refl _) | (with_reducible apply Ext.drew) | (with_reducible apply Ext.drewN) | (with_reducible refine Ext.trans ?_ (by assumption))))) (by decide)).mono ?_); rintro e wk ⟨vk, rfl, hbk, hxk⟩; (obtain ⟨pk, Ak, nk, ck, rfl⟩ := hbk.1.shape))
        | (go_at_call 23; (with_reducible refine (Mul_b _ _ _ _ _ _ _ (BigB.ext (by assumption) (by repeat (first | (with_reducible exact Ext.refl _) | (with_reducible apply Ext.drew) | (with_reducible apply Ext.drewN) | (with_reducible refine Ext.trans ?_ (by assumption))))) (BigB.ext (by assumption) (by repeat (first | (with_reducible exact Ext.refl _) | (with_reducible apply Ext.drew) | (with_reducible apply Ext.drewN) | (with_reducible refine Ext.trans ?_ (by assumption))))) (by decide)).mono ?_); rintro e wk ⟨vk, rfl, hbk, hxk⟩; (obtain ⟨pk, Ak, nk, ck, rfl⟩ := hbk.1.shape))
        | (go_at_call 27; (with_reducible refine (Neg_b _ _ _ _ (BigB.ext (by assumption) (by repeat (first | (with_reducible exact Ext.refl _) | (with_reducible apply Ext.drew) | (with_reducible apply Ext.drewN) | (with_reducible refine Ext.trans ?_ (by assumption)))))).mono ?_); rintro e wk ⟨vk, rfl, hbk, hxk⟩; (obtain ⟨pk, Ak, nk, ck, rfl⟩ := hbk.1.shape))
        | (go_at_call 25; (with_reducible refine (abs_b _ _ _ _ (BigB.ext (by assumption) (by repeat (first | (with_reducible exact Ext.refl _) | (with_reducible apply Ext.drew) | (with_reducible apply Ext.drewN) | (with_reducible refine Ext.trans ?_ (by assumption)))))).mono ?_); rintro e wk ⟨vk, rfl, hbk, hxk⟩; (obtain ⟨pk, Ak, nk, ck, rfl⟩ := hbk.1.shape))
        | (go_at_call 20; (with_reducible refine (Cmp_eqb _ _ _ _ _ _ _ (BigB.ext (by assumption) (by repeat (first | (with_reducible exact Ext.refl _) | (with_reducible apply Ext.drew) | (with_reducible apply Ext.drewN) | (with_reducible refine Ext.trans ?_ (by assumption))))) (BigB.ext (by assumption) (by repeat (first | (with_reducible exact Ext.refl _) | (with_reducible apply Ext.drew) | (with_reducible apply Ext.drewN) | (with_reducible refine Ext.trans ?_ (by assumption))))) (by first | exact Int.add_comm _ _ | exact Int.mul_comm _ _ | exact Int.add_assoc _ _ _ | exact Int.mul_assoc _ _ _ | exact Int.mul_add _ _ _ | exact Int.sub_eq_add_neg | assumption | exact rfl)).mono ?_); rintro e wk ⟨rfl, hxk⟩)
        | (go_at_call 20; (with_reducible refine (Cmp_b _ _ _ _ _ _ _ (BigB.ext (by assumption) (by repeat (first | (with_reducible exact Ext.refl _) | (with_reducible apply Ext.drew) | (with_reducible apply Ext.drewN) | (with_reducible refine Ext.trans ?_ (by assumption))))) (BigB.ext (by assumption) (by repeat (first | (with_reducible exact Ext.refl _) | (with_reducible apply Ext.drew) | (with_reducible apply Ext.drewN) | (with_reducible refine Ext.trans ?_ (by assumption)))))).mono ?_); rintro e wk ⟨rfl, hxk⟩)
        | (go_at_call 16; (with_reducible refine (Sign_b _ _ _ _ (BigB.ext (by assumption) (by repeat (first | (with_reducible exact Ext.refl _) | (with_reducible apply Ext.drew) | (with_reducible apply Ext.drewN) | (with_reducible refine Ext.trans ?_ (by assumption)))))).mono ?_); rintro e wk ⟨rfl, hxk⟩)
      try (go_wp2_with fail)
      refine hK.out _ _ ?_ (fun hHeld => ?_)
      · (try dsimp only); (repeat (first | assumption | apply Later.drew | apply Later.drewN | apply Later.alloc | (refine Later.step ?_ (by assumption))))
      clear hK K
      try simp only [Act.put, List.setIfInBounds_toArray, List.set_cons_zero, List.set_cons_succ]
      refine wpAnyH_ready (rs := [7]) (by kernel_rfl) (by simp) ?_
      refine AllReadyH.cons (o := { dst := some 41, op := Op.call { callee := Callee.value (Operand.func 24), args := #[Operand.tmp 39, Operand.tmp 40], argTypes := #[25, 25] }, type := 25, pos := "law.go:143", after := #[{ on := 5, ground := Ground.data }, { on := 6, ground := Ground.data }, { on := 5, ground := Ground.chain }, { on := 2, ground := Ground.guard }], guard := some (2, true) }) rfl (fun K hK => ?_) ?_
      · go_simp
        first
          | (go_at_call 24; (with_reducible refine (Add_b _ _ _ _ _ _ _ (BigB.ext (by assumption) (by repeat (first | (with_reducible exact Ext.refl _) | (with_reducible apply Ext.drew) | (with_reducible apply Ext.drewN) | (with_reducible refine Ext.trans ?_ (by assumption))))) (BigB.ext (by assumption) (by repeat (first | (with_reducible exact Ext.refl _) | (with_reducible apply Ext.drew) | (with_reducible apply Ext.drewN) | (with_reducible refine Ext.trans ?_ (by assumption))))) (by decide)).mono ?_); rintro e wk ⟨vk, rfl, hbk, hxk⟩; (obtain ⟨pk, Ak, nk, ck, rfl⟩ := hbk.1.shape))
          | (go_at_call 28; (with_reducible refine (Sub_b _ _ _ _ _ _ _ (BigB.ext (by assumption) (by repeat (first | (with_reducible exact Ext.refl _) | (with_reducible apply Ext.drew) | (with_reducible apply Ext.drewN) | (with_reducible refine Ext.trans ?_ (by assumption))))) (BigB.ext (by assumption) (by repeat (first | (with_reducible exact Ext.refl _) | (with_reducible apply Ext.drew) | (with_reducible apply Ext.drewN) | (with_reducible refine Ext.trans ?_ (by assumption))))) (by decide)).mono ?_); rintro e wk ⟨vk, rfl, hbk, hxk⟩; (obtain ⟨pk, Ak, nk, ck, rfl⟩ := hbk.1.shape))
          | (go_at_call 23; (with_reducible refine (Mul_b _ _ _ _ _ _ _ (BigB.ext (by assumption) (by repeat (first | (with_reducible exact Ext.refl _) | (with_reducible apply Ext.drew) | (with_reducible apply Ext.drewN) | (with_reducible refine Ext.trans ?_ (by assumption))))) (BigB.ext (by assumption) (by repeat (first | (with_reducible exact Ext.refl _) | (with_reducible apply Ext.drew) | (with_reducible apply Ext.drewN) | (with_reducible refine Ext.trans ?_ (by assumption))))) (by decide)).mono ?_); rintro e wk ⟨vk, rfl, hbk, hxk⟩; (obtain ⟨pk, Ak, nk, ck, rfl⟩ := hbk.1.shape))
          | (go_at_call 27; (with_reducible refine (Neg_b _ _ _ _ (BigB.ext (by assumption) (by repeat (first | (with_reducible exact Ext.refl _) | (with_reducible apply Ext.drew) | (with_reducible apply Ext.drewN) | (with_reducible refine Ext.trans ?_ (by assumption)))))).mono ?_); rintro e wk ⟨vk, rfl, hbk, hxk⟩; (obtain ⟨pk, Ak, nk, ck, rfl⟩ := hbk.1.shape))
          | (go_at_call 25; (with_reducible refine (abs_b _ _ _ _ (BigB.ext (by assumption) (by repeat (first | (with_reducible exact Ext.refl _) | (with_reducible apply Ext.drew) | (with_reducible apply Ext.drewN) | (with_reducible refine Ext.trans ?_ (by assumption)))))).mono ?_); rintro e wk ⟨vk, rfl, hbk, hxk⟩; (obtain ⟨pk, Ak, nk, ck, rfl⟩ := hbk.1.shape))
          | (go_at_call 20; (with_reducible refine (Cmp_eqb _ _ _ _ _ _ _ (BigB.ext (by assumption) (by repeat (first | (with_reducible exact Ext.refl _) | (with_reducible apply Ext.drew) | (with_reducible apply Ext.drewN) | (with_reducible refine Ext.trans ?_ (by assumption))))) (BigB.ext (by assumption) (by repeat (first | (with_reducible exact Ext.refl _) | (with_reducible apply Ext.drew) | (with_reducible apply Ext.drewN) | (with_reducible refine Ext.trans ?_ (by assumption))))) (by first | exact Int.add_comm _ _ | exact Int.mul_comm _ _ | exact Int.add_assoc _ _ _ | exact Int.mul_assoc _ _ _ | exact Int.mul_add _ _ _ | exact Int.sub_eq_add_neg | assumption | exact rfl)).mono ?_); rintro e wk ⟨rfl, hxk⟩)
          | (go_at_call 20; (with_reducible refine (Cmp_b _ _ _ _ _ _ _ (BigB.ext (by assumption) (by repeat (first | (with_reducible exact Ext.refl _) | (with_reducible apply Ext.drew) | (with_reducible apply Ext.drewN) | (with_reducible refine Ext.trans ?_ (by assumption))))) (BigB.ext (by assumption) (by repeat (first | (with_reducible exact Ext.refl _) | (with_reducible apply Ext.drew) | (with_reducible apply Ext.drewN) | (with_reducible refine Ext.trans ?_ (by assumption)))))).mono ?_); rintro e wk ⟨rfl, hxk⟩)
          | (go_at_call 16; (with_reducible refine (Sign_b _ _ _ _ (BigB.ext (by assumption) (by repeat (first | (with_reducible exact Ext.refl _) | (with_reducible apply Ext.drew) | (with_reducible apply Ext.drewN) | (with_reducible refine Ext.trans ?_ (by assumption)))))).mono ?_); rintro e wk ⟨rfl, hxk⟩)
        try (go_wp2_with fail)
        refine hK.out _ _ ?_ (fun hHeld => ?_)
        · (try dsimp only); (repeat (first | assumption | apply Later.drew | apply Later.drewN | apply Later.alloc | (refine Later.step ?_ (by assumption))))
        clear hK K
        try simp only [Act.put, List.setIfInBounds_toArray, List.set_cons_zero, List.set_cons_succ]
        refine wpAnyH_ready (rs := [9]) (by kernel_rfl) (by simp) ?_
        refine AllReadyH.cons (o := { dst := some 43, op := Op.call { callee := Callee.value (Operand.func 20), args := #[Operand.tmp 41, Operand.tmp 42], argTypes := #[25, 25] }, type := 3, pos := "law.go:143", after := #[{ on := 7, ground := Ground.data }, { on := 8, ground := Ground.data }, { on := 7, ground := Ground.chain }, { on := 2, ground := Ground.guard }], guard := some (2, true) }) rfl (fun K hK => ?_) ?_
        · go_simp
          first
            | (go_at_call 24; (with_reducible refine (Add_b _ _ _ _ _ _ _ (BigB.ext (by assumption) (by repeat (first | (with_reducible exact Ext.refl _) | (with_reducible apply Ext.drew) | (with_reducible apply Ext.drewN) | (with_reducible refine Ext.trans ?_ (by assumption))))) (BigB.ext (by assumption) (by repeat (first | (with_reducible exact Ext.refl _) | (with_reducible apply Ext.drew) | (with_reducible apply Ext.drewN) | (with_reducible refine Ext.trans ?_ (by assumption))))) (by decide)).mono ?_); rintro e wk ⟨vk, rfl, hbk, hxk⟩; (obtain ⟨pk, Ak, nk, ck, rfl⟩ := hbk.1.shape))
            | (go_at_call 28; (with_reducible refine (Sub_b _ _ _ _ _ _ _ (BigB.ext (by assumption) (by repeat (first | (with_reducible exact Ext.refl _) | (with_reducible apply Ext.drew) | (with_reducible apply Ext.drewN) | (with_reducible refine Ext.trans ?_ (by assumption))))) (BigB.ext (by assumption) (by repeat (first | (with_reducible exact Ext.refl _) | (with_reducible apply Ext.drew) | (with_reducible apply Ext.drewN) | (with_reducible refine Ext.trans ?_ (by assumption))))) (by decide)).mono ?_); rintro e wk ⟨vk, rfl, hbk, hxk⟩; (obtain ⟨pk, Ak, nk, ck, rfl⟩ := hbk.1.shape))
            | (go_at_call 23; (with_reducible refine (Mul_b _ _ _ _ _ _ _ (BigB.ext (by assumption) (by repeat (first | (with_reducible exact Ext.refl _) | (with_reducible apply Ext.drew) | (with_reducible apply Ext.drewN) | (with_reducible refine Ext.trans ?_ (by assumption))))) (BigB.ext (by assumption) (by repeat (first | (with_reducible exact Ext.refl _) | (with_reducible apply Ext.drew) | (with_reducible apply Ext.drewN) | (with_reducible refine Ext.trans ?_ (by assumption))))) (by decide)).mono ?_); rintro e wk ⟨vk, rfl, hbk, hxk⟩; (obtain ⟨pk, Ak, nk, ck, rfl⟩ := hbk.1.shape))
            | (go_at_call 27; (with_reducible refine (Neg_b _ _ _ _ (BigB.ext (by assumption) (by repeat (first | (with_reducible exact Ext.refl _) | (with_reducible apply Ext.drew) | (with_reducible apply Ext.drewN) | (with_reducible refine Ext.trans ?_ (by assumption)))))).mono ?_); rintro e wk ⟨vk, rfl, hbk, hxk⟩; (obtain ⟨pk, Ak, nk, ck, rfl⟩ := hbk.1.shape))
            | (go_at_call 25; (with_reducible refine (abs_b _ _ _ _ (BigB.ext (by assumption) (by repeat (first | (with_reducible exact Ext.refl _) | (with_reducible apply Ext.drew) | (with_reducible apply Ext.drewN) | (with_reducible refine Ext.trans ?_ (by assumption)))))).mono ?_); rintro e wk ⟨vk, rfl, hbk, hxk⟩; (obtain ⟨pk, Ak, nk, ck, rfl⟩ := hbk.1.shape))
            | (go_at_call 20; (with_reducible refine (Cmp_eqb _ _ _ _ _ _ _ (BigB.ext (by assumption) (by repeat (first | (with_reducible exact Ext.refl _) | (with_reducible apply Ext.drew) | (with_reducible apply Ext.drewN) | (with_reducible refine Ext.trans ?_ (by assumption))))) (BigB.ext (by assumption) (by repeat (first | (with_reducible exact Ext.refl _) | (with_reducible apply Ext.drew) | (with_reducible apply Ext.drewN) | (with_reducible refine Ext.trans ?_ (by assumption))))) (by first | exact Int.add_comm _ _ | exact Int.mul_comm _ _ | exact Int.add_assoc _ _ _ | exact Int.mul_assoc _ _ _ | exact Int.mul_add _ _ _ | exact Int.sub_eq_add_neg | assumption | exact rfl)).mono ?_); rintro e wk ⟨rfl, hxk⟩)
            | (go_at_call 20; (with_reducible refine (Cmp_b _ _ _ _ _ _ _ (BigB.ext (by assumption) (by repeat (first | (with_reducible exact Ext.refl _) | (with_reducible apply Ext.drew) | (with_reducible apply Ext.drewN) | (with_reducible refine Ext.trans ?_ (by assumption))))) (BigB.ext (by assumption) (by repeat (first | (with_reducible exact Ext.refl _) | (with_reducible apply Ext.drew) | (with_reducible apply Ext.drewN) | (with_reducible refine Ext.trans ?_ (by assumption)))))).mono ?_); rintro e wk ⟨rfl, hxk⟩)
            | (go_at_call 16; (with_reducible refine (Sign_b _ _ _ _ (BigB.ext (by assumption) (by repeat (first | (with_reducible exact Ext.refl _) | (with_reducible apply Ext.drew) | (with_reducible apply Ext.drewN) | (with_reducible refine Ext.trans ?_ (by assumption)))))).mono ?_); rintro e wk ⟨rfl, hxk⟩)
          try (go_wp2_with fail)
          refine hK.out _ _ ?_ (fun hHeld => ?_)
          · (try dsimp only); (repeat (first | assumption | apply Later.drew | apply Later.drewN | apply Later.alloc | (refine Later.step ?_ (by assumption))))
          clear hK K
          try simp only [Act.put, List.setIfInBounds_toArray, List.set_cons_zero, List.set_cons_succ]
          refine wpAnyH_take (i := 10) (oi := { dst := some 44, op := Op.binOp BinOp.eql 3 (Operand.tmp 43) (Operand.const (Value.int IntKind.i64 0)) 3, type := 4, pos := "law.go:143", after := #[{ on := 9, ground := Ground.data }, { on := 2, ground := Ground.guard }], guard := some (2, true) }) (v := ?_) rfl (by kernel_rfl) (by kernel_rfl) (by kernel_rfl) (fun _ _ _ h => h) (Or.inl ⟨by rfl, ?_⟩) (by assumption) ?_
          rotate_left
          · intro w hSw; (try dsimp only at hSw); go_simp; try (with_reducible rfl)
          try simp only [Act.put, List.setIfInBounds_toArray, List.set_cons_zero, List.set_cons_succ]
          refine wpAnyH_take (i := 11) (oi := { dst := some 45, op := Op.pick (Operand.tmp 36) (Operand.tmp 44) (Operand.const (Value.bool false)), type := 4, pos := "law.go:143", after := #[{ on := 2, ground := Ground.data }, { on := 10, ground := Ground.data }], guard := none }) (v := ?_) rfl (by kernel_rfl) (by kernel_rfl) (by kernel_rfl) (fun _ _ _ h => h) (Or.inl ⟨by rfl, ?_⟩) (by assumption) ?_
          rotate_left
          · intro w hSw; (try dsimp only at hSw); go_simp; try (with_reducible rfl)
          try simp only [Act.put, List.setIfInBounds_toArray, List.set_cons_zero, List.set_cons_succ]
          refine wpAnyH_take (i := 12) (oi := { dst := some 46, op := Op.move (Operand.tmp 45), type := 4, pos := "law.go:143", after := #[{ on := 11, ground := Ground.data }, { on := 9, ground := Ground.chain }], guard := none }) (v := ?_) rfl (by kernel_rfl) (by kernel_rfl) (by kernel_rfl) (fun _ _ _ h => h) (Or.inl ⟨by rfl, ?_⟩) (by assumption) ?_
          rotate_left
          · intro w hSw; (try dsimp only at hSw); go_simp; try (with_reducible rfl)
          try simp only [Act.put, List.setIfInBounds_toArray, List.set_cons_zero, List.set_cons_succ]
          refine wpAnyH_take (i := 13) (oi := { dst := some 47, op := Op.load 25 (Operand.tmp 9), type := 25, pos := "law.go:143", after := #[{ on := 12, ground := Ground.guard }], guard := some (12, true) }) (v := ?_) rfl (by kernel_rfl) (by kernel_rfl) (by kernel_rfl) (fun _ _ _ h => h) (Or.inl ⟨by rfl, ?_⟩) (by assumption) ?_
          rotate_left
          · intro w hSw; (try dsimp only at hSw); go_simp; try (with_reducible rfl)
          try simp only [Act.put, List.setIfInBounds_toArray, List.set_cons_zero, List.set_cons_succ]
          refine wpAnyH_ready (rs := [14]) (by kernel_rfl) (by simp) ?_
          refine AllReadyH.cons (o := { dst := some 48, op := Op.call { callee := Callee.value (Operand.func 16), args := #[Operand.tmp 47], argTypes := #[25] }, type := 3, pos := "law.go:143", after := #[{ on := 13, ground := Ground.data }, { on := 12, ground := Ground.chain }, { on := 12, ground := Ground.guard }], guard := some (12, true) }) rfl (fun K hK => ?_) ?_
          · go_simp
            first
              | (go_at_call 24; (with_reducible refine (Add_b _ _ _ _ _ _ _ (BigB.ext (by assumption) (by repeat (first | (with_reducible exact Ext.refl _) | (with_reducible apply Ext.drew) | (with_reducible apply Ext.drewN) | (with_reducible refine Ext.trans ?_ (by assumption))))) (BigB.ext (by assumption) (by repeat (first | (with_reducible exact Ext.refl _) | (with_reducible apply Ext.drew) | (with_reducible apply Ext.drewN) | (with_reducible refine Ext.trans ?_ (by assumption))))) (by decide)).mono ?_); rintro e wk ⟨vk, rfl, hbk, hxk⟩; (obtain ⟨pk, Ak, nk, ck, rfl⟩ := hbk.1.shape))
              | (go_at_call 28; (with_reducible refine (Sub_b _ _ _ _ _ _ _ (BigB.ext (by assumption) (by repeat (first | (with_reducible exact Ext.refl _) | (with_reducible apply Ext.drew) | (with_reducible apply Ext.drewN) | (with_reducible refine Ext.trans ?_ (by assumption))))) (BigB.ext (by assumption) (by repeat (first | (with_reducible exact Ext.refl _) | (with_reducible apply Ext.drew) | (with_reducible apply Ext.drewN) | (with_reducible refine Ext.trans ?_ (by assumption))))) (by decide)).mono ?_); rintro e wk ⟨vk, rfl, hbk, hxk⟩; (obtain ⟨pk, Ak, nk, ck, rfl⟩ := hbk.1.shape))
              | (go_at_call 23; (with_reducible refine (Mul_b _ _ _ _ _ _ _ (BigB.ext (by assumption) (by repeat (first | (with_reducible exact Ext.refl _) | (with_reducible apply Ext.drew) | (with_reducible apply Ext.drewN) | (with_reducible refine Ext.trans ?_ (by assumption))))) (BigB.ext (by assumption) (by repeat (first | (with_reducible exact Ext.refl _) | (with_reducible apply Ext.drew) | (with_reducible apply Ext.drewN) | (with_reducible refine Ext.trans ?_ (by assumption))))) (by decide)).mono ?_); rintro e wk ⟨vk, rfl, hbk, hxk⟩; (obtain ⟨pk, Ak, nk, ck, rfl⟩ := hbk.1.shape))
              | (go_at_call 27; (with_reducible refine (Neg_b _ _ _ _ (BigB.ext (by assumption) (by repeat (first | (with_reducible exact Ext.refl _) | (with_reducible apply Ext.drew) | (with_reducible apply Ext.drewN) | (with_reducible refine Ext.trans ?_ (by assumption)))))).mono ?_); rintro e wk ⟨vk, rfl, hbk, hxk⟩; (obtain ⟨pk, Ak, nk, ck, rfl⟩ := hbk.1.shape))
              | (go_at_call 25; (with_reducible refine (abs_b _ _ _ _ (BigB.ext (by assumption) (by repeat (first | (with_reducible exact Ext.refl _) | (with_reducible apply Ext.drew) | (with_reducible apply Ext.drewN) | (with_reducible refine Ext.trans ?_ (by assumption)))))).mono ?_); rintro e wk ⟨vk, rfl, hbk, hxk⟩; (obtain ⟨pk, Ak, nk, ck, rfl⟩ := hbk.1.shape))
              | (go_at_call 20; (with_reducible refine (Cmp_eqb _ _ _ _ _ _ _ (BigB.ext (by assumption) (by repeat (first | (with_reducible exact Ext.refl _) | (with_reducible apply Ext.drew) | (with_reducible apply Ext.drewN) | (with_reducible refine Ext.trans ?_ (by assumption))))) (BigB.ext (by assumption) (by repeat (first | (with_reducible exact Ext.refl _) | (with_reducible apply Ext.drew) | (with_reducible apply Ext.drewN) | (with_reducible refine Ext.trans ?_ (by assumption))))) (by first | exact Int.add_comm _ _ | exact Int.mul_comm _ _ | exact Int.add_assoc _ _ _ | exact Int.mul_assoc _ _ _ | exact Int.mul_add _ _ _ | exact Int.sub_eq_add_neg | assumption | exact rfl)).mono ?_); rintro e wk ⟨rfl, hxk⟩)
              | (go_at_call 20; (with_reducible refine (Cmp_b _ _ _ _ _ _ _ (BigB.ext (by assumption) (by repeat (first | (with_reducible exact Ext.refl _) | (with_reducible apply Ext.drew) | (with_reducible apply Ext.drewN) | (with_reducible refine Ext.trans ?_ (by assumption))))) (BigB.ext (by assumption) (by repeat (first | (with_reducible exact Ext.refl _) | (with_reducible apply Ext.drew) | (with_reducible apply Ext.drewN) | (with_reducible refine Ext.trans ?_ (by assumption)))))).mono ?_); rintro e wk ⟨rfl, hxk⟩)
              | (go_at_call 16; (with_reducible refine (Sign_b _ _ _ _ (BigB.ext (by assumption) (by repeat (first | (with_reducible exact Ext.refl _) | (with_reducible apply Ext.drew) | (with_reducible apply Ext.drewN) | (with_reducible refine Ext.trans ?_ (by assumption)))))).mono ?_); rintro e wk ⟨rfl, hxk⟩)
            try (go_wp2_with fail)
            refine hK.out _ _ ?_ (fun hHeld => ?_)
            · (try dsimp only); (repeat (first | assumption | apply Later.drew | apply Later.drewN | apply Later.alloc | (refine Later.step ?_ (by assumption))))
            clear hK K
            try simp only [Act.put, List.setIfInBounds_toArray, List.set_cons_zero, List.set_cons_succ]
            refine wpAnyH_take (i := 15) (oi := { dst := some 49, op := Op.binOp BinOp.eql 3 (Operand.tmp 48) (Operand.const (Value.int IntKind.i64 0)) 3, type := 4, pos := "law.go:143", after := #[{ on := 14, ground := Ground.data }, { on := 12, ground := Ground.guard }], guard := some (12, true) }) (v := ?_) rfl (by kernel_rfl) (by kernel_rfl) (by kernel_rfl) (fun _ _ _ h => h) (Or.inl ⟨by rfl, ?_⟩) (by assumption) ?_
            rotate_left
            · intro w hSw; (try dsimp only at hSw); go_simp; try (with_reducible rfl)
            try simp only [Act.put, List.setIfInBounds_toArray, List.set_cons_zero, List.set_cons_succ]
            refine wpAnyH_take (i := 16) (oi := { dst := some 50, op := Op.move (Operand.tmp 49), type := 4, pos := "law.go:143", after := #[{ on := 15, ground := Ground.data }, { on := 14, ground := Ground.chain }, { on := 12, ground := Ground.guard }], guard := some (12, true) }) (v := ?_) rfl (by kernel_rfl) (by kernel_rfl) (by kernel_rfl) (fun _ _ _ h => h) (Or.inl ⟨by rfl, ?_⟩) (by assumption) ?_
            rotate_left
            · intro w hSw; (try dsimp only at hSw); go_simp; try (with_reducible rfl)
            try simp only [Act.put, List.setIfInBounds_toArray, List.set_cons_zero, List.set_cons_succ]
            refine wpAnyH_take (i := 17) (oi := { dst := some 51, op := Op.load 25 (Operand.tmp 9), type := 25, pos := "law.go:143", after := #[{ on := 16, ground := Ground.guard }], guard := some (16, false) }) (v := undef) rfl (by kernel_rfl) (by kernel_rfl) (by kernel_rfl) (fun _ _ _ h => h) (Or.inr ⟨by rfl, rfl⟩) (by assumption) ?_
            try simp only [Act.put, List.setIfInBounds_toArray, List.set_cons_zero, List.set_cons_succ]
            refine wpAnyH_take (i := 18) (oi := { dst := some 52, op := Op.call { callee := Callee.value (Operand.func 16), args := #[Operand.tmp 51], argTypes := #[25] }, type := 3, pos := "law.go:143", after := #[{ on := 17, ground := Ground.data }, { on := 16, ground := Ground.chain }, { on := 16, ground := Ground.guard }], guard := some (16, false) }) (v := undef) rfl (by kernel_rfl) (by kernel_rfl) (by kernel_rfl) (fun _ _ _ h => h) (Or.inr ⟨by rfl, rfl⟩) (by assumption) ?_
            try simp only [Act.put, List.setIfInBounds_toArray, List.set_cons_zero, List.set_cons_succ]
            refine wpAnyH_take (i := 19) (oi := { dst := some 53, op := Op.load 25 (Operand.tmp 5), type := 25, pos := "law.go:143", after := #[{ on := 16, ground := Ground.guard }], guard := some (16, false) }) (v := undef) rfl (by kernel_rfl) (by kernel_rfl) (by kernel_rfl) (fun _ _ _ h => h) (Or.inr ⟨by rfl, rfl⟩) (by assumption) ?_
            try simp only [Act.put, List.setIfInBounds_toArray, List.set_cons_zero, List.set_cons_succ]
            refine wpAnyH_take (i := 20) (oi := { dst := some 54, op := Op.call { callee := Callee.value (Operand.func 16), args := #[Operand.tmp 53], argTypes := #[25] }, type := 3, pos := "law.go:143", after := #[{ on := 19, ground := Ground.data }, { on := 18, ground := Ground.chain }, { on := 16, ground := Ground.guard }], guard := some (16, false) }) (v := undef) rfl (by kernel_rfl) (by kernel_rfl) (by kernel_rfl) (fun _ _ _ h => h) (Or.inr ⟨by rfl, rfl⟩) (by assumption) ?_
            try simp only [Act.put, List.setIfInBounds_toArray, List.set_cons_zero, List.set_cons_succ]
            refine wpAnyH_take (i := 21) (oi := { dst := some 55, op := Op.binOp BinOp.eql 3 (Operand.tmp 52) (Operand.tmp 54) 3, type := 4, pos := "law.go:143", after := #[{ on := 18, ground := Ground.data }, { on := 20, ground := Ground.data }, { on := 16, ground := Ground.guard }], guard := some (16, false) }) (v := undef) rfl (by kernel_rfl) (by kernel_rfl) (by kernel_rfl) (fun _ _ _ h => h) (Or.inr ⟨by rfl, rfl⟩) (by assumption) ?_
            try simp only [Act.put, List.setIfInBounds_toArray, List.set_cons_zero, List.set_cons_succ]
            refine wpAnyH_take (i := 22) (oi := { dst := some 56, op := Op.pick (Operand.tmp 50) (Operand.const (Value.bool true)) (Operand.tmp 55), type := 4, pos := "law.go:143", after := #[{ on := 16, ground := Ground.data }, { on := 21, ground := Ground.data }, { on := 12, ground := Ground.guard }], guard := some (12, true) }) (v := ?_) rfl (by kernel_rfl) (by kernel_rfl) (by kernel_rfl) (fun _ _ _ h => h) (Or.inl ⟨by rfl, ?_⟩) (by assumption) ?_
            rotate_left
            · intro w hSw; (try dsimp only at hSw); go_simp; try (with_reducible rfl)
            try simp only [Act.put, List.setIfInBounds_toArray, List.set_cons_zero, List.set_cons_succ]
            refine wpAnyH_take (i := 23) (oi := { dst := some 57, op := Op.pick (Operand.tmp 46) (Operand.tmp 56) (Operand.const (Value.bool false)), type := 4, pos := "law.go:143", after := #[{ on := 12, ground := Ground.data }, { on := 22, ground := Ground.data }], guard := none }) (v := ?_) rfl (by kernel_rfl) (by kernel_rfl) (by kernel_rfl) (fun _ _ _ h => h) (Or.inl ⟨by rfl, ?_⟩) (by assumption) ?_
            rotate_left
            · intro w hSw; (try dsimp only at hSw); go_simp; try (with_reducible rfl)
            try simp only [Act.put, List.setIfInBounds_toArray, List.set_cons_zero, List.set_cons_succ]
            refine wpAnyH_take (i := 24) (oi := { dst := some 58, op := Op.move (Operand.tmp 57), type := 4, pos := "law.go:143", after := #[{ on := 23, ground := Ground.data }, { on := 20, ground := Ground.chain }], guard := none }) (v := ?_) rfl (by kernel_rfl) (by kernel_rfl) (by kernel_rfl) (fun _ _ _ h => h) (Or.inl ⟨by rfl, ?_⟩) (by assumption) ?_
            rotate_left
            · intro w hSw; (try dsimp only at hSw); go_simp; try (with_reducible rfl)
            try simp only [Act.put, List.setIfInBounds_toArray, List.set_cons_zero, List.set_cons_succ]
            refine wpAnyH_take (i := 25) (oi := { dst := some 59, op := Op.load 25 (Operand.tmp 9), type := 25, pos := "law.go:143", after := #[{ on := 24, ground := Ground.guard }], guard := some (24, true) }) (v := ?_) rfl (by kernel_rfl) (by kernel_rfl) (by kernel_rfl) (fun _ _ _ h => h) (Or.inl ⟨by rfl, ?_⟩) (by assumption) ?_
            rotate_left
            · intro w hSw; (try dsimp only at hSw); go_simp; try (with_reducible rfl)
            try simp only [Act.put, List.setIfInBounds_toArray, List.set_cons_zero, List.set_cons_succ]
            refine wpAnyH_take (i := 27) (oi := { dst := some 61, op := Op.load 25 (Operand.tmp 6), type := 25, pos := "law.go:143", after := #[{ on := 24, ground := Ground.guard }], guard := some (24, true) }) (v := ?_) rfl (by kernel_rfl) (by kernel_rfl) (by kernel_rfl) (fun _ _ _ h => h) (Or.inl ⟨by rfl, ?_⟩) (by assumption) ?_
            rotate_left
            · intro w hSw; (try dsimp only at hSw); go_simp; try (with_reducible rfl)
            try simp only [Act.put, List.setIfInBounds_toArray, List.set_cons_zero, List.set_cons_succ]
            refine wpAnyH_ready (rs := [26]) (by kernel_rfl) (by simp) ?_
            refine AllReadyH.cons (o := { dst := some 60, op := Op.call { callee := Callee.value (Operand.func 25), args := #[Operand.tmp 59], argTypes := #[25] }, type := 25, pos := "law.go:143", after := #[{ on := 25, ground := Ground.data }, { on := 24, ground := Ground.chain }, { on := 24, ground := Ground.guard }], guard := some (24, true) }) rfl (fun K hK => ?_) ?_
            · go_simp
              first
                | (go_at_call 24; (with_reducible refine (Add_b _ _ _ _ _ _ _ (BigB.ext (by assumption) (by repeat (first | (with_reducible exact Ext.refl _) | (with_reducible apply Ext.drew) | (with_reducible apply Ext.drewN) | (with_reducible refine Ext.trans ?_ (by assumption))))) (BigB.ext (by assumption) (by repeat (first | (with_reducible exact Ext.refl _) | (with_reducible apply Ext.drew) | (with_reducible apply Ext.drewN) | (with_reducible refine Ext.trans ?_ (by assumption))))) (by decide)).mono ?_); rintro e wk ⟨vk, rfl, hbk, hxk⟩; (obtain ⟨pk, Ak, nk, ck, rfl⟩ := hbk.1.shape))
                | (go_at_call 28; (with_reducible refine (Sub_b _ _ _ _ _ _ _ (BigB.ext (by assumption) (by repeat (first | (with_reducible exact Ext.refl _) | (with_reducible apply Ext.drew) | (with_reducible apply Ext.drewN) | (with_reducible refine Ext.trans ?_ (by assumption))))) (BigB.ext (by assumption) (by repeat (first | (with_reducible exact Ext.refl _) | (with_reducible apply Ext.drew) | (with_reducible apply Ext.drewN) | (with_reducible refine Ext.trans ?_ (by assumption))))) (by decide)).mono ?_); rintro e wk ⟨vk, rfl, hbk, hxk⟩; (obtain ⟨pk, Ak, nk, ck, rfl⟩ := hbk.1.shape))
                | (go_at_call 23; (with_reducible refine (Mul_b _ _ _ _ _ _ _ (BigB.ext (by assumption) (by repeat (first | (with_reducible exact Ext.refl _) | (with_reducible apply Ext.drew) | (with_reducible apply Ext.drewN) | (with_reducible refine Ext.trans ?_ (by assumption))))) (BigB.ext (by assumption) (by repeat (first | (with_reducible exact Ext.refl _) | (with_reducible apply Ext.drew) | (with_reducible apply Ext.drewN) | (with_reducible refine Ext.trans ?_ (by assumption))))) (by decide)).mono ?_); rintro e wk ⟨vk, rfl, hbk, hxk⟩; (obtain ⟨pk, Ak, nk, ck, rfl⟩ := hbk.1.shape))
                | (go_at_call 27; (with_reducible refine (Neg_b _ _ _ _ (BigB.ext (by assumption) (by repeat (first | (with_reducible exact Ext.refl _) | (with_reducible apply Ext.drew) | (with_reducible apply Ext.drewN) | (with_reducible refine Ext.trans ?_ (by assumption)))))).mono ?_); rintro e wk ⟨vk, rfl, hbk, hxk⟩; (obtain ⟨pk, Ak, nk, ck, rfl⟩ := hbk.1.shape))
                | (go_at_call 25; (with_reducible refine (abs_b _ _ _ _ (BigB.ext (by assumption) (by repeat (first | (with_reducible exact Ext.refl _) | (with_reducible apply Ext.drew) | (with_reducible apply Ext.drewN) | (with_reducible refine Ext.trans ?_ (by assumption)))))).mono ?_); rintro e wk ⟨vk, rfl, hbk, hxk⟩; (obtain ⟨pk, Ak, nk, ck, rfl⟩ := hbk.1.shape))
                | (go_at_call 20; (with_reducible refine (Cmp_eqb _ _ _ _ _ _ _ (BigB.ext (by assumption) (by repeat (first | (with_reducible exact Ext.refl _) | (with_reducible apply Ext.drew) | (with_reducible apply Ext.drewN) | (with_reducible refine Ext.trans ?_ (by assumption))))) (BigB.ext (by assumption) (by repeat (first | (with_reducible exact Ext.refl _) | (with_reducible apply Ext.drew) | (with_reducible apply Ext.drewN) | (with_reducible refine Ext.trans ?_ (by assumption))))) (by first | exact Int.add_comm _ _ | exact Int.mul_comm _ _ | exact Int.add_assoc _ _ _ | exact Int.mul_assoc _ _ _ | exact Int.mul_add _ _ _ | exact Int.sub_eq_add_neg | assumption | exact rfl)).mono ?_); rintro e wk ⟨rfl, hxk⟩)
                | (go_at_call 20; (with_reducible refine (Cmp_b _ _ _ _ _ _ _ (BigB.ext (by assumption) (by repeat (first | (with_reducible exact Ext.refl _) | (with_reducible apply Ext.drew) | (with_reducible apply Ext.drewN) | (with_reducible refine Ext.trans ?_ (by assumption))))) (BigB.ext (by assumption) (by repeat (first | (with_reducible exact Ext.refl _) | (with_reducible apply Ext.drew) | (with_reducible apply Ext.drewN) | (with_reducible refine Ext.trans ?_ (by assumption)))))).mono ?_); rintro e wk ⟨rfl, hxk⟩)
                | (go_at_call 16; (with_reducible refine (Sign_b _ _ _ _ (BigB.ext (by assumption) (by repeat (first | (with_reducible exact Ext.refl _) | (with_reducible apply Ext.drew) | (with_reducible apply Ext.drewN) | (with_reducible refine Ext.trans ?_ (by assumption)))))).mono ?_); rintro e wk ⟨rfl, hxk⟩)
              try (go_wp2_with fail)
              refine hK.out _ _ ?_ (fun hHeld => ?_)
              · (try dsimp only); (repeat (first | assumption | apply Later.drew | apply Later.drewN | apply Later.alloc | (refine Later.step ?_ (by assumption))))
              clear hK K
              try simp only [Act.put, List.setIfInBounds_toArray, List.set_cons_zero, List.set_cons_succ]
              refine wpAnyH_ready (rs := [28]) (by kernel_rfl) (by simp) ?_
              refine AllReadyH.cons (o := { dst := some 62, op := Op.call { callee := Callee.value (Operand.func 25), args := #[Operand.tmp 61], argTypes := #[25] }, type := 25, pos := "law.go:143", after := #[{ on := 27, ground := Ground.data }, { on := 26, ground := Ground.chain }, { on := 24, ground := Ground.guard }], guard := some (24, true) }) rfl (fun K hK => ?_) ?_
              · go_simp
                first
                  | (go_at_call 24; (with_reducible refine (Add_b _ _ _ _ _ _ _ (BigB.ext (by assumption) (by repeat (first | (with_reducible exact Ext.refl _) | (with_reducible apply Ext.drew) | (with_reducible apply Ext.drewN) | (with_reducible refine Ext.trans ?_ (by assumption))))) (BigB.ext (by assumption) (by repeat (first | (with_reducible exact Ext.refl _) | (with_reducible apply Ext.drew) | (with_reducible apply Ext.drewN) | (with_reducible refine Ext.trans ?_ (by assumption))))) (by decide)).mono ?_); rintro e wk ⟨vk, rfl, hbk, hxk⟩; (obtain ⟨pk, Ak, nk, ck, rfl⟩ := hbk.1.shape))
                  | (go_at_call 28; (with_reducible refine (Sub_b _ _ _ _ _ _ _ (BigB.ext (by assumption) (by repeat (first | (with_reducible exact Ext.refl _) | (with_reducible apply Ext.drew) | (with_reducible apply Ext.drewN) | (with_reducible refine Ext.trans ?_ (by assumption))))) (BigB.ext (by assumption) (by repeat (first | (with_reducible exact Ext.refl _) | (with_reducible apply Ext.drew) | (with_reducible apply Ext.drewN) | (with_reducible refine Ext.trans ?_ (by assumption))))) (by decide)).mono ?_); rintro e wk ⟨vk, rfl, hbk, hxk⟩; (obtain ⟨pk, Ak, nk, ck, rfl⟩ := hbk.1.shape))
                  | (go_at_call 23; (with_reducible refine (Mul_b _ _ _ _ _ _ _ (BigB.ext (by assumption) (by repeat (first | (with_reducible exact Ext.refl _) | (with_reducible apply Ext.drew) | (with_reducible apply Ext.drewN) | (with_reducible refine Ext.trans ?_ (by assumption))))) (BigB.ext (by assumption) (by repeat (first | (with_reducible exact Ext.refl _) | (with_reducible apply Ext.drew) | (with_reducible apply Ext.drewN) | (with_reducible refine Ext.trans ?_ (by assumption))))) (by decide)).mono ?_); rintro e wk ⟨vk, rfl, hbk, hxk⟩; (obtain ⟨pk, Ak, nk, ck, rfl⟩ := hbk.1.shape))
                  | (go_at_call 27; (with_reducible refine (Neg_b _ _ _ _ (BigB.ext (by assumption) (by repeat (first | (with_reducible exact Ext.refl _) | (with_reducible apply Ext.drew) | (with_reducible apply Ext.drewN) | (with_reducible refine Ext.trans ?_ (by assumption)))))).mono ?_); rintro e wk ⟨vk, rfl, hbk, hxk⟩; (obtain ⟨pk, Ak, nk, ck, rfl⟩ := hbk.1.shape))
                  | (go_at_call 25; (with_reducible refine (abs_b _ _ _ _ (BigB.ext (by assumption) (by repeat (first | (with_reducible exact Ext.refl _) | (with_reducible apply Ext.drew) | (with_reducible apply Ext.drewN) | (with_reducible refine Ext.trans ?_ (by assumption)))))).mono ?_); rintro e wk ⟨vk, rfl, hbk, hxk⟩; (obtain ⟨pk, Ak, nk, ck, rfl⟩ := hbk.1.shape))
                  | (go_at_call 20; (with_reducible refine (Cmp_eqb _ _ _ _ _ _ _ (BigB.ext (by assumption) (by repeat (first | (with_reducible exact Ext.refl _) | (with_reducible apply Ext.drew) | (with_reducible apply Ext.drewN) | (with_reducible refine Ext.trans ?_ (by assumption))))) (BigB.ext (by assumption) (by repeat (first | (with_reducible exact Ext.refl _) | (with_reducible apply Ext.drew) | (with_reducible apply Ext.drewN) | (with_reducible refine Ext.trans ?_ (by assumption))))) (by first | exact Int.add_comm _ _ | exact Int.mul_comm _ _ | exact Int.add_assoc _ _ _ | exact Int.mul_assoc _ _ _ | exact Int.mul_add _ _ _ | exact Int.sub_eq_add_neg | assumption | exact rfl)).mono ?_); rintro e wk ⟨rfl, hxk⟩)
                  | (go_at_call 20; (with_reducible refine (Cmp_b _ _ _ _ _ _ _ (BigB.ext (by assumption) (by repeat (first | (with_reducible exact Ext.refl _) | (with_reducible apply Ext.drew) | (with_reducible apply Ext.drewN) | (with_reducible refine Ext.trans ?_ (by assumption))))) (BigB.ext (by assumption) (by repeat (first | (with_reducible exact Ext.refl _) | (with_reducible apply Ext.drew) | (with_reducible apply Ext.drewN) | (with_reducible refine Ext.trans ?_ (by assumption)))))).mono ?_); rintro e wk ⟨rfl, hxk⟩)
                  | (go_at_call 16; (with_reducible refine (Sign_b _ _ _ _ (BigB.ext (by assumption) (by repeat (first | (with_reducible exact Ext.refl _) | (with_reducible apply Ext.drew) | (with_reducible apply Ext.drewN) | (with_reducible refine Ext.trans ?_ (by assumption)))))).mono ?_); rintro e wk ⟨rfl, hxk⟩)
                try (go_wp2_with fail)
                refine hK.out _ _ ?_ (fun hHeld => ?_)
                · (try dsimp only); (repeat (first | assumption | apply Later.drew | apply Later.drewN | apply Later.alloc | (refine Later.step ?_ (by assumption))))
                clear hK K
                try simp only [Act.put, List.setIfInBounds_toArray, List.set_cons_zero, List.set_cons_succ]
                refine wpAnyH_ready (rs := [29]) (by kernel_rfl) (by simp) ?_
                refine AllReadyH.cons (o := { dst := some 63, op := Op.call { callee := Callee.value (Operand.func 20), args := #[Operand.tmp 60, Operand.tmp 62], argTypes := #[25, 25] }, type := 3, pos := "law.go:143", after := #[{ on := 26, ground := Ground.data }, { on := 28, ground := Ground.data }, { on := 28, ground := Ground.chain }, { on := 24, ground := Ground.guard }], guard := some (24, true) }) rfl (fun K hK => ?_) ?_
                · go_simp
                  first
                    | (go_at_call 24; (with_reducible refine (Add_b _ _ _ _ _ _ _ (BigB.ext (by assumption) (by repeat (first | (with_reducible exact Ext.refl _) | (with_reducible apply Ext.drew) | (with_reducible apply Ext.drewN) | (with_reducible refine Ext.trans ?_ (by assumption))))) (BigB.ext (by assumption) (by repeat (first | (with_reducible exact Ext.refl _) | (with_reducible apply Ext.drew) | (with_reducible apply Ext.drewN) | (with_reducible refine Ext.trans ?_ (by assumption))))) (by decide)).mono ?_); rintro e wk ⟨vk, rfl, hbk, hxk⟩; (obtain ⟨pk, Ak, nk, ck, rfl⟩ := hbk.1.shape))
                    | (go_at_call 28; (with_reducible refine (Sub_b _ _ _ _ _ _ _ (BigB.ext (by assumption) (by repeat (first | (with_reducible exact Ext.refl _) | (with_reducible apply Ext.drew) | (with_reducible apply Ext.drewN) | (with_reducible refine Ext.trans ?_ (by assumption))))) (BigB.ext (by assumption) (by repeat (first | (with_reducible exact Ext.refl _) | (with_reducible apply Ext.drew) | (with_reducible apply Ext.drewN) | (with_reducible refine Ext.trans ?_ (by assumption))))) (by decide)).mono ?_); rintro e wk ⟨vk, rfl, hbk, hxk⟩; (obtain ⟨pk, Ak, nk, ck, rfl⟩ := hbk.1.shape))
                    | (go_at_call 23; (with_reducible refine (Mul_b _ _ _ _ _ _ _ (BigB.ext (by assumption) (by repeat (first | (with_reducible exact Ext.refl _) | (with_reducible apply Ext.drew) | (with_reducible apply Ext.drewN) | (with_reducible refine Ext.trans ?_ (by assumption))))) (BigB.ext (by assumption) (by repeat (first | (with_reducible exact Ext.refl _) | (with_reducible apply Ext.drew) | (with_reducible apply Ext.drewN) | (with_reducible refine Ext.trans ?_ (by assumption))))) (by decide)).mono ?_); rintro e wk ⟨vk, rfl, hbk, hxk⟩; (obtain ⟨pk, Ak, nk, ck, rfl⟩ := hbk.1.shape))
                    | (go_at_call 27; (with_reducible refine (Neg_b _ _ _ _ (BigB.ext (by assumption) (by repeat (first | (with_reducible exact Ext.refl _) | (with_reducible apply Ext.drew) | (with_reducible apply Ext.drewN) | (with_reducible refine Ext.trans ?_ (by assumption)))))).mono ?_); rintro e wk ⟨vk, rfl, hbk, hxk⟩; (obtain ⟨pk, Ak, nk, ck, rfl⟩ := hbk.1.shape))
                    | (go_at_call 25; (with_reducible refine (abs_b _ _ _ _ (BigB.ext (by assumption) (by repeat (first | (with_reducible exact Ext.refl _) | (with_reducible apply Ext.drew) | (with_reducible apply Ext.drewN) | (with_reducible refine Ext.trans ?_ (by assumption)))))).mono ?_); rintro e wk ⟨vk, rfl, hbk, hxk⟩; (obtain ⟨pk, Ak, nk, ck, rfl⟩ := hbk.1.shape))
                    | (go_at_call 20; (with_reducible refine (Cmp_eqb _ _ _ _ _ _ _ (BigB.ext (by assumption) (by repeat (first | (with_reducible exact Ext.refl _) | (with_reducible apply Ext.drew) | (with_reducible apply Ext.drewN) | (with_reducible refine Ext.trans ?_ (by assumption))))) (BigB.ext (by assumption) (by repeat (first | (with_reducible exact Ext.refl _) | (with_reducible apply Ext.drew) | (with_reducible apply Ext.drewN) | (with_reducible refine Ext.trans ?_ (by assumption))))) (by first | exact Int.add_comm _ _ | exact Int.mul_comm _ _ | exact Int.add_assoc _ _ _ | exact Int.mul_assoc _ _ _ | exact Int.mul_add _ _ _ | exact Int.sub_eq_add_neg | assumption | exact rfl)).mono ?_); rintro e wk ⟨rfl, hxk⟩)
                    | (go_at_call 20; (with_reducible refine (Cmp_b _ _ _ _ _ _ _ (BigB.ext (by assumption) (by repeat (first | (with_reducible exact Ext.refl _) | (with_reducible apply Ext.drew) | (with_reducible apply Ext.drewN) | (with_reducible refine Ext.trans ?_ (by assumption))))) (BigB.ext (by assumption) (by repeat (first | (with_reducible exact Ext.refl _) | (with_reducible apply Ext.drew) | (with_reducible apply Ext.drewN) | (with_reducible refine Ext.trans ?_ (by assumption)))))).mono ?_); rintro e wk ⟨rfl, hxk⟩)
                    | (go_at_call 16; (with_reducible refine (Sign_b _ _ _ _ (BigB.ext (by assumption) (by repeat (first | (with_reducible exact Ext.refl _) | (with_reducible apply Ext.drew) | (with_reducible apply Ext.drewN) | (with_reducible refine Ext.trans ?_ (by assumption)))))).mono ?_); rintro e wk ⟨rfl, hxk⟩)
                  try (go_wp2_with fail)
                  refine hK.out _ _ ?_ (fun hHeld => ?_)
                  · (try dsimp only); (repeat (first | assumption | apply Later.drew | apply Later.drewN | apply Later.alloc | (refine Later.step ?_ (by assumption))))
                  clear hK K
                  try simp only [Act.put, List.setIfInBounds_toArray, List.set_cons_zero, List.set_cons_succ]
                  refine wpAnyH_take (i := 30) (oi := { dst := some 64, op := Op.binOp BinOp.lss 3 (Operand.tmp 63) (Operand.const (Value.int IntKind.i64 0)) 3, type := 4, pos := "law.go:143", after := #[{ on := 29, ground := Ground.data }, { on := 24, ground := Ground.guard }], guard := some (24, true) }) (v := ?_) rfl (by kernel_rfl) (by kernel_rfl) (by kernel_rfl) (fun _ _ _ h => h) (Or.inl ⟨by rfl, ?_⟩) (by assumption) ?_
                  rotate_left
                  · intro w hSw; (try dsimp only at hSw); go_simp; try (with_reducible rfl)
                  try simp only [Act.put, List.setIfInBounds_toArray, List.set_cons_zero, List.set_cons_succ]
                  refine wpAnyH_take (i := 31) (oi := { dst := some 65, op := Op.pick (Operand.tmp 58) (Operand.tmp 64) (Operand.const (Value.bool false)), type := 4, pos := "law.go:143", after := #[{ on := 24, ground := Ground.data }, { on := 30, ground := Ground.data }], guard := none }) (v := ?_) rfl (by kernel_rfl) (by kernel_rfl) (by kernel_rfl) (fun _ _ _ h => h) (Or.inl ⟨by rfl, ?_⟩) (by assumption) ?_
                  rotate_left
                  · intro w hSw; (try dsimp only at hSw); go_simp; try (with_reducible rfl)
                  try simp only [Act.put, List.setIfInBounds_toArray, List.set_cons_zero, List.set_cons_succ]
                  refine wpAnyH_take (i := 32) (oi := { dst := some 4, op := Op.assign (Operand.tmp 65), type := 4, pos := "law.go:143", after := #[{ on := 31, ground := Ground.data }, { on := 29, ground := Ground.chain }, { on := 0, ground := Ground.phase }, { on := 1, ground := Ground.phase }, { on := 2, ground := Ground.phase }, { on := 3, ground := Ground.phase }, { on := 4, ground := Ground.phase }, { on := 5, ground := Ground.phase }, { on := 6, ground := Ground.phase }, { on := 7, ground := Ground.phase }, { on := 8, ground := Ground.phase }, { on := 9, ground := Ground.phase }, { on := 10, ground := Ground.phase }, { on := 11, ground := Ground.phase }, { on := 12, ground := Ground.phase }, { on := 13, ground := Ground.phase }, { on := 14, ground := Ground.phase }, { on := 15, ground := Ground.phase }, { on := 16, ground := Ground.phase }, { on := 17, ground := Ground.phase }, { on := 18, ground := Ground.phase }, { on := 19, ground := Ground.phase }, { on := 20, ground := Ground.phase }, { on := 21, ground := Ground.phase }, { on := 22, ground := Ground.phase }, { on := 23, ground := Ground.phase }, { on := 24, ground := Ground.phase }, { on := 25, ground := Ground.phase }, { on := 26, ground := Ground.phase }, { on := 27, ground := Ground.phase }, { on := 28, ground := Ground.phase }, { on := 29, ground := Ground.phase }, { on := 30, ground := Ground.phase }, { on := 31, ground := Ground.phase }], guard := none }) (v := ?_) rfl (by kernel_rfl) (by kernel_rfl) (by kernel_rfl) (fun _ _ _ h => h) (Or.inl ⟨by rfl, ?_⟩) (by assumption) ?_
                  rotate_left
                  · intro w hSw; (try dsimp only at hSw); go_simp; try (with_reducible rfl)
                  try simp only [Act.put, List.setIfInBounds_toArray, List.set_cons_zero, List.set_cons_succ]
                  refine wpAnyH_done (by kernel_rfl) ?_ _
                  go_wp2_with fail
                  go_ret
                  exact ⟨rfl, hE1.trans (show Later V _ by first | assumption | (apply Later.drew; assumption) | (apply Later.drewN; assumption))⟩
                exact AllReadyH.nil
              exact AllReadyH.nil
            exact AllReadyH.nil
          exact AllReadyH.nil
        exact AllReadyH.nil
      exact AllReadyH.nil
    exact AllReadyH.nil
  · go_region_held3 (fun w' => Later V w') ((repeat (first | assumption | apply Later.drew | apply Later.drewN | apply Later.alloc | (refine Later.step ?_ (by assumption))))) (first
        | (go_at_call 24; (with_reducible refine (Add_b _ _ _ _ _ _ _ (BigB.ext (by assumption) (by repeat (first | (with_reducible exact Ext.refl _) | (with_reducible apply Ext.drew) | (with_reducible apply Ext.drewN) | (with_reducible refine Ext.trans ?_ (by assumption))))) (BigB.ext (by assumption) (by repeat (first | (with_reducible exact Ext.refl _) | (with_reducible apply Ext.drew) | (with_reducible apply Ext.drewN) | (with_reducible refine Ext.trans ?_ (by assumption))))) (by decide)).mono ?_); rintro e wk ⟨vk, rfl, hbk, hxk⟩; (obtain ⟨pk, Ak, nk, ck, rfl⟩ := hbk.1.shape))
        | (go_at_call 28; (with_reducible refine (Sub_b _ _ _ _ _ _ _ (BigB.ext (by assumption) (by repeat (first | (with_reducible exact Ext.refl _) | (with_reducible apply Ext.drew) | (with_reducible apply Ext.drewN) | (with_reducible refine Ext.trans ?_ (by assumption))))) (BigB.ext (by assumption) (by repeat (first | (with_reducible exact Ext.refl _) | (with_reducible apply Ext.drew) | (with_reducible apply Ext.drewN) | (with_reducible refine Ext.trans ?_ (by assumption))))) (by decide)).mono ?_); rintro e wk ⟨vk, rfl, hbk, hxk⟩; (obtain ⟨pk, Ak, nk, ck, rfl⟩ := hbk.1.shape))
        | (go_at_call 23; (with_reducible refine (Mul_b _ _ _ _ _ _ _ (BigB.ext (by assumption) (by repeat (first | (with_reducible exact Ext.refl _) | (with_reducible apply Ext.drew) | (with_reducible apply Ext.drewN) | (with_reducible refine Ext.trans ?_ (by assumption))))) (BigB.ext (by assumption) (by repeat (first | (with_reducible exact Ext.refl _) | (with_reducible apply Ext.drew) | (with_reducible apply Ext.drewN) | (with_reducible refine Ext.trans ?_ (by assumption))))) (by decide)).mono ?_); rintro e wk ⟨vk, rfl, hbk, hxk⟩; (obtain ⟨pk, Ak, nk, ck, rfl⟩ := hbk.1.shape))
        | (go_at_call 27; (with_reducible refine (Neg_b _ _ _ _ (BigB.ext (by assumption) (by repeat (first | (with_reducible exact Ext.refl _) | (with_reducible apply Ext.drew) | (with_reducible apply Ext.drewN) | (with_reducible refine Ext.trans ?_ (by assumption)))))).mono ?_); rintro e wk ⟨vk, rfl, hbk, hxk⟩; (obtain ⟨pk, Ak, nk, ck, rfl⟩ := hbk.1.shape))
        | (go_at_call 25; (with_reducible refine (abs_b _ _ _ _ (BigB.ext (by assumption) (by repeat (first | (with_reducible exact Ext.refl _) | (with_reducible apply Ext.drew) | (with_reducible apply Ext.drewN) | (with_reducible refine Ext.trans ?_ (by assumption)))))).mono ?_); rintro e wk ⟨vk, rfl, hbk, hxk⟩; (obtain ⟨pk, Ak, nk, ck, rfl⟩ := hbk.1.shape))
        | (go_at_call 20; (with_reducible refine (Cmp_eqb _ _ _ _ _ _ _ (BigB.ext (by assumption) (by repeat (first | (with_reducible exact Ext.refl _) | (with_reducible apply Ext.drew) | (with_reducible apply Ext.drewN) | (with_reducible refine Ext.trans ?_ (by assumption))))) (BigB.ext (by assumption) (by repeat (first | (with_reducible exact Ext.refl _) | (with_reducible apply Ext.drew) | (with_reducible apply Ext.drewN) | (with_reducible refine Ext.trans ?_ (by assumption))))) (by first | exact Int.add_comm _ _ | exact Int.mul_comm _ _ | exact Int.add_assoc _ _ _ | exact Int.mul_assoc _ _ _ | exact Int.mul_add _ _ _ | exact Int.sub_eq_add_neg | assumption | exact rfl)).mono ?_); rintro e wk ⟨rfl, hxk⟩)
        | (go_at_call 20; (with_reducible refine (Cmp_b _ _ _ _ _ _ _ (BigB.ext (by assumption) (by repeat (first | (with_reducible exact Ext.refl _) | (with_reducible apply Ext.drew) | (with_reducible apply Ext.drewN) | (with_reducible refine Ext.trans ?_ (by assumption))))) (BigB.ext (by assumption) (by repeat (first | (with_reducible exact Ext.refl _) | (with_reducible apply Ext.drew) | (with_reducible apply Ext.drewN) | (with_reducible refine Ext.trans ?_ (by assumption)))))).mono ?_); rintro e wk ⟨rfl, hxk⟩)
        | (go_at_call 16; (with_reducible refine (Sign_b _ _ _ _ (BigB.ext (by assumption) (by repeat (first | (with_reducible exact Ext.refl _) | (with_reducible apply Ext.drew) | (with_reducible apply Ext.drewN) | (with_reducible refine Ext.trans ?_ (by assumption)))))).mono ?_); rintro e wk ⟨rfl, hxk⟩)
      )
    all_goals go_wp2_with fail
    all_goals go_ret
    all_goals exact ⟨rfl, hE1.trans (show Later V _ by first | assumption | (apply Later.drew; assumption) | (apply Later.drewN; assumption))⟩
end Go.Proofs.YtnojllmidpdbcaaDoor.Big

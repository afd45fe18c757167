/- Walk: proves of the laws of ilp, at a leaf. -/
import Derived.Test.YthafabkjidifeaaIQ
import Derived.Test.YthafabkjidifeaaIC
import Derived.Test.YthafabkjidifeaaLV8
import Derived.Test.YthafabkjidifeaaIBC
set_option linter.unusedVariables false
set_option linter.unusedSimpArgs false
namespace Go.Proofs.Ythafabkjidifeaa.Lp
open Go.RowKit Go.Proofs.Ythafabkjidifeaa.Big Go.Proofs.Ythafabkjidifeaa.Rt

theorem ProbV.objs {w : World} {p : Prob} {Ao : Option Addr} {n co : Nat} {r : Value} (h : ProbV w (.agg #[.slice Ao n co, r]) p) : RatsV w Ao n co p.obj := by
  obtain ⟨Ao', co', Ar', cr', e, h1, -⟩ := h
  injection e with e
  have e1 : Value.slice Ao n co = Value.slice Ao' p.n co' := by
    have := congrArg (fun a : Array Value => a[0]?) e
    simpa using this
  injection e1 with e1 e2 e3
  subst e1 e3
  rw [e2]
  exact h1
set_option maxHeartbeats 2000000 in
set_option maxRecDepth 100000 in
theorem proves_leafT (x : Value) (p : Prob) (V : Int) (nb lb a b K m0 : Nat) (A : Option Addr) (c : Nat) (y : Nat → Rat) (w : World) (hx : ProbV w x p) (hcan : CanI p 6 68 m0) (NB : Box w nb 95 (NodeC (-1) 0 none none true A p.m c)) (hY : RatsV w A p.m c y) (hYB : ∀ j, j < p.m → QB K (y j)) (hK : K ≤ 134217730) (LB : Box w lb 3 #[.int .i64 (a : Int)]) (ha : a = b + 1) (hb : b ≤ 1000000) (hR : p.Refutes y) :
    Calls Try.prog 25 #[x, .pointer (some ⟨nb, 0, none⟩), .int .i64 V, .pointer (some ⟨lb, 0, none⟩)] w (PvPost lb b w) := by
  have HCB : Hid (combB p p.m y = true) := Lib.hid (combB_iff.2 ⟨rfl, hR.1⟩)
  have HRF := Lib.hid hR
  clear hR
  have HVAL := Lib.hid hcan.val
  have HC := Lib.hid hcan.coef
  have HO := Lib.hid hcan.obj
  have HR := Lib.hid hcan.right
  have HY := Lib.hid hYB
  have hcn := hcan.n
  have hT2 : 10000000000 ≤ 137438953472 := by decide
  have hT3 : 2 + 3 + K ≤ 137438953472 := by omega
  have HT : Hid (1 + p.m * (2 + 3 + K + 1) ≤ 10000000000) := Lib.hid (by
    have h1 := Nat.mul_le_mul hcan.m (show 2 + 3 + K + 1 ≤ 134217736 by omega)
    omega)
  have r1 : IntKind.i64.wrap ((a : Int) - 1) = (b : Int) := by rw [show (a : Int) - 1 = (b : Int) by omega]; exact IntWalk.i64_in _ (by omega)
  clear ha hcan hYB hK
  have hYl := hY.1
  obtain ⟨Ao, co, Ar, cr, rfl, -⟩ := id hx
  have PB := Box.new w 39 #[.slice Ao p.n co, .slice Ar p.m cr]
  have hE0 : Ext w (w.alloc (.cells #[.slice Ao p.n co, .slice Ar p.m cr] 39)) := (Ext.refl w).alloc _
  have hlw := LB.lt
  have hnl : nb ≠ lb := Box.neE (E := 95) (E' := 3) NB LB (by decide)
  go_enter Try.func25, Try.ntmps25
  go_upto_region 1 with fail
  generalize (w.alloc (.cells #[.slice Ao p.n co, .slice Ar p.m cr] 39)) = V0 at *
  obtain ⟨pb, hpb⟩ : ∃ x, x = w.heap.size := ⟨_, rfl⟩
  rw [← hpb] at PB ⊢
  have hpl : pb ≠ lb := by omega
  clear hpb
  have LB0 := LB.ext hE0
  have l0 := LB0.c0
  have z0 := LB0.frozen 0
  have hnz : ∀ W, (binOp BinOp.eql 30 (.pointer (some ⟨nb, 0, none⟩)) (.pointer none)).run Try.prog W = .ok (.bool false) W := fun _ => by kernel_rfl
  go_upto_region 2 with fail
  have hF : Fr (PLb lb) V0 (V0.setCell ⟨lb, 0, none⟩ (.int .i64 b)) := (Fr.refl (PLb lb) V0).set (p := ⟨lb, 0, none⟩) (show lb = lb from rfl) (fun z => by rw [l0]; intro e; cases e) _
  have LB1 : Box (V0.setCell ⟨lb, 0, none⟩ (.int .i64 b)) lb 3 #[.int .i64 b] := LB0.set 0 _
  have hF1 : Fr (PLb lb) w (V0.setCell ⟨lb, 0, none⟩ (.int .i64 b)) := (Fr.of hE0).trans hF
  have PB1 := PB.far (p := ⟨lb, 0, none⟩) hpl (.int .i64 b)
  have hx1 := (hx.ext hE0).frB hF (E := 3) (by decide) LB0
  have NB1 := hF.box (NB.ext hE0) hnl
  clear l0 z0 hF LB0 PB hE0 hx
  generalize (V0.setCell ⟨lb, 0, none⟩ (.int .i64 b)) = V1 at *
  have l0 := LB1.c0
  have hY1 : RatsV V1 A p.m c y := hY.fr hF1 (Box.norow (E := 3) LB (by decide))
  have hnn : ∀ W, (binOp BinOp.neq 30 (.pointer none) (.pointer none)).run Try.prog W = .ok (.bool false) W := fun _ => by kernel_rfl
  have i0 : decide ((b : Int) < 0) = false := by simp
  go_upto_region 4 with fail
  clear hnz l0
  have n2 : V1.cell? ⟨nb, 2, none⟩ = some (.pointer none) := NB1.cell 2
  have n3 : V1.cell? ⟨nb, 3, none⟩ = some (.pointer none) := NB1.cell 3
  go_upto_region 6 with fail
  clear n2 n3 i0 hnn hY LB hlw NB
  have k0 : ∀ w', Later V1 w' → w'.cell? ⟨pb, 0, none⟩ = some (.slice Ao p.n co) := fun w' h => (PB1.ext h).c0
  have k1 : ∀ w', Later V1 w' → w'.cell? ⟨pb, 1, none⟩ = some (.slice Ar p.m cr) := fun w' h => (PB1.ext h).c1
  have k5 : ∀ w', Later V1 w' → w'.cell? ⟨nb, 5, none⟩ = some (.slice A p.m c) := fun w' h => (NB1.ext h).cell 5
  have ks := Later.refl V1
  go_cut [9, 10, 11] (fun v9 v10 v11 wx => ∃ (bl bq : Nat) (f : Nat → Rat) (z : Rat), v9 = .slice (some ⟨bl, 0, none⟩) p.n p.n ∧ v10 = .pointer (some ⟨bq, 0, none⟩) ∧ v11 = .bool true ∧ RowR wx bl p.n f ∧ RBox wx bq z 10000000000 ∧ (∀ j, j < p.n → QB 10000000000 (f j)) ∧ ((∀ j, j < p.n → f j = p.left y j) ∧ z = p.rhs y) ∧ Ext V1 wx)
  case first =>
    go_region_held3 (fun w' => Later V1 w') ((repeat (first | assumption | apply Later.drew | apply Later.drewN | apply Later.alloc | (refine Later.set ?_ (by first | exact Nat.le_refl _ | exact Nat.le_succ _ | exact Later.size (by assumption) | exact Nat.le_succ_of_le (Later.size (by assumption))) _) | (refine Later.step ?_ (by assumption))))) (first
      | (go_at_call 44; (with_reducible refine (combine_b _ p A p.m c y 2 3 K 10000000000 _ (ProbV.ext hx1 (by repeat (first | (with_reducible exact Ext.refl _) | (with_reducible apply Ext.drew) | (with_reducible apply Ext.drewN) | (with_reducible apply Ext.alloc)))) HVAL.out (RatsV.ext hY1 (by repeat (first | (with_reducible exact Ext.refl _) | (with_reducible apply Ext.drew) | (with_reducible apply Ext.drewN) | (with_reducible apply Ext.alloc)))) HC.out HR.out HY.out HT.out hT2 hT3).mono ?_); rintro e wk ⟨bl, q, A3, n3, c3, q', A3', n3', c3', f, z, rfl, hL, hZ, hB, hvl, hxk, hbl⟩; (rw [HCB.out] at hvl ⊢); (replace hvl := hvl rfl); (have hSk := Later.step (by assumption) hxk); (try (have bq := boxAd' hxk)); (try (have bq := boxA' hxk)); (try (have hnb : bl ≠ V1.heap.size := by (have hbl := hbl; simp at hbl; omega))); (try (have q0 := bq.c0; have q1 := bq.c1; have q2 := bq.c2; have q3 := bq.c3; have f0 := bq.frozen 0; have f1 := bq.frozen 1; have f2 := bq.frozen 2; have f3 := bq.frozen 3)))
      )
    all_goals (go_wp2_with fail; go_meet)
    all_goals first
      | exact ⟨bl, _, f, z, rfl, rfl, rfl, hL.fr (fr4 bq _ _ _ _) hnb, ⟨_, _, _, _, _, _, _, _, bq.set4 _ _ _ _, ⟨(RatV.put hZ.1 bq).1, hZ.2⟩⟩, hB, hvl, Ext.set (Ext.set (Ext.set (Ext.set (show Ext V1 _ from hSk) (by first | exact Nat.le_refl _ | exact Later.size (by assumption)) _) (by first | exact Nat.le_refl _ | exact Later.size (by assumption)) _) (by first | exact Nat.le_refl _ | exact Later.size (by assumption)) _) (by first | exact Nat.le_refl _ | exact Later.size (by assumption)) _⟩
      | exact ⟨bl, _, f, z, rfl, rfl, rfl, hL.ext ((Ext.refl _).alloc _), ⟨_, _, _, _, _, _, _, _, Box.new _ _ _, hZ.ext ((Ext.refl _).alloc _)⟩, hB, hvl, Ext.alloc (show Ext V1 _ from hSk) _⟩
  case rest =>
  obtain ⟨bl, bq, f, z, rfl, rfl, rfl, hL, hQB, hB, ⟨hfl, hzr⟩, hx2⟩ := hcut
  rename_i hK
  refine hK _ _ ?_
  clear hK k0 k1 k5 ks
  have HB := Lib.hid hB
  have HFL := Lib.hid hfl
  have HZR := Lib.hid hzr
  clear hB hfl hzr HCB HT HC HR HY hY1
  have NB2 := NB1.ext hx2
  have PB2 := PB1.ext hx2
  have LB2 := LB1.ext hx2
  have hX2 := hx1.ext hx2
  have hF2 := hF1.trans (Fr.of hx2)
  clear NB1 PB1 LB1 hx1 hx2 hF1
  have n0 : wc.cell? ⟨nb, 0, none⟩ = some (.int .i64 (-1)) := NB2.cell 0
  have n1 : wc.cell? ⟨nb, 1, none⟩ = some (.int .i64 0) := NB2.cell 1
  go_upto_region 9 with fail
  clear n0 n1
  go_wp2_with fail
  go_loopw [134] (fun i wr => ∃ j : Nat, j ≤ p.n ∧ i = .int .i64 j ∧ Ext wc wr) (fun i _ => p.n - (intOf i).toNat)
  case atStart => exact ⟨0, by omega, rfl, Ext.refl wc⟩
  case round =>
    obtain ⟨j, hj, rfl, hx⟩ := hrel
    by_cases hlt : j < p.n
    · obtain ⟨p3, A3, m3, c3, p3', A3', m3', c3', a0, a1, a2, a3, hr3⟩ := (hL.ext hx).at hlt
      have hrB : RatB wr (.agg #[.bool p3, .slice A3 m3 c3, .bool p3', .slice A3' m3' c3']) (f j) 10000000000 := ⟨hr3, HB.out j hlt⟩
      obtain ⟨g, hg⟩ : ∃ g, g = (f j).num.sign := ⟨_, rfl⟩
      have HG : Hid ((f j).num.sign = g) := Lib.hid hg.symm
      have e1 : g = 0 ∨ g = 1 := by
        have h0 : (0 : Rat) ≤ f j := by rw [HFL.out j hlt]; exact HRF.out.2.1 j hlt
        rw [hg]
        rcases sign_cases (f j).num with ⟨h, h'⟩ | ⟨h, h'⟩ | ⟨h, h'⟩ <;> rw [h']
        · have := num_neg.2 h; exact absurd this (by grind)
        · exact .inl rfl
        · exact .inr rfl
      have k4 : ∀ w', Later wr w' → w'.cell? ⟨nb, 4, none⟩ = some (.bool true) := fun w' h => (NB2.ext (hx.trans h)).cell 4
      have ka0 : ∀ w', Later wr w' → w'.cell? ⟨bl, j * 4, none⟩ = some _ := fun w' h => Later.cell h a0
      have ka1 : ∀ w', Later wr w' → w'.cell? ⟨bl, j * 4 + 1, none⟩ = some _ := fun w' h => Later.cell h a1
      have ka2 : ∀ w', Later wr w' → w'.cell? ⟨bl, j * 4 + 2, none⟩ = some _ := fun w' h => Later.cell h a2
      have ka3 : ∀ w', Later wr w' → w'.cell? ⟨bl, j * 4 + 3, none⟩ = some _ := fun w' h => Later.cell h a3
      have ks := Later.refl wr
      have i1 : (0 : Int) ≤ (j : Int) := by omega
      have i2 : (j : Int) < (p.n : Int) := by omega
      clear a0 a1 a2 a3 hr3 hg
      go_upto_region 12 with fail
      rcases e1 with rfl | rfl
      all_goals (
        refine wp_region_held_drew (S := fun w' => Later wr w') (by kernel_rfl) ?_ (fun hHeld => ?_)
        · (try dsimp only); (repeat (first | assumption | apply Later.drew | apply Later.drewN | apply Later.alloc | (refine Later.step ?_ (by assumption))))
        refine wpAnyH_take (i := 0) (oi := { dst := some 137, op := Op.move (Operand.tmp 1), type := 30, pos := "law.go:183", after := #[], guard := none }) (v := ?_) rfl (by kernel_rfl) (by kernel_rfl) (by kernel_rfl) (fun _ _ _ h => h) (Or.inl ⟨by rfl, ?_⟩) (by assumption) ?_
        rotate_left
        · intro w hSw; (try dsimp only at hSw); go_simp; try (with_reducible rfl)
        try simp only [Act.put, List.setIfInBounds_toArray, List.set_cons_zero, List.set_cons_succ]
        refine wpAnyH_take (i := 1) (oi := { dst := some 138, op := Op.nilCheck (Operand.tmp 137), type := 0, pos := "law.go:183", after := #[{ on := 0, ground := Ground.data }], guard := none }) (v := ?_) rfl (by kernel_rfl) (by kernel_rfl) (by kernel_rfl) (fun _ _ _ h => h) (Or.inl ⟨by rfl, ?_⟩) (by assumption) ?_
        rotate_left
        · intro w hSw; (try dsimp only at hSw); go_simp; try (with_reducible rfl)
        try simp only [Act.put, List.setIfInBounds_toArray, List.set_cons_zero, List.set_cons_succ]
        refine wpAnyH_take (i := 2) (oi := { dst := some 139, op := Op.fieldAddr 95 (Operand.tmp 138) 4, type := 0, pos := "law.go:183", after := #[{ on := 1, ground := Ground.data }], guard := none }) (v := ?_) rfl (by kernel_rfl) (by kernel_rfl) (by kernel_rfl) (fun _ _ _ h => h) (Or.inl ⟨by rfl, ?_⟩) (by assumption) ?_
        rotate_left
        · intro w hSw; (try dsimp only at hSw); go_simp; try (with_reducible rfl)
        try simp only [Act.put, List.setIfInBounds_toArray, List.set_cons_zero, List.set_cons_succ]
        refine wpAnyH_take (i := 3) (oi := { dst := some 140, op := Op.load 4 (Operand.tmp 139), type := 4, pos := "law.go:183", after := #[{ on := 2, ground := Ground.data }], guard := none }) (v := ?_) rfl (by kernel_rfl) (by kernel_rfl) (by kernel_rfl) (fun _ _ _ h => h) (Or.inl ⟨by rfl, ?_⟩) (by assumption) ?_
        rotate_left
        · intro w hSw; (try dsimp only at hSw); go_simp; try (with_reducible rfl)
        try simp only [Act.put, List.setIfInBounds_toArray, List.set_cons_zero, List.set_cons_succ]
        refine wpAnyH_take (i := 4) (oi := { dst := some 141, op := Op.move (Operand.tmp 140), type := 4, pos := "law.go:183", after := #[{ on := 3, ground := Ground.data }], guard := none }) (v := ?_) rfl (by kernel_rfl) (by kernel_rfl) (by kernel_rfl) (fun _ _ _ h => h) (Or.inl ⟨by rfl, ?_⟩) (by assumption) ?_
        rotate_left
        · intro w hSw; (try dsimp only at hSw); go_simp; try (with_reducible rfl)
        try simp only [Act.put, List.setIfInBounds_toArray, List.set_cons_zero, List.set_cons_succ]
        refine wpAnyH_take (i := 5) (oi := { dst := some 142, op := Op.move (Operand.tmp 9), type := 36, pos := "law.go:183", after := #[{ on := 4, ground := Ground.guard }], guard := some (4, true) }) (v := ?_) rfl (by kernel_rfl) (by kernel_rfl) (by kernel_rfl) (fun _ _ _ h => h) (Or.inl ⟨by rfl, ?_⟩) (by assumption) ?_
        rotate_left
        · intro w hSw; (try dsimp only at hSw); go_simp; try (with_reducible rfl)
        try simp only [Act.put, List.setIfInBounds_toArray, List.set_cons_zero, List.set_cons_succ]
        refine wpAnyH_take (i := 6) (oi := { dst := some 143, op := Op.move (Operand.tmp 12), type := 3, pos := "law.go:183", after := #[{ on := 4, ground := Ground.guard }], guard := some (4, true) }) (v := ?_) rfl (by kernel_rfl) (by kernel_rfl) (by kernel_rfl) (fun _ _ _ h => h) (Or.inl ⟨by rfl, ?_⟩) (by assumption) ?_
        rotate_left
        · intro w hSw; (try dsimp only at hSw); go_simp; try (with_reducible rfl)
        try simp only [Act.put, List.setIfInBounds_toArray, List.set_cons_zero, List.set_cons_succ]
        refine wpAnyH_take (i := 7) (oi := { dst := some 144, op := Op.indexAddr 36 (Operand.tmp 142) (Operand.tmp 143), type := 0, pos := "law.go:183", after := #[{ on := 5, ground := Ground.data }, { on := 6, ground := Ground.data }, { on := 4, ground := Ground.guard }], guard := some (4, true) }) (v := ?_) rfl (by kernel_rfl) (by kernel_rfl) (by kernel_rfl) (fun _ _ _ h => h) (Or.inl ⟨by rfl, ?_⟩) (by assumption) ?_
        rotate_left
        · intro w hSw; (try dsimp only at hSw); go_simp; try (with_reducible rfl)
        try simp only [Act.put, List.setIfInBounds_toArray, List.set_cons_zero, List.set_cons_succ]
        refine wpAnyH_take (i := 8) (oi := { dst := some 145, op := Op.load 59 (Operand.tmp 144), type := 59, pos := "law.go:183", after := #[{ on := 7, ground := Ground.data }, { on := 4, ground := Ground.guard }], guard := some (4, true) }) (v := ?_) rfl (by kernel_rfl) (by kernel_rfl) (by kernel_rfl) (fun _ _ _ h => h) (Or.inl ⟨by rfl, ?_⟩) (by assumption) ?_
        rotate_left
        · intro w hSw; (try dsimp only at hSw); go_simp; try (with_reducible rfl)
        try simp only [Act.put, List.setIfInBounds_toArray, List.set_cons_zero, List.set_cons_succ]
        refine wpAnyH_ready (rs := [9]) (by kernel_rfl) (by simp) ?_
        refine AllReadyH.cons (o := { dst := some 146, op := Op.call { callee := Callee.value (Operand.func 45), args := #[Operand.tmp 145], argTypes := #[59] }, type := 3, pos := "law.go:183", after := #[{ on := 8, ground := Ground.data }, { on := 4, ground := Ground.chain }, { on := 4, ground := Ground.guard }], guard := some (4, true) }) rfl (fun K hK => ?_) ?_
        · go_simp
          first
            | (go_at_call 45; (with_reducible refine (RatSign_b _ (f j) 10000000000 _ (RatB.ext hrB (by repeat (first | (with_reducible exact Ext.refl _) | (with_reducible apply Ext.drew) | (with_reducible apply Ext.drewN) | (with_reducible refine Ext.trans ?_ (by assumption)))))).mono ?_); rintro e wk ⟨rfl, hxk⟩; (rw [HG.out]))
            | skip
          try (go_wp2_with fail)
          refine hK.out _ _ ?_ (fun hHeld => ?_)
          · (try dsimp only); (repeat (first | assumption | apply Later.drew | apply Later.drewN | apply Later.alloc | (refine Later.step ?_ (by assumption))))
          clear hK K
          try simp only [Act.put, List.setIfInBounds_toArray, List.set_cons_zero, List.set_cons_succ]
          refine wpAnyH_take (i := 10) (oi := { dst := some 147, op := Op.binOp BinOp.lss 3 (Operand.tmp 146) (Operand.const (Value.int IntKind.i64 0)) 3, type := 4, pos := "law.go:183", after := #[{ on := 9, ground := Ground.data }, { on := 4, ground := Ground.guard }], guard := some (4, true) }) (v := ?_) rfl (by kernel_rfl) (by kernel_rfl) (by kernel_rfl) (fun _ _ _ h => h) (Or.inl ⟨by rfl, ?_⟩) (by assumption) ?_
          rotate_left
          · intro w hSw; (try dsimp only at hSw); go_simp; try (with_reducible rfl)
          try simp only [Act.put, List.setIfInBounds_toArray, List.set_cons_zero, List.set_cons_succ]
          refine wpAnyH_take (i := 11) (oi := { dst := some 148, op := Op.pick (Operand.tmp 141) (Operand.tmp 147) (Operand.const (Value.bool false)), type := 4, pos := "law.go:183", after := #[{ on := 4, ground := Ground.data }, { on := 10, ground := Ground.data }], guard := none }) (v := ?_) rfl (by kernel_rfl) (by kernel_rfl) (by kernel_rfl) (fun _ _ _ h => h) (Or.inl ⟨by rfl, ?_⟩) (by assumption) ?_
          rotate_left
          · intro w hSw; (try dsimp only at hSw); go_simp; try (with_reducible rfl)
          try simp only [Act.put, List.setIfInBounds_toArray, List.set_cons_zero, List.set_cons_succ]
          refine wpAnyH_take (i := 12) (oi := { dst := some 149, op := Op.move (Operand.tmp 148), type := 4, pos := "law.go:183", after := #[{ on := 11, ground := Ground.data }, { on := 9, ground := Ground.chain }], guard := none }) (v := ?_) rfl (by kernel_rfl) (by kernel_rfl) (by kernel_rfl) (fun _ _ _ h => h) (Or.inl ⟨by rfl, ?_⟩) (by assumption) ?_
          rotate_left
          · intro w hSw; (try dsimp only at hSw); go_simp; try (with_reducible rfl)
          try simp only [Act.put, List.setIfInBounds_toArray, List.set_cons_zero, List.set_cons_succ]
          refine wpAnyH_take (i := 13) (oi := { dst := some 150, op := Op.move (Operand.tmp 1), type := 30, pos := "law.go:183", after := #[{ on := 12, ground := Ground.guard }], guard := some (12, false) }) (v := ?_) rfl (by kernel_rfl) (by kernel_rfl) (by kernel_rfl) (fun _ _ _ h => h) (Or.inl ⟨by rfl, ?_⟩) (by assumption) ?_
          rotate_left
          · intro w hSw; (try dsimp only at hSw); go_simp; try (with_reducible rfl)
          try simp only [Act.put, List.setIfInBounds_toArray, List.set_cons_zero, List.set_cons_succ]
          refine wpAnyH_take (i := 14) (oi := { dst := some 151, op := Op.nilCheck (Operand.tmp 150), type := 0, pos := "law.go:183", after := #[{ on := 13, ground := Ground.data }, { on := 12, ground := Ground.guard }], guard := some (12, false) }) (v := ?_) rfl (by kernel_rfl) (by kernel_rfl) (by kernel_rfl) (fun _ _ _ h => h) (Or.inl ⟨by rfl, ?_⟩) (by assumption) ?_
          rotate_left
          · intro w hSw; (try dsimp only at hSw); go_simp; try (with_reducible rfl)
          try simp only [Act.put, List.setIfInBounds_toArray, List.set_cons_zero, List.set_cons_succ]
          refine wpAnyH_take (i := 15) (oi := { dst := some 152, op := Op.fieldAddr 95 (Operand.tmp 151) 4, type := 0, pos := "law.go:183", after := #[{ on := 14, ground := Ground.data }, { on := 12, ground := Ground.guard }], guard := some (12, false) }) (v := ?_) rfl (by kernel_rfl) (by kernel_rfl) (by kernel_rfl) (fun _ _ _ h => h) (Or.inl ⟨by rfl, ?_⟩) (by assumption) ?_
          rotate_left
          · intro w hSw; (try dsimp only at hSw); go_simp; try (with_reducible rfl)
          try simp only [Act.put, List.setIfInBounds_toArray, List.set_cons_zero, List.set_cons_succ]
          refine wpAnyH_take (i := 16) (oi := { dst := some 153, op := Op.load 4 (Operand.tmp 152), type := 4, pos := "law.go:183", after := #[{ on := 15, ground := Ground.data }, { on := 12, ground := Ground.guard }], guard := some (12, false) }) (v := ?_) rfl (by kernel_rfl) (by kernel_rfl) (by kernel_rfl) (fun _ _ _ h => h) (Or.inl ⟨by rfl, ?_⟩) (by assumption) ?_
          rotate_left
          · intro w hSw; (try dsimp only at hSw); go_simp; try (with_reducible rfl)
          try simp only [Act.put, List.setIfInBounds_toArray, List.set_cons_zero, List.set_cons_succ]
          refine wpAnyH_take (i := 17) (oi := { dst := some 154, op := Op.unOp UnOp.not 4 (Operand.tmp 153), type := 4, pos := "law.go:183", after := #[{ on := 16, ground := Ground.data }, { on := 12, ground := Ground.guard }], guard := some (12, false) }) (v := ?_) rfl (by kernel_rfl) (by kernel_rfl) (by kernel_rfl) (fun _ _ _ h => h) (Or.inl ⟨by rfl, ?_⟩) (by assumption) ?_
          rotate_left
          · intro w hSw; (try dsimp only at hSw); go_simp; try (with_reducible rfl)
          try simp only [Act.put, List.setIfInBounds_toArray, List.set_cons_zero, List.set_cons_succ]
          refine wpAnyH_take (i := 18) (oi := { dst := some 155, op := Op.move (Operand.tmp 154), type := 4, pos := "law.go:183", after := #[{ on := 17, ground := Ground.data }, { on := 12, ground := Ground.chain }, { on := 12, ground := Ground.guard }], guard := some (12, false) }) (v := ?_) rfl (by kernel_rfl) (by kernel_rfl) (by kernel_rfl) (fun _ _ _ h => h) (Or.inl ⟨by rfl, ?_⟩) (by assumption) ?_
          rotate_left
          · intro w hSw; (try dsimp only at hSw); go_simp; try (with_reducible rfl)
          try simp only [Act.put, List.setIfInBounds_toArray, List.set_cons_zero, List.set_cons_succ]
          refine wpAnyH_take (i := 19) (oi := { dst := some 156, op := Op.move (Operand.tmp 9), type := 36, pos := "law.go:183", after := #[{ on := 18, ground := Ground.guard }], guard := some (18, true) }) (v := undef) rfl (by kernel_rfl) (by kernel_rfl) (by kernel_rfl) (fun _ _ _ h => h) (Or.inr ⟨by rfl, rfl⟩) (by assumption) ?_
          try simp only [Act.put, List.setIfInBounds_toArray, List.set_cons_zero, List.set_cons_succ]
          refine wpAnyH_take (i := 20) (oi := { dst := some 157, op := Op.move (Operand.tmp 12), type := 3, pos := "law.go:183", after := #[{ on := 18, ground := Ground.guard }], guard := some (18, true) }) (v := undef) rfl (by kernel_rfl) (by kernel_rfl) (by kernel_rfl) (fun _ _ _ h => h) (Or.inr ⟨by rfl, rfl⟩) (by assumption) ?_
          try simp only [Act.put, List.setIfInBounds_toArray, List.set_cons_zero, List.set_cons_succ]
          refine wpAnyH_take (i := 21) (oi := { dst := some 158, op := Op.indexAddr 36 (Operand.tmp 156) (Operand.tmp 157), type := 0, pos := "law.go:183", after := #[{ on := 19, ground := Ground.data }, { on := 20, ground := Ground.data }, { on := 18, ground := Ground.guard }], guard := some (18, true) }) (v := undef) rfl (by kernel_rfl) (by kernel_rfl) (by kernel_rfl) (fun _ _ _ h => h) (Or.inr ⟨by rfl, rfl⟩) (by assumption) ?_
          try simp only [Act.put, List.setIfInBounds_toArray, List.set_cons_zero, List.set_cons_succ]
          refine wpAnyH_take (i := 22) (oi := { dst := some 159, op := Op.load 59 (Operand.tmp 158), type := 59, pos := "law.go:183", after := #[{ on := 21, ground := Ground.data }, { on := 18, ground := Ground.guard }], guard := some (18, true) }) (v := undef) rfl (by kernel_rfl) (by kernel_rfl) (by kernel_rfl) (fun _ _ _ h => h) (Or.inr ⟨by rfl, rfl⟩) (by assumption) ?_
          try simp only [Act.put, List.setIfInBounds_toArray, List.set_cons_zero, List.set_cons_succ]
          refine wpAnyH_take (i := 23) (oi := { dst := some 160, op := Op.fieldAddr 39 (Operand.tmp 4) 0, type := 0, pos := "law.go:183", after := #[{ on := 18, ground := Ground.guard }], guard := some (18, true) }) (v := undef) rfl (by kernel_rfl) (by kernel_rfl) (by kernel_rfl) (fun _ _ _ h => h) (Or.inr ⟨by rfl, rfl⟩) (by assumption) ?_
          try simp only [Act.put, List.setIfInBounds_toArray, List.set_cons_zero, List.set_cons_succ]
          refine wpAnyH_take (i := 24) (oi := { dst := some 161, op := Op.load 36 (Operand.tmp 160), type := 36, pos := "law.go:183", after := #[{ on := 23, ground := Ground.data }, { on := 18, ground := Ground.guard }], guard := some (18, true) }) (v := undef) rfl (by kernel_rfl) (by kernel_rfl) (by kernel_rfl) (fun _ _ _ h => h) (Or.inr ⟨by rfl, rfl⟩) (by assumption) ?_
          try simp only [Act.put, List.setIfInBounds_toArray, List.set_cons_zero, List.set_cons_succ]
          refine wpAnyH_take (i := 25) (oi := { dst := some 162, op := Op.move (Operand.tmp 12), type := 3, pos := "law.go:183", after := #[{ on := 18, ground := Ground.guard }], guard := some (18, true) }) (v := undef) rfl (by kernel_rfl) (by kernel_rfl) (by kernel_rfl) (fun _ _ _ h => h) (Or.inr ⟨by rfl, rfl⟩) (by assumption) ?_
          try simp only [Act.put, List.setIfInBounds_toArray, List.set_cons_zero, List.set_cons_succ]
          refine wpAnyH_take (i := 26) (oi := { dst := some 163, op := Op.indexAddr 36 (Operand.tmp 161) (Operand.tmp 162), type := 0, pos := "law.go:183", after := #[{ on := 24, ground := Ground.data }, { on := 25, ground := Ground.data }, { on := 18, ground := Ground.guard }], guard := some (18, true) }) (v := undef) rfl (by kernel_rfl) (by kernel_rfl) (by kernel_rfl) (fun _ _ _ h => h) (Or.inr ⟨by rfl, rfl⟩) (by assumption) ?_
          try simp only [Act.put, List.setIfInBounds_toArray, List.set_cons_zero, List.set_cons_succ]
          refine wpAnyH_take (i := 27) (oi := { dst := some 164, op := Op.load 59 (Operand.tmp 163), type := 59, pos := "law.go:183", after := #[{ on := 26, ground := Ground.data }, { on := 18, ground := Ground.guard }], guard := some (18, true) }) (v := undef) rfl (by kernel_rfl) (by kernel_rfl) (by kernel_rfl) (fun _ _ _ h => h) (Or.inr ⟨by rfl, rfl⟩) (by assumption) ?_
          try simp only [Act.put, List.setIfInBounds_toArray, List.set_cons_zero, List.set_cons_succ]
          refine wpAnyH_take (i := 28) (oi := { dst := some 165, op := Op.call { callee := Callee.value (Operand.func 28), args := #[Operand.tmp 159, Operand.tmp 164], argTypes := #[59, 59] }, type := 3, pos := "law.go:183", after := #[{ on := 22, ground := Ground.data }, { on := 27, ground := Ground.data }, { on := 18, ground := Ground.chain }, { on := 18, ground := Ground.guard }], guard := some (18, true) }) (v := undef) rfl (by kernel_rfl) (by kernel_rfl) (by kernel_rfl) (fun _ _ _ h => h) (Or.inr ⟨by rfl, rfl⟩) (by assumption) ?_
          try simp only [Act.put, List.setIfInBounds_toArray, List.set_cons_zero, List.set_cons_succ]
          refine wpAnyH_take (i := 29) (oi := { dst := some 166, op := Op.binOp BinOp.lss 3 (Operand.tmp 165) (Operand.const (Value.int IntKind.i64 0)) 3, type := 4, pos := "law.go:183", after := #[{ on := 28, ground := Ground.data }, { on := 18, ground := Ground.guard }], guard := some (18, true) }) (v := undef) rfl (by kernel_rfl) (by kernel_rfl) (by kernel_rfl) (fun _ _ _ h => h) (Or.inr ⟨by rfl, rfl⟩) (by assumption) ?_
          try simp only [Act.put, List.setIfInBounds_toArray, List.set_cons_zero, List.set_cons_succ]
          refine wpAnyH_take (i := 30) (oi := { dst := some 167, op := Op.pick (Operand.tmp 155) (Operand.tmp 166) (Operand.const (Value.bool false)), type := 4, pos := "law.go:183", after := #[{ on := 18, ground := Ground.data }, { on := 29, ground := Ground.data }, { on := 12, ground := Ground.guard }], guard := some (12, false) }) (v := ?_) rfl (by kernel_rfl) (by kernel_rfl) (by kernel_rfl) (fun _ _ _ h => h) (Or.inl ⟨by rfl, ?_⟩) (by assumption) ?_
          rotate_left
          · intro w hSw; (try dsimp only at hSw); go_simp; try (with_reducible rfl)
          try simp only [Act.put, List.setIfInBounds_toArray, List.set_cons_zero, List.set_cons_succ]
          refine wpAnyH_take (i := 31) (oi := { dst := some 168, op := Op.pick (Operand.tmp 149) (Operand.const (Value.bool true)) (Operand.tmp 167), type := 4, pos := "law.go:183", after := #[{ on := 12, ground := Ground.data }, { on := 30, ground := Ground.data }], guard := none }) (v := ?_) rfl (by kernel_rfl) (by kernel_rfl) (by kernel_rfl) (fun _ _ _ h => h) (Or.inl ⟨by rfl, ?_⟩) (by assumption) ?_
          rotate_left
          · intro w hSw; (try dsimp only at hSw); go_simp; try (with_reducible rfl)
          try simp only [Act.put, List.setIfInBounds_toArray, List.set_cons_zero, List.set_cons_succ]
          refine wpAnyH_done (by kernel_rfl) ?_ _
          have hHL : Later wr _ := hHeld
          go_wp2_with fail
          go_roundw
          case rel => exact ⟨j + 1, by omega, by go_num, hx.trans hHL⟩
          case measure => simp [intOf]; omega
        exact AllReadyH.nil)
    · obtain rfl : j = p.n := by omega
      obtain ⟨x1, y1, B1, B2, d1, d2, d3, d4, hb, hr⟩ := hQB.ext hx
      have s0 := hb.c0
      have s1 := hb.c1
      have s2 := hb.c2
      have s3 := hb.c3
      have n4 : wr.cell? ⟨nb, 4, none⟩ = some (.bool true) := (NB2.ext hx).cell 4
      have e1 : decide (z.num.sign < 0) = true := by
        have h0 : z < 0 := by rw [HZR.out]; exact HRF.out.2.2
        rcases sign_cases z.num with ⟨h, h'⟩ | ⟨h, h'⟩ | ⟨h, h'⟩ <;> rw [h']
        · rfl
        · have := Rat.num_eq_zero.1 h; exact absurd h0 (by rw [this]; grind)
        · have := num_pos.2 h; exact absurd h0 (by grind)
      obtain ⟨g, hg⟩ : ∃ g, g = z.num.sign := ⟨_, rfl⟩
      rw [← hg] at e1
      go_wp2_with fail
      refine (RatSign_b _ z 10000000000 _ hr).mono ?_
      rintro e w3 ⟨rfl, hx3⟩
      rw [← hg]
      clear hg s0 s1 s2 s3 n4
      go_wp2_with fail
      go_ret
      exact ⟨rfl, (LB2.ext hx).ext hx3, hF2.trans (Fr.of (hx.trans hx3))⟩
set_option maxHeartbeats 2000000 in
set_option maxRecDepth 100000 in
theorem proves_leafF (x : Value) (p : Prob) (V : Int) (nb lb a b K m0 : Nat) (A : Option Addr) (c : Nat) (y : Nat → Rat) (w : World) (hx : ProbV w x p) (hcan : CanI p 6 68 m0) (NB : Box w nb 95 (NodeC (-1) 0 none none false A p.m c)) (hY : RatsV w A p.m c y) (hYB : ∀ j, j < p.m → QB K (y j)) (hK : K ≤ 134217730) (LB : Box w lb 3 #[.int .i64 (a : Int)]) (ha : a = b + 1) (hb : b ≤ 1000000) (zz : Rat) (hR : p.Proves y zz) (hzz : zz.floor ≤ V) (hV : fit V = true) :
    Calls Try.prog 25 #[x, .pointer (some ⟨nb, 0, none⟩), .int .i64 V, .pointer (some ⟨lb, 0, none⟩)] w (PvPost lb b w) := by
  have HCB : Hid (combB p p.m y = true) := Lib.hid (combB_iff.2 ⟨rfl, hR.1⟩)
  have HRF := Lib.hid hR
  have HZZ : Hid (zz < (V : Rat) + ((1 : Int) : Rat)) := Lib.hid (by
    have h1 : zz < ((zz.floor + 1 : Int) : Rat) := Rat.lt_floor_add_one zz
    have h2 : ((zz.floor + 1 : Int) : Rat) ≤ ((V + 1 : Int) : Rat) := Rat.intCast_le_intCast.2 (by omega)
    rw [Rat.intCast_add V 1] at h2
    grind)
  obtain ⟨v1, v2⟩ := fit_iff.1 hV
  clear hR hzz hV
  have HVAL := Lib.hid hcan.val
  have HC := Lib.hid hcan.coef
  have HO := Lib.hid hcan.obj
  have HR := Lib.hid hcan.right
  have HY := Lib.hid hYB
  have hcn := hcan.n
  have hT2 : 10000000000 ≤ 137438953472 := by decide
  have hT3 : 2 + 3 + K ≤ 137438953472 := by omega
  have HT : Hid (1 + p.m * (2 + 3 + K + 1) ≤ 10000000000) := Lib.hid (by
    have h1 := Nat.mul_le_mul hcan.m (show 2 + 3 + K + 1 ≤ 134217736 by omega)
    omega)
  have r1 : IntKind.i64.wrap ((a : Int) - 1) = (b : Int) := by rw [show (a : Int) - 1 = (b : Int) by omega]; exact IntWalk.i64_in _ (by omega)
  clear ha hcan hYB hK
  have hYl := hY.1
  obtain ⟨Ao, co, Ar, cr, rfl, -⟩ := id hx
  have PB := Box.new w 39 #[.slice Ao p.n co, .slice Ar p.m cr]
  have hE0 : Ext w (w.alloc (.cells #[.slice Ao p.n co, .slice Ar p.m cr] 39)) := (Ext.refl w).alloc _
  have hlw := LB.lt
  have hnl : nb ≠ lb := Box.neE (E := 95) (E' := 3) NB LB (by decide)
  go_enter Try.func25, Try.ntmps25
  go_upto_region 1 with fail
  generalize (w.alloc (.cells #[.slice Ao p.n co, .slice Ar p.m cr] 39)) = V0 at *
  obtain ⟨pb, hpb⟩ : ∃ x, x = w.heap.size := ⟨_, rfl⟩
  rw [← hpb] at PB ⊢
  have hpl : pb ≠ lb := by omega
  clear hpb
  have LB0 := LB.ext hE0
  have l0 := LB0.c0
  have z0 := LB0.frozen 0
  have hnz : ∀ W, (binOp BinOp.eql 30 (.pointer (some ⟨nb, 0, none⟩)) (.pointer none)).run Try.prog W = .ok (.bool false) W := fun _ => by kernel_rfl
  go_upto_region 2 with fail
  have hF : Fr (PLb lb) V0 (V0.setCell ⟨lb, 0, none⟩ (.int .i64 b)) := (Fr.refl (PLb lb) V0).set (p := ⟨lb, 0, none⟩) (show lb = lb from rfl) (fun z => by rw [l0]; intro e; cases e) _
  have LB1 : Box (V0.setCell ⟨lb, 0, none⟩ (.int .i64 b)) lb 3 #[.int .i64 b] := LB0.set 0 _
  have hF1 : Fr (PLb lb) w (V0.setCell ⟨lb, 0, none⟩ (.int .i64 b)) := (Fr.of hE0).trans hF
  have PB1 := PB.far (p := ⟨lb, 0, none⟩) hpl (.int .i64 b)
  have hx1 := (hx.ext hE0).frB hF (E := 3) (by decide) LB0
  have NB1 := hF.box (NB.ext hE0) hnl
  clear l0 z0 hF LB0 PB hE0 hx
  generalize (V0.setCell ⟨lb, 0, none⟩ (.int .i64 b)) = V1 at *
  have l0 := LB1.c0
  have hY1 : RatsV V1 A p.m c y := hY.fr hF1 (Box.norow (E := 3) LB (by decide))
  have hnn : ∀ W, (binOp BinOp.neq 30 (.pointer none) (.pointer none)).run Try.prog W = .ok (.bool false) W := fun _ => by kernel_rfl
  have i0 : decide ((b : Int) < 0) = false := by simp
  go_upto_region 4 with fail
  clear hnz l0
  have n2 : V1.cell? ⟨nb, 2, none⟩ = some (.pointer none) := NB1.cell 2
  have n3 : V1.cell? ⟨nb, 3, none⟩ = some (.pointer none) := NB1.cell 3
  go_upto_region 6 with fail
  clear n2 n3 i0 hnn hY LB hlw NB
  have k0 : ∀ w', Later V1 w' → w'.cell? ⟨pb, 0, none⟩ = some (.slice Ao p.n co) := fun w' h => (PB1.ext h).c0
  have k1 : ∀ w', Later V1 w' → w'.cell? ⟨pb, 1, none⟩ = some (.slice Ar p.m cr) := fun w' h => (PB1.ext h).c1
  have k5 : ∀ w', Later V1 w' → w'.cell? ⟨nb, 5, none⟩ = some (.slice A p.m c) := fun w' h => (NB1.ext h).cell 5
  have ks := Later.refl V1
  go_cut [9, 10, 11] (fun v9 v10 v11 wx => ∃ (bl bq : Nat) (f : Nat → Rat) (z : Rat), v9 = .slice (some ⟨bl, 0, none⟩) p.n p.n ∧ v10 = .pointer (some ⟨bq, 0, none⟩) ∧ v11 = .bool true ∧ RowR wx bl p.n f ∧ RBox wx bq z 10000000000 ∧ (∀ j, j < p.n → QB 10000000000 (f j)) ∧ ((∀ j, j < p.n → f j = p.left y j) ∧ z = p.rhs y) ∧ Ext V1 wx)
  case first =>
    go_region_held3 (fun w' => Later V1 w') ((repeat (first | assumption | apply Later.drew | apply Later.drewN | apply Later.alloc | (refine Later.set ?_ (by first | exact Nat.le_refl _ | exact Nat.le_succ _ | exact Later.size (by assumption) | exact Nat.le_succ_of_le (Later.size (by assumption))) _) | (refine Later.step ?_ (by assumption))))) (first
      | (go_at_call 44; (with_reducible refine (combine_b _ p A p.m c y 2 3 K 10000000000 _ (ProbV.ext hx1 (by repeat (first | (with_reducible exact Ext.refl _) | (with_reducible apply Ext.drew) | (with_reducible apply Ext.drewN) | (with_reducible apply Ext.alloc)))) HVAL.out (RatsV.ext hY1 (by repeat (first | (with_reducible exact Ext.refl _) | (with_reducible apply Ext.drew) | (with_reducible apply Ext.drewN) | (with_reducible apply Ext.alloc)))) HC.out HR.out HY.out HT.out hT2 hT3).mono ?_); rintro e wk ⟨bl, q, A3, n3, c3, q', A3', n3', c3', f, z, rfl, hL, hZ, hB, hvl, hxk, hbl⟩; (rw [HCB.out] at hvl ⊢); (replace hvl := hvl rfl); (have hSk := Later.step (by assumption) hxk); (try (have bq := boxAd' hxk)); (try (have bq := boxA' hxk)); (try (have hnb : bl ≠ V1.heap.size := by (have hbl := hbl; simp at hbl; omega))); (try (have q0 := bq.c0; have q1 := bq.c1; have q2 := bq.c2; have q3 := bq.c3; have f0 := bq.frozen 0; have f1 := bq.frozen 1; have f2 := bq.frozen 2; have f3 := bq.frozen 3)))
      )
    all_goals (go_wp2_with fail; go_meet)
    all_goals first
      | exact ⟨bl, _, f, z, rfl, rfl, rfl, hL.fr (fr4 bq _ _ _ _) hnb, ⟨_, _, _, _, _, _, _, _, bq.set4 _ _ _ _, ⟨(RatV.put hZ.1 bq).1, hZ.2⟩⟩, hB, hvl, Ext.set (Ext.set (Ext.set (Ext.set (show Ext V1 _ from hSk) (by first | exact Nat.le_refl _ | exact Later.size (by assumption)) _) (by first | exact Nat.le_refl _ | exact Later.size (by assumption)) _) (by first | exact Nat.le_refl _ | exact Later.size (by assumption)) _) (by first | exact Nat.le_refl _ | exact Later.size (by assumption)) _⟩
      | exact ⟨bl, _, f, z, rfl, rfl, rfl, hL.ext ((Ext.refl _).alloc _), ⟨_, _, _, _, _, _, _, _, Box.new _ _ _, hZ.ext ((Ext.refl _).alloc _)⟩, hB, hvl, Ext.alloc (show Ext V1 _ from hSk) _⟩
  case rest =>
  obtain ⟨bl, bq, f, z, rfl, rfl, rfl, hL, hQB, hB, ⟨hfl, hzr⟩, hx2⟩ := hcut
  rename_i hK
  refine hK _ _ ?_
  clear hK k0 k1 k5 ks
  have HB := Lib.hid hB
  have HFL := Lib.hid hfl
  have HZR := Lib.hid hzr
  clear hB hfl hzr HCB HT HC HR HY hY1
  have NB2 := NB1.ext hx2
  have PB2 := PB1.ext hx2
  have LB2 := LB1.ext hx2
  have hX2 := hx1.ext hx2
  have hF2 := hF1.trans (Fr.of hx2)
  clear NB1 PB1 LB1 hx1 hx2 hF1
  have n0 : wc.cell? ⟨nb, 0, none⟩ = some (.int .i64 (-1)) := NB2.cell 0
  have n1 : wc.cell? ⟨nb, 1, none⟩ = some (.int .i64 0) := NB2.cell 1
  go_upto_region 9 with fail
  clear n0 n1
  go_wp2_with fail
  go_loopw [134] (fun i wr => ∃ j : Nat, j ≤ p.n ∧ i = .int .i64 j ∧ Ext wc wr) (fun i _ => p.n - (intOf i).toNat)
  case atStart => exact ⟨0, by omega, rfl, Ext.refl wc⟩
  case round =>
    obtain ⟨j, hj, rfl, hx⟩ := hrel
    by_cases hlt : j < p.n
    · obtain ⟨p3, A3, m3, c3, p3', A3', m3', c3', a0, a1, a2, a3, hr3⟩ := (hL.ext hx).at hlt
      have hob := (hX2.ext hx).objs
      have hoc := hob.1
      obtain ⟨bo, rfl, hbo⟩ := hob.2.2 (by omega)
      obtain ⟨p4, A4, m4, c4, p4', A4', m4', c4', b0, b1, b2, b3, hr4⟩ := hbo.at hlt
      have hrB : RatB wr (.agg #[.bool p3, .slice A3 m3 c3, .bool p3', .slice A3' m3' c3']) (f j) 10000000000 := ⟨hr3, HB.out j hlt⟩
      have hoB : RatB wr (.agg #[.bool p4, .slice A4 m4 c4, .bool p4', .slice A4' m4' c4']) (p.obj j) 2 := ⟨hr4, HO.out j hlt⟩
      obtain ⟨g, hg⟩ : ∃ g, g = cmpQ (f j) (p.obj j) := ⟨_, rfl⟩
      have HG : Hid (cmpQ (f j) (p.obj j) = g) := Lib.hid hg.symm
      have e1 : decide (g < 0) = false := by
        have h0 : p.obj j ≤ f j := by rw [HFL.out j hlt]; exact HRF.out.2.1 j hlt
        rw [hg]
        rcases cmpQ_cases (f j) (p.obj j) with ⟨h, -⟩ | ⟨-, h⟩ | ⟨-, h⟩
        · exact absurd h0 (Rat.not_le.2 h)
        · rw [h]; rfl
        · rw [h]; rfl
      have k4 : ∀ w', Later wr w' → w'.cell? ⟨nb, 4, none⟩ = some (.bool false) := fun w' h => (NB2.ext (hx.trans h)).cell 4
      have k5 : ∀ w', Later wr w' → w'.cell? ⟨pb, 0, none⟩ = some (.slice (some ⟨bo, 0, none⟩) p.n co) := fun w' h => (PB2.ext (hx.trans h)).c0
      have ka0 : ∀ w', Later wr w' → w'.cell? ⟨bl, j * 4, none⟩ = some _ := fun w' h => Later.cell h a0
      have ka1 : ∀ w', Later wr w' → w'.cell? ⟨bl, j * 4 + 1, none⟩ = some _ := fun w' h => Later.cell h a1
      have ka2 : ∀ w', Later wr w' → w'.cell? ⟨bl, j * 4 + 2, none⟩ = some _ := fun w' h => Later.cell h a2
      have ka3 : ∀ w', Later wr w' → w'.cell? ⟨bl, j * 4 + 3, none⟩ = some _ := fun w' h => Later.cell h a3
      have kb0 : ∀ w', Later wr w' → w'.cell? ⟨bo, j * 4, none⟩ = some _ := fun w' h => Later.cell h b0
      have kb1 : ∀ w', Later wr w' → w'.cell? ⟨bo, j * 4 + 1, none⟩ = some _ := fun w' h => Later.cell h b1
      have kb2 : ∀ w', Later wr w' → w'.cell? ⟨bo, j * 4 + 2, none⟩ = some _ := fun w' h => Later.cell h b2
      have kb3 : ∀ w', Later wr w' → w'.cell? ⟨bo, j * 4 + 3, none⟩ = some _ := fun w' h => Later.cell h b3
      have ks := Later.refl wr
      have i1 : (0 : Int) ≤ (j : Int) := by omega
      have i2 : (j : Int) < (p.n : Int) := by omega
      clear a0 a1 a2 a3 b0 b1 b2 b3 hr3 hr4 hg hob hbo
      go_upto_region 12 with fail
      refine wp_region_held_drew (S := fun w' => Later wr w') (by kernel_rfl) ?_ (fun hHeld => ?_)
      · (try dsimp only); (repeat (first | assumption | apply Later.drew | apply Later.drewN | apply Later.alloc | (refine Later.step ?_ (by assumption))))
      refine wpAnyH_take (i := 0) (oi := { dst := some 137, op := Op.move (Operand.tmp 1), type := 30, pos := "law.go:183", after := #[], guard := none }) (v := ?_) rfl (by kernel_rfl) (by kernel_rfl) (by kernel_rfl) (fun _ _ _ h => h) (Or.inl ⟨by rfl, ?_⟩) (by assumption) ?_
      rotate_left
      · intro w hSw; (try dsimp only at hSw); go_simp; try (with_reducible rfl)
      try simp only [Act.put, List.setIfInBounds_toArray, List.set_cons_zero, List.set_cons_succ]
      refine wpAnyH_take (i := 1) (oi := { dst := some 138, op := Op.nilCheck (Operand.tmp 137), type := 0, pos := "law.go:183", after := #[{ on := 0, ground := Ground.data }], guard := none }) (v := ?_) rfl (by kernel_rfl) (by kernel_rfl) (by kernel_rfl) (fun _ _ _ h => h) (Or.inl ⟨by rfl, ?_⟩) (by assumption) ?_
      rotate_left
      · intro w hSw; (try dsimp only at hSw); go_simp; try (with_reducible rfl)
      try simp only [Act.put, List.setIfInBounds_toArray, List.set_cons_zero, List.set_cons_succ]
      refine wpAnyH_take (i := 2) (oi := { dst := some 139, op := Op.fieldAddr 95 (Operand.tmp 138) 4, type := 0, pos := "law.go:183", after := #[{ on := 1, ground := Ground.data }], guard := none }) (v := ?_) rfl (by kernel_rfl) (by kernel_rfl) (by kernel_rfl) (fun _ _ _ h => h) (Or.inl ⟨by rfl, ?_⟩) (by assumption) ?_
      rotate_left
      · intro w hSw; (try dsimp only at hSw); go_simp; try (with_reducible rfl)
      try simp only [Act.put, List.setIfInBounds_toArray, List.set_cons_zero, List.set_cons_succ]
      refine wpAnyH_take (i := 3) (oi := { dst := some 140, op := Op.load 4 (Operand.tmp 139), type := 4, pos := "law.go:183", after := #[{ on := 2, ground := Ground.data }], guard := none }) (v := ?_) rfl (by kernel_rfl) (by kernel_rfl) (by kernel_rfl) (fun _ _ _ h => h) (Or.inl ⟨by rfl, ?_⟩) (by assumption) ?_
      rotate_left
      · intro w hSw; (try dsimp only at hSw); go_simp; try (with_reducible rfl)
      try simp only [Act.put, List.setIfInBounds_toArray, List.set_cons_zero, List.set_cons_succ]
      refine wpAnyH_take (i := 4) (oi := { dst := some 141, op := Op.move (Operand.tmp 140), type := 4, pos := "law.go:183", after := #[{ on := 3, ground := Ground.data }], guard := none }) (v := ?_) rfl (by kernel_rfl) (by kernel_rfl) (by kernel_rfl) (fun _ _ _ h => h) (Or.inl ⟨by rfl, ?_⟩) (by assumption) ?_
      rotate_left
      · intro w hSw; (try dsimp only at hSw); go_simp; try (with_reducible rfl)
      try simp only [Act.put, List.setIfInBounds_toArray, List.set_cons_zero, List.set_cons_succ]
      refine wpAnyH_take (i := 5) (oi := { dst := some 142, op := Op.move (Operand.tmp 9), type := 36, pos := "law.go:183", after := #[{ on := 4, ground := Ground.guard }], guard := some (4, true) }) (v := undef) rfl (by kernel_rfl) (by kernel_rfl) (by kernel_rfl) (fun _ _ _ h => h) (Or.inr ⟨by rfl, rfl⟩) (by assumption) ?_
      try simp only [Act.put, List.setIfInBounds_toArray, List.set_cons_zero, List.set_cons_succ]
      refine wpAnyH_take (i := 6) (oi := { dst := some 143, op := Op.move (Operand.tmp 12), type := 3, pos := "law.go:183", after := #[{ on := 4, ground := Ground.guard }], guard := some (4, true) }) (v := undef) rfl (by kernel_rfl) (by kernel_rfl) (by kernel_rfl) (fun _ _ _ h => h) (Or.inr ⟨by rfl, rfl⟩) (by assumption) ?_
      try simp only [Act.put, List.setIfInBounds_toArray, List.set_cons_zero, List.set_cons_succ]
      refine wpAnyH_take (i := 7) (oi := { dst := some 144, op := Op.indexAddr 36 (Operand.tmp 142) (Operand.tmp 143), type := 0, pos := "law.go:183", after := #[{ on := 5, ground := Ground.data }, { on := 6, ground := Ground.data }, { on := 4, ground := Ground.guard }], guard := some (4, true) }) (v := undef) rfl (by kernel_rfl) (by kernel_rfl) (by kernel_rfl) (fun _ _ _ h => h) (Or.inr ⟨by rfl, rfl⟩) (by assumption) ?_
      try simp only [Act.put, List.setIfInBounds_toArray, List.set_cons_zero, List.set_cons_succ]
      refine wpAnyH_take (i := 8) (oi := { dst := some 145, op := Op.load 59 (Operand.tmp 144), type := 59, pos := "law.go:183", after := #[{ on := 7, ground := Ground.data }, { on := 4, ground := Ground.guard }], guard := some (4, true) }) (v := undef) rfl (by kernel_rfl) (by kernel_rfl) (by kernel_rfl) (fun _ _ _ h => h) (Or.inr ⟨by rfl, rfl⟩) (by assumption) ?_
      try simp only [Act.put, List.setIfInBounds_toArray, List.set_cons_zero, List.set_cons_succ]
      refine wpAnyH_take (i := 9) (oi := { dst := some 146, op := Op.call { callee := Callee.value (Operand.func 45), args := #[Operand.tmp 145], argTypes := #[59] }, type := 3, pos := "law.go:183", after := #[{ on := 8, ground := Ground.data }, { on := 4, ground := Ground.chain }, { on := 4, ground := Ground.guard }], guard := some (4, true) }) (v := undef) rfl (by kernel_rfl) (by kernel_rfl) (by kernel_rfl) (fun _ _ _ h => h) (Or.inr ⟨by rfl, rfl⟩) (by assumption) ?_
      try simp only [Act.put, List.setIfInBounds_toArray, List.set_cons_zero, List.set_cons_succ]
      refine wpAnyH_take (i := 10) (oi := { dst := some 147, op := Op.binOp BinOp.lss 3 (Operand.tmp 146) (Operand.const (Value.int IntKind.i64 0)) 3, type := 4, pos := "law.go:183", after := #[{ on := 9, ground := Ground.data }, { on := 4, ground := Ground.guard }], guard := some (4, true) }) (v := undef) rfl (by kernel_rfl) (by kernel_rfl) (by kernel_rfl) (fun _ _ _ h => h) (Or.inr ⟨by rfl, rfl⟩) (by assumption) ?_
      try simp only [Act.put, List.setIfInBounds_toArray, List.set_cons_zero, List.set_cons_succ]
      refine wpAnyH_take (i := 11) (oi := { dst := some 148, op := Op.pick (Operand.tmp 141) (Operand.tmp 147) (Operand.const (Value.bool false)), type := 4, pos := "law.go:183", after := #[{ on := 4, ground := Ground.data }, { on := 10, ground := Ground.data }], guard := none }) (v := ?_) rfl (by kernel_rfl) (by kernel_rfl) (by kernel_rfl) (fun _ _ _ h => h) (Or.inl ⟨by rfl, ?_⟩) (by assumption) ?_
      rotate_left
      · intro w hSw; (try dsimp only at hSw); go_simp; try (with_reducible rfl)
      try simp only [Act.put, List.setIfInBounds_toArray, List.set_cons_zero, List.set_cons_succ]
      refine wpAnyH_take (i := 12) (oi := { dst := some 149, op := Op.move (Operand.tmp 148), type := 4, pos := "law.go:183", after := #[{ on := 11, ground := Ground.data }, { on := 9, ground := Ground.chain }], guard := none }) (v := ?_) rfl (by kernel_rfl) (by kernel_rfl) (by kernel_rfl) (fun _ _ _ h => h) (Or.inl ⟨by rfl, ?_⟩) (by assumption) ?_
      rotate_left
      · intro w hSw; (try dsimp only at hSw); go_simp; try (with_reducible rfl)
      try simp only [Act.put, List.setIfInBounds_toArray, List.set_cons_zero, List.set_cons_succ]
      refine wpAnyH_take (i := 13) (oi := { dst := some 150, op := Op.move (Operand.tmp 1), type := 30, pos := "law.go:183", after := #[{ on := 12, ground := Ground.guard }], guard := some (12, false) }) (v := ?_) rfl (by kernel_rfl) (by kernel_rfl) (by kernel_rfl) (fun _ _ _ h => h) (Or.inl ⟨by rfl, ?_⟩) (by assumption) ?_
      rotate_left
      · intro w hSw; (try dsimp only at hSw); go_simp; try (with_reducible rfl)
      try simp only [Act.put, List.setIfInBounds_toArray, List.set_cons_zero, List.set_cons_succ]
      refine wpAnyH_take (i := 14) (oi := { dst := some 151, op := Op.nilCheck (Operand.tmp 150), type := 0, pos := "law.go:183", after := #[{ on := 13, ground := Ground.data }, { on := 12, ground := Ground.guard }], guard := some (12, false) }) (v := ?_) rfl (by kernel_rfl) (by kernel_rfl) (by kernel_rfl) (fun _ _ _ h => h) (Or.inl ⟨by rfl, ?_⟩) (by assumption) ?_
      rotate_left
      · intro w hSw; (try dsimp only at hSw); go_simp; try (with_reducible rfl)
      try simp only [Act.put, List.setIfInBounds_toArray, List.set_cons_zero, List.set_cons_succ]
      refine wpAnyH_take (i := 15) (oi := { dst := some 152, op := Op.fieldAddr 95 (Operand.tmp 151) 4, type := 0, pos := "law.go:183", after := #[{ on := 14, ground := Ground.data }, { on := 12, ground := Ground.guard }], guard := some (12, false) }) (v := ?_) rfl (by kernel_rfl) (by kernel_rfl) (by kernel_rfl) (fun _ _ _ h => h) (Or.inl ⟨by rfl, ?_⟩) (by assumption) ?_
      rotate_left
      · intro w hSw; (try dsimp only at hSw); go_simp; try (with_reducible rfl)
      try simp only [Act.put, List.setIfInBounds_toArray, List.set_cons_zero, List.set_cons_succ]
      refine wpAnyH_take (i := 16) (oi := { dst := some 153, op := Op.load 4 (Operand.tmp 152), type := 4, pos := "law.go:183", after := #[{ on := 15, ground := Ground.data }, { on := 12, ground := Ground.guard }], guard := some (12, false) }) (v := ?_) rfl (by kernel_rfl) (by kernel_rfl) (by kernel_rfl) (fun _ _ _ h => h) (Or.inl ⟨by rfl, ?_⟩) (by assumption) ?_
      rotate_left
      · intro w hSw; (try dsimp only at hSw); go_simp; try (with_reducible rfl)
      try simp only [Act.put, List.setIfInBounds_toArray, List.set_cons_zero, List.set_cons_succ]
      refine wpAnyH_take (i := 17) (oi := { dst := some 154, op := Op.unOp UnOp.not 4 (Operand.tmp 153), type := 4, pos := "law.go:183", after := #[{ on := 16, ground := Ground.data }, { on := 12, ground := Ground.guard }], guard := some (12, false) }) (v := ?_) rfl (by kernel_rfl) (by kernel_rfl) (by kernel_rfl) (fun _ _ _ h => h) (Or.inl ⟨by rfl, ?_⟩) (by assumption) ?_
      rotate_left
      · intro w hSw; (try dsimp only at hSw); go_simp; try (with_reducible rfl)
      try simp only [Act.put, List.setIfInBounds_toArray, List.set_cons_zero, List.set_cons_succ]
      refine wpAnyH_take (i := 18) (oi := { dst := some 155, op := Op.move (Operand.tmp 154), type := 4, pos := "law.go:183", after := #[{ on := 17, ground := Ground.data }, { on := 12, ground := Ground.chain }, { on := 12, ground := Ground.guard }], guard := some (12, false) }) (v := ?_) rfl (by kernel_rfl) (by kernel_rfl) (by kernel_rfl) (fun _ _ _ h => h) (Or.inl ⟨by rfl, ?_⟩) (by assumption) ?_
      rotate_left
      · intro w hSw; (try dsimp only at hSw); go_simp; try (with_reducible rfl)
      try simp only [Act.put, List.setIfInBounds_toArray, List.set_cons_zero, List.set_cons_succ]
      refine wpAnyH_take (i := 19) (oi := { dst := some 156, op := Op.move (Operand.tmp 9), type := 36, pos := "law.go:183", after := #[{ on := 18, ground := Ground.guard }], guard := some (18, true) }) (v := ?_) rfl (by kernel_rfl) (by kernel_rfl) (by kernel_rfl) (fun _ _ _ h => h) (Or.inl ⟨by rfl, ?_⟩) (by assumption) ?_
      rotate_left
      · intro w hSw; (try dsimp only at hSw); go_simp; try (with_reducible rfl)
      try simp only [Act.put, List.setIfInBounds_toArray, List.set_cons_zero, List.set_cons_succ]
      refine wpAnyH_take (i := 20) (oi := { dst := some 157, op := Op.move (Operand.tmp 12), type := 3, pos := "law.go:183", after := #[{ on := 18, ground := Ground.guard }], guard := some (18, true) }) (v := ?_) rfl (by kernel_rfl) (by kernel_rfl) (by kernel_rfl) (fun _ _ _ h => h) (Or.inl ⟨by rfl, ?_⟩) (by assumption) ?_
      rotate_left
      · intro w hSw; (try dsimp only at hSw); go_simp; try (with_reducible rfl)
      try simp only [Act.put, List.setIfInBounds_toArray, List.set_cons_zero, List.set_cons_succ]
      refine wpAnyH_take (i := 21) (oi := { dst := some 158, op := Op.indexAddr 36 (Operand.tmp 156) (Operand.tmp 157), type := 0, pos := "law.go:183", after := #[{ on := 19, ground := Ground.data }, { on := 20, ground := Ground.data }, { on := 18, ground := Ground.guard }], guard := some (18, true) }) (v := ?_) rfl (by kernel_rfl) (by kernel_rfl) (by kernel_rfl) (fun _ _ _ h => h) (Or.inl ⟨by rfl, ?_⟩) (by assumption) ?_
      rotate_left
      · intro w hSw; (try dsimp only at hSw); go_simp; try (with_reducible rfl)
      try simp only [Act.put, List.setIfInBounds_toArray, List.set_cons_zero, List.set_cons_succ]
      refine wpAnyH_take (i := 22) (oi := { dst := some 159, op := Op.load 59 (Operand.tmp 158), type := 59, pos := "law.go:183", after := #[{ on := 21, ground := Ground.data }, { on := 18, ground := Ground.guard }], guard := some (18, true) }) (v := ?_) rfl (by kernel_rfl) (by kernel_rfl) (by kernel_rfl) (fun _ _ _ h => h) (Or.inl ⟨by rfl, ?_⟩) (by assumption) ?_
      rotate_left
      · intro w hSw; (try dsimp only at hSw); go_simp; try (with_reducible rfl)
      try simp only [Act.put, List.setIfInBounds_toArray, List.set_cons_zero, List.set_cons_succ]
      refine wpAnyH_take (i := 23) (oi := { dst := some 160, op := Op.fieldAddr 39 (Operand.tmp 4) 0, type := 0, pos := "law.go:183", after := #[{ on := 18, ground := Ground.guard }], guard := some (18, true) }) (v := ?_) rfl (by kernel_rfl) (by kernel_rfl) (by kernel_rfl) (fun _ _ _ h => h) (Or.inl ⟨by rfl, ?_⟩) (by assumption) ?_
      rotate_left
      · intro w hSw; (try dsimp only at hSw); go_simp; try (with_reducible rfl)
      try simp only [Act.put, List.setIfInBounds_toArray, List.set_cons_zero, List.set_cons_succ]
      refine wpAnyH_take (i := 24) (oi := { dst := some 161, op := Op.load 36 (Operand.tmp 160), type := 36, pos := "law.go:183", after := #[{ on := 23, ground := Ground.data }, { on := 18, ground := Ground.guard }], guard := some (18, true) }) (v := ?_) rfl (by kernel_rfl) (by kernel_rfl) (by kernel_rfl) (fun _ _ _ h => h) (Or.inl ⟨by rfl, ?_⟩) (by assumption) ?_
      rotate_left
      · intro w hSw; (try dsimp only at hSw); go_simp; try (with_reducible rfl)
      try simp only [Act.put, List.setIfInBounds_toArray, List.set_cons_zero, List.set_cons_succ]
      refine wpAnyH_take (i := 25) (oi := { dst := some 162, op := Op.move (Operand.tmp 12), type := 3, pos := "law.go:183", after := #[{ on := 18, ground := Ground.guard }], guard := some (18, true) }) (v := ?_) rfl (by kernel_rfl) (by kernel_rfl) (by kernel_rfl) (fun _ _ _ h => h) (Or.inl ⟨by rfl, ?_⟩) (by assumption) ?_
      rotate_left
      · intro w hSw; (try dsimp only at hSw); go_simp; try (with_reducible rfl)
      try simp only [Act.put, List.setIfInBounds_toArray, List.set_cons_zero, List.set_cons_succ]
      refine wpAnyH_take (i := 26) (oi := { dst := some 163, op := Op.indexAddr 36 (Operand.tmp 161) (Operand.tmp 162), type := 0, pos := "law.go:183", after := #[{ on := 24, ground := Ground.data }, { on := 25, ground := Ground.data }, { on := 18, ground := Ground.guard }], guard := some (18, true) }) (v := ?_) rfl (by kernel_rfl) (by kernel_rfl) (by kernel_rfl) (fun _ _ _ h => h) (Or.inl ⟨by rfl, ?_⟩) (by assumption) ?_
      rotate_left
      · intro w hSw; (try dsimp only at hSw); go_simp; try (with_reducible rfl)
      try simp only [Act.put, List.setIfInBounds_toArray, List.set_cons_zero, List.set_cons_succ]
      refine wpAnyH_take (i := 27) (oi := { dst := some 164, op := Op.load 59 (Operand.tmp 163), type := 59, pos := "law.go:183", after := #[{ on := 26, ground := Ground.data }, { on := 18, ground := Ground.guard }], guard := some (18, true) }) (v := ?_) rfl (by kernel_rfl) (by kernel_rfl) (by kernel_rfl) (fun _ _ _ h => h) (Or.inl ⟨by rfl, ?_⟩) (by assumption) ?_
      rotate_left
      · intro w hSw; (try dsimp only at hSw); go_simp; try (with_reducible rfl)
      try simp only [Act.put, List.setIfInBounds_toArray, List.set_cons_zero, List.set_cons_succ]
      refine wpAnyH_ready (rs := [28]) (by kernel_rfl) (by simp) ?_
      refine AllReadyH.cons (o := { dst := some 165, op := Op.call { callee := Callee.value (Operand.func 28), args := #[Operand.tmp 159, Operand.tmp 164], argTypes := #[59, 59] }, type := 3, pos := "law.go:183", after := #[{ on := 22, ground := Ground.data }, { on := 27, ground := Ground.data }, { on := 18, ground := Ground.chain }, { on := 18, ground := Ground.guard }], guard := some (18, true) }) rfl (fun K hK => ?_) ?_
      · go_simp
        first
          | (go_at_call 28; (with_reducible refine (RatCmp_b _ _ (f j) (p.obj j) 10000000000 2 _ (RatB.ext hrB (by repeat (first | (with_reducible exact Ext.refl _) | (with_reducible apply Ext.drew) | (with_reducible apply Ext.drewN) | (with_reducible refine Ext.trans ?_ (by assumption))))) (RatB.ext hoB (by repeat (first | (with_reducible exact Ext.refl _) | (with_reducible apply Ext.drew) | (with_reducible apply Ext.drewN) | (with_reducible refine Ext.trans ?_ (by assumption))))) (by decide)).mono ?_); rintro e wk ⟨rfl, hxk⟩; (rw [HG.out]))
          | skip
        try (go_wp2_with fail)
        refine hK.out _ _ ?_ (fun hHeld => ?_)
        · (try dsimp only); (repeat (first | assumption | apply Later.drew | apply Later.drewN | apply Later.alloc | (refine Later.step ?_ (by assumption))))
        clear hK K
        try simp only [Act.put, List.setIfInBounds_toArray, List.set_cons_zero, List.set_cons_succ]
        refine wpAnyH_take (i := 29) (oi := { dst := some 166, op := Op.binOp BinOp.lss 3 (Operand.tmp 165) (Operand.const (Value.int IntKind.i64 0)) 3, type := 4, pos := "law.go:183", after := #[{ on := 28, ground := Ground.data }, { on := 18, ground := Ground.guard }], guard := some (18, true) }) (v := ?_) rfl (by kernel_rfl) (by kernel_rfl) (by kernel_rfl) (fun _ _ _ h => h) (Or.inl ⟨by rfl, ?_⟩) (by assumption) ?_
        rotate_left
        · intro w hSw; (try dsimp only at hSw); go_simp; try (with_reducible rfl)
        try simp only [Act.put, List.setIfInBounds_toArray, List.set_cons_zero, List.set_cons_succ]
        refine wpAnyH_take (i := 30) (oi := { dst := some 167, op := Op.pick (Operand.tmp 155) (Operand.tmp 166) (Operand.const (Value.bool false)), type := 4, pos := "law.go:183", after := #[{ on := 18, ground := Ground.data }, { on := 29, ground := Ground.data }, { on := 12, ground := Ground.guard }], guard := some (12, false) }) (v := ?_) rfl (by kernel_rfl) (by kernel_rfl) (by kernel_rfl) (fun _ _ _ h => h) (Or.inl ⟨by rfl, ?_⟩) (by assumption) ?_
        rotate_left
        · intro w hSw; (try dsimp only at hSw); go_simp; try (with_reducible rfl)
        try simp only [Act.put, List.setIfInBounds_toArray, List.set_cons_zero, List.set_cons_succ]
        refine wpAnyH_take (i := 31) (oi := { dst := some 168, op := Op.pick (Operand.tmp 149) (Operand.const (Value.bool true)) (Operand.tmp 167), type := 4, pos := "law.go:183", after := #[{ on := 12, ground := Ground.data }, { on := 30, ground := Ground.data }], guard := none }) (v := ?_) rfl (by kernel_rfl) (by kernel_rfl) (by kernel_rfl) (fun _ _ _ h => h) (Or.inl ⟨by rfl, ?_⟩) (by assumption) ?_
        rotate_left
        · intro w hSw; (try dsimp only at hSw); go_simp; try (with_reducible rfl)
        try simp only [Act.put, List.setIfInBounds_toArray, List.set_cons_zero, List.set_cons_succ]
        refine wpAnyH_done (by kernel_rfl) ?_ _
        have hHL : Later wr _ := hHeld
        go_wp2_with fail
        go_roundw
        case rel => exact ⟨j + 1, by omega, by go_num, hx.trans hHL⟩
        case measure => simp [intOf]; omega
      exact AllReadyH.nil
    · obtain rfl : j = p.n := by omega
      obtain ⟨x1, y1, B1, B2, d1, d2, d3, d4, hb, hr⟩ := hQB.ext hx
      have k0 : ∀ w', Later wr w' → w'.cell? ⟨bq, 0, none⟩ = some _ := fun w' h => (hb.ext h).c0
      have k1 : ∀ w', Later wr w' → w'.cell? ⟨bq, 1, none⟩ = some _ := fun w' h => (hb.ext h).c1
      have k2 : ∀ w', Later wr w' → w'.cell? ⟨bq, 2, none⟩ = some _ := fun w' h => (hb.ext h).c2
      have k3 : ∀ w', Later wr w' → w'.cell? ⟨bq, 3, none⟩ = some _ := fun w' h => (hb.ext h).c3
      have n4 : wr.cell? ⟨nb, 4, none⟩ = some (.bool false) := (NB2.ext hx).cell 4
      obtain ⟨g, hg⟩ : ∃ g, g = cmpQ z ((V : Rat) + ((1 : Int) : Rat)) := ⟨_, rfl⟩
      have HG : Hid (cmpQ z ((V : Rat) + ((1 : Int) : Rat)) = g) := Lib.hid hg.symm
      have e1 : decide (g < 0) = true := by
        have h0 : z < (V : Rat) + ((1 : Int) : Rat) := by rw [HZR.out, HRF.out.2.2]; exact HZZ.out
        rw [hg]
        rcases cmpQ_cases z ((V : Rat) + ((1 : Int) : Rat)) with ⟨-, h⟩ | ⟨h, -⟩ | ⟨h, -⟩
        · rw [h]; rfl
        · exact absurd h0 (by rw [h]; exact Rat.lt_irrefl)
        · exact absurd h0 (Rat.not_lt.2 (Rat.le_of_lt h))
      have ks := Later.refl wr
      clear hg
      go_upto_region 17 with fail
      go_region_held3 (fun w' => Later wr w') ((repeat (first | assumption | apply Later.drew | apply Later.drewN | apply Later.alloc | (refine Later.step ?_ (by assumption))))) (first
        | (go_at_call 20; (with_reducible refine (RatOf_b V _ v1 v2).mono ?_); rintro e wa ⟨va, rfl, hba, hxa⟩; (obtain ⟨pa, Aa, na, ca, pa', Aa', na', ca', rfl⟩ := hba.1.shape))
        | (go_at_call 20; (with_reducible refine (RatOf_b 1 _ (by decide) (by decide)).mono ?_); rintro e wd ⟨vd, rfl, hbd, hxd⟩; (obtain ⟨pd, Ad, nd, cd, pd', Ad', nd', cd', rfl⟩ := hbd.1.shape))
        | (go_at_call 27; (with_reducible refine (RatAdd_b _ _ _ _ _ _ _ (RatB.ext hba (by repeat (first | (with_reducible exact Ext.refl _) | (with_reducible apply Ext.drew) | (with_reducible apply Ext.drewN) | (with_reducible refine Ext.trans ?_ (by assumption))))) (RatB.ext hbd (by repeat (first | (with_reducible exact Ext.refl _) | (with_reducible apply Ext.drew) | (with_reducible apply Ext.drewN) | (with_reducible refine Ext.trans ?_ (by assumption))))) (by decide)).mono ?_); rintro e we ⟨ve, rfl, hbe, hxe⟩; (obtain ⟨pe, Ae, ne, ce, pe', Ae', ne', ce', rfl⟩ := hbe.1.shape))
        | (go_at_call 28; (with_reducible refine (RatCmp_b _ _ z _ 10000000000 _ _ (RatB.ext hr (by repeat (first | (with_reducible exact Ext.refl _) | (with_reducible apply Ext.drew) | (with_reducible apply Ext.drewN) | (with_reducible refine Ext.trans ?_ (by assumption))))) (RatB.ext hbe (by repeat (first | (with_reducible exact Ext.refl _) | (with_reducible apply Ext.drew) | (with_reducible apply Ext.drewN) | (with_reducible refine Ext.trans ?_ (by assumption))))) (by decide)).mono ?_); rintro e wk ⟨rfl, hxk⟩; (rw [HG.out]))
        )
      all_goals (
        have hHL : Later wr wk := by assumption
        go_wp2_with fail
        go_ret
        exact ⟨rfl, LB2.ext (hx.trans hHL), hF2.trans (Fr.of (hx.trans hHL))⟩)
end Go.Proofs.Ythafabkjidifeaa.Lp

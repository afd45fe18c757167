/- Walk: a node of a search. -/
import Derived.Test.YtljncdcjkdgkeaaGreatDoorYIBR
import Derived.Test.YtljncdcjkdgkeaaGreatDoorYIX
import Derived.Test.YtljncdcjkdgkeaaGreatDoorYCardU
set_option linter.unusedVariables false
set_option linter.unusedSimpArgs false
namespace Go.Proofs.YtljncdcjkdgkeaaGreatDoor.Lp
open Go.RowKit Go.Proofs.YtljncdcjkdgkeaaGreatDoor.Big Go.Proofs.YtljncdcjkdgkeaaGreatDoor.Rt
def q02 (n : Nat) : Array Value := madeCells (Value.int .i64 0).cells (n * 1)
theorem infoInt : (Tryz.prog.info? 3).map (fun i => (i.zero, i.size, i.bytes)) = some (some (.int .i64 0), 1, 8) := by kernel_rfl
theorem qoz (n : Nat) (hn : n ≤ 1099511627776) (w : World) : (Instr.makeSlice 30 (.int .i64 (n : Int)) (.int .i64 (n : Int))).run Tryz.prog w = .ok (.slice (some ⟨w.heap.size, 0, none⟩) n n) (w.alloc (.cells (q02 n) 3)) := by
 obtain ⟨i0, hi, hz0, hz1, hz2⟩ := info_parts infoInt
 have h := run_make (P := Tryz.prog) w 30 3 i0 _ Tryz.underlying30 hi hz0 .i64 .i64 n n (by omega) (Int.le_refl _) (by rw [hz2]; omega) (by omega)
 simp only [Int.toNat_natCast] at h
 rw [hz1] at h
 exact h
theorem qnx {w : World} {b n : Nat} (h : Box w b 3 (q02 n)) : Pts w b n (fun _ => 0) := by
 refine ⟨_, h, by unfold q02; rw [size_madeCells]; omega, fun j hj => ?_⟩
 simp [q02, madeCells, Value.cells, hj, Nat.mod_one]
theorem qv7 (q : Rat) : q3f q = q.floor := (Rat.floor_def q).symm
set_option maxHeartbeats 4000000 in
set_option maxRecDepth 100000 in
theorem q4c (L sb n K k : Nat) (p : Prob) (s : BS) (v : Value) (w : World) (hs : qhb w sb L n s) (hv : qga w v p) (hL : L ≤ s.solved) : Calls Tryz.prog 84 #[.pointer (some ⟨sb, 0, none⟩), v] w (NPost K sb L n w (qtq L k p s)) := by
 rw [q81 hL]
 obtain ⟨fo, va, A, m, c, hSB, -, -⟩ := hs
 obtain ⟨Ao, co, Ar, cr, rfl, -⟩ := hv
 have PB := Box.new w 41 #[.slice Ao p.n co, .slice Ar p.m cr]
 have hE0 : Ext w (w.alloc (.cells #[.slice Ao p.n co, .slice Ar p.m cr] 41)) := (Ext.refl w).alloc _
 obtain ⟨so, hso⟩ : ∃ x, x = s.solved := ⟨_, rfl⟩
 rw [← hso] at hL hSB
 clear hso
 go_enter Tryz.func84, Tryz.ntmps84
 go_upto_region 1 with fail
 generalize (w.alloc (.cells #[.slice Ao p.n co, .slice Ar p.m cr] 41)) = V at *
 have SB := hSB.ext hE0
 have c0 := SB.c0
 have c1 := SB.c1
 have e1 : decide (L ≤ so) = true := by simpa using hL
 have e2 : decide ((L : Int) ≤ (so : Int)) = true := by simpa using hL
 go_quiet (fail)
 go_wp2_with fail
 exact ⟨rfl, (Fr.of (by repeat (first | exact hE0 | apply Ext.drewN | apply Ext.drew)) : Fr (fun k => k = sb) w _), rfl⟩
set_option maxHeartbeats 40000000 in
set_option maxRecDepth 100000 in
theorem node_step (L sb kk M K k : Nat) (hL2 : L ≤ 1000)
 (hIH : ∀ (p : Prob) (s : BS) (v : Value) (w : World), CanI p kk M K → qhb w sb L p.n s → qga w v p → L < s.solved + k → p.m + (L - s.solved) ≤ M → Calls Tryz.prog 84 #[.pointer (some ⟨sb, 0, none⟩), v] w (NPost (K + 2) sb L p.n w (qtq L k p s)))
 (p : Prob) (s : BS) (v : Value) (w : World) (hC : CanI p kk M K) (hS : qhb w sb L p.n s) (hv : qga w v p) (hk : L < s.solved + (k + 1)) (hM : p.m + (L - s.solved) ≤ M) (hLs : ¬ L ≤ s.solved) :
 Calls Tryz.prog 84 #[.pointer (some ⟨sb, 0, none⟩), v] w (NPost (K + 2) sb L p.n w (qtq L (k + 1) p s)) := by
 have HIH := Lib.hid hIH
 have HC := Lib.hid hC
 have hv0 := hv
 obtain ⟨Ao, co, Ar, cr, rfl, -⟩ := hv0
 obtain ⟨NF, hNF⟩ : ∃ x, x = qtq L (k + 1) p s := ⟨_, rfl⟩
 rw [← hNF]
 have HNF := Lib.hid hNF
 clear hIH hC hNF
 have PB := Box.new w 41 #[.slice Ao p.n co, .slice Ar p.m cr]
 have hE0 : Ext w (w.alloc (.cells #[.slice Ao p.n co, .slice Ar p.m cr] 41)) := (Ext.refl w).alloc _
 go_enter Tryz.func84, Tryz.ntmps84
 go_upto_region 1 with fail
 generalize (w.alloc (.cells #[.slice Ao p.n co, .slice Ar p.m cr] 41)) = V at *
 obtain ⟨pb, hpb⟩ : ∃ x, x = w.heap.size := ⟨_, rfl⟩
 rw [← hpb] at PB ⊢
 clear hpb
 have hSV := hS.ext hE0
 obtain ⟨fo, va, A, m, c, SB, -, -⟩ := id hSV
 have hpsb : pb ≠ sb := qb8 PB SB (by decide)
 have c0 := SB.c0
 have c1 := SB.c1
 obtain ⟨so, hso⟩ : ∃ x, x = s.solved := ⟨_, rfl⟩
 rw [← hso] at c1
 have HSO := Lib.hid hso
 have hLs' : so < L := by omega
 have e1 : decide (L ≤ so) = false := by simp; omega
 have e2 : decide ((L : Int) ≤ (so : Int)) = false := by simp; omega
 have r1 : IntKind.i64.wrap ((so : Int) + 1) = (so : Int) + 1 := IntWalk.i64_in _ (by omega)
 clear hso
 go_quiet (fail)
 go_upto_region 3 with fail
 have hEq : Ext V (V.drewN nq) := (Ext.refl V).drewN nq
 generalize (V.drewN nq) = V1 at *
 have hSV1 := hSV.ext hEq
 have PB := PB.ext hEq
 have hE1 := hE0.trans hEq
 have c0 := hEq.cell c0
 have c1 := hEq.cell c1
 have f1 := (SB.ext hEq).frozen 1
 obtain ⟨hST, hFT⟩ := hSV1.tick
 rw [show ((s.solved + 1 : Nat) : Int) = (so : Int) + 1 by rw [← HSO.out]; rfl] at hST hFT
 clear hE0 hEq SB hSV hSV1 e1 e2
 go_upto_region 4 with fail
 generalize (V1.setCell ⟨sb, 1, none⟩ (.int .i64 ((so : Int) + 1))) = V2 at *
 have hFw : FrS sb w V2 := (Fr.of hE1).trans hFT
 have PB := hFT.box PB hpsb
 have c2 := PB.c0
 have c3 := PB.c1
 obtain ⟨fo', va', A', m', c', SBw, -, -⟩ := id hS
 have hv2 := hv.frS hFw SBw
 obtain ⟨fo2, va2, A2, m2, c2', SB2, hbn, hbs⟩ := id hST
 clear hFT c0 c1 f1 r1 SBw hE1
 go_wp2_with fail
 refine (Solve_l _ _ K _ hv2 (fun _ => HC.out.bnd)).mono ?_
 rintro e w2 ⟨q, A, n, c, q', A', n', c', Ax, nx, cx, Ay, ny, cy, err, z, xs, ys, rfl, hz, hX, hY, hbx, hby, hres, hx2⟩
 have hres : err = p.sol.err ∧ z = p.sol.val ∧ ((err = 0 ∧ nx = p.n ∧ ny = p.m ∧ p.sol = .opt z xs ys) ∨ (err ≠ 0 ∧ nx = 0 ∧ ny = 0)) := by
  rcases hres with ⟨h, -⟩ | ⟨-, h⟩
  ·rw [HC.out.val] at h; cases h
  ·exact h
 obtain ⟨he, -, hcase⟩ := hres
 have HERR := Lib.hid he
 clear he
 have hST2 := hST.ext hx2
 have hF2 : FrS sb w w2 := hFw.step hx2
 have PB := PB.ext hx2
 have SB := SB2.ext hx2
 clear c2 c3 hST hFw SB2
 go_upto_region 5 with fail
 have XB := Box.new w2 174 #[.bool q, .slice A n c, .bool q', .slice A' n' c', .slice Ax nx cx, .slice Ay ny cy]
 have hxs : Ext w2 (w2.alloc (.cells #[.bool q, .slice A n c, .bool q', .slice A' n' c', .slice Ax nx cx, .slice Ay ny cy] 174)) := (Ext.refl w2).alloc _
 generalize (w2.alloc (.cells #[.bool q, .slice A n c, .bool q', .slice A' n' c', .slice Ax nx cx, .slice Ay ny cy] 174)) = U at *
 obtain ⟨xb, hxb⟩ : ∃ x, x = w2.heap.size := ⟨_, rfl⟩
 rw [← hxb] at XB ⊢
 clear hxb
 have hz := hz.ext hxs
 have hX := hX.ext hxs
 have hY := hY.ext hxs
 have hST3 := hST2.ext hxs
 have hF3 : FrS sb w U := hF2.step hxs
 have PB := PB.ext hxs
 have SB := SB.ext hxs
 have hv3 := (hv2.ext hx2).ext hxs
 clear hST2 hF2 hx2 hxs hres hv2
 have p0 := PB.c0
 have p1 := PB.c1
 rcases hcase with ⟨rfl, rfl, rfl, hsol⟩ | ⟨hne, rfl, rfl⟩
 case inr =>
  have he := HERR.out
  clear HERR
  obtain ⟨o, ho⟩ : ∃ o, o = p.sol := ⟨_, rfl⟩
  rw [← ho] at he
  have hsol := ho.symm
  clear ho
  cases o with
  | opt z' x' y' => exact absurd he hne
  | unb =>
    obtain rfl : err = 18 := he
    have HE : Hid (NF = .error 18) := Lib.hid (by rw [HNF.out]; exact q6h hLs hsol)
    clear hsol hne
    go_wp2_with fail
    refine ⟨rfl, ?_⟩
    rw [HE.out]
    exact ⟨hF3, rfl⟩
  | inf y0 =>
    obtain rfl : err = 17 := he
    have HE : Hid (NF = .ok (.leaf true p.m y0, s.tick)) := Lib.hid (by rw [HNF.out]; exact qu9 hLs hsol)
    have HSOL := Lib.hid hsol
    clear hsol hne
    go_wp2_with fail
    refine (Farkas_l _ _ K _ hv3 (fun _ => HC.out.bnd)).mono ?_
    rintro e w5 ⟨Af, nf, cf, ok, yf, rfl, hF1, hF2, hFa, hx5⟩
    have hFa : nf = p.m ∧ p.sol = .inf yf := by
     rcases hFa with ⟨-, -, h1, h2⟩ | ⟨-, -, h⟩
     ·exact ⟨h1, h2⟩
     ·exact absurd (by rw [HSOL.out]; rfl) (h HC.out.val)
    obtain ⟨rfl, hsol⟩ := hFa
    rw [HSOL.out] at hsol
    injection hsol with hsol
    subst hsol
    have NB := Box.new w5 79 (q89 (-1) 0 none none true Af p.m cf)
    have hxn : Ext w5 (w5.alloc (.cells (q89 (-1) 0 none none true Af p.m cf) 79)) := (Ext.refl w5).alloc _
    clear p0 p1
    go_wp2_with fail
    go_ret
    rw [HE.out]
    exact ⟨(hF3.step hx5).step hxn, _, rfl, Nat.le_trans hF3.size hx5.size, ⟨by simp, Af, cf, NB, hF1.ext hxn, hF2⟩, (hST3.ext hx5).ext hxn⟩
 case inl =>
 have HSOL := Lib.hid hsol
 have hKt := HC.out.top
 clear hsol HERR p0 p1
 have x0 := XB.c0
 have x1 := XB.c1
 have x2 : U.cell? ⟨xb, 2, none⟩ = some _ := XB.cell 2
 have x3 : U.cell? ⟨xb, 3, none⟩ = some _ := XB.cell 3
 go_wp2_with fail
 refine (qjc _ z (K + 2) _ hz (by omega)).mono ?_
 rintro e w4 ⟨v4, rfl, hb4, hx4⟩
 rw [qv7] at hb4
 obtain ⟨pf, Af, nf, cf, rfl⟩ := hb4.1.shape
 clear x0 x1 x2 x3
 go_upto_region 11 with fail
 have FB := Box.new w4 56 #[.bool pf, .slice Af nf cf]
 have hxf : Ext w4 (w4.alloc (.cells #[.bool pf, .slice Af nf cf] 56)) := (Ext.refl w4).alloc _
 generalize (w4.alloc (.cells #[.bool pf, .slice Af nf cf] 56)) = U1 at *
 obtain ⟨fb, hfb⟩ : ∃ x, x = w4.heap.size := ⟨_, rfl⟩
 rw [← hfb] at FB ⊢
 clear hfb
 have hx5 := hx4.trans hxf
 have hb4 := hb4.ext hxf
 have SB := SB.ext hx5
 have HBN := Lib.hid hbn
 have HBS := Lib.hid hbs
 clear hx4 hxf hbn hbs
 go_cut [70] (fun v wx => v = .bool (s.cut z) ∧ Ext U1 wx)
 case first =>
  have k2 : ∀ w', Later U1 w' → w'.cell? ⟨sb, 2, none⟩ = some (.bool fo2) := fun w' h => (SB.ext h).cell 2
  have k3 : ∀ w', Later U1 w' → w'.cell? ⟨sb, 3, none⟩ = some (.int .i64 va2) := fun w' h => (SB.ext h).cell 3
  have k5 : ∀ w', Later U1 w' → w'.cell? ⟨fb, 0, none⟩ = some (.bool pf) := fun w' h => (FB.ext h).c0
  have k6 : ∀ w', Later U1 w' → w'.cell? ⟨fb, 1, none⟩ = some (.slice Af nf cf) := fun w' h => (FB.ext h).c1
  have ks := Later.refl U1
  cases hbest : s.best with
  | none =>
    obtain rfl : fo2 = false := HBN.out hbest
    have HCT : Hid (s.cut z = false) := Lib.hid (by unfold BS.cut; rw [hbest])
    clear hbest HBS HBN
    refine wp_region_held_drew (S := fun w' => Later U1 w') (by kernel_rfl) ?_ (fun hHeld => ?_)
    ·(try dsimp only); (repeat (first | assumption | apply Later.drew | apply Later.drewN | apply Later.alloc | (refine Later.step ?_ (by assumption))))
    refine wpAnyH_take (i := 0) (oi := { dst := some 57, op := Op.move (Operand.tmp 0), type := 151, pos := "ilp.go:110", after := #[], guard := none }) (v := ?_) rfl (by kernel_rfl) (by kernel_rfl) (by kernel_rfl) (fun _ _ _ h => h) (Or.inl ⟨by rfl, ?_⟩) (by assumption) ?_
    rotate_left
    ·intro w hSw; (try dsimp only at hSw); go_simp; try (with_reducible rfl)
    try simp only [Act.put, sqa, sqb, sqc]
    refine wpAnyH_take (i := 1) (oi := { dst := some 58, op := Op.nilCheck (Operand.tmp 57), type := 0, pos := "ilp.go:110", after := #[{ on := 0, ground := Ground.data }], guard := none }) (v := ?_) rfl (by kernel_rfl) (by kernel_rfl) (by kernel_rfl) (fun _ _ _ h => h) (Or.inl ⟨by rfl, ?_⟩) (by assumption) ?_
    rotate_left
    ·intro w hSw; (try dsimp only at hSw); go_simp; try (with_reducible rfl)
    try simp only [Act.put, sqa, sqb, sqc]
    refine wpAnyH_take (i := 2) (oi := { dst := some 59, op := Op.fieldAddr 153 (Operand.tmp 58) 2, type := 0, pos := "ilp.go:110", after := #[{ on := 1, ground := Ground.data }], guard := none }) (v := ?_) rfl (by kernel_rfl) (by kernel_rfl) (by kernel_rfl) (fun _ _ _ h => h) (Or.inl ⟨by rfl, ?_⟩) (by assumption) ?_
    rotate_left
    ·intro w hSw; (try dsimp only at hSw); go_simp; try (with_reducible rfl)
    try simp only [Act.put, sqa, sqb, sqc]
    refine wpAnyH_take (i := 3) (oi := { dst := some 60, op := Op.load 4 (Operand.tmp 59), type := 4, pos := "ilp.go:110", after := #[{ on := 2, ground := Ground.data }], guard := none }) (v := ?_) rfl (by kernel_rfl) (by kernel_rfl) (by kernel_rfl) (fun _ _ _ h => h) (Or.inl ⟨by rfl, ?_⟩) (by assumption) ?_
    rotate_left
    ·intro w hSw; (try dsimp only at hSw); go_simp; try (with_reducible rfl)
    try simp only [Act.put, sqa, sqb, sqc]
    refine wpAnyH_take (i := 4) (oi := { dst := some 61, op := Op.move (Operand.tmp 60), type := 4, pos := "ilp.go:110", after := #[{ on := 3, ground := Ground.data }], guard := none }) (v := ?_) rfl (by kernel_rfl) (by kernel_rfl) (by kernel_rfl) (fun _ _ _ h => h) (Or.inl ⟨by rfl, ?_⟩) (by assumption) ?_
    rotate_left
    ·intro w hSw; (try dsimp only at hSw); go_simp; try (with_reducible rfl)
    try simp only [Act.put, sqa, sqb, sqc]
    refine wpAnyH_take (i := 5) (oi := { dst := some 62, op := Op.move (Operand.tmp 0), type := 151, pos := "ilp.go:110", after := #[{ on := 4, ground := Ground.guard }], guard := some (4, true) }) (v := undef) rfl (by kernel_rfl) (by kernel_rfl) (by kernel_rfl) (fun _ _ _ h => h) (Or.inr ⟨by rfl, rfl⟩) (by assumption) ?_
    try simp only [Act.put, sqa, sqb, sqc]
    refine wpAnyH_take (i := 6) (oi := { dst := some 63, op := Op.nilCheck (Operand.tmp 62), type := 0, pos := "ilp.go:110", after := #[{ on := 5, ground := Ground.data }, { on := 4, ground := Ground.guard }], guard := some (4, true) }) (v := undef) rfl (by kernel_rfl) (by kernel_rfl) (by kernel_rfl) (fun _ _ _ h => h) (Or.inr ⟨by rfl, rfl⟩) (by assumption) ?_
    try simp only [Act.put, sqa, sqb, sqc]
    refine wpAnyH_take (i := 7) (oi := { dst := some 64, op := Op.fieldAddr 153 (Operand.tmp 63) 3, type := 0, pos := "ilp.go:110", after := #[{ on := 6, ground := Ground.data }, { on := 4, ground := Ground.guard }], guard := some (4, true) }) (v := undef) rfl (by kernel_rfl) (by kernel_rfl) (by kernel_rfl) (fun _ _ _ h => h) (Or.inr ⟨by rfl, rfl⟩) (by assumption) ?_
    try simp only [Act.put, sqa, sqb, sqc]
    refine wpAnyH_take (i := 8) (oi := { dst := some 65, op := Op.load 3 (Operand.tmp 64), type := 3, pos := "ilp.go:110", after := #[{ on := 7, ground := Ground.data }, { on := 4, ground := Ground.guard }], guard := some (4, true) }) (v := undef) rfl (by kernel_rfl) (by kernel_rfl) (by kernel_rfl) (fun _ _ _ h => h) (Or.inr ⟨by rfl, rfl⟩) (by assumption) ?_
    try simp only [Act.put, sqa, sqb, sqc]
    refine wpAnyH_take (i := 9) (oi := { dst := some 66, op := Op.call { callee := Callee.value (Operand.func 46), args := #[Operand.tmp 65], argTypes := #[3] }, type := 56, pos := "ilp.go:110", after := #[{ on := 8, ground := Ground.data }, { on := 4, ground := Ground.chain }, { on := 4, ground := Ground.guard }], guard := some (4, true) }) (v := undef) rfl (by kernel_rfl) (by kernel_rfl) (by kernel_rfl) (fun _ _ _ h => h) (Or.inr ⟨by rfl, rfl⟩) (by assumption) ?_
    try simp only [Act.put, sqa, sqb, sqc]
    refine wpAnyH_take (i := 10) (oi := { dst := some 67, op := Op.load 56 (Operand.tmp 9), type := 56, pos := "ilp.go:110", after := #[{ on := 4, ground := Ground.guard }], guard := some (4, true) }) (v := undef) rfl (by kernel_rfl) (by kernel_rfl) (by kernel_rfl) (fun _ _ _ h => h) (Or.inr ⟨by rfl, rfl⟩) (by assumption) ?_
    try simp only [Act.put, sqa, sqb, sqc]
    refine wpAnyH_take (i := 11) (oi := { dst := some 68, op := Op.call { callee := Callee.value (Operand.func 45), args := #[Operand.tmp 66, Operand.tmp 67], argTypes := #[56, 56] }, type := 3, pos := "ilp.go:110", after := #[{ on := 9, ground := Ground.data }, { on := 10, ground := Ground.data }, { on := 9, ground := Ground.chain }, { on := 4, ground := Ground.guard }], guard := some (4, true) }) (v := undef) rfl (by kernel_rfl) (by kernel_rfl) (by kernel_rfl) (fun _ _ _ h => h) (Or.inr ⟨by rfl, rfl⟩) (by assumption) ?_
    try simp only [Act.put, sqa, sqb, sqc]
    refine wpAnyH_take (i := 12) (oi := { dst := some 69, op := Op.binOp BinOp.geq 3 (Operand.tmp 68) (Operand.const (Value.int IntKind.i64 0)) 3, type := 4, pos := "ilp.go:110", after := #[{ on := 11, ground := Ground.data }, { on := 4, ground := Ground.guard }], guard := some (4, true) }) (v := undef) rfl (by kernel_rfl) (by kernel_rfl) (by kernel_rfl) (fun _ _ _ h => h) (Or.inr ⟨by rfl, rfl⟩) (by assumption) ?_
    try simp only [Act.put, sqa, sqb, sqc]
    refine wpAnyH_take (i := 13) (oi := { dst := some 70, op := Op.pick (Operand.tmp 61) (Operand.tmp 69) (Operand.const (Value.bool false)), type := 4, pos := "ilp.go:110", after := #[{ on := 4, ground := Ground.data }, { on := 12, ground := Ground.data }], guard := none }) (v := ?_) rfl (by kernel_rfl) (by kernel_rfl) (by kernel_rfl) (fun _ _ _ h => h) (Or.inl ⟨by rfl, ?_⟩) (by assumption) ?_
    rotate_left
    ·intro w hSw; (try dsimp only at hSw); go_simp; try (with_reducible rfl)
    try simp only [Act.put, sqa, sqb, sqc]
    refine wpAnyH_done (by kernel_rfl) ?_ _
    go_wp2_with fail
    go_meet
    exact ⟨HCT.out ▸ rfl, by assumption⟩
  | some q9 =>
    obtain ⟨bv, bx⟩ := q9
    obtain ⟨rfl, rfl, hfv, -, -, -⟩ := HBS.out bv bx hbest
    obtain ⟨v1, v2⟩ := fit_iff.1 hfv
    have HCT : Hid (s.cut z = decide (z.floor ≤ va2)) := Lib.hid (by unfold BS.cut; rw [hbest])
    obtain ⟨S, hSd⟩ : ∃ S, S = decide (z.floor ≤ va2) := ⟨_, rfl⟩
    rw [← hSd] at HCT
    obtain ⟨cq, hcq⟩ : ∃ c, c = cmpZ va2 z.floor := ⟨_, rfl⟩
    have e9 : decide (0 ≤ cq) = S := by
     rw [hcq, hSd]
     unfold cmpZ
     by_cases h1 : va2 < z.floor
     ·rw [if_pos h1]; simp; omega
     ·rw [if_neg h1]
      by_cases h2 : z.floor < va2
      ·rw [if_pos h2]; simp; omega
      ·rw [if_neg h2]; simp; omega
    have HCQ := Lib.hid hcq
    clear hbest HBS HBN hSd hcq hfv
    go_region_held3 (fun w' => Later U1 w') ((repeat (first | assumption | apply Later.drew | apply Later.drewN | apply Later.alloc | (refine Later.step ?_ (by assumption))))) (first
     | (go_at_call 46; (with_reducible refine (Of_b va2 _ (by omega) (by omega)).mono ?_); rintro e wl ⟨vl, rfl, hbl, hxl⟩; (obtain ⟨pl, Al, nl, cl, rfl⟩ := hbl.1.shape))
     | (go_at_call 45; (with_reducible refine (qc9 _ _ _ _ _ _ _ (BigB.ext hbl eAx) (BigB.ext hb4 eAx)).mono ?_); rintro e wm ⟨rfl, hxm⟩; rw [← HCQ.out])
     )
    all_goals (
     have hL9 : Ext U1 wm := by assumption
     go_wp2_with fail
     go_meet
     exact ⟨by rw [HCT.out], hL9⟩)
 case rest =>
  obtain ⟨rfl, hx6⟩ := hcut
  rename_i hK
  refine hK _ _ ?_
  clear hK
  have hxw : Ext U wc := hx5.trans hx6
  have hX := hX.ext hxw
  have hY := hY.ext hxw
  have hSTw := hST3.ext hxw
  have hFw : FrS sb w wc := hF3.step hxw
  have PB := PB.ext hxw
  have XB := XB.ext hxw
  have FB := FB.ext hx6
  have hb4 := hb4.ext hx6
  have SB := SB.ext hx6
  have hvw := hv3.ext hxw
  clear hz hx5 hx6 hST3 hF3 hv3 hxw HBN HBS
  obtain ⟨ct, hct⟩ : ∃ c, c = s.cut z := ⟨_, rfl⟩
  rw [← hct]
  cases ct with
  | true =>
    have HE : Hid (NF = .ok (.leaf false p.m ys, s.tick)) := Lib.hid (by rw [HNF.out]; exact qrh hLs HSOL.out hct.symm)
    have x5 : wc.cell? ⟨xb, 5, none⟩ = some (.slice Ay p.m cy) := XB.cell 5
    have NB := Box.new wc 79 (q89 (-1) 0 none none false Ay p.m cy)
    have hxn : Ext wc (wc.alloc (.cells (q89 (-1) 0 none none false Ay p.m cy) 79)) := (Ext.refl wc).alloc _
    clear hct
    go_wp2_with fail
    go_ret
    rw [HE.out]
    exact ⟨hFw.step hxn, _, rfl, hFw.size, ⟨by simp, Ay, cy, NB, hY.ext hxn, hby⟩, hSTw.ext hxn⟩
  | false =>
    have HCT := Lib.hid hct.symm
    have x4 : wc.cell? ⟨xb, 4, none⟩ = some (.slice Ax p.n cx) := XB.cell 4
    have hcx := hX.1
    have hcx2 := hX.2.1
    obtain ⟨n0, hn0⟩ : ∃ n, n = p.n := ⟨_, rfl⟩
    have HN0 := Lib.hid hn0
    have hn1000 : n0 ≤ 1000 := by rw [hn0]; exact (validB_iff.1 HC.out.val).2.1
    have hn1 : 1 ≤ n0 := by rw [hn0]; exact (validB_iff.1 HC.out.val).1
    rw [← hn0] at x4 hX hcx hbx
    clear hct hn0
    have HBX := Lib.hid hbx
    have HBY := Lib.hid hby
    clear hbx hby
    obtain ⟨bX, rfl, hRX⟩ := hX.2.2 (by omega)
    go_upto_region 14 with fail
    clear x4
    go_loopw [78] (fun i wr => ∃ j : Nat, j ≤ n0 ∧ i = .int .i64 j ∧ Hid (qqr xs j = none) ∧ Ext wc wr) (fun i _ => n0 - (intOf i).toNat)
    case atStart => exact ⟨0, by omega, rfl, Lib.hid rfl, Ext.refl wc⟩
    case round =>
     obtain ⟨j, hj, rfl, HFR, hxr⟩ := hrel
     by_cases hlt : j < n0
     ·obtain ⟨p3, A3, m3, c3, p3', A3', m3', c3', a0, a1, a2, a3, hr3⟩ := (hRX.ext hxr).at hlt
      have i1 : (0 : Int) ≤ (j : Int) := by omega
      have i2 : (j : Int) < (n0 : Int) := by omega
      go_upto_region 16 with fail
      have Bx := Box.new wr 58 #[.bool p3, .slice A3 m3 c3, .bool p3', .slice A3' m3' c3']
      have hEx : Ext wr (wr.alloc (.cells #[.bool p3, .slice A3 m3 c3, .bool p3', .slice A3' m3' c3'] 58)) := (Ext.refl wr).alloc _
      generalize (wr.alloc (.cells #[.bool p3, .slice A3 m3 c3, .bool p3', .slice A3' m3' c3'] 58)) = X at *
      have hq : RatB X _ (xs j) (K + 2) := ⟨hr3.ext hEx, HBX.out j hlt⟩
      have b0 := Bx.c0
      have b1 := Bx.c1
      have b2 : X.cell? ⟨wr.heap.size, 2, none⟩ = some _ := Bx.cell 2
      have b3 : X.cell? ⟨wr.heap.size, 3, none⟩ = some _ := Bx.cell 3
      clear a0 a1 a2 a3 hr3
      go_wp2_with fail
      refine (qx6 _ (xs j) (K + 2) _ hq).mono ?_
      rintro e w5 ⟨rfl, hx5⟩
      have hxr5 := (hxr.trans hEx).trans hx5
      obtain ⟨F, hF⟩ : ∃ F, F = decide ((xs j).den = 1) := ⟨_, rfl⟩
      rw [← hF]
      cases F with
      | true =>
        have HN1 : Hid (qqr xs (j + 1) = none) := Lib.hid (qm0 HFR.out (of_decide_eq_true hF.symm))
        clear hF b0 b1 b2 b3
        go_wp2_with fail
        go_roundw
        case rel => first | exact ⟨j + 1, by omega, by go_num, HN1, hxr5⟩ | ((repeat (apply Exists.intro (α := Value))); exact ⟨⟨j + 1, by omega, by go_num, HN1, hxr5⟩, rfl⟩)
        case measure => simp [intOf]; omega
      | false =>
        have HFS : Hid (qqr xs p.n = some j) := Lib.hid (fracV_at (by rw [← HN0.out]; exact hlt) HFR.out (of_decide_eq_false hF.symm))
        have b0 := hx5.cell b0
        have b1 := hx5.cell b1
        have b2 := hx5.cell b2
        have b3 := hx5.cell b3
        clear hF
        go_wp2_with fail
        refine (qjc _ (xs j) (K + 2) _ (hq.ext hx5) (by omega)).mono ?_
        rintro e w6 ⟨v6, rfl, hb6, hx6⟩
        rw [qv7] at hb6
        obtain ⟨pg, Ag, ng, cg, rfl⟩ := hb6.1.shape
        clear b0 b1 b2 b3
        go_wp2_with fail
        refine (qnq _ _ _ _ hb6 (by omega)).mono ?_
        rintro e w7 ⟨hx7, hcs⟩
        have hxr7 := (hxr5.trans hx6).trans hx7
        rcases hcs with ⟨hft, rfl⟩ | ⟨hft, rfl⟩
        case inr =>
         have HE : Hid (NF = .error 2) := Lib.hid (by rw [HNF.out]; exact quy hLs HSOL.out HCT.out HFS.out hft)
         refine ⟨rfl, ?_⟩
         rw [HE.out]
         exact ⟨hFw.step hxr7, rfl⟩
        case inl =>
         obtain ⟨fz, hfz⟩ : ∃ x, x = (xs j).floor := ⟨_, rfl⟩
         rw [← hfz] at hft ⊢
         have HFZ := Lib.hid hfz
         clear hfz hb6
         have NB : Box (w7.alloc (.cells #[.int .i64 (j : Int), .int .i64 fz, .pointer none, .pointer none, .bool false, .slice none 0 0] 79)) w7.heap.size 79 (q89 (j : Int) fz none none false none 0 0) := Box.new w7 _ _
         have hxn : Ext w7 (w7.alloc (.cells #[.int .i64 (j : Int), .int .i64 fz, .pointer none, .pointer none, .bool false, .slice none 0 0] 79)) := (Ext.refl w7).alloc _
         have hjp : j < p.n := by rw [← HN0.out]; exact hlt
         have hSo := HSO.out
         have hCm : p.m + 1 ≤ M := by omega
         have hC1 : CanI (p.side j fz false) kk M K := HC.out.side hCm hft false
         have hC2 : CanI (p.side j fz true) kk M K := HC.out.side hCm hft true
         have hpn : p.n ≤ 1000 := (validB_iff.1 HC.out.val).2.1
         have hpm : p.m ≤ 1000 := (validB_iff.1 HC.out.val).2.2.1
         have HC1 := Lib.hid hC1
         have HC2 := Lib.hid hC2
         clear hC1 hC2
         go_upto_region 18 with fail
         generalize (w7.alloc (.cells #[.int .i64 (j : Int), .int .i64 fz, .pointer none, .pointer none, .bool false, .slice none 0 0] 79)) = U7 at *
         obtain ⟨nb, hnb⟩ : ∃ x, x = w7.heap.size := ⟨_, rfl⟩
         have hnw : w.heap.size ≤ nb := by have := hFw.size; have := hxr7.size; omega
         rw [← hnb] at NB ⊢
         have hnU : nb < U7.heap.size := NB.lt
         clear hnb
         have hxU : Ext wc U7 := hxr7.trans hxn
         have hvU := hvw.ext hxU
         have hSU := hSTw.ext hxU
         have hFU : FrS sb w U7 := hFw.step hxU
         have PBU := PB.ext hxU
         have SBU := SB.ext hxU
         have hns : nb ≠ sb := qb8 NB SBU (by decide)
         have p0 := PBU.c0
         have p1 := PBU.c1
         have n1 : U7.cell? ⟨nb, 1, none⟩ = some (.int .i64 fz) := NB.cell 1
         have hk1 : L < s.tick.solved + k := by show L < s.solved + 1 + k; omega
         have hM1 : p.m + 1 + (L - s.tick.solved) ≤ M := by show p.m + 1 + (L - (s.solved + 1)) ≤ M; omega
         obtain ⟨r1, hr1⟩ : ∃ r, r = qtq L k (p.side j fz false) s.tick := ⟨_, rfl⟩
         clear hxr hEx hx5 hxr5 hx6 hx7 hxr7 hxn Bx hq hvw hSTw PB XB FB hb4 SB hFw hX hY
         cases r1 with
         | error c1 =>
           have HE : Hid (NF = .error c1) := Lib.hid (by rw [HNF.out]; exact q8k hLs HSOL.out HCT.out HFS.out (by rw [← HFZ.out]; exact hft) (by rw [← HFZ.out]; exact hr1.symm))
           have HR1 := Lib.hid hr1
           clear hr1
           have k0 : ∀ w', Later U7 w' → w'.cell? ⟨pb, 0, none⟩ = some (.slice Ao p.n co) := fun w' h => (PBU.ext h).c0
           have k1 : ∀ w', Later U7 w' → w'.cell? ⟨pb, 1, none⟩ = some (.slice Ar p.m cr) := fun w' h => (PBU.ext h).c1
           have k2 : ∀ w', Later U7 w' → w'.cell? ⟨nb, 1, none⟩ = some (.int .i64 fz) := fun w' h => (NB.ext h).cell 1
           have ks := Later.refl U7
           refine wp_region_held_drew (S := fun w' => Later U7 w') (by kernel_rfl) ?_ (fun hHeld => ?_)
           ·(try dsimp only); (repeat (first | assumption | apply Later.drew | apply Later.drewN | apply Later.alloc | (refine Later.step ?_ (by assumption))))
           refine wpAnyH_take (i := 0) (oi := { dst := some 91, op := Op.move (Operand.tmp 12), type := 25, pos := "ilp.go:118", after := #[], guard := none }) (v := ?_) rfl (by kernel_rfl) (by kernel_rfl) (by kernel_rfl) (fun _ _ _ h => h) (Or.inl ⟨by rfl, ?_⟩) (by assumption) ?_
           rotate_left
           ·intro w hSw; (try dsimp only at hSw); go_simp; try (with_reducible rfl)
           try simp only [Act.put, sqa, sqb, sqc]
           refine wpAnyH_take (i := 1) (oi := { dst := some 92, op := Op.move (Operand.tmp 0), type := 151, pos := "ilp.go:118", after := #[], guard := none }) (v := ?_) rfl (by kernel_rfl) (by kernel_rfl) (by kernel_rfl) (fun _ _ _ h => h) (Or.inl ⟨by rfl, ?_⟩) (by assumption) ?_
           rotate_left
           ·intro w hSw; (try dsimp only at hSw); go_simp; try (with_reducible rfl)
           try simp only [Act.put, sqa, sqb, sqc]
           refine wpAnyH_take (i := 2) (oi := { dst := some 93, op := Op.load 41 (Operand.tmp 3), type := 41, pos := "ilp.go:118", after := #[], guard := none }) (v := ?_) rfl (by kernel_rfl) (by kernel_rfl) (by kernel_rfl) (fun _ _ _ h => h) (Or.inl ⟨by rfl, ?_⟩) (by assumption) ?_
           rotate_left
           ·intro w hSw; (try dsimp only at hSw); go_simp; try (with_reducible rfl)
           try simp only [Act.put, sqa, sqb, sqc]
           refine wpAnyH_take (i := 3) (oi := { dst := some 94, op := Op.move (Operand.tmp 10), type := 3, pos := "ilp.go:118", after := #[], guard := none }) (v := ?_) rfl (by kernel_rfl) (by kernel_rfl) (by kernel_rfl) (fun _ _ _ h => h) (Or.inl ⟨by rfl, ?_⟩) (by assumption) ?_
           rotate_left
           ·intro w hSw; (try dsimp only at hSw); go_simp; try (with_reducible rfl)
           try simp only [Act.put, sqa, sqb, sqc]
           refine wpAnyH_take (i := 4) (oi := { dst := some 95, op := Op.move (Operand.tmp 12), type := 25, pos := "ilp.go:118", after := #[], guard := none }) (v := ?_) rfl (by kernel_rfl) (by kernel_rfl) (by kernel_rfl) (fun _ _ _ h => h) (Or.inl ⟨by rfl, ?_⟩) (by assumption) ?_
           rotate_left
           ·intro w hSw; (try dsimp only at hSw); go_simp; try (with_reducible rfl)
           try simp only [Act.put, sqa, sqb, sqc]
           refine wpAnyH_take (i := 5) (oi := { dst := some 96, op := Op.nilCheck (Operand.tmp 95), type := 0, pos := "ilp.go:118", after := #[{ on := 4, ground := Ground.data }], guard := none }) (v := ?_) rfl (by kernel_rfl) (by kernel_rfl) (by kernel_rfl) (fun _ _ _ h => h) (Or.inl ⟨by rfl, ?_⟩) (by assumption) ?_
           rotate_left
           ·intro w hSw; (try dsimp only at hSw); go_simp; try (with_reducible rfl)
           try simp only [Act.put, sqa, sqb, sqc]
           refine wpAnyH_take (i := 6) (oi := { dst := some 97, op := Op.fieldAddr 79 (Operand.tmp 96) 1, type := 0, pos := "ilp.go:118", after := #[{ on := 5, ground := Ground.data }], guard := none }) (v := ?_) rfl (by kernel_rfl) (by kernel_rfl) (by kernel_rfl) (fun _ _ _ h => h) (Or.inl ⟨by rfl, ?_⟩) (by assumption) ?_
           rotate_left
           ·intro w hSw; (try dsimp only at hSw); go_simp; try (with_reducible rfl)
           try simp only [Act.put, sqa, sqb, sqc]
           refine wpAnyH_take (i := 7) (oi := { dst := some 98, op := Op.load 3 (Operand.tmp 97), type := 3, pos := "ilp.go:118", after := #[{ on := 6, ground := Ground.data }], guard := none }) (v := ?_) rfl (by kernel_rfl) (by kernel_rfl) (by kernel_rfl) (fun _ _ _ h => h) (Or.inl ⟨by rfl, ?_⟩) (by assumption) ?_
           rotate_left
           ·intro w hSw; (try dsimp only at hSw); go_simp; try (with_reducible rfl)
           try simp only [Act.put, sqa, sqb, sqc]
           refine wpAnyH_ready (rs := [8]) (by kernel_rfl) (by simp) ?_
           refine AllReadyH.cons (o := { dst := some 99, op := Op.call { callee := Callee.value (Operand.func 88), args := #[Operand.tmp 93, Operand.tmp 94, Operand.tmp 98, Operand.const (Value.bool false)], argTypes := #[41, 3, 3, 4] }, type := 41, pos := "ilp.go:118", after := #[{ on := 2, ground := Ground.data }, { on := 3, ground := Ground.data }, { on := 7, ground := Ground.data }], guard := none }) rfl (fun K hK => ?_) ?_
           ·go_simp
            go_at_call 88
            refine (qky _ p j fz false _ (qga.ext hvU hHeld) hjp hpn hpm hft).mono ?_
            rintro e wl hsp
            obtain ⟨yv, rfl, hPy, hxl⟩ := hsp.prob
            try (go_wp2_with fail)
            refine hK.out _ _ ?_ (fun hHeld => ?_)
            ·(try dsimp only); (repeat (first | assumption | apply Later.drew | apply Later.drewN | apply Later.alloc | (refine Later.step ?_ (by assumption))))
            clear hK K
            try simp only [Act.put, sqa, sqb, sqc]
            refine wpAnyH_ready (rs := [9]) (by kernel_rfl) (by simp) ?_
            refine AllReadyH.cons (o := { dst := some 100, op := Op.call { callee := Callee.value (Operand.func 84), args := #[Operand.tmp 92, Operand.tmp 99], argTypes := #[151, 41] }, type := 25, pos := "ilp.go:118", after := #[{ on := 1, ground := Ground.data }, { on := 8, ground := Ground.data }, { on := 8, ground := Ground.chain }], guard := none }) rfl (fun K hK => ?_) ?_
            ·go_simp
             go_at_call 84
             have hI := HIH.out (p.side j fz false) s.tick yv _ HC1.out (hSU.ext hHeld) hPy hk1 hM1
             rw [← HR1.out] at hI
             refine hI.mono ?_
             rintro e wm ⟨hFm, rfl⟩
             refine ⟨rfl, ?_⟩
             rw [HE.out]
             exact ⟨(hFU.step hHeld).trans hFm, rfl⟩
            exact AllReadyH.nil
           exact AllReadyH.nil
         | ok q1 =>
           obtain ⟨lo, s1⟩ := q1
           have HR1 := Lib.hid hr1
           clear hr1
           go_cut [] (fun wx => ∃ b1 h1, nb < b1 ∧ qmf (K + 2) wx lo b1 h1 ∧ h1 ≤ wx.heap.size ∧ qhb wx sb L p.n s1 ∧ Box wx nb 79 (q89 (j : Int) fz (some ⟨b1, 0, none⟩) none false none 0 0) ∧ qga wx (.agg #[.slice Ao p.n co, .slice Ar p.m cr]) p ∧ Box wx pb 41 #[.slice Ao p.n co, .slice Ar p.m cr] ∧ FrS sb w wx)
           case first =>
            go_region_law (first
             | (go_simp; go_at_call 88; (with_reducible refine (qky _ p j fz false _ (qga.ext hvU eBx) hjp hpn hpm hft).mono ?_); rintro e wl hsp; (obtain ⟨yv, rfl, hPy, hxl⟩ := hsp.prob); (have hlL : Ext U7 wl := Ext.trans eBx hxl))
             | (go_simp; go_at_call 84; (have hI := HIH.out (p.side j fz false) s.tick yv wl HC1.out (hSU.ext hlL) hPy hk1 hM1); rw [← HR1.out] at hI; refine hI.mono ?_; rintro e wm ⟨hFm, b1, rfl, hb1, hT1, hS1⟩; (have NBm := hFm.box (NB.ext hlL) hns); (have m2 : wm.cell? ⟨nb, 2, none⟩ = some (.pointer none) := NBm.cell 2); (have mf := NBm.frozen 2)))
            all_goals (
             obtain ⟨hS2, hF2⟩ := qu4 NBm hS1 (.inl rfl) (.pointer (some ⟨b1, 0, none⟩))
             have hnl : nb < b1 := by have := hlL.size; omega
             have NB2 := NBm.set 2 (.pointer (some ⟨b1, 0, none⟩))
             have hv2 := ((hvU.ext hlL).frS hFm (SBU.ext hlL)).frB hF2 (by decide) NBm
             have PB2 := hF2.box (hFm.box (PBU.ext hlL) hpsb) (qb8 (hFm.box (PBU.ext hlL) hpsb) NBm (by decide))
             have hT2 := hT1.frR hF2 (fun i hi _ e => by omega) (qwu NBm (by decide))
             have hFw2 : FrS sb w (wm.setCell ⟨nb, 2, none⟩ (.pointer (some ⟨b1, 0, none⟩))) := ((hFU.step hlL).trans hFm).setN (p := ⟨nb, 2, none⟩) hnw _
             clear m2 mf
             go_wp2_with fail
             go_meet
             exact ⟨b1, wm.heap.size, hnl, hT2, by simp, hS2, NB2, hv2, PB2, hFw2⟩)
           case rest =>
            obtain ⟨b1, h1, hnl, hT2, hh1, hS2, NB2, hv2, PB2, hFw2⟩ := hcut
            rename_i hK
            refine hK _ _ ?_
            clear hK
            go_upto_region 19 with fail
            have hz1 : s1.solved = s.tick.solved + lo.size := q60 HR1.out.symm
            have hz2 : s.tick.solved = s.solved + 1 := rfl
            have hk2 : L < s1.solved + k := by omega
            have hM2 : p.m + 1 + (L - s1.solved) ≤ M := by omega
            obtain ⟨fo3, va3, A4, m4, c4, SB3, -, -⟩ := id hS2
            have p0 := PB2.c0
            have p1 := PB2.c1
            have n1 : wc.cell? ⟨nb, 1, none⟩ = some (.int .i64 fz) := NB2.cell 1
            obtain ⟨r2, hr2⟩ : ∃ r, r = qtq L k (p.side j fz true) s1 := ⟨_, rfl⟩
            clear hvU hSU hFU PBU SBU NB hz1 hz2
            cases r2 with
            | error c2 =>
              have HE : Hid (NF = .error c2) := Lib.hid (by rw [HNF.out]; exact q9e hLs HSOL.out HCT.out HFS.out (by rw [← HFZ.out]; exact hft) (by rw [← HFZ.out]; exact HR1.out.symm) (by rw [← HFZ.out]; exact hr2.symm))
              have HR2 := Lib.hid hr2
              clear hr2
              have k0 : ∀ w', Later wc w' → w'.cell? ⟨pb, 0, none⟩ = some (.slice Ao p.n co) := fun w' h => (PB2.ext h).c0
              have k1 : ∀ w', Later wc w' → w'.cell? ⟨pb, 1, none⟩ = some (.slice Ar p.m cr) := fun w' h => (PB2.ext h).c1
              have k2 : ∀ w', Later wc w' → w'.cell? ⟨nb, 1, none⟩ = some (.int .i64 fz) := fun w' h => (NB2.ext h).cell 1
              have ks := Later.refl wc
              refine wp_region_held_drew (S := fun w' => Later wc w') (by kernel_rfl) ?_ (fun hHeld => ?_)
              ·(try dsimp only); (repeat (first | assumption | apply Later.drew | apply Later.drewN | apply Later.alloc | (refine Later.step ?_ (by assumption))))
              refine wpAnyH_take (i := 0) (oi := { dst := some 103, op := Op.move (Operand.tmp 12), type := 25, pos := "ilp.go:119", after := #[], guard := none }) (v := ?_) rfl (by kernel_rfl) (by kernel_rfl) (by kernel_rfl) (fun _ _ _ h => h) (Or.inl ⟨by rfl, ?_⟩) (by assumption) ?_
              rotate_left
              ·intro w hSw; (try dsimp only at hSw); go_simp; try (with_reducible rfl)
              try simp only [Act.put, sqa, sqb, sqc]
              refine wpAnyH_take (i := 1) (oi := { dst := some 104, op := Op.move (Operand.tmp 0), type := 151, pos := "ilp.go:119", after := #[], guard := none }) (v := ?_) rfl (by kernel_rfl) (by kernel_rfl) (by kernel_rfl) (fun _ _ _ h => h) (Or.inl ⟨by rfl, ?_⟩) (by assumption) ?_
              rotate_left
              ·intro w hSw; (try dsimp only at hSw); go_simp; try (with_reducible rfl)
              try simp only [Act.put, sqa, sqb, sqc]
              refine wpAnyH_take (i := 2) (oi := { dst := some 105, op := Op.load 41 (Operand.tmp 3), type := 41, pos := "ilp.go:119", after := #[], guard := none }) (v := ?_) rfl (by kernel_rfl) (by kernel_rfl) (by kernel_rfl) (fun _ _ _ h => h) (Or.inl ⟨by rfl, ?_⟩) (by assumption) ?_
              rotate_left
              ·intro w hSw; (try dsimp only at hSw); go_simp; try (with_reducible rfl)
              try simp only [Act.put, sqa, sqb, sqc]
              refine wpAnyH_take (i := 3) (oi := { dst := some 106, op := Op.move (Operand.tmp 10), type := 3, pos := "ilp.go:119", after := #[], guard := none }) (v := ?_) rfl (by kernel_rfl) (by kernel_rfl) (by kernel_rfl) (fun _ _ _ h => h) (Or.inl ⟨by rfl, ?_⟩) (by assumption) ?_
              rotate_left
              ·intro w hSw; (try dsimp only at hSw); go_simp; try (with_reducible rfl)
              try simp only [Act.put, sqa, sqb, sqc]
              refine wpAnyH_take (i := 4) (oi := { dst := some 107, op := Op.move (Operand.tmp 12), type := 25, pos := "ilp.go:119", after := #[], guard := none }) (v := ?_) rfl (by kernel_rfl) (by kernel_rfl) (by kernel_rfl) (fun _ _ _ h => h) (Or.inl ⟨by rfl, ?_⟩) (by assumption) ?_
              rotate_left
              ·intro w hSw; (try dsimp only at hSw); go_simp; try (with_reducible rfl)
              try simp only [Act.put, sqa, sqb, sqc]
              refine wpAnyH_take (i := 5) (oi := { dst := some 108, op := Op.nilCheck (Operand.tmp 107), type := 0, pos := "ilp.go:119", after := #[{ on := 4, ground := Ground.data }], guard := none }) (v := ?_) rfl (by kernel_rfl) (by kernel_rfl) (by kernel_rfl) (fun _ _ _ h => h) (Or.inl ⟨by rfl, ?_⟩) (by assumption) ?_
              rotate_left
              ·intro w hSw; (try dsimp only at hSw); go_simp; try (with_reducible rfl)
              try simp only [Act.put, sqa, sqb, sqc]
              refine wpAnyH_take (i := 6) (oi := { dst := some 109, op := Op.fieldAddr 79 (Operand.tmp 108) 1, type := 0, pos := "ilp.go:119", after := #[{ on := 5, ground := Ground.data }], guard := none }) (v := ?_) rfl (by kernel_rfl) (by kernel_rfl) (by kernel_rfl) (fun _ _ _ h => h) (Or.inl ⟨by rfl, ?_⟩) (by assumption) ?_
              rotate_left
              ·intro w hSw; (try dsimp only at hSw); go_simp; try (with_reducible rfl)
              try simp only [Act.put, sqa, sqb, sqc]
              refine wpAnyH_take (i := 7) (oi := { dst := some 110, op := Op.load 3 (Operand.tmp 109), type := 3, pos := "ilp.go:119", after := #[{ on := 6, ground := Ground.data }], guard := none }) (v := ?_) rfl (by kernel_rfl) (by kernel_rfl) (by kernel_rfl) (fun _ _ _ h => h) (Or.inl ⟨by rfl, ?_⟩) (by assumption) ?_
              rotate_left
              ·intro w hSw; (try dsimp only at hSw); go_simp; try (with_reducible rfl)
              try simp only [Act.put, sqa, sqb, sqc]
              refine wpAnyH_ready (rs := [8]) (by kernel_rfl) (by simp) ?_
              refine AllReadyH.cons (o := { dst := some 111, op := Op.call { callee := Callee.value (Operand.func 88), args := #[Operand.tmp 105, Operand.tmp 106, Operand.tmp 110, Operand.const (Value.bool true)], argTypes := #[41, 3, 3, 4] }, type := 41, pos := "ilp.go:119", after := #[{ on := 2, ground := Ground.data }, { on := 3, ground := Ground.data }, { on := 7, ground := Ground.data }], guard := none }) rfl (fun K hK => ?_) ?_
              ·go_simp
               go_at_call 88
               refine (qky _ p j fz true _ (qga.ext hv2 hHeld) hjp hpn hpm hft).mono ?_
               rintro e wl hsp
               obtain ⟨yv, rfl, hPy, hxl⟩ := hsp.prob
               try (go_wp2_with fail)
               refine hK.out _ _ ?_ (fun hHeld => ?_)
               ·(try dsimp only); (repeat (first | assumption | apply Later.drew | apply Later.drewN | apply Later.alloc | (refine Later.step ?_ (by assumption))))
               clear hK K
               try simp only [Act.put, sqa, sqb, sqc]
               refine wpAnyH_ready (rs := [9]) (by kernel_rfl) (by simp) ?_
               refine AllReadyH.cons (o := { dst := some 112, op := Op.call { callee := Callee.value (Operand.func 84), args := #[Operand.tmp 104, Operand.tmp 111], argTypes := #[151, 41] }, type := 25, pos := "ilp.go:119", after := #[{ on := 1, ground := Ground.data }, { on := 8, ground := Ground.data }, { on := 8, ground := Ground.chain }], guard := none }) rfl (fun K hK => ?_) ?_
               ·go_simp
                go_at_call 84
                have hI := HIH.out (p.side j fz true) s1 yv _ HC2.out (hS2.ext hHeld) hPy hk2 hM2
                rw [← HR2.out] at hI
                refine hI.mono ?_
                rintro e wm ⟨hFm, rfl⟩
                refine ⟨rfl, ?_⟩
                rw [HE.out]
                exact ⟨(hFw2.step hHeld).trans hFm, rfl⟩
               exact AllReadyH.nil
              exact AllReadyH.nil
            | ok q2 =>
              obtain ⟨hi, s2⟩ := q2
              have HE : Hid (NF = .ok (.node j (xs j).floor lo hi, s2)) := Lib.hid (by rw [HNF.out]; exact q6g hLs HSOL.out HCT.out HFS.out (by rw [← HFZ.out]; exact hft) (by rw [← HFZ.out]; exact HR1.out.symm) (by rw [← HFZ.out]; exact hr2.symm))
              have HR2 := Lib.hid hr2
              clear hr2
              go_region_law (first
               | (go_simp; go_at_call 88; (with_reducible refine (qky _ p j fz true _ (qga.ext hv2 eBx) hjp hpn hpm hft).mono ?_); rintro e wl hsp; (obtain ⟨yv, rfl, hPy, hxl⟩ := hsp.prob); (have hlL : Ext wc wl := Ext.trans eBx hxl))
               | (go_simp; go_at_call 84; (have hI := HIH.out (p.side j fz true) s1 yv wl HC2.out (hS2.ext hlL) hPy hk2 hM2); rw [← HR2.out] at hI; refine hI.mono ?_; rintro e wm ⟨hFm, b2, rfl, hb2, hT3, hS3⟩; (have NBm := hFm.box (NB2.ext hlL) hns); (have m3 : wm.cell? ⟨nb, 3, none⟩ = some (.pointer none) := NBm.cell 3); (have mf := NBm.frozen 3)))
              all_goals (
               obtain ⟨hS4, hF4⟩ := qu4 NBm hS3 (.inr rfl) (.pointer (some ⟨b2, 0, none⟩))
               have NB4 : Box (wm.setCell ⟨nb, 3, none⟩ (.pointer (some ⟨b2, 0, none⟩))) nb 79 (q89 (j : Int) fz (some ⟨b1, 0, none⟩) (some ⟨b2, 0, none⟩) false none 0 0) := NBm.set 3 (.pointer (some ⟨b2, 0, none⟩))
               have hsz2 : h1 ≤ b2 := by have := hlL.size; omega
               have hT2m := ((hT2.ext hlL).frS hFm (SB3.ext hlL)).frR hF4 (fun i hi _ e => by omega) (qwu NBm (by decide))
               have hT4 := hT3.frR hF4 (fun i hi _ e => by have := hT2.lt; omega) (qwu NBm (by decide))
               have hFw4 : FrS sb w (wm.setCell ⟨nb, 3, none⟩ (.pointer (some ⟨b2, 0, none⟩))) := ((hFw2.step hlL).trans hFm).setN (p := ⟨nb, 3, none⟩) hnw _
               clear m3 mf p0 p1 n1
               go_wp2_with fail
               go_ret
               rw [HE.out, ← HFZ.out]
               exact ⟨hFw4, nb, rfl, hnw, ⟨b1, h1, b2, hnl, hT2m, hsz2, hT4.up (by simp), NB4⟩, hS4⟩)
     ·obtain rfl : j = n0 := by omega
      have HFN : Hid (qqr xs p.n = none) := Lib.hid (by rw [← HN0.out]; exact HFR.out)
      have XBr := XB.ext hxr
      have x4 : wr.cell? ⟨xb, 4, none⟩ = some (.slice (some ⟨bX, 0, none⟩) p.n cx) := XBr.cell 4
      rw [← HN0.out] at x4
      have hmk := qoz j (by omega)
      go_upto_region 23 with fail
      have PT0 := qnx (Box.new wr 3 (q02 j))
      have hx9 : Ext wr (wr.alloc (.cells (q02 j) 3)) := (Ext.refl wr).alloc _
      generalize (wr.alloc (.cells (q02 j) 3)) = U9 at *
      obtain ⟨gb, hgb⟩ : ∃ x, x = wr.heap.size := ⟨_, rfl⟩
      rw [← hgb] at PT0 ⊢
      have hgc : wc.heap.size ≤ gb := by have := hxr.size; omega
      clear hgb hmk
      have hx90 := hxr.trans hx9
      have x4 := hx9.cell x4
      clear hx9 XBr hxr
      go_upto_region 24 with fail
      clear x4
      go_loopw [124] (fun i wv => ∃ l : Nat, l ≤ j ∧ i = .int .i64 l ∧ Hid (∀ i, i < l → fit (xs i).num = true) ∧ Pts wv gb j (fun i => if i < l then (xs i).num else 0) ∧ Ext wc wv) (fun i _ => j - (intOf i).toNat)
      case atStart => exact ⟨0, by omega, rfl, Lib.hid (fun i hi => absurd hi (by omega)), PT0.congr (fun i _ => by rw [if_neg (by omega)]), hx90⟩
      case round =>
       obtain ⟨l, hl, rfl, HFI, hPT, hxv⟩ := hrel
       clear PT0 hx90
       by_cases hlt : l < j
       ·obtain ⟨p3, A3, m3, c3, p3', A3', m3', c3', a0, a1, a2, a3, hr3⟩ := (hRX.ext hxv).at hlt
        have i1 : (0 : Int) ≤ (l : Int) := by omega
        have i2 : (l : Int) < (j : Int) := by omega
        go_upto_region 26 with fail
        have Bx := Box.new wr 58 #[.bool p3, .slice A3 m3 c3, .bool p3', .slice A3' m3' c3']
        have hEx : Ext wr (wr.alloc (.cells #[.bool p3, .slice A3 m3 c3, .bool p3', .slice A3' m3' c3'] 58)) := (Ext.refl wr).alloc _
        generalize (wr.alloc (.cells #[.bool p3, .slice A3 m3 c3, .bool p3', .slice A3' m3' c3'] 58)) = X at *
        have hq : RatB X _ (xs l) (K + 2) := ⟨hr3.ext hEx, HBX.out l hlt⟩
        have b0 := Bx.c0
        have b1 := Bx.c1
        have b2 : X.cell? ⟨wr.heap.size, 2, none⟩ = some _ := Bx.cell 2
        have b3 : X.cell? ⟨wr.heap.size, 3, none⟩ = some _ := Bx.cell 3
        clear a0 a1 a2 a3 hr3
        go_wp2_with fail
        refine (RatNum_b _ (xs l) (K + 2) _ hq).mono ?_
        rintro e w5 ⟨v5, rfl, hb5, hx5⟩
        obtain ⟨pg, Ag, ng, cg, rfl⟩ := hb5.1.shape
        clear b0 b1 b2 b3
        go_wp2_with fail
        refine (qnq _ _ _ _ hb5 (by omega)).mono ?_
        rintro e w7 ⟨hx7, hcs⟩
        have hxv7 := ((hxv.trans hEx).trans hx5).trans hx7
        have hPT7 := ((hPT.ext hEx).ext hx5).ext hx7
        rcases hcs with ⟨hft, rfl⟩ | ⟨hft, rfl⟩
        case inr =>
         have HE : Hid (NF = .error 2) := Lib.hid (by
          rw [HNF.out]
          refine q0d hLs HSOL.out HCT.out HFN.out ?_
          cases e : qus xs p.n with
          | false => rfl
          | true =>
            have := fitsV_iff.1 e l (by rw [← HN0.out]; exact hlt)
            rw [hft] at this; cases this)
         refine ⟨rfl, ?_⟩
         rw [HE.out]
         exact ⟨hFw.step hxv7, rfl⟩
        case inl =>
         obtain ⟨nz, hnz⟩ : ∃ x, x = (xs l).num := ⟨_, rfl⟩
         rw [← hnz] at hft ⊢
         have HFI2 : Hid (∀ i, i < l + 1 → fit (xs i).num = true) := Lib.hid (fun i hi => by
          rcases Nat.lt_or_ge i l with h | h
          ·exact HFI.out i h
          ·obtain rfl : i = l := by omega
           rw [← hnz]; exact hft)
         have hPT8 := (hPT7.set hlt nz).congr (g := fun i => if i < l + 1 then (xs i).num else 0) (fun i hi => by
          by_cases e : i = l
          ·rw [if_pos e, if_pos (by omega), e]; exact hnz
          ·rw [if_neg e]
           by_cases e2 : i < l
           ·rw [if_pos e2, if_pos (by omega)]
           ·rw [if_neg e2, if_neg (by omega)])
         have hx8 := hxv7.set (p := ⟨gb, l, none⟩) hgc (.int .i64 nz)
         have g0 := hPT7.cell hlt
         have g1 := hPT7.frozen l
         clear hnz hPT hq hb5
         go_wp2_with fail
         go_roundw
         case rel => first | exact ⟨l + 1, by omega, by go_num, HFI2, hPT8, hx8⟩ | ((repeat (apply Exists.intro (α := Value))); exact ⟨⟨l + 1, by omega, by go_num, HFI2, hPT8, hx8⟩, rfl⟩)
         case measure => simp [intOf]; omega
       ·obtain rfl : l = j := by omega
        have HFV : Hid (qus xs p.n = true) := Lib.hid (fitsV_iff.2 (fun i hi => HFI.out i (by rw [HN0.out]; exact hi)))
        have FBv := FB.ext hxv
        have f0 := FBv.c0
        have f1 := FBv.c1
        go_wp2_with fail
        refine (qnq _ _ _ _ (hb4.ext hxv) (by omega)).mono ?_
        rintro e w7 ⟨hx7, hcs⟩
        have hxv7 := hxv.trans hx7
        have hPT7 := hPT.ext hx7
        clear f0 f1
        rcases hcs with ⟨hft, rfl⟩ | ⟨hft, rfl⟩
        case inr =>
         have HE : Hid (NF = .error 2) := Lib.hid (by
          rw [HNF.out]
          refine q0d hLs HSOL.out HCT.out HFN.out ?_
          rw [hft, Bool.and_false])
         refine ⟨rfl, ?_⟩
         rw [HE.out]
         exact ⟨hFw.step hxv7, rfl⟩
        case inl =>
         obtain ⟨zf, hzf⟩ : ∃ x, x = z.floor := ⟨_, rfl⟩
         rw [← hzf] at hft ⊢
         have HE : Hid (NF = .ok (.leaf false p.m ys, ⟨s.solved + 1, some (z.floor, fun j => (xs j).num)⟩)) := Lib.hid (by rw [HNF.out]; exact qsh hLs HSOL.out HCT.out HFN.out HFV.out (by rw [← hzf]; exact hft))
         have SBv := SB.ext hxv7
         have s2 : w7.cell? ⟨sb, 2, none⟩ = some (.bool fo2) := SBv.cell 2
         have s3 : w7.cell? ⟨sb, 3, none⟩ = some (.int .i64 va2) := SBv.cell 3
         have s4 : w7.cell? ⟨sb, 4, none⟩ = some (.slice A2 m2 c2') := SBv.cell 4
         have z2 := SBv.frozen 2
         have z3 := SBv.frozen 3
         have z4 := SBv.frozen 4
         have HZF := Lib.hid hzf
         clear hzf
         go_upto_region 29 with fail
         have hSw := ((SBv.set 3 (.int .i64 zf)).set 4 (.slice (some ⟨gb, 0, none⟩) l l)).set 2 (.bool true)
         have hF9 : FrS sb w7 (((w7.setCell ⟨sb, 3, none⟩ (.int .i64 zf)).setCell ⟨sb, 4, none⟩ (.slice (some ⟨gb, 0, none⟩) l l)).setCell ⟨sb, 2, none⟩ (.bool true)) := by
          refine (((Fr.refl (fun k => k = sb) w7).set (p := ⟨sb, 3, none⟩) rfl (fun z => ?_) _).set (p := ⟨sb, 4, none⟩) rfl (fun z => ?_) _).set (p := ⟨sb, 2, none⟩) rfl (fun z => ?_) _
          ·rw [s3]; intro e; cases e
          ·rw [(SBv.set 3 _).cell 4]; intro e; cases e
          ·rw [((SBv.set 3 _).set 4 _).cell 2]; intro e; cases e
         have XB9 := hF9.box (XB.ext hxv7) (qb8 (XB.ext hxv7) SBv (by decide))
         have hY9 := (hY.ext hxv7).frS hF9 SBv
         have hP9 : Pts _ gb l (fun i => if i < l then (xs i).num else 0) := hPT7.fr hF9 (by
          obtain ⟨cs, k1, -⟩ := id hPT7
          exact qb8 k1 SBv (by decide))
         have hFw9 := (hFw.step hxv7).trans hF9
         clear s2 s3 s4 z2 z3 z4
         generalize (((w7.setCell ⟨sb, 3, none⟩ (.int .i64 zf)).setCell ⟨sb, 4, none⟩ (.slice (some ⟨gb, 0, none⟩) l l)).setCell ⟨sb, 2, none⟩ (.bool true)) = W9 at *
         have x5 : W9.cell? ⟨xb, 5, none⟩ = some (.slice Ay p.m cy) := XB9.cell 5
         have NB : Box (W9.alloc (.cells #[.int .i64 (-1), .int .i64 0, .pointer none, .pointer none, .bool false, .slice Ay p.m cy] 79)) W9.heap.size 79 (q89 (-1) 0 none none false Ay p.m cy) := Box.new W9 _ _
         have hxn : Ext W9 (W9.alloc (.cells #[.int .i64 (-1), .int .i64 0, .pointer none, .pointer none, .bool false, .slice Ay p.m cy] 79)) := (Ext.refl W9).alloc _
         have hSV9 : qhb W9 sb L p.n ⟨s.solved + 1, some (z.floor, fun j => (xs j).num)⟩ := by
          refine ⟨true, zf, some ⟨gb, 0, none⟩, l, l, hSw, (fun h => by cases h), fun v x e => ?_⟩
          injection e with e
          injection e with e1 e2
          refine ⟨rfl, by rw [HZF.out, e1], by rw [← e1, ← HZF.out]; exact hft, HN0.out, HN0.out, gb, rfl, ?_⟩
          rw [← HN0.out]
          exact hP9.congr (fun i hi => by rw [if_pos hi, ← e2])
         clear hSw
         go_wp2_with fail
         go_ret
         rw [HE.out]
         exact ⟨hFw9.step hxn, _, rfl, hFw9.size, ⟨by simp, Ay, cy, NB, hY9.ext hxn, HBY.out⟩, hSV9.ext hxn⟩
theorem node_all (L sb kk M K k : Nat) (hL2 : L ≤ 1000) (p : Prob) (s : BS) (v : Value) (w : World) (hC : CanI p kk M K) (hS : qhb w sb L p.n s) (hv : qga w v p) (hk : L < s.solved + k) (hM : p.m + (L - s.solved) ≤ M) :
 Calls Tryz.prog 84 #[.pointer (some ⟨sb, 0, none⟩), v] w (NPost (K + 2) sb L p.n w (qtq L k p s)) := by
 induction k generalizing p s v w with
 | zero => exact q4c L sb p.n (K + 2) 0 p s v w hS hv (by omega)
 | succ k ih =>
   by_cases hL : L ≤ s.solved
   ·exact q4c L sb p.n (K + 2) (k + 1) p s v w hS hv hL
   ·exact node_step L sb kk M K k hL2 ih p s v w hC hS hv hk hM hL
end Go.Proofs.YtljncdcjkdgkeaaGreatDoor.Lp

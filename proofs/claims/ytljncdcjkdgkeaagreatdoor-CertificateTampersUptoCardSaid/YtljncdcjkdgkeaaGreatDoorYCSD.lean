/- Walk: side of certificate (from that of ilp, by shiftside.py). -/
import Derived.BigRegion
import Derived.Test.YtljncdcjkdgkeaaGreatDoorYIX
set_option linter.unusedVariables false
set_option linter.unusedSimpArgs false
namespace Go.Proofs.YtljncdcjkdgkeaaGreatDoor.Lp
open Go.RowKit Go.Proofs.YtljncdcjkdgkeaaGreatDoor.Big Go.Proofs.YtljncdcjkdgkeaaGreatDoor.Rt
attribute [local go_sem] Go.World.cell?_alloc_some Go.RowKit.frozen?_alloc_cells
set_option maxHeartbeats 16000000 in
set_option maxRecDepth 100000 in
theorem q1a (x : Value) (p : Prob) (v : Nat) (f : Int) (b : Bool) (w : World) (hx : qga w x p) (hv : v < p.n) (hn : p.n ≤ 1000) (hm : p.m ≤ 1000) (hf : fit f = true) : Calls Tryz.prog 49 #[x, .int .i64 (v : Int), .int .i64 f, .bool b] w (qit p v f b w) := by
 have hx0 := hx.toL
 obtain ⟨Ao, co, Ar, cr, rfl, hob, hmc, hcr, hrows⟩ := hx
 obtain ⟨f1, f2⟩ := fit_iff.1 hf
 obtain ⟨n, hnn⟩ : ∃ n, n = p.n := ⟨_, rfl⟩
 obtain ⟨m, hmm⟩ : ∃ n, n = p.m := ⟨_, rfl⟩
 have HP : Hid (∀ e w', qit p v f b w e w' ↔ (∃ Ao co Ar cr xs, e = .returned (.agg #[.slice Ao n co, .slice Ar (m + 1) cr]) ∧ q94 w' Ao n co p.obj ∧ OwnX w' w.heap.size 75 6 (.slice Ar (m + 1) cr) (m + 1) xs ∧ q5k w' (fun i => xs[i]?) (p.toL.rows ++ [qgh n v f b]) ∧ Ext w w')) := Lib.hid (fun e w' => by rw [hnn, hmm]; exact Iff.rfl)
 rw [← hnn, ← hmm] at hx0
 rw [← hnn] at hob hv hn
 rw [← hmm] at hmc hm hrows
 rw [← hnn, ← hmm]
 have hcn := hob.1
 have hcn2 := hob.2.1
 have HM := Lib.hid hmm
 clear hnn hmm
 obtain ⟨PB, QB0, hE0⟩ := qc5 w 41 #[.slice Ao n co, .slice Ar m cr] #[.slice none 0 0, .slice none 0 0]
 have hmk := qee n (by omega)
 go_enter Tryz.func49, Tryz.ntmps49
 go_upto_region 1 with fail
 generalize ((w.alloc (.cells #[.slice Ao n co, .slice Ar m cr] 41)).alloc (.cells #[.slice none 0 0, .slice none 0 0] 41)) = V0 at *
 obtain ⟨qb, hqb⟩ : ∃ x, x = w.heap.size + 1 := ⟨_, rfl⟩
 obtain ⟨pb, hpb⟩ : ∃ x, x = w.heap.size := ⟨_, rfl⟩
 rw [← hqb] at QB0 ⊢
 rw [← hpb] at PB ⊢
 have hqs : w.heap.size ≤ qb := by omega
 have hpq : pb ≠ qb := by omega
 clear hqb hpb
 have hy1 : -9223372036854775808 ≤ f := f1
 have k0 : ∀ w', Later V0 w' → w'.cell? ⟨pb, 0, none⟩ = some (.slice Ao n co) := fun w' h => (PB.ext h).c0
 have ks := Later.refl V0
 have p0' := PB.c0
 have p1' := PB.c1
 have e1' : decide ((1000 : Int) < (m : Int)) = false := by simp; omega
 have e2' : decide ((n : Int) ≤ (v : Int)) = false := by simp; omega
 go_upto_region 3 with fail
 clear p0' p1' e1' e2'
 go_cut [9] (fun v wx => ∃ (rb bc : Nat) (x1 x2 : Bool) (X1 X2 : Option Addr) (u1 u2 u3 u4 : Nat), v = .pointer (some ⟨rb, 0, none⟩) ∧ Box wx rb 75 #[.slice (some ⟨bc, 0, none⟩) n n, .int .u8 1, .bool x1, .slice X1 u1 u2, .bool x2, .slice X2 u3 u4] ∧ RowR wx bc n (fun _ => 0) ∧
  RatB wx (.agg #[.bool x1, .slice X1 u1 u2, .bool x2, .slice X2 u3 u4]) (f : Rat) 2 ∧ (V0.heap.size ≤ bc ∧ V0.heap.size ≤ rb) ∧ Ext V0 wx)
 case first =>
  refine wp_region_held_drew (S := fun w' => Later V0 w') (by kernel_rfl) ?_ (fun hHeld => ?_)
  ·(try dsimp only); (repeat (first | (with_reducible assumption) | (with_reducible apply Later.drew) | (with_reducible apply Later.drewN) | (with_reducible apply Later.alloc) | (with_reducible refine qhu ?_ (by first | exact Nat.le_refl _ | exact Nat.le_succ _ | exact Later.size (by assumption) | exact Nat.le_succ_of_le (Later.size (by assumption))) _ _ _ _ _ _) | (with_reducible refine Later.step ?_ (by assumption))))
  repeat' (first
   | simp only [Act.put, sqa, sqb, sqc]
   | (
    first
     | refine tky (i := 0) (oi := { dst := some 23, op := Op.fieldAddr 41 (Operand.tmp 4) 0, type := 0, pos := "certificate.go:180", after := #[], guard := none }) (v := ?_) rfl ?_ (by assumption) ?_
     | refine tky (i := 1) (oi := { dst := some 24, op := Op.load 38 (Operand.tmp 23), type := 38, pos := "certificate.go:180", after := #[{ on := 0, ground := Ground.data }], guard := none }) (v := ?_) rfl ?_ (by assumption) ?_
     | refine tky (i := 2) (oi := { dst := some 25, op := Op.call { callee := Callee.builtin Builtin.len, args := #[Operand.tmp 24], argTypes := #[38] }, type := 3, pos := "certificate.go:180", after := #[{ on := 1, ground := Ground.data }], guard := none }) (v := ?_) rfl ?_ (by assumption) ?_
     | refine tky (i := 4) (oi := { dst := some 27, op := Op.move (Operand.tmp 2), type := 3, pos := "certificate.go:180", after := #[], guard := none }) (v := ?_) rfl ?_ (by assumption) ?_
     | refine tky (i := 6) (oi := { dst := some 29, op := Op.build 75 #[(0, Operand.tmp 26), (1, Operand.const (Value.int IntKind.u8 1)), (2, Operand.tmp 28)], type := 75, pos := "certificate.go:180", after := #[{ on := 3, ground := Ground.data }, { on := 5, ground := Ground.data }], guard := none }) (v := ?_) rfl ?_ (by assumption) ?_
    rotate_left
    ·intro w hSw; (try dsimp only at hSw); go_simp; try (with_reducible rfl))
   | refine wpAnyH_ready (rs := [3, 5, 7]) (by decide +kernel) (by simp) ?_
   | refine wpAnyH_ready (rs := [5, 7]) (by decide +kernel) (by simp) ?_
   | refine wpAnyH_ready (rs := [7]) (by decide +kernel) (by simp) ?_
   | refine wpAnyH_ready (rs := [8]) (by decide +kernel) (by simp) ?_
   | refine wpAnyH_ready (rs := [5]) (by decide +kernel) (by simp) ?_
   | refine wpAnyH_ready (rs := [3, 7]) (by decide +kernel) (by simp) ?_
   | refine wpAnyH_ready (rs := [3]) (by decide +kernel) (by simp) ?_
   | refine wpAnyH_ready (rs := [3, 5]) (by decide +kernel) (by simp) ?_
   | (
    refine AllReadyH.cons (o := { dst := some 26, op := Op.makeSlice 38 (Operand.tmp 25) (Operand.tmp 25), type := 38, pos := "certificate.go:180", after := #[{ on := 2, ground := Ground.data }, { on := 2, ground := Ground.data }], guard := none }) rfl (fun K hK => ?_) ?_
    go_simp
    try (go_wp2_with fail)
    refine hK.out _ _ ?_ (fun hHeld => ?_)
    ·(try dsimp only); (repeat (first | (with_reducible assumption) | (with_reducible apply Later.drew) | (with_reducible apply Later.drewN) | (with_reducible apply Later.alloc) | (with_reducible refine qhu ?_ (by first | exact Nat.le_refl _ | exact Nat.le_succ _ | exact Later.size (by assumption) | exact Nat.le_succ_of_le (Later.size (by assumption))) _ _ _ _ _ _) | (with_reducible refine Later.step ?_ (by assumption))))
    clear hK K)
   | (
    refine AllReadyH.cons (o := { dst := some 28, op := Op.call { callee := Callee.value (Operand.func 20), args := #[Operand.tmp 27], argTypes := #[3] }, type := 58, pos := "certificate.go:180", after := #[{ on := 4, ground := Ground.data }], guard := none }) rfl (fun K hK => ?_) ?_
    go_simp
    first
     | (go_at_call 20; (with_reducible refine (qfw f _ (by omega) (by omega)).mono ?_); rintro e wl ⟨vl, rfl, hbl, hxl⟩; (obtain ⟨pl, Al, nl, cl, pl', Al', nl', cl', rfl⟩ := hbl.1.shape); (have hSl := Later.step (by assumption) hxl); (have hEl : Ext V0 wl := hSl); (try (have bq : Box wl V0.heap.size 75 #[.slice none 0 0, .int .u8 0, .bool false, .slice none 0 0, .bool false, .slice none 0 0] := by with_reducible exact qkk hxl)); (try (have bq : Box wl V0.heap.size 75 #[.slice none 0 0, .int .u8 0, .bool false, .slice none 0 0, .bool false, .slice none 0 0] := by with_reducible exact q9s hxl)); (try (have bq : Box wl (V0.heap.size + 1) 75 #[.slice none 0 0, .int .u8 0, .bool false, .slice none 0 0, .bool false, .slice none 0 0] := by with_reducible exact qju hxl)); (try (have bz : Box wl V0.heap.size 58 (qdu n) := by with_reducible exact qkk hxl)); (try (have bz : Box wl V0.heap.size 58 (qdu n) := by with_reducible exact q9s hxl)); (try (have bz : Box wl (V0.heap.size + 1) 58 (qdu n) := by with_reducible exact qju hxl)))
    try (go_wp2_with fail)
    refine hK.out _ _ ?_ (fun hHeld => ?_)
    ·(try dsimp only); (repeat (first | (with_reducible assumption) | (with_reducible apply Later.drew) | (with_reducible apply Later.drewN) | (with_reducible apply Later.alloc) | (with_reducible refine qhu ?_ (by first | exact Nat.le_refl _ | exact Nat.le_succ _ | exact Later.size (by assumption) | exact Nat.le_succ_of_le (Later.size (by assumption))) _ _ _ _ _ _) | (with_reducible refine Later.step ?_ (by assumption))))
    clear hK K)
   | (
    refine AllReadyH.cons (o := { dst := some 9, op := Op.alloc 75, type := 0, pos := "certificate.go:180", after := #[], guard := none }) rfl (fun K hK => ?_) ?_
    go_simp
    try (go_wp2_with fail)
    refine hK.out _ _ ?_ (fun hHeld => ?_)
    ·(try dsimp only); (repeat (first | (with_reducible assumption) | (with_reducible apply Later.drew) | (with_reducible apply Later.drewN) | (with_reducible apply Later.alloc) | (with_reducible refine qhu ?_ (by first | exact Nat.le_refl _ | exact Nat.le_succ _ | exact Later.size (by assumption) | exact Nat.le_succ_of_le (Later.size (by assumption))) _ _ _ _ _ _) | (with_reducible refine Later.step ?_ (by assumption))))
    clear hK K)
   | (
    refine AllReadyH.cons (o := { dst := none, op := Op.store 75 (Operand.tmp 9) (Operand.tmp 29), type := 0, pos := "certificate.go:180", after := #[{ on := 7, ground := Ground.data }, { on := 6, ground := Ground.data }, { on := 5, ground := Ground.chain }, { on := 0, ground := Ground.phase }, { on := 1, ground := Ground.phase }, { on := 2, ground := Ground.phase }, { on := 3, ground := Ground.phase }, { on := 4, ground := Ground.phase }, { on := 5, ground := Ground.phase }, { on := 6, ground := Ground.phase }, { on := 7, ground := Ground.phase }], guard := none }) rfl (fun K hK => ?_) ?_
    refine qqh rfl (.tmp 9) (.tmp 29) rfl _ 0 _ _ _ _ _ _ rfl rfl (there6 (by first | (with_reducible exact bq) | (with_reducible exact Box.alloc bq _) | (with_reducible exact Box.new _ _ _) | (with_reducible exact Box.new2 _ _ _ _) | (with_reducible exact Box.alloc (Box.new _ _ _) _))) (all_oneCell_toArray one6) ?_
    simp only [Act.put]
    refine hK.out _ _ ?_ (fun hHeld => ?_)
    ·(try dsimp only); (repeat (first | (with_reducible assumption) | (with_reducible apply Later.drew) | (with_reducible apply Later.drewN) | (with_reducible apply Later.alloc) | (with_reducible refine qhu ?_ (by first | exact Nat.le_refl _ | exact Nat.le_succ _ | exact Later.size (by assumption) | exact Nat.le_succ_of_le (Later.size (by assumption))) _ _ _ _ _ _) | (with_reducible refine Later.step ?_ (by assumption))))
    clear hK K)
   | exact AllReadyH.nil
   | (
    refine wpAnyH_done (by decide +kernel) ?_ _
    go_wp2_with fail
    go_meet
    exact ⟨_, _, _, _, _, _, _, _, _, _, rfl, qyz (by first | (with_reducible exact bq) | (with_reducible exact Box.alloc bq _) | (with_reducible exact Box.new _ _ _) | (with_reducible exact Box.new2 _ _ _ _) | (with_reducible exact Box.alloc (Box.new _ _ _) _)) (by first | (with_reducible exact bz) | (with_reducible exact Box.alloc bz _) | (with_reducible exact Box.new _ _ _) | (with_reducible exact Box.new2 _ _ _ _) | (with_reducible exact Box.alloc (Box.new _ _ _) _)) (by first | (with_reducible exact hbl) | (with_reducible exact hbl.ext ((Ext.refl _).alloc _)) | (with_reducible exact hbl.ext (((Ext.refl _).alloc _).alloc _))) (by first | (with_reducible exact hEl) | (with_reducible exact Ext.alloc hEl _) | (with_reducible exact Ext.alloc (Ext.alloc hEl _) _)) (by first | (with_reducible exact Nat.le_refl _) | (with_reducible exact Nat.le_succ _) | (with_reducible exact Ext.size hEl) | (with_reducible exact Nat.le_succ_of_le (Ext.size hEl))) (by first | (with_reducible exact Nat.le_refl _) | (with_reducible exact Nat.le_succ _) | (with_reducible exact Ext.size hEl) | (with_reducible exact Nat.le_succ_of_le (Ext.size hEl)))⟩)
   )
 case rest =>
  obtain ⟨rb, bc, x1, x2, X1, X2, u1, u2, u3, u4, rfl, hRB, hZR, hQB, ⟨hbc, hrb⟩, hXc⟩ := hcut
  have hQB1 := QB0.ext hXc
  have PB1 := PB.ext hXc
  have hob1 := hob.ext (hE0.trans hXc)
  have hx1 := hx0.ext (hE0.trans hXc)
  have hX1 := hE0.trans hXc
  have q0 := hRB.c0
  have hne : rb ≠ bc := by
   obtain ⟨cs9, hcs9, -⟩ := id hZR
   exact qb8 hRB hcs9 (by decide)
  have i1 : (0 : Int) ≤ (v : Int) := by omega
  have i2 : (v : Int) < (n : Int) := by omega
  rename_i hK
  refine hK _ _ ?_
  clear hK
  go_upto_region 4 with fail
  clear ks k0
  go_cut [] (fun wx => Box wx rb 75 #[.slice (some ⟨bc, 0, none⟩) n n, .int .u8 1, .bool x1, .slice X1 u1 u2, .bool x2, .slice X2 u3 u4] ∧ RowR wx bc n (fun j => if j = v then ((1 : Int) : Rat) else 0) ∧ RatB wx (.agg #[.bool x1, .slice X1 u1 u2, .bool x2, .slice X2 u3 u4]) (f : Rat) 2 ∧ Ext V0 wx)
  case first =>
   go_region_law (first
    | (go_simp; go_at_call 20; (with_reducible refine (qfw 1 _ (by omega) (by omega)).mono ?_); rintro e wl ⟨vl, rfl, hbl, hxl⟩; (obtain ⟨pl, Al, nl, cl, pl', Al', nl', cl', rfl⟩ := hbl.1.shape); (have hlL : Ext wc wl := Ext.trans eBx hxl); (have q0 := hlL.cell q0); (have hRl := hZR.ext hlL); (have f0 := hRl.frozen (v * 4)); (have f1 := hRl.frozen (v * 4 + 1)); (have f2 := hRl.frozen (v * 4 + 2)); (have f3 := hRl.frozen (v * 4 + 3)); (obtain ⟨_, _, _, _, _, _, _, _, b0, b1, b2, b3, _⟩ := hRl.at hv)))
   all_goals (
    obtain ⟨s1, s2⟩ := hRl.set hv hbl.1
    have hX9 := s2.ext (hXc.trans hlL) (fun b hb => hb ▸ hbc)
    go_wp2_with fail
    go_meet
    exact ⟨s2.box (hRB.ext hlL) hne, s1, s2.ratB (hQB.ext hlL), hX9⟩)
  case rest =>
   obtain ⟨hRB2, hRow, hQB2, hXd⟩ := hcut
   rename_i hK
   refine hK _ _ ?_
   clear hK hXc hRB hZR hQB q0 PB1 hQB1 hob1 hx1 hX1
   go_upto_if 35 with fail
   go_cut [] (fun wx => ∃ (y1 y2 : Bool) (Y1 Y2 : Option Addr) (t1 t2 t3 t4 : Nat), Box wx rb 75 #[.slice (some ⟨bc, 0, none⟩) n n, .int .u8 (if b = true then 3 else 1), .bool y1, .slice Y1 t1 t2, .bool y2, .slice Y2 t3 t4] ∧ RowR wx bc n (fun j => if j = v then ((1 : Int) : Rat) else 0) ∧ RatV wx (.agg #[.bool y1, .slice Y1 t1 t2, .bool y2, .slice Y2 t3 t4]) ((f + (if b = true then 1 else 0) : Int) : Rat) ∧ Ext V0 wx)
   case first =>
    cases b with
    | false =>
      go_wp2_with fail
      go_meet
      exact ⟨_, _, _, _, _, _, _, _, hRB2, hRow, by rw [if_neg (by decide), Int.add_zero]; exact hQB2.1, hXd⟩
    | true =>
      go_upto_region 6 with fail
      have q1 := hRB2.c1
      have q2 : wc.cell? ⟨rb, 2, none⟩ = some (.bool x1) := hRB2.cell 2
      have q3 : wc.cell? ⟨rb, 3, none⟩ = some (.slice X1 u1 u2) := hRB2.cell 3
      have q4 : wc.cell? ⟨rb, 4, none⟩ = some (.bool x2) := hRB2.cell 4
      have q5 : wc.cell? ⟨rb, 5, none⟩ = some (.slice X2 u3 u4) := hRB2.cell 5
      go_region_law (first
       | (go_simp; go_at_call 20; (with_reducible refine (qfw 1 _ (by omega) (by omega)).mono ?_); rintro e wl ⟨vl, rfl, hbl, hxl⟩; (obtain ⟨pl, Al, nl, cl, pl', Al', nl', cl', rfl⟩ := hbl.1.shape); (have hlL : Ext wc wl := Ext.trans eBx hxl); (have q2 := hlL.cell q2); (have q3 := hlL.cell q3); (have q4 := hlL.cell q4); (have q5 := hlL.cell q5); (have hQBl := hQB2.ext hlL))
       | (go_simp; go_at_call 47; (with_reducible refine (qcs _ _ _ _ _ _ _ (hQBl.ext eBx) (hbl.ext eBx) (by omega)).mono ?_); rintro e wm ⟨vm, rfl, hbm, hxm⟩; (obtain ⟨pm, Am, nm, cm, pm', Am', nm', cm', rfl⟩ := hbm.1.shape); (have hmL : Ext wl wm := Ext.trans eBx hxm); (have hRBm := (hRB2.ext hlL).ext hmL); (have q1 := hRBm.c1); (have q2 := hRBm.cell 2); (have q3 := hRBm.cell 3); (have q4 := hRBm.cell 4); (have q5 := hRBm.cell 5); (have z1 := hRBm.frozen 1); (have z2 := hRBm.frozen 2); (have z3 := hRBm.frozen 3); (have z4 := hRBm.frozen 4); (have z5 := hRBm.frozen 5)))
      all_goals (
       obtain ⟨s1, s2, s3, s4⟩ := row5 hRBm hne ((hRow.ext hlL).ext hmL) hbm.1 3
       have hXf := s4 V0 ((hXd.trans hlL).trans hmL) hrb
       clear hRBm q1 q2 q3 q4 q5 z1 z2 z3 z4 z5
       go_wp2_with fail
       go_meet
       exact ⟨_, _, _, _, _, _, _, _, s1, s2, by (have e : ((f + (if True then 1 else 0) : Int) : Rat) = (f : Rat) + ((1 : Int) : Rat) := by rw [if_pos trivial, Rat.intCast_add]); rw [e]; exact s3, hXf⟩)
   case rest =>
    obtain ⟨y1, y2, Y1, Y2, t1, t2, t3, t4, hRB3, hRow3, hQ3, hXe⟩ := hcut
    rename_i hK
    refine hK _ _ ?_
    clear hK hRB2 hRow hQB2 hXd
    have PB3 := PB.ext hXe
    have QB3 := QB0.ext hXe
    have hob3 := (hob.ext hE0).ext hXe
    obtain ⟨news, n1, n2, n3, n4, n5⟩ := ((hx0.ext hE0).ext hXe).src
    obtain ⟨irR, g1, g2, g3, g4⟩ := info_parts qqi
    have hmp : ∀ W, (Instr.makeSlice 39 (.int .i64 0) (.int .i64 ((m : Int) + 1))).run Tryz.prog W = .ok (.slice (some ⟨W.heap.size, 0, none⟩) 0 (m + 1)) (W.alloc (.cells (qtp (m + 1)) 75)) := fun W => by
     have := qsq (m + 1) (by omega) W
     simpa using this
    have r1 : IntKind.i64.wrap ((m : Int) + 1) = (m : Int) + 1 := IntWalk.i64_in _ (by omega)
    have c1 := PB3.c1
    clear hx0 hob hrows
    have HN2 := Lib.hid n2
    have HL : Hid (news.length = p.toL.rows.length * 6) := Lib.hid (by rw [n1, HM.out, p.toL_len.1])
    clear n2
    go_upto_region 8 with fail
    have hz : Ext wc (wc.alloc (.cells (qtp (m + 1)) 75)) := (Ext.refl wc).alloc _
    have oz : OwnX (wc.alloc (.cells (qtp (m + 1)) 75)) wc.heap.size 75 6 (.slice (some ⟨wc.heap.size, 0, none⟩) 0 (m + 1)) 0 [] := q3b (by omega) (Ext.refl _)
    generalize (wc.alloc (.cells (qtp (m + 1)) 75)) = wz at *
    obtain ⟨ob, hob'⟩ : ∃ x, x = wc.heap.size := ⟨_, rfl⟩
    have hwo : V0.heap.size ≤ ob := by have := hXe.size; omega
    rw [← hob'] at oz ⊢
    have hos : ob ≤ wz.heap.size := by have := hz.size; omega
    have hoc : wc.heap.size ≤ ob := by omega
    clear hob'
    have c1 := (PB3.ext hz).c1
    go_upto_region 9 with (at_builtin; refine qwv rfl _ _ 39 rfl ob 75 irR _ 6 96 Tryz.underlying39 g1 g2 g3 g4 rfl zRow _ 0 [] rfl oz Ar m news cr rfl n1 (fun hm => by obtain ⟨ad, e, h⟩ := HN2.out hm; exact ⟨ad, e, fun j y hj => hz.cell (h j y hj)⟩) n3 n4 (by omega) (by decide) hos ?_; intro v6 y6 o6 r6 s6; rw [Nat.zero_add, List.nil_append] at o6; obtain ⟨A6, d6, rfl⟩ := o6.shape)
    have hE6 : Ext wc y6 := r6.ext hz (fun g hg => by
     have hg : some ob = some g := hg
     injection hg with hg
     omega)
    obtain ⟨R, hR⟩ : ∃ R : Int, R = if b = true then 3 else 1 := ⟨_, rfl⟩
    obtain ⟨G, hG⟩ : ∃ G : Int, G = f + (if b = true then 1 else 0) := ⟨_, rfl⟩
    rw [← hR] at hRB3
    rw [← hG] at hQ3
    have HR : Hid (R = if b = true then 3 else 1) := Lib.hid hR
    have HG := Lib.hid hG
    have hob7 : ∀ {W}, Ext wc W → wc.heap.size ≤ ob := fun _ => hoc
    have hbase : ob ≤ y6.heap.size := by have := r6.size; omega
    have p0 := (PB3.ext hE6).c0
    have q0 := (hRB3.ext hE6).c0
    have q1 := (hRB3.ext hE6).c1
    have q2 := (hRB3.ext hE6).cell 2
    have q3 := (hRB3.ext hE6).cell 3
    have q4 := (hRB3.ext hE6).cell 4
    have q5 := (hRB3.ext hE6).cell 5
    clear hR hG hmp hmk hz oz r6 s6 n1 n3 n4 HN2 hrb hbc i1 i2 hos hob7
    go_region_law (first
     | ((have hza : Ext y6 (y6.drew.alloc (.cells #[.slice (some ⟨bc, 0, none⟩) n n, .int .u8 R, .bool y1, .slice Y1 t1 t2, .bool y2, .slice Y2 t3 t4] 75)) := ((Ext.refl y6).drew).alloc _); (refine qos rfl (.tmp 53) (.tmp 55) 39 rfl ob 75 irR _ 6 96 Tryz.underlying39 g1 g2 g3 g4 rfl zRow _ m news rfl (o6.ext hza) y6.drew.heap.size [.slice (some ⟨bc, 0, none⟩) n n, .int .u8 R, .bool y1, .slice Y1 t1 t2, .bool y2, .slice Y2 t3 t4] 1 rfl rfl (new6 y6.drew 75 _ _ _ _ _ _) one6 nou6 (by omega) (by decide) (Nat.le_trans hbase hza.size) ?_); intro v7 y7 o7 r7 s7; (have hE7 : Ext wc y7 := r7.ext (hE6.trans hza) (fun g hg => Nat.le_trans hoc (o6.lt hg).1)); (have p0 := (PB3.ext hE7).c0); (have QB7 := QB3.ext hE7); (have w0 := QB7.c0); (have w1 := QB7.c1); (have z0 := QB7.frozen 0); (have z1 := QB7.frozen 1); (obtain ⟨A7, d7, rfl⟩ := o7.shape)))
    all_goals (
     obtain ⟨d1, d2, d3, d4⟩ := qv5 (v := v) (f := f) (b := b) hE7 (hE0.trans hXe) hqs (Nat.le_trans (hE0.trans hXe).size hoc) QB7 hob3 HL.out n5 hn hRow3 hQ3 HR.out HG.out o7
     have QBe := (QB7.set 0 (.slice Ao n co)).set 1 (.slice A7 (m + 1) d7)
     have e0 := QBe.c0
     have e1 := QBe.c1
     clear p0 q0 q1 q2 q3 q4 q5 w0 w1 z0 z1
     go_wp2_with fail
     refine bodyPost_ret (v := .agg #[.slice Ao n co, .slice A7 (m + 1) d7]) (by simp [results, Tryz.results49, go_sem, e0, e1]) rfl ?_
     rw [HP.out]
     exact ⟨Ao, co, A7, d7, _, rfl, d1, d2, d3, d4⟩)
end Go.Proofs.YtljncdcjkdgkeaaGreatDoor.Lp

/- The law IlpDivides, walked. -/
import Derived.Test.YthafabkjidifeaaKH
import Derived.Test.YthafabkjidifeaaLV8
import Derived.Test.YthafabkjidifeaaIBR
import Derived.Test.YthafabkjidifeaaLV3
set_option linter.unusedVariables false
set_option linter.unusedSimpArgs false
namespace Go.Proofs.Ythafabkjidifeaa.Lp
open Go.RowKit Go.Proofs.Ythafabkjidifeaa.Big Go.Proofs.Ythafabkjidifeaa.Rt

def yZ (xs : List Int) : List Value := xs.map (Value.int .u8)
theorem yZ_get {xs : List Int} {j : Nat} {x : Int} (h : xs[j]? = some x) : (yZ xs)[j]? = some (.int .u8 x) := by simp [yZ, h]
theorem yZ_len (xs : List Int) : (yZ xs).length = xs.length := by simp [yZ]
/-- a problem stored into its box -/
theorem putP {w : World} {b : Nat} (B : Box w b 39 #[.slice none 0 0, .slice none 0 0]) (u0 u1 : Value) : Fr (fun k => k = b) w ((w.setCell ⟨b, 0, none⟩ u0).setCell ⟨b, 1, none⟩ u1) ∧ Box ((w.setCell ⟨b, 0, none⟩ u0).setCell ⟨b, 1, none⟩ u1) b 39 #[u0, u1] :=
  ⟨((Fr.refl (fun k => k = b) w).set (p := ⟨b, 0, none⟩) rfl (fun z => by rw [B.c0]; intro e; cases e) _).set (p := ⟨b, 1, none⟩) rfl (fun z => by rw [(B.set 0 _).c1]; intro e; cases e) _, (B.set 0 u0).set 1 u1⟩
theorem QB_fitZ {z : Int} (h : fit z = true) : QB 3 (z : Rat) := by
  have := fit_QB h false
  simpa using this
def dv3 : Oper := { dst := some 56, op := Op.call { callee := Callee.value (Operand.func 26), args := #[Operand.tmp 53, Operand.tmp 54, Operand.tmp 55, Operand.const (Value.bool false)], argTypes := #[39, 3, 3, 4] }, type := 39, pos := "law.go:291", after := #[{ on := 0, ground := Ground.data }, { on := 1, ground := Ground.data }, { on := 2, ground := Ground.data }], guard := none }
def dv7 : Oper := { dst := some 60, op := Op.call { callee := Callee.value (Operand.func 26), args := #[Operand.tmp 57, Operand.tmp 58, Operand.tmp 59, Operand.const (Value.bool true)], argTypes := #[39, 3, 3, 4] }, type := 39, pos := "law.go:291", after := #[{ on := 4, ground := Ground.data }, { on := 5, ground := Ground.data }, { on := 6, ground := Ground.data }, { on := 3, ground := Ground.chain }], guard := none }
def dv8 : Oper := { dst := some 14, op := Op.alloc 39, type := 0, pos := "law.go:291", after := #[], guard := none }
def dv9 : Oper := { dst := some 15, op := Op.alloc 39, type := 0, pos := "law.go:291", after := #[], guard := none }
def dv10 : Oper := { dst := none, op := Op.store 39 (Operand.tmp 14) (Operand.tmp 56), type := 0, pos := "law.go:291", after := #[{ on := 8, ground := Ground.data }, { on := 3, ground := Ground.data }, { on := 7, ground := Ground.chain }, { on := 0, ground := Ground.phase }, { on := 1, ground := Ground.phase }, { on := 2, ground := Ground.phase }, { on := 3, ground := Ground.phase }, { on := 4, ground := Ground.textOnly Departure.lateStores }, { on := 5, ground := Ground.textOnly Departure.lateStores }, { on := 6, ground := Ground.textOnly Departure.lateStores }, { on := 7, ground := Ground.textOnly Departure.lateStoresUnsure }, { on := 8, ground := Ground.phase }, { on := 9, ground := Ground.phase }], guard := none }
def dv11 : Oper := { dst := none, op := Op.store 39 (Operand.tmp 15) (Operand.tmp 60), type := 0, pos := "law.go:291", after := #[{ on := 9, ground := Ground.data }, { on := 7, ground := Ground.data }, { on := 10, ground := Ground.chain }, { on := 0, ground := Ground.phase }, { on := 1, ground := Ground.phase }, { on := 2, ground := Ground.phase }, { on := 3, ground := Ground.phase }, { on := 4, ground := Ground.phase }, { on := 5, ground := Ground.phase }, { on := 6, ground := Ground.phase }, { on := 7, ground := Ground.phase }, { on := 8, ground := Ground.phase }, { on := 9, ground := Ground.phase }, { on := 10, ground := Ground.phase }], guard := none }
set_option maxHeartbeats 2000000 in
set_option maxRecDepth 100000 in
theorem divides_any (v : Value) (Ax : Option Addr) (nx cx : Nat) (xs : List Int) (v0 f0 : Int) (ip : IP) (w : World) (hv : IPV w v ip) (hok : ip.okW) (hxs : Row w (.slice Ax nx cx) (yZ xs)) (hxs8 : ∀ z ∈ xs, 0 ≤ z ∧ z ≤ 255) (hv0 : 0 ≤ v0 ∧ v0 ≤ 255) (hf0 : 0 ≤ f0 ∧ f0 ≤ 255) :
    Calls Try.prog 10 #[v, .slice Ax nx cx, .int .u8 v0, .int .u8 f0] w (ValPost w (.bool true)) := by
  obtain ⟨Ai, ni, ci, Aj, nj, cj, dd, rfl⟩ : ∃ A n c A' n' c' d, v = .agg #[.slice A n c, .slice A' n' c', .int .u8 d] := by
    obtain ⟨A, c, A', c', rfl, -⟩ := id hv
    exact ⟨_, _, _, _, _, _, _, rfl⟩
  have B1 := Box.new w 25 #[.slice Ai ni ci, .slice Aj nj cj, .int .u8 dd]
  have hE0 : Ext w (w.alloc (.cells #[.slice Ai ni ci, .slice Aj nj cj, .int .u8 dd] 25)) := (Ext.refl w).alloc _
  go_enter Try.func10, Try.ntmps10
  go_upto_region 1 with fail
  generalize (w.alloc (.cells #[.slice Ai ni ci, .slice Aj nj cj, .int .u8 dd] 25)) = V at *
  obtain ⟨ab, hab⟩ : ∃ x, x = w.heap.size := ⟨_, rfl⟩
  rw [← hab] at B1 ⊢
  clear hab
  go_wp2_with fail
  refine (awake_i _).mono ?_
  rintro e w1 ⟨rfl, hx1⟩
  have hE1 := hE0.trans hx1
  have B1 := B1.ext hx1
  have c0 : w1.cell? ⟨ab, 0, none⟩ = some _ := B1.cell 0
  have c1 : w1.cell? ⟨ab, 1, none⟩ = some _ := B1.cell 1
  have c2 : w1.cell? ⟨ab, 2, none⟩ = some _ := B1.cell 2
  have hv2 := hv.ext hE1
  clear hE0 hx1 B1 hv
  go_wp2_with fail
  refine (boxed_b _ ip _ hv2 hok).mono ?_
  clear c0 c1 c2
  rintro e w2 ⟨hx2, hbx⟩
  have hE2 := hE1.trans hx2
  clear hE1
  rcases hbx with ⟨v', hbz, rfl, hI⟩ | ⟨-, rfl⟩
  case inr =>
    clear hv2 hx2
    go_wp2_with fail
    go_ret
    exact ⟨rfl, hE2.alloc _⟩
  case inl =>
  have HBP : Hid (BoxP ip.boxed 8) := Lib.hid (boxed_P (boxZ_iff.1 hbz))
  have HLN : Hid (∀ r ∈ ip.boxed.rows, r.coef.length = ip.boxed.obj.length) := Lib.hid (fun r hr => (HBP.out.rows r hr).1)
  obtain ⟨Ao, co, Ar, cr, rfl, ho, -⟩ := id hI
  obtain ⟨n, hn⟩ : ∃ n, n = ip.boxed.obj.length := ⟨_, rfl⟩
  obtain ⟨m, hm⟩ : ∃ n, n = ip.boxed.rows.length := ⟨_, rfl⟩
  obtain ⟨d, hd⟩ : ∃ n, n = ip.boxed.den := ⟨_, rfl⟩
  obtain ⟨Q, hQ⟩ : ∃ Q, Q = ip.boxed := ⟨_, rfl⟩
  have hn3 : n ≤ 3 := by rw [hn]; exact HBP.out.n3
  have hn1 : 1 ≤ n := by rw [hn]; exact HBP.out.n1
  have hm8 : m ≤ 8 := by rw [hm]; exact HBP.out.ms
  rw [← hn] at hI ho
  rw [← hm, ← hd] at hI
  rw [← hm, ← hn, ← hd]
  rw [← hQ] at HBP HLN hn hm hd hI ho
  have HN := Lib.hid hn
  have HM := Lib.hid hm
  have HDN := Lib.hid hd
  clear hbz hn hm hd hQ hv2 hok
  go_upto_region 4 with fail
  have QB := Box.new w2 25 #[.slice Ao n co, .slice Ar m cr, .int .u8 (d : Int)]
  have hx3 : Ext w2 (w2.alloc (.cells #[.slice Ao n co, .slice Ar m cr, .int .u8 (d : Int)] 25)) := (Ext.refl w2).alloc _
  generalize (w2.alloc (.cells #[.slice Ao n co, .slice Ar m cr, .int .u8 (d : Int)] 25)) = W3 at *
  obtain ⟨qb, hqb⟩ : ∃ x, x = w2.heap.size := ⟨_, rfl⟩
  rw [← hqb] at QB ⊢
  have hqw : w2.heap.size ≤ qb := by omega
  clear hqb
  have hI3 := hI.ext hx3
  have hE3 := hE2.trans hx3
  obtain ⟨hnx, hxc1, hxc2, hxrow⟩ := hxs.inj
  rw [yZ_len] at hnx hxc1 hxrow
  have q0 := QB.c0
  by_cases hlen : n ≤ nx
  case neg =>
    have i1 : decide ((nx : Int) < (n : Int)) = true := by simp; omega
    go_wp2_with fail
    go_ret
    exact ⟨rfl, hE3⟩
  case pos =>
  have i1 : decide ((nx : Int) < (n : Int)) = false := by simp; omega
  have q1 := QB.c1
  have q2 := QB.c2
  have HXR := Lib.hid hxrow
  have HNX := Lib.hid hnx
  have HX8 := Lib.hid hxs8
  clear hxrow hnx hxs hxs8
  go_wp2_with fail
  refine (Make_b _ Q _ hI3 HBP.out.ok).mono ?_
  rintro e w4 ⟨y, a, rfl, hy, hx4⟩
  have hP4 : ProbV w4 y Q.pl.toP := MkV.prob hy
  obtain ⟨P, hPP⟩ : ∃ P, P = Q.pl.toP := ⟨_, rfl⟩
  have hPn : P.n = n := by rw [hPP, IP.pn, HN.out]
  have hPm : P.m = m := by rw [hPP, IP.pm, HM.out]
  have HPP := Lib.hid hPP
  rw [← hPP] at hP4
  clear q0 q1 q2 hy i1 hPP
  obtain ⟨Bo, bo, Br, br, rfl, -⟩ := id hP4
  rw [hPn, hPm] at hP4 ⊢
  go_upto_region 7 with fail
  have PB := Box.new w4 39 #[.slice Bo n bo, .slice Br m br]
  have hxp : Ext w4 (w4.alloc (.cells #[.slice Bo n bo, .slice Br m br] 39)) := (Ext.refl w4).alloc _
  generalize (w4.alloc (.cells #[.slice Bo n bo, .slice Br m br] 39)) = W4 at *
  obtain ⟨pb, hpb⟩ : ∃ x, x = w4.heap.size := ⟨_, rfl⟩
  rw [← hpb] at PB ⊢
  clear hpb
  have hx24 := (hx4.trans hxp)
  have QB4 := QB.ext hx24
  have hE4 := hE3.trans hx24
  have hP := hP4.ext hxp
  have q0 := QB4.c0
  have hn0 : (n : Int) ≠ 0 := by omega
  go_upto_region 8 with fail
  clear q0
  obtain ⟨k, hk⟩ : ∃ k : Nat, v0 % (n : Int) = (k : Int) := ⟨(v0 % (n : Int)).toNat, (Int.toNat_of_nonneg (Int.emod_nonneg _ hn0)).symm⟩
  have hkn : k < P.n := by
    have := Int.emod_lt_of_pos v0 (show (0 : Int) < (n : Int) by omega)
    omega
  obtain ⟨f, hf⟩ : ∃ f, f = f0 % 4 := ⟨_, rfl⟩
  rw [hk, ← hf]
  have hf4 : 0 ≤ f ∧ f ≤ 3 := by omega
  have HF : Hid (fit f = true) := Lib.hid (fit_iff.2 ⟨by omega, by omega⟩)
  have HVL : Hid (validB P = true) := Lib.hid (by rw [HPP.out]; exact HBP.out.valid)
  clear hk hf hn0
  go_cut [14, 15] (fun v14 v15 wx => ∃ bL bH, v14 = .pointer (some ⟨bL, 0, none⟩) ∧ v15 = .pointer (some ⟨bH, 0, none⟩) ∧ ∃ (CL : Option Addr) (cL : Nat) (DL : Option Addr) (dL : Nat) (CH : Option Addr) (cH : Nat) (DH : Option Addr) (dH : Nat), Box wx bL 39 #[.slice CL (P.side k f false).n cL, .slice DL (P.side k f false).m dL] ∧ Box wx bH 39 #[.slice CH (P.side k f true).n cH, .slice DH (P.side k f true).m dH] ∧ ProbV wx (.agg #[.slice CL (P.side k f false).n cL, .slice DL (P.side k f false).m dL]) (P.side k f false) ∧ ProbV wx (.agg #[.slice CH (P.side k f true).n cH, .slice DH (P.side k f true).m dH]) (P.side k f true) ∧ bL ≠ bH ∧ Ext W4 wx)
  case first =>
    have kp0 : ∀ w', Later W4 w' → w'.cell? ⟨pb, 0, none⟩ = some (.slice Bo n bo) := fun w' h => (PB.ext h).c0
    have kp1 : ∀ w', Later W4 w' → w'.cell? ⟨pb, 1, none⟩ = some (.slice Br m br) := fun w' h => (PB.ext h).c1
    clear PB QB QB4 hI hI3 hE2 hE3 hE4 hx2 hx3 hx4 hxp hx24 hP4 HXR HX8 HNX HBP HLN
    refine wp_region_held_drew (S := fun w' => Later W4 w') (by kernel_rfl) ?_ (fun hHeld => ?_)
    ·exact (Later.refl W4).drew
    have hE : Ext W4 W4.drew := (Ext.refl W4).drew
    generalize W4.drew = Z1 at *
    refine wpAnyH_take (i := 0) (oi := { dst := some 53, op := Op.load 39 (Operand.tmp 11), type := 39, pos := "law.go:291", after := #[], guard := none }) (v := ?_) rfl (by kernel_rfl) (by kernel_rfl) (by kernel_rfl) (fun _ _ _ h => h) (Or.inl ⟨by rfl, ?_⟩) (by assumption) ?_
    rotate_left
    ·intro w hSw; (try dsimp only at hSw); go_simp; try (with_reducible rfl)
    try simp only [Act.put, List.setIfInBounds_toArray, List.set_cons_zero, List.set_cons_succ]
    refine wpAnyH_take (i := 1) (oi := { dst := some 54, op := Op.move (Operand.tmp 12), type := 3, pos := "law.go:291", after := #[], guard := none }) (v := ?_) rfl (by kernel_rfl) (by kernel_rfl) (by kernel_rfl) (fun _ _ _ h => h) (Or.inl ⟨by rfl, ?_⟩) (by assumption) ?_
    rotate_left
    ·intro w hSw; (try dsimp only at hSw); go_simp; try (with_reducible rfl)
    try simp only [Act.put, List.setIfInBounds_toArray, List.set_cons_zero, List.set_cons_succ]
    refine wpAnyH_take (i := 2) (oi := { dst := some 55, op := Op.move (Operand.tmp 13), type := 3, pos := "law.go:291", after := #[], guard := none }) (v := ?_) rfl (by kernel_rfl) (by kernel_rfl) (by kernel_rfl) (fun _ _ _ h => h) (Or.inl ⟨by rfl, ?_⟩) (by assumption) ?_
    rotate_left
    ·intro w hSw; (try dsimp only at hSw); go_simp; try (with_reducible rfl)
    try simp only [Act.put, List.setIfInBounds_toArray, List.set_cons_zero, List.set_cons_succ]
    refine wpAnyH_take (i := 4) (oi := { dst := some 57, op := Op.load 39 (Operand.tmp 11), type := 39, pos := "law.go:291", after := #[], guard := none }) (v := ?_) rfl (by kernel_rfl) (by kernel_rfl) (by kernel_rfl) (fun _ _ _ h => h) (Or.inl ⟨by rfl, ?_⟩) (by assumption) ?_
    rotate_left
    ·intro w hSw; (try dsimp only at hSw); go_simp; try (with_reducible rfl)
    try simp only [Act.put, List.setIfInBounds_toArray, List.set_cons_zero, List.set_cons_succ]
    refine wpAnyH_take (i := 5) (oi := { dst := some 58, op := Op.move (Operand.tmp 12), type := 3, pos := "law.go:291", after := #[], guard := none }) (v := ?_) rfl (by kernel_rfl) (by kernel_rfl) (by kernel_rfl) (fun _ _ _ h => h) (Or.inl ⟨by rfl, ?_⟩) (by assumption) ?_
    rotate_left
    ·intro w hSw; (try dsimp only at hSw); go_simp; try (with_reducible rfl)
    try simp only [Act.put, List.setIfInBounds_toArray, List.set_cons_zero, List.set_cons_succ]
    refine wpAnyH_take (i := 6) (oi := { dst := some 59, op := Op.move (Operand.tmp 13), type := 3, pos := "law.go:291", after := #[], guard := none }) (v := ?_) rfl (by kernel_rfl) (by kernel_rfl) (by kernel_rfl) (fun _ _ _ h => h) (Or.inl ⟨by rfl, ?_⟩) (by assumption) ?_
    rotate_left
    ·intro w hSw; (try dsimp only at hSw); go_simp; try (with_reducible rfl)
    try simp only [Act.put, List.setIfInBounds_toArray, List.set_cons_zero, List.set_cons_succ]
    refine wpAnyH_ready (rs := [3, 8, 9]) (by kernel_rfl) (by simp) ?_
    refine AllReadyH.cons (o := dv3) rfl (fun K hK => ?_) ?_
    ·unfold dv3
     go_simp
     go_at_call 26
     refine (Branch_b _ P k f false _ (hP.ext hE) HVL.out hkn HF.out).mono ?_
     rintro e Z2 ⟨yL, rfl, hyL, hx⟩
     obtain ⟨CL, cL, DL, dL, rfl, -⟩ := id hyL
     have hE := hE.trans hx
     clear hx
     have hLt : Later W4 Z2 := hE
     try (go_wp2_with fail)
     refine hK.out _ _ hLt (fun hHeld => ?_)
     clear hK K hLt
     try simp only [Act.put, List.setIfInBounds_toArray, List.set_cons_zero, List.set_cons_succ]
     refine wpAnyH_ready (rs := [7, 8, 9]) (by kernel_rfl) (by simp) ?_
     refine AllReadyH.cons (o := dv7) rfl (fun K hK => ?_) ?_
     ·unfold dv7
      go_simp
      go_at_call 26
      refine (Branch_b _ P k f true _ (hP.ext hE) HVL.out hkn HF.out).mono ?_
      rintro e Z3 ⟨yH, rfl, hyH, hx⟩
      obtain ⟨CH, cH, DH, dH, rfl, -⟩ := id hyH
      have hyL := hyL.ext hx
      have hE := hE.trans hx
      clear hx
      have hLt : Later W4 Z3 := hE
      try (go_wp2_with fail)
      refine hK.out _ _ hLt (fun hHeld => ?_)
      clear hK K hLt
      try simp only [Act.put, List.setIfInBounds_toArray, List.set_cons_zero, List.set_cons_succ]
      refine wpAnyH_ready (rs := [8, 9]) (by kernel_rfl) (by simp) ?_
      refine AllReadyH.cons (o := dv8) rfl (fun K hK => ?_) ?_
      ·unfold dv8
       go_simp
       have LB := Box.new Z3 39 #[.slice none 0 0, .slice none 0 0]
       have hx : Ext Z3 (Z3.alloc (.cells #[.slice none 0 0, .slice none 0 0] 39)) := (Ext.refl Z3).alloc _
       generalize (Z3.alloc (.cells #[.slice none 0 0, .slice none 0 0] 39)) = Z4 at *
       obtain ⟨bL, hbL⟩ : ∃ x, x = Z3.heap.size := ⟨_, rfl⟩
       rw [← hbL] at LB ⊢
       have hwL : W4.heap.size ≤ bL := by have := hE.size; omega
       clear hbL
       have hyL := hyL.ext hx
       have hyH := hyH.ext hx
       have hE := hE.trans hx
       clear hx
       have hLt : Later W4 Z4 := hE
       refine hK.out _ _ hLt (fun hHeld => ?_)
       clear hK K hLt
       try simp only [Act.put, List.setIfInBounds_toArray, List.set_cons_zero, List.set_cons_succ]
       refine wpAnyH_ready (rs := [9]) (by kernel_rfl) (by simp) ?_
       refine AllReadyH.cons (o := dv9) rfl (fun K hK => ?_) ?_
       ·unfold dv9
        go_simp
        have HB := Box.new Z4 39 #[.slice none 0 0, .slice none 0 0]
        have hx : Ext Z4 (Z4.alloc (.cells #[.slice none 0 0, .slice none 0 0] 39)) := (Ext.refl Z4).alloc _
        generalize (Z4.alloc (.cells #[.slice none 0 0, .slice none 0 0] 39)) = Z5 at *
        obtain ⟨bH, hbH⟩ : ∃ x, x = Z4.heap.size := ⟨_, rfl⟩
        rw [← hbH] at HB ⊢
        have hwH : W4.heap.size ≤ bH := by have := hE.size; omega
        have hbb : bL ≠ bH := by have := LB.lt; omega
        clear hbH
        have LB := LB.ext hx
        have hyL := hyL.ext hx
        have hyH := hyH.ext hx
        have hE := hE.trans hx
        clear hx
        have hLt : Later W4 Z5 := hE
        refine hK.out _ _ hLt (fun hHeld => ?_)
        clear hK K hLt
        try simp only [Act.put, List.setIfInBounds_toArray, List.set_cons_zero, List.set_cons_succ]
        refine wpAnyH_ready (rs := [10]) (by kernel_rfl) (by simp) ?_
        refine AllReadyH.cons (o := dv10) rfl (fun K hK => ?_) ?_
        ·have y0 := LB.c0
         have y1 := LB.c1
         have z0 := LB.frozen 0
         have z1 := LB.frozen 1
         unfold dv10
         go_simp
         obtain ⟨hf, LB2⟩ := putP LB (.slice CL (P.side k f false).n cL) (.slice DL (P.side k f false).m dL)
         have hyL := hyL.frQ hf (by decide) LB
         have hyH := hyH.frQ hf (by decide) LB
         have HB := hf.box HB (Ne.symm hbb)
         have hE := hf.ext hE (fun b hb => by rw [hb]; exact hwL)
         clear hf y0 y1 z0 z1
         have LB := LB2
         clear LB2
         generalize ((Z5.setCell ⟨bL, 0, none⟩ (.slice CL (P.side k f false).n cL)).setCell ⟨bL, 1, none⟩ (.slice DL (P.side k f false).m dL)) = Z6 at *
         have hLt : Later W4 Z6 := hE
         refine hK.out _ _ hLt (fun hHeld => ?_)
         clear hK K hLt
         try simp only [Act.put, List.setIfInBounds_toArray, List.set_cons_zero, List.set_cons_succ]
         refine wpAnyH_ready (rs := [11]) (by kernel_rfl) (by simp) ?_
         refine AllReadyH.cons (o := dv11) rfl (fun K hK => ?_) ?_
         ·have y0 := HB.c0
          have y1 := HB.c1
          have z0 := HB.frozen 0
          have z1 := HB.frozen 1
          unfold dv11
          go_simp
          obtain ⟨hf, HB2⟩ := putP HB (.slice CH (P.side k f true).n cH) (.slice DH (P.side k f true).m dH)
          have hyL := hyL.frQ hf (by decide) HB
          have hyH := hyH.frQ hf (by decide) HB
          have LB := hf.box LB (hbb)
          have hE := hf.ext hE (fun b hb => by rw [hb]; exact hwH)
          clear hf y0 y1 z0 z1
          have HB := HB2
          clear HB2
          generalize ((Z6.setCell ⟨bH, 0, none⟩ (.slice CH (P.side k f true).n cH)).setCell ⟨bH, 1, none⟩ (.slice DH (P.side k f true).m dH)) = Z7 at *
          have hLt : Later W4 Z7 := hE
          refine hK.out _ _ hLt (fun hHeld => ?_)
          clear hK K hLt
          try simp only [Act.put, List.setIfInBounds_toArray, List.set_cons_zero, List.set_cons_succ]
          refine wpAnyH_done (by kernel_rfl) ?_ _
          go_wp2_with fail
          go_meet
          exact ⟨_, _, rfl, rfl, _, _, _, _, _, _, _, _, LB, HB, hyL, hyH, hbb, hE⟩
         exact AllReadyH.nil
        exact AllReadyH.nil
       exact AllReadyH.nil
      refine AllReadyH.cons (o := dv9) rfl (fun K hK => ?_) ?_
      ·unfold dv9
       go_simp
       have HB := Box.new Z3 39 #[.slice none 0 0, .slice none 0 0]
       have hx : Ext Z3 (Z3.alloc (.cells #[.slice none 0 0, .slice none 0 0] 39)) := (Ext.refl Z3).alloc _
       generalize (Z3.alloc (.cells #[.slice none 0 0, .slice none 0 0] 39)) = Z8 at *
       obtain ⟨bH, hbH⟩ : ∃ x, x = Z3.heap.size := ⟨_, rfl⟩
       rw [← hbH] at HB ⊢
       have hwH : W4.heap.size ≤ bH := by have := hE.size; omega
       clear hbH
       have hyL := hyL.ext hx
       have hyH := hyH.ext hx
       have hE := hE.trans hx
       clear hx
       have hLt : Later W4 Z8 := hE
       refine hK.out _ _ hLt (fun hHeld => ?_)
       clear hK K hLt
       try simp only [Act.put, List.setIfInBounds_toArray, List.set_cons_zero, List.set_cons_succ]
       refine wpAnyH_ready (rs := [8]) (by kernel_rfl) (by simp) ?_
       refine AllReadyH.cons (o := dv8) rfl (fun K hK => ?_) ?_
       ·unfold dv8
        go_simp
        have LB := Box.new Z8 39 #[.slice none 0 0, .slice none 0 0]
        have hx : Ext Z8 (Z8.alloc (.cells #[.slice none 0 0, .slice none 0 0] 39)) := (Ext.refl Z8).alloc _
        generalize (Z8.alloc (.cells #[.slice none 0 0, .slice none 0 0] 39)) = Z9 at *
        obtain ⟨bL, hbL⟩ : ∃ x, x = Z8.heap.size := ⟨_, rfl⟩
        rw [← hbL] at LB ⊢
        have hwL : W4.heap.size ≤ bL := by have := hE.size; omega
        have hbb : bL ≠ bH := by have := HB.lt; omega
        clear hbL
        have HB := HB.ext hx
        have hyL := hyL.ext hx
        have hyH := hyH.ext hx
        have hE := hE.trans hx
        clear hx
        have hLt : Later W4 Z9 := hE
        refine hK.out _ _ hLt (fun hHeld => ?_)
        clear hK K hLt
        try simp only [Act.put, List.setIfInBounds_toArray, List.set_cons_zero, List.set_cons_succ]
        refine wpAnyH_ready (rs := [10]) (by kernel_rfl) (by simp) ?_
        refine AllReadyH.cons (o := dv10) rfl (fun K hK => ?_) ?_
        ·have y0 := LB.c0
         have y1 := LB.c1
         have z0 := LB.frozen 0
         have z1 := LB.frozen 1
         unfold dv10
         go_simp
         obtain ⟨hf, LB2⟩ := putP LB (.slice CL (P.side k f false).n cL) (.slice DL (P.side k f false).m dL)
         have hyL := hyL.frQ hf (by decide) LB
         have hyH := hyH.frQ hf (by decide) LB
         have HB := hf.box HB (Ne.symm hbb)
         have hE := hf.ext hE (fun b hb => by rw [hb]; exact hwL)
         clear hf y0 y1 z0 z1
         have LB := LB2
         clear LB2
         generalize ((Z9.setCell ⟨bL, 0, none⟩ (.slice CL (P.side k f false).n cL)).setCell ⟨bL, 1, none⟩ (.slice DL (P.side k f false).m dL)) = Z10 at *
         have hLt : Later W4 Z10 := hE
         refine hK.out _ _ hLt (fun hHeld => ?_)
         clear hK K hLt
         try simp only [Act.put, List.setIfInBounds_toArray, List.set_cons_zero, List.set_cons_succ]
         refine wpAnyH_ready (rs := [11]) (by kernel_rfl) (by simp) ?_
         refine AllReadyH.cons (o := dv11) rfl (fun K hK => ?_) ?_
         ·have y0 := HB.c0
          have y1 := HB.c1
          have z0 := HB.frozen 0
          have z1 := HB.frozen 1
          unfold dv11
          go_simp
          obtain ⟨hf, HB2⟩ := putP HB (.slice CH (P.side k f true).n cH) (.slice DH (P.side k f true).m dH)
          have hyL := hyL.frQ hf (by decide) HB
          have hyH := hyH.frQ hf (by decide) HB
          have LB := hf.box LB (hbb)
          have hE := hf.ext hE (fun b hb => by rw [hb]; exact hwH)
          clear hf y0 y1 z0 z1
          have HB := HB2
          clear HB2
          generalize ((Z10.setCell ⟨bH, 0, none⟩ (.slice CH (P.side k f true).n cH)).setCell ⟨bH, 1, none⟩ (.slice DH (P.side k f true).m dH)) = Z11 at *
          have hLt : Later W4 Z11 := hE
          refine hK.out _ _ hLt (fun hHeld => ?_)
          clear hK K hLt
          try simp only [Act.put, List.setIfInBounds_toArray, List.set_cons_zero, List.set_cons_succ]
          refine wpAnyH_done (by kernel_rfl) ?_ _
          go_wp2_with fail
          go_meet
          exact ⟨_, _, rfl, rfl, _, _, _, _, _, _, _, _, LB, HB, hyL, hyH, hbb, hE⟩
         exact AllReadyH.nil
        exact AllReadyH.nil
       exact AllReadyH.nil
      exact AllReadyH.nil
     refine AllReadyH.cons (o := dv8) rfl (fun K hK => ?_) ?_
     ·unfold dv8
      go_simp
      have LB := Box.new Z2 39 #[.slice none 0 0, .slice none 0 0]
      have hx : Ext Z2 (Z2.alloc (.cells #[.slice none 0 0, .slice none 0 0] 39)) := (Ext.refl Z2).alloc _
      generalize (Z2.alloc (.cells #[.slice none 0 0, .slice none 0 0] 39)) = Z12 at *
      obtain ⟨bL, hbL⟩ : ∃ x, x = Z2.heap.size := ⟨_, rfl⟩
      rw [← hbL] at LB ⊢
      have hwL : W4.heap.size ≤ bL := by have := hE.size; omega
      clear hbL
      have hyL := hyL.ext hx
      have hE := hE.trans hx
      clear hx
      have hLt : Later W4 Z12 := hE
      refine hK.out _ _ hLt (fun hHeld => ?_)
      clear hK K hLt
      try simp only [Act.put, List.setIfInBounds_toArray, List.set_cons_zero, List.set_cons_succ]
      refine wpAnyH_ready (rs := [7, 9]) (by kernel_rfl) (by simp) ?_
      refine AllReadyH.cons (o := dv7) rfl (fun K hK => ?_) ?_
      ·unfold dv7
       go_simp
       go_at_call 26
       refine (Branch_b _ P k f true _ (hP.ext hE) HVL.out hkn HF.out).mono ?_
       rintro e Z13 ⟨yH, rfl, hyH, hx⟩
       obtain ⟨CH, cH, DH, dH, rfl, -⟩ := id hyH
       have LB := LB.ext hx
       have hyL := hyL.ext hx
       have hE := hE.trans hx
       clear hx
       have hLt : Later W4 Z13 := hE
       try (go_wp2_with fail)
       refine hK.out _ _ hLt (fun hHeld => ?_)
       clear hK K hLt
       try simp only [Act.put, List.setIfInBounds_toArray, List.set_cons_zero, List.set_cons_succ]
       refine wpAnyH_ready (rs := [9]) (by kernel_rfl) (by simp) ?_
       refine AllReadyH.cons (o := dv9) rfl (fun K hK => ?_) ?_
       ·unfold dv9
        go_simp
        have HB := Box.new Z13 39 #[.slice none 0 0, .slice none 0 0]
        have hx : Ext Z13 (Z13.alloc (.cells #[.slice none 0 0, .slice none 0 0] 39)) := (Ext.refl Z13).alloc _
        generalize (Z13.alloc (.cells #[.slice none 0 0, .slice none 0 0] 39)) = Z14 at *
        obtain ⟨bH, hbH⟩ : ∃ x, x = Z13.heap.size := ⟨_, rfl⟩
        rw [← hbH] at HB ⊢
        have hwH : W4.heap.size ≤ bH := by have := hE.size; omega
        have hbb : bL ≠ bH := by have := LB.lt; omega
        clear hbH
        have LB := LB.ext hx
        have hyL := hyL.ext hx
        have hyH := hyH.ext hx
        have hE := hE.trans hx
        clear hx
        have hLt : Later W4 Z14 := hE
        refine hK.out _ _ hLt (fun hHeld => ?_)
        clear hK K hLt
        try simp only [Act.put, List.setIfInBounds_toArray, List.set_cons_zero, List.set_cons_succ]
        refine wpAnyH_ready (rs := [10]) (by kernel_rfl) (by simp) ?_
        refine AllReadyH.cons (o := dv10) rfl (fun K hK => ?_) ?_
        ·have y0 := LB.c0
         have y1 := LB.c1
         have z0 := LB.frozen 0
         have z1 := LB.frozen 1
         unfold dv10
         go_simp
         obtain ⟨hf, LB2⟩ := putP LB (.slice CL (P.side k f false).n cL) (.slice DL (P.side k f false).m dL)
         have hyL := hyL.frQ hf (by decide) LB
         have hyH := hyH.frQ hf (by decide) LB
         have HB := hf.box HB (Ne.symm hbb)
         have hE := hf.ext hE (fun b hb => by rw [hb]; exact hwL)
         clear hf y0 y1 z0 z1
         have LB := LB2
         clear LB2
         generalize ((Z14.setCell ⟨bL, 0, none⟩ (.slice CL (P.side k f false).n cL)).setCell ⟨bL, 1, none⟩ (.slice DL (P.side k f false).m dL)) = Z15 at *
         have hLt : Later W4 Z15 := hE
         refine hK.out _ _ hLt (fun hHeld => ?_)
         clear hK K hLt
         try simp only [Act.put, List.setIfInBounds_toArray, List.set_cons_zero, List.set_cons_succ]
         refine wpAnyH_ready (rs := [11]) (by kernel_rfl) (by simp) ?_
         refine AllReadyH.cons (o := dv11) rfl (fun K hK => ?_) ?_
         ·have y0 := HB.c0
          have y1 := HB.c1
          have z0 := HB.frozen 0
          have z1 := HB.frozen 1
          unfold dv11
          go_simp
          obtain ⟨hf, HB2⟩ := putP HB (.slice CH (P.side k f true).n cH) (.slice DH (P.side k f true).m dH)
          have hyL := hyL.frQ hf (by decide) HB
          have hyH := hyH.frQ hf (by decide) HB
          have LB := hf.box LB (hbb)
          have hE := hf.ext hE (fun b hb => by rw [hb]; exact hwH)
          clear hf y0 y1 z0 z1
          have HB := HB2
          clear HB2
          generalize ((Z15.setCell ⟨bH, 0, none⟩ (.slice CH (P.side k f true).n cH)).setCell ⟨bH, 1, none⟩ (.slice DH (P.side k f true).m dH)) = Z16 at *
          have hLt : Later W4 Z16 := hE
          refine hK.out _ _ hLt (fun hHeld => ?_)
          clear hK K hLt
          try simp only [Act.put, List.setIfInBounds_toArray, List.set_cons_zero, List.set_cons_succ]
          refine wpAnyH_done (by kernel_rfl) ?_ _
          go_wp2_with fail
          go_meet
          exact ⟨_, _, rfl, rfl, _, _, _, _, _, _, _, _, LB, HB, hyL, hyH, hbb, hE⟩
         exact AllReadyH.nil
        exact AllReadyH.nil
       exact AllReadyH.nil
      refine AllReadyH.cons (o := dv9) rfl (fun K hK => ?_) ?_
      ·unfold dv9
       go_simp
       have HB := Box.new Z12 39 #[.slice none 0 0, .slice none 0 0]
       have hx : Ext Z12 (Z12.alloc (.cells #[.slice none 0 0, .slice none 0 0] 39)) := (Ext.refl Z12).alloc _
       generalize (Z12.alloc (.cells #[.slice none 0 0, .slice none 0 0] 39)) = Z17 at *
       obtain ⟨bH, hbH⟩ : ∃ x, x = Z12.heap.size := ⟨_, rfl⟩
       rw [← hbH] at HB ⊢
       have hwH : W4.heap.size ≤ bH := by have := hE.size; omega
       have hbb : bL ≠ bH := by have := LB.lt; omega
       clear hbH
       have LB := LB.ext hx
       have hyL := hyL.ext hx
       have hE := hE.trans hx
       clear hx
       have hLt : Later W4 Z17 := hE
       refine hK.out _ _ hLt (fun hHeld => ?_)
       clear hK K hLt
       try simp only [Act.put, List.setIfInBounds_toArray, List.set_cons_zero, List.set_cons_succ]
       refine wpAnyH_ready (rs := [7]) (by kernel_rfl) (by simp) ?_
       refine AllReadyH.cons (o := dv7) rfl (fun K hK => ?_) ?_
       ·unfold dv7
        go_simp
        go_at_call 26
        refine (Branch_b _ P k f true _ (hP.ext hE) HVL.out hkn HF.out).mono ?_
        rintro e Z18 ⟨yH, rfl, hyH, hx⟩
        obtain ⟨CH, cH, DH, dH, rfl, -⟩ := id hyH
        have LB := LB.ext hx
        have HB := HB.ext hx
        have hyL := hyL.ext hx
        have hE := hE.trans hx
        clear hx
        have hLt : Later W4 Z18 := hE
        try (go_wp2_with fail)
        refine hK.out _ _ hLt (fun hHeld => ?_)
        clear hK K hLt
        try simp only [Act.put, List.setIfInBounds_toArray, List.set_cons_zero, List.set_cons_succ]
        refine wpAnyH_ready (rs := [10]) (by kernel_rfl) (by simp) ?_
        refine AllReadyH.cons (o := dv10) rfl (fun K hK => ?_) ?_
        ·have y0 := LB.c0
         have y1 := LB.c1
         have z0 := LB.frozen 0
         have z1 := LB.frozen 1
         unfold dv10
         go_simp
         obtain ⟨hf, LB2⟩ := putP LB (.slice CL (P.side k f false).n cL) (.slice DL (P.side k f false).m dL)
         have hyL := hyL.frQ hf (by decide) LB
         have hyH := hyH.frQ hf (by decide) LB
         have HB := hf.box HB (Ne.symm hbb)
         have hE := hf.ext hE (fun b hb => by rw [hb]; exact hwL)
         clear hf y0 y1 z0 z1
         have LB := LB2
         clear LB2
         generalize ((Z18.setCell ⟨bL, 0, none⟩ (.slice CL (P.side k f false).n cL)).setCell ⟨bL, 1, none⟩ (.slice DL (P.side k f false).m dL)) = Z19 at *
         have hLt : Later W4 Z19 := hE
         refine hK.out _ _ hLt (fun hHeld => ?_)
         clear hK K hLt
         try simp only [Act.put, List.setIfInBounds_toArray, List.set_cons_zero, List.set_cons_succ]
         refine wpAnyH_ready (rs := [11]) (by kernel_rfl) (by simp) ?_
         refine AllReadyH.cons (o := dv11) rfl (fun K hK => ?_) ?_
         ·have y0 := HB.c0
          have y1 := HB.c1
          have z0 := HB.frozen 0
          have z1 := HB.frozen 1
          unfold dv11
          go_simp
          obtain ⟨hf, HB2⟩ := putP HB (.slice CH (P.side k f true).n cH) (.slice DH (P.side k f true).m dH)
          have hyL := hyL.frQ hf (by decide) HB
          have hyH := hyH.frQ hf (by decide) HB
          have LB := hf.box LB (hbb)
          have hE := hf.ext hE (fun b hb => by rw [hb]; exact hwH)
          clear hf y0 y1 z0 z1
          have HB := HB2
          clear HB2
          generalize ((Z19.setCell ⟨bH, 0, none⟩ (.slice CH (P.side k f true).n cH)).setCell ⟨bH, 1, none⟩ (.slice DH (P.side k f true).m dH)) = Z20 at *
          have hLt : Later W4 Z20 := hE
          refine hK.out _ _ hLt (fun hHeld => ?_)
          clear hK K hLt
          try simp only [Act.put, List.setIfInBounds_toArray, List.set_cons_zero, List.set_cons_succ]
          refine wpAnyH_done (by kernel_rfl) ?_ _
          go_wp2_with fail
          go_meet
          exact ⟨_, _, rfl, rfl, _, _, _, _, _, _, _, _, LB, HB, hyL, hyH, hbb, hE⟩
         exact AllReadyH.nil
        exact AllReadyH.nil
       exact AllReadyH.nil
      exact AllReadyH.nil
     refine AllReadyH.cons (o := dv9) rfl (fun K hK => ?_) ?_
     ·unfold dv9
      go_simp
      have HB := Box.new Z2 39 #[.slice none 0 0, .slice none 0 0]
      have hx : Ext Z2 (Z2.alloc (.cells #[.slice none 0 0, .slice none 0 0] 39)) := (Ext.refl Z2).alloc _
      generalize (Z2.alloc (.cells #[.slice none 0 0, .slice none 0 0] 39)) = Z21 at *
      obtain ⟨bH, hbH⟩ : ∃ x, x = Z2.heap.size := ⟨_, rfl⟩
      rw [← hbH] at HB ⊢
      have hwH : W4.heap.size ≤ bH := by have := hE.size; omega
      clear hbH
      have hyL := hyL.ext hx
      have hE := hE.trans hx
      clear hx
      have hLt : Later W4 Z21 := hE
      refine hK.out _ _ hLt (fun hHeld => ?_)
      clear hK K hLt
      try simp only [Act.put, List.setIfInBounds_toArray, List.set_cons_zero, List.set_cons_succ]
      refine wpAnyH_ready (rs := [7, 8]) (by kernel_rfl) (by simp) ?_
      refine AllReadyH.cons (o := dv7) rfl (fun K hK => ?_) ?_
      ·unfold dv7
       go_simp
       go_at_call 26
       refine (Branch_b _ P k f true _ (hP.ext hE) HVL.out hkn HF.out).mono ?_
       rintro e Z22 ⟨yH, rfl, hyH, hx⟩
       obtain ⟨CH, cH, DH, dH, rfl, -⟩ := id hyH
       have HB := HB.ext hx
       have hyL := hyL.ext hx
       have hE := hE.trans hx
       clear hx
       have hLt : Later W4 Z22 := hE
       try (go_wp2_with fail)
       refine hK.out _ _ hLt (fun hHeld => ?_)
       clear hK K hLt
       try simp only [Act.put, List.setIfInBounds_toArray, List.set_cons_zero, List.set_cons_succ]
       refine wpAnyH_ready (rs := [8]) (by kernel_rfl) (by simp) ?_
       refine AllReadyH.cons (o := dv8) rfl (fun K hK => ?_) ?_
       ·unfold dv8
        go_simp
        have LB := Box.new Z22 39 #[.slice none 0 0, .slice none 0 0]
        have hx : Ext Z22 (Z22.alloc (.cells #[.slice none 0 0, .slice none 0 0] 39)) := (Ext.refl Z22).alloc _
        generalize (Z22.alloc (.cells #[.slice none 0 0, .slice none 0 0] 39)) = Z23 at *
        obtain ⟨bL, hbL⟩ : ∃ x, x = Z22.heap.size := ⟨_, rfl⟩
        rw [← hbL] at LB ⊢
        have hwL : W4.heap.size ≤ bL := by have := hE.size; omega
        have hbb : bL ≠ bH := by have := HB.lt; omega
        clear hbL
        have HB := HB.ext hx
        have hyL := hyL.ext hx
        have hyH := hyH.ext hx
        have hE := hE.trans hx
        clear hx
        have hLt : Later W4 Z23 := hE
        refine hK.out _ _ hLt (fun hHeld => ?_)
        clear hK K hLt
        try simp only [Act.put, List.setIfInBounds_toArray, List.set_cons_zero, List.set_cons_succ]
        refine wpAnyH_ready (rs := [10]) (by kernel_rfl) (by simp) ?_
        refine AllReadyH.cons (o := dv10) rfl (fun K hK => ?_) ?_
        ·have y0 := LB.c0
         have y1 := LB.c1
         have z0 := LB.frozen 0
         have z1 := LB.frozen 1
         unfold dv10
         go_simp
         obtain ⟨hf, LB2⟩ := putP LB (.slice CL (P.side k f false).n cL) (.slice DL (P.side k f false).m dL)
         have hyL := hyL.frQ hf (by decide) LB
         have hyH := hyH.frQ hf (by decide) LB
         have HB := hf.box HB (Ne.symm hbb)
         have hE := hf.ext hE (fun b hb => by rw [hb]; exact hwL)
         clear hf y0 y1 z0 z1
         have LB := LB2
         clear LB2
         generalize ((Z23.setCell ⟨bL, 0, none⟩ (.slice CL (P.side k f false).n cL)).setCell ⟨bL, 1, none⟩ (.slice DL (P.side k f false).m dL)) = Z24 at *
         have hLt : Later W4 Z24 := hE
         refine hK.out _ _ hLt (fun hHeld => ?_)
         clear hK K hLt
         try simp only [Act.put, List.setIfInBounds_toArray, List.set_cons_zero, List.set_cons_succ]
         refine wpAnyH_ready (rs := [11]) (by kernel_rfl) (by simp) ?_
         refine AllReadyH.cons (o := dv11) rfl (fun K hK => ?_) ?_
         ·have y0 := HB.c0
          have y1 := HB.c1
          have z0 := HB.frozen 0
          have z1 := HB.frozen 1
          unfold dv11
          go_simp
          obtain ⟨hf, HB2⟩ := putP HB (.slice CH (P.side k f true).n cH) (.slice DH (P.side k f true).m dH)
          have hyL := hyL.frQ hf (by decide) HB
          have hyH := hyH.frQ hf (by decide) HB
          have LB := hf.box LB (hbb)
          have hE := hf.ext hE (fun b hb => by rw [hb]; exact hwH)
          clear hf y0 y1 z0 z1
          have HB := HB2
          clear HB2
          generalize ((Z24.setCell ⟨bH, 0, none⟩ (.slice CH (P.side k f true).n cH)).setCell ⟨bH, 1, none⟩ (.slice DH (P.side k f true).m dH)) = Z25 at *
          have hLt : Later W4 Z25 := hE
          refine hK.out _ _ hLt (fun hHeld => ?_)
          clear hK K hLt
          try simp only [Act.put, List.setIfInBounds_toArray, List.set_cons_zero, List.set_cons_succ]
          refine wpAnyH_done (by kernel_rfl) ?_ _
          go_wp2_with fail
          go_meet
          exact ⟨_, _, rfl, rfl, _, _, _, _, _, _, _, _, LB, HB, hyL, hyH, hbb, hE⟩
         exact AllReadyH.nil
        exact AllReadyH.nil
       exact AllReadyH.nil
      refine AllReadyH.cons (o := dv8) rfl (fun K hK => ?_) ?_
      ·unfold dv8
       go_simp
       have LB := Box.new Z21 39 #[.slice none 0 0, .slice none 0 0]
       have hx : Ext Z21 (Z21.alloc (.cells #[.slice none 0 0, .slice none 0 0] 39)) := (Ext.refl Z21).alloc _
       generalize (Z21.alloc (.cells #[.slice none 0 0, .slice none 0 0] 39)) = Z26 at *
       obtain ⟨bL, hbL⟩ : ∃ x, x = Z21.heap.size := ⟨_, rfl⟩
       rw [← hbL] at LB ⊢
       have hwL : W4.heap.size ≤ bL := by have := hE.size; omega
       have hbb : bL ≠ bH := by have := HB.lt; omega
       clear hbL
       have HB := HB.ext hx
       have hyL := hyL.ext hx
       have hE := hE.trans hx
       clear hx
       have hLt : Later W4 Z26 := hE
       refine hK.out _ _ hLt (fun hHeld => ?_)
       clear hK K hLt
       try simp only [Act.put, List.setIfInBounds_toArray, List.set_cons_zero, List.set_cons_succ]
       refine wpAnyH_ready (rs := [7]) (by kernel_rfl) (by simp) ?_
       refine AllReadyH.cons (o := dv7) rfl (fun K hK => ?_) ?_
       ·unfold dv7
        go_simp
        go_at_call 26
        refine (Branch_b _ P k f true _ (hP.ext hE) HVL.out hkn HF.out).mono ?_
        rintro e Z27 ⟨yH, rfl, hyH, hx⟩
        obtain ⟨CH, cH, DH, dH, rfl, -⟩ := id hyH
        have LB := LB.ext hx
        have HB := HB.ext hx
        have hyL := hyL.ext hx
        have hE := hE.trans hx
        clear hx
        have hLt : Later W4 Z27 := hE
        try (go_wp2_with fail)
        refine hK.out _ _ hLt (fun hHeld => ?_)
        clear hK K hLt
        try simp only [Act.put, List.setIfInBounds_toArray, List.set_cons_zero, List.set_cons_succ]
        refine wpAnyH_ready (rs := [10]) (by kernel_rfl) (by simp) ?_
        refine AllReadyH.cons (o := dv10) rfl (fun K hK => ?_) ?_
        ·have y0 := LB.c0
         have y1 := LB.c1
         have z0 := LB.frozen 0
         have z1 := LB.frozen 1
         unfold dv10
         go_simp
         obtain ⟨hf, LB2⟩ := putP LB (.slice CL (P.side k f false).n cL) (.slice DL (P.side k f false).m dL)
         have hyL := hyL.frQ hf (by decide) LB
         have hyH := hyH.frQ hf (by decide) LB
         have HB := hf.box HB (Ne.symm hbb)
         have hE := hf.ext hE (fun b hb => by rw [hb]; exact hwL)
         clear hf y0 y1 z0 z1
         have LB := LB2
         clear LB2
         generalize ((Z27.setCell ⟨bL, 0, none⟩ (.slice CL (P.side k f false).n cL)).setCell ⟨bL, 1, none⟩ (.slice DL (P.side k f false).m dL)) = Z28 at *
         have hLt : Later W4 Z28 := hE
         refine hK.out _ _ hLt (fun hHeld => ?_)
         clear hK K hLt
         try simp only [Act.put, List.setIfInBounds_toArray, List.set_cons_zero, List.set_cons_succ]
         refine wpAnyH_ready (rs := [11]) (by kernel_rfl) (by simp) ?_
         refine AllReadyH.cons (o := dv11) rfl (fun K hK => ?_) ?_
         ·have y0 := HB.c0
          have y1 := HB.c1
          have z0 := HB.frozen 0
          have z1 := HB.frozen 1
          unfold dv11
          go_simp
          obtain ⟨hf, HB2⟩ := putP HB (.slice CH (P.side k f true).n cH) (.slice DH (P.side k f true).m dH)
          have hyL := hyL.frQ hf (by decide) HB
          have hyH := hyH.frQ hf (by decide) HB
          have LB := hf.box LB (hbb)
          have hE := hf.ext hE (fun b hb => by rw [hb]; exact hwH)
          clear hf y0 y1 z0 z1
          have HB := HB2
          clear HB2
          generalize ((Z28.setCell ⟨bH, 0, none⟩ (.slice CH (P.side k f true).n cH)).setCell ⟨bH, 1, none⟩ (.slice DH (P.side k f true).m dH)) = Z29 at *
          have hLt : Later W4 Z29 := hE
          refine hK.out _ _ hLt (fun hHeld => ?_)
          clear hK K hLt
          try simp only [Act.put, List.setIfInBounds_toArray, List.set_cons_zero, List.set_cons_succ]
          refine wpAnyH_done (by kernel_rfl) ?_ _
          go_wp2_with fail
          go_meet
          exact ⟨_, _, rfl, rfl, _, _, _, _, _, _, _, _, LB, HB, hyL, hyH, hbb, hE⟩
         exact AllReadyH.nil
        exact AllReadyH.nil
       exact AllReadyH.nil
      exact AllReadyH.nil
     exact AllReadyH.nil
    refine AllReadyH.cons (o := dv8) rfl (fun K hK => ?_) ?_
    ·unfold dv8
     go_simp
     have LB := Box.new Z1 39 #[.slice none 0 0, .slice none 0 0]
     have hx : Ext Z1 (Z1.alloc (.cells #[.slice none 0 0, .slice none 0 0] 39)) := (Ext.refl Z1).alloc _
     generalize (Z1.alloc (.cells #[.slice none 0 0, .slice none 0 0] 39)) = Z30 at *
     obtain ⟨bL, hbL⟩ : ∃ x, x = Z1.heap.size := ⟨_, rfl⟩
     rw [← hbL] at LB ⊢
     have hwL : W4.heap.size ≤ bL := by have := hE.size; omega
     clear hbL
     have hE := hE.trans hx
     clear hx
     have hLt : Later W4 Z30 := hE
     refine hK.out _ _ hLt (fun hHeld => ?_)
     clear hK K hLt
     try simp only [Act.put, List.setIfInBounds_toArray, List.set_cons_zero, List.set_cons_succ]
     refine wpAnyH_ready (rs := [3, 9]) (by kernel_rfl) (by simp) ?_
     refine AllReadyH.cons (o := dv3) rfl (fun K hK => ?_) ?_
     ·unfold dv3
      go_simp
      go_at_call 26
      refine (Branch_b _ P k f false _ (hP.ext hE) HVL.out hkn HF.out).mono ?_
      rintro e Z31 ⟨yL, rfl, hyL, hx⟩
      obtain ⟨CL, cL, DL, dL, rfl, -⟩ := id hyL
      have LB := LB.ext hx
      have hE := hE.trans hx
      clear hx
      have hLt : Later W4 Z31 := hE
      try (go_wp2_with fail)
      refine hK.out _ _ hLt (fun hHeld => ?_)
      clear hK K hLt
      try simp only [Act.put, List.setIfInBounds_toArray, List.set_cons_zero, List.set_cons_succ]
      refine wpAnyH_ready (rs := [7, 9]) (by kernel_rfl) (by simp) ?_
      refine AllReadyH.cons (o := dv7) rfl (fun K hK => ?_) ?_
      ·unfold dv7
       go_simp
       go_at_call 26
       refine (Branch_b _ P k f true _ (hP.ext hE) HVL.out hkn HF.out).mono ?_
       rintro e Z32 ⟨yH, rfl, hyH, hx⟩
       obtain ⟨CH, cH, DH, dH, rfl, -⟩ := id hyH
       have LB := LB.ext hx
       have hyL := hyL.ext hx
       have hE := hE.trans hx
       clear hx
       have hLt : Later W4 Z32 := hE
       try (go_wp2_with fail)
       refine hK.out _ _ hLt (fun hHeld => ?_)
       clear hK K hLt
       try simp only [Act.put, List.setIfInBounds_toArray, List.set_cons_zero, List.set_cons_succ]
       refine wpAnyH_ready (rs := [9]) (by kernel_rfl) (by simp) ?_
       refine AllReadyH.cons (o := dv9) rfl (fun K hK => ?_) ?_
       ·unfold dv9
        go_simp
        have HB := Box.new Z32 39 #[.slice none 0 0, .slice none 0 0]
        have hx : Ext Z32 (Z32.alloc (.cells #[.slice none 0 0, .slice none 0 0] 39)) := (Ext.refl Z32).alloc _
        generalize (Z32.alloc (.cells #[.slice none 0 0, .slice none 0 0] 39)) = Z33 at *
        obtain ⟨bH, hbH⟩ : ∃ x, x = Z32.heap.size := ⟨_, rfl⟩
        rw [← hbH] at HB ⊢
        have hwH : W4.heap.size ≤ bH := by have := hE.size; omega
        have hbb : bL ≠ bH := by have := LB.lt; omega
        clear hbH
        have LB := LB.ext hx
        have hyL := hyL.ext hx
        have hyH := hyH.ext hx
        have hE := hE.trans hx
        clear hx
        have hLt : Later W4 Z33 := hE
        refine hK.out _ _ hLt (fun hHeld => ?_)
        clear hK K hLt
        try simp only [Act.put, List.setIfInBounds_toArray, List.set_cons_zero, List.set_cons_succ]
        refine wpAnyH_ready (rs := [10]) (by kernel_rfl) (by simp) ?_
        refine AllReadyH.cons (o := dv10) rfl (fun K hK => ?_) ?_
        ·have y0 := LB.c0
         have y1 := LB.c1
         have z0 := LB.frozen 0
         have z1 := LB.frozen 1
         unfold dv10
         go_simp
         obtain ⟨hf, LB2⟩ := putP LB (.slice CL (P.side k f false).n cL) (.slice DL (P.side k f false).m dL)
         have hyL := hyL.frQ hf (by decide) LB
         have hyH := hyH.frQ hf (by decide) LB
         have HB := hf.box HB (Ne.symm hbb)
         have hE := hf.ext hE (fun b hb => by rw [hb]; exact hwL)
         clear hf y0 y1 z0 z1
         have LB := LB2
         clear LB2
         generalize ((Z33.setCell ⟨bL, 0, none⟩ (.slice CL (P.side k f false).n cL)).setCell ⟨bL, 1, none⟩ (.slice DL (P.side k f false).m dL)) = Z34 at *
         have hLt : Later W4 Z34 := hE
         refine hK.out _ _ hLt (fun hHeld => ?_)
         clear hK K hLt
         try simp only [Act.put, List.setIfInBounds_toArray, List.set_cons_zero, List.set_cons_succ]
         refine wpAnyH_ready (rs := [11]) (by kernel_rfl) (by simp) ?_
         refine AllReadyH.cons (o := dv11) rfl (fun K hK => ?_) ?_
         ·have y0 := HB.c0
          have y1 := HB.c1
          have z0 := HB.frozen 0
          have z1 := HB.frozen 1
          unfold dv11
          go_simp
          obtain ⟨hf, HB2⟩ := putP HB (.slice CH (P.side k f true).n cH) (.slice DH (P.side k f true).m dH)
          have hyL := hyL.frQ hf (by decide) HB
          have hyH := hyH.frQ hf (by decide) HB
          have LB := hf.box LB (hbb)
          have hE := hf.ext hE (fun b hb => by rw [hb]; exact hwH)
          clear hf y0 y1 z0 z1
          have HB := HB2
          clear HB2
          generalize ((Z34.setCell ⟨bH, 0, none⟩ (.slice CH (P.side k f true).n cH)).setCell ⟨bH, 1, none⟩ (.slice DH (P.side k f true).m dH)) = Z35 at *
          have hLt : Later W4 Z35 := hE
          refine hK.out _ _ hLt (fun hHeld => ?_)
          clear hK K hLt
          try simp only [Act.put, List.setIfInBounds_toArray, List.set_cons_zero, List.set_cons_succ]
          refine wpAnyH_done (by kernel_rfl) ?_ _
          go_wp2_with fail
          go_meet
          exact ⟨_, _, rfl, rfl, _, _, _, _, _, _, _, _, LB, HB, hyL, hyH, hbb, hE⟩
         exact AllReadyH.nil
        exact AllReadyH.nil
       exact AllReadyH.nil
      refine AllReadyH.cons (o := dv9) rfl (fun K hK => ?_) ?_
      ·unfold dv9
       go_simp
       have HB := Box.new Z31 39 #[.slice none 0 0, .slice none 0 0]
       have hx : Ext Z31 (Z31.alloc (.cells #[.slice none 0 0, .slice none 0 0] 39)) := (Ext.refl Z31).alloc _
       generalize (Z31.alloc (.cells #[.slice none 0 0, .slice none 0 0] 39)) = Z36 at *
       obtain ⟨bH, hbH⟩ : ∃ x, x = Z31.heap.size := ⟨_, rfl⟩
       rw [← hbH] at HB ⊢
       have hwH : W4.heap.size ≤ bH := by have := hE.size; omega
       have hbb : bL ≠ bH := by have := LB.lt; omega
       clear hbH
       have LB := LB.ext hx
       have hyL := hyL.ext hx
       have hE := hE.trans hx
       clear hx
       have hLt : Later W4 Z36 := hE
       refine hK.out _ _ hLt (fun hHeld => ?_)
       clear hK K hLt
       try simp only [Act.put, List.setIfInBounds_toArray, List.set_cons_zero, List.set_cons_succ]
       refine wpAnyH_ready (rs := [7]) (by kernel_rfl) (by simp) ?_
       refine AllReadyH.cons (o := dv7) rfl (fun K hK => ?_) ?_
       ·unfold dv7
        go_simp
        go_at_call 26
        refine (Branch_b _ P k f true _ (hP.ext hE) HVL.out hkn HF.out).mono ?_
        rintro e Z37 ⟨yH, rfl, hyH, hx⟩
        obtain ⟨CH, cH, DH, dH, rfl, -⟩ := id hyH
        have LB := LB.ext hx
        have HB := HB.ext hx
        have hyL := hyL.ext hx
        have hE := hE.trans hx
        clear hx
        have hLt : Later W4 Z37 := hE
        try (go_wp2_with fail)
        refine hK.out _ _ hLt (fun hHeld => ?_)
        clear hK K hLt
        try simp only [Act.put, List.setIfInBounds_toArray, List.set_cons_zero, List.set_cons_succ]
        refine wpAnyH_ready (rs := [10]) (by kernel_rfl) (by simp) ?_
        refine AllReadyH.cons (o := dv10) rfl (fun K hK => ?_) ?_
        ·have y0 := LB.c0
         have y1 := LB.c1
         have z0 := LB.frozen 0
         have z1 := LB.frozen 1
         unfold dv10
         go_simp
         obtain ⟨hf, LB2⟩ := putP LB (.slice CL (P.side k f false).n cL) (.slice DL (P.side k f false).m dL)
         have hyL := hyL.frQ hf (by decide) LB
         have hyH := hyH.frQ hf (by decide) LB
         have HB := hf.box HB (Ne.symm hbb)
         have hE := hf.ext hE (fun b hb => by rw [hb]; exact hwL)
         clear hf y0 y1 z0 z1
         have LB := LB2
         clear LB2
         generalize ((Z37.setCell ⟨bL, 0, none⟩ (.slice CL (P.side k f false).n cL)).setCell ⟨bL, 1, none⟩ (.slice DL (P.side k f false).m dL)) = Z38 at *
         have hLt : Later W4 Z38 := hE
         refine hK.out _ _ hLt (fun hHeld => ?_)
         clear hK K hLt
         try simp only [Act.put, List.setIfInBounds_toArray, List.set_cons_zero, List.set_cons_succ]
         refine wpAnyH_ready (rs := [11]) (by kernel_rfl) (by simp) ?_
         refine AllReadyH.cons (o := dv11) rfl (fun K hK => ?_) ?_
         ·have y0 := HB.c0
          have y1 := HB.c1
          have z0 := HB.frozen 0
          have z1 := HB.frozen 1
          unfold dv11
          go_simp
          obtain ⟨hf, HB2⟩ := putP HB (.slice CH (P.side k f true).n cH) (.slice DH (P.side k f true).m dH)
          have hyL := hyL.frQ hf (by decide) HB
          have hyH := hyH.frQ hf (by decide) HB
          have LB := hf.box LB (hbb)
          have hE := hf.ext hE (fun b hb => by rw [hb]; exact hwH)
          clear hf y0 y1 z0 z1
          have HB := HB2
          clear HB2
          generalize ((Z38.setCell ⟨bH, 0, none⟩ (.slice CH (P.side k f true).n cH)).setCell ⟨bH, 1, none⟩ (.slice DH (P.side k f true).m dH)) = Z39 at *
          have hLt : Later W4 Z39 := hE
          refine hK.out _ _ hLt (fun hHeld => ?_)
          clear hK K hLt
          try simp only [Act.put, List.setIfInBounds_toArray, List.set_cons_zero, List.set_cons_succ]
          refine wpAnyH_done (by kernel_rfl) ?_ _
          go_wp2_with fail
          go_meet
          exact ⟨_, _, rfl, rfl, _, _, _, _, _, _, _, _, LB, HB, hyL, hyH, hbb, hE⟩
         exact AllReadyH.nil
        exact AllReadyH.nil
       exact AllReadyH.nil
      exact AllReadyH.nil
     refine AllReadyH.cons (o := dv9) rfl (fun K hK => ?_) ?_
     ·unfold dv9
      go_simp
      have HB := Box.new Z30 39 #[.slice none 0 0, .slice none 0 0]
      have hx : Ext Z30 (Z30.alloc (.cells #[.slice none 0 0, .slice none 0 0] 39)) := (Ext.refl Z30).alloc _
      generalize (Z30.alloc (.cells #[.slice none 0 0, .slice none 0 0] 39)) = Z40 at *
      obtain ⟨bH, hbH⟩ : ∃ x, x = Z30.heap.size := ⟨_, rfl⟩
      rw [← hbH] at HB ⊢
      have hwH : W4.heap.size ≤ bH := by have := hE.size; omega
      have hbb : bL ≠ bH := by have := LB.lt; omega
      clear hbH
      have LB := LB.ext hx
      have hE := hE.trans hx
      clear hx
      have hLt : Later W4 Z40 := hE
      refine hK.out _ _ hLt (fun hHeld => ?_)
      clear hK K hLt
      try simp only [Act.put, List.setIfInBounds_toArray, List.set_cons_zero, List.set_cons_succ]
      refine wpAnyH_ready (rs := [3]) (by kernel_rfl) (by simp) ?_
      refine AllReadyH.cons (o := dv3) rfl (fun K hK => ?_) ?_
      ·unfold dv3
       go_simp
       go_at_call 26
       refine (Branch_b _ P k f false _ (hP.ext hE) HVL.out hkn HF.out).mono ?_
       rintro e Z41 ⟨yL, rfl, hyL, hx⟩
       obtain ⟨CL, cL, DL, dL, rfl, -⟩ := id hyL
       have LB := LB.ext hx
       have HB := HB.ext hx
       have hE := hE.trans hx
       clear hx
       have hLt : Later W4 Z41 := hE
       try (go_wp2_with fail)
       refine hK.out _ _ hLt (fun hHeld => ?_)
       clear hK K hLt
       try simp only [Act.put, List.setIfInBounds_toArray, List.set_cons_zero, List.set_cons_succ]
       refine wpAnyH_ready (rs := [7]) (by kernel_rfl) (by simp) ?_
       refine AllReadyH.cons (o := dv7) rfl (fun K hK => ?_) ?_
       ·unfold dv7
        go_simp
        go_at_call 26
        refine (Branch_b _ P k f true _ (hP.ext hE) HVL.out hkn HF.out).mono ?_
        rintro e Z42 ⟨yH, rfl, hyH, hx⟩
        obtain ⟨CH, cH, DH, dH, rfl, -⟩ := id hyH
        have LB := LB.ext hx
        have HB := HB.ext hx
        have hyL := hyL.ext hx
        have hE := hE.trans hx
        clear hx
        have hLt : Later W4 Z42 := hE
        try (go_wp2_with fail)
        refine hK.out _ _ hLt (fun hHeld => ?_)
        clear hK K hLt
        try simp only [Act.put, List.setIfInBounds_toArray, List.set_cons_zero, List.set_cons_succ]
        refine wpAnyH_ready (rs := [10]) (by kernel_rfl) (by simp) ?_
        refine AllReadyH.cons (o := dv10) rfl (fun K hK => ?_) ?_
        ·have y0 := LB.c0
         have y1 := LB.c1
         have z0 := LB.frozen 0
         have z1 := LB.frozen 1
         unfold dv10
         go_simp
         obtain ⟨hf, LB2⟩ := putP LB (.slice CL (P.side k f false).n cL) (.slice DL (P.side k f false).m dL)
         have hyL := hyL.frQ hf (by decide) LB
         have hyH := hyH.frQ hf (by decide) LB
         have HB := hf.box HB (Ne.symm hbb)
         have hE := hf.ext hE (fun b hb => by rw [hb]; exact hwL)
         clear hf y0 y1 z0 z1
         have LB := LB2
         clear LB2
         generalize ((Z42.setCell ⟨bL, 0, none⟩ (.slice CL (P.side k f false).n cL)).setCell ⟨bL, 1, none⟩ (.slice DL (P.side k f false).m dL)) = Z43 at *
         have hLt : Later W4 Z43 := hE
         refine hK.out _ _ hLt (fun hHeld => ?_)
         clear hK K hLt
         try simp only [Act.put, List.setIfInBounds_toArray, List.set_cons_zero, List.set_cons_succ]
         refine wpAnyH_ready (rs := [11]) (by kernel_rfl) (by simp) ?_
         refine AllReadyH.cons (o := dv11) rfl (fun K hK => ?_) ?_
         ·have y0 := HB.c0
          have y1 := HB.c1
          have z0 := HB.frozen 0
          have z1 := HB.frozen 1
          unfold dv11
          go_simp
          obtain ⟨hf, HB2⟩ := putP HB (.slice CH (P.side k f true).n cH) (.slice DH (P.side k f true).m dH)
          have hyL := hyL.frQ hf (by decide) HB
          have hyH := hyH.frQ hf (by decide) HB
          have LB := hf.box LB (hbb)
          have hE := hf.ext hE (fun b hb => by rw [hb]; exact hwH)
          clear hf y0 y1 z0 z1
          have HB := HB2
          clear HB2
          generalize ((Z43.setCell ⟨bH, 0, none⟩ (.slice CH (P.side k f true).n cH)).setCell ⟨bH, 1, none⟩ (.slice DH (P.side k f true).m dH)) = Z44 at *
          have hLt : Later W4 Z44 := hE
          refine hK.out _ _ hLt (fun hHeld => ?_)
          clear hK K hLt
          try simp only [Act.put, List.setIfInBounds_toArray, List.set_cons_zero, List.set_cons_succ]
          refine wpAnyH_done (by kernel_rfl) ?_ _
          go_wp2_with fail
          go_meet
          exact ⟨_, _, rfl, rfl, _, _, _, _, _, _, _, _, LB, HB, hyL, hyH, hbb, hE⟩
         exact AllReadyH.nil
        exact AllReadyH.nil
       exact AllReadyH.nil
      exact AllReadyH.nil
     exact AllReadyH.nil
    refine AllReadyH.cons (o := dv9) rfl (fun K hK => ?_) ?_
    ·unfold dv9
     go_simp
     have HB := Box.new Z1 39 #[.slice none 0 0, .slice none 0 0]
     have hx : Ext Z1 (Z1.alloc (.cells #[.slice none 0 0, .slice none 0 0] 39)) := (Ext.refl Z1).alloc _
     generalize (Z1.alloc (.cells #[.slice none 0 0, .slice none 0 0] 39)) = Z45 at *
     obtain ⟨bH, hbH⟩ : ∃ x, x = Z1.heap.size := ⟨_, rfl⟩
     rw [← hbH] at HB ⊢
     have hwH : W4.heap.size ≤ bH := by have := hE.size; omega
     clear hbH
     have hE := hE.trans hx
     clear hx
     have hLt : Later W4 Z45 := hE
     refine hK.out _ _ hLt (fun hHeld => ?_)
     clear hK K hLt
     try simp only [Act.put, List.setIfInBounds_toArray, List.set_cons_zero, List.set_cons_succ]
     refine wpAnyH_ready (rs := [3, 8]) (by kernel_rfl) (by simp) ?_
     refine AllReadyH.cons (o := dv3) rfl (fun K hK => ?_) ?_
     ·unfold dv3
      go_simp
      go_at_call 26
      refine (Branch_b _ P k f false _ (hP.ext hE) HVL.out hkn HF.out).mono ?_
      rintro e Z46 ⟨yL, rfl, hyL, hx⟩
      obtain ⟨CL, cL, DL, dL, rfl, -⟩ := id hyL
      have HB := HB.ext hx
      have hE := hE.trans hx
      clear hx
      have hLt : Later W4 Z46 := hE
      try (go_wp2_with fail)
      refine hK.out _ _ hLt (fun hHeld => ?_)
      clear hK K hLt
      try simp only [Act.put, List.setIfInBounds_toArray, List.set_cons_zero, List.set_cons_succ]
      refine wpAnyH_ready (rs := [7, 8]) (by kernel_rfl) (by simp) ?_
      refine AllReadyH.cons (o := dv7) rfl (fun K hK => ?_) ?_
      ·unfold dv7
       go_simp
       go_at_call 26
       refine (Branch_b _ P k f true _ (hP.ext hE) HVL.out hkn HF.out).mono ?_
       rintro e Z47 ⟨yH, rfl, hyH, hx⟩
       obtain ⟨CH, cH, DH, dH, rfl, -⟩ := id hyH
       have HB := HB.ext hx
       have hyL := hyL.ext hx
       have hE := hE.trans hx
       clear hx
       have hLt : Later W4 Z47 := hE
       try (go_wp2_with fail)
       refine hK.out _ _ hLt (fun hHeld => ?_)
       clear hK K hLt
       try simp only [Act.put, List.setIfInBounds_toArray, List.set_cons_zero, List.set_cons_succ]
       refine wpAnyH_ready (rs := [8]) (by kernel_rfl) (by simp) ?_
       refine AllReadyH.cons (o := dv8) rfl (fun K hK => ?_) ?_
       ·unfold dv8
        go_simp
        have LB := Box.new Z47 39 #[.slice none 0 0, .slice none 0 0]
        have hx : Ext Z47 (Z47.alloc (.cells #[.slice none 0 0, .slice none 0 0] 39)) := (Ext.refl Z47).alloc _
        generalize (Z47.alloc (.cells #[.slice none 0 0, .slice none 0 0] 39)) = Z48 at *
        obtain ⟨bL, hbL⟩ : ∃ x, x = Z47.heap.size := ⟨_, rfl⟩
        rw [← hbL] at LB ⊢
        have hwL : W4.heap.size ≤ bL := by have := hE.size; omega
        have hbb : bL ≠ bH := by have := HB.lt; omega
        clear hbL
        have HB := HB.ext hx
        have hyL := hyL.ext hx
        have hyH := hyH.ext hx
        have hE := hE.trans hx
        clear hx
        have hLt : Later W4 Z48 := hE
        refine hK.out _ _ hLt (fun hHeld => ?_)
        clear hK K hLt
        try simp only [Act.put, List.setIfInBounds_toArray, List.set_cons_zero, List.set_cons_succ]
        refine wpAnyH_ready (rs := [10]) (by kernel_rfl) (by simp) ?_
        refine AllReadyH.cons (o := dv10) rfl (fun K hK => ?_) ?_
        ·have y0 := LB.c0
         have y1 := LB.c1
         have z0 := LB.frozen 0
         have z1 := LB.frozen 1
         unfold dv10
         go_simp
         obtain ⟨hf, LB2⟩ := putP LB (.slice CL (P.side k f false).n cL) (.slice DL (P.side k f false).m dL)
         have hyL := hyL.frQ hf (by decide) LB
         have hyH := hyH.frQ hf (by decide) LB
         have HB := hf.box HB (Ne.symm hbb)
         have hE := hf.ext hE (fun b hb => by rw [hb]; exact hwL)
         clear hf y0 y1 z0 z1
         have LB := LB2
         clear LB2
         generalize ((Z48.setCell ⟨bL, 0, none⟩ (.slice CL (P.side k f false).n cL)).setCell ⟨bL, 1, none⟩ (.slice DL (P.side k f false).m dL)) = Z49 at *
         have hLt : Later W4 Z49 := hE
         refine hK.out _ _ hLt (fun hHeld => ?_)
         clear hK K hLt
         try simp only [Act.put, List.setIfInBounds_toArray, List.set_cons_zero, List.set_cons_succ]
         refine wpAnyH_ready (rs := [11]) (by kernel_rfl) (by simp) ?_
         refine AllReadyH.cons (o := dv11) rfl (fun K hK => ?_) ?_
         ·have y0 := HB.c0
          have y1 := HB.c1
          have z0 := HB.frozen 0
          have z1 := HB.frozen 1
          unfold dv11
          go_simp
          obtain ⟨hf, HB2⟩ := putP HB (.slice CH (P.side k f true).n cH) (.slice DH (P.side k f true).m dH)
          have hyL := hyL.frQ hf (by decide) HB
          have hyH := hyH.frQ hf (by decide) HB
          have LB := hf.box LB (hbb)
          have hE := hf.ext hE (fun b hb => by rw [hb]; exact hwH)
          clear hf y0 y1 z0 z1
          have HB := HB2
          clear HB2
          generalize ((Z49.setCell ⟨bH, 0, none⟩ (.slice CH (P.side k f true).n cH)).setCell ⟨bH, 1, none⟩ (.slice DH (P.side k f true).m dH)) = Z50 at *
          have hLt : Later W4 Z50 := hE
          refine hK.out _ _ hLt (fun hHeld => ?_)
          clear hK K hLt
          try simp only [Act.put, List.setIfInBounds_toArray, List.set_cons_zero, List.set_cons_succ]
          refine wpAnyH_done (by kernel_rfl) ?_ _
          go_wp2_with fail
          go_meet
          exact ⟨_, _, rfl, rfl, _, _, _, _, _, _, _, _, LB, HB, hyL, hyH, hbb, hE⟩
         exact AllReadyH.nil
        exact AllReadyH.nil
       exact AllReadyH.nil
      refine AllReadyH.cons (o := dv8) rfl (fun K hK => ?_) ?_
      ·unfold dv8
       go_simp
       have LB := Box.new Z46 39 #[.slice none 0 0, .slice none 0 0]
       have hx : Ext Z46 (Z46.alloc (.cells #[.slice none 0 0, .slice none 0 0] 39)) := (Ext.refl Z46).alloc _
       generalize (Z46.alloc (.cells #[.slice none 0 0, .slice none 0 0] 39)) = Z51 at *
       obtain ⟨bL, hbL⟩ : ∃ x, x = Z46.heap.size := ⟨_, rfl⟩
       rw [← hbL] at LB ⊢
       have hwL : W4.heap.size ≤ bL := by have := hE.size; omega
       have hbb : bL ≠ bH := by have := HB.lt; omega
       clear hbL
       have HB := HB.ext hx
       have hyL := hyL.ext hx
       have hE := hE.trans hx
       clear hx
       have hLt : Later W4 Z51 := hE
       refine hK.out _ _ hLt (fun hHeld => ?_)
       clear hK K hLt
       try simp only [Act.put, List.setIfInBounds_toArray, List.set_cons_zero, List.set_cons_succ]
       refine wpAnyH_ready (rs := [7]) (by kernel_rfl) (by simp) ?_
       refine AllReadyH.cons (o := dv7) rfl (fun K hK => ?_) ?_
       ·unfold dv7
        go_simp
        go_at_call 26
        refine (Branch_b _ P k f true _ (hP.ext hE) HVL.out hkn HF.out).mono ?_
        rintro e Z52 ⟨yH, rfl, hyH, hx⟩
        obtain ⟨CH, cH, DH, dH, rfl, -⟩ := id hyH
        have LB := LB.ext hx
        have HB := HB.ext hx
        have hyL := hyL.ext hx
        have hE := hE.trans hx
        clear hx
        have hLt : Later W4 Z52 := hE
        try (go_wp2_with fail)
        refine hK.out _ _ hLt (fun hHeld => ?_)
        clear hK K hLt
        try simp only [Act.put, List.setIfInBounds_toArray, List.set_cons_zero, List.set_cons_succ]
        refine wpAnyH_ready (rs := [10]) (by kernel_rfl) (by simp) ?_
        refine AllReadyH.cons (o := dv10) rfl (fun K hK => ?_) ?_
        ·have y0 := LB.c0
         have y1 := LB.c1
         have z0 := LB.frozen 0
         have z1 := LB.frozen 1
         unfold dv10
         go_simp
         obtain ⟨hf, LB2⟩ := putP LB (.slice CL (P.side k f false).n cL) (.slice DL (P.side k f false).m dL)
         have hyL := hyL.frQ hf (by decide) LB
         have hyH := hyH.frQ hf (by decide) LB
         have HB := hf.box HB (Ne.symm hbb)
         have hE := hf.ext hE (fun b hb => by rw [hb]; exact hwL)
         clear hf y0 y1 z0 z1
         have LB := LB2
         clear LB2
         generalize ((Z52.setCell ⟨bL, 0, none⟩ (.slice CL (P.side k f false).n cL)).setCell ⟨bL, 1, none⟩ (.slice DL (P.side k f false).m dL)) = Z53 at *
         have hLt : Later W4 Z53 := hE
         refine hK.out _ _ hLt (fun hHeld => ?_)
         clear hK K hLt
         try simp only [Act.put, List.setIfInBounds_toArray, List.set_cons_zero, List.set_cons_succ]
         refine wpAnyH_ready (rs := [11]) (by kernel_rfl) (by simp) ?_
         refine AllReadyH.cons (o := dv11) rfl (fun K hK => ?_) ?_
         ·have y0 := HB.c0
          have y1 := HB.c1
          have z0 := HB.frozen 0
          have z1 := HB.frozen 1
          unfold dv11
          go_simp
          obtain ⟨hf, HB2⟩ := putP HB (.slice CH (P.side k f true).n cH) (.slice DH (P.side k f true).m dH)
          have hyL := hyL.frQ hf (by decide) HB
          have hyH := hyH.frQ hf (by decide) HB
          have LB := hf.box LB (hbb)
          have hE := hf.ext hE (fun b hb => by rw [hb]; exact hwH)
          clear hf y0 y1 z0 z1
          have HB := HB2
          clear HB2
          generalize ((Z53.setCell ⟨bH, 0, none⟩ (.slice CH (P.side k f true).n cH)).setCell ⟨bH, 1, none⟩ (.slice DH (P.side k f true).m dH)) = Z54 at *
          have hLt : Later W4 Z54 := hE
          refine hK.out _ _ hLt (fun hHeld => ?_)
          clear hK K hLt
          try simp only [Act.put, List.setIfInBounds_toArray, List.set_cons_zero, List.set_cons_succ]
          refine wpAnyH_done (by kernel_rfl) ?_ _
          go_wp2_with fail
          go_meet
          exact ⟨_, _, rfl, rfl, _, _, _, _, _, _, _, _, LB, HB, hyL, hyH, hbb, hE⟩
         exact AllReadyH.nil
        exact AllReadyH.nil
       exact AllReadyH.nil
      exact AllReadyH.nil
     refine AllReadyH.cons (o := dv8) rfl (fun K hK => ?_) ?_
     ·unfold dv8
      go_simp
      have LB := Box.new Z45 39 #[.slice none 0 0, .slice none 0 0]
      have hx : Ext Z45 (Z45.alloc (.cells #[.slice none 0 0, .slice none 0 0] 39)) := (Ext.refl Z45).alloc _
      generalize (Z45.alloc (.cells #[.slice none 0 0, .slice none 0 0] 39)) = Z55 at *
      obtain ⟨bL, hbL⟩ : ∃ x, x = Z45.heap.size := ⟨_, rfl⟩
      rw [← hbL] at LB ⊢
      have hwL : W4.heap.size ≤ bL := by have := hE.size; omega
      have hbb : bL ≠ bH := by have := HB.lt; omega
      clear hbL
      have HB := HB.ext hx
      have hE := hE.trans hx
      clear hx
      have hLt : Later W4 Z55 := hE
      refine hK.out _ _ hLt (fun hHeld => ?_)
      clear hK K hLt
      try simp only [Act.put, List.setIfInBounds_toArray, List.set_cons_zero, List.set_cons_succ]
      refine wpAnyH_ready (rs := [3]) (by kernel_rfl) (by simp) ?_
      refine AllReadyH.cons (o := dv3) rfl (fun K hK => ?_) ?_
      ·unfold dv3
       go_simp
       go_at_call 26
       refine (Branch_b _ P k f false _ (hP.ext hE) HVL.out hkn HF.out).mono ?_
       rintro e Z56 ⟨yL, rfl, hyL, hx⟩
       obtain ⟨CL, cL, DL, dL, rfl, -⟩ := id hyL
       have LB := LB.ext hx
       have HB := HB.ext hx
       have hE := hE.trans hx
       clear hx
       have hLt : Later W4 Z56 := hE
       try (go_wp2_with fail)
       refine hK.out _ _ hLt (fun hHeld => ?_)
       clear hK K hLt
       try simp only [Act.put, List.setIfInBounds_toArray, List.set_cons_zero, List.set_cons_succ]
       refine wpAnyH_ready (rs := [7]) (by kernel_rfl) (by simp) ?_
       refine AllReadyH.cons (o := dv7) rfl (fun K hK => ?_) ?_
       ·unfold dv7
        go_simp
        go_at_call 26
        refine (Branch_b _ P k f true _ (hP.ext hE) HVL.out hkn HF.out).mono ?_
        rintro e Z57 ⟨yH, rfl, hyH, hx⟩
        obtain ⟨CH, cH, DH, dH, rfl, -⟩ := id hyH
        have LB := LB.ext hx
        have HB := HB.ext hx
        have hyL := hyL.ext hx
        have hE := hE.trans hx
        clear hx
        have hLt : Later W4 Z57 := hE
        try (go_wp2_with fail)
        refine hK.out _ _ hLt (fun hHeld => ?_)
        clear hK K hLt
        try simp only [Act.put, List.setIfInBounds_toArray, List.set_cons_zero, List.set_cons_succ]
        refine wpAnyH_ready (rs := [10]) (by kernel_rfl) (by simp) ?_
        refine AllReadyH.cons (o := dv10) rfl (fun K hK => ?_) ?_
        ·have y0 := LB.c0
         have y1 := LB.c1
         have z0 := LB.frozen 0
         have z1 := LB.frozen 1
         unfold dv10
         go_simp
         obtain ⟨hf, LB2⟩ := putP LB (.slice CL (P.side k f false).n cL) (.slice DL (P.side k f false).m dL)
         have hyL := hyL.frQ hf (by decide) LB
         have hyH := hyH.frQ hf (by decide) LB
         have HB := hf.box HB (Ne.symm hbb)
         have hE := hf.ext hE (fun b hb => by rw [hb]; exact hwL)
         clear hf y0 y1 z0 z1
         have LB := LB2
         clear LB2
         generalize ((Z57.setCell ⟨bL, 0, none⟩ (.slice CL (P.side k f false).n cL)).setCell ⟨bL, 1, none⟩ (.slice DL (P.side k f false).m dL)) = Z58 at *
         have hLt : Later W4 Z58 := hE
         refine hK.out _ _ hLt (fun hHeld => ?_)
         clear hK K hLt
         try simp only [Act.put, List.setIfInBounds_toArray, List.set_cons_zero, List.set_cons_succ]
         refine wpAnyH_ready (rs := [11]) (by kernel_rfl) (by simp) ?_
         refine AllReadyH.cons (o := dv11) rfl (fun K hK => ?_) ?_
         ·have y0 := HB.c0
          have y1 := HB.c1
          have z0 := HB.frozen 0
          have z1 := HB.frozen 1
          unfold dv11
          go_simp
          obtain ⟨hf, HB2⟩ := putP HB (.slice CH (P.side k f true).n cH) (.slice DH (P.side k f true).m dH)
          have hyL := hyL.frQ hf (by decide) HB
          have hyH := hyH.frQ hf (by decide) HB
          have LB := hf.box LB (hbb)
          have hE := hf.ext hE (fun b hb => by rw [hb]; exact hwH)
          clear hf y0 y1 z0 z1
          have HB := HB2
          clear HB2
          generalize ((Z58.setCell ⟨bH, 0, none⟩ (.slice CH (P.side k f true).n cH)).setCell ⟨bH, 1, none⟩ (.slice DH (P.side k f true).m dH)) = Z59 at *
          have hLt : Later W4 Z59 := hE
          refine hK.out _ _ hLt (fun hHeld => ?_)
          clear hK K hLt
          try simp only [Act.put, List.setIfInBounds_toArray, List.set_cons_zero, List.set_cons_succ]
          refine wpAnyH_done (by kernel_rfl) ?_ _
          go_wp2_with fail
          go_meet
          exact ⟨_, _, rfl, rfl, _, _, _, _, _, _, _, _, LB, HB, hyL, hyH, hbb, hE⟩
         exact AllReadyH.nil
        exact AllReadyH.nil
       exact AllReadyH.nil
      exact AllReadyH.nil
     exact AllReadyH.nil
    exact AllReadyH.nil
  case rest =>
  obtain ⟨bL, bH, rfl, rfl, CL, cL, DL, dL, CH, cH, DH, dH, LB, HB, hyL, hyH, hbb, hxc⟩ := hcut
  rename_i hK
  refine hK _ _ ?_
  have PBc := PB.ext hxc
  have QBc := QB4.ext hxc
  have hPc := hP.ext hxc
  have hEc := hE4.trans hxc
  have hLw : w.heap.size ≤ wc.heap.size := hEc.size
  clear hK PB QB QB4 hP hE4 hxc hbb hI hI3 hE2 hE3 hx2 hx3 hx4 hxp hx24 hP4 ho
  have q0 := QBc.c0
  go_upto_region 11 with fail
  clear q0 QBc
  obtain ⟨px, hpx⟩ : ∃ px : Nat → Int, px = fun j => xs.getD j 0 % 4 := ⟨_, rfl⟩
  have HPX : Hid (∀ j, px j = xs.getD j 0 % 4) := Lib.hid (fun j => by rw [hpx])
  have HPI : Hid (∀ j, 0 ≤ px j ∧ px j ≤ 3) := Lib.hid (fun j => by rw [hpx]; show 0 ≤ xs.getD j 0 % 4 ∧ xs.getD j 0 % 4 ≤ 3; omega)
  clear hpx
  obtain ⟨ij, ij1, ij2, ij3, ij4⟩ := info_parts infoInt
  go_loopw [16, 64] (fun sv i wr => ∃ (j : Nat) (A : Option Addr) (c : Nat), j ≤ n ∧ i = .int .i64 j ∧ sv = .slice A j c ∧ OwnX wr wc.heap.size 3 1 (.slice A j c) j ((List.range j).map (fun i => Value.int .i64 (px i))) ∧ Ext wc wr) (fun _ i _ => n - (intOf i).toNat)
  case atStart => exact ⟨0, none, 0, by omega, rfl, rfl, OwnX.nil _ _ _ _, Ext.refl wc⟩
  case round =>
    obtain ⟨j, A, c, hj, rfl, rfl, oX, hxr⟩ := hrel
    by_cases hlt : j < n
    · obtain ⟨b, off, rfl, hxc3⟩ := HXR.out (by have := HNX.out; omega)
      obtain ⟨z, hz⟩ : ∃ z, xs[j]? = some z := ⟨_, List.getElem?_eq_getElem (by have := HNX.out; omega)⟩
      have e0 := (hEc.trans hxr).cell (hxc3 j _ (yZ_get hz))
      obtain ⟨z1, z2⟩ := HX8.out z (List.mem_of_getElem? hz)
      have HZ : Hid (px j = z % 4) := Lib.hid (by rw [HPX.out, List.getD_eq_getElem?_getD, hz]; rfl)
      have i1 : (0 : Int) ≤ (j : Int) := by omega
      have i2 : (j : Int) < (nx : Int) := by omega
      have hza : Ext wr (wr.alloc (.cells #[.int .i64 (z % 4)] 3)) := (Ext.refl wr).alloc _
      have hsz : wc.heap.size ≤ (wr.alloc (.cells #[.int .i64 (z % 4)] 3)).heap.size := (hxr.trans hza).size
      clear hxc3 hz
      go_upto_region 14 with (at_builtin; refine wpList_pushX rfl (.tmp 67) (.tmp 74) 29 rfl wc.heap.size 3 ij (.int .i64 0) 1 8 Try.underlying29 ij1 ij2 ij3 ij4 rfl zI _ j _ rfl (oX.ext hza) wr.heap.size [.int .i64 (z % 4)] 1 rfl rfl (new1 wr 3 _) (one1 rfl) (nou1 rfl) (by omega) (by decide) hsz ?_; intro v6 w6 o6 r6 s6; obtain ⟨A6, d6, rfl⟩ := o6.shape)
      have hX6 := r6.ext (hxr.trans hza) (fun g hg => (oX.lt hg).1)
      have o7 : OwnX w6 wc.heap.size 3 1 (.slice A6 (j + 1) d6) (j + 1) ((List.range (j + 1)).map (fun i => Value.int .i64 (px i))) := by
        rw [List.range_succ, List.map_append]
        show OwnX _ _ _ _ _ _ (_ ++ [Value.int .i64 (px j)])
        rw [HZ.out]; exact o6
      clear e0 hza hsz o6 r6 s6
      go_wp2_with fail
      go_roundw
      case rel => first | exact ⟨j + 1, A6, d6, by omega, by go_num, rfl, o7, hX6⟩ | ((repeat (apply Exists.intro (α := Value))); exact ⟨⟨j + 1, A6, d6, by omega, by go_num, rfl, o7, hX6⟩, rfl⟩)
      case measure => simp [intOf]; omega
    · obtain rfl : j = n := by omega
      obtain ⟨g, cap, e9, -, -, -, -, -, -, hcell⟩ := oX.cells (by omega)
      injection e9 with e9 _ e10
      subst e9 e10
      have hcl : ∀ i, i < j → wr.cell? ⟨g, i, none⟩ = some (.int .i64 (px i)) := fun i hi => hcell i _ (by rw [List.getElem?_map, List.getElem?_range hi]; rfl)
      clear hcell oX
      go_wp2_with fail
      refine (rats_c g j c px _ hcl (fun i _ => fit_iff.2 (by have := HPI.out i; omega)) (by omega)).mono ?_
      rintro e w5 ⟨A9, c9, rfl, hRo, hx5⟩
      have hx5' := hxr.trans hx5
      have hX9 := hRo.rats
      have PB5 := PBc.ext hx5'
      have LB5 := LB.ext hx5'
      have HB5 := HB.ext hx5'
      have hP5 := hPc.ext hx5'
      have hL5 := hyL.ext hx5'
      have hH5 := hyH.ext hx5'
      have hE5 := hEc.trans hx5'
      have hPm8 : P.m ≤ 8 := by omega
      have HC : Hid (CanI P 3 409 134217728) := Lib.hid (by rw [HPP.out]; exact (HBP.out.up (show 8 ≤ 9 by omega) (by omega)).can)
      have HCl : Hid (CanI (P.side k f false) 3 409 134217728) := Lib.hid (HC.out.side (by omega) HF.out false)
      have HCh : Hid (CanI (P.side k f true) 3 409 134217728) := Lib.hid (HC.out.side (by omega) HF.out true)
      clear hcl hRo hx5 hx5' PBc LB HB hPc hyL hyH hEc hxr
      go_upto_region 16 with fail
      have HFq : ∀ W, Later w5 W → Calls Try.prog 31 #[.agg #[.slice Bo j bo, .slice Br m br], .slice A9 j c9] W (ValPost W (.bool (feasB P j (fun i => ((px i : Int) : Rat))))) := fun W hW =>
        Feasible_b _ P A9 j c9 (fun i => ((px i : Int) : Rat)) 2 3 3 100 W (hP5.ext hW) (hX9.ext hW) HC.out.coef HC.out.right (fun i _ => QB_fitZ (fit_iff.2 (by have := HPI.out i; omega))) (by omega) (by omega) (by omega) (by omega) (by omega)
      have HFl : ∀ W, Later w5 W → Calls Try.prog 31 #[.agg #[.slice CL (P.side k f false).n cL, .slice DL (P.side k f false).m dL], .slice A9 j c9] W (ValPost W (.bool (feasB (P.side k f false) j (fun i => ((px i : Int) : Rat))))) := fun W hW =>
        Feasible_b _ (P.side k f false) A9 j c9 (fun i => ((px i : Int) : Rat)) 2 3 3 100 W (hL5.ext hW) (hX9.ext hW) HCl.out.coef HCl.out.right (fun i _ => QB_fitZ (fit_iff.2 (by have := HPI.out i; omega))) (by omega) (by omega) (by omega) (by omega) (by omega)
      have HFh : ∀ W, Later w5 W → Calls Try.prog 31 #[.agg #[.slice CH (P.side k f true).n cH, .slice DH (P.side k f true).m dH], .slice A9 j c9] W (ValPost W (.bool (feasB (P.side k f true) j (fun i => ((px i : Int) : Rat))))) := fun W hW =>
        Feasible_b _ (P.side k f true) A9 j c9 (fun i => ((px i : Int) : Rat)) 2 3 3 100 W (hH5.ext hW) (hX9.ext hW) HCh.out.coef HCh.out.right (fun i _ => QB_fitZ (fit_iff.2 (by have := HPI.out i; omega))) (by omega) (by omega) (by omega) (by omega) (by omega)
      have hsf := sides_feas (n := j) (f := f) (x := px) hkn HVL.out (by omega) hPn.symm
      go_cut [99] (fun v99 wx => v99 = .bool false ∧ Ext w5 wx)
      case first =>
        have k0 : ∀ w', Later w5 w' → w'.cell? ⟨pb, 0, none⟩ = some (.slice Bo j bo) := fun w' h => (PB5.ext h).c0
        have k1 : ∀ w', Later w5 w' → w'.cell? ⟨pb, 1, none⟩ = some (.slice Br m br) := fun w' h => (PB5.ext h).c1
        have k2 : ∀ w', Later w5 w' → w'.cell? ⟨bL, 0, none⟩ = some (.slice CL (P.side k f false).n cL) := fun w' h => (LB5.ext h).c0
        have k3 : ∀ w', Later w5 w' → w'.cell? ⟨bL, 1, none⟩ = some (.slice DL (P.side k f false).m dL) := fun w' h => (LB5.ext h).c1
        have k4 : ∀ w', Later w5 w' → w'.cell? ⟨bH, 0, none⟩ = some (.slice CH (P.side k f true).n cH) := fun w' h => (HB5.ext h).c0
        have k5 : ∀ w', Later w5 w' → w'.cell? ⟨bH, 1, none⟩ = some (.slice DH (P.side k f true).m dH) := fun w' h => (HB5.ext h).c1
        have ks := Later.refl w5
        clear PB5 LB5 HB5 hP5 hL5 hH5 hE5 hX9 HXR HX8 HNX HBP HLN
        rcases hsf with ⟨a0, al, ah⟩ | ⟨al, a0⟩
        · simp only [a0, al, ah] at HFq HFl HFh
          clear a0 al ah
          go_region_held3 (fun w' => Later w5 w') ((repeat (first | assumption | apply Later.drew | apply Later.drewN | apply Later.alloc | (refine Later.step ?_ (by assumption))))) (first
              | (go_at_call 31; (first | (with_reducible refine (HFq _ (by first | assumption | (with_reducible exact Later.drew (by assumption)))).mono ?_) | (with_reducible refine (HFl _ (by first | assumption | (with_reducible exact Later.drew (by assumption)))).mono ?_) | (with_reducible refine (HFh _ (by first | assumption | (with_reducible exact Later.drew (by assumption)))).mono ?_)); rintro e wk ⟨rfl, hxk⟩)
            )
          all_goals (
            have hL9 : Ext w5 wk := by assumption
            clear k0 k1 k2 k3 k4 k5 HFq HFl HFh
            go_wp2_with fail
            go_meet
            exact ⟨rfl, hL9⟩)
        · simp only [al, a0] at HFq HFl
          obtain ⟨B0, hB0⟩ : ∃ B0, B0 = feasB (P.side k f true) j (fun i => ((px i : Int) : Rat)) := ⟨_, rfl⟩
          simp only [← hB0] at HFq HFh
          clear a0 al hB0
          have b1 : (false != B0) = B0 := by cases B0 <;> rfl
          have b2 : (B0 != B0) = false := by cases B0 <;> rfl
          refine wp_region_held_drew (S := fun w' => Later w5 w') (by kernel_rfl) ?_ (fun hHeld => ?_)
          · (try dsimp only); (repeat (first | assumption | apply Later.drew | apply Later.drewN | apply Later.alloc | (refine Later.step ?_ (by assumption))))
          refine wpAnyH_take (i := 0) (oi := { dst := some 79, op := Op.load 39 (Operand.tmp 11), type := 39, pos := "law.go:297", after := #[], guard := none }) (v := ?_) rfl (by kernel_rfl) (by kernel_rfl) (by kernel_rfl) (fun _ _ _ h => h) (Or.inl ⟨by rfl, ?_⟩) (by assumption) ?_
          rotate_left
          · intro w hSw; (try dsimp only at hSw); go_simp; try (with_reducible rfl)
          try simp only [Act.put, List.setIfInBounds_toArray, List.set_cons_zero, List.set_cons_succ]
          refine wpAnyH_take (i := 1) (oi := { dst := some 80, op := Op.move (Operand.tmp 18), type := 36, pos := "law.go:297", after := #[], guard := none }) (v := ?_) rfl (by kernel_rfl) (by kernel_rfl) (by kernel_rfl) (fun _ _ _ h => h) (Or.inl ⟨by rfl, ?_⟩) (by assumption) ?_
          rotate_left
          · intro w hSw; (try dsimp only at hSw); go_simp; try (with_reducible rfl)
          try simp only [Act.put, List.setIfInBounds_toArray, List.set_cons_zero, List.set_cons_succ]
          refine wpAnyH_take (i := 3) (oi := { dst := some 82, op := Op.load 39 (Operand.tmp 14), type := 39, pos := "law.go:297", after := #[], guard := none }) (v := ?_) rfl (by kernel_rfl) (by kernel_rfl) (by kernel_rfl) (fun _ _ _ h => h) (Or.inl ⟨by rfl, ?_⟩) (by assumption) ?_
          rotate_left
          · intro w hSw; (try dsimp only at hSw); go_simp; try (with_reducible rfl)
          try simp only [Act.put, List.setIfInBounds_toArray, List.set_cons_zero, List.set_cons_succ]
          refine wpAnyH_take (i := 4) (oi := { dst := some 83, op := Op.move (Operand.tmp 18), type := 36, pos := "law.go:297", after := #[], guard := none }) (v := ?_) rfl (by kernel_rfl) (by kernel_rfl) (by kernel_rfl) (fun _ _ _ h => h) (Or.inl ⟨by rfl, ?_⟩) (by assumption) ?_
          rotate_left
          · intro w hSw; (try dsimp only at hSw); go_simp; try (with_reducible rfl)
          try simp only [Act.put, List.setIfInBounds_toArray, List.set_cons_zero, List.set_cons_succ]
          refine wpAnyH_take (i := 6) (oi := { dst := some 85, op := Op.load 39 (Operand.tmp 15), type := 39, pos := "law.go:297", after := #[], guard := none }) (v := ?_) rfl (by kernel_rfl) (by kernel_rfl) (by kernel_rfl) (fun _ _ _ h => h) (Or.inl ⟨by rfl, ?_⟩) (by assumption) ?_
          rotate_left
          · intro w hSw; (try dsimp only at hSw); go_simp; try (with_reducible rfl)
          try simp only [Act.put, List.setIfInBounds_toArray, List.set_cons_zero, List.set_cons_succ]
          refine wpAnyH_take (i := 7) (oi := { dst := some 86, op := Op.move (Operand.tmp 18), type := 36, pos := "law.go:297", after := #[], guard := none }) (v := ?_) rfl (by kernel_rfl) (by kernel_rfl) (by kernel_rfl) (fun _ _ _ h => h) (Or.inl ⟨by rfl, ?_⟩) (by assumption) ?_
          rotate_left
          · intro w hSw; (try dsimp only at hSw); go_simp; try (with_reducible rfl)
          try simp only [Act.put, List.setIfInBounds_toArray, List.set_cons_zero, List.set_cons_succ]
          refine wpAnyH_ready (rs := [2]) (by kernel_rfl) (by simp) ?_
          refine AllReadyH.cons (o := { dst := some 81, op := Op.call { callee := Callee.value (Operand.func 31), args := #[Operand.tmp 79, Operand.tmp 80], argTypes := #[39, 36] }, type := 4, pos := "law.go:297", after := #[{ on := 0, ground := Ground.data }, { on := 1, ground := Ground.data }], guard := none }) rfl (fun K hK => ?_) ?_
          · go_simp
            first
              | (go_at_call 31; (first | (with_reducible refine (HFq _ (by first | assumption | (with_reducible exact Later.drew (by assumption)))).mono ?_) | (with_reducible refine (HFl _ (by first | assumption | (with_reducible exact Later.drew (by assumption)))).mono ?_) | (with_reducible refine (HFh _ (by first | assumption | (with_reducible exact Later.drew (by assumption)))).mono ?_)); rintro e wk ⟨rfl, hxk⟩)
            try (go_wp2_with fail)
            refine hK.out _ _ ?_ (fun hHeld => ?_)
            · (try dsimp only); (repeat (first | assumption | apply Later.drew | apply Later.drewN | apply Later.alloc | (refine Later.step ?_ (by assumption))))
            clear hK K
            try simp only [Act.put, List.setIfInBounds_toArray, List.set_cons_zero, List.set_cons_succ]
            refine wpAnyH_ready (rs := [5]) (by kernel_rfl) (by simp) ?_
            refine AllReadyH.cons (o := { dst := some 84, op := Op.call { callee := Callee.value (Operand.func 31), args := #[Operand.tmp 82, Operand.tmp 83], argTypes := #[39, 36] }, type := 4, pos := "law.go:297", after := #[{ on := 3, ground := Ground.data }, { on := 4, ground := Ground.data }, { on := 2, ground := Ground.chain }], guard := none }) rfl (fun K hK => ?_) ?_
            · go_simp
              first
                | (go_at_call 31; (first | (with_reducible refine (HFq _ (by first | assumption | (with_reducible exact Later.drew (by assumption)))).mono ?_) | (with_reducible refine (HFl _ (by first | assumption | (with_reducible exact Later.drew (by assumption)))).mono ?_) | (with_reducible refine (HFh _ (by first | assumption | (with_reducible exact Later.drew (by assumption)))).mono ?_)); rintro e wk ⟨rfl, hxk⟩)
              try (go_wp2_with fail)
              refine hK.out _ _ ?_ (fun hHeld => ?_)
              · (try dsimp only); (repeat (first | assumption | apply Later.drew | apply Later.drewN | apply Later.alloc | (refine Later.step ?_ (by assumption))))
              clear hK K
              try simp only [Act.put, List.setIfInBounds_toArray, List.set_cons_zero, List.set_cons_succ]
              refine wpAnyH_ready (rs := [8]) (by kernel_rfl) (by simp) ?_
              refine AllReadyH.cons (o := { dst := some 87, op := Op.call { callee := Callee.value (Operand.func 31), args := #[Operand.tmp 85, Operand.tmp 86], argTypes := #[39, 36] }, type := 4, pos := "law.go:297", after := #[{ on := 6, ground := Ground.data }, { on := 7, ground := Ground.data }, { on := 5, ground := Ground.chain }], guard := none }) rfl (fun K hK => ?_) ?_
              · go_simp
                first
                  | (go_at_call 31; (first | (with_reducible refine (HFq _ (by first | assumption | (with_reducible exact Later.drew (by assumption)))).mono ?_) | (with_reducible refine (HFl _ (by first | assumption | (with_reducible exact Later.drew (by assumption)))).mono ?_) | (with_reducible refine (HFh _ (by first | assumption | (with_reducible exact Later.drew (by assumption)))).mono ?_)); rintro e wk ⟨rfl, hxk⟩)
                try (go_wp2_with fail)
                refine hK.out _ _ ?_ (fun hHeld => ?_)
                · (try dsimp only); (repeat (first | assumption | apply Later.drew | apply Later.drewN | apply Later.alloc | (refine Later.step ?_ (by assumption))))
                clear hK K
                try simp only [Act.put, List.setIfInBounds_toArray, List.set_cons_zero, List.set_cons_succ]
                refine wpAnyH_take (i := 9) (oi := { dst := some 88, op := Op.binOp BinOp.neq 4 (Operand.tmp 84) (Operand.tmp 87) 4, type := 4, pos := "law.go:297", after := #[{ on := 5, ground := Ground.data }, { on := 8, ground := Ground.data }], guard := none }) (v := ?_) rfl (by kernel_rfl) (by kernel_rfl) (by kernel_rfl) (fun _ _ _ h => h) (Or.inl ⟨by rfl, ?_⟩) (by assumption) ?_
                rotate_left
                · intro w hSw; (try dsimp only at hSw); go_simp; try (with_reducible rfl)
                try simp only [Act.put, List.setIfInBounds_toArray, List.set_cons_zero, List.set_cons_succ]
                refine wpAnyH_take (i := 10) (oi := { dst := some 89, op := Op.binOp BinOp.neq 4 (Operand.tmp 81) (Operand.tmp 88) 4, type := 4, pos := "law.go:297", after := #[{ on := 2, ground := Ground.data }, { on := 9, ground := Ground.data }], guard := none }) (v := ?_) rfl (by kernel_rfl) (by kernel_rfl) (by kernel_rfl) (fun _ _ _ h => h) (Or.inl ⟨by rfl, ?_⟩) (by assumption) ?_
                rotate_left
                · intro w hSw; (try dsimp only at hSw); go_simp; try (with_reducible rfl)
                try simp only [Act.put, List.setIfInBounds_toArray, List.set_cons_zero, List.set_cons_succ]
                refine wpAnyH_take (i := 11) (oi := { dst := some 90, op := Op.move (Operand.tmp 89), type := 4, pos := "law.go:297", after := #[{ on := 10, ground := Ground.data }, { on := 8, ground := Ground.chain }], guard := none }) (v := ?_) rfl (by kernel_rfl) (by kernel_rfl) (by kernel_rfl) (fun _ _ _ h => h) (Or.inl ⟨by rfl, ?_⟩) (by assumption) ?_
                rotate_left
                · intro w hSw; (try dsimp only at hSw); go_simp; try (with_reducible rfl)
                try simp only [Act.put, List.setIfInBounds_toArray, List.set_cons_zero, List.set_cons_succ]
                refine wpAnyH_take (i := 12) (oi := { dst := some 91, op := Op.load 39 (Operand.tmp 14), type := 39, pos := "law.go:297", after := #[{ on := 11, ground := Ground.guard }], guard := some (11, false) }) (v := ?_) rfl (by kernel_rfl) (by kernel_rfl) (by kernel_rfl) (fun _ _ _ h => h) (Or.inl ⟨by rfl, ?_⟩) (by assumption) ?_
                rotate_left
                · intro w hSw; (try dsimp only at hSw); go_simp; try (with_reducible rfl)
                try simp only [Act.put, List.setIfInBounds_toArray, List.set_cons_zero, List.set_cons_succ]
                refine wpAnyH_take (i := 13) (oi := { dst := some 92, op := Op.move (Operand.tmp 18), type := 36, pos := "law.go:297", after := #[{ on := 11, ground := Ground.guard }], guard := some (11, false) }) (v := ?_) rfl (by kernel_rfl) (by kernel_rfl) (by kernel_rfl) (fun _ _ _ h => h) (Or.inl ⟨by rfl, ?_⟩) (by assumption) ?_
                rotate_left
                · intro w hSw; (try dsimp only at hSw); go_simp; try (with_reducible rfl)
                try simp only [Act.put, List.setIfInBounds_toArray, List.set_cons_zero, List.set_cons_succ]
                refine wpAnyH_ready (rs := [14]) (by kernel_rfl) (by simp) ?_
                refine AllReadyH.cons (o := { dst := some 93, op := Op.call { callee := Callee.value (Operand.func 31), args := #[Operand.tmp 91, Operand.tmp 92], argTypes := #[39, 36] }, type := 4, pos := "law.go:297", after := #[{ on := 12, ground := Ground.data }, { on := 13, ground := Ground.data }, { on := 11, ground := Ground.chain }, { on := 11, ground := Ground.guard }], guard := some (11, false) }) rfl (fun K hK => ?_) ?_
                · go_simp
                  first
                    | (go_at_call 31; (first | (with_reducible refine (HFq _ (by first | assumption | (with_reducible exact Later.drew (by assumption)))).mono ?_) | (with_reducible refine (HFl _ (by first | assumption | (with_reducible exact Later.drew (by assumption)))).mono ?_) | (with_reducible refine (HFh _ (by first | assumption | (with_reducible exact Later.drew (by assumption)))).mono ?_)); rintro e wk ⟨rfl, hxk⟩)
                  try (go_wp2_with fail)
                  refine hK.out _ _ ?_ (fun hHeld => ?_)
                  · (try dsimp only); (repeat (first | assumption | apply Later.drew | apply Later.drewN | apply Later.alloc | (refine Later.step ?_ (by assumption))))
                  clear hK K
                  try simp only [Act.put, List.setIfInBounds_toArray, List.set_cons_zero, List.set_cons_succ]
                  refine wpAnyH_take (i := 15) (oi := { dst := some 94, op := Op.move (Operand.tmp 93), type := 4, pos := "law.go:297", after := #[{ on := 14, ground := Ground.data }, { on := 14, ground := Ground.chain }, { on := 11, ground := Ground.guard }], guard := some (11, false) }) (v := ?_) rfl (by kernel_rfl) (by kernel_rfl) (by kernel_rfl) (fun _ _ _ h => h) (Or.inl ⟨by rfl, ?_⟩) (by assumption) ?_
                  rotate_left
                  · intro w hSw; (try dsimp only at hSw); go_simp; try (with_reducible rfl)
                  try simp only [Act.put, List.setIfInBounds_toArray, List.set_cons_zero, List.set_cons_succ]
                  refine wpAnyH_take (i := 16) (oi := { dst := some 95, op := Op.load 39 (Operand.tmp 15), type := 39, pos := "law.go:297", after := #[{ on := 15, ground := Ground.guard }], guard := some (15, true) }) (v := undef) rfl (by kernel_rfl) (by kernel_rfl) (by kernel_rfl) (fun _ _ _ h => h) (Or.inr ⟨by rfl, rfl⟩) (by assumption) ?_
                  try simp only [Act.put, List.setIfInBounds_toArray, List.set_cons_zero, List.set_cons_succ]
                  refine wpAnyH_take (i := 17) (oi := { dst := some 96, op := Op.move (Operand.tmp 18), type := 36, pos := "law.go:297", after := #[{ on := 15, ground := Ground.guard }], guard := some (15, true) }) (v := undef) rfl (by kernel_rfl) (by kernel_rfl) (by kernel_rfl) (fun _ _ _ h => h) (Or.inr ⟨by rfl, rfl⟩) (by assumption) ?_
                  try simp only [Act.put, List.setIfInBounds_toArray, List.set_cons_zero, List.set_cons_succ]
                  refine wpAnyH_take (i := 18) (oi := { dst := some 97, op := Op.call { callee := Callee.value (Operand.func 31), args := #[Operand.tmp 95, Operand.tmp 96], argTypes := #[39, 36] }, type := 4, pos := "law.go:297", after := #[{ on := 16, ground := Ground.data }, { on := 17, ground := Ground.data }, { on := 15, ground := Ground.chain }, { on := 15, ground := Ground.guard }], guard := some (15, true) }) (v := undef) rfl (by kernel_rfl) (by kernel_rfl) (by kernel_rfl) (fun _ _ _ h => h) (Or.inr ⟨by rfl, rfl⟩) (by assumption) ?_
                  try simp only [Act.put, List.setIfInBounds_toArray, List.set_cons_zero, List.set_cons_succ]
                  refine wpAnyH_take (i := 19) (oi := { dst := some 98, op := Op.pick (Operand.tmp 94) (Operand.tmp 97) (Operand.const (Value.bool false)), type := 4, pos := "law.go:297", after := #[{ on := 15, ground := Ground.data }, { on := 18, ground := Ground.data }, { on := 11, ground := Ground.guard }], guard := some (11, false) }) (v := ?_) rfl (by kernel_rfl) (by kernel_rfl) (by kernel_rfl) (fun _ _ _ h => h) (Or.inl ⟨by rfl, ?_⟩) (by assumption) ?_
                  rotate_left
                  · intro w hSw; (try dsimp only at hSw); go_simp; try (with_reducible rfl)
                  try simp only [Act.put, List.setIfInBounds_toArray, List.set_cons_zero, List.set_cons_succ]
                  refine wpAnyH_take (i := 20) (oi := { dst := some 99, op := Op.pick (Operand.tmp 90) (Operand.const (Value.bool true)) (Operand.tmp 98), type := 4, pos := "law.go:297", after := #[{ on := 11, ground := Ground.data }, { on := 19, ground := Ground.data }], guard := none }) (v := ?_) rfl (by kernel_rfl) (by kernel_rfl) (by kernel_rfl) (fun _ _ _ h => h) (Or.inl ⟨by rfl, ?_⟩) (by assumption) ?_
                  rotate_left
                  · intro w hSw; (try dsimp only at hSw); go_simp; try (with_reducible rfl)
                  try simp only [Act.put, List.setIfInBounds_toArray, List.set_cons_zero, List.set_cons_succ]
                  refine wpAnyH_done (by kernel_rfl) ?_ _
                  have hL9 : Ext w5 _ := hHeld
                  clear k0 k1 k2 k3 k4 k5 HFq HFl HFh
                  go_wp2_with fail
                  go_meet
                  exact ⟨rfl, hL9⟩
                exact AllReadyH.nil
              exact AllReadyH.nil
            exact AllReadyH.nil
          exact AllReadyH.nil
      case rest =>
      obtain ⟨rfl, hx6⟩ := hcut
      rename_i hK
      refine hK _ _ ?_
      clear hK hsf HFq HFl HFh
      have PB6 := PB5.ext hx6
      have LB6 := LB5.ext hx6
      have HB6 := HB5.ext hx6
      have hP6 := hP5.ext hx6
      have hL6 := hL5.ext hx6
      have hH6 := hH5.ext hx6
      have hE6 := hE5.trans hx6
      clear PB5 LB5 HB5 hP5 hL5 hH5 hE5 hx6 hX9
      have m0 := (PB6).c0
      have m1 := (PB6).c1
      have hS := Solve_i _ (P) 400 3 409 134217728 400 wc hP6 (by omega) (by omega) (by decide) (fun _ => HC.out) (by show _ ≤ 409; first | omega | (show P.m + 1 + 400 ≤ 409; omega)) (by omega)
      go_wp2_with fail
      refine hS.mono ?_
      clear hS m0 m1
      rintro e wy hpost
      obtain ⟨N1, N2, N3, N4, rfl, hxy⟩ := hpost.any
      obtain ⟨V1, hV1⟩ : ∃ x, x = (solveR 400 (P)).val := ⟨_, rfl⟩
      obtain ⟨E1, hE1⟩ : ∃ x, x = (solveR 400 (P)).err := ⟨_, rfl⟩
      rw [← hV1, ← hE1]
      have HV1 := Lib.hid hV1
      have HE1 := Lib.hid hE1
      clear hpost hV1 hE1
      go_upto_region 19 with fail
      have RX1 := Box.new wy 32 #[.int .i64 V1, .slice N1 N2 N3, .pointer N4]
      have hxz : Ext wy (wy.alloc (.cells #[.int .i64 V1, .slice N1 N2 N3, .pointer N4] 32)) := (Ext.refl wy).alloc _
      generalize (wy.alloc (.cells #[.int .i64 V1, .slice N1 N2 N3, .pointer N4] 32)) = YV1 at *
      obtain ⟨bV1, hbV1⟩ : ∃ x, x = wy.heap.size := ⟨_, rfl⟩
      rw [← hbV1] at RX1 ⊢
      clear hbV1
      have hxs := hxy.trans hxz
      clear hxy hxz
      have LB7 := LB6.ext hxs
      have HB7 := HB6.ext hxs
      have hL7 := hL6.ext hxs
      have hH7 := hH6.ext hxs
      have hE7 := hE6.trans hxs
      clear PB6 LB6 HB6 hP6 hL6 hH6 hE6 hxs
      have m0 := (LB7).c0
      have m1 := (LB7).c1
      have hS := Solve_i _ (P.side k f false) 400 3 409 134217728 400 YV1 hL7 (by omega) (by omega) (by decide) (fun _ => HCl.out) (by show _ ≤ 409; first | omega | (show P.m + 1 + 400 ≤ 409; omega)) (by omega)
      go_wp2_with fail
      refine hS.mono ?_
      clear hS m0 m1
      rintro e wy hpost
      obtain ⟨N1, N2, N3, N4, rfl, hxy⟩ := hpost.any
      obtain ⟨V2, hV2⟩ : ∃ x, x = (solveR 400 (P.side k f false)).val := ⟨_, rfl⟩
      obtain ⟨E2, hE2⟩ : ∃ x, x = (solveR 400 (P.side k f false)).err := ⟨_, rfl⟩
      rw [← hV2, ← hE2]
      have HV2 := Lib.hid hV2
      have HE2 := Lib.hid hE2
      clear hpost hV2 hE2
      go_upto_region 20 with fail
      have RX2 := Box.new wy 32 #[.int .i64 V2, .slice N1 N2 N3, .pointer N4]
      have hxz : Ext wy (wy.alloc (.cells #[.int .i64 V2, .slice N1 N2 N3, .pointer N4] 32)) := (Ext.refl wy).alloc _
      generalize (wy.alloc (.cells #[.int .i64 V2, .slice N1 N2 N3, .pointer N4] 32)) = YV2 at *
      obtain ⟨bV2, hbV2⟩ : ∃ x, x = wy.heap.size := ⟨_, rfl⟩
      rw [← hbV2] at RX2 ⊢
      clear hbV2
      have hxs := hxy.trans hxz
      clear hxy hxz
      have HB8 := HB7.ext hxs
      have hH8 := hH7.ext hxs
      have hE8 := hE7.trans hxs
      have RX1 := RX1.ext hxs
      clear LB7 HB7 hL7 hH7 hE7 hxs
      have m0 := (HB8).c0
      have m1 := (HB8).c1
      have hS := Solve_i _ (P.side k f true) 400 3 409 134217728 400 YV2 hH8 (by omega) (by omega) (by decide) (fun _ => HCh.out) (by show _ ≤ 409; first | omega | (show P.m + 1 + 400 ≤ 409; omega)) (by omega)
      go_wp2_with fail
      refine hS.mono ?_
      clear hS m0 m1
      rintro e wy hpost
      obtain ⟨N1, N2, N3, N4, rfl, hxy⟩ := hpost.any
      obtain ⟨V3, hV3⟩ : ∃ x, x = (solveR 400 (P.side k f true)).val := ⟨_, rfl⟩
      obtain ⟨E3, hE3⟩ : ∃ x, x = (solveR 400 (P.side k f true)).err := ⟨_, rfl⟩
      rw [← hV3, ← hE3]
      have HV3 := Lib.hid hV3
      have HE3 := Lib.hid hE3
      clear hpost hV3 hE3
      go_upto_region 21 with fail
      have RX3 := Box.new wy 32 #[.int .i64 V3, .slice N1 N2 N3, .pointer N4]
      have hxz : Ext wy (wy.alloc (.cells #[.int .i64 V3, .slice N1 N2 N3, .pointer N4] 32)) := (Ext.refl wy).alloc _
      generalize (wy.alloc (.cells #[.int .i64 V3, .slice N1 N2 N3, .pointer N4] 32)) = YV3 at *
      obtain ⟨bV3, hbV3⟩ : ∃ x, x = wy.heap.size := ⟨_, rfl⟩
      rw [← hbV3] at RX3 ⊢
      clear hbV3
      have hxs := hxy.trans hxz
      clear hxy hxz
      have hE9 := hE8.trans hxs
      have RX1 := RX1.ext hxs
      have RX2 := RX2.ext hxs
      clear HB8 hH8 hE8 hxs
      have s1 := RX1.c0
      have s2 := RX2.c0
      have s3 := RX3.c0
      have hdp := divides_plain HBP.out (k := k) (by rw [← HPP.out]; exact hkn) (f := f) rfl rfl rfl
      rw [← HPP.out, ← HV1.out, ← HE1.out, ← HV2.out, ← HE2.out, ← HV3.out, ← HE3.out] at hdp
      clear HV1 HE1 HV2 HE2 HV3 HE3
      rcases hdp with ⟨rfl, rfl, rfl, rfl⟩ | ⟨rfl, rfl, rfl, rfl⟩ | ⟨rfl, rfl, rfl, rfl⟩ | ⟨rfl, rfl, rfl⟩
      · go_wp2_with fail
        go_ret
        exact ⟨rfl, hE9⟩
      · go_wp2_with fail
        go_ret
        exact ⟨rfl, hE9⟩
      · go_wp2_with fail
        go_ret
        exact ⟨rfl, hE9⟩
      · go_wp2_with fail
        go_ret
        exact ⟨rfl, hE9⟩
end Go.Proofs.Ythafabkjidifeaa.Lp

/- The law CertificateLeaf, walked. -/
import Derived.Test.YtljncdcjkdgkeaaDoorCBT
import Derived.Test.YtljncdcjkdgkeaaDoorCLC
import Derived.Test.YtljncdcjkdgkeaaDoorCEA
import Derived.Test.YtljncdcjkdgkeaaDoorCS1
import Derived.Test.YtljncdcjkdgkeaaDoorLV5
set_option linter.unusedVariables false
set_option linter.unusedSimpArgs false
namespace Go.Proofs.YtljncdcjkdgkeaaDoor.Lp
open Go.RowKit Go.Proofs.YtljncdcjkdgkeaaDoor.Big Go.Proofs.YtljncdcjkdgkeaaDoor.Rt

def dl5 : Oper := { dst := some 47, op := Op.call { callee := Callee.value (Operand.func 9), args := #[Operand.tmp 46, Operand.const (Value.int IntKind.u8 2)], argTypes := #[21, 5] }, type := 46, pos := "law.go:155", after := #[{ on := 4, ground := Ground.data }], guard := none }
def dl6 : Oper := { dst := some 13, op := Op.alloc 46, type := 0, pos := "law.go:155", after := #[], guard := none }
def dl8 : Oper := { dst := none, op := Op.store 46 (Operand.tmp 13) (Operand.tmp 47), type := 0, pos := "law.go:155", after := #[{ on := 6, ground := Ground.data }, { on := 5, ground := Ground.data }, { on := 7, ground := Ground.chain }, { on := 0, ground := Ground.phase }, { on := 1, ground := Ground.phase }, { on := 2, ground := Ground.phase }, { on := 3, ground := Ground.phase }, { on := 4, ground := Ground.phase }, { on := 5, ground := Ground.phase }, { on := 6, ground := Ground.phase }, { on := 7, ground := Ground.phase }], guard := none }
theorem qn4_bound {n : Int} {d : Nat} (h : in32 n) : QB 2 (qn4 n d) := by
  have h1 : B 2 n := by
    unfold B; rw [pw_two_eq]
    have := h.1; have := h.2; omega
  have h2 : B 2 (1 + ((d % 4 : Nat) : Int)) := by
    unfold B; rw [pw_two_eq]; omega
  have := QB_red h1 h2 (by omega)
  simpa [qn4] using this
/-- the node of the law -/
def lfN (xs : List Int) (ds : List Nat) : ND := ⟨-1, 0, false, xs, ds, false⟩
theorem lfN_build (xs : List Int) (ds : List Nat) : buildT 31 [lfN xs ds] = (.node (-1) 0 false xs.length (yq (lfN xs ds)) .nil .nil, []) := buildT_leaf (f := 30) (x := lfN xs ds) (r := []) rfl
set_option maxHeartbeats 4000000 in
set_option maxRecDepth 100000 in
theorem leafL_any (v : Value) (ip : IP) (A B : Option Addr) (nx cx nd cd : Nat) (xs : List Int) (ds : List Nat) (z : Int) (w : World) (h : IPV w v ip) (hok : ip.ok) (hx : Row w (.slice A nx cx) (wV xs)) (hx32 : ∀ z ∈ xs, in32 z) (hxl : xs.length ≤ 1048576) (hd : Row w (.slice B nd cd) (uV ds)) (hd8 : ∀ d ∈ ds, d ≤ 255) (hz : in32 z) (htab : TabOK w) :
    Calls Tryd.prog 3 #[v, .slice A nx cx, .slice B nd cd, .int .i32 z] w (ValPost w (.bool true)) := by
  have h0 := h
  obtain ⟨Ao, co, Ar, cr, rfl, -, -, -, -⟩ := h0
  obtain ⟨n0, hn0⟩ : ∃ n, n = ip.obj.length := ⟨_, rfl⟩
  obtain ⟨m0, hm0⟩ : ∃ n, n = ip.rows.length := ⟨_, rfl⟩
  obtain ⟨d0, hd0⟩ : ∃ n, n = ip.den := ⟨_, rfl⟩
  rw [← hn0, ← hm0, ← hd0] at h ⊢
  have HOK := Lib.hid hok
  obtain ⟨hnx, -, -, -⟩ := hx.inj
  obtain ⟨hnd, -, -, -⟩ := hd.inj
  rw [wV_len] at hnx
  rw [uV_len] at hnd
  have HNX := Lib.hid hnx
  have HOKN : Hid (okN (lfN xs ds)) := Lib.hid ⟨hx32, hd8, hxl⟩
  have HXN : Hid (∀ W, Ext w W → NdAt W = NdAt W) := Lib.hid (fun _ _ => rfl)
  have HRX := Lib.hid hx
  have HRD := Lib.hid hd
  have HND := Lib.hid hnd
  clear hn0 hm0 hd0 hok hnx hnd hx hd HXN
  have PBq := Box.new w 25 #[.slice Ao n0 co, .slice Ar m0 cr, .int .u8 (d0 : Int)]
  have hE : Ext w (w.alloc (.cells #[.slice Ao n0 co, .slice Ar m0 cr, .int .u8 (d0 : Int)] 25)) := (Ext.refl w).alloc _
  go_enter Tryd.func3, Tryd.ntmps3
  go_upto_region 1 with fail
  generalize (w.alloc (.cells #[.slice Ao n0 co, .slice Ar m0 cr, .int .u8 (d0 : Int)] 25)) = V at *
  obtain ⟨ab, hab⟩ : ∃ x, x = w.heap.size := ⟨_, rfl⟩
  rw [← hab] at PBq ⊢
  clear hab
  go_wp2_with fail
  refine (awake_c _ (htab.ext hE)).mono ?_
  rintro e w1 ⟨rfl, hx1⟩
  have hE1 := hE.trans hx1
  have PB1 := PBq.ext hx1
  have c0 := PB1.c0
  have c1 := PB1.c1
  have c2 := PB1.c2
  clear hx1 hE
  go_wp2_with fail
  refine (Make_b _ ip _ (h.ext hE1) HOK.out).mono ?_
  rintro e w2 ⟨v2, a, rfl, hM, hx2⟩
  have hE2 := hE1.trans hx2
  have hP := hM.prob
  have hv := hM.val
  clear hM c0 c1 c2 PB1 PBq hE1 hx2
  obtain ⟨p, hp⟩ : ∃ p, p = ip.pl.toP := ⟨_, rfl⟩
  have HC : Hid (∀ i, i < p.m → ∀ j, j < p.n → QB 2 (p.coef i j)) := Lib.hid (fun i hi j _ => by rw [hp] at hi ⊢; exact IP.coef_b HOK.out hi j)
  have HR : Hid (∀ i, i < p.m → QB 2 (p.right i)) := Lib.hid (fun i hi => by rw [hp] at hi ⊢; exact IP.right_b HOK.out hi)
  have HO : Hid (∀ j, j < p.n → QB 2 (p.obj j)) := Lib.hid (fun j _ => by rw [hp]; exact IP.obj_b HOK.out j)
  rw [← hp] at hP hv
  clear hp
  obtain ⟨Ap, hAp⟩ : ∃ x, x = a.Ao := ⟨_, rfl⟩
  obtain ⟨cp, hcp⟩ : ∃ x, x = a.co := ⟨_, rfl⟩
  obtain ⟨Aq, hAq⟩ : ∃ x, x = a.Ar := ⟨_, rfl⟩
  obtain ⟨cq, hcq⟩ : ∃ x, x = a.cr := ⟨_, rfl⟩
  rw [← hAp, ← hcp, ← hAq, ← hcq] at hv
  clear hAp hcp hAq hcq
  subst hv
  go_upto_region 4 with fail
  have PB := Box.new w2 31 #[.slice Ap p.n cp, .slice Aq p.m cq]
  have hy : Ext w2 (w2.alloc (.cells #[.slice Ap p.n cp, .slice Aq p.m cq] 31)) := (Ext.refl w2).alloc _
  generalize (w2.alloc (.cells #[.slice Ap p.n cp, .slice Aq p.m cq] 31)) = V2 at *
  obtain ⟨pb, hpb⟩ : ∃ x, x = w2.heap.size := ⟨_, rfl⟩
  rw [← hpb] at PB ⊢
  clear hpb
  have hP := hP.ext hy
  have hE2 := hE2.trans hy
  clear hy
  have NB := Box.new V2 38 #[.int .i64 (-1), .int .i64 0, .bool false, .slice A nx cx, .slice B nd cd, .bool false]
  have hy : Ext V2 (V2.alloc (.cells #[.int .i64 (-1), .int .i64 0, .bool false, .slice A nx cx, .slice B nd cd, .bool false] 38)) := (Ext.refl V2).alloc _
  go_wp2_with fail
  generalize (V2.alloc (.cells #[.int .i64 (-1), .int .i64 0, .bool false, .slice A nx cx, .slice B nd cd, .bool false] 38)) = V3 at *
  obtain ⟨nb, hnb⟩ : ∃ x, x = V2.heap.size := ⟨_, rfl⟩
  rw [← hnb] at NB ⊢
  clear hnb
  have PB := PB.ext hy
  have hP := hP.ext hy
  have hE3 := hE2.trans hy
  have hNV : NodesV V3 (.slice (some ⟨nb, 0, none⟩) 1 1) [lfN xs ds] := ⟨some ⟨nb, 0, none⟩, 1, rfl, by simp, by omega, fun _ => ⟨nb, 0, rfl, fun j x hj => by
    rcases j with _ | j
    · obtain rfl := Option.some.inj hj
      have hx := HRX.out.ext hE3
      have hd := HRD.out.ext hE3
      rw [HNX.out] at NB hx
      rw [HND.out] at NB hd
      exact ⟨A, cx, B, cd, NB.cell 0, NB.cell 1, NB.cell 2, NB.cell 3, NB.cell 4, NB.cell 5, hx, hd⟩
    · have hj : none = some x := hj
      cases hj⟩⟩
  have hbuild := build_b 31 [lfN xs ds] 0 _ V3 V3 (by omega) (Ext.refl V3) hNV (fun x hx => by rw [List.mem_singleton.1 hx]; exact HOKN.out)
  rw [lfN_build] at hbuild
  refine hbuild.mono ?_
  rintro e w4 ⟨A4, v4, rfl, ⟨tb, L, H, Y, c, rfl, -, TB, hY, rfl, rfl⟩, hv4, hx4⟩
  obtain ⟨Ar4, cr4, rfl, -⟩ := id hv4
  clear hbuild hNV hv4 hy NB hE2
  have PB4 := PB.ext hx4
  have hP4 := hP.ext hx4
  have hE4 := hE3.trans hx4
  have hY4 := hY.rats
  have HY : Hid (∀ j, j < xs.length → QB 2 (yq (lfN xs ds) j)) := Lib.hid (fun j _ => qn4_bound (in32_get hx32 j))
  obtain ⟨y, hy⟩ : ∃ y, y = yq (lfN xs ds) := ⟨_, rfl⟩
  rw [← hy] at hY4 HY
  rw [← HNX.out] at TB hY4 HY
  clear hy hY hx4 PB hP hE3
  have q0 := PB4.c0
  have q1 := PB4.c1
  go_wp2_with fail
  refine (small_b _ p _ hP4).mono ?_
  rintro e w5 ⟨rfl, hx5⟩
  have PB5 := PB4.ext hx5
  have hP5 := hP4.ext hx5
  have hE5 := hE4.trans hx5
  have TB5 := TB.ext hx5
  have hY5 := hY4.ext hx5
  clear q0 q1 PB4 hP4 hE4 TB hY4 hx5
  obtain ⟨F, hF⟩ : ∃ F, F = smallB p := ⟨_, rfl⟩
  rw [← hF]
  have HF := Lib.hid hF
  clear hF
  cases F with
  | false =>
    simp only [Bool.false_eq_true, if_false]
    go_wp2_with fail
    go_ret
    exact ⟨rfl, hE5⟩
  | true =>
  simp only [if_true]
  by_cases h20 : nx ≤ 20
  case neg =>
    have g20 : decide ((20 : Int) < (nx : Int)) = true := by simp; omega
    go_wp2_with fail
    go_ret
    exact ⟨rfl, hE5⟩
  case pos =>
  have g20 : decide ((20 : Int) < (nx : Int)) = false := by simp; omega
  have hsm : p.m ≤ 8 ∧ p.n ≤ 6 := by
    have := HF.out
    unfold smallB at this
    simp at this
    exact ⟨this.1, this.2.1⟩
  go_upto_region 7 with fail
  clear g20
  go_cut [12, 13] (fun v12 v13 wx => ∃ (lb : Nat) (x1 : Bool) (X2 : Option Addr) (n2 c2 : Nat) (x3 : Bool) (X4 : Option Addr) (n4 c4 : Nat), v12 = .slice Y nx c ∧ v13 = .pointer (some ⟨lb, 0, none⟩) ∧ Box wx lb 46 #[.bool x1, .slice X2 n2 c2, .bool x3, .slice X4 n4 c4] ∧ RatB wx (.agg #[.bool x1, .slice X2 n2 c2, .bool x3, .slice X4 n4 c4]) (qn4 z 2) 2 ∧ Ext w5 wx)
  case first =>
    have k5 : ∀ w', Later w5 w' → w'.cell? ⟨tb, 5, none⟩ = some (.slice Y nx c) := fun w' h => (TB5.ext h).cell 5
    clear PB5 hP5 hE5 TB5 hY5
    refine wp_region_held_drew (S := fun w' => Later w5 w') (by kernel_rfl) ?_ (fun hHeld => ?_)
    ·exact (Later.refl w5).drew
    have hE : Ext w5 w5.drew := (Ext.refl w5).drew
    generalize w5.drew = Z1 at *
    refine wpAnyH_take (i := 0) (oi := { dst := some 42, op := Op.move (Operand.tmp 10), type := 33, pos := "law.go:155", after := #[], guard := none }) (v := ?_) rfl (by kernel_rfl) (by kernel_rfl) (by kernel_rfl) (fun _ _ _ h => h) (Or.inl ⟨by rfl, ?_⟩) (by assumption) ?_
    rotate_left
    ·intro w hSw; (try dsimp only at hSw); go_simp; try (with_reducible rfl)
    try simp only [Act.put, List.setIfInBounds_toArray, List.set_cons_zero, List.set_cons_succ]
    refine wpAnyH_take (i := 1) (oi := { dst := some 43, op := Op.nilCheck (Operand.tmp 42), type := 0, pos := "law.go:155", after := #[{ on := 0, ground := Ground.data }], guard := none }) (v := ?_) rfl (by kernel_rfl) (by kernel_rfl) (by kernel_rfl) (fun _ _ _ h => h) (Or.inl ⟨by rfl, ?_⟩) (by assumption) ?_
    rotate_left
    ·intro w hSw; (try dsimp only at hSw); go_simp; try (with_reducible rfl)
    try simp only [Act.put, List.setIfInBounds_toArray, List.set_cons_zero, List.set_cons_succ]
    refine wpAnyH_take (i := 2) (oi := { dst := some 44, op := Op.fieldAddr 41 (Operand.tmp 43) 5, type := 0, pos := "law.go:155", after := #[{ on := 1, ground := Ground.data }], guard := none }) (v := ?_) rfl (by kernel_rfl) (by kernel_rfl) (by kernel_rfl) (fun _ _ _ h => h) (Or.inl ⟨by rfl, ?_⟩) (by assumption) ?_
    rotate_left
    ·intro w hSw; (try dsimp only at hSw); go_simp; try (with_reducible rfl)
    try simp only [Act.put, List.setIfInBounds_toArray, List.set_cons_zero, List.set_cons_succ]
    refine wpAnyH_take (i := 3) (oi := { dst := some 45, op := Op.load 28 (Operand.tmp 44), type := 28, pos := "law.go:155", after := #[{ on := 2, ground := Ground.data }], guard := none }) (v := ?_) rfl (by kernel_rfl) (by kernel_rfl) (by kernel_rfl) (fun _ _ _ h => h) (Or.inl ⟨by rfl, ?_⟩) (by assumption) ?_
    rotate_left
    ·intro w hSw; (try dsimp only at hSw); go_simp; try (with_reducible rfl)
    try simp only [Act.put, List.setIfInBounds_toArray, List.set_cons_zero, List.set_cons_succ]
    refine wpAnyH_take (i := 4) (oi := { dst := some 46, op := Op.move (Operand.tmp 3), type := 21, pos := "law.go:155", after := #[], guard := none }) (v := ?_) rfl (by kernel_rfl) (by kernel_rfl) (by kernel_rfl) (fun _ _ _ h => h) (Or.inl ⟨by rfl, ?_⟩) (by assumption) ?_
    rotate_left
    ·intro w hSw; (try dsimp only at hSw); go_simp; try (with_reducible rfl)
    try simp only [Act.put, List.setIfInBounds_toArray, List.set_cons_zero, List.set_cons_succ]
    refine wpAnyH_ready (rs := [5, 6]) (by kernel_rfl) (by simp) ?_
    refine AllReadyH.cons (o := dl5) rfl (fun K hK => ?_) ?_
    ·unfold dl5
     go_simp
     go_at_call 9
     refine (number4_b z 2 _ hz (by omega)).mono ?_
     rintro e Z2 ⟨v9, rfl, hqq, hx⟩
     obtain ⟨x1, X2, n2, c2, x3, X4, n4, c4, rfl⟩ := hqq.1.shape
     have hE := hE.trans hx
     clear hx
     have hLt : Later w5 Z2 := hE
     try (go_wp2_with fail)
     refine hK.out _ _ hLt (fun hHeld => ?_)
     clear hK K hLt
     try simp only [Act.put, List.setIfInBounds_toArray, List.set_cons_zero, List.set_cons_succ]
     refine wpAnyH_ready (rs := [6]) (by kernel_rfl) (by simp) ?_
     refine AllReadyH.cons (o := dl6) rfl (fun K hK => ?_) ?_
     ·unfold dl6
      go_simp
      have NB := Box.new Z2 46 #[.bool false, .slice none 0 0, .bool false, .slice none 0 0]
      have hx : Ext Z2 (Z2.alloc (.cells #[.bool false, .slice none 0 0, .bool false, .slice none 0 0] 46)) := (Ext.refl Z2).alloc _
      generalize (Z2.alloc (.cells #[.bool false, .slice none 0 0, .bool false, .slice none 0 0] 46)) = Z3 at *
      obtain ⟨bN, hbN⟩ : ∃ x, x = Z2.heap.size := ⟨_, rfl⟩
      rw [← hbN] at NB ⊢
      have hwN : w5.heap.size ≤ bN := by have := hE.size; omega
      clear hbN
      have hqq := hqq.ext hx
      have hE := hE.trans hx
      clear hx
      have hLt : Later w5 Z3 := hE
      refine hK.out _ _ hLt (fun hHeld => ?_)
      clear hK K hLt
      try simp only [Act.put, List.setIfInBounds_toArray, List.set_cons_zero, List.set_cons_succ]
      refine wpAnyH_take (i := 7) (oi := { dst := some 12, op := Op.assign (Operand.tmp 45), type := 28, pos := "law.go:155", after := #[{ on := 3, ground := Ground.data }, { on := 5, ground := Ground.chain }, { on := 0, ground := Ground.phase }, { on := 1, ground := Ground.phase }, { on := 2, ground := Ground.phase }, { on := 3, ground := Ground.phase }, { on := 4, ground := Ground.textOnly Departure.lateStores }, { on := 5, ground := Ground.textOnly Departure.lateStoresUnsure }, { on := 6, ground := Ground.phase }], guard := none }) (v := ?_) rfl (by kernel_rfl) (by kernel_rfl) (by kernel_rfl) (fun _ _ _ h => h) (Or.inl ⟨by rfl, ?_⟩) (by assumption) ?_
      rotate_left
      ·intro w hSw; (try dsimp only at hSw); go_simp; try (with_reducible rfl)
      try simp only [Act.put, List.setIfInBounds_toArray, List.set_cons_zero, List.set_cons_succ]
      refine wpAnyH_ready (rs := [8]) (by kernel_rfl) (by simp) ?_
      refine AllReadyH.cons (o := dl8) rfl (fun K hK => ?_) ?_
      ·have y0 : Z3.cell? ⟨bN, 0, none⟩ = some _ := NB.cell 0
       have z0 := NB.frozen 0
       have y1 : Z3.cell? ⟨bN, 1, none⟩ = some _ := NB.cell 1
       have z1 := NB.frozen 1
       have y2 : Z3.cell? ⟨bN, 2, none⟩ = some _ := NB.cell 2
       have z2 := NB.frozen 2
       have y3 : Z3.cell? ⟨bN, 3, none⟩ = some _ := NB.cell 3
       have z3 := NB.frozen 3
       unfold dl8
       go_simp
       obtain ⟨hf, NB2⟩ := put4 NB (.bool x1) (.slice X2 n2 c2) (.bool x3) (.slice X4 n4 c4)
       have hqq := hf.ratB hqq
       have hE := hf.ext hE (fun b hb => by rw [hb]; exact hwN)
       clear hf y0 z0 y1 z1 y2 z2 y3 z3
       have NB := NB2
       clear NB2
       generalize ((((Z3.setCell ⟨bN, 0, none⟩ (.bool x1)).setCell ⟨bN, 1, none⟩ (.slice X2 n2 c2)).setCell ⟨bN, 2, none⟩ (.bool x3)).setCell ⟨bN, 3, none⟩ (.slice X4 n4 c4)) = Z4 at *
       have hLt : Later w5 Z4 := hE
       refine hK.out _ _ hLt (fun hHeld => ?_)
       clear hK K hLt
       try simp only [Act.put, List.setIfInBounds_toArray, List.set_cons_zero, List.set_cons_succ]
       refine wpAnyH_done (by kernel_rfl) ?_ _
       go_wp2_with fail
       go_meet
       exact ⟨bN, x1, X2, n2, c2, x3, X4, n4, c4, rfl, rfl, NB, hqq, hE⟩
      exact AllReadyH.nil
     exact AllReadyH.nil
    refine AllReadyH.cons (o := dl6) rfl (fun K hK => ?_) ?_
    ·unfold dl6
     go_simp
     have NB := Box.new Z1 46 #[.bool false, .slice none 0 0, .bool false, .slice none 0 0]
     have hx : Ext Z1 (Z1.alloc (.cells #[.bool false, .slice none 0 0, .bool false, .slice none 0 0] 46)) := (Ext.refl Z1).alloc _
     generalize (Z1.alloc (.cells #[.bool false, .slice none 0 0, .bool false, .slice none 0 0] 46)) = Z5 at *
     obtain ⟨bN, hbN⟩ : ∃ x, x = Z1.heap.size := ⟨_, rfl⟩
     rw [← hbN] at NB ⊢
     have hwN : w5.heap.size ≤ bN := by have := hE.size; omega
     clear hbN
     have hE := hE.trans hx
     clear hx
     have hLt : Later w5 Z5 := hE
     refine hK.out _ _ hLt (fun hHeld => ?_)
     clear hK K hLt
     try simp only [Act.put, List.setIfInBounds_toArray, List.set_cons_zero, List.set_cons_succ]
     refine wpAnyH_ready (rs := [5]) (by kernel_rfl) (by simp) ?_
     refine AllReadyH.cons (o := dl5) rfl (fun K hK => ?_) ?_
     ·unfold dl5
      go_simp
      go_at_call 9
      refine (number4_b z 2 _ hz (by omega)).mono ?_
      rintro e Z6 ⟨v9, rfl, hqq, hx⟩
      obtain ⟨x1, X2, n2, c2, x3, X4, n4, c4, rfl⟩ := hqq.1.shape
      have NB := NB.ext hx
      have hE := hE.trans hx
      clear hx
      have hLt : Later w5 Z6 := hE
      try (go_wp2_with fail)
      refine hK.out _ _ hLt (fun hHeld => ?_)
      clear hK K hLt
      try simp only [Act.put, List.setIfInBounds_toArray, List.set_cons_zero, List.set_cons_succ]
      refine wpAnyH_take (i := 7) (oi := { dst := some 12, op := Op.assign (Operand.tmp 45), type := 28, pos := "law.go:155", after := #[{ on := 3, ground := Ground.data }, { on := 5, ground := Ground.chain }, { on := 0, ground := Ground.phase }, { on := 1, ground := Ground.phase }, { on := 2, ground := Ground.phase }, { on := 3, ground := Ground.phase }, { on := 4, ground := Ground.textOnly Departure.lateStores }, { on := 5, ground := Ground.textOnly Departure.lateStoresUnsure }, { on := 6, ground := Ground.phase }], guard := none }) (v := ?_) rfl (by kernel_rfl) (by kernel_rfl) (by kernel_rfl) (fun _ _ _ h => h) (Or.inl ⟨by rfl, ?_⟩) (by assumption) ?_
      rotate_left
      ·intro w hSw; (try dsimp only at hSw); go_simp; try (with_reducible rfl)
      try simp only [Act.put, List.setIfInBounds_toArray, List.set_cons_zero, List.set_cons_succ]
      refine wpAnyH_ready (rs := [8]) (by kernel_rfl) (by simp) ?_
      refine AllReadyH.cons (o := dl8) rfl (fun K hK => ?_) ?_
      ·have y0 : Z6.cell? ⟨bN, 0, none⟩ = some _ := NB.cell 0
       have z0 := NB.frozen 0
       have y1 : Z6.cell? ⟨bN, 1, none⟩ = some _ := NB.cell 1
       have z1 := NB.frozen 1
       have y2 : Z6.cell? ⟨bN, 2, none⟩ = some _ := NB.cell 2
       have z2 := NB.frozen 2
       have y3 : Z6.cell? ⟨bN, 3, none⟩ = some _ := NB.cell 3
       have z3 := NB.frozen 3
       unfold dl8
       go_simp
       obtain ⟨hf, NB2⟩ := put4 NB (.bool x1) (.slice X2 n2 c2) (.bool x3) (.slice X4 n4 c4)
       have hqq := hf.ratB hqq
       have hE := hf.ext hE (fun b hb => by rw [hb]; exact hwN)
       clear hf y0 z0 y1 z1 y2 z2 y3 z3
       have NB := NB2
       clear NB2
       generalize ((((Z6.setCell ⟨bN, 0, none⟩ (.bool x1)).setCell ⟨bN, 1, none⟩ (.slice X2 n2 c2)).setCell ⟨bN, 2, none⟩ (.bool x3)).setCell ⟨bN, 3, none⟩ (.slice X4 n4 c4)) = Z7 at *
       have hLt : Later w5 Z7 := hE
       refine hK.out _ _ hLt (fun hHeld => ?_)
       clear hK K hLt
       try simp only [Act.put, List.setIfInBounds_toArray, List.set_cons_zero, List.set_cons_succ]
       refine wpAnyH_done (by kernel_rfl) ?_ _
       go_wp2_with fail
       go_meet
       exact ⟨bN, x1, X2, n2, c2, x3, X4, n4, c4, rfl, rfl, NB, hqq, hE⟩
      exact AllReadyH.nil
     exact AllReadyH.nil
    exact AllReadyH.nil
  case rest =>
  obtain ⟨lb, x1, X2, n2, c2, x3, X4, n4, c4, rfl, rfl, LB, hz6, hxc⟩ := hcut
  rename_i hK
  refine hK _ _ ?_
  clear hK
  have PB6 := PB5.ext hxc
  have hP6 := hP5.ext hxc
  have hE6 := hE5.trans hxc
  have hY6 := hY5.ext hxc
  clear PB5 hP5 hE5 TB5 hY5 hxc
  obtain ⟨a, ha⟩ : ∃ a, a = leafB p nx y (qn4 z 2) := ⟨_, rfl⟩
  obtain ⟨b, hb⟩ : ∃ b, b = empB p nx y := ⟨_, rfl⟩
  have HA := Lib.hid ha
  have HB := Lib.hid hb
  have hT : 1 + p.m * (2 + 2 + 2 + 1) ≤ 57 := by omega
  go_upto_region 8 with fail
  go_cut [14, 15] (fun v14 v15 wx => v14 = .bool a ∧ v15 = .bool b ∧ Ext wc wx)
  case first =>
    have HL : ∀ W, Ext wc W → Calls Tryd.prog 10 #[.agg #[.slice Ap p.n cp, .slice Aq p.m cq], .agg #[.bool x1, .slice X2 n2 c2, .bool x3, .slice X4 n4 c4], .slice Y nx c] W (ValPost W (.bool a)) := fun W hW => by
      rw [HA.out]
      exact Leaf_b _ p _ (qn4 z 2) Y nx c y 2 2 2 2 2 57 W (hP6.ext hW) (hz6.ext hW) (hY6.ext hW) HC.out HR.out HO.out HY.out hT (by decide) (by decide) (by decide) (by decide)
    have HM : ∀ W, Ext wc W → Calls Tryd.prog 11 #[.agg #[.slice Ap p.n cp, .slice Aq p.m cq], .slice Y nx c] W (ValPost W (.bool b)) := fun W hW => by
      rw [HB.out]
      exact Empty_b _ p Y nx c y 2 2 2 57 W (hP6.ext hW) (hY6.ext hW) HC.out HR.out HY.out hT (by decide) (by decide)
    have k0 : ∀ w', Later wc w' → w'.cell? ⟨pb, 0, none⟩ = some _ := fun w' h => (PB6.ext h).c0
    have k1 : ∀ w', Later wc w' → w'.cell? ⟨pb, 1, none⟩ = some _ := fun w' h => (PB6.ext h).c1
    have k2 : ∀ w', Later wc w' → w'.cell? ⟨lb, 0, none⟩ = some _ := fun w' h => (LB.ext h).c0
    have k3 : ∀ w', Later wc w' → w'.cell? ⟨lb, 1, none⟩ = some _ := fun w' h => (LB.ext h).c1
    have k4 : ∀ w', Later wc w' → w'.cell? ⟨lb, 2, none⟩ = some _ := fun w' h => (LB.ext h).c2
    have k5 : ∀ w', Later wc w' → w'.cell? ⟨lb, 3, none⟩ = some _ := fun w' h => (LB.ext h).c3
    have ks := Later.refl wc
    clear HA HB ha hb PB6 hP6 hE6 hY6 LB hz6
    go_region_held3 (fun w' => Later wc w') ((repeat (first | assumption | apply Later.drew | apply Later.drewN | apply Later.alloc | (refine Later.step ?_ (by assumption))))) (first
      | (go_at_call 10; (with_reducible refine (HL _ (by repeat (first | (with_reducible exact Ext.refl _) | (with_reducible apply Ext.drew) | (with_reducible apply Ext.drewN) | (with_reducible refine Ext.trans ?_ (by assumption))))).mono ?_); rintro e wk ⟨rfl, hxk⟩)
      | (go_at_call 11; (with_reducible refine (HM _ (by repeat (first | (with_reducible exact Ext.refl _) | (with_reducible apply Ext.drew) | (with_reducible apply Ext.drewN) | (with_reducible refine Ext.trans ?_ (by assumption))))).mono ?_); rintro e wk ⟨rfl, hxk⟩)
      )
    all_goals (
      have hL9 : Ext wc _ := (by assumption : Later wc _)
      go_wp2_with fail
      go_meet
      refine ⟨rfl, rfl, ?_⟩
      repeat (first | assumption | (with_reducible refine Ext.trans ?_ (by assumption)) | (with_reducible apply Ext.drew) | (with_reducible apply Ext.drewN)))
  case rest =>
  obtain ⟨rfl, rfl, hxd⟩ := hcut
  rename_i hK
  refine hK _ _ ?_
  clear hK ha hb
  have PB7 := PB6.ext hxd
  have hP7 := hP6.ext hxd
  have hE7 := hE6.trans hxd
  have hY7 := hY6.ext hxd
  have LB7 := LB.ext hxd
  have hz7 := hz6.ext hxd
  clear PB6 hP6 hE6 hY6 LB hz6 hxd
  have q0 := PB7.c0
  have q1 := PB7.c1
  go_wp2_with fail
  refine (Valid_b _ p _ hP7).mono ?_
  rintro e w9 ⟨rfl, hx9⟩
  have PB9 := PB7.ext hx9
  have hP9 := hP7.ext hx9
  have hE9 := hE7.trans hx9
  have hY9 := hY7.ext hx9
  have LB9 := LB7.ext hx9
  have hz9 := hz7.ext hx9
  clear PB7 hP7 hE7 hY7 LB7 hz7 hx9 q0 q1
  obtain ⟨G, hG⟩ : ∃ G, G = validB p := ⟨_, rfl⟩
  rw [← hG]
  have HG := Lib.hid hG
  clear hG
  cases G with
  | false =>
    obtain rfl : a = false := by rw [HA.out]; unfold leafB; rw [← HG.out]; rfl
    obtain rfl : b = false := by rw [HB.out]; unfold empB; rw [← HG.out]; rfl
    go_wp2_with fail
    go_ret
    exact ⟨rfl, hE9⟩
  | true =>
  have q1 := PB9.c1
  by_cases hnm : nx = p.m
  case neg =>
    have e1 : ((nx : Int) != (p.m : Int)) = true := by simp; omega
    have hcb : combB p nx y = false := by unfold combB; rw [show (nx == p.m) = false by simpa using hnm]; rfl
    obtain rfl : a = false := by rw [HA.out]; unfold leafB bndB; rw [hcb]; simp
    obtain rfl : b = false := by rw [HB.out]; unfold empB pntB; rw [hcb]; simp
    clear hnm hcb
    go_wp2_with fail
    go_ret
    exact ⟨rfl, hE9⟩
  case pos =>
  have e1 : ((nx : Int) != (p.m : Int)) = false := by simp [hnm]
  have HNM := Lib.hid hnm
  obtain ⟨S, hS⟩ : ∃ S, S = sgB p y p.m := ⟨_, rfl⟩
  obtain ⟨Z, hZ⟩ : ∃ Z, Z = qn4 z 2 := ⟨_, rfl⟩
  obtain ⟨r, hr⟩ : ∃ r, r = p.rhs y := ⟨_, rfl⟩
  rw [← hZ] at hz9 HA
  have hcb : combB p nx y = S := by unfold combB; rw [hnm, hS]; simp
  have HA2 : Hid (((S && decide (r ≤ Z)) && geB (p.left y) p.obj p.n) = a) := Lib.hid (by
    rw [HA.out]; unfold leafB bndB; rw [hcb, ← HG.out, ← hr]
    cases S <;> cases (decide (r ≤ Z)) <;> cases (geB (p.left y) p.obj p.n) <;> rfl)
  have HB2 : Hid (((S && decide (r < 0)) && nnB (p.left y) p.n) = b) := Lib.hid (by
    rw [HB.out]; unfold empB pntB; rw [hcb, ← HG.out, ← hr]
    cases S <;> cases (decide (r < 0)) <;> cases (nnB (p.left y) p.n) <;> rfl)
  have hcomb := fun W (hW : Ext w9 W) => combineL_b _ p Y nx c y 2 2 2 57 W (hP9.ext hW) HG.out.symm (hY9.ext hW) HNM.out HC.out HR.out HY.out hT (by decide) (by decide)
  clear hcb hnm hZ HA HB HF HY
  have q0 := PB9.c0
  go_upto_region 11 with fail
  clear e1
  go_wp2_with fail
  refine (hcomb w9 (Ext.refl w9)).mono ?_
  rintro e w10 ⟨Al, cl, u1, U2, m2, d2, u3, U4, m4, d4, rfl, hR10, hr10, hq10, hx10⟩
  rw [← hS, ← hr] at *
  clear hcomb q0 q1 hS hr
  go_upto_region 12 with fail
  have RB := Box.new w10 46 #[.bool u1, .slice U2 m2 d2, .bool u3, .slice U4 m4 d4]
  have hy : Ext w10 (w10.alloc (.cells #[.bool u1, .slice U2 m2 d2, .bool u3, .slice U4 m4 d4] 46)) := (Ext.refl w10).alloc _
  generalize (w10.alloc (.cells #[.bool u1, .slice U2 m2 d2, .bool u3, .slice U4 m4 d4] 46)) = V5 at *
  obtain ⟨qb, hqb⟩ : ∃ x, x = w10.heap.size := ⟨_, rfl⟩
  rw [← hqb] at RB ⊢
  clear hqb
  have hx11 := hx10.trans hy
  have PB10 := PB9.ext hx11
  have hP10 := hP9.ext hx11
  have hE10 := hE9.trans hx11
  have LB10 := LB9.ext hx11
  have hz10 := hz9.ext hx11
  have hr11 := hr10.ext hy
  have hL11 := (hR10.ext hy).rats
  have HQ := Lib.hid hq10
  clear PB9 hP9 hE9 LB9 hz9 hx11 hx10 hy hr10 hR10 hY9 hq10
  go_cut [19, 20] (fun v19 v20 wx => v19 = .bool (S && decide (r ≤ Z)) ∧ v20 = .bool (S && decide (r < 0)) ∧ Ext V5 wx)
  case first =>
    cases S with
    | false =>
      go_wp2_with fail
      go_meet
      exact ⟨rfl, rfl, Ext.refl _⟩
    | true =>
      have x0 := RB.c0
      have x1' := RB.c1
      have x2' := RB.c2
      have x3' := RB.c3
      have l0 := LB10.c0
      have l1 := LB10.c1
      have l2 := LB10.c2
      have l3 := LB10.c3
      go_wp2_with fail
      refine (RatCmp_b _ _ r Z 57 2 _ hr11 hz10 (by decide)).mono ?_
      rintro e w12 ⟨rfl, hx12⟩
      have RB2 := RB.ext hx12
      obtain ⟨g, hg⟩ : ∃ g, g = cmpQ r Z := ⟨_, rfl⟩
      rw [← hg]
      have HGE : Hid (decide (g ≤ 0) = decide (r ≤ Z)) := Lib.hid (by
        rw [hg]
        rcases cmpQ_cases r Z with ⟨h, h'⟩ | ⟨h, h'⟩ | ⟨h, h'⟩
        · rw [h', decide_eq_true (Rat.le_of_lt h)]; rfl
        · rw [h', h, decide_eq_true (Rat.le_refl)]; rfl
        · rw [h', decide_eq_false (Rat.not_le.2 h)]; rfl)
      clear hg x0 x1' x2' x3' l0 l1 l2 l3
      have x0 := RB2.c0
      have x1' := RB2.c1
      have x2' := RB2.c2
      have x3' := RB2.c3
      go_wp2_with fail
      refine (RatSign_b _ r 57 _ (hr11.ext hx12)).mono ?_
      rintro e w13 ⟨rfl, hx13⟩
      obtain ⟨g2, hg2⟩ : ∃ g, g = r.num.sign := ⟨_, rfl⟩
      rw [← hg2]
      have HGS : Hid (decide (g2 < 0) = decide (r < 0)) := Lib.hid (by
        rw [hg2]
        rcases sign_cases r.num with ⟨a, b⟩ | ⟨a, b⟩ | ⟨a, b⟩ <;> rw [b]
        · rw [decide_eq_true (num_neg.2 a)]; rfl
        · rw [Rat.num_eq_zero.1 a]; exact (show decide ((0 : Int) < 0) = false from rfl).trans (decide_eq_false Rat.lt_irrefl).symm
        · rw [decide_eq_false (Rat.not_lt.2 (Rat.le_of_lt (num_pos.2 a)))]; rfl)
      clear hg2
      go_wp2_with fail
      go_meet
      refine ⟨by rw [← HGE.out]; rfl, by rw [← HGS.out]; rfl, hx12.trans hx13⟩
  case rest =>
  obtain ⟨rfl, rfl, hxe⟩ := hcut
  rename_i hK
  refine hK _ _ ?_
  clear hK RB hr11 LB10 hz10
  have PB11 := PB10.ext hxe
  have hP11 := hP10.ext hxe
  have hE11 := hE10.trans hxe
  have hL12 := hL11.ext hxe
  have hob := hP11.objC
  clear PB10 hP10 hE10 hL11 hxe hP11
  have hcl := hL12.1
  have hco := hob.1
  go_wp2_with fail
  go_loopw [19, 20, 21] (fun v19 v20 i wr => ∃ k : Nat, k ≤ p.n ∧ i = .int .i64 k ∧ v19 = .bool ((S && decide (r ≤ Z)) && geB (p.left y) p.obj k) ∧ v20 = .bool ((S && decide (r < 0)) && nnB (p.left y) k) ∧ Ext wc wr) (fun _ _ i _ => p.n - (intOf i).toNat)
  case atStart => exact ⟨0, by omega, rfl, by simp [geB], by simp [nnB], Ext.refl _⟩
  case round =>
    obtain ⟨k, hk, rfl, hv19, hv20, hx⟩ := hrel
    by_cases hlt : k < p.n
    · have hGE : geB (p.left y) p.obj (k + 1) = (geB (p.left y) p.obj k && decide (p.obj k ≤ p.left y k)) := rfl
      have hNN : nnB (p.left y) (k + 1) = (nnB (p.left y) k && decide (0 ≤ p.left y k)) := rfl
      obtain ⟨L, hL⟩ : ∃ L, L = ((S && decide (r ≤ Z)) && geB (p.left y) p.obj k) := ⟨_, rfl⟩
      obtain ⟨E, hE⟩ : ∃ E, E = ((S && decide (r < 0)) && nnB (p.left y) k) := ⟨_, rfl⟩
      rw [← hL] at hv19
      rw [← hE] at hv20
      subst hv19 hv20
      have HLN : Hid (((S && decide (r ≤ Z)) && geB (p.left y) p.obj (k + 1)) = (L && decide (p.obj k ≤ p.left y k))) := Lib.hid (by rw [hGE, hL, Bool.and_assoc, Bool.and_assoc, Bool.and_assoc])
      have HEN : Hid (((S && decide (r < 0)) && nnB (p.left y) (k + 1)) = (E && decide (0 ≤ p.left y k))) := Lib.hid (by rw [hNN, hE, Bool.and_assoc, Bool.and_assoc, Bool.and_assoc])
      clear hL hE hGE hNN
      obtain ⟨bl, rfl, hRl⟩ := hL12.2.2 (by omega)
      obtain ⟨bo, rfl, hRo⟩ := hob.2.2 (by omega)
      have hRl := hRl.ext hx
      have hRo := hRo.ext hx
      obtain ⟨p1, A1, m1, c1, p1', A1', m1', c1', e0, e1, e2, e3, hrl⟩ := hRl.at hlt
      obtain ⟨p6, A6, m6, c6, p6', A6', m6', c6', o0, o1, o2, o3, hro⟩ := hRo.at hlt
      have hlB : RatB wr _ (p.left y k) 57 := ⟨hrl, HQ.out k hlt⟩
      have hoB : RatB wr _ (p.obj k) 2 := ⟨hro, HO.out k hlt⟩
      have PBr := PB11.ext hx
      have i1 : (0 : Int) ≤ (k : Int) := by omega
      have i2 : (k : Int) < (p.n : Int) := by omega
      obtain ⟨QL, hQL⟩ : ∃ q, q = p.left y k := ⟨_, rfl⟩
      obtain ⟨QO, hQO⟩ : ∃ q, q = p.obj k := ⟨_, rfl⟩
      rw [← hQL] at hlB hrl HLN HEN
      rw [← hQO] at hoB hro HLN
      clear hQL hQO
      go_upto_region 16 with fail
      go_cut [19] (fun v wx => v = .bool (L && decide (QO ≤ QL)) ∧ Ext wr wx)
      case first =>
        cases L with
        | false =>
          have ks := Later.refl wr
          refine wp_region_held_drew (S := fun w' => Later wr w') (by kernel_rfl) ?_ (fun hHeld => ?_)
          · (try dsimp only); (repeat (first | assumption | apply Later.drew | apply Later.drewN | apply Later.alloc | (refine Later.step ?_ (by assumption))))
          refine wpAnyH_take (i := 0) (oi := { dst := some 98, op := Op.move (Operand.tmp 19), type := 4, pos := "law.go:163", after := #[], guard := none }) (v := ?_) rfl (by kernel_rfl) (by kernel_rfl) (by kernel_rfl) (fun _ _ _ h => h) (Or.inl ⟨by rfl, ?_⟩) (by assumption) ?_
          rotate_left
          · intro w hSw; (try dsimp only at hSw); go_simp; try (with_reducible rfl)
          try simp only [Act.put, List.setIfInBounds_toArray, List.set_cons_zero, List.set_cons_succ]
          refine wpAnyH_take (i := 1) (oi := { dst := some 99, op := Op.move (Operand.tmp 98), type := 4, pos := "law.go:163", after := #[{ on := 0, ground := Ground.data }], guard := none }) (v := ?_) rfl (by kernel_rfl) (by kernel_rfl) (by kernel_rfl) (fun _ _ _ h => h) (Or.inl ⟨by rfl, ?_⟩) (by assumption) ?_
          rotate_left
          · intro w hSw; (try dsimp only at hSw); go_simp; try (with_reducible rfl)
          try simp only [Act.put, List.setIfInBounds_toArray, List.set_cons_zero, List.set_cons_succ]
          refine wpAnyH_take (i := 2) (oi := { dst := some 100, op := Op.move (Operand.tmp 16), type := 28, pos := "law.go:163", after := #[{ on := 1, ground := Ground.guard }], guard := some (1, true) }) (v := undef) rfl (by kernel_rfl) (by kernel_rfl) (by kernel_rfl) (fun _ _ _ h => h) (Or.inr ⟨by rfl, rfl⟩) (by assumption) ?_
          try simp only [Act.put, List.setIfInBounds_toArray, List.set_cons_zero, List.set_cons_succ]
          refine wpAnyH_take (i := 3) (oi := { dst := some 101, op := Op.move (Operand.tmp 21), type := 3, pos := "law.go:163", after := #[{ on := 1, ground := Ground.guard }], guard := some (1, true) }) (v := undef) rfl (by kernel_rfl) (by kernel_rfl) (by kernel_rfl) (fun _ _ _ h => h) (Or.inr ⟨by rfl, rfl⟩) (by assumption) ?_
          try simp only [Act.put, List.setIfInBounds_toArray, List.set_cons_zero, List.set_cons_succ]
          refine wpAnyH_take (i := 4) (oi := { dst := some 102, op := Op.indexAddr 28 (Operand.tmp 100) (Operand.tmp 101), type := 0, pos := "law.go:163", after := #[{ on := 2, ground := Ground.data }, { on := 3, ground := Ground.data }, { on := 1, ground := Ground.guard }], guard := some (1, true) }) (v := undef) rfl (by kernel_rfl) (by kernel_rfl) (by kernel_rfl) (fun _ _ _ h => h) (Or.inr ⟨by rfl, rfl⟩) (by assumption) ?_
          try simp only [Act.put, List.setIfInBounds_toArray, List.set_cons_zero, List.set_cons_succ]
          refine wpAnyH_take (i := 5) (oi := { dst := some 103, op := Op.load 46 (Operand.tmp 102), type := 46, pos := "law.go:163", after := #[{ on := 4, ground := Ground.data }, { on := 1, ground := Ground.guard }], guard := some (1, true) }) (v := undef) rfl (by kernel_rfl) (by kernel_rfl) (by kernel_rfl) (fun _ _ _ h => h) (Or.inr ⟨by rfl, rfl⟩) (by assumption) ?_
          try simp only [Act.put, List.setIfInBounds_toArray, List.set_cons_zero, List.set_cons_succ]
          refine wpAnyH_take (i := 6) (oi := { dst := some 104, op := Op.fieldAddr 31 (Operand.tmp 9) 0, type := 0, pos := "law.go:163", after := #[{ on := 1, ground := Ground.guard }], guard := some (1, true) }) (v := undef) rfl (by kernel_rfl) (by kernel_rfl) (by kernel_rfl) (fun _ _ _ h => h) (Or.inr ⟨by rfl, rfl⟩) (by assumption) ?_
          try simp only [Act.put, List.setIfInBounds_toArray, List.set_cons_zero, List.set_cons_succ]
          refine wpAnyH_take (i := 7) (oi := { dst := some 105, op := Op.load 28 (Operand.tmp 104), type := 28, pos := "law.go:163", after := #[{ on := 6, ground := Ground.data }, { on := 1, ground := Ground.guard }], guard := some (1, true) }) (v := undef) rfl (by kernel_rfl) (by kernel_rfl) (by kernel_rfl) (fun _ _ _ h => h) (Or.inr ⟨by rfl, rfl⟩) (by assumption) ?_
          try simp only [Act.put, List.setIfInBounds_toArray, List.set_cons_zero, List.set_cons_succ]
          refine wpAnyH_take (i := 8) (oi := { dst := some 106, op := Op.move (Operand.tmp 21), type := 3, pos := "law.go:163", after := #[{ on := 1, ground := Ground.guard }], guard := some (1, true) }) (v := undef) rfl (by kernel_rfl) (by kernel_rfl) (by kernel_rfl) (fun _ _ _ h => h) (Or.inr ⟨by rfl, rfl⟩) (by assumption) ?_
          try simp only [Act.put, List.setIfInBounds_toArray, List.set_cons_zero, List.set_cons_succ]
          refine wpAnyH_take (i := 9) (oi := { dst := some 107, op := Op.indexAddr 28 (Operand.tmp 105) (Operand.tmp 106), type := 0, pos := "law.go:163", after := #[{ on := 7, ground := Ground.data }, { on := 8, ground := Ground.data }, { on := 1, ground := Ground.guard }], guard := some (1, true) }) (v := undef) rfl (by kernel_rfl) (by kernel_rfl) (by kernel_rfl) (fun _ _ _ h => h) (Or.inr ⟨by rfl, rfl⟩) (by assumption) ?_
          try simp only [Act.put, List.setIfInBounds_toArray, List.set_cons_zero, List.set_cons_succ]
          refine wpAnyH_take (i := 10) (oi := { dst := some 108, op := Op.load 46 (Operand.tmp 107), type := 46, pos := "law.go:163", after := #[{ on := 9, ground := Ground.data }, { on := 1, ground := Ground.guard }], guard := some (1, true) }) (v := undef) rfl (by kernel_rfl) (by kernel_rfl) (by kernel_rfl) (fun _ _ _ h => h) (Or.inr ⟨by rfl, rfl⟩) (by assumption) ?_
          try simp only [Act.put, List.setIfInBounds_toArray, List.set_cons_zero, List.set_cons_succ]
          refine wpAnyH_take (i := 11) (oi := { dst := some 109, op := Op.call { callee := Callee.value (Operand.func 14), args := #[Operand.tmp 103, Operand.tmp 108], argTypes := #[46, 46] }, type := 3, pos := "law.go:163", after := #[{ on := 5, ground := Ground.data }, { on := 10, ground := Ground.data }, { on := 1, ground := Ground.chain }, { on := 1, ground := Ground.guard }], guard := some (1, true) }) (v := undef) rfl (by kernel_rfl) (by kernel_rfl) (by kernel_rfl) (fun _ _ _ h => h) (Or.inr ⟨by rfl, rfl⟩) (by assumption) ?_
          try simp only [Act.put, List.setIfInBounds_toArray, List.set_cons_zero, List.set_cons_succ]
          refine wpAnyH_take (i := 12) (oi := { dst := some 110, op := Op.binOp BinOp.geq 3 (Operand.tmp 109) (Operand.const (Value.int IntKind.i64 0)) 3, type := 4, pos := "law.go:163", after := #[{ on := 11, ground := Ground.data }, { on := 1, ground := Ground.guard }], guard := some (1, true) }) (v := undef) rfl (by kernel_rfl) (by kernel_rfl) (by kernel_rfl) (fun _ _ _ h => h) (Or.inr ⟨by rfl, rfl⟩) (by assumption) ?_
          try simp only [Act.put, List.setIfInBounds_toArray, List.set_cons_zero, List.set_cons_succ]
          refine wpAnyH_take (i := 13) (oi := { dst := some 111, op := Op.pick (Operand.tmp 99) (Operand.tmp 110) (Operand.const (Value.bool false)), type := 4, pos := "law.go:163", after := #[{ on := 1, ground := Ground.data }, { on := 12, ground := Ground.data }], guard := none }) (v := ?_) rfl (by kernel_rfl) (by kernel_rfl) (by kernel_rfl) (fun _ _ _ h => h) (Or.inl ⟨by rfl, ?_⟩) (by assumption) ?_
          rotate_left
          · intro w hSw; (try dsimp only at hSw); go_simp; try (with_reducible rfl)
          try simp only [Act.put, List.setIfInBounds_toArray, List.set_cons_zero, List.set_cons_succ]
          refine wpAnyH_take (i := 14) (oi := { dst := some 19, op := Op.assign (Operand.tmp 111), type := 4, pos := "law.go:163", after := #[{ on := 13, ground := Ground.data }, { on := 11, ground := Ground.chain }, { on := 0, ground := Ground.phase }, { on := 1, ground := Ground.phase }, { on := 2, ground := Ground.phase }, { on := 3, ground := Ground.phase }, { on := 4, ground := Ground.phase }, { on := 5, ground := Ground.phase }, { on := 6, ground := Ground.phase }, { on := 7, ground := Ground.phase }, { on := 8, ground := Ground.phase }, { on := 9, ground := Ground.phase }, { on := 10, ground := Ground.phase }, { on := 11, ground := Ground.phase }, { on := 12, ground := Ground.phase }, { on := 13, ground := Ground.phase }], guard := none }) (v := ?_) rfl (by kernel_rfl) (by kernel_rfl) (by kernel_rfl) (fun _ _ _ h => h) (Or.inl ⟨by rfl, ?_⟩) (by assumption) ?_
          rotate_left
          · intro w hSw; (try dsimp only at hSw); go_simp; try (with_reducible rfl)
          try simp only [Act.put, List.setIfInBounds_toArray, List.set_cons_zero, List.set_cons_succ]
          refine wpAnyH_done (by kernel_rfl) ?_ _
          go_wp2_with fail
          go_meet
          exact ⟨rfl, by first | exact Ext.refl _ | (repeat (first | assumption | (with_reducible refine Ext.trans ?_ (by assumption)) | (with_reducible apply Ext.drew) | (with_reducible apply Ext.drewN)))⟩
        | true =>
          have kp : ∀ w', Later wr w' → w'.cell? ⟨pb, 0, none⟩ = some (.slice (some ⟨bo, 0, none⟩) p.n cp) := fun w' h => (PBr.ext h).c0
          have kl0 : ∀ w', Later wr w' → w'.cell? ⟨bl, k * 4, none⟩ = some _ := fun w' h => Ext.cell h e0
          have kl1 : ∀ w', Later wr w' → w'.cell? ⟨bl, k * 4 + 1, none⟩ = some _ := fun w' h => Ext.cell h e1
          have kl2 : ∀ w', Later wr w' → w'.cell? ⟨bl, k * 4 + 2, none⟩ = some _ := fun w' h => Ext.cell h e2
          have kl3 : ∀ w', Later wr w' → w'.cell? ⟨bl, k * 4 + 3, none⟩ = some _ := fun w' h => Ext.cell h e3
          have ko0 : ∀ w', Later wr w' → w'.cell? ⟨bo, k * 4, none⟩ = some _ := fun w' h => Ext.cell h o0
          have ko1 : ∀ w', Later wr w' → w'.cell? ⟨bo, k * 4 + 1, none⟩ = some _ := fun w' h => Ext.cell h o1
          have ko2 : ∀ w', Later wr w' → w'.cell? ⟨bo, k * 4 + 2, none⟩ = some _ := fun w' h => Ext.cell h o2
          have ko3 : ∀ w', Later wr w' → w'.cell? ⟨bo, k * 4 + 3, none⟩ = some _ := fun w' h => Ext.cell h o3
          have ks := Later.refl wr
          have HGE : Hid (decide (0 ≤ cmpQ QL QO) = decide (QO ≤ QL)) := Lib.hid (by
            rcases cmpQ_cases QL QO with ⟨h, h'⟩ | ⟨h, h'⟩ | ⟨h, h'⟩
            · rw [h', decide_eq_false (Rat.not_le.2 h)]; rfl
            · rw [h', h, decide_eq_true (Rat.le_refl)]; rfl
            · rw [h', decide_eq_true (Rat.le_of_lt h)]; rfl)
          obtain ⟨g, hg⟩ : ∃ g, g = cmpQ QL QO := ⟨_, rfl⟩
          rw [← hg] at HGE
          have HG1 := Lib.hid hg
          clear hg e0 e1 e2 e3 o0 o1 o2 o3
          go_region_held3 (fun w' => Later wr w') ((repeat (first | assumption | apply Later.drew | apply Later.drewN | apply Later.alloc | (refine Later.step ?_ (by assumption))))) (first
            | (go_at_call 14; (with_reducible refine (RatCmp_b _ _ QL QO 57 2 _ (RatB.ext hlB (by repeat (first | (with_reducible exact Ext.refl _) | (with_reducible apply Ext.drew) | (with_reducible apply Ext.drewN) | (with_reducible refine Ext.trans ?_ (by assumption))))) (RatB.ext hoB (by repeat (first | (with_reducible exact Ext.refl _) | (with_reducible apply Ext.drew) | (with_reducible apply Ext.drewN) | (with_reducible refine Ext.trans ?_ (by assumption))))) (by decide)).mono ?_); rintro e wk ⟨rfl, hxk⟩; (rw [← HG1.out]))
            )
          all_goals (
            go_wp2_with fail
            go_meet
            refine ⟨by rw [← HGE.out]; rfl, ?_⟩
            repeat (first | assumption | (with_reducible refine Ext.trans ?_ (by assumption)) | (with_reducible apply Ext.drew) | (with_reducible apply Ext.drewN)))
      case rest =>
      obtain ⟨rfl, hxf⟩ := hcut
      rename_i hK
      refine hK _ _ ?_
      clear hK
      have e0 := hxf.cell e0
      have e1 := hxf.cell e1
      have e2 := hxf.cell e2
      have e3 := hxf.cell e3
      have hlB := hlB.ext hxf
      have hx2 := hx.trans hxf
      cases E with
      | false =>
        have HN : Hid (Value.bool false = .bool ((S && decide (r < 0)) && nnB (p.left y) (k + 1))) := Lib.hid (by rw [HEN.out]; rfl)
        have HM : Hid (Value.bool (L && decide (QO ≤ QL)) = .bool ((S && decide (r ≤ Z)) && geB (p.left y) p.obj (k + 1))) := Lib.hid (by rw [HLN.out])
        clear HEN HLN
        go_wp2_with fail
        go_roundw
        case rel => exact ⟨k + 1, by omega, by go_num, HM.out, HN.out, hx2⟩
        case measure => simp [intOf]; omega
      | true =>
        have HM : Hid (Value.bool (L && decide (QO ≤ QL)) = .bool ((S && decide (r ≤ Z)) && geB (p.left y) p.obj (k + 1))) := Lib.hid (by rw [HLN.out])
        clear HLN
        go_wp2_with fail
        refine (RatSign_b _ QL 57 _ hlB).mono ?_
        rintro e w14 ⟨rfl, hx14⟩
        obtain ⟨g2, hg2⟩ : ∃ g, g = QL.num.sign := ⟨_, rfl⟩
        rw [← hg2]
        have HN : Hid (Value.bool (decide (0 ≤ g2)) = .bool ((S && decide (r < 0)) && nnB (p.left y) (k + 1))) := Lib.hid (by
          rw [HEN.out, hg2, Bool.true_and]
          congr 1
          rcases sign_cases QL.num with ⟨a, b⟩ | ⟨a, b⟩ | ⟨a, b⟩ <;> rw [b]
          · rw [decide_eq_false (Rat.not_le.2 (num_neg.2 a))]; rfl
          · rw [Rat.num_eq_zero.1 a]; exact (show decide ((0 : Int) ≤ 0) = true from rfl).trans (decide_eq_true Rat.le_refl).symm
          · rw [decide_eq_true (Rat.le_of_lt (num_pos.2 a))]; rfl)
        clear hg2 HEN
        go_wp2_with fail
        go_roundw
        case rel => exact ⟨k + 1, by omega, by go_num, HM.out, HN.out, hx2.trans hx14⟩
        case measure => simp [intOf]; omega
    · obtain rfl : k = p.n := by omega
      rw [HA2.out] at hv19
      rw [HB2.out] at hv20
      subst hv19 hv20
      clear HA2 HB2
      have hEF := hE11.trans hx
      cases a <;> cases b
      all_goals (
        go_wp2_with fail
        go_ret
        exact ⟨rfl, hEF⟩)
end Go.Proofs.YtljncdcjkdgkeaaDoor.Lp

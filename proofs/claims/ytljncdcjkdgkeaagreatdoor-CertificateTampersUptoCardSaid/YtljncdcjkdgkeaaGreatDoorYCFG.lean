/- Walk: fits of any well-formed tree. -/
import Derived.Test.YtljncdcjkdgkeaaGreatDoorYCMF
set_option linter.unusedVariables false
set_option linter.unusedSimpArgs false
namespace Go.Proofs.YtljncdcjkdgkeaaGreatDoor.Lp
open Go.RowKit Go.Proofs.YtljncdcjkdgkeaaGreatDoor.Big Go.Proofs.YtljncdcjkdgkeaaGreatDoor.Rt
def ftK (hb pb fb : Nat) : Value := .func (.func 76) #[] #[.pointer (some ⟨hb, 0, none⟩), .pointer (some ⟨pb, 0, none⟩), .pointer (some ⟨fb, 0, none⟩)]
def q99 (mb : Nat) (S : List (Nat × Int)) (r : Bool) (b h : Nat) (w : World) (e : Ending) (w' : World) : Prop :=
 e = .returned (.bool r) ∧ (∃ N, QMap w' mb (S ++ N) ∧ ∀ p ∈ N, b ≤ p.1 ∧ p.1 < h ∧ qes w' p.1) ∧ Fr (PM mb) w w'
theorem ft_stop (mb k b h : Nat) (z : Int) (S : List (Nat × Int)) (w w' w'' : World) (r : Bool) (hF : Fr (PM mb) w w') (hx : Ext w' w'') (hM : QMap w' mb (S ++ [(k, z)])) (hk : b ≤ k) (hkh : k < h) (hkB : qes w' k) : q99 mb S r b h w (.returned (.bool r)) w'' :=
 ⟨rfl, ⟨[(k, z)], hM.ext hx, fun p hp => by obtain rfl := List.mem_singleton.1 hp; exact ⟨hk, hkh, hkB.ext hx⟩⟩, hF.trans (Fr.of hx)⟩
set_option maxHeartbeats 2000000 in
set_option maxRecDepth 100000 in
theorem visit_lf (mb hb pb fb k b h lev : Nat) (w : World) (S : List (Nat × Int)) (fl : Int) (em : Bool) (L H Y : Option Addr) (n c : Nat) (Ao Ar : Option Addr) (no co m cr : Nat)
 (NB : Box w k 79 (q89 (-1) fl L H em Y n c)) (HB : Box w hb 140 #[.map (some mb)]) (FB : Box w fb 141 #[ftK hb pb fb]) (PB : Box w pb 41 #[.slice Ao no co, .slice Ar m cr]) (hM : QMap w mb S) (hS : ∀ p ∈ S, p.1 < k ∧ qes w p.1) (hk : b ≤ k) (hkh : k < h) (hl : lev ≤ 1000) (hm : m ≤ 9000000000000000000) :
 Calls Tryz.prog 76 #[.pointer (some ⟨k, 0, none⟩), .int .i64 (lev : Int), .pointer (some ⟨hb, 0, none⟩), .pointer (some ⟨pb, 0, none⟩), .pointer (some ⟨fb, 0, none⟩)] w (q99 mb S (decide (n = m + lev)) b h w) := by
 obtain ⟨vr, hvr⟩ : ∃ v : Int, v = -1 := ⟨_, rfl⟩
 rw [← hvr] at NB
 obtain ⟨W, hW⟩ : ∃ x, x = w.alloc (.cells #[.pointer (some ⟨k, 0, none⟩), .int .i64 (lev : Int)] 143) := ⟨_, rfl⟩
 have hE : Ext w W := by rw [hW]; exact (Ext.refl w).alloc _
 have XB : Box W w.heap.size 143 #[.pointer (some ⟨k, 0, none⟩), .int .i64 (lev : Int)] := by rw [hW]; exact Box.new _ _ _
 have hkB : qes w k := ⟨_, _, NB⟩
 have hMW := hM.ext hE
 have hSW : ∀ p ∈ S, qes W p.1 ∧ p.1 ≠ k := fun p hp => ⟨(hS p hp).2.ext hE, by have := (hS p hp).1; omega⟩
 have hl1 := qw5 hMW k (lev : Int) (hkB.ext hE) hSW
 obtain ⟨w1, hu1, hM1, hm1⟩ := qb4 hMW k (lev : Int) (hkB.ext hE) hSW (.bool true)
 have hhb : hb ≠ mb := hM.nobox HB
 have hfb : fb ≠ mb := hM.nobox FB
 have hnb : k ≠ mb := hM.nobox NB
 have hpb : pb ≠ mb := hM.nobox PB
 have HB1 := hm1.box (HB.ext hE)
 have FB1 := hm1.box (FB.ext hE)
 have NB1 := hm1.box (NB.ext hE)
 have PB1 := hm1.box (PB.ext hE)
 have hF1 : Fr (PM mb) w w1 := (Fr.of hE).trans (qp1.frC hm1 rfl)
 have hkB1 := hm1.cells (hkB.ext hE)
 have HSS : Hid (∀ p ∈ S, p.1 < k ∧ qes w p.1) := Lib.hid hS
 have s0 := (HB.ext hE).c0
 have x0 := XB.c0
 have x1 := XB.c1
 have t0 : w1.cell? ⟨k, 0, none⟩ = some (.int .i64 vr) := NB1.cell 0
 subst hvr
 have t5 : w1.cell? ⟨k, 5, none⟩ = some (.slice Y n c) := NB1.cell 5
 have p1 := PB1.c1
 have r1 : IntKind.i64.wrap ((m : Int) + (lev : Int)) = (m : Int) + (lev : Int) := IntWalk.i64_in _ (by omega)
 have hend : ∀ w'', Ext w1 w'' → q99 mb S (decide (n = m + lev)) b h w (.returned (.bool ((n : Int) == (m : Int) + (lev : Int)))) w'' := fun w'' hx => by
  rw [show ((n : Int) == (m : Int) + (lev : Int)) = decide (n = m + lev) by rw [Bool.eq_iff_iff]; simp; omega]
  exact ft_stop mb k b h lev S w w1 w'' _ hF1 hx hM1 hk hkh hkB1
 have HEND := Lib.hid hend
 clear hm1 hS hSW hend
 go_enter Tryz.func76, Tryz.ntmps76
 go_upto_region 2 with fail
 simp only [← hW]
 clear hW
 go_upto_region 6 with fail
 go_quiet (fail)
 go_wp2_with fail
 go_ret
 exact HEND.out _ (by repeat (first | exact Ext.refl _ | apply Ext.drewN | apply Ext.drew))
set_option maxHeartbeats 16000000 in
set_option maxRecDepth 100000 in
theorem visit_in (mb hb pb fb k b h lev m1 m2 : Nat) (w : World) (S : List (Nat × Int)) (vr fl : Int) (ra rb : Bool) (em : Bool) (L H Y : Option Addr) (n c : Nat) (Ao Ar : Option Addr) (no co m cr : Nat) (hv : 0 ≤ vr)
 (NB : Box w k 79 (q89 vr fl L H em Y n c)) (HB : Box w hb 140 #[.map (some mb)]) (FB : Box w fb 141 #[ftK hb pb fb]) (PB : Box w pb 41 #[.slice Ao no co, .slice Ar m cr]) (hM : QMap w mb S) (hS : ∀ p ∈ S, p.1 < k ∧ qes w p.1) (hk : b ≤ k) (hk1 : k < m1) (hm12 : m1 ≤ m2) (hm2h : m2 ≤ h) (hl : lev ≤ 1000)
 (H1 : ∀ W, QMap W mb (S ++ [(k, (lev : Int))]) → Fr (PM mb) w W → Calls Tryz.prog 76 #[.pointer L, .int .i64 ((lev : Int) + 1), .pointer (some ⟨hb, 0, none⟩), .pointer (some ⟨pb, 0, none⟩), .pointer (some ⟨fb, 0, none⟩)] W (q99 mb (S ++ [(k, (lev : Int))]) ra m1 m2 W))
 (H2 : ∀ W N, QMap W mb (S ++ [(k, (lev : Int))] ++ N) → (∀ p ∈ N, m1 ≤ p.1 ∧ p.1 < m2 ∧ qes W p.1) → Fr (PM mb) w W → Calls Tryz.prog 76 #[.pointer H, .int .i64 ((lev : Int) + 1), .pointer (some ⟨hb, 0, none⟩), .pointer (some ⟨pb, 0, none⟩), .pointer (some ⟨fb, 0, none⟩)] W (q99 mb (S ++ [(k, (lev : Int))] ++ N) rb m2 h W)) :
 Calls Tryz.prog 76 #[.pointer (some ⟨k, 0, none⟩), .int .i64 (lev : Int), .pointer (some ⟨hb, 0, none⟩), .pointer (some ⟨pb, 0, none⟩), .pointer (some ⟨fb, 0, none⟩)] w (q99 mb S (decide (vr < (no : Int)) && (ra && rb)) b h w) := by
 obtain ⟨Z, hZ⟩ : ∃ Z, Z = (decide (vr < (no : Int)) && (ra && rb)) := ⟨_, rfl⟩
 rw [← hZ]
 have HZ := Lib.hid hZ
 clear hZ
 obtain ⟨W, hW⟩ : ∃ x, x = w.alloc (.cells #[.pointer (some ⟨k, 0, none⟩), .int .i64 (lev : Int)] 143) := ⟨_, rfl⟩
 have hE : Ext w W := by rw [hW]; exact (Ext.refl w).alloc _
 have XB : Box W w.heap.size 143 #[.pointer (some ⟨k, 0, none⟩), .int .i64 (lev : Int)] := by rw [hW]; exact Box.new _ _ _
 have hkB : qes w k := ⟨_, _, NB⟩
 have hMW := hM.ext hE
 have hSW : ∀ p ∈ S, qes W p.1 ∧ p.1 ≠ k := fun p hp => ⟨(hS p hp).2.ext hE, by have := (hS p hp).1; omega⟩
 have hl1 := qw5 hMW k (lev : Int) (hkB.ext hE) hSW
 obtain ⟨w1, hu1, hM1, hm1⟩ := qb4 hMW k (lev : Int) (hkB.ext hE) hSW (.bool true)
 have hhb : hb ≠ mb := hM.nobox HB
 have hfb : fb ≠ mb := hM.nobox FB
 have hnb : k ≠ mb := hM.nobox NB
 have hpb : pb ≠ mb := hM.nobox PB
 have HB1 := hm1.box (HB.ext hE)
 have FB1 := hm1.box (FB.ext hE)
 have NB1 := hm1.box (NB.ext hE)
 have PB1 := hm1.box (PB.ext hE)
 have hF1 : Fr (PM mb) w w1 := (Fr.of hE).trans (qp1.frC hm1 rfl)
 have hkB1 := hm1.cells (hkB.ext hE)
 have HSS : Hid (∀ p ∈ S, p.1 < k ∧ qes w p.1) := Lib.hid hS
 have s0 := (HB.ext hE).c0
 have x0 := XB.c0
 have x1 := XB.c1
 have t0 : w1.cell? ⟨k, 0, none⟩ = some (.int .i64 vr) := NB1.cell 0
 have HH1 := Lib.hid H1
 have HH2 := Lib.hid H2
 have e3 : (vr == -1) = false := by simp; omega
 have r1 : IntKind.i64.wrap ((lev : Int) + 1) = (lev : Int) + 1 := IntWalk.i64_in _ (by omega)
 have HEND : Hid (∀ w' (N : List (Nat × Int)), Fr (PM mb) w1 w' → QMap w' mb (S ++ [(k, (lev : Int))] ++ N) → (∀ p ∈ N, m1 ≤ p.1 ∧ p.1 < h ∧ qes w' p.1) → q99 mb S Z b h w (.returned (.bool Z)) w') := Lib.hid (fun w' N hF hQ hN => ⟨rfl, ⟨(k, (lev : Int)) :: N, by simpa [List.append_assoc] using hQ, fun p hp => by
  rcases List.mem_cons.1 hp with q | q
  ·rw [q]; exact ⟨hk, by show k < h; omega, Fr.cellsC hF hkB1 (fun e => absurd e hnb)⟩
  ·have := hN p q
   exact ⟨by omega, by omega, this.2.2⟩⟩, hF1.trans hF⟩)
 clear hm1 hS hSW H1 H2
 go_enter Tryz.func76, Tryz.ntmps76
 go_upto_region 2 with fail
 simp only [← hW]
 clear hW
 go_upto_region 7 with fail
 clear hl1 hu1 t0 e3 s0 x0 x1
 have k0 : ∀ w', Fr (PM mb) w1 w' → w'.cell? ⟨fb, 0, none⟩ = some (.func (.func 76) #[] #[.pointer (some ⟨hb, 0, none⟩), .pointer (some ⟨pb, 0, none⟩), .pointer (some ⟨fb, 0, none⟩)]) := fun w' h => (h.box FB1 hfb).c0
 have k1 : ∀ w', Fr (PM mb) w1 w' → w'.cell? ⟨k, 0, none⟩ = some (.int .i64 vr) := fun w' h => (h.box NB1 hnb).cell 0
 have k2 : ∀ w', Fr (PM mb) w1 w' → w'.cell? ⟨k, 2, none⟩ = some (.pointer L) := fun w' h => (h.box NB1 hnb).cell 2
 have k3 : ∀ w', Fr (PM mb) w1 w' → w'.cell? ⟨k, 3, none⟩ = some (.pointer H) := fun w' h => (h.box NB1 hnb).cell 3
 have k4 : ∀ w', Fr (PM mb) w1 w' → w'.cell? ⟨pb, 0, none⟩ = some (.slice Ao no co) := fun w' h => (h.box PB1 hpb).c0
 have ks := Fr.refl (PM mb) w1
 obtain ⟨V, hVV⟩ : ∃ V, V = decide (vr < (no : Int)) := ⟨_, rfl⟩
 have HV := Lib.hid hVV
 rw [← hVV] at HZ
 cases V with
 | false =>
   have hvn : ¬ vr < (no : Int) := of_decide_eq_false hVV.symm
   obtain rfl : Z = false := by rw [HZ.out]; rfl
   clear hVV HV HZ
   refine wp_region_held_drew (S := fun w' => Fr (PM mb) w1 w') (by kernel_rfl) ?_ (fun hHeld => ?_)
   ·(try dsimp only); (repeat (first | (with_reducible assumption) | (with_reducible apply Fr.drew) | (with_reducible apply Fr.drewN) | (with_reducible refine Fr.trans ?_ (by with_reducible assumption))))
   refine wpAnyH_take (i := 0) (oi := { dst := some 33, op := Op.move (Operand.tmp 0), type := 25, pos := "certificate.go:140", after := #[], guard := none }) (v := ?_) rfl (by kernel_rfl) (by kernel_rfl) (by kernel_rfl) (fun _ _ _ h => h) (Or.inl ⟨by rfl, ?_⟩) (by assumption) ?_
   rotate_left
   ·intro w hSw; (try dsimp only at hSw); go_simp; try (with_reducible rfl)
   try simp only [Act.put, sqa, sqb, sqc]
   refine wpAnyH_take (i := 1) (oi := { dst := some 34, op := Op.nilCheck (Operand.tmp 33), type := 0, pos := "certificate.go:140", after := #[{ on := 0, ground := Ground.data }], guard := none }) (v := ?_) rfl (by kernel_rfl) (by kernel_rfl) (by kernel_rfl) (fun _ _ _ h => h) (Or.inl ⟨by rfl, ?_⟩) (by assumption) ?_
   rotate_left
   ·intro w hSw; (try dsimp only at hSw); go_simp; try (with_reducible rfl)
   try simp only [Act.put, sqa, sqb, sqc]
   refine wpAnyH_take (i := 2) (oi := { dst := some 35, op := Op.fieldAddr 79 (Operand.tmp 34) 0, type := 0, pos := "certificate.go:140", after := #[{ on := 1, ground := Ground.data }], guard := none }) (v := ?_) rfl (by kernel_rfl) (by kernel_rfl) (by kernel_rfl) (fun _ _ _ h => h) (Or.inl ⟨by rfl, ?_⟩) (by assumption) ?_
   rotate_left
   ·intro w hSw; (try dsimp only at hSw); go_simp; try (with_reducible rfl)
   try simp only [Act.put, sqa, sqb, sqc]
   refine wpAnyH_take (i := 3) (oi := { dst := some 36, op := Op.load 3 (Operand.tmp 35), type := 3, pos := "certificate.go:140", after := #[{ on := 2, ground := Ground.data }], guard := none }) (v := ?_) rfl (by kernel_rfl) (by kernel_rfl) (by kernel_rfl) (fun _ _ _ h => h) (Or.inl ⟨by rfl, ?_⟩) (by assumption) ?_
   rotate_left
   ·intro w hSw; (try dsimp only at hSw); go_simp; try (with_reducible rfl)
   try simp only [Act.put, sqa, sqb, sqc]
   refine wpAnyH_take (i := 4) (oi := { dst := some 37, op := Op.fieldAddr 41 (Operand.tmp 3) 0, type := 0, pos := "certificate.go:140", after := #[], guard := none }) (v := ?_) rfl (by kernel_rfl) (by kernel_rfl) (by kernel_rfl) (fun _ _ _ h => h) (Or.inl ⟨by rfl, ?_⟩) (by assumption) ?_
   rotate_left
   ·intro w hSw; (try dsimp only at hSw); go_simp; try (with_reducible rfl)
   try simp only [Act.put, sqa, sqb, sqc]
   refine wpAnyH_take (i := 5) (oi := { dst := some 38, op := Op.load 38 (Operand.tmp 37), type := 38, pos := "certificate.go:140", after := #[{ on := 4, ground := Ground.data }], guard := none }) (v := ?_) rfl (by kernel_rfl) (by kernel_rfl) (by kernel_rfl) (fun _ _ _ h => h) (Or.inl ⟨by rfl, ?_⟩) (by assumption) ?_
   rotate_left
   ·intro w hSw; (try dsimp only at hSw); go_simp; try (with_reducible rfl)
   try simp only [Act.put, sqa, sqb, sqc]
   refine wpAnyH_take (i := 6) (oi := { dst := some 39, op := Op.call { callee := Callee.builtin Builtin.len, args := #[Operand.tmp 38], argTypes := #[38] }, type := 3, pos := "certificate.go:140", after := #[{ on := 5, ground := Ground.data }], guard := none }) (v := ?_) rfl (by kernel_rfl) (by kernel_rfl) (by kernel_rfl) (fun _ _ _ h => h) (Or.inl ⟨by rfl, ?_⟩) (by assumption) ?_
   rotate_left
   ·intro w hSw; (try dsimp only at hSw); go_simp; try (with_reducible rfl)
   try simp only [Act.put, sqa, sqb, sqc]
   refine wpAnyH_take (i := 7) (oi := { dst := some 40, op := Op.binOp BinOp.lss 3 (Operand.tmp 36) (Operand.tmp 39) 3, type := 4, pos := "certificate.go:140", after := #[{ on := 3, ground := Ground.data }, { on := 6, ground := Ground.data }], guard := none }) (v := ?_) rfl (by kernel_rfl) (by kernel_rfl) (by kernel_rfl) (fun _ _ _ h => h) (Or.inl ⟨by rfl, ?_⟩) (by assumption) ?_
   rotate_left
   ·intro w hSw; (try dsimp only at hSw); go_simp; try (with_reducible rfl)
   try simp only [Act.put, sqa, sqb, sqc]
   refine wpAnyH_take (i := 8) (oi := { dst := some 41, op := Op.move (Operand.tmp 40), type := 4, pos := "certificate.go:140", after := #[{ on := 7, ground := Ground.data }], guard := none }) (v := ?_) rfl (by kernel_rfl) (by kernel_rfl) (by kernel_rfl) (fun _ _ _ h => h) (Or.inl ⟨by rfl, ?_⟩) (by assumption) ?_
   rotate_left
   ·intro w hSw; (try dsimp only at hSw); go_simp; try (with_reducible rfl)
   try simp only [Act.put, sqa, sqb, sqc]
   refine wpAnyH_take (i := 9) (oi := { dst := some 42, op := Op.load 141 (Operand.tmp 4), type := 141, pos := "certificate.go:140", after := #[{ on := 8, ground := Ground.guard }], guard := some (8, true) }) (v := undef) rfl (by kernel_rfl) (by kernel_rfl) (by kernel_rfl) (fun _ _ _ h => h) (Or.inr ⟨by rfl, rfl⟩) (by assumption) ?_
   try simp only [Act.put, sqa, sqb, sqc]
   refine wpAnyH_take (i := 10) (oi := { dst := some 43, op := Op.move (Operand.tmp 0), type := 25, pos := "certificate.go:140", after := #[{ on := 8, ground := Ground.guard }], guard := some (8, true) }) (v := undef) rfl (by kernel_rfl) (by kernel_rfl) (by kernel_rfl) (fun _ _ _ h => h) (Or.inr ⟨by rfl, rfl⟩) (by assumption) ?_
   try simp only [Act.put, sqa, sqb, sqc]
   refine wpAnyH_take (i := 11) (oi := { dst := some 44, op := Op.nilCheck (Operand.tmp 43), type := 0, pos := "certificate.go:140", after := #[{ on := 10, ground := Ground.data }, { on := 8, ground := Ground.guard }], guard := some (8, true) }) (v := undef) rfl (by kernel_rfl) (by kernel_rfl) (by kernel_rfl) (fun _ _ _ h => h) (Or.inr ⟨by rfl, rfl⟩) (by assumption) ?_
   try simp only [Act.put, sqa, sqb, sqc]
   refine wpAnyH_take (i := 12) (oi := { dst := some 45, op := Op.fieldAddr 79 (Operand.tmp 44) 2, type := 0, pos := "certificate.go:140", after := #[{ on := 11, ground := Ground.data }, { on := 8, ground := Ground.guard }], guard := some (8, true) }) (v := undef) rfl (by kernel_rfl) (by kernel_rfl) (by kernel_rfl) (fun _ _ _ h => h) (Or.inr ⟨by rfl, rfl⟩) (by assumption) ?_
   try simp only [Act.put, sqa, sqb, sqc]
   refine wpAnyH_take (i := 13) (oi := { dst := some 46, op := Op.load 25 (Operand.tmp 45), type := 25, pos := "certificate.go:140", after := #[{ on := 12, ground := Ground.data }, { on := 8, ground := Ground.guard }], guard := some (8, true) }) (v := undef) rfl (by kernel_rfl) (by kernel_rfl) (by kernel_rfl) (fun _ _ _ h => h) (Or.inr ⟨by rfl, rfl⟩) (by assumption) ?_
   try simp only [Act.put, sqa, sqb, sqc]
   refine wpAnyH_take (i := 14) (oi := { dst := some 47, op := Op.move (Operand.tmp 1), type := 3, pos := "certificate.go:140", after := #[{ on := 8, ground := Ground.guard }], guard := some (8, true) }) (v := undef) rfl (by kernel_rfl) (by kernel_rfl) (by kernel_rfl) (fun _ _ _ h => h) (Or.inr ⟨by rfl, rfl⟩) (by assumption) ?_
   try simp only [Act.put, sqa, sqb, sqc]
   refine wpAnyH_take (i := 15) (oi := { dst := some 48, op := Op.binOp BinOp.add 3 (Operand.tmp 47) (Operand.const (Value.int IntKind.i64 1)) 3, type := 3, pos := "certificate.go:140", after := #[{ on := 14, ground := Ground.data }, { on := 8, ground := Ground.guard }], guard := some (8, true) }) (v := undef) rfl (by kernel_rfl) (by kernel_rfl) (by kernel_rfl) (fun _ _ _ h => h) (Or.inr ⟨by rfl, rfl⟩) (by assumption) ?_
   try simp only [Act.put, sqa, sqb, sqc]
   refine wpAnyH_take (i := 16) (oi := { dst := some 49, op := Op.call { callee := Callee.value (Operand.tmp 42), args := #[Operand.tmp 46, Operand.tmp 48], argTypes := #[25, 3] }, type := 4, pos := "certificate.go:140", after := #[{ on := 9, ground := Ground.data }, { on := 13, ground := Ground.data }, { on := 15, ground := Ground.data }, { on := 8, ground := Ground.chain }, { on := 8, ground := Ground.guard }], guard := some (8, true) }) (v := undef) rfl (by kernel_rfl) (by kernel_rfl) (by kernel_rfl) (fun _ _ _ h => h) (Or.inr ⟨by rfl, rfl⟩) (by assumption) ?_
   try simp only [Act.put, sqa, sqb, sqc]
   refine wpAnyH_take (i := 17) (oi := { dst := some 50, op := Op.pick (Operand.tmp 41) (Operand.tmp 49) (Operand.const (Value.bool false)), type := 4, pos := "certificate.go:140", after := #[{ on := 8, ground := Ground.data }, { on := 16, ground := Ground.data }], guard := none }) (v := ?_) rfl (by kernel_rfl) (by kernel_rfl) (by kernel_rfl) (fun _ _ _ h => h) (Or.inl ⟨by rfl, ?_⟩) (by assumption) ?_
   rotate_left
   ·intro w hSw; (try dsimp only at hSw); go_simp; try (with_reducible rfl)
   try simp only [Act.put, sqa, sqb, sqc]
   refine wpAnyH_take (i := 18) (oi := { dst := some 51, op := Op.move (Operand.tmp 50), type := 4, pos := "certificate.go:140", after := #[{ on := 17, ground := Ground.data }, { on := 16, ground := Ground.chain }], guard := none }) (v := ?_) rfl (by kernel_rfl) (by kernel_rfl) (by kernel_rfl) (fun _ _ _ h => h) (Or.inl ⟨by rfl, ?_⟩) (by assumption) ?_
   rotate_left
   ·intro w hSw; (try dsimp only at hSw); go_simp; try (with_reducible rfl)
   try simp only [Act.put, sqa, sqb, sqc]
   refine wpAnyH_take (i := 19) (oi := { dst := some 52, op := Op.load 141 (Operand.tmp 4), type := 141, pos := "certificate.go:140", after := #[{ on := 18, ground := Ground.guard }], guard := some (18, true) }) (v := undef) rfl (by kernel_rfl) (by kernel_rfl) (by kernel_rfl) (fun _ _ _ h => h) (Or.inr ⟨by rfl, rfl⟩) (by assumption) ?_
   try simp only [Act.put, sqa, sqb, sqc]
   refine wpAnyH_take (i := 20) (oi := { dst := some 53, op := Op.move (Operand.tmp 0), type := 25, pos := "certificate.go:140", after := #[{ on := 18, ground := Ground.guard }], guard := some (18, true) }) (v := undef) rfl (by kernel_rfl) (by kernel_rfl) (by kernel_rfl) (fun _ _ _ h => h) (Or.inr ⟨by rfl, rfl⟩) (by assumption) ?_
   try simp only [Act.put, sqa, sqb, sqc]
   refine wpAnyH_take (i := 21) (oi := { dst := some 54, op := Op.nilCheck (Operand.tmp 53), type := 0, pos := "certificate.go:140", after := #[{ on := 20, ground := Ground.data }, { on := 18, ground := Ground.guard }], guard := some (18, true) }) (v := undef) rfl (by kernel_rfl) (by kernel_rfl) (by kernel_rfl) (fun _ _ _ h => h) (Or.inr ⟨by rfl, rfl⟩) (by assumption) ?_
   try simp only [Act.put, sqa, sqb, sqc]
   refine wpAnyH_take (i := 22) (oi := { dst := some 55, op := Op.fieldAddr 79 (Operand.tmp 54) 3, type := 0, pos := "certificate.go:140", after := #[{ on := 21, ground := Ground.data }, { on := 18, ground := Ground.guard }], guard := some (18, true) }) (v := undef) rfl (by kernel_rfl) (by kernel_rfl) (by kernel_rfl) (fun _ _ _ h => h) (Or.inr ⟨by rfl, rfl⟩) (by assumption) ?_
   try simp only [Act.put, sqa, sqb, sqc]
   refine wpAnyH_take (i := 23) (oi := { dst := some 56, op := Op.load 25 (Operand.tmp 55), type := 25, pos := "certificate.go:140", after := #[{ on := 22, ground := Ground.data }, { on := 18, ground := Ground.guard }], guard := some (18, true) }) (v := undef) rfl (by kernel_rfl) (by kernel_rfl) (by kernel_rfl) (fun _ _ _ h => h) (Or.inr ⟨by rfl, rfl⟩) (by assumption) ?_
   try simp only [Act.put, sqa, sqb, sqc]
   refine wpAnyH_take (i := 24) (oi := { dst := some 57, op := Op.move (Operand.tmp 1), type := 3, pos := "certificate.go:140", after := #[{ on := 18, ground := Ground.guard }], guard := some (18, true) }) (v := undef) rfl (by kernel_rfl) (by kernel_rfl) (by kernel_rfl) (fun _ _ _ h => h) (Or.inr ⟨by rfl, rfl⟩) (by assumption) ?_
   try simp only [Act.put, sqa, sqb, sqc]
   refine wpAnyH_take (i := 25) (oi := { dst := some 58, op := Op.binOp BinOp.add 3 (Operand.tmp 57) (Operand.const (Value.int IntKind.i64 1)) 3, type := 3, pos := "certificate.go:140", after := #[{ on := 24, ground := Ground.data }, { on := 18, ground := Ground.guard }], guard := some (18, true) }) (v := undef) rfl (by kernel_rfl) (by kernel_rfl) (by kernel_rfl) (fun _ _ _ h => h) (Or.inr ⟨by rfl, rfl⟩) (by assumption) ?_
   try simp only [Act.put, sqa, sqb, sqc]
   refine wpAnyH_take (i := 26) (oi := { dst := some 59, op := Op.call { callee := Callee.value (Operand.tmp 52), args := #[Operand.tmp 56, Operand.tmp 58], argTypes := #[25, 3] }, type := 4, pos := "certificate.go:140", after := #[{ on := 19, ground := Ground.data }, { on := 23, ground := Ground.data }, { on := 25, ground := Ground.data }, { on := 18, ground := Ground.chain }, { on := 18, ground := Ground.guard }], guard := some (18, true) }) (v := undef) rfl (by kernel_rfl) (by kernel_rfl) (by kernel_rfl) (fun _ _ _ h => h) (Or.inr ⟨by rfl, rfl⟩) (by assumption) ?_
   try simp only [Act.put, sqa, sqb, sqc]
   refine wpAnyH_take (i := 27) (oi := { dst := some 60, op := Op.pick (Operand.tmp 51) (Operand.tmp 59) (Operand.const (Value.bool false)), type := 4, pos := "certificate.go:140", after := #[{ on := 18, ground := Ground.data }, { on := 26, ground := Ground.data }], guard := none }) (v := ?_) rfl (by kernel_rfl) (by kernel_rfl) (by kernel_rfl) (fun _ _ _ h => h) (Or.inl ⟨by rfl, ?_⟩) (by assumption) ?_
   rotate_left
   ·intro w hSw; (try dsimp only at hSw); go_simp; try (with_reducible rfl)
   try simp only [Act.put, sqa, sqb, sqc]
   refine wpAnyH_take (i := 28) (oi := { dst := some 7, op := Op.assign (Operand.tmp 60), type := 4, pos := "certificate.go:140", after := #[{ on := 27, ground := Ground.data }, { on := 26, ground := Ground.chain }, { on := 0, ground := Ground.phase }, { on := 1, ground := Ground.phase }, { on := 2, ground := Ground.phase }, { on := 3, ground := Ground.phase }, { on := 4, ground := Ground.phase }, { on := 5, ground := Ground.phase }, { on := 6, ground := Ground.phase }, { on := 7, ground := Ground.phase }, { on := 8, ground := Ground.phase }, { on := 9, ground := Ground.phase }, { on := 10, ground := Ground.phase }, { on := 11, ground := Ground.phase }, { on := 12, ground := Ground.phase }, { on := 13, ground := Ground.phase }, { on := 14, ground := Ground.phase }, { on := 15, ground := Ground.phase }, { on := 16, ground := Ground.phase }, { on := 17, ground := Ground.phase }, { on := 18, ground := Ground.phase }, { on := 19, ground := Ground.phase }, { on := 20, ground := Ground.phase }, { on := 21, ground := Ground.phase }, { on := 22, ground := Ground.phase }, { on := 23, ground := Ground.phase }, { on := 24, ground := Ground.phase }, { on := 25, ground := Ground.phase }, { on := 26, ground := Ground.phase }, { on := 27, ground := Ground.phase }], guard := none }) (v := ?_) rfl (by kernel_rfl) (by kernel_rfl) (by kernel_rfl) (fun _ _ _ h => h) (Or.inl ⟨by rfl, ?_⟩) (by assumption) ?_
   rotate_left
   ·intro w hSw; (try dsimp only at hSw); go_simp; try (with_reducible rfl)
   try simp only [Act.put, sqa, sqb, sqc]
   refine wpAnyH_done (by kernel_rfl) ?_ _
   go_wp2_with fail
   go_ret
   exact HEND.out _ [] (by repeat (first | (with_reducible exact Fr.refl _ _) | (with_reducible apply Fr.drew) | (with_reducible apply Fr.drewN))) (by rw [List.append_nil]; exact hM1.ext eBx) (fun p hp => by cases hp)
 | true =>
   have hvn : vr < (no : Int) := of_decide_eq_true hVV.symm
   clear hVV HV
   cases ra with
   | false =>
     obtain rfl : Z = false := by rw [HZ.out]; rfl
     clear HZ
     refine wp_region_held_drew (S := fun w' => Fr (PM mb) w1 w') (by kernel_rfl) ?_ (fun hHeld => ?_)
     ·(try dsimp only); (repeat (first | (with_reducible assumption) | (with_reducible apply Fr.drew) | (with_reducible apply Fr.drewN) | (with_reducible refine Fr.trans ?_ (by with_reducible assumption))))
     repeat' (first
      | simp only [Act.put, sqa, sqb, sqc]
      | (
       first
        | refine tky (i := 0) (oi := { dst := some 33, op := Op.move (Operand.tmp 0), type := 25, pos := "certificate.go:140", after := #[], guard := none }) (v := ?_) rfl ?_ (by assumption) ?_
        | refine tky (i := 1) (oi := { dst := some 34, op := Op.nilCheck (Operand.tmp 33), type := 0, pos := "certificate.go:140", after := #[{ on := 0, ground := Ground.data }], guard := none }) (v := ?_) rfl ?_ (by assumption) ?_
        | refine tky (i := 2) (oi := { dst := some 35, op := Op.fieldAddr 79 (Operand.tmp 34) 0, type := 0, pos := "certificate.go:140", after := #[{ on := 1, ground := Ground.data }], guard := none }) (v := ?_) rfl ?_ (by assumption) ?_
        | refine tky (i := 3) (oi := { dst := some 36, op := Op.load 3 (Operand.tmp 35), type := 3, pos := "certificate.go:140", after := #[{ on := 2, ground := Ground.data }], guard := none }) (v := ?_) rfl ?_ (by assumption) ?_
        | refine tky (i := 4) (oi := { dst := some 37, op := Op.fieldAddr 41 (Operand.tmp 3) 0, type := 0, pos := "certificate.go:140", after := #[], guard := none }) (v := ?_) rfl ?_ (by assumption) ?_
        | refine tky (i := 5) (oi := { dst := some 38, op := Op.load 38 (Operand.tmp 37), type := 38, pos := "certificate.go:140", after := #[{ on := 4, ground := Ground.data }], guard := none }) (v := ?_) rfl ?_ (by assumption) ?_
        | refine tky (i := 6) (oi := { dst := some 39, op := Op.call { callee := Callee.builtin Builtin.len, args := #[Operand.tmp 38], argTypes := #[38] }, type := 3, pos := "certificate.go:140", after := #[{ on := 5, ground := Ground.data }], guard := none }) (v := ?_) rfl ?_ (by assumption) ?_
        | refine tky (i := 7) (oi := { dst := some 40, op := Op.binOp BinOp.lss 3 (Operand.tmp 36) (Operand.tmp 39) 3, type := 4, pos := "certificate.go:140", after := #[{ on := 3, ground := Ground.data }, { on := 6, ground := Ground.data }], guard := none }) (v := ?_) rfl ?_ (by assumption) ?_
        | refine tky (i := 8) (oi := { dst := some 41, op := Op.move (Operand.tmp 40), type := 4, pos := "certificate.go:140", after := #[{ on := 7, ground := Ground.data }], guard := none }) (v := ?_) rfl ?_ (by assumption) ?_
        | refine tky (i := 9) (oi := { dst := some 42, op := Op.load 141 (Operand.tmp 4), type := 141, pos := "certificate.go:140", after := #[{ on := 8, ground := Ground.guard }], guard := some (8, true) }) (v := ?_) rfl ?_ (by assumption) ?_
        | refine tky (i := 10) (oi := { dst := some 43, op := Op.move (Operand.tmp 0), type := 25, pos := "certificate.go:140", after := #[{ on := 8, ground := Ground.guard }], guard := some (8, true) }) (v := ?_) rfl ?_ (by assumption) ?_
        | refine tky (i := 11) (oi := { dst := some 44, op := Op.nilCheck (Operand.tmp 43), type := 0, pos := "certificate.go:140", after := #[{ on := 10, ground := Ground.data }, { on := 8, ground := Ground.guard }], guard := some (8, true) }) (v := ?_) rfl ?_ (by assumption) ?_
        | refine tky (i := 12) (oi := { dst := some 45, op := Op.fieldAddr 79 (Operand.tmp 44) 2, type := 0, pos := "certificate.go:140", after := #[{ on := 11, ground := Ground.data }, { on := 8, ground := Ground.guard }], guard := some (8, true) }) (v := ?_) rfl ?_ (by assumption) ?_
        | refine tky (i := 13) (oi := { dst := some 46, op := Op.load 25 (Operand.tmp 45), type := 25, pos := "certificate.go:140", after := #[{ on := 12, ground := Ground.data }, { on := 8, ground := Ground.guard }], guard := some (8, true) }) (v := ?_) rfl ?_ (by assumption) ?_
        | refine tky (i := 14) (oi := { dst := some 47, op := Op.move (Operand.tmp 1), type := 3, pos := "certificate.go:140", after := #[{ on := 8, ground := Ground.guard }], guard := some (8, true) }) (v := ?_) rfl ?_ (by assumption) ?_
        | refine tky (i := 15) (oi := { dst := some 48, op := Op.binOp BinOp.add 3 (Operand.tmp 47) (Operand.const (Value.int IntKind.i64 1)) 3, type := 3, pos := "certificate.go:140", after := #[{ on := 14, ground := Ground.data }, { on := 8, ground := Ground.guard }], guard := some (8, true) }) (v := ?_) rfl ?_ (by assumption) ?_
        | refine tky (i := 17) (oi := { dst := some 50, op := Op.pick (Operand.tmp 41) (Operand.tmp 49) (Operand.const (Value.bool false)), type := 4, pos := "certificate.go:140", after := #[{ on := 8, ground := Ground.data }, { on := 16, ground := Ground.data }], guard := none }) (v := ?_) rfl ?_ (by assumption) ?_
        | refine tky (i := 18) (oi := { dst := some 51, op := Op.move (Operand.tmp 50), type := 4, pos := "certificate.go:140", after := #[{ on := 17, ground := Ground.data }, { on := 16, ground := Ground.chain }], guard := none }) (v := ?_) rfl ?_ (by assumption) ?_
        | refine tky (i := 27) (oi := { dst := some 60, op := Op.pick (Operand.tmp 51) (Operand.tmp 59) (Operand.const (Value.bool false)), type := 4, pos := "certificate.go:140", after := #[{ on := 18, ground := Ground.data }, { on := 26, ground := Ground.data }], guard := none }) (v := ?_) rfl ?_ (by assumption) ?_
        | refine tky (i := 28) (oi := { dst := some 7, op := Op.assign (Operand.tmp 60), type := 4, pos := "certificate.go:140", after := #[{ on := 27, ground := Ground.data }, { on := 26, ground := Ground.chain }, { on := 0, ground := Ground.phase }, { on := 1, ground := Ground.phase }, { on := 2, ground := Ground.phase }, { on := 3, ground := Ground.phase }, { on := 4, ground := Ground.phase }, { on := 5, ground := Ground.phase }, { on := 6, ground := Ground.phase }, { on := 7, ground := Ground.phase }, { on := 8, ground := Ground.phase }, { on := 9, ground := Ground.phase }, { on := 10, ground := Ground.phase }, { on := 11, ground := Ground.phase }, { on := 12, ground := Ground.phase }, { on := 13, ground := Ground.phase }, { on := 14, ground := Ground.phase }, { on := 15, ground := Ground.phase }, { on := 16, ground := Ground.phase }, { on := 17, ground := Ground.phase }, { on := 18, ground := Ground.phase }, { on := 19, ground := Ground.phase }, { on := 20, ground := Ground.phase }, { on := 21, ground := Ground.phase }, { on := 22, ground := Ground.phase }, { on := 23, ground := Ground.phase }, { on := 24, ground := Ground.phase }, { on := 25, ground := Ground.phase }, { on := 26, ground := Ground.phase }, { on := 27, ground := Ground.phase }], guard := none }) (v := ?_) rfl ?_ (by assumption) ?_
       rotate_left
       ·intro w hSw; (try dsimp only at hSw); go_simp; try (with_reducible rfl))
      | (
       first
        | refine wpAnyH_take (i := 19) (oi := { dst := some 52, op := Op.load 141 (Operand.tmp 4), type := 141, pos := "certificate.go:140", after := #[{ on := 18, ground := Ground.guard }], guard := some (18, true) }) (v := undef) rfl (by decide +kernel) (by decide +kernel) (by decide +kernel) (fun _ _ _ h => h) (Or.inr ⟨by rfl, rfl⟩) (by assumption) ?_
        | refine wpAnyH_take (i := 20) (oi := { dst := some 53, op := Op.move (Operand.tmp 0), type := 25, pos := "certificate.go:140", after := #[{ on := 18, ground := Ground.guard }], guard := some (18, true) }) (v := undef) rfl (by decide +kernel) (by decide +kernel) (by decide +kernel) (fun _ _ _ h => h) (Or.inr ⟨by rfl, rfl⟩) (by assumption) ?_
        | refine wpAnyH_take (i := 21) (oi := { dst := some 54, op := Op.nilCheck (Operand.tmp 53), type := 0, pos := "certificate.go:140", after := #[{ on := 20, ground := Ground.data }, { on := 18, ground := Ground.guard }], guard := some (18, true) }) (v := undef) rfl (by decide +kernel) (by decide +kernel) (by decide +kernel) (fun _ _ _ h => h) (Or.inr ⟨by rfl, rfl⟩) (by assumption) ?_
        | refine wpAnyH_take (i := 22) (oi := { dst := some 55, op := Op.fieldAddr 79 (Operand.tmp 54) 3, type := 0, pos := "certificate.go:140", after := #[{ on := 21, ground := Ground.data }, { on := 18, ground := Ground.guard }], guard := some (18, true) }) (v := undef) rfl (by decide +kernel) (by decide +kernel) (by decide +kernel) (fun _ _ _ h => h) (Or.inr ⟨by rfl, rfl⟩) (by assumption) ?_
        | refine wpAnyH_take (i := 23) (oi := { dst := some 56, op := Op.load 25 (Operand.tmp 55), type := 25, pos := "certificate.go:140", after := #[{ on := 22, ground := Ground.data }, { on := 18, ground := Ground.guard }], guard := some (18, true) }) (v := undef) rfl (by decide +kernel) (by decide +kernel) (by decide +kernel) (fun _ _ _ h => h) (Or.inr ⟨by rfl, rfl⟩) (by assumption) ?_
        | refine wpAnyH_take (i := 24) (oi := { dst := some 57, op := Op.move (Operand.tmp 1), type := 3, pos := "certificate.go:140", after := #[{ on := 18, ground := Ground.guard }], guard := some (18, true) }) (v := undef) rfl (by decide +kernel) (by decide +kernel) (by decide +kernel) (fun _ _ _ h => h) (Or.inr ⟨by rfl, rfl⟩) (by assumption) ?_
        | refine wpAnyH_take (i := 25) (oi := { dst := some 58, op := Op.binOp BinOp.add 3 (Operand.tmp 57) (Operand.const (Value.int IntKind.i64 1)) 3, type := 3, pos := "certificate.go:140", after := #[{ on := 24, ground := Ground.data }, { on := 18, ground := Ground.guard }], guard := some (18, true) }) (v := undef) rfl (by decide +kernel) (by decide +kernel) (by decide +kernel) (fun _ _ _ h => h) (Or.inr ⟨by rfl, rfl⟩) (by assumption) ?_
        | refine wpAnyH_take (i := 26) (oi := { dst := some 59, op := Op.call { callee := Callee.value (Operand.tmp 52), args := #[Operand.tmp 56, Operand.tmp 58], argTypes := #[25, 3] }, type := 4, pos := "certificate.go:140", after := #[{ on := 19, ground := Ground.data }, { on := 23, ground := Ground.data }, { on := 25, ground := Ground.data }, { on := 18, ground := Ground.chain }, { on := 18, ground := Ground.guard }], guard := some (18, true) }) (v := undef) rfl (by decide +kernel) (by decide +kernel) (by decide +kernel) (fun _ _ _ h => h) (Or.inr ⟨by rfl, rfl⟩) (by assumption) ?_)
      | refine wpAnyH_ready (rs := [16]) (by decide +kernel) (by simp) ?_
      | (
       refine AllReadyH.cons (o := { dst := some 49, op := Op.call { callee := Callee.value (Operand.tmp 42), args := #[Operand.tmp 46, Operand.tmp 48], argTypes := #[25, 3] }, type := 4, pos := "certificate.go:140", after := #[{ on := 9, ground := Ground.data }, { on := 13, ground := Ground.data }, { on := 15, ground := Ground.data }, { on := 8, ground := Ground.chain }, { on := 8, ground := Ground.guard }], guard := some (8, true) }) rfl (fun K hK => ?_) ?_
       go_simp
       first
        | (go_at_call 76; (with_reducible refine (HH1.out _ (hM1.ext eBx) (hF1.trans (by repeat (first | (with_reducible exact Fr.refl _ _) | (with_reducible apply Fr.drew) | (with_reducible apply Fr.drewN))))).mono ?_); rintro e wk ⟨rfl, ⟨N1, hMk, hN1⟩, hFk⟩; (have hFk1 : Fr (PM mb) w1 wk := Fr.trans (by repeat (first | (with_reducible exact Fr.refl _ _) | (with_reducible apply Fr.drew) | (with_reducible apply Fr.drewN))) hFk))
        | (go_at_call 76; (with_reducible refine (HH2.out _ N1 (hMk.ext eBx) (fun p hp => ⟨(hN1 p hp).1, (hN1 p hp).2.1, (hN1 p hp).2.2.ext eBx⟩) (hF1.trans (hFk1.trans (by repeat (first | (with_reducible exact Fr.refl _ _) | (with_reducible apply Fr.drew) | (with_reducible apply Fr.drewN)))))).mono ?_); rintro e wm ⟨rfl, ⟨N2, hMm, hN2⟩, hFm⟩; (have hFm1 : Fr (PM mb) wk wm := Fr.trans (by repeat (first | (with_reducible exact Fr.refl _ _) | (with_reducible apply Fr.drew) | (with_reducible apply Fr.drewN))) hFm))
       try (go_wp2_with fail)
       refine hK.out _ _ ?_ (fun hHeld => ?_)
       ·(try dsimp only); (repeat (first | (with_reducible assumption) | (with_reducible apply Fr.drew) | (with_reducible apply Fr.drewN) | (with_reducible refine Fr.trans ?_ (by with_reducible assumption))))
       clear hK K)
      | exact AllReadyH.nil
      | (
       refine wpAnyH_done (by decide +kernel) ?_ _
       go_wp2_with fail
       go_ret
       exact HEND.out _ N1 (hFk1.trans (by repeat (first | (with_reducible exact Fr.refl _ _) | (with_reducible apply Fr.drew) | (with_reducible apply Fr.drewN)))) (hMk.ext eBx) (fun p hp => ⟨(hN1 p hp).1, Nat.lt_of_lt_of_le (hN1 p hp).2.1 hm2h, (hN1 p hp).2.2.ext eBx⟩))
      )
   | true =>
     have hZ : Z = rb := by rw [HZ.out]; cases rb <;> rfl
     subst hZ
     clear HZ
     go_region_held3 (fun w' => Fr (PM mb) w1 w') ((repeat (first | (with_reducible assumption) | (with_reducible apply Fr.drew) | (with_reducible apply Fr.drewN) | (with_reducible refine Fr.trans ?_ (by with_reducible assumption))))) (first
      | (go_at_call 76; (with_reducible refine (HH1.out _ (hM1.ext eBx) (hF1.trans (by repeat (first | (with_reducible exact Fr.refl _ _) | (with_reducible apply Fr.drew) | (with_reducible apply Fr.drewN))))).mono ?_); rintro e wk ⟨rfl, ⟨N1, hMk, hN1⟩, hFk⟩; (have hFk1 : Fr (PM mb) w1 wk := Fr.trans (by repeat (first | (with_reducible exact Fr.refl _ _) | (with_reducible apply Fr.drew) | (with_reducible apply Fr.drewN))) hFk))
      | (go_at_call 76; (with_reducible refine (HH2.out _ N1 (hMk.ext eBx) (fun p hp => ⟨(hN1 p hp).1, (hN1 p hp).2.1, (hN1 p hp).2.2.ext eBx⟩) (hF1.trans (hFk1.trans (by repeat (first | (with_reducible exact Fr.refl _ _) | (with_reducible apply Fr.drew) | (with_reducible apply Fr.drewN)))))).mono ?_); rintro e wm ⟨rfl, ⟨N2, hMm, hN2⟩, hFm⟩; (have hFm1 : Fr (PM mb) wk wm := Fr.trans (by repeat (first | (with_reducible exact Fr.refl _ _) | (with_reducible apply Fr.drew) | (with_reducible apply Fr.drewN))) hFm))
      )
     all_goals (
      go_wp2_with fail
      go_ret
      exact HEND.out _ (N1 ++ N2) (hFk1.trans hFm1) (by rw [← List.append_assoc]; exact hMm) (fun p hp => by
       rcases List.mem_append.1 hp with q | q
       ·exact ⟨(hN1 p q).1, Nat.lt_of_lt_of_le (hN1 p q).2.1 hm2h, Fr.cellsC hFm1 (hN1 p q).2.2 (fun e => absurd e (QMap.cells hMk (hN1 p q).2.2))⟩
       ·exact ⟨Nat.le_trans hm12 (hN2 p q).1, (hN2 p q).2.1, (hN2 p q).2.2⟩))
theorem visit_b (mb hb pb fb : Nat) (Ao Ar : Option Addr) (no co m cr : Nat) (hm : m ≤ 9000000000000000000) (t : CT) : ∀ (A : Option Addr) (b h lev : Nat) (w : World) (S : List (Nat × Int)), qjd w t A b h → t.wf = true → lev + t.dep ≤ 1000 → Box w hb 140 #[.map (some mb)] → Box w fb 141 #[ftK hb pb fb] → Box w pb 41 #[.slice Ao no co, .slice Ar m cr] → QMap w mb S → (∀ p ∈ S, p.1 < b ∧ qes w p.1) →
 Calls Tryz.prog 76 #[.pointer A, .int .i64 (lev : Int), .pointer (some ⟨hb, 0, none⟩), .pointer (some ⟨pb, 0, none⟩), .pointer (some ⟨fb, 0, none⟩)] w (q99 mb S (t.fit no (m + lev)) b h w) := by
 induction t with
 | nil => intro A b h lev w S hT hwf; cases hwf
 | node vr fl em n y lo hi iha ihb =>
   intro A b h lev w S hT hwf hl HB FB PB hM hS
   obtain ⟨k, L, H, Y, c, m1, m2, rfl, h1, h2, NB, hY, hlo, hhi⟩ := hT
   have hd : (CT.node vr fl em n y lo hi).dep = 1 + max lo.dep hi.dep := rfl
   rw [hd] at hl
   have l1 := hlo.le
   have l2 := hhi.le
   have hS' : ∀ p ∈ S, p.1 < k ∧ qes w p.1 := fun p hp => ⟨by have := (hS p hp).1; omega, (hS p hp).2⟩
   unfold CT.wf at hwf
   by_cases hv : vr = -1
   ·subst hv
    have e : (CT.node (-1) fl em n y lo hi).fit no (m + lev) = decide (n = m + lev) := by
     unfold CT.fit
     rw [if_pos rfl]
    rw [e]
    exact visit_lf mb hb pb fb k b h lev w S fl em L H Y n c Ao Ar no co m cr NB HB FB PB hM hS' h1 (by omega) (by omega) hm
   ·rw [if_neg hv] at hwf
    simp only [Bool.and_eq_true, decide_eq_true_eq, Bool.not_eq_true'] at hwf
    obtain ⟨g1, g2, rfl, rfl, w1, w2⟩ := hwf
    have e : (CT.node vr fl false 0 y lo hi).fit no (m + lev) = (decide (vr < (no : Int)) && (lo.fit no (m + (lev + 1)) && hi.fit no (m + (lev + 1)))) := by
     conv => lhs; unfold CT.fit
     rw [if_neg hv]; rfl
    rw [e]
    have hkB : qes w k := ⟨_, _, NB⟩
    have hno : ∀ i, qes w i → ¬ PM mb i := fun i hi e => hM.cells hi e
    have hkeep : ∀ W, Fr (PM mb) w W → Box W hb 140 #[.map (some mb)] ∧ Box W fb 141 #[ftK hb pb fb] ∧ Box W pb 41 #[.slice Ao no co, .slice Ar m cr] := fun W hF => ⟨hF.box HB (hM.nobox HB), hF.box FB (hM.nobox FB), hF.box PB (hM.nobox PB)⟩
    refine visit_in mb hb pb fb k b h lev m1 m2 w S vr fl _ _ false L H Y 0 c Ao Ar no co m cr g1 NB HB FB PB hM hS' h1 h2 l1 l2 (by omega) ?_ ?_
    ·intro W hW hF
     obtain ⟨q1, q2, q3⟩ := hkeep W hF
     have := iha L m1 m2 (lev + 1) W _ (hlo.frG hF hno) w1 (by omega) q1 q2 q3 hW (fun p hp => by
      rcases List.mem_append.1 hp with q | q
      ·exact ⟨by have := (hS' p q).1; omega, Fr.cellsC hF (hS' p q).2 (hno _ (hS' p q).2)⟩
      ·obtain rfl := List.mem_singleton.1 q
       exact ⟨h2, Fr.cellsC hF hkB (hno _ hkB)⟩)
     rw [show ((lev + 1 : Nat) : Int) = (lev : Int) + 1 by omega] at this
     exact this
    ·intro W N hW hN hF
     obtain ⟨q1, q2, q3⟩ := hkeep W hF
     have := ihb H m2 h (lev + 1) W _ (hhi.frG hF hno) w2 (by omega) q1 q2 q3 hW (fun p hp => by
      rcases List.mem_append.1 hp with q | q
      ·rcases List.mem_append.1 q with q | q
       ·exact ⟨by have := (hS' p q).1; omega, Fr.cellsC hF (hS' p q).2 (hno _ (hS' p q).2)⟩
       ·obtain rfl := List.mem_singleton.1 q
        exact ⟨by show k < m2; omega, Fr.cellsC hF hkB (hno _ hkB)⟩
      ·exact ⟨(hN p q).2.1, (hN p q).2.2⟩)
     rw [show ((lev + 1 : Nat) : Int) = (lev : Int) + 1 by omega] at this
     exact this
set_option maxHeartbeats 4000000 in
set_option maxRecDepth 100000 in
theorem fits_t (t : CT) (A : Option Addr) (b h : Nat) (Ao Ar : Option Addr) (no co m cr : Nat) (w : World) (hT : qjd w t A b h) (hwf : t.wf = true) (hd : t.dep ≤ 1000) (hm : m ≤ 9000000000000000000) :
 Calls Tryz.prog 43 #[.agg #[.slice Ao no co, .slice Ar m cr], .pointer A] w (fun e w' => e = .returned (.bool (t.fit no m)) ∧ Ext w w') := by
 obtain ⟨F, hFF⟩ : ∃ F, F = t.fit no m := ⟨_, rfl⟩
 have HFF := Lib.hid hFF
 rw [← hFF]
 clear hFF
 have hmm := @run_makeMap Tryz.prog
 have hPB := Box.new w 41 #[.slice Ao no co, .slice Ar m cr]
 have hE0 : Ext w (w.alloc (.cells #[.slice Ao no co, .slice Ar m cr] 41)) := (Ext.refl w).alloc _
 go_enter Tryz.func43, Tryz.ntmps43
 go_upto_region 1 with fail
 obtain ⟨pb, hpb⟩ : ∃ x, x = w.heap.size := ⟨_, rfl⟩
 rw [← hpb] at hPB ⊢
 generalize hU : (w.alloc (.cells #[.slice Ao no co, .slice Ar m cr] 41)) = U at *
 have hT := hT.ext hE0
 clear hU hpb
 obtain ⟨V, hV, hM, hB, hF, hE⟩ := ql8 U 140 141
 go_upto_region 3 with fail
 simp only [← hV]
 clear hV hmm
 have n4 : pb < U.heap.size := hPB.lt
 have hPB := hPB.ext hE
 obtain ⟨mb, hmb⟩ : ∃ x, x = U.heap.size := ⟨_, rfl⟩
 obtain ⟨hb, hhb⟩ : ∃ x, x = U.heap.size + 1 := ⟨_, rfl⟩
 obtain ⟨fb, hfb⟩ : ∃ x, x = U.heap.size + 1 + 1 := ⟨_, rfl⟩
 rw [← hfb, ← hhb]
 rw [← hfb] at hF
 rw [← hhb] at hB
 rw [← hmb] at hM hB
 have hms : U.heap.size ≤ mb := by omega
 have hfs : U.heap.size ≤ fb := by omega
 have n1 : hb ≠ fb := by omega
 have n2 : mb ≠ fb := by omega
 have n5 : pb ≠ fb := by omega
 clear hmb hhb hfb
 have f0 := hF.c0
 have f1 := hF.frozen 0
 obtain ⟨K, hK⟩ : ∃ K : Value, K = ftK hb pb fb := ⟨_, rfl⟩
 have hF2 := hF.set 0 K
 have hB2 : Box (V.setCell ⟨fb, 0, none⟩ K) hb 140 #[.map (some mb)] := hB.far (p := ⟨fb, 0, none⟩) n1 K
 have hM2 : (V.setCell ⟨fb, 0, none⟩ K).heap[mb]? = some (.map #[] 0) := (Below.heap_setCell V ⟨fb, 0, none⟩ K mb n2).trans hM
 have hP2 : Box (V.setCell ⟨fb, 0, none⟩ K) pb 41 #[.slice Ao no co, .slice Ar m cr] := hPB.far (p := ⟨fb, 0, none⟩) n5 K
 have hE2 : Ext U (V.setCell ⟨fb, 0, none⟩ K) := hE.set (p := ⟨fb, 0, none⟩) hfs K
 have hT2 := hT.ext hE2
 go_upto_region 4 with fail
 rw [show Value.func (.func 76) #[] #[.pointer (some ⟨hb, 0, none⟩), .pointer (some ⟨pb, 0, none⟩), .pointer (some ⟨fb, 0, none⟩)] = K from hK.symm]
 generalize (V.setCell ⟨fb, 0, none⟩ K) = V2 at *
 have hF3 : Box V2 fb 141 #[K] := hF2
 rw [hK] at hF3
 clear hF2 f0 f1 hK hF hB hM hPB
 have k0 : V2.cell? ⟨fb, 0, none⟩ = some (.func (.func 76) #[] #[.pointer (some ⟨hb, 0, none⟩), .pointer (some ⟨pb, 0, none⟩), .pointer (some ⟨fb, 0, none⟩)]) := hF3.c0
 go_wp2_with fail
 refine (visit_b mb hb pb fb Ao Ar no co m cr hm t A b h 0 _ [] hT2 hwf (by omega) hB2 hF3 hP2 ⟨#[], 0, hM2, rfl⟩ (fun p hp => by cases hp)).mono ?_
 rintro e w3 ⟨rfl, -, hFR⟩
 rw [Nat.add_zero, ← HFF.out]
 have hx := hE0.trans (hFR.ext hE2 (fun b hb => by rw [hb]; exact hms))
 go_wp2_with fail
 go_ret
 exact ⟨rfl, hx⟩
end Go.Proofs.YtljncdcjkdgkeaaGreatDoor.Lp

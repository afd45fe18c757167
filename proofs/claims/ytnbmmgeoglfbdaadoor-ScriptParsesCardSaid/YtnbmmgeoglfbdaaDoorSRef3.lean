/- Walks: Name, One of the reference. -/
import Derived.Test.YtnbmmgeoglfbdaaDoorSR11b
import Derived.Test.YtnbmmgeoglfbdaaDoorSCmds
set_option linter.unusedVariables false
set_option linter.unusedSimpArgs false
namespace Go.Proofs.YtnbmmgeoglfbdaaDoor.Sc
open Go.RowKit Go.Proofs.YtnbmmgeoglfbdaaDoor.Big

def BPost (w : World) (b : Bool) (e : Ending) (w' : World) : Prop := e = .returned (.bool b) ∧ Ext w w'
set_option maxHeartbeats 4000000 in
theorem NameR_any (t : BL) (w : World) (ht : t.length ≤ 1099511627776) : Calls Tryd.prog 47 #[.string (str t)] w (BPost w (isName t)) := by
  have hss : (str t).size = t.length := rfl
  obtain ⟨N, hN⟩ : ∃ N, N = isName t := ⟨_, rfl⟩
  rw [← hN]
  have HN : Hid (N = (isWord t && decide (t.length ≤ 12) && !isKey t)) := Lib.hid hN
  clear hN
  go_enter Tryd.func47, Tryd.ntmps47
  go_wp2_with fail
  refine (kind_any t _ ht).mono ?_
  rintro e w1 ⟨⟨k, rfl, hk5, hkw⟩, hx1⟩
  have HK := Lib.hid hkw
  clear hkw
  by_cases h1 : k = 1
  · subst h1
    by_cases h12 : t.length ≤ 12
    · go_wp2_with fail
      refine (Keywords_any _).mono ?_
      rintro e w2 ⟨⟨sb, rfl, hrw⟩, hx2⟩
      go_wp2_with fail
      refine (In_any _ _ _ _ t _ hrw).mono ?_
      rintro e w3 ⟨rfl, rfl⟩
      have HF : Hid (N = !keywords.contains t) := Lib.hid (by rw [HN.out, ← HK.out, decide_eq_true h12]; rfl)
      obtain ⟨z, hz⟩ : ∃ z, z = keywords.contains t := ⟨_, rfl⟩
      rw [← hz] at HF ⊢
      clear hz
      cases z
      all_goals go_wp2_with fail
      all_goals go_ret
      all_goals exact ⟨by rw [HF.out]; rfl, hx1.trans hx2⟩
    · have HF : Hid (N = false) := Lib.hid (by rw [HN.out, decide_eq_false h12]; simp)
      go_wp2_with fail
      go_ret
      exact ⟨by rw [HF.out]; rfl, hx1⟩
  · have e1 : ((k : Int) == 1) = false := by simp; omega
    have HF : Hid (N = false) := Lib.hid (by rw [HN.out, ← HK.out, show (k == 1) = false by simpa using h1]; rfl)
    go_wp2_with fail
    go_ret
    exact ⟨by rw [HF.out]; rfl, hx1⟩
set_option maxHeartbeats 8000000 in
set_option maxRecDepth 100000 in
theorem One_any (k : Nat) (nm : BL) (A : Option Addr) (n cc : Nat) (t : BL) (w : World) (hk : k ≤ 255) (hn : n ≤ 9223372036854775807) (hnl : nm.length ≤ 1099511627776) (htl : t.length ≤ 1099511627776) (V : Bool)
    (HV : Hid (V = (decide (1 ≤ k) && decide (k ≤ 11) && (namedB k == !nm.isEmpty) && cntB k n && (nm.isEmpty || isName nm) && endB t && decide (t.length ≤ 65536) && (k == 1 || t.isEmpty)))) :
    Calls Tryd.prog 31 #[.agg #[.int .u8 (k : Int), .string (str nm), .slice A n cc, .string (str t)]] w (BPost w V) := by
  by_cases h1 : k < 1
  · have HF : Hid (V = false) := Lib.hid (by rw [HV.out, decide_eq_false (show ¬ 1 ≤ k by omega)]; rfl)
    have q1 : decide ((k : Int) < 1) = true := by simp; omega
    go_enter Tryd.func31, Tryd.ntmps31
    go_upto_region 1 with fail
    obtain ⟨W, hWd⟩ : ∃ W : World, W = w.alloc (.cells #[.int .u8 (k : Int), .string (str nm), .slice A n cc, .string (str t)] 54) := ⟨_, rfl⟩
    have B := Box.new w 54 #[.int .u8 (k : Int), .string (str nm), .slice A n cc, .string (str t)]
    have hX : Ext w (w.alloc (.cells #[.int .u8 (k : Int), .string (str nm), .slice A n cc, .string (str t)] 54)) := (Ext.refl w).alloc _
    rw [← hWd] at B hX
    simp only [← hWd]
    clear hWd
    have k0 : ∀ w', Later W w' → w'.cell? ⟨w.heap.size, 0, none⟩ = some _ := fun w' h => Later.cell h B.c0
    have k1 : ∀ w', Later W w' → w'.cell? ⟨w.heap.size, 1, none⟩ = some _ := fun w' h => Later.cell h B.c1
    have k2 : ∀ w', Later W w' → w'.cell? ⟨w.heap.size, 2, none⟩ = some _ := fun w' h => Later.cell h (B.cell 2)
    have k3 : ∀ w', Later W w' → w'.cell? ⟨w.heap.size, 3, none⟩ = some _ := fun w' h => Later.cell h (B.cell 3)
    have ks := Later.refl W
    refine wp_region_held_drew (S := fun w' => Later W w') (by kernel_rfl) ?_ (fun hHeld => ?_)
    · (try dsimp only); (repeat (first | assumption | apply Later.drew | apply Later.drewN | apply Later.alloc | (refine Later.step ?_ (by assumption))))
    refine wpAnyH_take (i := 0) (oi := { dst := some 3, op := Op.fieldAddr 54 (Operand.tmp 1) 0, type := 0, pos := "ref.go:46", after := #[], guard := none }) (v := ?_) rfl (by kernel_rfl) (by kernel_rfl) (by kernel_rfl) (fun _ _ _ h => h) (Or.inl ⟨by rfl, ?_⟩) (by assumption) ?_
    rotate_left
    · intro w hSw; (try dsimp only at hSw); go_simp; try (with_reducible rfl)
    try simp only [Act.put, List.setIfInBounds_toArray, List.set_cons_zero, List.set_cons_succ]
    refine wpAnyH_take (i := 1) (oi := { dst := some 4, op := Op.load 5 (Operand.tmp 3), type := 5, pos := "ref.go:46", after := #[{ on := 0, ground := Ground.data }], guard := none }) (v := ?_) rfl (by kernel_rfl) (by kernel_rfl) (by kernel_rfl) (fun _ _ _ h => h) (Or.inl ⟨by rfl, ?_⟩) (by assumption) ?_
    rotate_left
    · intro w hSw; (try dsimp only at hSw); go_simp; try (with_reducible rfl)
    try simp only [Act.put, List.setIfInBounds_toArray, List.set_cons_zero, List.set_cons_succ]
    refine wpAnyH_take (i := 2) (oi := { dst := some 5, op := Op.binOp BinOp.lss 5 (Operand.tmp 4) (Operand.const (Value.int IntKind.u8 1)) 5, type := 4, pos := "ref.go:46", after := #[{ on := 1, ground := Ground.data }], guard := none }) (v := ?_) rfl (by kernel_rfl) (by kernel_rfl) (by kernel_rfl) (fun _ _ _ h => h) (Or.inl ⟨by rfl, ?_⟩) (by assumption) ?_
    rotate_left
    · intro w hSw; (try dsimp only at hSw); go_simp; try (with_reducible rfl)
    try simp only [Act.put, List.setIfInBounds_toArray, List.set_cons_zero, List.set_cons_succ]
    refine wpAnyH_take (i := 3) (oi := { dst := some 6, op := Op.move (Operand.tmp 5), type := 4, pos := "ref.go:46", after := #[{ on := 2, ground := Ground.data }], guard := none }) (v := ?_) rfl (by kernel_rfl) (by kernel_rfl) (by kernel_rfl) (fun _ _ _ h => h) (Or.inl ⟨by rfl, ?_⟩) (by assumption) ?_
    rotate_left
    · intro w hSw; (try dsimp only at hSw); go_simp; try (with_reducible rfl)
    try simp only [Act.put, List.setIfInBounds_toArray, List.set_cons_zero, List.set_cons_succ]
    refine wpAnyH_take (i := 4) (oi := { dst := some 7, op := Op.fieldAddr 54 (Operand.tmp 1) 0, type := 0, pos := "ref.go:46", after := #[{ on := 3, ground := Ground.guard }], guard := some (3, false) }) (v := undef) rfl (by kernel_rfl) (by kernel_rfl) (by kernel_rfl) (fun _ _ _ h => h) (Or.inr ⟨by rfl, rfl⟩) (by assumption) ?_
    try simp only [Act.put, List.setIfInBounds_toArray, List.set_cons_zero, List.set_cons_succ]
    refine wpAnyH_take (i := 5) (oi := { dst := some 8, op := Op.load 5 (Operand.tmp 7), type := 5, pos := "ref.go:46", after := #[{ on := 4, ground := Ground.data }, { on := 3, ground := Ground.guard }], guard := some (3, false) }) (v := undef) rfl (by kernel_rfl) (by kernel_rfl) (by kernel_rfl) (fun _ _ _ h => h) (Or.inr ⟨by rfl, rfl⟩) (by assumption) ?_
    try simp only [Act.put, List.setIfInBounds_toArray, List.set_cons_zero, List.set_cons_succ]
    refine wpAnyH_take (i := 6) (oi := { dst := some 9, op := Op.binOp BinOp.gtr 5 (Operand.tmp 8) (Operand.const (Value.int IntKind.u8 11)) 5, type := 4, pos := "ref.go:46", after := #[{ on := 5, ground := Ground.data }, { on := 3, ground := Ground.guard }], guard := some (3, false) }) (v := undef) rfl (by kernel_rfl) (by kernel_rfl) (by kernel_rfl) (fun _ _ _ h => h) (Or.inr ⟨by rfl, rfl⟩) (by assumption) ?_
    try simp only [Act.put, List.setIfInBounds_toArray, List.set_cons_zero, List.set_cons_succ]
    refine wpAnyH_take (i := 7) (oi := { dst := some 10, op := Op.pick (Operand.tmp 6) (Operand.const (Value.bool true)) (Operand.tmp 9), type := 4, pos := "ref.go:46", after := #[{ on := 3, ground := Ground.data }, { on := 6, ground := Ground.data }], guard := none }) (v := ?_) rfl (by kernel_rfl) (by kernel_rfl) (by kernel_rfl) (fun _ _ _ h => h) (Or.inl ⟨by rfl, ?_⟩) (by assumption) ?_
    rotate_left
    · intro w hSw; (try dsimp only at hSw); go_simp; try (with_reducible rfl)
    try simp only [Act.put, List.setIfInBounds_toArray, List.set_cons_zero, List.set_cons_succ]
    refine wpAnyH_take (i := 8) (oi := { dst := some 11, op := Op.move (Operand.tmp 10), type := 4, pos := "ref.go:46", after := #[{ on := 7, ground := Ground.data }, { on := 3, ground := Ground.chain }], guard := none }) (v := ?_) rfl (by kernel_rfl) (by kernel_rfl) (by kernel_rfl) (fun _ _ _ h => h) (Or.inl ⟨by rfl, ?_⟩) (by assumption) ?_
    rotate_left
    · intro w hSw; (try dsimp only at hSw); go_simp; try (with_reducible rfl)
    try simp only [Act.put, List.setIfInBounds_toArray, List.set_cons_zero, List.set_cons_succ]
    refine wpAnyH_take (i := 9) (oi := { dst := some 12, op := Op.fieldAddr 54 (Operand.tmp 1) 0, type := 0, pos := "ref.go:46", after := #[{ on := 8, ground := Ground.guard }], guard := some (8, false) }) (v := undef) rfl (by kernel_rfl) (by kernel_rfl) (by kernel_rfl) (fun _ _ _ h => h) (Or.inr ⟨by rfl, rfl⟩) (by assumption) ?_
    try simp only [Act.put, List.setIfInBounds_toArray, List.set_cons_zero, List.set_cons_succ]
    refine wpAnyH_take (i := 10) (oi := { dst := some 13, op := Op.load 5 (Operand.tmp 12), type := 5, pos := "ref.go:46", after := #[{ on := 9, ground := Ground.data }, { on := 8, ground := Ground.guard }], guard := some (8, false) }) (v := undef) rfl (by kernel_rfl) (by kernel_rfl) (by kernel_rfl) (fun _ _ _ h => h) (Or.inr ⟨by rfl, rfl⟩) (by assumption) ?_
    try simp only [Act.put, List.setIfInBounds_toArray, List.set_cons_zero, List.set_cons_succ]
    refine wpAnyH_take (i := 11) (oi := { dst := some 14, op := Op.call { callee := Callee.value (Operand.func 34), args := #[Operand.tmp 13], argTypes := #[5] }, type := 4, pos := "ref.go:46", after := #[{ on := 10, ground := Ground.data }, { on := 8, ground := Ground.chain }, { on := 8, ground := Ground.guard }], guard := some (8, false) }) (v := undef) rfl (by kernel_rfl) (by kernel_rfl) (by kernel_rfl) (fun _ _ _ h => h) (Or.inr ⟨by rfl, rfl⟩) (by assumption) ?_
    try simp only [Act.put, List.setIfInBounds_toArray, List.set_cons_zero, List.set_cons_succ]
    refine wpAnyH_take (i := 12) (oi := { dst := some 15, op := Op.fieldAddr 54 (Operand.tmp 1) 1, type := 0, pos := "ref.go:46", after := #[{ on := 8, ground := Ground.guard }], guard := some (8, false) }) (v := undef) rfl (by kernel_rfl) (by kernel_rfl) (by kernel_rfl) (fun _ _ _ h => h) (Or.inr ⟨by rfl, rfl⟩) (by assumption) ?_
    try simp only [Act.put, List.setIfInBounds_toArray, List.set_cons_zero, List.set_cons_succ]
    refine wpAnyH_take (i := 13) (oi := { dst := some 16, op := Op.load 9 (Operand.tmp 15), type := 9, pos := "ref.go:46", after := #[{ on := 12, ground := Ground.data }, { on := 8, ground := Ground.guard }], guard := some (8, false) }) (v := undef) rfl (by kernel_rfl) (by kernel_rfl) (by kernel_rfl) (fun _ _ _ h => h) (Or.inr ⟨by rfl, rfl⟩) (by assumption) ?_
    try simp only [Act.put, List.setIfInBounds_toArray, List.set_cons_zero, List.set_cons_succ]
    refine wpAnyH_take (i := 14) (oi := { dst := some 17, op := Op.binOp BinOp.neq 9 (Operand.tmp 16) (Operand.const (Value.string { data := #[] })) 9, type := 4, pos := "ref.go:46", after := #[{ on := 13, ground := Ground.data }, { on := 8, ground := Ground.guard }], guard := some (8, false) }) (v := undef) rfl (by kernel_rfl) (by kernel_rfl) (by kernel_rfl) (fun _ _ _ h => h) (Or.inr ⟨by rfl, rfl⟩) (by assumption) ?_
    try simp only [Act.put, List.setIfInBounds_toArray, List.set_cons_zero, List.set_cons_succ]
    refine wpAnyH_take (i := 15) (oi := { dst := some 18, op := Op.binOp BinOp.neq 4 (Operand.tmp 14) (Operand.tmp 17) 4, type := 4, pos := "ref.go:46", after := #[{ on := 11, ground := Ground.data }, { on := 14, ground := Ground.data }, { on := 8, ground := Ground.guard }], guard := some (8, false) }) (v := undef) rfl (by kernel_rfl) (by kernel_rfl) (by kernel_rfl) (fun _ _ _ h => h) (Or.inr ⟨by rfl, rfl⟩) (by assumption) ?_
    try simp only [Act.put, List.setIfInBounds_toArray, List.set_cons_zero, List.set_cons_succ]
    refine wpAnyH_take (i := 16) (oi := { dst := some 19, op := Op.pick (Operand.tmp 11) (Operand.const (Value.bool true)) (Operand.tmp 18), type := 4, pos := "ref.go:46", after := #[{ on := 8, ground := Ground.data }, { on := 15, ground := Ground.data }], guard := none }) (v := ?_) rfl (by kernel_rfl) (by kernel_rfl) (by kernel_rfl) (fun _ _ _ h => h) (Or.inl ⟨by rfl, ?_⟩) (by assumption) ?_
    rotate_left
    · intro w hSw; (try dsimp only at hSw); go_simp; try (with_reducible rfl)
    try simp only [Act.put, List.setIfInBounds_toArray, List.set_cons_zero, List.set_cons_succ]
    refine wpAnyH_take (i := 17) (oi := { dst := some 20, op := Op.move (Operand.tmp 19), type := 4, pos := "ref.go:46", after := #[{ on := 16, ground := Ground.data }, { on := 11, ground := Ground.chain }], guard := none }) (v := ?_) rfl (by kernel_rfl) (by kernel_rfl) (by kernel_rfl) (fun _ _ _ h => h) (Or.inl ⟨by rfl, ?_⟩) (by assumption) ?_
    rotate_left
    · intro w hSw; (try dsimp only at hSw); go_simp; try (with_reducible rfl)
    try simp only [Act.put, List.setIfInBounds_toArray, List.set_cons_zero, List.set_cons_succ]
    refine wpAnyH_take (i := 18) (oi := { dst := some 21, op := Op.fieldAddr 54 (Operand.tmp 1) 0, type := 0, pos := "ref.go:46", after := #[{ on := 17, ground := Ground.guard }], guard := some (17, false) }) (v := undef) rfl (by kernel_rfl) (by kernel_rfl) (by kernel_rfl) (fun _ _ _ h => h) (Or.inr ⟨by rfl, rfl⟩) (by assumption) ?_
    try simp only [Act.put, List.setIfInBounds_toArray, List.set_cons_zero, List.set_cons_succ]
    refine wpAnyH_take (i := 19) (oi := { dst := some 22, op := Op.load 5 (Operand.tmp 21), type := 5, pos := "ref.go:46", after := #[{ on := 18, ground := Ground.data }, { on := 17, ground := Ground.guard }], guard := some (17, false) }) (v := undef) rfl (by kernel_rfl) (by kernel_rfl) (by kernel_rfl) (fun _ _ _ h => h) (Or.inr ⟨by rfl, rfl⟩) (by assumption) ?_
    try simp only [Act.put, List.setIfInBounds_toArray, List.set_cons_zero, List.set_cons_succ]
    refine wpAnyH_take (i := 20) (oi := { dst := some 23, op := Op.fieldAddr 54 (Operand.tmp 1) 2, type := 0, pos := "ref.go:46", after := #[{ on := 17, ground := Ground.guard }], guard := some (17, false) }) (v := undef) rfl (by kernel_rfl) (by kernel_rfl) (by kernel_rfl) (fun _ _ _ h => h) (Or.inr ⟨by rfl, rfl⟩) (by assumption) ?_
    try simp only [Act.put, List.setIfInBounds_toArray, List.set_cons_zero, List.set_cons_succ]
    refine wpAnyH_take (i := 21) (oi := { dst := some 24, op := Op.load 38 (Operand.tmp 23), type := 38, pos := "ref.go:46", after := #[{ on := 20, ground := Ground.data }, { on := 17, ground := Ground.guard }], guard := some (17, false) }) (v := undef) rfl (by kernel_rfl) (by kernel_rfl) (by kernel_rfl) (fun _ _ _ h => h) (Or.inr ⟨by rfl, rfl⟩) (by assumption) ?_
    try simp only [Act.put, List.setIfInBounds_toArray, List.set_cons_zero, List.set_cons_succ]
    refine wpAnyH_take (i := 22) (oi := { dst := some 25, op := Op.call { callee := Callee.builtin Builtin.len, args := #[Operand.tmp 24], argTypes := #[38] }, type := 3, pos := "ref.go:46", after := #[{ on := 21, ground := Ground.data }, { on := 17, ground := Ground.guard }], guard := some (17, false) }) (v := undef) rfl (by kernel_rfl) (by kernel_rfl) (by kernel_rfl) (fun _ _ _ h => h) (Or.inr ⟨by rfl, rfl⟩) (by assumption) ?_
    try simp only [Act.put, List.setIfInBounds_toArray, List.set_cons_zero, List.set_cons_succ]
    refine wpAnyH_take (i := 23) (oi := { dst := some 26, op := Op.call { callee := Callee.value (Operand.func 49), args := #[Operand.tmp 22, Operand.tmp 25], argTypes := #[5, 3] }, type := 4, pos := "ref.go:46", after := #[{ on := 19, ground := Ground.data }, { on := 22, ground := Ground.data }, { on := 17, ground := Ground.chain }, { on := 17, ground := Ground.guard }], guard := some (17, false) }) (v := undef) rfl (by kernel_rfl) (by kernel_rfl) (by kernel_rfl) (fun _ _ _ h => h) (Or.inr ⟨by rfl, rfl⟩) (by assumption) ?_
    try simp only [Act.put, List.setIfInBounds_toArray, List.set_cons_zero, List.set_cons_succ]
    refine wpAnyH_take (i := 24) (oi := { dst := some 27, op := Op.unOp UnOp.not 4 (Operand.tmp 26), type := 4, pos := "ref.go:46", after := #[{ on := 23, ground := Ground.data }, { on := 17, ground := Ground.guard }], guard := some (17, false) }) (v := undef) rfl (by kernel_rfl) (by kernel_rfl) (by kernel_rfl) (fun _ _ _ h => h) (Or.inr ⟨by rfl, rfl⟩) (by assumption) ?_
    try simp only [Act.put, List.setIfInBounds_toArray, List.set_cons_zero, List.set_cons_succ]
    refine wpAnyH_take (i := 25) (oi := { dst := some 28, op := Op.pick (Operand.tmp 20) (Operand.const (Value.bool true)) (Operand.tmp 27), type := 4, pos := "ref.go:46", after := #[{ on := 17, ground := Ground.data }, { on := 24, ground := Ground.data }], guard := none }) (v := ?_) rfl (by kernel_rfl) (by kernel_rfl) (by kernel_rfl) (fun _ _ _ h => h) (Or.inl ⟨by rfl, ?_⟩) (by assumption) ?_
    rotate_left
    · intro w hSw; (try dsimp only at hSw); go_simp; try (with_reducible rfl)
    try simp only [Act.put, List.setIfInBounds_toArray, List.set_cons_zero, List.set_cons_succ]
    refine wpAnyH_done (by kernel_rfl) ?_ _
    go_wp2_with fail
    go_ret
    exact ⟨by rw [HF.out]; rfl, Ext.trans hX (by assumption)⟩
  · by_cases h11 : 11 < k
    · have HF : Hid (V = false) := Lib.hid (by rw [HV.out, decide_eq_false (show ¬ k ≤ 11 by omega)]; simp)
      have q1 : decide ((k : Int) < 1) = false := by simp; omega
      have q2 : decide ((11 : Int) < (k : Int)) = true := by simp; omega
      go_enter Tryd.func31, Tryd.ntmps31
      go_upto_region 1 with fail
      obtain ⟨W, hWd⟩ : ∃ W : World, W = w.alloc (.cells #[.int .u8 (k : Int), .string (str nm), .slice A n cc, .string (str t)] 54) := ⟨_, rfl⟩
      have B := Box.new w 54 #[.int .u8 (k : Int), .string (str nm), .slice A n cc, .string (str t)]
      have hX : Ext w (w.alloc (.cells #[.int .u8 (k : Int), .string (str nm), .slice A n cc, .string (str t)] 54)) := (Ext.refl w).alloc _
      rw [← hWd] at B hX
      simp only [← hWd]
      clear hWd
      have k0 : ∀ w', Later W w' → w'.cell? ⟨w.heap.size, 0, none⟩ = some _ := fun w' h => Later.cell h B.c0
      have k1 : ∀ w', Later W w' → w'.cell? ⟨w.heap.size, 1, none⟩ = some _ := fun w' h => Later.cell h B.c1
      have k2 : ∀ w', Later W w' → w'.cell? ⟨w.heap.size, 2, none⟩ = some _ := fun w' h => Later.cell h (B.cell 2)
      have k3 : ∀ w', Later W w' → w'.cell? ⟨w.heap.size, 3, none⟩ = some _ := fun w' h => Later.cell h (B.cell 3)
      have ks := Later.refl W
      refine wp_region_held_drew (S := fun w' => Later W w') (by kernel_rfl) ?_ (fun hHeld => ?_)
      · (try dsimp only); (repeat (first | assumption | apply Later.drew | apply Later.drewN | apply Later.alloc | (refine Later.step ?_ (by assumption))))
      refine wpAnyH_take (i := 0) (oi := { dst := some 3, op := Op.fieldAddr 54 (Operand.tmp 1) 0, type := 0, pos := "ref.go:46", after := #[], guard := none }) (v := ?_) rfl (by kernel_rfl) (by kernel_rfl) (by kernel_rfl) (fun _ _ _ h => h) (Or.inl ⟨by rfl, ?_⟩) (by assumption) ?_
      rotate_left
      · intro w hSw; (try dsimp only at hSw); go_simp; try (with_reducible rfl)
      try simp only [Act.put, List.setIfInBounds_toArray, List.set_cons_zero, List.set_cons_succ]
      refine wpAnyH_take (i := 1) (oi := { dst := some 4, op := Op.load 5 (Operand.tmp 3), type := 5, pos := "ref.go:46", after := #[{ on := 0, ground := Ground.data }], guard := none }) (v := ?_) rfl (by kernel_rfl) (by kernel_rfl) (by kernel_rfl) (fun _ _ _ h => h) (Or.inl ⟨by rfl, ?_⟩) (by assumption) ?_
      rotate_left
      · intro w hSw; (try dsimp only at hSw); go_simp; try (with_reducible rfl)
      try simp only [Act.put, List.setIfInBounds_toArray, List.set_cons_zero, List.set_cons_succ]
      refine wpAnyH_take (i := 2) (oi := { dst := some 5, op := Op.binOp BinOp.lss 5 (Operand.tmp 4) (Operand.const (Value.int IntKind.u8 1)) 5, type := 4, pos := "ref.go:46", after := #[{ on := 1, ground := Ground.data }], guard := none }) (v := ?_) rfl (by kernel_rfl) (by kernel_rfl) (by kernel_rfl) (fun _ _ _ h => h) (Or.inl ⟨by rfl, ?_⟩) (by assumption) ?_
      rotate_left
      · intro w hSw; (try dsimp only at hSw); go_simp; try (with_reducible rfl)
      try simp only [Act.put, List.setIfInBounds_toArray, List.set_cons_zero, List.set_cons_succ]
      refine wpAnyH_take (i := 3) (oi := { dst := some 6, op := Op.move (Operand.tmp 5), type := 4, pos := "ref.go:46", after := #[{ on := 2, ground := Ground.data }], guard := none }) (v := ?_) rfl (by kernel_rfl) (by kernel_rfl) (by kernel_rfl) (fun _ _ _ h => h) (Or.inl ⟨by rfl, ?_⟩) (by assumption) ?_
      rotate_left
      · intro w hSw; (try dsimp only at hSw); go_simp; try (with_reducible rfl)
      try simp only [Act.put, List.setIfInBounds_toArray, List.set_cons_zero, List.set_cons_succ]
      refine wpAnyH_take (i := 4) (oi := { dst := some 7, op := Op.fieldAddr 54 (Operand.tmp 1) 0, type := 0, pos := "ref.go:46", after := #[{ on := 3, ground := Ground.guard }], guard := some (3, false) }) (v := ?_) rfl (by kernel_rfl) (by kernel_rfl) (by kernel_rfl) (fun _ _ _ h => h) (Or.inl ⟨by rfl, ?_⟩) (by assumption) ?_
      rotate_left
      · intro w hSw; (try dsimp only at hSw); go_simp; try (with_reducible rfl)
      try simp only [Act.put, List.setIfInBounds_toArray, List.set_cons_zero, List.set_cons_succ]
      refine wpAnyH_take (i := 5) (oi := { dst := some 8, op := Op.load 5 (Operand.tmp 7), type := 5, pos := "ref.go:46", after := #[{ on := 4, ground := Ground.data }, { on := 3, ground := Ground.guard }], guard := some (3, false) }) (v := ?_) rfl (by kernel_rfl) (by kernel_rfl) (by kernel_rfl) (fun _ _ _ h => h) (Or.inl ⟨by rfl, ?_⟩) (by assumption) ?_
      rotate_left
      · intro w hSw; (try dsimp only at hSw); go_simp; try (with_reducible rfl)
      try simp only [Act.put, List.setIfInBounds_toArray, List.set_cons_zero, List.set_cons_succ]
      refine wpAnyH_take (i := 6) (oi := { dst := some 9, op := Op.binOp BinOp.gtr 5 (Operand.tmp 8) (Operand.const (Value.int IntKind.u8 11)) 5, type := 4, pos := "ref.go:46", after := #[{ on := 5, ground := Ground.data }, { on := 3, ground := Ground.guard }], guard := some (3, false) }) (v := ?_) rfl (by kernel_rfl) (by kernel_rfl) (by kernel_rfl) (fun _ _ _ h => h) (Or.inl ⟨by rfl, ?_⟩) (by assumption) ?_
      rotate_left
      · intro w hSw; (try dsimp only at hSw); go_simp; try (with_reducible rfl)
      try simp only [Act.put, List.setIfInBounds_toArray, List.set_cons_zero, List.set_cons_succ]
      refine wpAnyH_take (i := 7) (oi := { dst := some 10, op := Op.pick (Operand.tmp 6) (Operand.const (Value.bool true)) (Operand.tmp 9), type := 4, pos := "ref.go:46", after := #[{ on := 3, ground := Ground.data }, { on := 6, ground := Ground.data }], guard := none }) (v := ?_) rfl (by kernel_rfl) (by kernel_rfl) (by kernel_rfl) (fun _ _ _ h => h) (Or.inl ⟨by rfl, ?_⟩) (by assumption) ?_
      rotate_left
      · intro w hSw; (try dsimp only at hSw); go_simp; try (with_reducible rfl)
      try simp only [Act.put, List.setIfInBounds_toArray, List.set_cons_zero, List.set_cons_succ]
      refine wpAnyH_take (i := 8) (oi := { dst := some 11, op := Op.move (Operand.tmp 10), type := 4, pos := "ref.go:46", after := #[{ on := 7, ground := Ground.data }, { on := 3, ground := Ground.chain }], guard := none }) (v := ?_) rfl (by kernel_rfl) (by kernel_rfl) (by kernel_rfl) (fun _ _ _ h => h) (Or.inl ⟨by rfl, ?_⟩) (by assumption) ?_
      rotate_left
      · intro w hSw; (try dsimp only at hSw); go_simp; try (with_reducible rfl)
      try simp only [Act.put, List.setIfInBounds_toArray, List.set_cons_zero, List.set_cons_succ]
      refine wpAnyH_take (i := 9) (oi := { dst := some 12, op := Op.fieldAddr 54 (Operand.tmp 1) 0, type := 0, pos := "ref.go:46", after := #[{ on := 8, ground := Ground.guard }], guard := some (8, false) }) (v := undef) rfl (by kernel_rfl) (by kernel_rfl) (by kernel_rfl) (fun _ _ _ h => h) (Or.inr ⟨by rfl, rfl⟩) (by assumption) ?_
      try simp only [Act.put, List.setIfInBounds_toArray, List.set_cons_zero, List.set_cons_succ]
      refine wpAnyH_take (i := 10) (oi := { dst := some 13, op := Op.load 5 (Operand.tmp 12), type := 5, pos := "ref.go:46", after := #[{ on := 9, ground := Ground.data }, { on := 8, ground := Ground.guard }], guard := some (8, false) }) (v := undef) rfl (by kernel_rfl) (by kernel_rfl) (by kernel_rfl) (fun _ _ _ h => h) (Or.inr ⟨by rfl, rfl⟩) (by assumption) ?_
      try simp only [Act.put, List.setIfInBounds_toArray, List.set_cons_zero, List.set_cons_succ]
      refine wpAnyH_take (i := 11) (oi := { dst := some 14, op := Op.call { callee := Callee.value (Operand.func 34), args := #[Operand.tmp 13], argTypes := #[5] }, type := 4, pos := "ref.go:46", after := #[{ on := 10, ground := Ground.data }, { on := 8, ground := Ground.chain }, { on := 8, ground := Ground.guard }], guard := some (8, false) }) (v := undef) rfl (by kernel_rfl) (by kernel_rfl) (by kernel_rfl) (fun _ _ _ h => h) (Or.inr ⟨by rfl, rfl⟩) (by assumption) ?_
      try simp only [Act.put, List.setIfInBounds_toArray, List.set_cons_zero, List.set_cons_succ]
      refine wpAnyH_take (i := 12) (oi := { dst := some 15, op := Op.fieldAddr 54 (Operand.tmp 1) 1, type := 0, pos := "ref.go:46", after := #[{ on := 8, ground := Ground.guard }], guard := some (8, false) }) (v := undef) rfl (by kernel_rfl) (by kernel_rfl) (by kernel_rfl) (fun _ _ _ h => h) (Or.inr ⟨by rfl, rfl⟩) (by assumption) ?_
      try simp only [Act.put, List.setIfInBounds_toArray, List.set_cons_zero, List.set_cons_succ]
      refine wpAnyH_take (i := 13) (oi := { dst := some 16, op := Op.load 9 (Operand.tmp 15), type := 9, pos := "ref.go:46", after := #[{ on := 12, ground := Ground.data }, { on := 8, ground := Ground.guard }], guard := some (8, false) }) (v := undef) rfl (by kernel_rfl) (by kernel_rfl) (by kernel_rfl) (fun _ _ _ h => h) (Or.inr ⟨by rfl, rfl⟩) (by assumption) ?_
      try simp only [Act.put, List.setIfInBounds_toArray, List.set_cons_zero, List.set_cons_succ]
      refine wpAnyH_take (i := 14) (oi := { dst := some 17, op := Op.binOp BinOp.neq 9 (Operand.tmp 16) (Operand.const (Value.string { data := #[] })) 9, type := 4, pos := "ref.go:46", after := #[{ on := 13, ground := Ground.data }, { on := 8, ground := Ground.guard }], guard := some (8, false) }) (v := undef) rfl (by kernel_rfl) (by kernel_rfl) (by kernel_rfl) (fun _ _ _ h => h) (Or.inr ⟨by rfl, rfl⟩) (by assumption) ?_
      try simp only [Act.put, List.setIfInBounds_toArray, List.set_cons_zero, List.set_cons_succ]
      refine wpAnyH_take (i := 15) (oi := { dst := some 18, op := Op.binOp BinOp.neq 4 (Operand.tmp 14) (Operand.tmp 17) 4, type := 4, pos := "ref.go:46", after := #[{ on := 11, ground := Ground.data }, { on := 14, ground := Ground.data }, { on := 8, ground := Ground.guard }], guard := some (8, false) }) (v := undef) rfl (by kernel_rfl) (by kernel_rfl) (by kernel_rfl) (fun _ _ _ h => h) (Or.inr ⟨by rfl, rfl⟩) (by assumption) ?_
      try simp only [Act.put, List.setIfInBounds_toArray, List.set_cons_zero, List.set_cons_succ]
      refine wpAnyH_take (i := 16) (oi := { dst := some 19, op := Op.pick (Operand.tmp 11) (Operand.const (Value.bool true)) (Operand.tmp 18), type := 4, pos := "ref.go:46", after := #[{ on := 8, ground := Ground.data }, { on := 15, ground := Ground.data }], guard := none }) (v := ?_) rfl (by kernel_rfl) (by kernel_rfl) (by kernel_rfl) (fun _ _ _ h => h) (Or.inl ⟨by rfl, ?_⟩) (by assumption) ?_
      rotate_left
      · intro w hSw; (try dsimp only at hSw); go_simp; try (with_reducible rfl)
      try simp only [Act.put, List.setIfInBounds_toArray, List.set_cons_zero, List.set_cons_succ]
      refine wpAnyH_take (i := 17) (oi := { dst := some 20, op := Op.move (Operand.tmp 19), type := 4, pos := "ref.go:46", after := #[{ on := 16, ground := Ground.data }, { on := 11, ground := Ground.chain }], guard := none }) (v := ?_) rfl (by kernel_rfl) (by kernel_rfl) (by kernel_rfl) (fun _ _ _ h => h) (Or.inl ⟨by rfl, ?_⟩) (by assumption) ?_
      rotate_left
      · intro w hSw; (try dsimp only at hSw); go_simp; try (with_reducible rfl)
      try simp only [Act.put, List.setIfInBounds_toArray, List.set_cons_zero, List.set_cons_succ]
      refine wpAnyH_take (i := 18) (oi := { dst := some 21, op := Op.fieldAddr 54 (Operand.tmp 1) 0, type := 0, pos := "ref.go:46", after := #[{ on := 17, ground := Ground.guard }], guard := some (17, false) }) (v := undef) rfl (by kernel_rfl) (by kernel_rfl) (by kernel_rfl) (fun _ _ _ h => h) (Or.inr ⟨by rfl, rfl⟩) (by assumption) ?_
      try simp only [Act.put, List.setIfInBounds_toArray, List.set_cons_zero, List.set_cons_succ]
      refine wpAnyH_take (i := 19) (oi := { dst := some 22, op := Op.load 5 (Operand.tmp 21), type := 5, pos := "ref.go:46", after := #[{ on := 18, ground := Ground.data }, { on := 17, ground := Ground.guard }], guard := some (17, false) }) (v := undef) rfl (by kernel_rfl) (by kernel_rfl) (by kernel_rfl) (fun _ _ _ h => h) (Or.inr ⟨by rfl, rfl⟩) (by assumption) ?_
      try simp only [Act.put, List.setIfInBounds_toArray, List.set_cons_zero, List.set_cons_succ]
      refine wpAnyH_take (i := 20) (oi := { dst := some 23, op := Op.fieldAddr 54 (Operand.tmp 1) 2, type := 0, pos := "ref.go:46", after := #[{ on := 17, ground := Ground.guard }], guard := some (17, false) }) (v := undef) rfl (by kernel_rfl) (by kernel_rfl) (by kernel_rfl) (fun _ _ _ h => h) (Or.inr ⟨by rfl, rfl⟩) (by assumption) ?_
      try simp only [Act.put, List.setIfInBounds_toArray, List.set_cons_zero, List.set_cons_succ]
      refine wpAnyH_take (i := 21) (oi := { dst := some 24, op := Op.load 38 (Operand.tmp 23), type := 38, pos := "ref.go:46", after := #[{ on := 20, ground := Ground.data }, { on := 17, ground := Ground.guard }], guard := some (17, false) }) (v := undef) rfl (by kernel_rfl) (by kernel_rfl) (by kernel_rfl) (fun _ _ _ h => h) (Or.inr ⟨by rfl, rfl⟩) (by assumption) ?_
      try simp only [Act.put, List.setIfInBounds_toArray, List.set_cons_zero, List.set_cons_succ]
      refine wpAnyH_take (i := 22) (oi := { dst := some 25, op := Op.call { callee := Callee.builtin Builtin.len, args := #[Operand.tmp 24], argTypes := #[38] }, type := 3, pos := "ref.go:46", after := #[{ on := 21, ground := Ground.data }, { on := 17, ground := Ground.guard }], guard := some (17, false) }) (v := undef) rfl (by kernel_rfl) (by kernel_rfl) (by kernel_rfl) (fun _ _ _ h => h) (Or.inr ⟨by rfl, rfl⟩) (by assumption) ?_
      try simp only [Act.put, List.setIfInBounds_toArray, List.set_cons_zero, List.set_cons_succ]
      refine wpAnyH_take (i := 23) (oi := { dst := some 26, op := Op.call { callee := Callee.value (Operand.func 49), args := #[Operand.tmp 22, Operand.tmp 25], argTypes := #[5, 3] }, type := 4, pos := "ref.go:46", after := #[{ on := 19, ground := Ground.data }, { on := 22, ground := Ground.data }, { on := 17, ground := Ground.chain }, { on := 17, ground := Ground.guard }], guard := some (17, false) }) (v := undef) rfl (by kernel_rfl) (by kernel_rfl) (by kernel_rfl) (fun _ _ _ h => h) (Or.inr ⟨by rfl, rfl⟩) (by assumption) ?_
      try simp only [Act.put, List.setIfInBounds_toArray, List.set_cons_zero, List.set_cons_succ]
      refine wpAnyH_take (i := 24) (oi := { dst := some 27, op := Op.unOp UnOp.not 4 (Operand.tmp 26), type := 4, pos := "ref.go:46", after := #[{ on := 23, ground := Ground.data }, { on := 17, ground := Ground.guard }], guard := some (17, false) }) (v := undef) rfl (by kernel_rfl) (by kernel_rfl) (by kernel_rfl) (fun _ _ _ h => h) (Or.inr ⟨by rfl, rfl⟩) (by assumption) ?_
      try simp only [Act.put, List.setIfInBounds_toArray, List.set_cons_zero, List.set_cons_succ]
      refine wpAnyH_take (i := 25) (oi := { dst := some 28, op := Op.pick (Operand.tmp 20) (Operand.const (Value.bool true)) (Operand.tmp 27), type := 4, pos := "ref.go:46", after := #[{ on := 17, ground := Ground.data }, { on := 24, ground := Ground.data }], guard := none }) (v := ?_) rfl (by kernel_rfl) (by kernel_rfl) (by kernel_rfl) (fun _ _ _ h => h) (Or.inl ⟨by rfl, ?_⟩) (by assumption) ?_
      rotate_left
      · intro w hSw; (try dsimp only at hSw); go_simp; try (with_reducible rfl)
      try simp only [Act.put, List.setIfInBounds_toArray, List.set_cons_zero, List.set_cons_succ]
      refine wpAnyH_done (by kernel_rfl) ?_ _
      go_wp2_with fail
      go_ret
      exact ⟨by rw [HF.out]; rfl, Ext.trans hX (by assumption)⟩
    · have q1 : decide ((k : Int) < 1) = false := by simp; omega
      have q2 : decide ((11 : Int) < (k : Int)) = false := by simp; omega
      have HK1 := Lib.hid (decide_eq_true (show 1 ≤ k by omega))
      have HK2 := Lib.hid (decide_eq_true (show k ≤ 11 by omega))
      rw [HK1.out, HK2.out] at HV
      obtain ⟨nb, hnb⟩ : ∃ z, z = namedB k := ⟨_, rfl⟩
      rw [← hnb] at HV
      have HNB : Hid (namedB k = nb) := Lib.hid hnb.symm
      obtain ⟨cb, hcb⟩ : ∃ z, z = cntB k n := ⟨_, rfl⟩
      rw [← hcb] at HV
      have HCB : Hid (cntB k n = cb) := Lib.hid hcb.symm
      clear hnb hcb HK1 HK2
      by_cases hnm : nm = []
      · subst hnm
        rw [show str [] = (⟨#[]⟩ : ByteArray) from rfl]
        cases nb with
        | true =>
          have HF : Hid (V = false) := Lib.hid (by rw [HV.out]; simp)
          go_enter Tryd.func31, Tryd.ntmps31
          go_upto_region 1 with fail
          obtain ⟨W, hWd⟩ : ∃ W : World, W = w.alloc (.cells #[.int .u8 (k : Int), .string (⟨#[]⟩ : ByteArray), .slice A n cc, .string (str t)] 54) := ⟨_, rfl⟩
          have B := Box.new w 54 #[.int .u8 (k : Int), .string (⟨#[]⟩ : ByteArray), .slice A n cc, .string (str t)]
          have hX : Ext w (w.alloc (.cells #[.int .u8 (k : Int), .string (⟨#[]⟩ : ByteArray), .slice A n cc, .string (str t)] 54)) := (Ext.refl w).alloc _
          rw [← hWd] at B hX
          simp only [← hWd]
          clear hWd
          have k0 : ∀ w', Later W w' → w'.cell? ⟨w.heap.size, 0, none⟩ = some _ := fun w' h => Later.cell h B.c0
          have k1 : ∀ w', Later W w' → w'.cell? ⟨w.heap.size, 1, none⟩ = some _ := fun w' h => Later.cell h B.c1
          have k2 : ∀ w', Later W w' → w'.cell? ⟨w.heap.size, 2, none⟩ = some _ := fun w' h => Later.cell h (B.cell 2)
          have k3 : ∀ w', Later W w' → w'.cell? ⟨w.heap.size, 3, none⟩ = some _ := fun w' h => Later.cell h (B.cell 3)
          have ks := Later.refl W
          refine wp_region_held_drew (S := fun w' => Later W w') (by kernel_rfl) ?_ (fun hHeld => ?_)
          · (try dsimp only); (repeat (first | assumption | apply Later.drew | apply Later.drewN | apply Later.alloc | (refine Later.step ?_ (by assumption))))
          refine wpAnyH_take (i := 0) (oi := { dst := some 3, op := Op.fieldAddr 54 (Operand.tmp 1) 0, type := 0, pos := "ref.go:46", after := #[], guard := none }) (v := ?_) rfl (by kernel_rfl) (by kernel_rfl) (by kernel_rfl) (fun _ _ _ h => h) (Or.inl ⟨by rfl, ?_⟩) (by assumption) ?_
          rotate_left
          · intro w hSw; (try dsimp only at hSw); go_simp; try (with_reducible rfl)
          try simp only [Act.put, List.setIfInBounds_toArray, List.set_cons_zero, List.set_cons_succ]
          refine wpAnyH_take (i := 1) (oi := { dst := some 4, op := Op.load 5 (Operand.tmp 3), type := 5, pos := "ref.go:46", after := #[{ on := 0, ground := Ground.data }], guard := none }) (v := ?_) rfl (by kernel_rfl) (by kernel_rfl) (by kernel_rfl) (fun _ _ _ h => h) (Or.inl ⟨by rfl, ?_⟩) (by assumption) ?_
          rotate_left
          · intro w hSw; (try dsimp only at hSw); go_simp; try (with_reducible rfl)
          try simp only [Act.put, List.setIfInBounds_toArray, List.set_cons_zero, List.set_cons_succ]
          refine wpAnyH_take (i := 2) (oi := { dst := some 5, op := Op.binOp BinOp.lss 5 (Operand.tmp 4) (Operand.const (Value.int IntKind.u8 1)) 5, type := 4, pos := "ref.go:46", after := #[{ on := 1, ground := Ground.data }], guard := none }) (v := ?_) rfl (by kernel_rfl) (by kernel_rfl) (by kernel_rfl) (fun _ _ _ h => h) (Or.inl ⟨by rfl, ?_⟩) (by assumption) ?_
          rotate_left
          · intro w hSw; (try dsimp only at hSw); go_simp; try (with_reducible rfl)
          try simp only [Act.put, List.setIfInBounds_toArray, List.set_cons_zero, List.set_cons_succ]
          refine wpAnyH_take (i := 3) (oi := { dst := some 6, op := Op.move (Operand.tmp 5), type := 4, pos := "ref.go:46", after := #[{ on := 2, ground := Ground.data }], guard := none }) (v := ?_) rfl (by kernel_rfl) (by kernel_rfl) (by kernel_rfl) (fun _ _ _ h => h) (Or.inl ⟨by rfl, ?_⟩) (by assumption) ?_
          rotate_left
          · intro w hSw; (try dsimp only at hSw); go_simp; try (with_reducible rfl)
          try simp only [Act.put, List.setIfInBounds_toArray, List.set_cons_zero, List.set_cons_succ]
          refine wpAnyH_take (i := 4) (oi := { dst := some 7, op := Op.fieldAddr 54 (Operand.tmp 1) 0, type := 0, pos := "ref.go:46", after := #[{ on := 3, ground := Ground.guard }], guard := some (3, false) }) (v := ?_) rfl (by kernel_rfl) (by kernel_rfl) (by kernel_rfl) (fun _ _ _ h => h) (Or.inl ⟨by rfl, ?_⟩) (by assumption) ?_
          rotate_left
          · intro w hSw; (try dsimp only at hSw); go_simp; try (with_reducible rfl)
          try simp only [Act.put, List.setIfInBounds_toArray, List.set_cons_zero, List.set_cons_succ]
          refine wpAnyH_take (i := 5) (oi := { dst := some 8, op := Op.load 5 (Operand.tmp 7), type := 5, pos := "ref.go:46", after := #[{ on := 4, ground := Ground.data }, { on := 3, ground := Ground.guard }], guard := some (3, false) }) (v := ?_) rfl (by kernel_rfl) (by kernel_rfl) (by kernel_rfl) (fun _ _ _ h => h) (Or.inl ⟨by rfl, ?_⟩) (by assumption) ?_
          rotate_left
          · intro w hSw; (try dsimp only at hSw); go_simp; try (with_reducible rfl)
          try simp only [Act.put, List.setIfInBounds_toArray, List.set_cons_zero, List.set_cons_succ]
          refine wpAnyH_take (i := 6) (oi := { dst := some 9, op := Op.binOp BinOp.gtr 5 (Operand.tmp 8) (Operand.const (Value.int IntKind.u8 11)) 5, type := 4, pos := "ref.go:46", after := #[{ on := 5, ground := Ground.data }, { on := 3, ground := Ground.guard }], guard := some (3, false) }) (v := ?_) rfl (by kernel_rfl) (by kernel_rfl) (by kernel_rfl) (fun _ _ _ h => h) (Or.inl ⟨by rfl, ?_⟩) (by assumption) ?_
          rotate_left
          · intro w hSw; (try dsimp only at hSw); go_simp; try (with_reducible rfl)
          try simp only [Act.put, List.setIfInBounds_toArray, List.set_cons_zero, List.set_cons_succ]
          refine wpAnyH_take (i := 7) (oi := { dst := some 10, op := Op.pick (Operand.tmp 6) (Operand.const (Value.bool true)) (Operand.tmp 9), type := 4, pos := "ref.go:46", after := #[{ on := 3, ground := Ground.data }, { on := 6, ground := Ground.data }], guard := none }) (v := ?_) rfl (by kernel_rfl) (by kernel_rfl) (by kernel_rfl) (fun _ _ _ h => h) (Or.inl ⟨by rfl, ?_⟩) (by assumption) ?_
          rotate_left
          · intro w hSw; (try dsimp only at hSw); go_simp; try (with_reducible rfl)
          try simp only [Act.put, List.setIfInBounds_toArray, List.set_cons_zero, List.set_cons_succ]
          refine wpAnyH_take (i := 8) (oi := { dst := some 11, op := Op.move (Operand.tmp 10), type := 4, pos := "ref.go:46", after := #[{ on := 7, ground := Ground.data }, { on := 3, ground := Ground.chain }], guard := none }) (v := ?_) rfl (by kernel_rfl) (by kernel_rfl) (by kernel_rfl) (fun _ _ _ h => h) (Or.inl ⟨by rfl, ?_⟩) (by assumption) ?_
          rotate_left
          · intro w hSw; (try dsimp only at hSw); go_simp; try (with_reducible rfl)
          try simp only [Act.put, List.setIfInBounds_toArray, List.set_cons_zero, List.set_cons_succ]
          refine wpAnyH_take (i := 9) (oi := { dst := some 12, op := Op.fieldAddr 54 (Operand.tmp 1) 0, type := 0, pos := "ref.go:46", after := #[{ on := 8, ground := Ground.guard }], guard := some (8, false) }) (v := ?_) rfl (by kernel_rfl) (by kernel_rfl) (by kernel_rfl) (fun _ _ _ h => h) (Or.inl ⟨by rfl, ?_⟩) (by assumption) ?_
          rotate_left
          · intro w hSw; (try dsimp only at hSw); go_simp; try (with_reducible rfl)
          try simp only [Act.put, List.setIfInBounds_toArray, List.set_cons_zero, List.set_cons_succ]
          refine wpAnyH_take (i := 10) (oi := { dst := some 13, op := Op.load 5 (Operand.tmp 12), type := 5, pos := "ref.go:46", after := #[{ on := 9, ground := Ground.data }, { on := 8, ground := Ground.guard }], guard := some (8, false) }) (v := ?_) rfl (by kernel_rfl) (by kernel_rfl) (by kernel_rfl) (fun _ _ _ h => h) (Or.inl ⟨by rfl, ?_⟩) (by assumption) ?_
          rotate_left
          · intro w hSw; (try dsimp only at hSw); go_simp; try (with_reducible rfl)
          try simp only [Act.put, List.setIfInBounds_toArray, List.set_cons_zero, List.set_cons_succ]
          refine wpAnyH_take (i := 12) (oi := { dst := some 15, op := Op.fieldAddr 54 (Operand.tmp 1) 1, type := 0, pos := "ref.go:46", after := #[{ on := 8, ground := Ground.guard }], guard := some (8, false) }) (v := ?_) rfl (by kernel_rfl) (by kernel_rfl) (by kernel_rfl) (fun _ _ _ h => h) (Or.inl ⟨by rfl, ?_⟩) (by assumption) ?_
          rotate_left
          · intro w hSw; (try dsimp only at hSw); go_simp; try (with_reducible rfl)
          try simp only [Act.put, List.setIfInBounds_toArray, List.set_cons_zero, List.set_cons_succ]
          refine wpAnyH_take (i := 13) (oi := { dst := some 16, op := Op.load 9 (Operand.tmp 15), type := 9, pos := "ref.go:46", after := #[{ on := 12, ground := Ground.data }, { on := 8, ground := Ground.guard }], guard := some (8, false) }) (v := ?_) rfl (by kernel_rfl) (by kernel_rfl) (by kernel_rfl) (fun _ _ _ h => h) (Or.inl ⟨by rfl, ?_⟩) (by assumption) ?_
          rotate_left
          · intro w hSw; (try dsimp only at hSw); go_simp; try (with_reducible rfl)
          try simp only [Act.put, List.setIfInBounds_toArray, List.set_cons_zero, List.set_cons_succ]
          refine wpAnyH_take (i := 14) (oi := { dst := some 17, op := Op.binOp BinOp.neq 9 (Operand.tmp 16) (Operand.const (Value.string { data := #[] })) 9, type := 4, pos := "ref.go:46", after := #[{ on := 13, ground := Ground.data }, { on := 8, ground := Ground.guard }], guard := some (8, false) }) (v := ?_) rfl (by kernel_rfl) (by kernel_rfl) (by kernel_rfl) (fun _ _ _ h => h) (Or.inl ⟨by rfl, ?_⟩) (by assumption) ?_
          rotate_left
          · intro w hSw; (try dsimp only at hSw); go_simp; try (with_reducible rfl)
          try simp only [Act.put, List.setIfInBounds_toArray, List.set_cons_zero, List.set_cons_succ]
          refine wpAnyH_ready (rs := [11]) (by kernel_rfl) (by simp) ?_
          refine AllReadyH.cons (o := { dst := some 14, op := Op.call { callee := Callee.value (Operand.func 34), args := #[Operand.tmp 13], argTypes := #[5] }, type := 4, pos := "ref.go:46", after := #[{ on := 10, ground := Ground.data }, { on := 8, ground := Ground.chain }, { on := 8, ground := Ground.guard }], guard := some (8, false) }) rfl (fun K hK => ?_) ?_
          · go_simp
            first
              | (go_at_call 34; (with_reducible refine (named_any _ _ hk).mono ?_); rintro e wk ⟨rfl, rfl⟩; rw [HNB.out])
            try (go_wp2_with fail)
            refine hK.out _ _ ?_ (fun hHeld => ?_)
            · (try dsimp only); (repeat (first | assumption | apply Later.drew | apply Later.drewN | apply Later.alloc | (refine Later.step ?_ (by assumption))))
            clear hK K
            try simp only [Act.put, List.setIfInBounds_toArray, List.set_cons_zero, List.set_cons_succ]
            refine wpAnyH_take (i := 15) (oi := { dst := some 18, op := Op.binOp BinOp.neq 4 (Operand.tmp 14) (Operand.tmp 17) 4, type := 4, pos := "ref.go:46", after := #[{ on := 11, ground := Ground.data }, { on := 14, ground := Ground.data }, { on := 8, ground := Ground.guard }], guard := some (8, false) }) (v := ?_) rfl (by kernel_rfl) (by kernel_rfl) (by kernel_rfl) (fun _ _ _ h => h) (Or.inl ⟨by rfl, ?_⟩) (by assumption) ?_
            rotate_left
            · intro w hSw; (try dsimp only at hSw); go_simp; try (with_reducible rfl)
            try simp only [Act.put, List.setIfInBounds_toArray, List.set_cons_zero, List.set_cons_succ]
            refine wpAnyH_take (i := 16) (oi := { dst := some 19, op := Op.pick (Operand.tmp 11) (Operand.const (Value.bool true)) (Operand.tmp 18), type := 4, pos := "ref.go:46", after := #[{ on := 8, ground := Ground.data }, { on := 15, ground := Ground.data }], guard := none }) (v := ?_) rfl (by kernel_rfl) (by kernel_rfl) (by kernel_rfl) (fun _ _ _ h => h) (Or.inl ⟨by rfl, ?_⟩) (by assumption) ?_
            rotate_left
            · intro w hSw; (try dsimp only at hSw); go_simp; try (with_reducible rfl)
            try simp only [Act.put, List.setIfInBounds_toArray, List.set_cons_zero, List.set_cons_succ]
            refine wpAnyH_take (i := 17) (oi := { dst := some 20, op := Op.move (Operand.tmp 19), type := 4, pos := "ref.go:46", after := #[{ on := 16, ground := Ground.data }, { on := 11, ground := Ground.chain }], guard := none }) (v := ?_) rfl (by kernel_rfl) (by kernel_rfl) (by kernel_rfl) (fun _ _ _ h => h) (Or.inl ⟨by rfl, ?_⟩) (by assumption) ?_
            rotate_left
            · intro w hSw; (try dsimp only at hSw); go_simp; try (with_reducible rfl)
            try simp only [Act.put, List.setIfInBounds_toArray, List.set_cons_zero, List.set_cons_succ]
            refine wpAnyH_take (i := 18) (oi := { dst := some 21, op := Op.fieldAddr 54 (Operand.tmp 1) 0, type := 0, pos := "ref.go:46", after := #[{ on := 17, ground := Ground.guard }], guard := some (17, false) }) (v := undef) rfl (by kernel_rfl) (by kernel_rfl) (by kernel_rfl) (fun _ _ _ h => h) (Or.inr ⟨by rfl, rfl⟩) (by assumption) ?_
            try simp only [Act.put, List.setIfInBounds_toArray, List.set_cons_zero, List.set_cons_succ]
            refine wpAnyH_take (i := 19) (oi := { dst := some 22, op := Op.load 5 (Operand.tmp 21), type := 5, pos := "ref.go:46", after := #[{ on := 18, ground := Ground.data }, { on := 17, ground := Ground.guard }], guard := some (17, false) }) (v := undef) rfl (by kernel_rfl) (by kernel_rfl) (by kernel_rfl) (fun _ _ _ h => h) (Or.inr ⟨by rfl, rfl⟩) (by assumption) ?_
            try simp only [Act.put, List.setIfInBounds_toArray, List.set_cons_zero, List.set_cons_succ]
            refine wpAnyH_take (i := 20) (oi := { dst := some 23, op := Op.fieldAddr 54 (Operand.tmp 1) 2, type := 0, pos := "ref.go:46", after := #[{ on := 17, ground := Ground.guard }], guard := some (17, false) }) (v := undef) rfl (by kernel_rfl) (by kernel_rfl) (by kernel_rfl) (fun _ _ _ h => h) (Or.inr ⟨by rfl, rfl⟩) (by assumption) ?_
            try simp only [Act.put, List.setIfInBounds_toArray, List.set_cons_zero, List.set_cons_succ]
            refine wpAnyH_take (i := 21) (oi := { dst := some 24, op := Op.load 38 (Operand.tmp 23), type := 38, pos := "ref.go:46", after := #[{ on := 20, ground := Ground.data }, { on := 17, ground := Ground.guard }], guard := some (17, false) }) (v := undef) rfl (by kernel_rfl) (by kernel_rfl) (by kernel_rfl) (fun _ _ _ h => h) (Or.inr ⟨by rfl, rfl⟩) (by assumption) ?_
            try simp only [Act.put, List.setIfInBounds_toArray, List.set_cons_zero, List.set_cons_succ]
            refine wpAnyH_take (i := 22) (oi := { dst := some 25, op := Op.call { callee := Callee.builtin Builtin.len, args := #[Operand.tmp 24], argTypes := #[38] }, type := 3, pos := "ref.go:46", after := #[{ on := 21, ground := Ground.data }, { on := 17, ground := Ground.guard }], guard := some (17, false) }) (v := undef) rfl (by kernel_rfl) (by kernel_rfl) (by kernel_rfl) (fun _ _ _ h => h) (Or.inr ⟨by rfl, rfl⟩) (by assumption) ?_
            try simp only [Act.put, List.setIfInBounds_toArray, List.set_cons_zero, List.set_cons_succ]
            refine wpAnyH_take (i := 23) (oi := { dst := some 26, op := Op.call { callee := Callee.value (Operand.func 49), args := #[Operand.tmp 22, Operand.tmp 25], argTypes := #[5, 3] }, type := 4, pos := "ref.go:46", after := #[{ on := 19, ground := Ground.data }, { on := 22, ground := Ground.data }, { on := 17, ground := Ground.chain }, { on := 17, ground := Ground.guard }], guard := some (17, false) }) (v := undef) rfl (by kernel_rfl) (by kernel_rfl) (by kernel_rfl) (fun _ _ _ h => h) (Or.inr ⟨by rfl, rfl⟩) (by assumption) ?_
            try simp only [Act.put, List.setIfInBounds_toArray, List.set_cons_zero, List.set_cons_succ]
            refine wpAnyH_take (i := 24) (oi := { dst := some 27, op := Op.unOp UnOp.not 4 (Operand.tmp 26), type := 4, pos := "ref.go:46", after := #[{ on := 23, ground := Ground.data }, { on := 17, ground := Ground.guard }], guard := some (17, false) }) (v := undef) rfl (by kernel_rfl) (by kernel_rfl) (by kernel_rfl) (fun _ _ _ h => h) (Or.inr ⟨by rfl, rfl⟩) (by assumption) ?_
            try simp only [Act.put, List.setIfInBounds_toArray, List.set_cons_zero, List.set_cons_succ]
            refine wpAnyH_take (i := 25) (oi := { dst := some 28, op := Op.pick (Operand.tmp 20) (Operand.const (Value.bool true)) (Operand.tmp 27), type := 4, pos := "ref.go:46", after := #[{ on := 17, ground := Ground.data }, { on := 24, ground := Ground.data }], guard := none }) (v := ?_) rfl (by kernel_rfl) (by kernel_rfl) (by kernel_rfl) (fun _ _ _ h => h) (Or.inl ⟨by rfl, ?_⟩) (by assumption) ?_
            rotate_left
            · intro w hSw; (try dsimp only at hSw); go_simp; try (with_reducible rfl)
            try simp only [Act.put, List.setIfInBounds_toArray, List.set_cons_zero, List.set_cons_succ]
            refine wpAnyH_done (by kernel_rfl) ?_ _
            go_wp2_with fail
            go_ret
            exact ⟨by rw [HF.out]; rfl, Ext.trans hX (by assumption)⟩
          exact AllReadyH.nil
        | false =>
          cases cb with
          | false =>
            have HF : Hid (V = false) := Lib.hid (by rw [HV.out]; simp)
            go_enter Tryd.func31, Tryd.ntmps31
            go_upto_region 1 with fail
            obtain ⟨W, hWd⟩ : ∃ W : World, W = w.alloc (.cells #[.int .u8 (k : Int), .string (⟨#[]⟩ : ByteArray), .slice A n cc, .string (str t)] 54) := ⟨_, rfl⟩
            have B := Box.new w 54 #[.int .u8 (k : Int), .string (⟨#[]⟩ : ByteArray), .slice A n cc, .string (str t)]
            have hX : Ext w (w.alloc (.cells #[.int .u8 (k : Int), .string (⟨#[]⟩ : ByteArray), .slice A n cc, .string (str t)] 54)) := (Ext.refl w).alloc _
            rw [← hWd] at B hX
            simp only [← hWd]
            clear hWd
            have k0 : ∀ w', Later W w' → w'.cell? ⟨w.heap.size, 0, none⟩ = some _ := fun w' h => Later.cell h B.c0
            have k1 : ∀ w', Later W w' → w'.cell? ⟨w.heap.size, 1, none⟩ = some _ := fun w' h => Later.cell h B.c1
            have k2 : ∀ w', Later W w' → w'.cell? ⟨w.heap.size, 2, none⟩ = some _ := fun w' h => Later.cell h (B.cell 2)
            have k3 : ∀ w', Later W w' → w'.cell? ⟨w.heap.size, 3, none⟩ = some _ := fun w' h => Later.cell h (B.cell 3)
            have ks := Later.refl W
            go_region_held3 (fun w' => Later W w') ((repeat (first | assumption | apply Later.drew | apply Later.drewN | apply Later.alloc | (refine Later.step ?_ (by assumption))))) (first
              | (go_at_call 34; (with_reducible refine (named_any _ _ hk).mono ?_); rintro e wk ⟨rfl, rfl⟩; rw [HNB.out])
              | (go_at_call 49; (with_reducible refine (counts_any _ _ _ hk hn).mono ?_); rintro e wk ⟨rfl, rfl⟩; rw [HCB.out])
              )
            all_goals (go_wp2_with fail; go_ret; exact ⟨by rw [HF.out]; rfl, Ext.trans hX (by assumption)⟩)
          | true =>
            go_enter Tryd.func31, Tryd.ntmps31
            go_upto_region 1 with fail
            obtain ⟨W, hWd⟩ : ∃ W : World, W = w.alloc (.cells #[.int .u8 (k : Int), .string (⟨#[]⟩ : ByteArray), .slice A n cc, .string (str t)] 54) := ⟨_, rfl⟩
            have B := Box.new w 54 #[.int .u8 (k : Int), .string (⟨#[]⟩ : ByteArray), .slice A n cc, .string (str t)]
            have hX : Ext w (w.alloc (.cells #[.int .u8 (k : Int), .string (⟨#[]⟩ : ByteArray), .slice A n cc, .string (str t)] 54)) := (Ext.refl w).alloc _
            rw [← hWd] at B hX
            simp only [← hWd]
            clear hWd
            have k0 : ∀ w', Later W w' → w'.cell? ⟨w.heap.size, 0, none⟩ = some _ := fun w' h => Later.cell h B.c0
            have k1 : ∀ w', Later W w' → w'.cell? ⟨w.heap.size, 1, none⟩ = some _ := fun w' h => Later.cell h B.c1
            have k2 : ∀ w', Later W w' → w'.cell? ⟨w.heap.size, 2, none⟩ = some _ := fun w' h => Later.cell h (B.cell 2)
            have k3 : ∀ w', Later W w' → w'.cell? ⟨w.heap.size, 3, none⟩ = some _ := fun w' h => Later.cell h (B.cell 3)
            have ks := Later.refl W
            have c1 : W.cell? ⟨w.heap.size, 1, none⟩ = some (.string (⟨#[]⟩ : ByteArray)) := B.c1
            have c3 : W.cell? ⟨w.heap.size, 3, none⟩ = some (.string (str t)) := B.cell 3
            have c0 : W.cell? ⟨w.heap.size, 0, none⟩ = some (.int .u8 (k : Int)) := B.c0
            go_region_held3 (fun w' => Later W w') ((repeat (first | assumption | apply Later.drew | apply Later.drewN | apply Later.alloc | (refine Later.step ?_ (by assumption))))) (first
              | (go_at_call 34; (with_reducible refine (named_any _ _ hk).mono ?_); rintro e wk ⟨rfl, rfl⟩; rw [HNB.out])
              | (go_at_call 49; (with_reducible refine (counts_any _ _ _ hk hn).mono ?_); rintro e wk ⟨rfl, rfl⟩; rw [HCB.out])
              )
            all_goals (
              have hLW : Ext W _ := show Later W _ by assumption
              have hXX := hX.trans hLW
              have c1 := hLW.cell c1
              have c3 := hLW.cell c3
              have c0 := hLW.cell c0
              clear k0 k1 k2 k3 ks
              simp only [List.isEmpty_nil, Bool.true_or, Bool.not_true, beq_self_eq_true, Bool.not_false, Bool.true_and, Bool.and_true] at HV)
            all_goals (
              have hss : (str t).size = t.length := rfl
              go_wp2_with fail
              refine (text_any t _ (by omega)).mono ?_
              rintro e w2 ⟨rfl, rfl⟩
              obtain ⟨eb, heb⟩ : ∃ eb, eb = endB t := ⟨_, rfl⟩
              rw [← heb] at HV ⊢
              cases eb with
              | false =>
                have HF : Hid (V = false) := Lib.hid (by rw [HV.out]; simp)
                clear heb
                go_wp2_with fail
                go_ret
                exact ⟨by rw [HF.out]; rfl, hXX⟩
              | true =>
                clear heb
                by_cases h65 : t.length ≤ 65536
                · have e65 : decide ((t.length : Int) ≤ 65536) = true := by simp; omega
                  have HL := Lib.hid (decide_eq_true h65)
                  clear h65
                  go_wp2_with fail
                  refine (texted_any k _ hk).mono ?_
                  rintro e w3 ⟨rfl, rfl⟩
                  obtain ⟨kt, hkt⟩ : ∃ kt, kt = (k == 1) := ⟨_, rfl⟩
                  rw [← hkt] at HV ⊢
                  cases kt with
                  | true =>
                    have HF : Hid (V = true) := Lib.hid (by rw [HV.out, HL.out]; simp)
                    clear hkt
                    go_wp2_with fail
                    go_ret
                    exact ⟨by rw [HF.out]; rfl, hXX⟩
                  | false =>
                    clear hkt
                    obtain ⟨te, hte⟩ : ∃ te, te = t.isEmpty := ⟨_, rfl⟩
                    have ete : ((str t).toList == []) = te := by rw [Lib.toList_data, str_list, hte]; cases t <;> rfl
                    have HF : Hid (V = te) := Lib.hid (by rw [HV.out, HL.out, ← hte]; simp)
                    clear hte
                    cases te with
                    | true =>
                      go_wp2_with fail
                      go_ret
                      exact ⟨by rw [HF.out]; rfl, hXX⟩
                    | false =>
                      go_wp2_with fail
                      go_ret
                      exact ⟨by rw [HF.out]; rfl, hXX⟩
                · have e65 : decide ((t.length : Int) ≤ 65536) = false := by simp; omega
                  have HF : Hid (V = false) := Lib.hid (by rw [HV.out, decide_eq_false h65]; simp)
                  clear h65
                  go_wp2_with fail
                  go_ret
                  exact ⟨by rw [HF.out]; rfl, hXX⟩
              )
      · have e1 : ((str nm).toList == []) = false := by rw [Lib.toList_data, str_list]; simpa using hnm
        have e2 : (str nm).toList ≠ [] := by rw [Lib.toList_data, str_list]; exact hnm
        have hie : nm.isEmpty = false := by cases nm; exact absurd rfl hnm; rfl
        have HIE := Lib.hid hie
        clear hie hnm
        cases nb with
        | false =>
          have HF : Hid (V = false) := Lib.hid (by rw [HV.out, HIE.out]; simp)
          go_enter Tryd.func31, Tryd.ntmps31
          go_upto_region 1 with fail
          obtain ⟨W, hWd⟩ : ∃ W : World, W = w.alloc (.cells #[.int .u8 (k : Int), .string (str nm), .slice A n cc, .string (str t)] 54) := ⟨_, rfl⟩
          have B := Box.new w 54 #[.int .u8 (k : Int), .string (str nm), .slice A n cc, .string (str t)]
          have hX : Ext w (w.alloc (.cells #[.int .u8 (k : Int), .string (str nm), .slice A n cc, .string (str t)] 54)) := (Ext.refl w).alloc _
          rw [← hWd] at B hX
          simp only [← hWd]
          clear hWd
          have k0 : ∀ w', Later W w' → w'.cell? ⟨w.heap.size, 0, none⟩ = some _ := fun w' h => Later.cell h B.c0
          have k1 : ∀ w', Later W w' → w'.cell? ⟨w.heap.size, 1, none⟩ = some _ := fun w' h => Later.cell h B.c1
          have k2 : ∀ w', Later W w' → w'.cell? ⟨w.heap.size, 2, none⟩ = some _ := fun w' h => Later.cell h (B.cell 2)
          have k3 : ∀ w', Later W w' → w'.cell? ⟨w.heap.size, 3, none⟩ = some _ := fun w' h => Later.cell h (B.cell 3)
          have ks := Later.refl W
          refine wp_region_held_drew (S := fun w' => Later W w') (by kernel_rfl) ?_ (fun hHeld => ?_)
          · (try dsimp only); (repeat (first | assumption | apply Later.drew | apply Later.drewN | apply Later.alloc | (refine Later.step ?_ (by assumption))))
          refine wpAnyH_take (i := 0) (oi := { dst := some 3, op := Op.fieldAddr 54 (Operand.tmp 1) 0, type := 0, pos := "ref.go:46", after := #[], guard := none }) (v := ?_) rfl (by kernel_rfl) (by kernel_rfl) (by kernel_rfl) (fun _ _ _ h => h) (Or.inl ⟨by rfl, ?_⟩) (by assumption) ?_
          rotate_left
          · intro w hSw; (try dsimp only at hSw); go_simp; try (with_reducible rfl)
          try simp only [Act.put, List.setIfInBounds_toArray, List.set_cons_zero, List.set_cons_succ]
          refine wpAnyH_take (i := 1) (oi := { dst := some 4, op := Op.load 5 (Operand.tmp 3), type := 5, pos := "ref.go:46", after := #[{ on := 0, ground := Ground.data }], guard := none }) (v := ?_) rfl (by kernel_rfl) (by kernel_rfl) (by kernel_rfl) (fun _ _ _ h => h) (Or.inl ⟨by rfl, ?_⟩) (by assumption) ?_
          rotate_left
          · intro w hSw; (try dsimp only at hSw); go_simp; try (with_reducible rfl)
          try simp only [Act.put, List.setIfInBounds_toArray, List.set_cons_zero, List.set_cons_succ]
          refine wpAnyH_take (i := 2) (oi := { dst := some 5, op := Op.binOp BinOp.lss 5 (Operand.tmp 4) (Operand.const (Value.int IntKind.u8 1)) 5, type := 4, pos := "ref.go:46", after := #[{ on := 1, ground := Ground.data }], guard := none }) (v := ?_) rfl (by kernel_rfl) (by kernel_rfl) (by kernel_rfl) (fun _ _ _ h => h) (Or.inl ⟨by rfl, ?_⟩) (by assumption) ?_
          rotate_left
          · intro w hSw; (try dsimp only at hSw); go_simp; try (with_reducible rfl)
          try simp only [Act.put, List.setIfInBounds_toArray, List.set_cons_zero, List.set_cons_succ]
          refine wpAnyH_take (i := 3) (oi := { dst := some 6, op := Op.move (Operand.tmp 5), type := 4, pos := "ref.go:46", after := #[{ on := 2, ground := Ground.data }], guard := none }) (v := ?_) rfl (by kernel_rfl) (by kernel_rfl) (by kernel_rfl) (fun _ _ _ h => h) (Or.inl ⟨by rfl, ?_⟩) (by assumption) ?_
          rotate_left
          · intro w hSw; (try dsimp only at hSw); go_simp; try (with_reducible rfl)
          try simp only [Act.put, List.setIfInBounds_toArray, List.set_cons_zero, List.set_cons_succ]
          refine wpAnyH_take (i := 4) (oi := { dst := some 7, op := Op.fieldAddr 54 (Operand.tmp 1) 0, type := 0, pos := "ref.go:46", after := #[{ on := 3, ground := Ground.guard }], guard := some (3, false) }) (v := ?_) rfl (by kernel_rfl) (by kernel_rfl) (by kernel_rfl) (fun _ _ _ h => h) (Or.inl ⟨by rfl, ?_⟩) (by assumption) ?_
          rotate_left
          · intro w hSw; (try dsimp only at hSw); go_simp; try (with_reducible rfl)
          try simp only [Act.put, List.setIfInBounds_toArray, List.set_cons_zero, List.set_cons_succ]
          refine wpAnyH_take (i := 5) (oi := { dst := some 8, op := Op.load 5 (Operand.tmp 7), type := 5, pos := "ref.go:46", after := #[{ on := 4, ground := Ground.data }, { on := 3, ground := Ground.guard }], guard := some (3, false) }) (v := ?_) rfl (by kernel_rfl) (by kernel_rfl) (by kernel_rfl) (fun _ _ _ h => h) (Or.inl ⟨by rfl, ?_⟩) (by assumption) ?_
          rotate_left
          · intro w hSw; (try dsimp only at hSw); go_simp; try (with_reducible rfl)
          try simp only [Act.put, List.setIfInBounds_toArray, List.set_cons_zero, List.set_cons_succ]
          refine wpAnyH_take (i := 6) (oi := { dst := some 9, op := Op.binOp BinOp.gtr 5 (Operand.tmp 8) (Operand.const (Value.int IntKind.u8 11)) 5, type := 4, pos := "ref.go:46", after := #[{ on := 5, ground := Ground.data }, { on := 3, ground := Ground.guard }], guard := some (3, false) }) (v := ?_) rfl (by kernel_rfl) (by kernel_rfl) (by kernel_rfl) (fun _ _ _ h => h) (Or.inl ⟨by rfl, ?_⟩) (by assumption) ?_
          rotate_left
          · intro w hSw; (try dsimp only at hSw); go_simp; try (with_reducible rfl)
          try simp only [Act.put, List.setIfInBounds_toArray, List.set_cons_zero, List.set_cons_succ]
          refine wpAnyH_take (i := 7) (oi := { dst := some 10, op := Op.pick (Operand.tmp 6) (Operand.const (Value.bool true)) (Operand.tmp 9), type := 4, pos := "ref.go:46", after := #[{ on := 3, ground := Ground.data }, { on := 6, ground := Ground.data }], guard := none }) (v := ?_) rfl (by kernel_rfl) (by kernel_rfl) (by kernel_rfl) (fun _ _ _ h => h) (Or.inl ⟨by rfl, ?_⟩) (by assumption) ?_
          rotate_left
          · intro w hSw; (try dsimp only at hSw); go_simp; try (with_reducible rfl)
          try simp only [Act.put, List.setIfInBounds_toArray, List.set_cons_zero, List.set_cons_succ]
          refine wpAnyH_take (i := 8) (oi := { dst := some 11, op := Op.move (Operand.tmp 10), type := 4, pos := "ref.go:46", after := #[{ on := 7, ground := Ground.data }, { on := 3, ground := Ground.chain }], guard := none }) (v := ?_) rfl (by kernel_rfl) (by kernel_rfl) (by kernel_rfl) (fun _ _ _ h => h) (Or.inl ⟨by rfl, ?_⟩) (by assumption) ?_
          rotate_left
          · intro w hSw; (try dsimp only at hSw); go_simp; try (with_reducible rfl)
          try simp only [Act.put, List.setIfInBounds_toArray, List.set_cons_zero, List.set_cons_succ]
          refine wpAnyH_take (i := 9) (oi := { dst := some 12, op := Op.fieldAddr 54 (Operand.tmp 1) 0, type := 0, pos := "ref.go:46", after := #[{ on := 8, ground := Ground.guard }], guard := some (8, false) }) (v := ?_) rfl (by kernel_rfl) (by kernel_rfl) (by kernel_rfl) (fun _ _ _ h => h) (Or.inl ⟨by rfl, ?_⟩) (by assumption) ?_
          rotate_left
          · intro w hSw; (try dsimp only at hSw); go_simp; try (with_reducible rfl)
          try simp only [Act.put, List.setIfInBounds_toArray, List.set_cons_zero, List.set_cons_succ]
          refine wpAnyH_take (i := 10) (oi := { dst := some 13, op := Op.load 5 (Operand.tmp 12), type := 5, pos := "ref.go:46", after := #[{ on := 9, ground := Ground.data }, { on := 8, ground := Ground.guard }], guard := some (8, false) }) (v := ?_) rfl (by kernel_rfl) (by kernel_rfl) (by kernel_rfl) (fun _ _ _ h => h) (Or.inl ⟨by rfl, ?_⟩) (by assumption) ?_
          rotate_left
          · intro w hSw; (try dsimp only at hSw); go_simp; try (with_reducible rfl)
          try simp only [Act.put, List.setIfInBounds_toArray, List.set_cons_zero, List.set_cons_succ]
          refine wpAnyH_take (i := 12) (oi := { dst := some 15, op := Op.fieldAddr 54 (Operand.tmp 1) 1, type := 0, pos := "ref.go:46", after := #[{ on := 8, ground := Ground.guard }], guard := some (8, false) }) (v := ?_) rfl (by kernel_rfl) (by kernel_rfl) (by kernel_rfl) (fun _ _ _ h => h) (Or.inl ⟨by rfl, ?_⟩) (by assumption) ?_
          rotate_left
          · intro w hSw; (try dsimp only at hSw); go_simp; try (with_reducible rfl)
          try simp only [Act.put, List.setIfInBounds_toArray, List.set_cons_zero, List.set_cons_succ]
          refine wpAnyH_take (i := 13) (oi := { dst := some 16, op := Op.load 9 (Operand.tmp 15), type := 9, pos := "ref.go:46", after := #[{ on := 12, ground := Ground.data }, { on := 8, ground := Ground.guard }], guard := some (8, false) }) (v := ?_) rfl (by kernel_rfl) (by kernel_rfl) (by kernel_rfl) (fun _ _ _ h => h) (Or.inl ⟨by rfl, ?_⟩) (by assumption) ?_
          rotate_left
          · intro w hSw; (try dsimp only at hSw); go_simp; try (with_reducible rfl)
          try simp only [Act.put, List.setIfInBounds_toArray, List.set_cons_zero, List.set_cons_succ]
          refine wpAnyH_take (i := 14) (oi := { dst := some 17, op := Op.binOp BinOp.neq 9 (Operand.tmp 16) (Operand.const (Value.string { data := #[] })) 9, type := 4, pos := "ref.go:46", after := #[{ on := 13, ground := Ground.data }, { on := 8, ground := Ground.guard }], guard := some (8, false) }) (v := ?_) rfl (by kernel_rfl) (by kernel_rfl) (by kernel_rfl) (fun _ _ _ h => h) (Or.inl ⟨by rfl, ?_⟩) (by assumption) ?_
          rotate_left
          · intro w hSw; (try dsimp only at hSw); go_simp; try (with_reducible rfl)
          try simp only [Act.put, List.setIfInBounds_toArray, List.set_cons_zero, List.set_cons_succ]
          refine wpAnyH_ready (rs := [11]) (by kernel_rfl) (by simp) ?_
          refine AllReadyH.cons (o := { dst := some 14, op := Op.call { callee := Callee.value (Operand.func 34), args := #[Operand.tmp 13], argTypes := #[5] }, type := 4, pos := "ref.go:46", after := #[{ on := 10, ground := Ground.data }, { on := 8, ground := Ground.chain }, { on := 8, ground := Ground.guard }], guard := some (8, false) }) rfl (fun K hK => ?_) ?_
          · go_simp
            first
              | (go_at_call 34; (with_reducible refine (named_any _ _ hk).mono ?_); rintro e wk ⟨rfl, rfl⟩; rw [HNB.out])
            try (go_wp2_with fail)
            refine hK.out _ _ ?_ (fun hHeld => ?_)
            · (try dsimp only); (repeat (first | assumption | apply Later.drew | apply Later.drewN | apply Later.alloc | (refine Later.step ?_ (by assumption))))
            clear hK K
            try simp only [Act.put, List.setIfInBounds_toArray, List.set_cons_zero, List.set_cons_succ]
            refine wpAnyH_take (i := 15) (oi := { dst := some 18, op := Op.binOp BinOp.neq 4 (Operand.tmp 14) (Operand.tmp 17) 4, type := 4, pos := "ref.go:46", after := #[{ on := 11, ground := Ground.data }, { on := 14, ground := Ground.data }, { on := 8, ground := Ground.guard }], guard := some (8, false) }) (v := ?_) rfl (by kernel_rfl) (by kernel_rfl) (by kernel_rfl) (fun _ _ _ h => h) (Or.inl ⟨by rfl, ?_⟩) (by assumption) ?_
            rotate_left
            · intro w hSw; (try dsimp only at hSw); go_simp; try (with_reducible rfl)
            try simp only [Act.put, List.setIfInBounds_toArray, List.set_cons_zero, List.set_cons_succ]
            refine wpAnyH_take (i := 16) (oi := { dst := some 19, op := Op.pick (Operand.tmp 11) (Operand.const (Value.bool true)) (Operand.tmp 18), type := 4, pos := "ref.go:46", after := #[{ on := 8, ground := Ground.data }, { on := 15, ground := Ground.data }], guard := none }) (v := ?_) rfl (by kernel_rfl) (by kernel_rfl) (by kernel_rfl) (fun _ _ _ h => h) (Or.inl ⟨by rfl, ?_⟩) (by assumption) ?_
            rotate_left
            · intro w hSw; (try dsimp only at hSw); go_simp; try (with_reducible rfl)
            try simp only [Act.put, List.setIfInBounds_toArray, List.set_cons_zero, List.set_cons_succ]
            refine wpAnyH_take (i := 17) (oi := { dst := some 20, op := Op.move (Operand.tmp 19), type := 4, pos := "ref.go:46", after := #[{ on := 16, ground := Ground.data }, { on := 11, ground := Ground.chain }], guard := none }) (v := ?_) rfl (by kernel_rfl) (by kernel_rfl) (by kernel_rfl) (fun _ _ _ h => h) (Or.inl ⟨by rfl, ?_⟩) (by assumption) ?_
            rotate_left
            · intro w hSw; (try dsimp only at hSw); go_simp; try (with_reducible rfl)
            try simp only [Act.put, List.setIfInBounds_toArray, List.set_cons_zero, List.set_cons_succ]
            refine wpAnyH_take (i := 18) (oi := { dst := some 21, op := Op.fieldAddr 54 (Operand.tmp 1) 0, type := 0, pos := "ref.go:46", after := #[{ on := 17, ground := Ground.guard }], guard := some (17, false) }) (v := undef) rfl (by kernel_rfl) (by kernel_rfl) (by kernel_rfl) (fun _ _ _ h => h) (Or.inr ⟨by rfl, rfl⟩) (by assumption) ?_
            try simp only [Act.put, List.setIfInBounds_toArray, List.set_cons_zero, List.set_cons_succ]
            refine wpAnyH_take (i := 19) (oi := { dst := some 22, op := Op.load 5 (Operand.tmp 21), type := 5, pos := "ref.go:46", after := #[{ on := 18, ground := Ground.data }, { on := 17, ground := Ground.guard }], guard := some (17, false) }) (v := undef) rfl (by kernel_rfl) (by kernel_rfl) (by kernel_rfl) (fun _ _ _ h => h) (Or.inr ⟨by rfl, rfl⟩) (by assumption) ?_
            try simp only [Act.put, List.setIfInBounds_toArray, List.set_cons_zero, List.set_cons_succ]
            refine wpAnyH_take (i := 20) (oi := { dst := some 23, op := Op.fieldAddr 54 (Operand.tmp 1) 2, type := 0, pos := "ref.go:46", after := #[{ on := 17, ground := Ground.guard }], guard := some (17, false) }) (v := undef) rfl (by kernel_rfl) (by kernel_rfl) (by kernel_rfl) (fun _ _ _ h => h) (Or.inr ⟨by rfl, rfl⟩) (by assumption) ?_
            try simp only [Act.put, List.setIfInBounds_toArray, List.set_cons_zero, List.set_cons_succ]
            refine wpAnyH_take (i := 21) (oi := { dst := some 24, op := Op.load 38 (Operand.tmp 23), type := 38, pos := "ref.go:46", after := #[{ on := 20, ground := Ground.data }, { on := 17, ground := Ground.guard }], guard := some (17, false) }) (v := undef) rfl (by kernel_rfl) (by kernel_rfl) (by kernel_rfl) (fun _ _ _ h => h) (Or.inr ⟨by rfl, rfl⟩) (by assumption) ?_
            try simp only [Act.put, List.setIfInBounds_toArray, List.set_cons_zero, List.set_cons_succ]
            refine wpAnyH_take (i := 22) (oi := { dst := some 25, op := Op.call { callee := Callee.builtin Builtin.len, args := #[Operand.tmp 24], argTypes := #[38] }, type := 3, pos := "ref.go:46", after := #[{ on := 21, ground := Ground.data }, { on := 17, ground := Ground.guard }], guard := some (17, false) }) (v := undef) rfl (by kernel_rfl) (by kernel_rfl) (by kernel_rfl) (fun _ _ _ h => h) (Or.inr ⟨by rfl, rfl⟩) (by assumption) ?_
            try simp only [Act.put, List.setIfInBounds_toArray, List.set_cons_zero, List.set_cons_succ]
            refine wpAnyH_take (i := 23) (oi := { dst := some 26, op := Op.call { callee := Callee.value (Operand.func 49), args := #[Operand.tmp 22, Operand.tmp 25], argTypes := #[5, 3] }, type := 4, pos := "ref.go:46", after := #[{ on := 19, ground := Ground.data }, { on := 22, ground := Ground.data }, { on := 17, ground := Ground.chain }, { on := 17, ground := Ground.guard }], guard := some (17, false) }) (v := undef) rfl (by kernel_rfl) (by kernel_rfl) (by kernel_rfl) (fun _ _ _ h => h) (Or.inr ⟨by rfl, rfl⟩) (by assumption) ?_
            try simp only [Act.put, List.setIfInBounds_toArray, List.set_cons_zero, List.set_cons_succ]
            refine wpAnyH_take (i := 24) (oi := { dst := some 27, op := Op.unOp UnOp.not 4 (Operand.tmp 26), type := 4, pos := "ref.go:46", after := #[{ on := 23, ground := Ground.data }, { on := 17, ground := Ground.guard }], guard := some (17, false) }) (v := undef) rfl (by kernel_rfl) (by kernel_rfl) (by kernel_rfl) (fun _ _ _ h => h) (Or.inr ⟨by rfl, rfl⟩) (by assumption) ?_
            try simp only [Act.put, List.setIfInBounds_toArray, List.set_cons_zero, List.set_cons_succ]
            refine wpAnyH_take (i := 25) (oi := { dst := some 28, op := Op.pick (Operand.tmp 20) (Operand.const (Value.bool true)) (Operand.tmp 27), type := 4, pos := "ref.go:46", after := #[{ on := 17, ground := Ground.data }, { on := 24, ground := Ground.data }], guard := none }) (v := ?_) rfl (by kernel_rfl) (by kernel_rfl) (by kernel_rfl) (fun _ _ _ h => h) (Or.inl ⟨by rfl, ?_⟩) (by assumption) ?_
            rotate_left
            · intro w hSw; (try dsimp only at hSw); go_simp; try (with_reducible rfl)
            try simp only [Act.put, List.setIfInBounds_toArray, List.set_cons_zero, List.set_cons_succ]
            refine wpAnyH_done (by kernel_rfl) ?_ _
            go_wp2_with fail
            go_ret
            exact ⟨by rw [HF.out]; rfl, Ext.trans hX (by assumption)⟩
          exact AllReadyH.nil
        | true =>
          cases cb with
          | false =>
            have HF : Hid (V = false) := Lib.hid (by rw [HV.out, HIE.out]; simp)
            go_enter Tryd.func31, Tryd.ntmps31
            go_upto_region 1 with fail
            obtain ⟨W, hWd⟩ : ∃ W : World, W = w.alloc (.cells #[.int .u8 (k : Int), .string (str nm), .slice A n cc, .string (str t)] 54) := ⟨_, rfl⟩
            have B := Box.new w 54 #[.int .u8 (k : Int), .string (str nm), .slice A n cc, .string (str t)]
            have hX : Ext w (w.alloc (.cells #[.int .u8 (k : Int), .string (str nm), .slice A n cc, .string (str t)] 54)) := (Ext.refl w).alloc _
            rw [← hWd] at B hX
            simp only [← hWd]
            clear hWd
            have k0 : ∀ w', Later W w' → w'.cell? ⟨w.heap.size, 0, none⟩ = some _ := fun w' h => Later.cell h B.c0
            have k1 : ∀ w', Later W w' → w'.cell? ⟨w.heap.size, 1, none⟩ = some _ := fun w' h => Later.cell h B.c1
            have k2 : ∀ w', Later W w' → w'.cell? ⟨w.heap.size, 2, none⟩ = some _ := fun w' h => Later.cell h (B.cell 2)
            have k3 : ∀ w', Later W w' → w'.cell? ⟨w.heap.size, 3, none⟩ = some _ := fun w' h => Later.cell h (B.cell 3)
            have ks := Later.refl W
            go_region_held3 (fun w' => Later W w') ((repeat (first | assumption | apply Later.drew | apply Later.drewN | apply Later.alloc | (refine Later.step ?_ (by assumption))))) (first
              | (go_at_call 34; (with_reducible refine (named_any _ _ hk).mono ?_); rintro e wk ⟨rfl, rfl⟩; rw [HNB.out])
              | (go_at_call 49; (with_reducible refine (counts_any _ _ _ hk hn).mono ?_); rintro e wk ⟨rfl, rfl⟩; rw [HCB.out])
              )
            all_goals (go_wp2_with fail; go_ret; exact ⟨by rw [HF.out]; rfl, Ext.trans hX (by assumption)⟩)
          | true =>
            go_enter Tryd.func31, Tryd.ntmps31
            go_upto_region 1 with fail
            obtain ⟨W, hWd⟩ : ∃ W : World, W = w.alloc (.cells #[.int .u8 (k : Int), .string (str nm), .slice A n cc, .string (str t)] 54) := ⟨_, rfl⟩
            have B := Box.new w 54 #[.int .u8 (k : Int), .string (str nm), .slice A n cc, .string (str t)]
            have hX : Ext w (w.alloc (.cells #[.int .u8 (k : Int), .string (str nm), .slice A n cc, .string (str t)] 54)) := (Ext.refl w).alloc _
            rw [← hWd] at B hX
            simp only [← hWd]
            clear hWd
            have k0 : ∀ w', Later W w' → w'.cell? ⟨w.heap.size, 0, none⟩ = some _ := fun w' h => Later.cell h B.c0
            have k1 : ∀ w', Later W w' → w'.cell? ⟨w.heap.size, 1, none⟩ = some _ := fun w' h => Later.cell h B.c1
            have k2 : ∀ w', Later W w' → w'.cell? ⟨w.heap.size, 2, none⟩ = some _ := fun w' h => Later.cell h (B.cell 2)
            have k3 : ∀ w', Later W w' → w'.cell? ⟨w.heap.size, 3, none⟩ = some _ := fun w' h => Later.cell h (B.cell 3)
            have ks := Later.refl W
            have c1 : W.cell? ⟨w.heap.size, 1, none⟩ = some (.string (str nm)) := B.c1
            have c3 : W.cell? ⟨w.heap.size, 3, none⟩ = some (.string (str t)) := B.cell 3
            have c0 : W.cell? ⟨w.heap.size, 0, none⟩ = some (.int .u8 (k : Int)) := B.c0
            go_region_held3 (fun w' => Later W w') ((repeat (first | assumption | apply Later.drew | apply Later.drewN | apply Later.alloc | (refine Later.step ?_ (by assumption))))) (first
              | (go_at_call 34; (with_reducible refine (named_any _ _ hk).mono ?_); rintro e wk ⟨rfl, rfl⟩; rw [HNB.out])
              | (go_at_call 49; (with_reducible refine (counts_any _ _ _ hk hn).mono ?_); rintro e wk ⟨rfl, rfl⟩; rw [HCB.out])
              )
            all_goals (
              have hLW : Ext W _ := show Later W _ by assumption
              have hXX := hX.trans hLW
              have c1 := hLW.cell c1
              have c3 := hLW.cell c3
              have c0 := hLW.cell c0
              clear k0 k1 k2 k3 ks
              rw [HIE.out] at HV
              simp only [Bool.false_or, Bool.not_false, Bool.true_and, Bool.and_true, beq_self_eq_true] at HV
              obtain ⟨ib, hib⟩ : ∃ ib, ib = isName nm := ⟨_, rfl⟩
              have HIB : Hid (isName nm = ib) := Lib.hid hib.symm
              rw [← hib] at HV
              clear hib
              go_wp2_with fail
              refine (NameR_any nm _ hnl).mono ?_
              rintro e w5 ⟨rfl, hx5⟩
              rw [HIB.out]
              have hXX := hXX.trans hx5
              have c3 := hx5.cell c3
              have c0 := hx5.cell c0
              cases ib with
              | false =>
                have HF : Hid (V = false) := Lib.hid (by rw [HV.out]; simp)
                go_wp2_with fail
                go_ret
                exact ⟨by rw [HF.out]; rfl, hXX⟩
              | true =>
                simp only [Bool.true_and] at HV
                have hss : (str t).size = t.length := rfl
                go_wp2_with fail
                refine (text_any t _ (by omega)).mono ?_
                rintro e w2 ⟨rfl, rfl⟩
                obtain ⟨eb, heb⟩ : ∃ eb, eb = endB t := ⟨_, rfl⟩
                rw [← heb] at HV ⊢
                cases eb with
                | false =>
                  have HF : Hid (V = false) := Lib.hid (by rw [HV.out]; simp)
                  clear heb
                  go_wp2_with fail
                  go_ret
                  exact ⟨by rw [HF.out]; rfl, hXX⟩
                | true =>
                  clear heb
                  by_cases h65 : t.length ≤ 65536
                  · have e65 : decide ((t.length : Int) ≤ 65536) = true := by simp; omega
                    have HL := Lib.hid (decide_eq_true h65)
                    clear h65
                    go_wp2_with fail
                    refine (texted_any k _ hk).mono ?_
                    rintro e w3 ⟨rfl, rfl⟩
                    obtain ⟨kt, hkt⟩ : ∃ kt, kt = (k == 1) := ⟨_, rfl⟩
                    rw [← hkt] at HV ⊢
                    cases kt with
                    | true =>
                      have HF : Hid (V = true) := Lib.hid (by rw [HV.out, HL.out]; simp)
                      clear hkt
                      go_wp2_with fail
                      go_ret
                      exact ⟨by rw [HF.out]; rfl, hXX⟩
                    | false =>
                      clear hkt
                      obtain ⟨te, hte⟩ : ∃ te, te = t.isEmpty := ⟨_, rfl⟩
                      have ete : ((str t).toList == []) = te := by rw [Lib.toList_data, str_list, hte]; cases t <;> rfl
                      have HF : Hid (V = te) := Lib.hid (by rw [HV.out, HL.out, ← hte]; simp)
                      clear hte
                      cases te with
                      | true =>
                        go_wp2_with fail
                        go_ret
                        exact ⟨by rw [HF.out]; rfl, hXX⟩
                      | false =>
                        go_wp2_with fail
                        go_ret
                        exact ⟨by rw [HF.out]; rfl, hXX⟩
                  · have e65 : decide ((t.length : Int) ≤ 65536) = false := by simp; omega
                    have HF : Hid (V = false) := Lib.hid (by rw [HV.out, decide_eq_false h65]; simp)
                    clear h65
                    go_wp2_with fail
                    go_ret
                    exact ⟨by rw [HF.out]; rfl, hXX⟩
              )
end Go.Proofs.YtnbmmgeoglfbdaaDoor.Sc

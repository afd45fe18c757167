/- Walk: the law's plain. -/
import Derived.Deep.DeepCutAuto
import Derived.Test.YtljncdcjkdgkeaaGreatDoorKCDU
import Derived.Test.YtljncdcjkdgkeaaGreatDoorKCardU
import Derived.Test.YtljncdcjkdgkeaaGreatDoorKLN2
set_option linter.unusedVariables false
set_option linter.unusedSimpArgs false
namespace Go.Proofs.YtljncdcjkdgkeaaGreatDoor.Dc
open Go.RowKit Go.Proofs.YtljncdcjkdgkeaaGreatDoor.Big Go.Proofs.YtljncdcjkdgkeaaGreatDoor.Lp Go.Proofs.YtljncdcjkdgkeaaGreatDoor.Rt
open Go.Lib (itoa decDigits)

def PlP (w0 : World) (rows : List RN) (t : CT) (e : Ending) (w' : World) : Prop := ∃ v', e = .returned (.tuple #[v', .bool t.wf]) ∧ (t.wf = true → NodX w' w0.heap.size v' (rows ++ flat t)) ∧ Ext w0 w'
/-- what a round of plain writes: its own row of texts, its node -/
def PXb (A : Option Addr) (k c xb g : Nat) : Prop := (Value.slice A k c).ownBlock = some g ∨ g = xb
theorem box_keepB {w w' : World} {base b n k : Nat} {E E' : TypeId} {v : Value} {cs : Array Value} {xs : List Value} (B : Box w b E cs) (q : OwnX w base E' k v n xs) (hE : E ≠ E') (f : Fr (fun g => v.ownBlock = some g) w w') : Box w' b E cs :=
  f.box B (fun hb => by
    obtain ⟨-, -, cur, hc⟩ := q.lt hb
    exact row_ne B hc hE rfl)
theorem nil_run (L : Option Addr) (hL : ∀ a, L = some a → ∃ k, a = ⟨k, 0, none⟩) : ∀ W, (binOp BinOp.eql 25 (.pointer L) (.pointer none)).run Tryz.prog W = .ok (.bool L.isNone) W := fun W => by
  cases L with
  | none => kernel_rfl
  | some a => obtain ⟨k, rfl⟩ := hL a rfl; kernel_rfl
set_option maxHeartbeats 4000000 in
set_option maxRecDepth 100000 in
theorem plain_node (w0 w : World) (kb d n c : Nat) (vr fl : Int) (em : Bool) (L H Y : Option Addr) (y : Nat → Rat) (lo hi : CT) (rows : List RN) (v : Value) (hE : Ext w0 w) (NB : Box w0 kb 79 (NodeC vr fl L H em Y n c)) (hY : RatsV w0 Y n c y) (hn : n ≤ 1000) (hq : ∀ j, j < n → QB 2 (y j))
    (hLn : L = none ↔ lo = .nil) (hHn : H = none ↔ hi = .nil) (hLa : ∀ a, L = some a → ∃ k, a = ⟨k, 0, none⟩) (hHa : ∀ a, H = some a → ∃ k, a = ⟨k, 0, none⟩) (hX : NodX w w0.heap.size v rows) (hrl : rows.length ≤ 100000) (hd : d ≤ 199) (htab : TabOK w0)
    (H1 : ∀ W v' rows', Ext w0 W → NodX W w0.heap.size v' rows' → rows'.length = rows.length + 1 → Calls Tryz.prog 24 #[.pointer L, .int .i64 ((d : Int) + 1), v'] W (PlP w0 rows' lo))
    (H2 : ∀ W v' rows', Ext w0 W → NodX W w0.heap.size v' rows' → rows'.length ≤ rows.length + 1 + lo.size → Calls Tryz.prog 24 #[.pointer H, .int .i64 ((d : Int) + 1), v'] W (PlP w0 rows' hi)) :
    Calls Tryz.prog 24 #[.pointer (some ⟨kb, 0, none⟩), .int .i64 (d : Int), v] w (PlP w0 rows (.node vr fl em n y lo hi)) := by
  have HH1 := Lib.hid H1
  have HH2 := Lib.hid H2
  have HQ := Lib.hid hq
  have HLN := Lib.hid hLn
  have HHN := Lib.hid hHn
  have HTAB := Lib.hid htab
  clear H1 H2 hq hLn hHn htab
  have hnl : ∀ W, (binOp BinOp.eql 25 (.pointer (some ⟨kb, 0, none⟩)) (.pointer none)).run Tryz.prog W = .ok (.bool false) W := fun _ => by kernel_rfl
  have e200 : decide ((200 : Int) < (d : Int)) = false := by simp; omega
  have r1 : IntKind.i64.wrap ((d : Int) + 1) = (d : Int) + 1 := IntWalk.i64_in _ (by omega)
  have NBw := NB.ext hE
  have t0 : w.cell? ⟨kb, 0, none⟩ = some (.int .i64 vr) := NBw.cell 0
  have t1 : w.cell? ⟨kb, 1, none⟩ = some (.int .i64 fl) := NBw.cell 1
  have t4 : w.cell? ⟨kb, 4, none⟩ = some (.bool em) := NBw.cell 4
  obtain ⟨A, cv, rfl⟩ := hX.shape
  obtain ⟨R, hR⟩ : ∃ R, R = rows.length := ⟨_, rfl⟩
  rw [← hR] at hX hrl ⊢
  have HR := Lib.hid hR
  clear hR
  have hkb : kb < w0.heap.size := NB.lt
  have h0w : w0.heap.size ≤ w.heap.size := hE.size
  obtain ⟨i0, hi0, hz0, hz1, hz2⟩ := info_parts infoStr
  obtain ⟨ik, ik1, ik2, ik3, ik4⟩ := info_parts infoNode
  have HL0 := Lib.hid (nil_run L hLa)
  have HH0 := Lib.hid (nil_run H hHa)
  clear hLa hHa
  go_enter Tryz.func24, Tryz.ntmps24
  go_upto_region 3 with fail
  go_cut [8] (fun v wx => ∃ xb, v = .pointer (some ⟨xb, 0, none⟩) ∧ Box wx xb 127 #[.int .i64 vr, .int .i64 fl, .bool em, .slice none 0 0, .int .i64 0, .int .i64 0] ∧ Ext w wx ∧ w.heap.size ≤ xb)
  case first =>
    have ke0 : ∀ w', Ext w w' → w'.cell? ⟨kb, 0, none⟩ = some (.int .i64 vr) := fun w' h => h.cell t0
    have ke1 : ∀ w', Ext w w' → w'.cell? ⟨kb, 1, none⟩ = some (.int .i64 fl) := fun w' h => h.cell t1
    have ke4 : ∀ w', Ext w w' → w'.cell? ⟨kb, 4, none⟩ = some (.bool em) := fun w' h => h.cell t4
    have ks := Ext.refl w
    clear t0 t1 t4
    go_region_held3 (fun w' => Ext w w') ((repeat (first | (with_reducible assumption) | (with_reducible apply Ext.drew) | (with_reducible apply Ext.drewN) | (with_reducible apply Ext.alloc)))) (fail)
    all_goals (go_wp2_with fail)
    all_goals (
      go_meet
      exact ⟨_, rfl, (Box.new w 127 _).ext ((Ext.refl _).drew), ((Ext.refl w).alloc _).drew, Nat.le_refl _⟩)
  case rest =>
  rename_i hK
  obtain ⟨xb, rfl, XB, hxc, hxb⟩ := hcut
  refine hK _ _ ?_
  clear hK t0 t1 t4 e200 hnl
  go_wp2_with fail
  go_loopw [9] (fun iv wr => ∃ (k : Nat) (A1 : Option Addr) (c1 : Nat), k ≤ n ∧ iv = .int .i64 k ∧ OwnX wr w.heap.size 9 1 (.slice A1 k c1) k (sV ((List.range k).map (fun j => ratText (y j)))) ∧ Box wr xb 127 #[.int .i64 vr, .int .i64 fl, .bool em, .slice A1 k c1, .int .i64 0, .int .i64 0] ∧ Ext w wr) (fun iv _ => n - (intOf iv).toNat)
  case atStart => exact ⟨0, none, 0, by omega, rfl, OwnX.nil _ _ _ _, XB, hxc⟩
  case round =>
    clear XB hxc
    obtain ⟨k, A1, c1, hk, rfl, oX, XBr, hxr⟩ := hrel
    have hEr := hE.trans hxr
    have NBr := NB.ext hEr
    have t5 : wr.cell? ⟨kb, 5, none⟩ = some (.slice Y n c) := NBr.cell 5
    by_cases hlt : k < n
    · obtain ⟨yb, rfl, hrow⟩ := hY.2.2 (by omega)
      have hyb : yb < w0.heap.size := hrow.lt
      obtain ⟨p, B1, m1, d1, p', B1', m1', d1', q0, q1, q2, q3, hr⟩ := hrow.at hlt
      have q0 := hEr.cell q0
      have q1 := hEr.cell q1
      have q2 := hEr.cell q2
      have q3 := hEr.cell q3
      have hrB : RatB wr (.agg #[.bool p, .slice B1 m1 d1, .bool p', .slice B1' m1' d1']) (y k) 2 := ⟨hr.ext hEr, HQ.out k hlt⟩
      obtain ⟨TS, hTS⟩ : ∃ s, s = str (ratText (y k)) := ⟨_, rfl⟩
      have HTX : Hid (∀ W, Ext wr W → Calls Tryz.prog 37 #[.agg #[.bool p, .slice B1 m1 d1, .bool p', .slice B1' m1' d1']] W (fun e w' => e = .returned (.string TS) ∧ Ext W w')) := Lib.hid (fun W hW => by
        rw [hTS]
        exact RatText_b _ (y k) 2 W (hrB.ext hW) (by omega) (HTAB.out.ext (hEr.trans hW)))
      have HTS := Lib.hid hTS
      have i5 : (0 : Int) ≤ (k : Int) := by omega
      have i6 : (k : Int) < (n : Int) := by omega
      have hNP : ∀ b, b < w.heap.size → ¬ PXb A1 k c1 xb b := fun b hb e => by
        rcases e with e | e
        · have := (oX.lt e).1; omega
        · omega
      have t3 : wr.cell? ⟨xb, 3, none⟩ = some (.slice A1 k c1) := XBr.cell 3
      have k5 : ∀ w', Fr (PXb A1 k c1 xb) wr w' → w'.cell? ⟨kb, 5, none⟩ = some (.slice (some ⟨yb, 0, none⟩) n c) := fun w' h => h.cell (hNP kb (by omega)) t5
      have k0 : ∀ w', Fr (PXb A1 k c1 xb) wr w' → w'.cell? ⟨yb, k * 4, none⟩ = some (.bool p) := fun w' h => h.cell (hNP yb (by omega)) q0
      have k1 : ∀ w', Fr (PXb A1 k c1 xb) wr w' → w'.cell? ⟨yb, k * 4 + 1, none⟩ = some (.slice B1 m1 d1) := fun w' h => h.cell (hNP yb (by omega)) q1
      have k2 : ∀ w', Fr (PXb A1 k c1 xb) wr w' → w'.cell? ⟨yb, k * 4 + 2, none⟩ = some (.bool p') := fun w' h => h.cell (hNP yb (by omega)) q2
      have k3 : ∀ w', Fr (PXb A1 k c1 xb) wr w' → w'.cell? ⟨yb, k * 4 + 3, none⟩ = some (.slice B1' m1' d1') := fun w' h => h.cell (hNP yb (by omega)) q3
      have ks := Fr.refl (PXb A1 k c1 xb) wr
      clear q0 q1 q2 q3 t5 hTS hr hrB hrow
      go_wp2_with fail
      refine wp_region_held_drew (S := fun w' => Fr (PXb A1 k c1 xb) wr w') (by kernel_rfl) ?_ (fun hHeld => ?_)
      · (try dsimp only); (repeat (first | (with_reducible assumption) | (with_reducible apply Fr.drew) | (with_reducible apply Fr.drewN) | (with_reducible apply Fr.alloc) | (with_reducible refine Fr.step ?_ (by with_reducible assumption)) | (with_reducible refine Fr.trans ?_ (by with_reducible assumption))))
      refine wpAnyH_take (i := 0) (oi := { dst := some 40, op := Op.fieldAddr 127 (Operand.tmp 8) 3, type := 0, pos := "law.go:295", after := #[], guard := none }) (v := ?_) rfl (by kernel_rfl) (by kernel_rfl) (by kernel_rfl) (fun _ _ _ h => h) (Or.inl ⟨by rfl, ?_⟩) (by assumption) ?_
      rotate_left
      · intro w hSw; (try dsimp only at hSw); go_simp; try (with_reducible rfl)
      try simp only [Act.put, List.setIfInBounds_toArray, List.set_cons_zero, List.set_cons_succ]
      refine wpAnyH_take (i := 2) (oi := { dst := some 42, op := Op.move (Operand.tmp 0), type := 25, pos := "law.go:295", after := #[], guard := none }) (v := ?_) rfl (by kernel_rfl) (by kernel_rfl) (by kernel_rfl) (fun _ _ _ h => h) (Or.inl ⟨by rfl, ?_⟩) (by assumption) ?_
      rotate_left
      · intro w hSw; (try dsimp only at hSw); go_simp; try (with_reducible rfl)
      try simp only [Act.put, List.setIfInBounds_toArray, List.set_cons_zero, List.set_cons_succ]
      refine wpAnyH_take (i := 3) (oi := { dst := some 43, op := Op.nilCheck (Operand.tmp 42), type := 0, pos := "law.go:295", after := #[{ on := 2, ground := Ground.data }], guard := none }) (v := ?_) rfl (by kernel_rfl) (by kernel_rfl) (by kernel_rfl) (fun _ _ _ h => h) (Or.inl ⟨by rfl, ?_⟩) (by assumption) ?_
      rotate_left
      · intro w hSw; (try dsimp only at hSw); go_simp; try (with_reducible rfl)
      try simp only [Act.put, List.setIfInBounds_toArray, List.set_cons_zero, List.set_cons_succ]
      refine wpAnyH_take (i := 4) (oi := { dst := some 44, op := Op.fieldAddr 79 (Operand.tmp 43) 5, type := 0, pos := "law.go:295", after := #[{ on := 3, ground := Ground.data }], guard := none }) (v := ?_) rfl (by kernel_rfl) (by kernel_rfl) (by kernel_rfl) (fun _ _ _ h => h) (Or.inl ⟨by rfl, ?_⟩) (by assumption) ?_
      rotate_left
      · intro w hSw; (try dsimp only at hSw); go_simp; try (with_reducible rfl)
      try simp only [Act.put, List.setIfInBounds_toArray, List.set_cons_zero, List.set_cons_succ]
      refine wpAnyH_take (i := 5) (oi := { dst := some 45, op := Op.load 38 (Operand.tmp 44), type := 38, pos := "law.go:295", after := #[{ on := 4, ground := Ground.data }], guard := none }) (v := ?_) rfl (by kernel_rfl) (by kernel_rfl) (by kernel_rfl) (fun _ _ _ h => h) (Or.inl ⟨by rfl, ?_⟩) (by assumption) ?_
      rotate_left
      · intro w hSw; (try dsimp only at hSw); go_simp; try (with_reducible rfl)
      try simp only [Act.put, List.setIfInBounds_toArray, List.set_cons_zero, List.set_cons_succ]
      refine wpAnyH_take (i := 6) (oi := { dst := some 46, op := Op.move (Operand.tmp 9), type := 3, pos := "law.go:295", after := #[], guard := none }) (v := ?_) rfl (by kernel_rfl) (by kernel_rfl) (by kernel_rfl) (fun _ _ _ h => h) (Or.inl ⟨by rfl, ?_⟩) (by assumption) ?_
      rotate_left
      · intro w hSw; (try dsimp only at hSw); go_simp; try (with_reducible rfl)
      try simp only [Act.put, List.setIfInBounds_toArray, List.set_cons_zero, List.set_cons_succ]
      refine wpAnyH_take (i := 7) (oi := { dst := some 47, op := Op.indexAddr 38 (Operand.tmp 45) (Operand.tmp 46), type := 0, pos := "law.go:295", after := #[{ on := 5, ground := Ground.data }, { on := 6, ground := Ground.data }], guard := none }) (v := ?_) rfl (by kernel_rfl) (by kernel_rfl) (by kernel_rfl) (fun _ _ _ h => h) (Or.inl ⟨by rfl, ?_⟩) (by assumption) ?_
      rotate_left
      · intro w hSw; (try dsimp only at hSw); go_simp; try (with_reducible rfl)
      try simp only [Act.put, List.setIfInBounds_toArray, List.set_cons_zero, List.set_cons_succ]
      refine wpAnyH_take (i := 8) (oi := { dst := some 48, op := Op.load 58 (Operand.tmp 47), type := 58, pos := "law.go:295", after := #[{ on := 7, ground := Ground.data }], guard := none }) (v := ?_) rfl (by kernel_rfl) (by kernel_rfl) (by kernel_rfl) (fun _ _ _ h => h) (Or.inl ⟨by rfl, ?_⟩) (by assumption) ?_
      rotate_left
      · intro w hSw; (try dsimp only at hSw); go_simp; try (with_reducible rfl)
      try simp only [Act.put, List.setIfInBounds_toArray, List.set_cons_zero, List.set_cons_succ]
      refine wpAnyH_ready (rs := [1, 9]) (by kernel_rfl) (by simp) ?_
      refine AllReadyH.cons (o := { dst := some 41, op := Op.load 125 (Operand.tmp 40), type := 125, pos := "law.go:295", after := #[{ on := 0, ground := Ground.data }], guard := none }) rfl (fun K hK => ?_) ?_
      · go_simp
        try (go_wp2_with fail)
        refine hK.out _ _ ?_ (fun hHeld => ?_)
        · (try dsimp only); (repeat (first | (with_reducible assumption) | (with_reducible apply Fr.drew) | (with_reducible apply Fr.drewN) | (with_reducible apply Fr.alloc) | (with_reducible refine Fr.step ?_ (by with_reducible assumption)) | (with_reducible refine Fr.trans ?_ (by with_reducible assumption))))
        clear hK K
        try simp only [Act.put, List.setIfInBounds_toArray, List.set_cons_zero, List.set_cons_succ]
        refine wpAnyH_ready (rs := [9]) (by kernel_rfl) (by simp) ?_
        refine AllReadyH.cons (o := { dst := some 49, op := Op.call { callee := Callee.value (Operand.func 37), args := #[Operand.tmp 48], argTypes := #[58] }, type := 9, pos := "law.go:295", after := #[{ on := 8, ground := Ground.data }], guard := none }) rfl (fun K hK => ?_) ?_
        · go_simp
          first
            | ((have hza := hy4.alloc (.cells #[.string TS] 9)); (refine step_pushX rfl (.tmp 41) (.tmp 50) 125 rfl w.heap.size 9 i0 (.string ⟨#[]⟩) 1 16 Tryz.underlying125 hi0 hz0 hz1 hz2 rfl zStr _ k _ rfl (oX.ext hza) w4.heap.size [.string TS] 1 rfl rfl (new1 w4 9 _) (one1 rfl) (nou1 rfl) (by omega) (by decide) (by have := (hxr.trans hza).size; omega) ?_); intro v6 y6 o6 r6 s6; (have XB6 := box_keepB (XBr.ext hza) (oX.ext hza) (by decide) r6); (have c6 : y6.cell? ⟨xb, 3, none⟩ = some (.slice A1 k c1) := XB6.cell 3); (have z6 := XB6.frozen 3); (obtain ⟨A6, d6, rfl⟩ := o6.shape); (have hS6 : Fr (PXb A1 k c1 xb) wr y6 := (Fr.of hza).trans (r6.weak (fun _ h => .inl h))); (have hS7 : Fr (PXb A1 k c1 xb) wr (y6.setCell ⟨xb, 3, none⟩ (.slice A6 (k + 1) d6)) := hS6.set (p := ⟨xb, 3, none⟩) (.inr rfl) (fun z => by rw [c6]; intro e; cases e) _))
            | (go_at_call 37; (with_reducible refine (HTX.out _ (by repeat (first | (with_reducible exact Ext.refl _) | (with_reducible apply Ext.drew) | (with_reducible apply Ext.drewN)))).mono ?_); rintro e1 w4 ⟨rfl, hx4⟩; (have hy4 : Ext wr w4 := Ext.trans (by repeat (first | (with_reducible exact Ext.refl _) | (with_reducible apply Ext.drew) | (with_reducible apply Ext.drewN))) hx4); (have u2 := hy4.cell t3); (have u3 := (hy4.alloc (.cells #[.string TS] 9)).cell t3))
          try (go_wp2_with fail)
          refine hK.out _ _ ?_ (fun hHeld => ?_)
          · (try dsimp only); (repeat (first | (with_reducible assumption) | (with_reducible apply Fr.drew) | (with_reducible apply Fr.drewN) | (with_reducible apply Fr.alloc) | (with_reducible refine Fr.step ?_ (by with_reducible assumption)) | (with_reducible refine Fr.trans ?_ (by with_reducible assumption))))
          clear hK K
          try simp only [Act.put, List.setIfInBounds_toArray, List.set_cons_zero, List.set_cons_succ]
          refine wpAnyH_ready (rs := [10]) (by kernel_rfl) (by simp) ?_
          refine AllReadyH.cons (o := { dst := some 50, op := Op.buildSlice 125 1 #[(0, Operand.tmp 49)], type := 125, pos := "law.go:295", after := #[{ on := 9, ground := Ground.data }], guard := none }) rfl (fun K hK => ?_) ?_
          · go_simp
            try (go_wp2_with fail)
            refine hK.out _ _ ?_ (fun hHeld => ?_)
            · (try dsimp only); (repeat (first | (with_reducible assumption) | (with_reducible apply Fr.drew) | (with_reducible apply Fr.drewN) | (with_reducible apply Fr.alloc) | (with_reducible refine Fr.step ?_ (by with_reducible assumption)) | (with_reducible refine Fr.trans ?_ (by with_reducible assumption))))
            clear hK K
            try simp only [Act.put, List.setIfInBounds_toArray, List.set_cons_zero, List.set_cons_succ]
            refine wpAnyH_ready (rs := [11]) (by kernel_rfl) (by simp) ?_
            refine AllReadyH.cons (o := { dst := some 51, op := Op.call { callee := Callee.builtin Builtin.append, args := #[Operand.tmp 41, Operand.tmp 50], argTypes := #[125, 125] }, type := 125, pos := "law.go:295", after := #[{ on := 1, ground := Ground.data }, { on := 10, ground := Ground.data }, { on := 9, ground := Ground.chain }], guard := none }) rfl (fun K hK => ?_) ?_
            · skip
              first
                | ((have hza := hy4.alloc (.cells #[.string TS] 9)); (refine step_pushX rfl (.tmp 41) (.tmp 50) 125 rfl w.heap.size 9 i0 (.string ⟨#[]⟩) 1 16 Tryz.underlying125 hi0 hz0 hz1 hz2 rfl zStr _ k _ rfl (oX.ext hza) w4.heap.size [.string TS] 1 rfl rfl (new1 w4 9 _) (one1 rfl) (nou1 rfl) (by omega) (by decide) (by have := (hxr.trans hza).size; omega) ?_); intro v6 y6 o6 r6 s6; (have XB6 := box_keepB (XBr.ext hza) (oX.ext hza) (by decide) r6); (have c6 : y6.cell? ⟨xb, 3, none⟩ = some (.slice A1 k c1) := XB6.cell 3); (have z6 := XB6.frozen 3); (obtain ⟨A6, d6, rfl⟩ := o6.shape); (have hS6 : Fr (PXb A1 k c1 xb) wr y6 := (Fr.of hza).trans (r6.weak (fun _ h => .inl h))); (have hS7 : Fr (PXb A1 k c1 xb) wr (y6.setCell ⟨xb, 3, none⟩ (.slice A6 (k + 1) d6)) := hS6.set (p := ⟨xb, 3, none⟩) (.inr rfl) (fun z => by rw [c6]; intro e; cases e) _))
                | (go_at_call 37; (with_reducible refine (HTX.out _ (by repeat (first | (with_reducible exact Ext.refl _) | (with_reducible apply Ext.drew) | (with_reducible apply Ext.drewN)))).mono ?_); rintro e1 w4 ⟨rfl, hx4⟩; (have hy4 : Ext wr w4 := Ext.trans (by repeat (first | (with_reducible exact Ext.refl _) | (with_reducible apply Ext.drew) | (with_reducible apply Ext.drewN))) hx4); (have u2 := hy4.cell t3); (have u3 := (hy4.alloc (.cells #[.string TS] 9)).cell t3))
              try (go_wp2_with fail)
              refine hK.out _ _ ?_ (fun hHeld => ?_)
              · (try dsimp only); (repeat (first | (with_reducible assumption) | (with_reducible apply Fr.drew) | (with_reducible apply Fr.drewN) | (with_reducible apply Fr.alloc) | (with_reducible refine Fr.step ?_ (by with_reducible assumption)) | (with_reducible refine Fr.trans ?_ (by with_reducible assumption))))
              clear hK K
              try simp only [Act.put, List.setIfInBounds_toArray, List.set_cons_zero, List.set_cons_succ]
              refine wpAnyH_take (i := 12) (oi := { dst := some 52, op := Op.fieldAddr 127 (Operand.tmp 8) 3, type := 0, pos := "law.go:295", after := #[{ on := 0, ground := Ground.phase }, { on := 1, ground := Ground.phase }, { on := 2, ground := Ground.phase }, { on := 3, ground := Ground.phase }, { on := 4, ground := Ground.phase }, { on := 5, ground := Ground.phase }, { on := 6, ground := Ground.phase }, { on := 7, ground := Ground.phase }, { on := 8, ground := Ground.phase }, { on := 9, ground := Ground.phase }, { on := 10, ground := Ground.phase }, { on := 11, ground := Ground.phase }], guard := none }) (v := ?_) rfl (by kernel_rfl) (by kernel_rfl) (by kernel_rfl) (fun _ _ _ h => h) (Or.inl ⟨by rfl, ?_⟩) (by assumption) ?_
              rotate_left
              · intro w hSw; (try dsimp only at hSw); go_simp; try (with_reducible rfl)
              try simp only [Act.put, List.setIfInBounds_toArray, List.set_cons_zero, List.set_cons_succ]
              refine wpAnyH_ready (rs := [13]) (by kernel_rfl) (by simp) ?_
              refine AllReadyH.cons (o := { dst := none, op := Op.store 125 (Operand.tmp 52) (Operand.tmp 51), type := 0, pos := "law.go:295", after := #[{ on := 12, ground := Ground.data }, { on := 11, ground := Ground.data }, { on := 11, ground := Ground.chain }, { on := 0, ground := Ground.phase }, { on := 1, ground := Ground.phase }, { on := 2, ground := Ground.phase }, { on := 3, ground := Ground.phase }, { on := 4, ground := Ground.phase }, { on := 5, ground := Ground.phase }, { on := 6, ground := Ground.phase }, { on := 7, ground := Ground.phase }, { on := 8, ground := Ground.phase }, { on := 9, ground := Ground.phase }, { on := 10, ground := Ground.phase }, { on := 11, ground := Ground.phase }], guard := none }) rfl (fun K hK => ?_) ?_
              · go_simp
                try (go_wp2_with fail)
                refine hK.out _ _ ?_ (fun hHeld => ?_)
                · (try dsimp only); (repeat (first | (with_reducible assumption) | (with_reducible apply Fr.drew) | (with_reducible apply Fr.drewN) | (with_reducible apply Fr.alloc) | (with_reducible refine Fr.step ?_ (by with_reducible assumption)) | (with_reducible refine Fr.trans ?_ (by with_reducible assumption))))
                clear hK K
                try simp only [Act.put, List.setIfInBounds_toArray, List.set_cons_zero, List.set_cons_succ]
                refine wpAnyH_done (by kernel_rfl) ?_ _
                have hBF : Box (y6.setCell ⟨xb, 3, none⟩ (.slice A6 (k + 1) d6)) xb 127 #[.int .i64 vr, .int .i64 fl, .bool em, .slice A6 (k + 1) d6, .int .i64 0, .int .i64 0] := XB6.set 3 (.slice A6 (k + 1) d6)
                have hXF : Ext w (y6.setCell ⟨xb, 3, none⟩ (.slice A6 (k + 1) d6)) := (r6.ext (hxr.trans hza) (fun g hg => (oX.lt hg).1)).set (p := ⟨xb, 3, none⟩) hxb _
                have hOF : OwnX (y6.setCell ⟨xb, 3, none⟩ (.slice A6 (k + 1) d6)) w.heap.size 9 1 (.slice A6 (k + 1) d6) (k + 1) (sV ((List.range (k + 1)).map (fun j => ratText (y j)))) := by
                  rw [List.range_succ, List.map_append, List.map_singleton, sV_snoc, ← HTS.out]
                  exact o6.fr ((Fr.refl (fun g => g = xb) y6).set (p := ⟨xb, 3, none⟩) rfl (fun z => by rw [c6]; intro e; cases e) _) (fun g hg e => by
                    obtain ⟨-, -, cur, hcur⟩ := o6.lt hg
                    rw [e] at hcur
                    exact row_ne XB6 hcur (by decide) rfl)
                go_wp2_with fail
                go_roundw
                case rel => exact ⟨k + 1, _, _, by omega, by go_num, hOF, hBF, hXF⟩
                case measure => simp [intOf]; omega
              exact AllReadyH.nil
            exact AllReadyH.nil
          exact AllReadyH.nil
        exact AllReadyH.nil
      refine AllReadyH.cons (o := { dst := some 49, op := Op.call { callee := Callee.value (Operand.func 37), args := #[Operand.tmp 48], argTypes := #[58] }, type := 9, pos := "law.go:295", after := #[{ on := 8, ground := Ground.data }], guard := none }) rfl (fun K hK => ?_) ?_
      · go_simp
        first
          | ((have hza := hy4.alloc (.cells #[.string TS] 9)); (refine step_pushX rfl (.tmp 41) (.tmp 50) 125 rfl w.heap.size 9 i0 (.string ⟨#[]⟩) 1 16 Tryz.underlying125 hi0 hz0 hz1 hz2 rfl zStr _ k _ rfl (oX.ext hza) w4.heap.size [.string TS] 1 rfl rfl (new1 w4 9 _) (one1 rfl) (nou1 rfl) (by omega) (by decide) (by have := (hxr.trans hza).size; omega) ?_); intro v6 y6 o6 r6 s6; (have XB6 := box_keepB (XBr.ext hza) (oX.ext hza) (by decide) r6); (have c6 : y6.cell? ⟨xb, 3, none⟩ = some (.slice A1 k c1) := XB6.cell 3); (have z6 := XB6.frozen 3); (obtain ⟨A6, d6, rfl⟩ := o6.shape); (have hS6 : Fr (PXb A1 k c1 xb) wr y6 := (Fr.of hza).trans (r6.weak (fun _ h => .inl h))); (have hS7 : Fr (PXb A1 k c1 xb) wr (y6.setCell ⟨xb, 3, none⟩ (.slice A6 (k + 1) d6)) := hS6.set (p := ⟨xb, 3, none⟩) (.inr rfl) (fun z => by rw [c6]; intro e; cases e) _))
          | (go_at_call 37; (with_reducible refine (HTX.out _ (by repeat (first | (with_reducible exact Ext.refl _) | (with_reducible apply Ext.drew) | (with_reducible apply Ext.drewN)))).mono ?_); rintro e1 w4 ⟨rfl, hx4⟩; (have hy4 : Ext wr w4 := Ext.trans (by repeat (first | (with_reducible exact Ext.refl _) | (with_reducible apply Ext.drew) | (with_reducible apply Ext.drewN))) hx4); (have u2 := hy4.cell t3); (have u3 := (hy4.alloc (.cells #[.string TS] 9)).cell t3))
        try (go_wp2_with fail)
        refine hK.out _ _ ?_ (fun hHeld => ?_)
        · (try dsimp only); (repeat (first | (with_reducible assumption) | (with_reducible apply Fr.drew) | (with_reducible apply Fr.drewN) | (with_reducible apply Fr.alloc) | (with_reducible refine Fr.step ?_ (by with_reducible assumption)) | (with_reducible refine Fr.trans ?_ (by with_reducible assumption))))
        clear hK K
        try simp only [Act.put, List.setIfInBounds_toArray, List.set_cons_zero, List.set_cons_succ]
        refine wpAnyH_ready (rs := [1, 10]) (by kernel_rfl) (by simp) ?_
        refine AllReadyH.cons (o := { dst := some 41, op := Op.load 125 (Operand.tmp 40), type := 125, pos := "law.go:295", after := #[{ on := 0, ground := Ground.data }], guard := none }) rfl (fun K hK => ?_) ?_
        · go_simp
          try (go_wp2_with fail)
          refine hK.out _ _ ?_ (fun hHeld => ?_)
          · (try dsimp only); (repeat (first | (with_reducible assumption) | (with_reducible apply Fr.drew) | (with_reducible apply Fr.drewN) | (with_reducible apply Fr.alloc) | (with_reducible refine Fr.step ?_ (by with_reducible assumption)) | (with_reducible refine Fr.trans ?_ (by with_reducible assumption))))
          clear hK K
          try simp only [Act.put, List.setIfInBounds_toArray, List.set_cons_zero, List.set_cons_succ]
          refine wpAnyH_ready (rs := [10]) (by kernel_rfl) (by simp) ?_
          refine AllReadyH.cons (o := { dst := some 50, op := Op.buildSlice 125 1 #[(0, Operand.tmp 49)], type := 125, pos := "law.go:295", after := #[{ on := 9, ground := Ground.data }], guard := none }) rfl (fun K hK => ?_) ?_
          · go_simp
            try (go_wp2_with fail)
            refine hK.out _ _ ?_ (fun hHeld => ?_)
            · (try dsimp only); (repeat (first | (with_reducible assumption) | (with_reducible apply Fr.drew) | (with_reducible apply Fr.drewN) | (with_reducible apply Fr.alloc) | (with_reducible refine Fr.step ?_ (by with_reducible assumption)) | (with_reducible refine Fr.trans ?_ (by with_reducible assumption))))
            clear hK K
            try simp only [Act.put, List.setIfInBounds_toArray, List.set_cons_zero, List.set_cons_succ]
            refine wpAnyH_ready (rs := [11]) (by kernel_rfl) (by simp) ?_
            refine AllReadyH.cons (o := { dst := some 51, op := Op.call { callee := Callee.builtin Builtin.append, args := #[Operand.tmp 41, Operand.tmp 50], argTypes := #[125, 125] }, type := 125, pos := "law.go:295", after := #[{ on := 1, ground := Ground.data }, { on := 10, ground := Ground.data }, { on := 9, ground := Ground.chain }], guard := none }) rfl (fun K hK => ?_) ?_
            · skip
              first
                | ((have hza := hy4.alloc (.cells #[.string TS] 9)); (refine step_pushX rfl (.tmp 41) (.tmp 50) 125 rfl w.heap.size 9 i0 (.string ⟨#[]⟩) 1 16 Tryz.underlying125 hi0 hz0 hz1 hz2 rfl zStr _ k _ rfl (oX.ext hza) w4.heap.size [.string TS] 1 rfl rfl (new1 w4 9 _) (one1 rfl) (nou1 rfl) (by omega) (by decide) (by have := (hxr.trans hza).size; omega) ?_); intro v6 y6 o6 r6 s6; (have XB6 := box_keepB (XBr.ext hza) (oX.ext hza) (by decide) r6); (have c6 : y6.cell? ⟨xb, 3, none⟩ = some (.slice A1 k c1) := XB6.cell 3); (have z6 := XB6.frozen 3); (obtain ⟨A6, d6, rfl⟩ := o6.shape); (have hS6 : Fr (PXb A1 k c1 xb) wr y6 := (Fr.of hza).trans (r6.weak (fun _ h => .inl h))); (have hS7 : Fr (PXb A1 k c1 xb) wr (y6.setCell ⟨xb, 3, none⟩ (.slice A6 (k + 1) d6)) := hS6.set (p := ⟨xb, 3, none⟩) (.inr rfl) (fun z => by rw [c6]; intro e; cases e) _))
                | (go_at_call 37; (with_reducible refine (HTX.out _ (by repeat (first | (with_reducible exact Ext.refl _) | (with_reducible apply Ext.drew) | (with_reducible apply Ext.drewN)))).mono ?_); rintro e1 w4 ⟨rfl, hx4⟩; (have hy4 : Ext wr w4 := Ext.trans (by repeat (first | (with_reducible exact Ext.refl _) | (with_reducible apply Ext.drew) | (with_reducible apply Ext.drewN))) hx4); (have u2 := hy4.cell t3); (have u3 := (hy4.alloc (.cells #[.string TS] 9)).cell t3))
              try (go_wp2_with fail)
              refine hK.out _ _ ?_ (fun hHeld => ?_)
              · (try dsimp only); (repeat (first | (with_reducible assumption) | (with_reducible apply Fr.drew) | (with_reducible apply Fr.drewN) | (with_reducible apply Fr.alloc) | (with_reducible refine Fr.step ?_ (by with_reducible assumption)) | (with_reducible refine Fr.trans ?_ (by with_reducible assumption))))
              clear hK K
              try simp only [Act.put, List.setIfInBounds_toArray, List.set_cons_zero, List.set_cons_succ]
              refine wpAnyH_take (i := 12) (oi := { dst := some 52, op := Op.fieldAddr 127 (Operand.tmp 8) 3, type := 0, pos := "law.go:295", after := #[{ on := 0, ground := Ground.phase }, { on := 1, ground := Ground.phase }, { on := 2, ground := Ground.phase }, { on := 3, ground := Ground.phase }, { on := 4, ground := Ground.phase }, { on := 5, ground := Ground.phase }, { on := 6, ground := Ground.phase }, { on := 7, ground := Ground.phase }, { on := 8, ground := Ground.phase }, { on := 9, ground := Ground.phase }, { on := 10, ground := Ground.phase }, { on := 11, ground := Ground.phase }], guard := none }) (v := ?_) rfl (by kernel_rfl) (by kernel_rfl) (by kernel_rfl) (fun _ _ _ h => h) (Or.inl ⟨by rfl, ?_⟩) (by assumption) ?_
              rotate_left
              · intro w hSw; (try dsimp only at hSw); go_simp; try (with_reducible rfl)
              try simp only [Act.put, List.setIfInBounds_toArray, List.set_cons_zero, List.set_cons_succ]
              refine wpAnyH_ready (rs := [13]) (by kernel_rfl) (by simp) ?_
              refine AllReadyH.cons (o := { dst := none, op := Op.store 125 (Operand.tmp 52) (Operand.tmp 51), type := 0, pos := "law.go:295", after := #[{ on := 12, ground := Ground.data }, { on := 11, ground := Ground.data }, { on := 11, ground := Ground.chain }, { on := 0, ground := Ground.phase }, { on := 1, ground := Ground.phase }, { on := 2, ground := Ground.phase }, { on := 3, ground := Ground.phase }, { on := 4, ground := Ground.phase }, { on := 5, ground := Ground.phase }, { on := 6, ground := Ground.phase }, { on := 7, ground := Ground.phase }, { on := 8, ground := Ground.phase }, { on := 9, ground := Ground.phase }, { on := 10, ground := Ground.phase }, { on := 11, ground := Ground.phase }], guard := none }) rfl (fun K hK => ?_) ?_
              · go_simp
                try (go_wp2_with fail)
                refine hK.out _ _ ?_ (fun hHeld => ?_)
                · (try dsimp only); (repeat (first | (with_reducible assumption) | (with_reducible apply Fr.drew) | (with_reducible apply Fr.drewN) | (with_reducible apply Fr.alloc) | (with_reducible refine Fr.step ?_ (by with_reducible assumption)) | (with_reducible refine Fr.trans ?_ (by with_reducible assumption))))
                clear hK K
                try simp only [Act.put, List.setIfInBounds_toArray, List.set_cons_zero, List.set_cons_succ]
                refine wpAnyH_done (by kernel_rfl) ?_ _
                have hBF : Box (y6.setCell ⟨xb, 3, none⟩ (.slice A6 (k + 1) d6)) xb 127 #[.int .i64 vr, .int .i64 fl, .bool em, .slice A6 (k + 1) d6, .int .i64 0, .int .i64 0] := XB6.set 3 (.slice A6 (k + 1) d6)
                have hXF : Ext w (y6.setCell ⟨xb, 3, none⟩ (.slice A6 (k + 1) d6)) := (r6.ext (hxr.trans hza) (fun g hg => (oX.lt hg).1)).set (p := ⟨xb, 3, none⟩) hxb _
                have hOF : OwnX (y6.setCell ⟨xb, 3, none⟩ (.slice A6 (k + 1) d6)) w.heap.size 9 1 (.slice A6 (k + 1) d6) (k + 1) (sV ((List.range (k + 1)).map (fun j => ratText (y j)))) := by
                  rw [List.range_succ, List.map_append, List.map_singleton, sV_snoc, ← HTS.out]
                  exact o6.fr ((Fr.refl (fun g => g = xb) y6).set (p := ⟨xb, 3, none⟩) rfl (fun z => by rw [c6]; intro e; cases e) _) (fun g hg e => by
                    obtain ⟨-, -, cur, hcur⟩ := o6.lt hg
                    rw [e] at hcur
                    exact row_ne XB6 hcur (by decide) rfl)
                go_wp2_with fail
                go_roundw
                case rel => exact ⟨k + 1, _, _, by omega, by go_num, hOF, hBF, hXF⟩
                case measure => simp [intOf]; omega
              exact AllReadyH.nil
            exact AllReadyH.nil
          exact AllReadyH.nil
        refine AllReadyH.cons (o := { dst := some 50, op := Op.buildSlice 125 1 #[(0, Operand.tmp 49)], type := 125, pos := "law.go:295", after := #[{ on := 9, ground := Ground.data }], guard := none }) rfl (fun K hK => ?_) ?_
        · go_simp
          try (go_wp2_with fail)
          refine hK.out _ _ ?_ (fun hHeld => ?_)
          · (try dsimp only); (repeat (first | (with_reducible assumption) | (with_reducible apply Fr.drew) | (with_reducible apply Fr.drewN) | (with_reducible apply Fr.alloc) | (with_reducible refine Fr.step ?_ (by with_reducible assumption)) | (with_reducible refine Fr.trans ?_ (by with_reducible assumption))))
          clear hK K
          try simp only [Act.put, List.setIfInBounds_toArray, List.set_cons_zero, List.set_cons_succ]
          refine wpAnyH_ready (rs := [1]) (by kernel_rfl) (by simp) ?_
          refine AllReadyH.cons (o := { dst := some 41, op := Op.load 125 (Operand.tmp 40), type := 125, pos := "law.go:295", after := #[{ on := 0, ground := Ground.data }], guard := none }) rfl (fun K hK => ?_) ?_
          · go_simp
            try (go_wp2_with fail)
            refine hK.out _ _ ?_ (fun hHeld => ?_)
            · (try dsimp only); (repeat (first | (with_reducible assumption) | (with_reducible apply Fr.drew) | (with_reducible apply Fr.drewN) | (with_reducible apply Fr.alloc) | (with_reducible refine Fr.step ?_ (by with_reducible assumption)) | (with_reducible refine Fr.trans ?_ (by with_reducible assumption))))
            clear hK K
            try simp only [Act.put, List.setIfInBounds_toArray, List.set_cons_zero, List.set_cons_succ]
            refine wpAnyH_ready (rs := [11]) (by kernel_rfl) (by simp) ?_
            refine AllReadyH.cons (o := { dst := some 51, op := Op.call { callee := Callee.builtin Builtin.append, args := #[Operand.tmp 41, Operand.tmp 50], argTypes := #[125, 125] }, type := 125, pos := "law.go:295", after := #[{ on := 1, ground := Ground.data }, { on := 10, ground := Ground.data }, { on := 9, ground := Ground.chain }], guard := none }) rfl (fun K hK => ?_) ?_
            · skip
              first
                | ((have hza := hy4.alloc (.cells #[.string TS] 9)); (refine step_pushX rfl (.tmp 41) (.tmp 50) 125 rfl w.heap.size 9 i0 (.string ⟨#[]⟩) 1 16 Tryz.underlying125 hi0 hz0 hz1 hz2 rfl zStr _ k _ rfl (oX.ext hza) w4.heap.size [.string TS] 1 rfl rfl (new1 w4 9 _) (one1 rfl) (nou1 rfl) (by omega) (by decide) (by have := (hxr.trans hza).size; omega) ?_); intro v6 y6 o6 r6 s6; (have XB6 := box_keepB (XBr.ext hza) (oX.ext hza) (by decide) r6); (have c6 : y6.cell? ⟨xb, 3, none⟩ = some (.slice A1 k c1) := XB6.cell 3); (have z6 := XB6.frozen 3); (obtain ⟨A6, d6, rfl⟩ := o6.shape); (have hS6 : Fr (PXb A1 k c1 xb) wr y6 := (Fr.of hza).trans (r6.weak (fun _ h => .inl h))); (have hS7 : Fr (PXb A1 k c1 xb) wr (y6.setCell ⟨xb, 3, none⟩ (.slice A6 (k + 1) d6)) := hS6.set (p := ⟨xb, 3, none⟩) (.inr rfl) (fun z => by rw [c6]; intro e; cases e) _))
                | (go_at_call 37; (with_reducible refine (HTX.out _ (by repeat (first | (with_reducible exact Ext.refl _) | (with_reducible apply Ext.drew) | (with_reducible apply Ext.drewN)))).mono ?_); rintro e1 w4 ⟨rfl, hx4⟩; (have hy4 : Ext wr w4 := Ext.trans (by repeat (first | (with_reducible exact Ext.refl _) | (with_reducible apply Ext.drew) | (with_reducible apply Ext.drewN))) hx4); (have u2 := hy4.cell t3); (have u3 := (hy4.alloc (.cells #[.string TS] 9)).cell t3))
              try (go_wp2_with fail)
              refine hK.out _ _ ?_ (fun hHeld => ?_)
              · (try dsimp only); (repeat (first | (with_reducible assumption) | (with_reducible apply Fr.drew) | (with_reducible apply Fr.drewN) | (with_reducible apply Fr.alloc) | (with_reducible refine Fr.step ?_ (by with_reducible assumption)) | (with_reducible refine Fr.trans ?_ (by with_reducible assumption))))
              clear hK K
              try simp only [Act.put, List.setIfInBounds_toArray, List.set_cons_zero, List.set_cons_succ]
              refine wpAnyH_take (i := 12) (oi := { dst := some 52, op := Op.fieldAddr 127 (Operand.tmp 8) 3, type := 0, pos := "law.go:295", after := #[{ on := 0, ground := Ground.phase }, { on := 1, ground := Ground.phase }, { on := 2, ground := Ground.phase }, { on := 3, ground := Ground.phase }, { on := 4, ground := Ground.phase }, { on := 5, ground := Ground.phase }, { on := 6, ground := Ground.phase }, { on := 7, ground := Ground.phase }, { on := 8, ground := Ground.phase }, { on := 9, ground := Ground.phase }, { on := 10, ground := Ground.phase }, { on := 11, ground := Ground.phase }], guard := none }) (v := ?_) rfl (by kernel_rfl) (by kernel_rfl) (by kernel_rfl) (fun _ _ _ h => h) (Or.inl ⟨by rfl, ?_⟩) (by assumption) ?_
              rotate_left
              · intro w hSw; (try dsimp only at hSw); go_simp; try (with_reducible rfl)
              try simp only [Act.put, List.setIfInBounds_toArray, List.set_cons_zero, List.set_cons_succ]
              refine wpAnyH_ready (rs := [13]) (by kernel_rfl) (by simp) ?_
              refine AllReadyH.cons (o := { dst := none, op := Op.store 125 (Operand.tmp 52) (Operand.tmp 51), type := 0, pos := "law.go:295", after := #[{ on := 12, ground := Ground.data }, { on := 11, ground := Ground.data }, { on := 11, ground := Ground.chain }, { on := 0, ground := Ground.phase }, { on := 1, ground := Ground.phase }, { on := 2, ground := Ground.phase }, { on := 3, ground := Ground.phase }, { on := 4, ground := Ground.phase }, { on := 5, ground := Ground.phase }, { on := 6, ground := Ground.phase }, { on := 7, ground := Ground.phase }, { on := 8, ground := Ground.phase }, { on := 9, ground := Ground.phase }, { on := 10, ground := Ground.phase }, { on := 11, ground := Ground.phase }], guard := none }) rfl (fun K hK => ?_) ?_
              · go_simp
                try (go_wp2_with fail)
                refine hK.out _ _ ?_ (fun hHeld => ?_)
                · (try dsimp only); (repeat (first | (with_reducible assumption) | (with_reducible apply Fr.drew) | (with_reducible apply Fr.drewN) | (with_reducible apply Fr.alloc) | (with_reducible refine Fr.step ?_ (by with_reducible assumption)) | (with_reducible refine Fr.trans ?_ (by with_reducible assumption))))
                clear hK K
                try simp only [Act.put, List.setIfInBounds_toArray, List.set_cons_zero, List.set_cons_succ]
                refine wpAnyH_done (by kernel_rfl) ?_ _
                have hBF : Box (y6.setCell ⟨xb, 3, none⟩ (.slice A6 (k + 1) d6)) xb 127 #[.int .i64 vr, .int .i64 fl, .bool em, .slice A6 (k + 1) d6, .int .i64 0, .int .i64 0] := XB6.set 3 (.slice A6 (k + 1) d6)
                have hXF : Ext w (y6.setCell ⟨xb, 3, none⟩ (.slice A6 (k + 1) d6)) := (r6.ext (hxr.trans hza) (fun g hg => (oX.lt hg).1)).set (p := ⟨xb, 3, none⟩) hxb _
                have hOF : OwnX (y6.setCell ⟨xb, 3, none⟩ (.slice A6 (k + 1) d6)) w.heap.size 9 1 (.slice A6 (k + 1) d6) (k + 1) (sV ((List.range (k + 1)).map (fun j => ratText (y j)))) := by
                  rw [List.range_succ, List.map_append, List.map_singleton, sV_snoc, ← HTS.out]
                  exact o6.fr ((Fr.refl (fun g => g = xb) y6).set (p := ⟨xb, 3, none⟩) rfl (fun z => by rw [c6]; intro e; cases e) _) (fun g hg e => by
                    obtain ⟨-, -, cur, hcur⟩ := o6.lt hg
                    rw [e] at hcur
                    exact row_ne XB6 hcur (by decide) rfl)
                go_wp2_with fail
                go_roundw
                case rel => exact ⟨k + 1, _, _, by omega, by go_num, hOF, hBF, hXF⟩
                case measure => simp [intOf]; omega
              exact AllReadyH.nil
            exact AllReadyH.nil
          exact AllReadyH.nil
        exact AllReadyH.nil
      exact AllReadyH.nil
    · obtain rfl : k = n := by omega
      obtain ⟨x, hx⟩ : ∃ x : RN, x = ⟨vr, fl, em, (List.range k).map (fun j => ratText (y j))⟩ := ⟨_, rfl⟩
      have hys : x.ys = (List.range k).map (fun j => ratText (y j)) := by rw [hx]
      have hyl : x.ys.length = k := by rw [hys, List.length_map, List.length_range]
      have hRS : RowS wr (.slice A1 k c1) x.ys := by
        have := RowS.of_own (w := wr) (base := w.heap.size) (v := .slice A1 k c1) (ys := x.ys) (by rw [hyl, hys]; exact oX)
        exact this
      obtain ⟨xs, oN, hzN⟩ := hX.ext hxr
      have n0 := XBr.c0
      have n1 := XBr.c1
      have n2 : wr.cell? ⟨xb, 2, none⟩ = some (.bool em) := XBr.cell 2
      have n3 : wr.cell? ⟨xb, 3, none⟩ = some (.slice A1 k c1) := XBr.cell 3
      have n4 : wr.cell? ⟨xb, 4, none⟩ = some (.int .i64 0) := XBr.cell 4
      have n5 : wr.cell? ⟨xb, 5, none⟩ = some (.int .i64 0) := XBr.cell 5
      have hxn : Ext wr (wr.alloc (.cells #[.int .i64 vr, .int .i64 fl, .bool em, .slice A1 k c1, .int .i64 0, .int .i64 0] 127)) := (Ext.refl wr).alloc _
      have hsn : w0.heap.size ≤ (wr.alloc (.cells #[.int .i64 vr, .int .i64 fl, .bool em, .slice A1 k c1, .int .i64 0, .int .i64 0] 127)).heap.size := by have := hxn.size; have := hxr.size; omega
      rw [← HR.out] at oN
      have HX := Lib.hid hx
      clear hx hys hX
      go_upto_region 9 with (at_builtin; refine wpList_pushX rfl (.tmp 53) (.tmp 55) 64 rfl w0.heap.size 127 ik (.agg #[.int .i64 0, .int .i64 0, .bool false, .slice none 0 0, .int .i64 0, .int .i64 0]) 6 64 Tryz.underlying64 ik1 ik2 ik3 ik4 rfl zNode _ R _ rfl (oN.ext hxn) wr.heap.size [.int .i64 vr, .int .i64 fl, .bool em, .slice A1 k c1, .int .i64 0, .int .i64 0] 1 rfl rfl (new6 wr 127 _ _ _ _ _ _) ?one ?nou (by omega) (by decide) hsn ?_; (case one => intro y hy; simp at hy; rcases hy with rfl | rfl | rfl | rfl | rfl | rfl <;> rfl); (case nou => intro y hy; simp at hy; rcases hy with rfl | rfl | rfl | rfl | rfl | rfl <;> rfl); intro v9 w9 o9 r9 s9; obtain ⟨A9, d9, rfl⟩ := o9.shape)
      have hx9 : Ext w0 w9 := r9.ext (hEr.trans hxn) (fun b hb => by have := ((oN.ext hxn).lt hb).1; omega)
      have hN9 : NodX w9 w0.heap.size (.slice A9 (R + 1) d9) (rows ++ [x]) := by
        have hcell : cell6 x (.slice A1 k c1) = [.int .i64 vr, .int .i64 fl, .bool em, .slice A1 k c1, .int .i64 0, .int .i64 0] := by rw [HX.out]; rfl
        have hzn : NodZ (wr.alloc (.cells #[.int .i64 vr, .int .i64 fl, .bool em, .slice A1 k c1, .int .i64 0, .int .i64 0] 127)) (fun i => xs[i]?) rows := hzN.fr (P := fun _ => False) (Fr.of hxn) (fun _ _ _ => id)
        have e := HR.out
        subst e
        refine NodX.push (y := .slice A1 k c1) oN hzn (hRS.ext hxn) hxn ?_ r9
        rw [hcell]; exact o9
      have HFL : Hid (flat (.node vr fl em k y lo hi) = x :: (if vr = -1 then [] else flat lo ++ flat hi)) := Lib.hid (by rw [HX.out]; rfl)
      have HLR : Hid ((rows ++ [x]).length = R + 1) := Lib.hid (by rw [List.length_append, HR.out]; rfl)
      have NB9 := NB.ext hx9
      have t0 : w9.cell? ⟨kb, 0, none⟩ = some (.int .i64 vr) := NB9.cell 0
      have t1 : w9.cell? ⟨kb, 1, none⟩ = some (.int .i64 fl) := NB9.cell 1
      have t2 : w9.cell? ⟨kb, 2, none⟩ = some (.pointer L) := NB9.cell 2
      have t3 : w9.cell? ⟨kb, 3, none⟩ = some (.pointer H) := NB9.cell 3
      have t4 : w9.cell? ⟨kb, 4, none⟩ = some (.bool em) := NB9.cell 4
      have t5 : w9.cell? ⟨kb, 5, none⟩ = some (.slice Y k c) := NB9.cell 5
      have hwdef : (CT.node vr fl em k y lo hi).wf = (if vr = -1 then decide (fl = 0) && (lo.isNil && hi.isNil) else decide (0 ≤ vr) && (decide (vr ≤ 9999) && (!em && (decide (k = 0) && (lo.wf && hi.wf))))) := rfl
      obtain ⟨WF, hWF⟩ : ∃ b, b = (CT.node vr fl em k y lo hi).wf := ⟨_, rfl⟩
      rw [← hWF] at hwdef
      have HWF := Lib.hid hWF
      have HWD := Lib.hid hwdef
      have HGOAL : Hid (∀ e w', (∃ v', e = .returned (.tuple #[v', .bool WF]) ∧ (WF = true → NodX w' w0.heap.size v' (rows ++ (x :: (if vr = -1 then [] else flat lo ++ flat hi)))) ∧ Ext w0 w') → PlP w0 rows (.node vr fl em k y lo hi) e w') := Lib.hid (fun e w' h => by
        unfold PlP
        rw [HFL.out, ← HWF.out]
        exact h)
      clear o9 r9 s9 hxn hsn oN hzN hRS XBr NBr n0 n1 n2 n3 n4 n5 oX hWF hwdef hY NB9
      obtain ⟨bk, hbk⟩ : ∃ b, decide ((0 : Int) < (k : Int)) = b := ⟨_, rfl⟩
      have HBK : Hid (bk = decide (0 < k)) := Lib.hid (by rw [← hbk, Bool.eq_iff_iff]; simp)
      by_cases hv : vr = -1
      · have ev : (vr == -1) = true := by rw [hv]; rfl
        obtain ⟨bf, hbf⟩ : ∃ b, (fl == 0) = b := ⟨_, rfl⟩
        have hLr := HL0.out
        have hHr := HH0.out
        obtain ⟨bL, hbL⟩ : ∃ b, b = L.isNone := ⟨_, rfl⟩
        obtain ⟨bH, hbH⟩ : ∃ b, b = H.isNone := ⟨_, rfl⟩
        rw [← hbL] at hLr
        rw [← hbH] at hHr
        have HWB : Hid (WF = (bf && (bL && bH))) := Lib.hid (by
          rw [HWD.out, if_pos hv, ← hbf, hbL, hbH]
          have e1 : lo.isNil = L.isNone := by
            rw [Bool.eq_iff_iff, Option.isNone_iff_eq_none, HLN.out]
            cases lo with
            | nil => simp [CT.isNil]
            | node => simp [CT.isNil]
          have e2 : hi.isNil = H.isNone := by
            rw [Bool.eq_iff_iff, Option.isNone_iff_eq_none, HHN.out]
            cases hi with
            | nil => simp [CT.isNil]
            | node => simp [CT.isNil]
          rw [e1, e2]
          congr 1)
        have HG2 : Hid (∀ e w', (∃ v', e = .returned (.tuple #[v', .bool WF]) ∧ (WF = true → NodX w' w0.heap.size v' (rows ++ [x])) ∧ Ext w0 w') → PlP w0 rows (.node vr fl em k y lo hi) e w') := Lib.hid (fun e w' h => HGOAL.out e w' (by rw [if_pos hv]; exact h))
        clear hv hbL hbH
        go_upto_region 10 with fail
        cases bf with
        | false =>
          go_quiet (fail)
          go_wp2_with fail
          go_ret2
          exact HG2.out _ _ ⟨_, by rw [HWB.out]; rfl, fun _ => hN9.ext ((Ext.refl _).drewN _), hx9.drewN _⟩
        | true =>
          cases bL with
          | false =>
            go_quiet (fail)
            go_wp2_with fail
            go_ret2
            exact HG2.out _ _ ⟨_, by rw [HWB.out]; rfl, fun _ => hN9.ext ((Ext.refl _).drewN _), hx9.drewN _⟩
          | true =>
            go_quiet (fail)
            go_wp2_with fail
            go_ret2
            exact HG2.out _ _ ⟨_, by rw [HWB.out]; rfl, fun _ => hN9.ext ((Ext.refl _).drewN _), hx9.drewN _⟩
      · have ev : (vr == -1) = false := by rw [beq_eq_false_iff_ne]; exact hv
        have HWB : Hid (WF = (decide (0 ≤ vr) && (decide (vr ≤ 9999) && (!em && (decide (k = 0) && (lo.wf && hi.wf)))))) := Lib.hid (by rw [HWD.out, if_neg hv])
        have HG2 : Hid (∀ e w', (∃ v', e = .returned (.tuple #[v', .bool WF]) ∧ (WF = true → NodX w' w0.heap.size v' (rows ++ (x :: (flat lo ++ flat hi)))) ∧ Ext w0 w') → PlP w0 rows (.node vr fl em k y lo hi) e w') := Lib.hid (fun e w' h => HGOAL.out e w' (by rw [if_neg hv]; exact h))
        clear hv
        obtain ⟨bb, hbb⟩ : ∃ b, b = !(decide (0 ≤ vr ∧ vr ≤ 9999 ∧ em = false ∧ k = 0)) := ⟨_, rfl⟩
        have HBB := Lib.hid hbb
        clear hbb
        go_upto_region 11 with fail
        go_cut [107] (fun v wx => v = .bool bb ∧ wx = w9)
        case first =>
          by_cases hv0 : vr < 0
          · have u1 : decide (vr < 0) = true := decide_eq_true hv0
            have hb : bb = true := by rw [HBB.out, decide_eq_false (by omega)]; rfl
            clear hbk
            go_wp2_with fail
            go_meet
            exact ⟨by rw [hb], rfl⟩
          · have u1 : decide (vr < 0) = false := decide_eq_false hv0
            by_cases hv9 : (9999 : Int) < vr
            · have u2 : decide ((9999 : Int) < vr) = true := decide_eq_true hv9
              have hb : bb = true := by rw [HBB.out, decide_eq_false (by omega)]; rfl
              clear hbk
              go_wp2_with fail
              go_meet
              exact ⟨by rw [hb], rfl⟩
            · have u2 : decide ((9999 : Int) < vr) = false := decide_eq_false hv9
              cases em with
              | true =>
                have hb : bb = true := by rw [HBB.out, decide_eq_false (by simp)]; rfl
                clear hbk
                go_wp2_with fail
                go_meet
                exact ⟨by rw [hb], rfl⟩
              | false =>
                have hb : bb = decide (0 < k) := by
                  rw [HBB.out]
                  by_cases h : k = 0
                  · rw [decide_eq_true (by exact ⟨by omega, by omega, rfl, h⟩), decide_eq_false (by omega)]; rfl
                  · rw [decide_eq_false (fun q => h q.2.2.2), decide_eq_true (by omega)]; rfl
                have HB9 := Lib.hid hb
                clear hbk hb
                go_wp2_with fail
                go_meet
                exact ⟨by rw [HB9.out], rfl⟩
        case rest =>
        rename_i hK8
        obtain ⟨rfl, hwx⟩ := hcut
        refine hK8 _ _ ?_
        subst hwx
        clear hK8 hbk
        by_cases hgood : 0 ≤ vr ∧ vr ≤ 9999 ∧ em = false ∧ k = 0
        case neg =>
          have HF : Hid (WF = false) := Lib.hid (by
            rw [HWB.out, Bool.eq_false_iff]
            intro h
            simp only [Bool.and_eq_true, decide_eq_true_eq, Bool.not_eq_true'] at h
            exact hgood ⟨h.1, h.2.1, h.2.2.1, h.2.2.2.1⟩)
          have hb : bb = true := by rw [HBB.out, decide_eq_false hgood]; rfl
          subst hb
          clear hgood HWB
          go_wp2_with fail
          go_ret2
          exact HG2.out _ _ ⟨_, by rw [HF.out]; rfl, fun h => (by rw [HF.out] at h; cases h), hx9⟩
        case pos =>
          obtain ⟨hv0, hv9, hem, hk0⟩ := hgood
          have HW3 : Hid (WF = (lo.wf && hi.wf)) := Lib.hid (by rw [HWB.out, decide_eq_true hv0, decide_eq_true hv9, hem, decide_eq_true hk0]; rfl)
          have hb : bb = false := by rw [HBB.out, decide_eq_true ⟨hv0, hv9, hem, hk0⟩]; rfl
          subst hb
          subst hem
          clear hv0 hv9 hk0 HWB
          obtain ⟨bl, hbl⟩ : ∃ b, b = lo.wf := ⟨_, rfl⟩
          obtain ⟨bh, hbh⟩ : ∃ b, b = hi.wf := ⟨_, rfl⟩
          rw [← hbl, ← hbh] at HW3
          have HBL := Lib.hid hbl
          have HBH := Lib.hid hbh
          clear hbl hbh
          go_wp2_with fail
          refine (HH1.out _ _ _ hx9 hN9 (by rw [HLR.out, HR.out])).mono ?_
          rintro e w10 ⟨v10, rfl, hN10, hx10⟩
          rw [← HBL.out] at hN10 ⊢
          cases bl with
          | false =>
            go_wp2_with fail
            go_ret2
            exact HG2.out _ _ ⟨v10, by rw [HW3.out]; rfl, fun h => (by rw [HW3.out] at h; cases h), hx10⟩
          | true =>
            have hN10' := hN10 rfl
            have NB10 := NB.ext hx10
            have t3 : w10.cell? ⟨kb, 3, none⟩ = some (.pointer H) := NB10.cell 3
            have HL10 : Hid ((rows ++ [x] ++ flat lo).length ≤ R + 1 + lo.size) := Lib.hid (by
              have := flat_len lo
              rw [List.length_append, HLR.out]; omega)
            have HC2 := Lib.hid (HH2.out w10 v10 _ hx10 hN10' (by rw [← HR.out]; exact HL10.out))
            clear hN10 hN10' hN9
            go_wp2_with fail
            refine HC2.out.mono ?_
            rintro e w11 ⟨v11, rfl, hN11, hx11⟩
            rw [← HBH.out] at hN11 ⊢
            go_wp2_with fail
            go_ret2
            exact HG2.out _ _ ⟨v11, by rw [HW3.out]; rfl, fun h => (by
              rw [HW3.out] at h
              have := hN11 (by simpa using h)
              rw [List.append_assoc, List.append_assoc] at this
              exact this), hx11⟩
theorem plain_b : ∀ (t : CT) (w0 : World) (A : Option Addr) (b h d : Nat) (v : Value) (rows : List RN) (w : World), TreeI w0 t A b h → t.okY 2 → Ext w0 w → NodX w w0.heap.size v rows → d + t.dep ≤ 200 → rows.length + t.size ≤ 100000 → TabOK w0 →
    Calls Tryz.prog 24 #[.pointer A, .int .i64 (d : Int), v] w (PlP w0 rows t) := by
  intro t
  induction t with
  | nil =>
    intro w0 A b h d v rows w hT hok hE hX hd hs htab
    obtain ⟨rfl, -⟩ := hT
    obtain ⟨A0, c0, rfl⟩ := hX.shape
    obtain ⟨R, hR⟩ : ∃ R, R = rows.length := ⟨_, rfl⟩
    rw [← hR]
    clear hR
    go_enter Tryz.func24, Tryz.ntmps24
    go_wp2_with fail
    go_ret2
    exact ⟨_, rfl, fun h => (by cases h), hE⟩
  | node vr fl em n y lo hi iha ihb =>
    intro w0 A b h d v rows w hT hok hE hX hd hs htab
    have hTT := hT
    obtain ⟨k, L, H, Y, c, m1, m2, rfl, h1, h2, NB, hY, hlo, hhi⟩ := hT
    obtain ⟨o1, o2, o3, o4, o5⟩ := hok
    have hdd : (CT.node vr fl em n y lo hi).dep = 1 + max lo.dep hi.dep := rfl
    have hss : (CT.node vr fl em n y lo hi).size = 1 + lo.size + hi.size := rfl
    rw [hdd] at hd
    rw [hss] at hs
    refine plain_node w0 w k d n c vr fl em L H Y y lo hi rows v hE NB hY.1.rats o2 o3 hlo.nilA hhi.nilA hlo.addr hhi.addr hX (by omega) (by omega) htab (fun W v' rows' hW hX' hl => ?_) (fun W v' rows' hW hX' hl => ?_)
    · have := iha w0 L m1 m2 (d + 1) v' rows' W hlo o4 hW hX' (by omega) (by omega) htab
      rw [show ((d + 1 : Nat) : Int) = (d : Int) + 1 by omega] at this
      exact this
    · have := ihb w0 H m2 h (d + 1) v' rows' W hhi o5 hW hX' (by omega) (by omega) htab
      rw [show ((d + 1 : Nat) : Int) = (d : Int) + 1 by omega] at this
      exact this
end Go.Proofs.YtljncdcjkdgkeaaGreatDoor.Dc

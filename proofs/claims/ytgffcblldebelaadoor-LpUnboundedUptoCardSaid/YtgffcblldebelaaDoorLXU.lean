/- Walk: the closure of LpUnbounded: whether a value can be had. -/
import Derived.Test.YtgffcblldebelaaDoorLXV
set_option linter.unusedVariables false
set_option linter.unusedSimpArgs false
namespace Go.Proofs.YtgffcblldebelaaDoor.Lp
open Go.RowKit Go.Proofs.YtgffcblldebelaaDoor.Big Go.Proofs.YtgffcblldebelaaDoor.Rt

theorem want_step {U y : World} {base tb m N n d cz : Nat} {P : PL} {b : Rat} {xs news : List Value} {Az A A0 : Option Addr} {n0 c0 : Nat} (hn : n = P.obj.length) (hm : m = P.rows.length) (hN : N = m + 1) (hl : xs.length = m * 6) (hPR : PRows U (fun i => xs[i]?) P.rows) (hPX : PRX U (fun i => news[i]?) 0 ⟨P.obj, 3, b⟩) (hZ : RatsV U Az n cz (fun _ => 0))
    (TB : Box y tb 31 #[.slice Az n cz, .slice A0 n0 c0]) (o : OwnX y base 48 6 (.slice A N d) N (xs ++ news)) (hX : Ext U y) (hq : U.heap.size ≤ tb) :
    ProbV (y.setCell ⟨tb, 1, none⟩ (.slice A N d)) (.agg #[.slice Az n cz, .slice A N d]) (P.want b).toP ∧ Box (y.setCell ⟨tb, 1, none⟩ (.slice A N d)) tb 31 #[.slice Az n cz, .slice A N d] ∧ Ext U (y.setCell ⟨tb, 1, none⟩ (.slice A N d)) := by
  subst hn hm
  have hN : N = (P.rows ++ [(⟨P.obj, 3, b⟩ : RL)]).length := by rw [hN, List.length_append, List.length_singleton]
  subst hN
  have hF : Fr (fun k => k = tb) y (y.setCell ⟨tb, 1, none⟩ (.slice A (P.rows ++ [(⟨P.obj, 3, b⟩ : RL)]).length d)) := (Fr.refl (fun k => k = tb) y).set (p := ⟨tb, 1, none⟩) rfl (fun z => by rw [TB.c1]; intro e; cases e) _
  have o7 := o.fr hF (fun g hg e => by obtain ⟨-, -, cur, hcur⟩ := o.lt hg; exact row_ne TB hcur (by decide) e.symm)
  have hXY : Ext U (y.setCell ⟨tb, 1, none⟩ (.slice A (P.rows ++ [(⟨P.obj, 3, b⟩ : RL)]).length d)) := hX.set (p := ⟨tb, 1, none⟩) hq _
  have hZ' : RatsV (y.setCell ⟨tb, 1, none⟩ (.slice A (P.rows ++ [(⟨P.obj, 3, b⟩ : RL)]).length d)) Az (List.replicate P.obj.length (0 : Rat)).length cz (fun j => (List.replicate P.obj.length (0 : Rat)).getD j 0) := by
    rw [List.length_replicate]
    exact (hZ.ext hXY).congr (fun j _ => (getD_zeros _ _).symm)
  have hp := prows_prob o7 ((PRows.push hPR hl hPX).ext hXY) hZ'
  rw [List.length_replicate] at hp
  exact ⟨hp, TB.set 1 _, hXY⟩
attribute [local go_sem] Go.World.cell?_alloc_some Go.RowKit.frozen?_alloc_cells
set_option maxHeartbeats 4000000 in
set_option maxRecDepth 100000 in
theorem want_b (P : PL) (Ao : Option Addr) (co : Nat) (Ar : Option Addr) (cr qb : Nat) (v : Value) (b : Rat) (Kb K : Nat) (w : World) (hQ : Box w qb 31 #[.slice Ao P.obj.length co, .slice Ar P.rows.length cr])
    (hO : RatsV w Ao P.obj.length co (fun j => P.obj.getD j 0)) (hR : 0 < P.rows.length → ∃ c off, Ar = some ⟨c, off, none⟩ ∧ PRows w (fun i => w.cell? ⟨c, off + i, none⟩) P.rows)
    (hn : P.obj.length ≤ 8) (hm : P.rows.length ≤ 8) (hb : RatB w v b Kb) (hB : Bnd (P.want b).toP K) (hV : validB (P.want b).toP = true) :
    Calls Tryd.prog 20 #[v, .pointer (some ⟨qb, 0, none⟩)] w (ValPost w (.int .i64 (P.want b).err)) := by
  obtain ⟨p1, A1, n1, c1, p1', A1', n1', c1', rfl⟩ := hb.1.shape
  obtain ⟨n0, hn0⟩ : ∃ n, n = P.obj.length := ⟨_, rfl⟩
  obtain ⟨m0, hm0⟩ : ∃ n, n = P.rows.length := ⟨_, rfl⟩
  obtain ⟨xs, hxl, hxs, hx1c, hxnu, hPX⟩ : ∃ xs : List Value, xs.length = P.rows.length * 6 ∧ (0 < P.rows.length → ∃ ad, Ar = some ad ∧ ∀ j y, xs[j]? = some y → w.cell? (ad.add j) = some y) ∧ (∀ y ∈ xs, y.oneCell' = true) ∧ (∀ y ∈ xs, noU y = true) ∧ PRows w (fun i => xs[i]?) P.rows := by
    rcases Nat.eq_zero_or_pos P.rows.length with h | h
    · refine ⟨[], by simp [h], fun h' => by omega, by simp, by simp, fun j r hj => ?_⟩
      have := (List.getElem?_eq_some_iff.1 hj).1
      omega
    · obtain ⟨c, off, e, hp⟩ := hR h
      obtain ⟨xs, g1, g2, g3, g4, g5⟩ := prows_src hp
      exact ⟨xs, g1, fun _ => ⟨_, e, g2⟩, g3, g4, g5⟩
  have HN0 := Lib.hid hn0
  have HM0 := Lib.hid hm0
  rw [← hn0] at hQ hO hn
  rw [← hm0] at hQ hm hxl hxs
  have HPX := Lib.hid hPX
  have HVA := Lib.hid hV
  clear hn0 hm0 hR hPX hV
  have NB := Box.new w 37 #[.bool p1, .slice A1 n1 c1, .bool p1', .slice A1' n1' c1']
  have hE : Ext w (w.alloc (.cells #[.bool p1, .slice A1 n1 c1, .bool p1', .slice A1' n1' c1'] 37)) := (Ext.refl w).alloc _
  go_enter Tryd.func20, Tryd.ntmps20
  go_upto_region 1 with fail
  generalize (w.alloc (.cells #[.bool p1, .slice A1 n1 c1, .bool p1', .slice A1' n1' c1'] 37)) = V at *
  obtain ⟨nb, hnb⟩ : ∃ x, x = w.heap.size := ⟨_, rfl⟩
  rw [← hnb] at NB ⊢
  clear hnb
  have QB := hQ.ext hE
  have q0 := QB.c0
  have hoc := hO.1
  go_upto_region 2 with (at_make; refine wpList_makeR _ rfl _ _ rfl _ _ rfl rfl n0 (by omega) (by omega) (by omega) ?_; intro w1 hR1 hx1)
  have TB := Box.new w1 31 #[.slice (some ⟨V.heap.size, 0, none⟩) n0 n0, .slice none 0 0]
  have hx2 : Ext w1 (w1.alloc (.cells #[.slice (some ⟨V.heap.size, 0, none⟩) n0 n0, .slice none 0 0] 31)) := (Ext.refl w1).alloc _
  generalize (w1.alloc (.cells #[.slice (some ⟨V.heap.size, 0, none⟩) n0 n0, .slice none 0 0] 31)) = X at *
  obtain ⟨tb, htb⟩ : ∃ x, x = w1.heap.size := ⟨_, rfl⟩
  rw [← htb] at TB ⊢
  have hq1 : w1.heap.size ≤ tb := by omega
  clear htb q0
  obtain ⟨Az, hAz⟩ : ∃ A : Option Addr, A = some ⟨V.heap.size, 0, none⟩ := ⟨_, rfl⟩
  rw [← hAz] at TB ⊢
  have hZ : RatsV w1 Az n0 n0 (fun _ => 0) := ⟨Nat.le_refl _, by omega, fun _ => ⟨_, hAz, hR1⟩⟩
  have HZ := Lib.hid hZ
  clear hAz hR1 hZ
  have t1 := TB.c1
  have t2 := TB.frozen 1
  have hLX : Later w1 X := hx2
  have QB1 := QB.ext hx1
  have NB1 := NB.ext hx1
  have kq0 : ∀ w', Later w1 w' → w'.cell? ⟨qb, 0, none⟩ = some _ := fun w' h => (QB1.ext h).c0
  have kq1 : ∀ w', Later w1 w' → w'.cell? ⟨qb, 1, none⟩ = some _ := fun w' h => (QB1.ext h).c1
  have kn0 : ∀ w', Later w1 w' → w'.cell? ⟨nb, 0, none⟩ = some _ := fun w' h => (NB1.ext h).c0
  have kn1 : ∀ w', Later w1 w' → w'.cell? ⟨nb, 1, none⟩ = some _ := fun w' h => (NB1.ext h).c1
  have kn2 : ∀ w', Later w1 w' → w'.cell? ⟨nb, 2, none⟩ = some _ := fun w' h => (NB1.ext h).c2
  have kn3 : ∀ w', Later w1 w' → w'.cell? ⟨nb, 3, none⟩ = some _ := fun w' h => (NB1.ext h).c3
  have hEX := (hE.trans hx1).trans hx2
  have hEW := hE.trans hx1
  have HXS : Hid (0 < m0 → ∃ ad, Ar = some ad ∧ ∀ j y, xs[j]? = some y → X.cell? (ad.add j) = some y) := Lib.hid (fun hm => by
    obtain ⟨ad, e, hc⟩ := hxs hm
    exact ⟨ad, e, fun j y hj => hEX.cell (hc j y hj)⟩)
  have HPX1 : Hid (PRows w1 (fun i => xs[i]?) P.rows) := Lib.hid (HPX.out.ext (hE.trans hx1))
  have HNW : Hid (PRX w1 (fun i => [Value.slice Ao n0 co, .int .u8 3, .bool p1, .slice A1 n1 c1, .bool p1', .slice A1' n1' c1'][i]?) 0 ⟨P.obj, 3, b⟩) := Lib.hid (by
    have ho := hO.ext (hE.trans hx1)
    have hb1 := hb.1.ext (hE.trans hx1)
    rw [HN0.out] at ho ⊢
    exact ⟨Ao, co, _, _, _, _, _, _, _, _, rfl, rfl, rfl, rfl, rfl, rfl, by show (3 : Nat) ≤ 255; omega, ho, hb1⟩)
  obtain ⟨irR, g1, g2, g3, g4⟩ := info_parts infoRow
  clear hxs hO hb QB NB hQ hE hx1 hx2 hEX
  have HB := Lib.hid hB
  clear hB
  refine wp_region_held_drew (S := fun w' => Later w1 w') (by kernel_rfl) ?_ (fun hHeld => ?_)
  · (try dsimp only); (repeat (first | assumption | apply Later.drew | apply Later.drewN | apply Later.alloc | (refine Later.set ?_ (by assumption) _) | (refine Later.step ?_ (by assumption))))
  refine wpAnyH_take (i := 0) (oi := { dst := some 12, op := Op.fieldAddr 31 (Operand.tmp 4) 1, type := 0, pos := "law.go:185", after := #[], guard := none }) (v := ?_) rfl (by kernel_rfl) (by kernel_rfl) (by kernel_rfl) (fun _ _ _ h => h) (Or.inl ⟨by rfl, ?_⟩) (by assumption) ?_
  rotate_left
  · intro w hSw; (try dsimp only at hSw); go_simp; try (with_reducible rfl)
  try simp only [Act.put, List.setIfInBounds_toArray, List.set_cons_zero, List.set_cons_succ]
  refine wpAnyH_take (i := 2) (oi := { dst := some 14, op := Op.fieldAddr 31 (Operand.tmp 1) 1, type := 0, pos := "law.go:185", after := #[], guard := none }) (v := ?_) rfl (by kernel_rfl) (by kernel_rfl) (by kernel_rfl) (fun _ _ _ h => h) (Or.inl ⟨by rfl, ?_⟩) (by assumption) ?_
  rotate_left
  · intro w hSw; (try dsimp only at hSw); go_simp; try (with_reducible rfl)
  try simp only [Act.put, List.setIfInBounds_toArray, List.set_cons_zero, List.set_cons_succ]
  refine wpAnyH_take (i := 3) (oi := { dst := some 15, op := Op.load 29 (Operand.tmp 14), type := 29, pos := "law.go:185", after := #[{ on := 2, ground := Ground.data }], guard := none }) (v := ?_) rfl (by kernel_rfl) (by kernel_rfl) (by kernel_rfl) (fun _ _ _ h => h) (Or.inl ⟨by rfl, ?_⟩) (by assumption) ?_
  rotate_left
  · intro w hSw; (try dsimp only at hSw); go_simp; try (with_reducible rfl)
  try simp only [Act.put, List.setIfInBounds_toArray, List.set_cons_zero, List.set_cons_succ]
  refine wpAnyH_take (i := 5) (oi := { dst := some 17, op := Op.fieldAddr 31 (Operand.tmp 1) 0, type := 0, pos := "law.go:185", after := #[], guard := none }) (v := ?_) rfl (by kernel_rfl) (by kernel_rfl) (by kernel_rfl) (fun _ _ _ h => h) (Or.inl ⟨by rfl, ?_⟩) (by assumption) ?_
  rotate_left
  · intro w hSw; (try dsimp only at hSw); go_simp; try (with_reducible rfl)
  try simp only [Act.put, List.setIfInBounds_toArray, List.set_cons_zero, List.set_cons_succ]
  refine wpAnyH_take (i := 6) (oi := { dst := some 18, op := Op.load 28 (Operand.tmp 17), type := 28, pos := "law.go:185", after := #[{ on := 5, ground := Ground.data }], guard := none }) (v := ?_) rfl (by kernel_rfl) (by kernel_rfl) (by kernel_rfl) (fun _ _ _ h => h) (Or.inl ⟨by rfl, ?_⟩) (by assumption) ?_
  rotate_left
  · intro w hSw; (try dsimp only at hSw); go_simp; try (with_reducible rfl)
  try simp only [Act.put, List.setIfInBounds_toArray, List.set_cons_zero, List.set_cons_succ]
  refine wpAnyH_take (i := 7) (oi := { dst := some 19, op := Op.load 37 (Operand.tmp 2), type := 37, pos := "law.go:185", after := #[], guard := none }) (v := ?_) rfl (by kernel_rfl) (by kernel_rfl) (by kernel_rfl) (fun _ _ _ h => h) (Or.inl ⟨by rfl, ?_⟩) (by assumption) ?_
  rotate_left
  · intro w hSw; (try dsimp only at hSw); go_simp; try (with_reducible rfl)
  try simp only [Act.put, List.setIfInBounds_toArray, List.set_cons_zero, List.set_cons_succ]
  refine wpAnyH_take (i := 8) (oi := { dst := some 20, op := Op.build 48 #[(0, Operand.tmp 18), (1, Operand.const (Value.int IntKind.u8 3)), (2, Operand.tmp 19)], type := 48, pos := "law.go:185", after := #[{ on := 6, ground := Ground.data }, { on := 7, ground := Ground.data }], guard := none }) (v := ?_) rfl (by kernel_rfl) (by kernel_rfl) (by kernel_rfl) (fun _ _ _ h => h) (Or.inl ⟨by rfl, ?_⟩) (by assumption) ?_
  rotate_left
  · intro w hSw; (try dsimp only at hSw); go_simp; try (with_reducible rfl)
  try simp only [Act.put, List.setIfInBounds_toArray, List.set_cons_zero, List.set_cons_succ]
  refine wpAnyH_ready (rs := [1, 9]) (by kernel_rfl) (by simp) ?_
  refine AllReadyH.cons (o := { dst := some 13, op := Op.load 29 (Operand.tmp 12), type := 29, pos := "law.go:185", after := #[{ on := 0, ground := Ground.data }], guard := none }) rfl (fun K hK => ?_) ?_
  · go_simp
    try (go_wp2_with fail)
    refine hK.out _ _ ?_ (fun hHeld => ?_)
    · (try dsimp only); (repeat (first | assumption | apply Later.drew | apply Later.drewN | apply Later.alloc | (refine Later.set ?_ (by assumption) _) | (refine Later.step ?_ (by assumption))))
    clear hK K
    try simp only [Act.put, List.setIfInBounds_toArray, List.set_cons_zero, List.set_cons_succ]
    refine wpAnyH_ready (rs := [4, 9]) (by kernel_rfl) (by simp) ?_
    refine AllReadyH.cons (o := { dst := some 16, op := Op.call { callee := Callee.builtin Builtin.append, args := #[Operand.tmp 13, Operand.tmp 15], argTypes := #[29, 29] }, type := 29, pos := "law.go:185", after := #[{ on := 1, ground := Ground.data }, { on := 3, ground := Ground.data }], guard := none }) rfl (fun K hK => ?_) ?_
    · skip
      first
        | ((refine step_pushAL rfl (.tmp 13) (.tmp 15) 29 rfl X (by repeat (first | assumption | exact Ext.refl _ | apply Ext.drew | apply Ext.alloc)) 48 irR _ 6 96 Tryd.underlying29 g1 g2 g3 g4 rfl zRow _ 0 [] rfl (OwnX.nil _ _ _ _) Ar m0 xs cr rfl hxl (fun hm => by obtain ⟨ad, e, hc⟩ := HXS.out hm; exact ⟨ad, e, fun j y hj => Ext.cell (by repeat (first | assumption | exact Ext.refl _ | apply Ext.drew | apply Ext.alloc)) (hc j y hj)⟩) hx1c hxnu (by omega) (by decide) ?_); intro v8 y8 o8 r8 hX8; (have hL8 : Later w1 y8 := Ext.trans hLX hX8); (rw [Nat.zero_add, List.nil_append] at o8); (obtain ⟨A8, d8, rfl⟩ := o8.shape); (try rw [Nat.zero_add]); (have t8 := hX8.cell t1))
        | ((refine step_pushXL rfl (.tmp 16) (.tmp 21) 29 rfl X (by repeat (first | assumption | exact Ext.refl _ | apply Ext.drew | apply Ext.alloc)) 48 irR _ 6 96 Tryd.underlying29 g1 g2 g3 g4 rfl zRow _ m0 xs rfl (by first | exact o8 | exact o8.ext ((Ext.refl _).alloc _)) _ [Value.slice Ao n0 co, .int .u8 3, .bool p1, .slice A1 n1 c1, .bool p1', .slice A1' n1' c1'] 1 rfl rfl (fun j y hj => by first | exact new6 _ _ _ _ _ _ _ _ j y hj | exact r8.cell (fun h => by cases h) (new6 _ _ _ _ _ _ _ _ j y hj)) one6 nou6 (by omega) (by decide) ?_); intro v10 y10 o10 r10 hX10; (have hL10 : Later w1 y10 := Ext.trans hLX hX10); (have TB10 := TB.ext hX10); (have c10 := TB10.c1); (have z10 := TB10.frozen 1); (obtain ⟨A10, d10, rfl⟩ := o10.shape))
      try (go_wp2_with fail)
      refine hK.out _ _ ?_ (fun hHeld => ?_)
      · (try dsimp only); (repeat (first | assumption | apply Later.drew | apply Later.drewN | apply Later.alloc | (refine Later.set ?_ (by assumption) _) | (refine Later.step ?_ (by assumption))))
      clear hK K
      try simp only [Act.put, List.setIfInBounds_toArray, List.set_cons_zero, List.set_cons_succ]
      refine wpAnyH_ready (rs := [9]) (by kernel_rfl) (by simp) ?_
      refine AllReadyH.cons (o := { dst := some 21, op := Op.buildSlice 29 1 #[(0, Operand.tmp 20)], type := 29, pos := "law.go:185", after := #[{ on := 8, ground := Ground.data }], guard := none }) rfl (fun K hK => ?_) ?_
      · go_simp
        try (go_wp2_with fail)
        refine hK.out _ _ ?_ (fun hHeld => ?_)
        · (try dsimp only); (repeat (first | assumption | apply Later.drew | apply Later.drewN | apply Later.alloc | (refine Later.set ?_ (by assumption) _) | (refine Later.step ?_ (by assumption))))
        clear hK K
        try simp only [Act.put, List.setIfInBounds_toArray, List.set_cons_zero, List.set_cons_succ]
        refine wpAnyH_ready (rs := [10]) (by kernel_rfl) (by simp) ?_
        refine AllReadyH.cons (o := { dst := some 22, op := Op.call { callee := Callee.builtin Builtin.append, args := #[Operand.tmp 16, Operand.tmp 21], argTypes := #[29, 29] }, type := 29, pos := "law.go:185", after := #[{ on := 4, ground := Ground.data }, { on := 9, ground := Ground.data }, { on := 4, ground := Ground.chain }], guard := none }) rfl (fun K hK => ?_) ?_
        · skip
          first
            | ((refine step_pushAL rfl (.tmp 13) (.tmp 15) 29 rfl X (by repeat (first | assumption | exact Ext.refl _ | apply Ext.drew | apply Ext.alloc)) 48 irR _ 6 96 Tryd.underlying29 g1 g2 g3 g4 rfl zRow _ 0 [] rfl (OwnX.nil _ _ _ _) Ar m0 xs cr rfl hxl (fun hm => by obtain ⟨ad, e, hc⟩ := HXS.out hm; exact ⟨ad, e, fun j y hj => Ext.cell (by repeat (first | assumption | exact Ext.refl _ | apply Ext.drew | apply Ext.alloc)) (hc j y hj)⟩) hx1c hxnu (by omega) (by decide) ?_); intro v8 y8 o8 r8 hX8; (have hL8 : Later w1 y8 := Ext.trans hLX hX8); (rw [Nat.zero_add, List.nil_append] at o8); (obtain ⟨A8, d8, rfl⟩ := o8.shape); (try rw [Nat.zero_add]); (have t8 := hX8.cell t1))
            | ((refine step_pushXL rfl (.tmp 16) (.tmp 21) 29 rfl X (by repeat (first | assumption | exact Ext.refl _ | apply Ext.drew | apply Ext.alloc)) 48 irR _ 6 96 Tryd.underlying29 g1 g2 g3 g4 rfl zRow _ m0 xs rfl (by first | exact o8 | exact o8.ext ((Ext.refl _).alloc _)) _ [Value.slice Ao n0 co, .int .u8 3, .bool p1, .slice A1 n1 c1, .bool p1', .slice A1' n1' c1'] 1 rfl rfl (fun j y hj => by first | exact new6 _ _ _ _ _ _ _ _ j y hj | exact r8.cell (fun h => by cases h) (new6 _ _ _ _ _ _ _ _ j y hj)) one6 nou6 (by omega) (by decide) ?_); intro v10 y10 o10 r10 hX10; (have hL10 : Later w1 y10 := Ext.trans hLX hX10); (have TB10 := TB.ext hX10); (have c10 := TB10.c1); (have z10 := TB10.frozen 1); (obtain ⟨A10, d10, rfl⟩ := o10.shape))
          try (go_wp2_with fail)
          refine hK.out _ _ ?_ (fun hHeld => ?_)
          · (try dsimp only); (repeat (first | assumption | apply Later.drew | apply Later.drewN | apply Later.alloc | (refine Later.set ?_ (by assumption) _) | (refine Later.step ?_ (by assumption))))
          clear hK K
          try simp only [Act.put, List.setIfInBounds_toArray, List.set_cons_zero, List.set_cons_succ]
          refine wpAnyH_take (i := 11) (oi := { dst := some 23, op := Op.fieldAddr 31 (Operand.tmp 4) 1, type := 0, pos := "law.go:185", after := #[{ on := 0, ground := Ground.phase }, { on := 1, ground := Ground.phase }, { on := 2, ground := Ground.phase }, { on := 3, ground := Ground.phase }, { on := 4, ground := Ground.phase }, { on := 5, ground := Ground.phase }, { on := 6, ground := Ground.phase }, { on := 7, ground := Ground.phase }, { on := 8, ground := Ground.phase }, { on := 9, ground := Ground.phase }, { on := 10, ground := Ground.phase }], guard := none }) (v := ?_) rfl (by kernel_rfl) (by kernel_rfl) (by kernel_rfl) (fun _ _ _ h => h) (Or.inl ⟨by rfl, ?_⟩) (by assumption) ?_
          rotate_left
          · intro w hSw; (try dsimp only at hSw); go_simp; try (with_reducible rfl)
          try simp only [Act.put, List.setIfInBounds_toArray, List.set_cons_zero, List.set_cons_succ]
          refine wpAnyH_ready (rs := [12]) (by kernel_rfl) (by simp) ?_
          refine AllReadyH.cons (o := { dst := none, op := Op.store 29 (Operand.tmp 23) (Operand.tmp 22), type := 0, pos := "law.go:185", after := #[{ on := 11, ground := Ground.data }, { on := 10, ground := Ground.data }, { on := 10, ground := Ground.chain }, { on := 0, ground := Ground.phase }, { on := 1, ground := Ground.phase }, { on := 2, ground := Ground.phase }, { on := 3, ground := Ground.phase }, { on := 4, ground := Ground.phase }, { on := 5, ground := Ground.phase }, { on := 6, ground := Ground.phase }, { on := 7, ground := Ground.phase }, { on := 8, ground := Ground.phase }, { on := 9, ground := Ground.phase }, { on := 10, ground := Ground.phase }], guard := none }) rfl (fun K hK => ?_) ?_
          · go_simp
            try (go_wp2_with fail)
            refine hK.out _ _ ?_ (fun hHeld => ?_)
            · (try dsimp only); (repeat (first | assumption | apply Later.drew | apply Later.drewN | apply Later.alloc | (refine Later.set ?_ (by assumption) _) | (refine Later.step ?_ (by assumption))))
            clear hK K
            try simp only [Act.put, List.setIfInBounds_toArray, List.set_cons_zero, List.set_cons_succ]
            refine wpAnyH_done (by kernel_rfl) ?_ _
            obtain ⟨hPq, TB11, hX11⟩ := want_step HN0.out HM0.out rfl hxl HPX1.out HNW.out HZ.out TB10 o10 hL10 hq1
            generalize (y10.setCell ⟨tb, 1, none⟩ (.slice A10 (m0 + 1) d10)) = Y at *
            clear kq0 kq1 kn0 kn1 kn2 kn3 t1 t2 c10 z10 TB10 o10 r10 hX10 hL10 o8 r8 hX8 hL8 t8 TB hLX NB1
            have u0 := TB11.c0
            have u1 := TB11.c1
            go_wp2_with fail
            refine (Solve_l _ _ K _ hPq (fun _ => HB.out)).mono ?_
            rintro e w9 ⟨q2, A2, n2, c2, q2', A2', n2', c2', Ax2, nx2, cx2, Ay2, ny2, cy2, k2, z2, xs2, ys2, rfl, hz2, hX2, hY2, hbx2, hby2, hres2, hx9⟩
            have hk2 : k2 = (P.want b).err := by
              rcases hres2.pl with ⟨_, h1, _⟩ | ⟨h1, _⟩
              · exact h1
              · rw [(validB_pl _).1 HVA.out] at h1; cases h1
            clear hres2 hz2 hX2 hY2 hbx2 hby2 hPq u0 u1
            go_wp2_with fail
            go_ret
            exact ⟨rfl, (hEW.trans hX11).trans (hx9.alloc _)⟩
          exact AllReadyH.nil
        exact AllReadyH.nil
      exact AllReadyH.nil
    refine AllReadyH.cons (o := { dst := some 21, op := Op.buildSlice 29 1 #[(0, Operand.tmp 20)], type := 29, pos := "law.go:185", after := #[{ on := 8, ground := Ground.data }], guard := none }) rfl (fun K hK => ?_) ?_
    · go_simp
      try (go_wp2_with fail)
      refine hK.out _ _ ?_ (fun hHeld => ?_)
      · (try dsimp only); (repeat (first | assumption | apply Later.drew | apply Later.drewN | apply Later.alloc | (refine Later.set ?_ (by assumption) _) | (refine Later.step ?_ (by assumption))))
      clear hK K
      try simp only [Act.put, List.setIfInBounds_toArray, List.set_cons_zero, List.set_cons_succ]
      refine wpAnyH_ready (rs := [4]) (by kernel_rfl) (by simp) ?_
      refine AllReadyH.cons (o := { dst := some 16, op := Op.call { callee := Callee.builtin Builtin.append, args := #[Operand.tmp 13, Operand.tmp 15], argTypes := #[29, 29] }, type := 29, pos := "law.go:185", after := #[{ on := 1, ground := Ground.data }, { on := 3, ground := Ground.data }], guard := none }) rfl (fun K hK => ?_) ?_
      · skip
        first
          | ((refine step_pushAL rfl (.tmp 13) (.tmp 15) 29 rfl X (by repeat (first | assumption | exact Ext.refl _ | apply Ext.drew | apply Ext.alloc)) 48 irR _ 6 96 Tryd.underlying29 g1 g2 g3 g4 rfl zRow _ 0 [] rfl (OwnX.nil _ _ _ _) Ar m0 xs cr rfl hxl (fun hm => by obtain ⟨ad, e, hc⟩ := HXS.out hm; exact ⟨ad, e, fun j y hj => Ext.cell (by repeat (first | assumption | exact Ext.refl _ | apply Ext.drew | apply Ext.alloc)) (hc j y hj)⟩) hx1c hxnu (by omega) (by decide) ?_); intro v8 y8 o8 r8 hX8; (have hL8 : Later w1 y8 := Ext.trans hLX hX8); (rw [Nat.zero_add, List.nil_append] at o8); (obtain ⟨A8, d8, rfl⟩ := o8.shape); (try rw [Nat.zero_add]); (have t8 := hX8.cell t1))
          | ((refine step_pushXL rfl (.tmp 16) (.tmp 21) 29 rfl X (by repeat (first | assumption | exact Ext.refl _ | apply Ext.drew | apply Ext.alloc)) 48 irR _ 6 96 Tryd.underlying29 g1 g2 g3 g4 rfl zRow _ m0 xs rfl (by first | exact o8 | exact o8.ext ((Ext.refl _).alloc _)) _ [Value.slice Ao n0 co, .int .u8 3, .bool p1, .slice A1 n1 c1, .bool p1', .slice A1' n1' c1'] 1 rfl rfl (fun j y hj => by first | exact new6 _ _ _ _ _ _ _ _ j y hj | exact r8.cell (fun h => by cases h) (new6 _ _ _ _ _ _ _ _ j y hj)) one6 nou6 (by omega) (by decide) ?_); intro v10 y10 o10 r10 hX10; (have hL10 : Later w1 y10 := Ext.trans hLX hX10); (have TB10 := TB.ext hX10); (have c10 := TB10.c1); (have z10 := TB10.frozen 1); (obtain ⟨A10, d10, rfl⟩ := o10.shape))
        try (go_wp2_with fail)
        refine hK.out _ _ ?_ (fun hHeld => ?_)
        · (try dsimp only); (repeat (first | assumption | apply Later.drew | apply Later.drewN | apply Later.alloc | (refine Later.set ?_ (by assumption) _) | (refine Later.step ?_ (by assumption))))
        clear hK K
        try simp only [Act.put, List.setIfInBounds_toArray, List.set_cons_zero, List.set_cons_succ]
        refine wpAnyH_ready (rs := [10]) (by kernel_rfl) (by simp) ?_
        refine AllReadyH.cons (o := { dst := some 22, op := Op.call { callee := Callee.builtin Builtin.append, args := #[Operand.tmp 16, Operand.tmp 21], argTypes := #[29, 29] }, type := 29, pos := "law.go:185", after := #[{ on := 4, ground := Ground.data }, { on := 9, ground := Ground.data }, { on := 4, ground := Ground.chain }], guard := none }) rfl (fun K hK => ?_) ?_
        · skip
          first
            | ((refine step_pushAL rfl (.tmp 13) (.tmp 15) 29 rfl X (by repeat (first | assumption | exact Ext.refl _ | apply Ext.drew | apply Ext.alloc)) 48 irR _ 6 96 Tryd.underlying29 g1 g2 g3 g4 rfl zRow _ 0 [] rfl (OwnX.nil _ _ _ _) Ar m0 xs cr rfl hxl (fun hm => by obtain ⟨ad, e, hc⟩ := HXS.out hm; exact ⟨ad, e, fun j y hj => Ext.cell (by repeat (first | assumption | exact Ext.refl _ | apply Ext.drew | apply Ext.alloc)) (hc j y hj)⟩) hx1c hxnu (by omega) (by decide) ?_); intro v8 y8 o8 r8 hX8; (have hL8 : Later w1 y8 := Ext.trans hLX hX8); (rw [Nat.zero_add, List.nil_append] at o8); (obtain ⟨A8, d8, rfl⟩ := o8.shape); (try rw [Nat.zero_add]); (have t8 := hX8.cell t1))
            | ((refine step_pushXL rfl (.tmp 16) (.tmp 21) 29 rfl X (by repeat (first | assumption | exact Ext.refl _ | apply Ext.drew | apply Ext.alloc)) 48 irR _ 6 96 Tryd.underlying29 g1 g2 g3 g4 rfl zRow _ m0 xs rfl (by first | exact o8 | exact o8.ext ((Ext.refl _).alloc _)) _ [Value.slice Ao n0 co, .int .u8 3, .bool p1, .slice A1 n1 c1, .bool p1', .slice A1' n1' c1'] 1 rfl rfl (fun j y hj => by first | exact new6 _ _ _ _ _ _ _ _ j y hj | exact r8.cell (fun h => by cases h) (new6 _ _ _ _ _ _ _ _ j y hj)) one6 nou6 (by omega) (by decide) ?_); intro v10 y10 o10 r10 hX10; (have hL10 : Later w1 y10 := Ext.trans hLX hX10); (have TB10 := TB.ext hX10); (have c10 := TB10.c1); (have z10 := TB10.frozen 1); (obtain ⟨A10, d10, rfl⟩ := o10.shape))
          try (go_wp2_with fail)
          refine hK.out _ _ ?_ (fun hHeld => ?_)
          · (try dsimp only); (repeat (first | assumption | apply Later.drew | apply Later.drewN | apply Later.alloc | (refine Later.set ?_ (by assumption) _) | (refine Later.step ?_ (by assumption))))
          clear hK K
          try simp only [Act.put, List.setIfInBounds_toArray, List.set_cons_zero, List.set_cons_succ]
          refine wpAnyH_take (i := 11) (oi := { dst := some 23, op := Op.fieldAddr 31 (Operand.tmp 4) 1, type := 0, pos := "law.go:185", after := #[{ on := 0, ground := Ground.phase }, { on := 1, ground := Ground.phase }, { on := 2, ground := Ground.phase }, { on := 3, ground := Ground.phase }, { on := 4, ground := Ground.phase }, { on := 5, ground := Ground.phase }, { on := 6, ground := Ground.phase }, { on := 7, ground := Ground.phase }, { on := 8, ground := Ground.phase }, { on := 9, ground := Ground.phase }, { on := 10, ground := Ground.phase }], guard := none }) (v := ?_) rfl (by kernel_rfl) (by kernel_rfl) (by kernel_rfl) (fun _ _ _ h => h) (Or.inl ⟨by rfl, ?_⟩) (by assumption) ?_
          rotate_left
          · intro w hSw; (try dsimp only at hSw); go_simp; try (with_reducible rfl)
          try simp only [Act.put, List.setIfInBounds_toArray, List.set_cons_zero, List.set_cons_succ]
          refine wpAnyH_ready (rs := [12]) (by kernel_rfl) (by simp) ?_
          refine AllReadyH.cons (o := { dst := none, op := Op.store 29 (Operand.tmp 23) (Operand.tmp 22), type := 0, pos := "law.go:185", after := #[{ on := 11, ground := Ground.data }, { on := 10, ground := Ground.data }, { on := 10, ground := Ground.chain }, { on := 0, ground := Ground.phase }, { on := 1, ground := Ground.phase }, { on := 2, ground := Ground.phase }, { on := 3, ground := Ground.phase }, { on := 4, ground := Ground.phase }, { on := 5, ground := Ground.phase }, { on := 6, ground := Ground.phase }, { on := 7, ground := Ground.phase }, { on := 8, ground := Ground.phase }, { on := 9, ground := Ground.phase }, { on := 10, ground := Ground.phase }], guard := none }) rfl (fun K hK => ?_) ?_
          · go_simp
            try (go_wp2_with fail)
            refine hK.out _ _ ?_ (fun hHeld => ?_)
            · (try dsimp only); (repeat (first | assumption | apply Later.drew | apply Later.drewN | apply Later.alloc | (refine Later.set ?_ (by assumption) _) | (refine Later.step ?_ (by assumption))))
            clear hK K
            try simp only [Act.put, List.setIfInBounds_toArray, List.set_cons_zero, List.set_cons_succ]
            refine wpAnyH_done (by kernel_rfl) ?_ _
            obtain ⟨hPq, TB11, hX11⟩ := want_step HN0.out HM0.out rfl hxl HPX1.out HNW.out HZ.out TB10 o10 hL10 hq1
            generalize (y10.setCell ⟨tb, 1, none⟩ (.slice A10 (m0 + 1) d10)) = Y at *
            clear kq0 kq1 kn0 kn1 kn2 kn3 t1 t2 c10 z10 TB10 o10 r10 hX10 hL10 o8 r8 hX8 hL8 t8 TB hLX NB1
            have u0 := TB11.c0
            have u1 := TB11.c1
            go_wp2_with fail
            refine (Solve_l _ _ K _ hPq (fun _ => HB.out)).mono ?_
            rintro e w9 ⟨q2, A2, n2, c2, q2', A2', n2', c2', Ax2, nx2, cx2, Ay2, ny2, cy2, k2, z2, xs2, ys2, rfl, hz2, hX2, hY2, hbx2, hby2, hres2, hx9⟩
            have hk2 : k2 = (P.want b).err := by
              rcases hres2.pl with ⟨_, h1, _⟩ | ⟨h1, _⟩
              · exact h1
              · rw [(validB_pl _).1 HVA.out] at h1; cases h1
            clear hres2 hz2 hX2 hY2 hbx2 hby2 hPq u0 u1
            go_wp2_with fail
            go_ret
            exact ⟨rfl, (hEW.trans hX11).trans (hx9.alloc _)⟩
          exact AllReadyH.nil
        exact AllReadyH.nil
      exact AllReadyH.nil
    exact AllReadyH.nil
  refine AllReadyH.cons (o := { dst := some 21, op := Op.buildSlice 29 1 #[(0, Operand.tmp 20)], type := 29, pos := "law.go:185", after := #[{ on := 8, ground := Ground.data }], guard := none }) rfl (fun K hK => ?_) ?_
  · go_simp
    try (go_wp2_with fail)
    refine hK.out _ _ ?_ (fun hHeld => ?_)
    · (try dsimp only); (repeat (first | assumption | apply Later.drew | apply Later.drewN | apply Later.alloc | (refine Later.set ?_ (by assumption) _) | (refine Later.step ?_ (by assumption))))
    clear hK K
    try simp only [Act.put, List.setIfInBounds_toArray, List.set_cons_zero, List.set_cons_succ]
    refine wpAnyH_ready (rs := [1]) (by kernel_rfl) (by simp) ?_
    refine AllReadyH.cons (o := { dst := some 13, op := Op.load 29 (Operand.tmp 12), type := 29, pos := "law.go:185", after := #[{ on := 0, ground := Ground.data }], guard := none }) rfl (fun K hK => ?_) ?_
    · go_simp
      try (go_wp2_with fail)
      refine hK.out _ _ ?_ (fun hHeld => ?_)
      · (try dsimp only); (repeat (first | assumption | apply Later.drew | apply Later.drewN | apply Later.alloc | (refine Later.set ?_ (by assumption) _) | (refine Later.step ?_ (by assumption))))
      clear hK K
      try simp only [Act.put, List.setIfInBounds_toArray, List.set_cons_zero, List.set_cons_succ]
      refine wpAnyH_ready (rs := [4]) (by kernel_rfl) (by simp) ?_
      refine AllReadyH.cons (o := { dst := some 16, op := Op.call { callee := Callee.builtin Builtin.append, args := #[Operand.tmp 13, Operand.tmp 15], argTypes := #[29, 29] }, type := 29, pos := "law.go:185", after := #[{ on := 1, ground := Ground.data }, { on := 3, ground := Ground.data }], guard := none }) rfl (fun K hK => ?_) ?_
      · skip
        first
          | ((refine step_pushAL rfl (.tmp 13) (.tmp 15) 29 rfl X (by repeat (first | assumption | exact Ext.refl _ | apply Ext.drew | apply Ext.alloc)) 48 irR _ 6 96 Tryd.underlying29 g1 g2 g3 g4 rfl zRow _ 0 [] rfl (OwnX.nil _ _ _ _) Ar m0 xs cr rfl hxl (fun hm => by obtain ⟨ad, e, hc⟩ := HXS.out hm; exact ⟨ad, e, fun j y hj => Ext.cell (by repeat (first | assumption | exact Ext.refl _ | apply Ext.drew | apply Ext.alloc)) (hc j y hj)⟩) hx1c hxnu (by omega) (by decide) ?_); intro v8 y8 o8 r8 hX8; (have hL8 : Later w1 y8 := Ext.trans hLX hX8); (rw [Nat.zero_add, List.nil_append] at o8); (obtain ⟨A8, d8, rfl⟩ := o8.shape); (try rw [Nat.zero_add]); (have t8 := hX8.cell t1))
          | ((refine step_pushXL rfl (.tmp 16) (.tmp 21) 29 rfl X (by repeat (first | assumption | exact Ext.refl _ | apply Ext.drew | apply Ext.alloc)) 48 irR _ 6 96 Tryd.underlying29 g1 g2 g3 g4 rfl zRow _ m0 xs rfl (by first | exact o8 | exact o8.ext ((Ext.refl _).alloc _)) _ [Value.slice Ao n0 co, .int .u8 3, .bool p1, .slice A1 n1 c1, .bool p1', .slice A1' n1' c1'] 1 rfl rfl (fun j y hj => by first | exact new6 _ _ _ _ _ _ _ _ j y hj | exact r8.cell (fun h => by cases h) (new6 _ _ _ _ _ _ _ _ j y hj)) one6 nou6 (by omega) (by decide) ?_); intro v10 y10 o10 r10 hX10; (have hL10 : Later w1 y10 := Ext.trans hLX hX10); (have TB10 := TB.ext hX10); (have c10 := TB10.c1); (have z10 := TB10.frozen 1); (obtain ⟨A10, d10, rfl⟩ := o10.shape))
        try (go_wp2_with fail)
        refine hK.out _ _ ?_ (fun hHeld => ?_)
        · (try dsimp only); (repeat (first | assumption | apply Later.drew | apply Later.drewN | apply Later.alloc | (refine Later.set ?_ (by assumption) _) | (refine Later.step ?_ (by assumption))))
        clear hK K
        try simp only [Act.put, List.setIfInBounds_toArray, List.set_cons_zero, List.set_cons_succ]
        refine wpAnyH_ready (rs := [10]) (by kernel_rfl) (by simp) ?_
        refine AllReadyH.cons (o := { dst := some 22, op := Op.call { callee := Callee.builtin Builtin.append, args := #[Operand.tmp 16, Operand.tmp 21], argTypes := #[29, 29] }, type := 29, pos := "law.go:185", after := #[{ on := 4, ground := Ground.data }, { on := 9, ground := Ground.data }, { on := 4, ground := Ground.chain }], guard := none }) rfl (fun K hK => ?_) ?_
        · skip
          first
            | ((refine step_pushAL rfl (.tmp 13) (.tmp 15) 29 rfl X (by repeat (first | assumption | exact Ext.refl _ | apply Ext.drew | apply Ext.alloc)) 48 irR _ 6 96 Tryd.underlying29 g1 g2 g3 g4 rfl zRow _ 0 [] rfl (OwnX.nil _ _ _ _) Ar m0 xs cr rfl hxl (fun hm => by obtain ⟨ad, e, hc⟩ := HXS.out hm; exact ⟨ad, e, fun j y hj => Ext.cell (by repeat (first | assumption | exact Ext.refl _ | apply Ext.drew | apply Ext.alloc)) (hc j y hj)⟩) hx1c hxnu (by omega) (by decide) ?_); intro v8 y8 o8 r8 hX8; (have hL8 : Later w1 y8 := Ext.trans hLX hX8); (rw [Nat.zero_add, List.nil_append] at o8); (obtain ⟨A8, d8, rfl⟩ := o8.shape); (try rw [Nat.zero_add]); (have t8 := hX8.cell t1))
            | ((refine step_pushXL rfl (.tmp 16) (.tmp 21) 29 rfl X (by repeat (first | assumption | exact Ext.refl _ | apply Ext.drew | apply Ext.alloc)) 48 irR _ 6 96 Tryd.underlying29 g1 g2 g3 g4 rfl zRow _ m0 xs rfl (by first | exact o8 | exact o8.ext ((Ext.refl _).alloc _)) _ [Value.slice Ao n0 co, .int .u8 3, .bool p1, .slice A1 n1 c1, .bool p1', .slice A1' n1' c1'] 1 rfl rfl (fun j y hj => by first | exact new6 _ _ _ _ _ _ _ _ j y hj | exact r8.cell (fun h => by cases h) (new6 _ _ _ _ _ _ _ _ j y hj)) one6 nou6 (by omega) (by decide) ?_); intro v10 y10 o10 r10 hX10; (have hL10 : Later w1 y10 := Ext.trans hLX hX10); (have TB10 := TB.ext hX10); (have c10 := TB10.c1); (have z10 := TB10.frozen 1); (obtain ⟨A10, d10, rfl⟩ := o10.shape))
          try (go_wp2_with fail)
          refine hK.out _ _ ?_ (fun hHeld => ?_)
          · (try dsimp only); (repeat (first | assumption | apply Later.drew | apply Later.drewN | apply Later.alloc | (refine Later.set ?_ (by assumption) _) | (refine Later.step ?_ (by assumption))))
          clear hK K
          try simp only [Act.put, List.setIfInBounds_toArray, List.set_cons_zero, List.set_cons_succ]
          refine wpAnyH_take (i := 11) (oi := { dst := some 23, op := Op.fieldAddr 31 (Operand.tmp 4) 1, type := 0, pos := "law.go:185", after := #[{ on := 0, ground := Ground.phase }, { on := 1, ground := Ground.phase }, { on := 2, ground := Ground.phase }, { on := 3, ground := Ground.phase }, { on := 4, ground := Ground.phase }, { on := 5, ground := Ground.phase }, { on := 6, ground := Ground.phase }, { on := 7, ground := Ground.phase }, { on := 8, ground := Ground.phase }, { on := 9, ground := Ground.phase }, { on := 10, ground := Ground.phase }], guard := none }) (v := ?_) rfl (by kernel_rfl) (by kernel_rfl) (by kernel_rfl) (fun _ _ _ h => h) (Or.inl ⟨by rfl, ?_⟩) (by assumption) ?_
          rotate_left
          · intro w hSw; (try dsimp only at hSw); go_simp; try (with_reducible rfl)
          try simp only [Act.put, List.setIfInBounds_toArray, List.set_cons_zero, List.set_cons_succ]
          refine wpAnyH_ready (rs := [12]) (by kernel_rfl) (by simp) ?_
          refine AllReadyH.cons (o := { dst := none, op := Op.store 29 (Operand.tmp 23) (Operand.tmp 22), type := 0, pos := "law.go:185", after := #[{ on := 11, ground := Ground.data }, { on := 10, ground := Ground.data }, { on := 10, ground := Ground.chain }, { on := 0, ground := Ground.phase }, { on := 1, ground := Ground.phase }, { on := 2, ground := Ground.phase }, { on := 3, ground := Ground.phase }, { on := 4, ground := Ground.phase }, { on := 5, ground := Ground.phase }, { on := 6, ground := Ground.phase }, { on := 7, ground := Ground.phase }, { on := 8, ground := Ground.phase }, { on := 9, ground := Ground.phase }, { on := 10, ground := Ground.phase }], guard := none }) rfl (fun K hK => ?_) ?_
          · go_simp
            try (go_wp2_with fail)
            refine hK.out _ _ ?_ (fun hHeld => ?_)
            · (try dsimp only); (repeat (first | assumption | apply Later.drew | apply Later.drewN | apply Later.alloc | (refine Later.set ?_ (by assumption) _) | (refine Later.step ?_ (by assumption))))
            clear hK K
            try simp only [Act.put, List.setIfInBounds_toArray, List.set_cons_zero, List.set_cons_succ]
            refine wpAnyH_done (by kernel_rfl) ?_ _
            obtain ⟨hPq, TB11, hX11⟩ := want_step HN0.out HM0.out rfl hxl HPX1.out HNW.out HZ.out TB10 o10 hL10 hq1
            generalize (y10.setCell ⟨tb, 1, none⟩ (.slice A10 (m0 + 1) d10)) = Y at *
            clear kq0 kq1 kn0 kn1 kn2 kn3 t1 t2 c10 z10 TB10 o10 r10 hX10 hL10 o8 r8 hX8 hL8 t8 TB hLX NB1
            have u0 := TB11.c0
            have u1 := TB11.c1
            go_wp2_with fail
            refine (Solve_l _ _ K _ hPq (fun _ => HB.out)).mono ?_
            rintro e w9 ⟨q2, A2, n2, c2, q2', A2', n2', c2', Ax2, nx2, cx2, Ay2, ny2, cy2, k2, z2, xs2, ys2, rfl, hz2, hX2, hY2, hbx2, hby2, hres2, hx9⟩
            have hk2 : k2 = (P.want b).err := by
              rcases hres2.pl with ⟨_, h1, _⟩ | ⟨h1, _⟩
              · exact h1
              · rw [(validB_pl _).1 HVA.out] at h1; cases h1
            clear hres2 hz2 hX2 hY2 hbx2 hby2 hPq u0 u1
            go_wp2_with fail
            go_ret
            exact ⟨rfl, (hEW.trans hX11).trans (hx9.alloc _)⟩
          exact AllReadyH.nil
        exact AllReadyH.nil
      exact AllReadyH.nil
    exact AllReadyH.nil
  exact AllReadyH.nil
end Go.Proofs.YtgffcblldebelaaDoor.Lp

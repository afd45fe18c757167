/- The law LpBox, walked. -/
import Derived.Test.YtgffcblldebelaaDoorLYB
import Derived.BigRegion
set_option linter.unusedVariables false
set_option linter.unusedSimpArgs false
namespace Go.Proofs.YtgffcblldebelaaDoor.Lp
open Go.RowKit Go.Proofs.YtgffcblldebelaaDoor.Big Go.Proofs.YtgffcblldebelaaDoor.Rt

def bV (xs : List Int) : List Value := xs.map (Value.int .i8)
theorem bV_get {xs : List Int} {j : Nat} {x : Int} (h : xs[j]? = some x) : (bV xs)[j]? = some (.int .i8 x) := by simp [bV, h]
theorem bV_len (xs : List Int) : (bV xs).length = xs.length := by simp [bV]
def uV (xs : List Int) : List Value := xs.map (Value.int .u8)
theorem uV_get {xs : List Int} {j : Nat} {x : Int} (h : xs[j]? = some x) : (uV xs)[j]? = some (.int .u8 x) := by simp [uV, h]
theorem uV_len (xs : List Int) : (uV xs).length = xs.length := by simp [uV]
attribute [local go_sem] Go.World.cell?_alloc_some Go.RowKit.frozen?_alloc_cells
set_option maxHeartbeats 40000000 in
set_option maxRecDepth 100000 in
theorem box_any (A A' : Option Addr) (n c m c' : Nat) (xs ys : List Int) (w : World) (hx : Row w (.slice A n c) (bV xs)) (hy : Row w (.slice A' m c') (uV ys)) (hx8 : ∀ x ∈ xs, -128 ≤ x ∧ x ≤ 127) (hy8 : ∀ y ∈ ys, 0 ≤ y ∧ y ≤ 255) (htab : TabOK w) :
    Calls Tryd.prog 10 #[.slice A n c, .slice A' m c'] w (ValPost w (.bool true)) := by
  obtain ⟨hnx, hcx, hcx2, hrow⟩ := hx.inj
  rw [bV_len] at hnx hcx hrow
  rw [← hnx] at hcx hrow
  obtain ⟨hny, hcy, hcy2, hrow'⟩ := hy.inj
  rw [uV_len] at hny hcy hrow'
  rw [← hny] at hcy hrow'
  have HNX := Lib.hid hnx
  have HNY := Lib.hid hny
  have HROW := Lib.hid hrow
  have HROW' := Lib.hid hrow'
  have HX8 := Lib.hid hx8
  have HY8 := Lib.hid hy8
  clear hnx hrow hx hx8 hny hrow' hy hy8
  go_enter Tryd.func10, Tryd.ntmps10
  go_wp2_with fail
  refine (awake_b _ htab).mono ?_
  rintro e w1 ⟨rfl, hE⟩
  by_cases h0 : n = 0
  · have e0 : ((n : Int) == 0) = true := by simp; omega
    go_wp2_with fail
    refine (awake_b _ (htab.ext hE)).mono ?_
    rintro e w9 ⟨rfl, hx9⟩
    go_wp2_with fail
    go_ret
    exact ⟨rfl, (hE).trans hx9⟩
  by_cases h8 : 8 < n
  · have e0 : ((n : Int) == 0) = false := by simp; omega
    have e1 : decide ((8 : Int) < (n : Int)) = true := by simp; omega
    go_wp2_with fail
    refine (awake_b _ (htab.ext hE)).mono ?_
    rintro e w9 ⟨rfl, hx9⟩
    go_wp2_with fail
    go_ret
    exact ⟨rfl, (hE).trans hx9⟩
  by_cases hmn : m < n
  · have e0 : ((n : Int) == 0) = false := by simp; omega
    have e1 : decide ((8 : Int) < (n : Int)) = false := by simp; omega
    have e2 : decide (m < n) = true := by simp; omega
    go_wp2_with fail
    refine (awake_b _ (htab.ext hE)).mono ?_
    rintro e w9 ⟨rfl, hx9⟩
    go_wp2_with fail
    go_ret
    exact ⟨rfl, (hE).trans hx9⟩
  have e0 : ((n : Int) == 0) = false := by simp; omega
  have e1 : decide ((8 : Int) < (n : Int)) = false := by simp; omega
  have e2 : decide (m < n) = false := by simp; omega
  have h1n : 1 ≤ n := by omega
  have hn8 : n ≤ 8 := by omega
  have hnm : n ≤ m := by omega
  obtain ⟨p, hp⟩ : ∃ p, p = (boxPL xs ys).toP := ⟨_, rfl⟩
  have HP : Hid (p.n = n ∧ p.m = n ∧ (∀ j, p.obj j = ((xs.getD j 0 : Int) : Rat)) ∧ ∀ i, i < n → p.len i = n ∧ p.rel i = 1 ∧ p.right i = capB ys i ∧ ∀ j, p.coef i j = (unitL n i).getD j 0) := Lib.hid (by
    have hN := HNX.out
    subst hp
    refine ⟨by rw [hN]; show (xs.map _).length = _; simp, by rw [hN]; show ((List.range xs.length).map _).length = _; simp, fun j => boxPL_get xs j, fun i hi => ?_⟩
    have hr : (boxPL xs ys).rows.getD i RL.zero = boxRow xs.length (capB ys) i := by
      show ((List.range xs.length).map _).getD i RL.zero = _
      rw [List.getD_eq_getElem?_getD, List.getElem?_map, List.getElem?_range (by omega)]; rfl
    refine ⟨?_, ?_, ?_, fun j => ?_⟩
    · show ((boxPL xs ys).rows.getD i RL.zero).coef.length = n
      rw [hr, hN]; show (unitL _ _).length = _; unfold unitL; simp
    · show ((boxPL xs ys).rows.getD i RL.zero).rel = 1
      rw [hr]; rfl
    · show ((boxPL xs ys).rows.getD i RL.zero).right = _
      rw [hr]; rfl
    · show ((boxPL xs ys).rows.getD i RL.zero).coef.getD j 0 = _
      rw [hr, hN]; rfl)
  have HPP := Lib.hid hp
  clear hp h0 h8 hmn
  go_upto_region 4 with fail
  have hT0 : Two (w1.alloc (.cells #[.slice none 0 0, .slice none 0 0] 31)) w1.heap.size w1.heap.size (.slice none 0 0) (.slice none 0 0) 0 0 p.obj p (fun _ => none) (fun _ => 0) := Two.new rfl
  have hE1 : Ext w1 (w1.alloc (.cells #[.slice none 0 0, .slice none 0 0] 31)) := (Ext.refl w1).alloc _
  generalize (w1.alloc (.cells #[.slice none 0 0, .slice none 0 0] 31)) = W0 at *
  obtain ⟨qb, hqb⟩ : ∃ x, x = w1.heap.size := ⟨_, rfl⟩
  have hT0' : Two W0 w1.heap.size qb (.slice none 0 0) (.slice none 0 0) 0 0 p.obj p (fun _ => none) (fun _ => 0) := by rw [hqb]; exact hT0
  have hqs : w1.heap.size ≤ qb := by omega
  rw [← hqb]
  clear hT0 hqb
  have hmk := run_makeR n (by omega)
  go_wp2_with fail
  go_loopw [6, 7, 38] (fun s pr i wr => ∃ k : Nat, k ≤ n ∧ i = .int .i64 k ∧ s = .int .i64 (sumB xs ys k) ∧ pr = .int .i64 (proB xs k) ∧ ∃ vO vR rA rc, Two wr w1.heap.size qb vO vR k k p.obj p rA rc ∧ Ext w1 wr) (fun _ _ i _ => n - (intOf i).toNat)
  case atStart => exact ⟨0, by omega, rfl, rfl, rfl, _, _, _, _, hT0', hE1⟩
  case round =>
    obtain ⟨k, hk, rfl, rfl, rfl, vO, vR, rA, rc, hT, hX⟩ := hrel
    clear hT0' hE1
    by_cases hlt : k < n
    · obtain ⟨b, off, rfl, hcell⟩ := HROW.out (by omega)
      obtain ⟨b', off', rfl, hcell'⟩ := HROW'.out (by omega)
      obtain ⟨x, hxk⟩ : ∃ x, xs[k]? = some x := ⟨_, List.getElem?_eq_getElem (by have := HNX.out; omega)⟩
      obtain ⟨y, hyk⟩ : ∃ y, ys[k]? = some y := ⟨_, List.getElem?_eq_getElem (by have := HNY.out; omega)⟩
      have e3 := (hE.trans hX).cell (hcell k _ (bV_get hxk))
      have hc4 := hcell' k _ (uV_get hyk)
      obtain ⟨gx1, gx2⟩ := HX8.out x (List.mem_of_getElem? hxk)
      obtain ⟨gy1, gy2⟩ := HY8.out y (List.mem_of_getElem? hyk)
      have hxD : xs.getD k 0 = x := by rw [List.getD_eq_getElem?_getD, hxk]; rfl
      have hyD : ys.getD k 0 = y := by rw [List.getD_eq_getElem?_getD, hyk]; rfl
      have HXD := Lib.hid hxD
      have HYD := Lib.hid hyD
      have HOB : Hid (p.obj k = (x : Rat)) := Lib.hid (by rw [HP.out.2.2.1, hxD])
      have HC4 := Lib.hid hc4
      have r1 : IntKind.i64.wrap x = x := IntWalk.i64_in _ (by omega)
      have r2 : IntKind.i64.wrap y = y := IntWalk.i64_in _ (by omega)
      have i1 : (0 : Int) ≤ (k : Int) := by omega
      have i2 : (k : Int) < (n : Int) := by omega
      have i3 : (k : Int) < (m : Int) := by omega
      obtain ⟨j0, ji, jz0, jz1, jz2⟩ := info_parts infoRat
      obtain ⟨irR, g1, g2, g3, g4⟩ := info_parts infoRow
      clear hcell hcell' hxk hyk hxD hyD hc4
      go_upto_region 8 with fail
      clear e3
      go_cut [] (fun wx => ∃ vO', Two wx w1.heap.size qb vO' vR (k + 1) k p.obj p rA rc ∧ Ext w1 wx)
      case first =>
        obtain ⟨os, oq, aq⟩ := hT.obj
        obtain ⟨AO, cO, rfl⟩ := oq.shape
        have q0 := hT.box.c0
        have z0 := hT.box.frozen 0
        go_region_law (first
          | (go_simp; go_at_call 21; (with_reducible refine (RatOf_b x _ (by omega) (by omega)).mono ?_); rintro e wl ⟨vl, rfl, hbl, hxl⟩; (obtain ⟨pl, Al, nl, cl, pl', Al', nl', cl', rfl⟩ := hbl.1.shape); (have hlL : Ext wr wl := Ext.trans (by repeat (first | (with_reducible exact Ext.refl _) | (with_reducible apply Ext.drew) | (with_reducible apply Ext.drewN))) hxl); (have u0 := hlL.cell q0))
          | ((have hza : Ext wl (wl.alloc (.cells #[.bool pl, .slice Al nl cl, .bool pl', .slice Al' nl' cl'] 37)) := (Ext.refl wl).alloc _); (refine step_pushX rfl (.tmp 44) (.tmp 48) 28 rfl w1.heap.size 37 j0 _ 4 64 Tryd.underlying28 ji jz0 jz1 jz2 rfl zR _ k os rfl ((oq.ext hlL).ext hza) wl.heap.size [.bool pl, .slice Al nl cl, .bool pl', .slice Al' nl' cl'] 1 rfl rfl (new4 wl 37 _ _ _ _) one4 nou4 (by omega) (by decide) (Nat.le_trans hX.size (Nat.le_trans hlL.size hza.size)) ?_); intro v6 y6 o6 r6 s6; (have tb6 := boxR ((hT.box.ext hlL).ext hza) ((oq.ext hlL).ext hza) r6 (by decide)); (have c6 := tb6.c0); (have z6 := tb6.frozen 0); (obtain ⟨A6, d6, rfl⟩ := o6.shape))
          )
        all_goals (
          have hT1 := (hT.ext hlL).ext hza
          have a6 := At.push (f := p.obj) oq.1 (fun j hj => (aq j hj).fr (Fr.of (P := fun _ => False) (hlL.trans hza))) r6 (by rw [HOB.out]; exact (hbl.ext hza).1)
          obtain ⟨hT2, hF2⟩ := hT1.pushO o6 a6 r6 s6
          have hX2 := hF2.ext ((hX.trans hlL).trans hza) (fun g hg => by
            rcases hg with hg | rfl
            · exact (oq.lt hg).1
            · exact hqs)
          go_wp2_with fail
          go_meet
          exact ⟨_, hT2, hX2⟩)
      case rest =>
        obtain ⟨vO1, hT1, hX1⟩ := hcut
        rename_i hK
        refine hK _ _ ?_
        clear hK hT hX
        have hc4 := (hE.trans hX1).cell HC4.out
        have HCB : Hid (capB ys k = (y : Rat)) := Lib.hid (by unfold capB; rw [HYD.out])
        have kx : ∀ w', Later wc w' → w'.cell? ⟨b', off' + k, none⟩ = some (.int .u8 y) := fun w' h => Later.cell h hc4
        have ks := Later.refl wc
        clear hc4
        go_upto_region 9 with fail
        go_cut [10] (fun v wx => ∃ (rb bc : Nat) (x1 x2 : Bool) (X1 X2 : Option Addr) (u1 u2 u3 u4 : Nat), v = .pointer (some ⟨rb, 0, none⟩) ∧ Box wx rb 48 #[.slice (some ⟨bc, 0, none⟩) n n, .int .u8 1, .bool x1, .slice X1 u1 u2, .bool x2, .slice X2 u3 u4] ∧ RowR wx bc n (fun _ => 0) ∧
          RatB wx (.agg #[.bool x1, .slice X1 u1 u2, .bool x2, .slice X2 u3 u4]) (y : Rat) 2 ∧ (wc.heap.size ≤ bc ∧ wc.heap.size ≤ rb) ∧ Ext wc wx)
        case first =>
          clear hT1
          refine wp_region_held_drew (S := fun w' => Later wc w') (by kernel_rfl) ?_ (fun hHeld => ?_)
          · (try dsimp only); (repeat (first | (with_reducible assumption) | (with_reducible apply Later.drew) | (with_reducible apply Later.drewN) | (with_reducible apply Later.alloc) | (with_reducible refine later6L ?_ (by first | exact Nat.le_refl _ | exact Nat.le_succ _ | exact Later.size (by assumption) | exact Nat.le_succ_of_le (Later.size (by assumption))) _ _ _ _ _ _) | (with_reducible refine Later.step ?_ (by assumption))))
          refine wpAnyH_take (i := 0) (oi := { dst := some 51, op := Op.move (Operand.tmp 0), type := 75, pos := "law.go:353", after := #[], guard := none }) (v := ?_) rfl (by kernel_rfl) (by kernel_rfl) (by kernel_rfl) (fun _ _ _ h => h) (Or.inl ⟨by rfl, ?_⟩) (by assumption) ?_
          rotate_left
          · intro w hSw; (try dsimp only at hSw); go_simp; try (with_reducible rfl)
          try simp only [Act.put, List.setIfInBounds_toArray, List.set_cons_zero, List.set_cons_succ]
          refine wpAnyH_take (i := 1) (oi := { dst := some 52, op := Op.call { callee := Callee.builtin Builtin.len, args := #[Operand.tmp 51], argTypes := #[75] }, type := 3, pos := "law.go:353", after := #[{ on := 0, ground := Ground.data }], guard := none }) (v := ?_) rfl (by kernel_rfl) (by kernel_rfl) (by kernel_rfl) (fun _ _ _ h => h) (Or.inl ⟨by rfl, ?_⟩) (by assumption) ?_
          rotate_left
          · intro w hSw; (try dsimp only at hSw); go_simp; try (with_reducible rfl)
          try simp only [Act.put, List.setIfInBounds_toArray, List.set_cons_zero, List.set_cons_succ]
          refine wpAnyH_take (i := 3) (oi := { dst := some 54, op := Op.move (Operand.tmp 1), type := 76, pos := "law.go:353", after := #[], guard := none }) (v := ?_) rfl (by kernel_rfl) (by kernel_rfl) (by kernel_rfl) (fun _ _ _ h => h) (Or.inl ⟨by rfl, ?_⟩) (by assumption) ?_
          rotate_left
          · intro w hSw; (try dsimp only at hSw); go_simp; try (with_reducible rfl)
          try simp only [Act.put, List.setIfInBounds_toArray, List.set_cons_zero, List.set_cons_succ]
          refine wpAnyH_take (i := 4) (oi := { dst := some 55, op := Op.move (Operand.tmp 8), type := 3, pos := "law.go:353", after := #[], guard := none }) (v := ?_) rfl (by kernel_rfl) (by kernel_rfl) (by kernel_rfl) (fun _ _ _ h => h) (Or.inl ⟨by rfl, ?_⟩) (by assumption) ?_
          rotate_left
          · intro w hSw; (try dsimp only at hSw); go_simp; try (with_reducible rfl)
          try simp only [Act.put, List.setIfInBounds_toArray, List.set_cons_zero, List.set_cons_succ]
          refine wpAnyH_take (i := 5) (oi := { dst := some 56, op := Op.indexAddr 76 (Operand.tmp 54) (Operand.tmp 55), type := 0, pos := "law.go:353", after := #[{ on := 3, ground := Ground.data }, { on := 4, ground := Ground.data }], guard := none }) (v := ?_) rfl (by kernel_rfl) (by kernel_rfl) (by kernel_rfl) (fun _ _ _ h => h) (Or.inl ⟨by rfl, ?_⟩) (by assumption) ?_
          rotate_left
          · intro w hSw; (try dsimp only at hSw); go_simp; try (with_reducible rfl)
          try simp only [Act.put, List.setIfInBounds_toArray, List.set_cons_zero, List.set_cons_succ]
          refine wpAnyH_take (i := 6) (oi := { dst := some 57, op := Op.load 5 (Operand.tmp 56), type := 5, pos := "law.go:353", after := #[{ on := 5, ground := Ground.data }], guard := none }) (v := ?_) rfl (by kernel_rfl) (by kernel_rfl) (by kernel_rfl) (fun _ _ _ h => h) (Or.inl ⟨by rfl, ?_⟩) (by assumption) ?_
          rotate_left
          · intro w hSw; (try dsimp only at hSw); go_simp; try (with_reducible rfl)
          try simp only [Act.put, List.setIfInBounds_toArray, List.set_cons_zero, List.set_cons_succ]
          refine wpAnyH_take (i := 7) (oi := { dst := some 58, op := Op.convert 5 3 (Operand.tmp 57), type := 3, pos := "law.go:353", after := #[{ on := 6, ground := Ground.data }], guard := none }) (v := ?_) rfl (by kernel_rfl) (by kernel_rfl) (by kernel_rfl) (fun _ _ _ h => h) (Or.inl ⟨by rfl, ?_⟩) (by assumption) ?_
          rotate_left
          · intro w hSw; (try dsimp only at hSw); go_simp; try (with_reducible rfl)
          try simp only [Act.put, List.setIfInBounds_toArray, List.set_cons_zero, List.set_cons_succ]
          refine wpAnyH_ready (rs := [2, 8, 10]) (by kernel_rfl) (by simp) ?_
          refine AllReadyH.cons (o := { dst := some 53, op := Op.makeSlice 28 (Operand.tmp 52) (Operand.tmp 52), type := 28, pos := "law.go:353", after := #[{ on := 1, ground := Ground.data }, { on := 1, ground := Ground.data }], guard := none }) rfl (fun K hK => ?_) ?_
          · go_simp
            first
              | (go_at_call 21; (with_reducible refine (RatOf_b y _ (by omega) (by omega)).mono ?_); rintro e wl ⟨vl, rfl, hbl, hxl⟩; (obtain ⟨pl, Al, nl, cl, pl', Al', nl', cl', rfl⟩ := hbl.1.shape); (have hSl := Later.step (by assumption) hxl); (have hEl : Ext wc wl := hSl); (try (have bq : Box wl wc.heap.size 48 #[.slice none 0 0, .int .u8 0, .bool false, .slice none 0 0, .bool false, .slice none 0 0] := by with_reducible exact boxAd' hxl)); (try (have bq : Box wl wc.heap.size 48 #[.slice none 0 0, .int .u8 0, .bool false, .slice none 0 0, .bool false, .slice none 0 0] := by with_reducible exact boxB0f hxl)); (try (have bq : Box wl (wc.heap.size + 1) 48 #[.slice none 0 0, .int .u8 0, .bool false, .slice none 0 0, .bool false, .slice none 0 0] := by with_reducible exact boxB1f hxl)); (try (have bz : Box wl wc.heap.size 37 (zerosR n) := by with_reducible exact boxAd' hxl)); (try (have bz : Box wl wc.heap.size 37 (zerosR n) := by with_reducible exact boxB0f hxl)); (try (have bz : Box wl (wc.heap.size + 1) 37 (zerosR n) := by with_reducible exact boxB1f hxl)))
              | skip
            try (go_wp2_with fail)
            refine hK.out _ _ ?_ (fun hHeld => ?_)
            · (try dsimp only); (repeat (first | (with_reducible assumption) | (with_reducible apply Later.drew) | (with_reducible apply Later.drewN) | (with_reducible apply Later.alloc) | (with_reducible refine later6L ?_ (by first | exact Nat.le_refl _ | exact Nat.le_succ _ | exact Later.size (by assumption) | exact Nat.le_succ_of_le (Later.size (by assumption))) _ _ _ _ _ _) | (with_reducible refine Later.step ?_ (by assumption))))
            clear hK K
            try simp only [Act.put, List.setIfInBounds_toArray, List.set_cons_zero, List.set_cons_succ]
            refine wpAnyH_ready (rs := [8, 10]) (by kernel_rfl) (by simp) ?_
            refine AllReadyH.cons (o := { dst := some 59, op := Op.call { callee := Callee.value (Operand.func 21), args := #[Operand.tmp 58], argTypes := #[3] }, type := 37, pos := "law.go:353", after := #[{ on := 7, ground := Ground.data }], guard := none }) rfl (fun K hK => ?_) ?_
            · go_simp
              first
                | (go_at_call 21; (with_reducible refine (RatOf_b y _ (by omega) (by omega)).mono ?_); rintro e wl ⟨vl, rfl, hbl, hxl⟩; (obtain ⟨pl, Al, nl, cl, pl', Al', nl', cl', rfl⟩ := hbl.1.shape); (have hSl := Later.step (by assumption) hxl); (have hEl : Ext wc wl := hSl); (try (have bq : Box wl wc.heap.size 48 #[.slice none 0 0, .int .u8 0, .bool false, .slice none 0 0, .bool false, .slice none 0 0] := by with_reducible exact boxAd' hxl)); (try (have bq : Box wl wc.heap.size 48 #[.slice none 0 0, .int .u8 0, .bool false, .slice none 0 0, .bool false, .slice none 0 0] := by with_reducible exact boxB0f hxl)); (try (have bq : Box wl (wc.heap.size + 1) 48 #[.slice none 0 0, .int .u8 0, .bool false, .slice none 0 0, .bool false, .slice none 0 0] := by with_reducible exact boxB1f hxl)); (try (have bz : Box wl wc.heap.size 37 (zerosR n) := by with_reducible exact boxAd' hxl)); (try (have bz : Box wl wc.heap.size 37 (zerosR n) := by with_reducible exact boxB0f hxl)); (try (have bz : Box wl (wc.heap.size + 1) 37 (zerosR n) := by with_reducible exact boxB1f hxl)))
                | skip
              try (go_wp2_with fail)
              refine hK.out _ _ ?_ (fun hHeld => ?_)
              · (try dsimp only); (repeat (first | (with_reducible assumption) | (with_reducible apply Later.drew) | (with_reducible apply Later.drewN) | (with_reducible apply Later.alloc) | (with_reducible refine later6L ?_ (by first | exact Nat.le_refl _ | exact Nat.le_succ _ | exact Later.size (by assumption) | exact Nat.le_succ_of_le (Later.size (by assumption))) _ _ _ _ _ _) | (with_reducible refine Later.step ?_ (by assumption))))
              clear hK K
              try simp only [Act.put, List.setIfInBounds_toArray, List.set_cons_zero, List.set_cons_succ]
              refine wpAnyH_take (i := 9) (oi := { dst := some 60, op := Op.build 48 #[(0, Operand.tmp 53), (1, Operand.const (Value.int IntKind.u8 1)), (2, Operand.tmp 59)], type := 48, pos := "law.go:353", after := #[{ on := 2, ground := Ground.data }, { on := 8, ground := Ground.data }], guard := none }) (v := ?_) rfl (by kernel_rfl) (by kernel_rfl) (by kernel_rfl) (fun _ _ _ h => h) (Or.inl ⟨by rfl, ?_⟩) (by assumption) ?_
              rotate_left
              · intro w hSw; (try dsimp only at hSw); go_simp; try (with_reducible rfl)
              try simp only [Act.put, List.setIfInBounds_toArray, List.set_cons_zero, List.set_cons_succ]
              refine wpAnyH_ready (rs := [10]) (by kernel_rfl) (by simp) ?_
              refine AllReadyH.cons (o := { dst := some 10, op := Op.alloc 48, type := 0, pos := "law.go:353", after := #[], guard := none }) rfl (fun K hK => ?_) ?_
              · go_simp
                first
                  | (go_at_call 21; (with_reducible refine (RatOf_b y _ (by omega) (by omega)).mono ?_); rintro e wl ⟨vl, rfl, hbl, hxl⟩; (obtain ⟨pl, Al, nl, cl, pl', Al', nl', cl', rfl⟩ := hbl.1.shape); (have hSl := Later.step (by assumption) hxl); (have hEl : Ext wc wl := hSl); (try (have bq : Box wl wc.heap.size 48 #[.slice none 0 0, .int .u8 0, .bool false, .slice none 0 0, .bool false, .slice none 0 0] := by with_reducible exact boxAd' hxl)); (try (have bq : Box wl wc.heap.size 48 #[.slice none 0 0, .int .u8 0, .bool false, .slice none 0 0, .bool false, .slice none 0 0] := by with_reducible exact boxB0f hxl)); (try (have bq : Box wl (wc.heap.size + 1) 48 #[.slice none 0 0, .int .u8 0, .bool false, .slice none 0 0, .bool false, .slice none 0 0] := by with_reducible exact boxB1f hxl)); (try (have bz : Box wl wc.heap.size 37 (zerosR n) := by with_reducible exact boxAd' hxl)); (try (have bz : Box wl wc.heap.size 37 (zerosR n) := by with_reducible exact boxB0f hxl)); (try (have bz : Box wl (wc.heap.size + 1) 37 (zerosR n) := by with_reducible exact boxB1f hxl)))
                  | skip
                try (go_wp2_with fail)
                refine hK.out _ _ ?_ (fun hHeld => ?_)
                · (try dsimp only); (repeat (first | (with_reducible assumption) | (with_reducible apply Later.drew) | (with_reducible apply Later.drewN) | (with_reducible apply Later.alloc) | (with_reducible refine later6L ?_ (by first | exact Nat.le_refl _ | exact Nat.le_succ _ | exact Later.size (by assumption) | exact Nat.le_succ_of_le (Later.size (by assumption))) _ _ _ _ _ _) | (with_reducible refine Later.step ?_ (by assumption))))
                clear hK K
                try simp only [Act.put, List.setIfInBounds_toArray, List.set_cons_zero, List.set_cons_succ]
                refine wpAnyH_ready (rs := [11]) (by kernel_rfl) (by simp) ?_
                refine AllReadyH.cons (o := { dst := none, op := Op.store 48 (Operand.tmp 10) (Operand.tmp 60), type := 0, pos := "law.go:353", after := #[{ on := 10, ground := Ground.data }, { on := 9, ground := Ground.data }, { on := 8, ground := Ground.chain }, { on := 0, ground := Ground.phase }, { on := 1, ground := Ground.phase }, { on := 2, ground := Ground.phase }, { on := 3, ground := Ground.phase }, { on := 4, ground := Ground.phase }, { on := 5, ground := Ground.phase }, { on := 6, ground := Ground.phase }, { on := 7, ground := Ground.phase }, { on := 8, ground := Ground.phase }, { on := 9, ground := Ground.phase }, { on := 10, ground := Ground.phase }], guard := none }) rfl (fun K hK => ?_) ?_
                · refine step_sto6 rfl (.tmp 10) (.tmp 60) rfl _ 0 _ _ _ _ _ _ rfl rfl (there6 (by first | (with_reducible exact bq) | (with_reducible exact Box.alloc bq _) | (with_reducible exact Box.new _ _ _) | (with_reducible exact Box.new2 _ _ _ _) | (with_reducible exact Box.alloc (Box.new _ _ _) _))) (all_oneCell_toArray one6) ?_
                  simp only [Act.put]
                  refine hK.out _ _ ?_ (fun hHeld => ?_)
                  · (try dsimp only); (repeat (first | (with_reducible assumption) | (with_reducible apply Later.drew) | (with_reducible apply Later.drewN) | (with_reducible apply Later.alloc) | (with_reducible refine later6L ?_ (by first | exact Nat.le_refl _ | exact Nat.le_succ _ | exact Later.size (by assumption) | exact Nat.le_succ_of_le (Later.size (by assumption))) _ _ _ _ _ _) | (with_reducible refine Later.step ?_ (by assumption))))
                  clear hK K
                  try simp only [Act.put, List.setIfInBounds_toArray, List.set_cons_zero, List.set_cons_succ]
                  refine wpAnyH_done (by kernel_rfl) ?_ _
                  go_wp2_with fail
                  go_meet
                  exact ⟨_, _, _, _, _, _, _, _, _, _, rfl, row_done (by first | (with_reducible exact bq) | (with_reducible exact Box.alloc bq _) | (with_reducible exact Box.new _ _ _) | (with_reducible exact Box.new2 _ _ _ _) | (with_reducible exact Box.alloc (Box.new _ _ _) _)) (by first | (with_reducible exact bz) | (with_reducible exact Box.alloc bz _) | (with_reducible exact Box.new _ _ _) | (with_reducible exact Box.new2 _ _ _ _) | (with_reducible exact Box.alloc (Box.new _ _ _) _)) (by first | (with_reducible exact hbl) | (with_reducible exact hbl.ext ((Ext.refl _).alloc _)) | (with_reducible exact hbl.ext (((Ext.refl _).alloc _).alloc _))) (by first | (with_reducible exact hEl) | (with_reducible exact Ext.alloc hEl _) | (with_reducible exact Ext.alloc (Ext.alloc hEl _) _)) (by first | (with_reducible exact Nat.le_refl _) | (with_reducible exact Nat.le_succ _) | (with_reducible exact Ext.size hEl) | (with_reducible exact Nat.le_succ_of_le (Ext.size hEl))) (by first | (with_reducible exact Nat.le_refl _) | (with_reducible exact Nat.le_succ _) | (with_reducible exact Ext.size hEl) | (with_reducible exact Nat.le_succ_of_le (Ext.size hEl)))⟩
                exact AllReadyH.nil
              exact AllReadyH.nil
            refine AllReadyH.cons (o := { dst := some 10, op := Op.alloc 48, type := 0, pos := "law.go:353", after := #[], guard := none }) rfl (fun K hK => ?_) ?_
            · go_simp
              first
                | (go_at_call 21; (with_reducible refine (RatOf_b y _ (by omega) (by omega)).mono ?_); rintro e wl ⟨vl, rfl, hbl, hxl⟩; (obtain ⟨pl, Al, nl, cl, pl', Al', nl', cl', rfl⟩ := hbl.1.shape); (have hSl := Later.step (by assumption) hxl); (have hEl : Ext wc wl := hSl); (try (have bq : Box wl wc.heap.size 48 #[.slice none 0 0, .int .u8 0, .bool false, .slice none 0 0, .bool false, .slice none 0 0] := by with_reducible exact boxAd' hxl)); (try (have bq : Box wl wc.heap.size 48 #[.slice none 0 0, .int .u8 0, .bool false, .slice none 0 0, .bool false, .slice none 0 0] := by with_reducible exact boxB0f hxl)); (try (have bq : Box wl (wc.heap.size + 1) 48 #[.slice none 0 0, .int .u8 0, .bool false, .slice none 0 0, .bool false, .slice none 0 0] := by with_reducible exact boxB1f hxl)); (try (have bz : Box wl wc.heap.size 37 (zerosR n) := by with_reducible exact boxAd' hxl)); (try (have bz : Box wl wc.heap.size 37 (zerosR n) := by with_reducible exact boxB0f hxl)); (try (have bz : Box wl (wc.heap.size + 1) 37 (zerosR n) := by with_reducible exact boxB1f hxl)))
                | skip
              try (go_wp2_with fail)
              refine hK.out _ _ ?_ (fun hHeld => ?_)
              · (try dsimp only); (repeat (first | (with_reducible assumption) | (with_reducible apply Later.drew) | (with_reducible apply Later.drewN) | (with_reducible apply Later.alloc) | (with_reducible refine later6L ?_ (by first | exact Nat.le_refl _ | exact Nat.le_succ _ | exact Later.size (by assumption) | exact Nat.le_succ_of_le (Later.size (by assumption))) _ _ _ _ _ _) | (with_reducible refine Later.step ?_ (by assumption))))
              clear hK K
              try simp only [Act.put, List.setIfInBounds_toArray, List.set_cons_zero, List.set_cons_succ]
              refine wpAnyH_ready (rs := [8]) (by kernel_rfl) (by simp) ?_
              refine AllReadyH.cons (o := { dst := some 59, op := Op.call { callee := Callee.value (Operand.func 21), args := #[Operand.tmp 58], argTypes := #[3] }, type := 37, pos := "law.go:353", after := #[{ on := 7, ground := Ground.data }], guard := none }) rfl (fun K hK => ?_) ?_
              · go_simp
                first
                  | (go_at_call 21; (with_reducible refine (RatOf_b y _ (by omega) (by omega)).mono ?_); rintro e wl ⟨vl, rfl, hbl, hxl⟩; (obtain ⟨pl, Al, nl, cl, pl', Al', nl', cl', rfl⟩ := hbl.1.shape); (have hSl := Later.step (by assumption) hxl); (have hEl : Ext wc wl := hSl); (try (have bq : Box wl wc.heap.size 48 #[.slice none 0 0, .int .u8 0, .bool false, .slice none 0 0, .bool false, .slice none 0 0] := by with_reducible exact boxAd' hxl)); (try (have bq : Box wl wc.heap.size 48 #[.slice none 0 0, .int .u8 0, .bool false, .slice none 0 0, .bool false, .slice none 0 0] := by with_reducible exact boxB0f hxl)); (try (have bq : Box wl (wc.heap.size + 1) 48 #[.slice none 0 0, .int .u8 0, .bool false, .slice none 0 0, .bool false, .slice none 0 0] := by with_reducible exact boxB1f hxl)); (try (have bz : Box wl wc.heap.size 37 (zerosR n) := by with_reducible exact boxAd' hxl)); (try (have bz : Box wl wc.heap.size 37 (zerosR n) := by with_reducible exact boxB0f hxl)); (try (have bz : Box wl (wc.heap.size + 1) 37 (zerosR n) := by with_reducible exact boxB1f hxl)))
                  | skip
                try (go_wp2_with fail)
                refine hK.out _ _ ?_ (fun hHeld => ?_)
                · (try dsimp only); (repeat (first | (with_reducible assumption) | (with_reducible apply Later.drew) | (with_reducible apply Later.drewN) | (with_reducible apply Later.alloc) | (with_reducible refine later6L ?_ (by first | exact Nat.le_refl _ | exact Nat.le_succ _ | exact Later.size (by assumption) | exact Nat.le_succ_of_le (Later.size (by assumption))) _ _ _ _ _ _) | (with_reducible refine Later.step ?_ (by assumption))))
                clear hK K
                try simp only [Act.put, List.setIfInBounds_toArray, List.set_cons_zero, List.set_cons_succ]
                refine wpAnyH_take (i := 9) (oi := { dst := some 60, op := Op.build 48 #[(0, Operand.tmp 53), (1, Operand.const (Value.int IntKind.u8 1)), (2, Operand.tmp 59)], type := 48, pos := "law.go:353", after := #[{ on := 2, ground := Ground.data }, { on := 8, ground := Ground.data }], guard := none }) (v := ?_) rfl (by kernel_rfl) (by kernel_rfl) (by kernel_rfl) (fun _ _ _ h => h) (Or.inl ⟨by rfl, ?_⟩) (by assumption) ?_
                rotate_left
                · intro w hSw; (try dsimp only at hSw); go_simp; try (with_reducible rfl)
                try simp only [Act.put, List.setIfInBounds_toArray, List.set_cons_zero, List.set_cons_succ]
                refine wpAnyH_ready (rs := [11]) (by kernel_rfl) (by simp) ?_
                refine AllReadyH.cons (o := { dst := none, op := Op.store 48 (Operand.tmp 10) (Operand.tmp 60), type := 0, pos := "law.go:353", after := #[{ on := 10, ground := Ground.data }, { on := 9, ground := Ground.data }, { on := 8, ground := Ground.chain }, { on := 0, ground := Ground.phase }, { on := 1, ground := Ground.phase }, { on := 2, ground := Ground.phase }, { on := 3, ground := Ground.phase }, { on := 4, ground := Ground.phase }, { on := 5, ground := Ground.phase }, { on := 6, ground := Ground.phase }, { on := 7, ground := Ground.phase }, { on := 8, ground := Ground.phase }, { on := 9, ground := Ground.phase }, { on := 10, ground := Ground.phase }], guard := none }) rfl (fun K hK => ?_) ?_
                · refine step_sto6 rfl (.tmp 10) (.tmp 60) rfl _ 0 _ _ _ _ _ _ rfl rfl (there6 (by first | (with_reducible exact bq) | (with_reducible exact Box.alloc bq _) | (with_reducible exact Box.new _ _ _) | (with_reducible exact Box.new2 _ _ _ _) | (with_reducible exact Box.alloc (Box.new _ _ _) _))) (all_oneCell_toArray one6) ?_
                  simp only [Act.put]
                  refine hK.out _ _ ?_ (fun hHeld => ?_)
                  · (try dsimp only); (repeat (first | (with_reducible assumption) | (with_reducible apply Later.drew) | (with_reducible apply Later.drewN) | (with_reducible apply Later.alloc) | (with_reducible refine later6L ?_ (by first | exact Nat.le_refl _ | exact Nat.le_succ _ | exact Later.size (by assumption) | exact Nat.le_succ_of_le (Later.size (by assumption))) _ _ _ _ _ _) | (with_reducible refine Later.step ?_ (by assumption))))
                  clear hK K
                  try simp only [Act.put, List.setIfInBounds_toArray, List.set_cons_zero, List.set_cons_succ]
                  refine wpAnyH_done (by kernel_rfl) ?_ _
                  go_wp2_with fail
                  go_meet
                  exact ⟨_, _, _, _, _, _, _, _, _, _, rfl, row_done (by first | (with_reducible exact bq) | (with_reducible exact Box.alloc bq _) | (with_reducible exact Box.new _ _ _) | (with_reducible exact Box.new2 _ _ _ _) | (with_reducible exact Box.alloc (Box.new _ _ _) _)) (by first | (with_reducible exact bz) | (with_reducible exact Box.alloc bz _) | (with_reducible exact Box.new _ _ _) | (with_reducible exact Box.new2 _ _ _ _) | (with_reducible exact Box.alloc (Box.new _ _ _) _)) (by first | (with_reducible exact hbl) | (with_reducible exact hbl.ext ((Ext.refl _).alloc _)) | (with_reducible exact hbl.ext (((Ext.refl _).alloc _).alloc _))) (by first | (with_reducible exact hEl) | (with_reducible exact Ext.alloc hEl _) | (with_reducible exact Ext.alloc (Ext.alloc hEl _) _)) (by first | (with_reducible exact Nat.le_refl _) | (with_reducible exact Nat.le_succ _) | (with_reducible exact Ext.size hEl) | (with_reducible exact Nat.le_succ_of_le (Ext.size hEl))) (by first | (with_reducible exact Nat.le_refl _) | (with_reducible exact Nat.le_succ _) | (with_reducible exact Ext.size hEl) | (with_reducible exact Nat.le_succ_of_le (Ext.size hEl)))⟩
                exact AllReadyH.nil
              exact AllReadyH.nil
            exact AllReadyH.nil
          refine AllReadyH.cons (o := { dst := some 59, op := Op.call { callee := Callee.value (Operand.func 21), args := #[Operand.tmp 58], argTypes := #[3] }, type := 37, pos := "law.go:353", after := #[{ on := 7, ground := Ground.data }], guard := none }) rfl (fun K hK => ?_) ?_
          · go_simp
            first
              | (go_at_call 21; (with_reducible refine (RatOf_b y _ (by omega) (by omega)).mono ?_); rintro e wl ⟨vl, rfl, hbl, hxl⟩; (obtain ⟨pl, Al, nl, cl, pl', Al', nl', cl', rfl⟩ := hbl.1.shape); (have hSl := Later.step (by assumption) hxl); (have hEl : Ext wc wl := hSl); (try (have bq : Box wl wc.heap.size 48 #[.slice none 0 0, .int .u8 0, .bool false, .slice none 0 0, .bool false, .slice none 0 0] := by with_reducible exact boxAd' hxl)); (try (have bq : Box wl wc.heap.size 48 #[.slice none 0 0, .int .u8 0, .bool false, .slice none 0 0, .bool false, .slice none 0 0] := by with_reducible exact boxB0f hxl)); (try (have bq : Box wl (wc.heap.size + 1) 48 #[.slice none 0 0, .int .u8 0, .bool false, .slice none 0 0, .bool false, .slice none 0 0] := by with_reducible exact boxB1f hxl)); (try (have bz : Box wl wc.heap.size 37 (zerosR n) := by with_reducible exact boxAd' hxl)); (try (have bz : Box wl wc.heap.size 37 (zerosR n) := by with_reducible exact boxB0f hxl)); (try (have bz : Box wl (wc.heap.size + 1) 37 (zerosR n) := by with_reducible exact boxB1f hxl)))
              | skip
            try (go_wp2_with fail)
            refine hK.out _ _ ?_ (fun hHeld => ?_)
            · (try dsimp only); (repeat (first | (with_reducible assumption) | (with_reducible apply Later.drew) | (with_reducible apply Later.drewN) | (with_reducible apply Later.alloc) | (with_reducible refine later6L ?_ (by first | exact Nat.le_refl _ | exact Nat.le_succ _ | exact Later.size (by assumption) | exact Nat.le_succ_of_le (Later.size (by assumption))) _ _ _ _ _ _) | (with_reducible refine Later.step ?_ (by assumption))))
            clear hK K
            try simp only [Act.put, List.setIfInBounds_toArray, List.set_cons_zero, List.set_cons_succ]
            refine wpAnyH_ready (rs := [2, 10]) (by kernel_rfl) (by simp) ?_
            refine AllReadyH.cons (o := { dst := some 53, op := Op.makeSlice 28 (Operand.tmp 52) (Operand.tmp 52), type := 28, pos := "law.go:353", after := #[{ on := 1, ground := Ground.data }, { on := 1, ground := Ground.data }], guard := none }) rfl (fun K hK => ?_) ?_
            · go_simp
              first
                | (go_at_call 21; (with_reducible refine (RatOf_b y _ (by omega) (by omega)).mono ?_); rintro e wl ⟨vl, rfl, hbl, hxl⟩; (obtain ⟨pl, Al, nl, cl, pl', Al', nl', cl', rfl⟩ := hbl.1.shape); (have hSl := Later.step (by assumption) hxl); (have hEl : Ext wc wl := hSl); (try (have bq : Box wl wc.heap.size 48 #[.slice none 0 0, .int .u8 0, .bool false, .slice none 0 0, .bool false, .slice none 0 0] := by with_reducible exact boxAd' hxl)); (try (have bq : Box wl wc.heap.size 48 #[.slice none 0 0, .int .u8 0, .bool false, .slice none 0 0, .bool false, .slice none 0 0] := by with_reducible exact boxB0f hxl)); (try (have bq : Box wl (wc.heap.size + 1) 48 #[.slice none 0 0, .int .u8 0, .bool false, .slice none 0 0, .bool false, .slice none 0 0] := by with_reducible exact boxB1f hxl)); (try (have bz : Box wl wc.heap.size 37 (zerosR n) := by with_reducible exact boxAd' hxl)); (try (have bz : Box wl wc.heap.size 37 (zerosR n) := by with_reducible exact boxB0f hxl)); (try (have bz : Box wl (wc.heap.size + 1) 37 (zerosR n) := by with_reducible exact boxB1f hxl)))
                | skip
              try (go_wp2_with fail)
              refine hK.out _ _ ?_ (fun hHeld => ?_)
              · (try dsimp only); (repeat (first | (with_reducible assumption) | (with_reducible apply Later.drew) | (with_reducible apply Later.drewN) | (with_reducible apply Later.alloc) | (with_reducible refine later6L ?_ (by first | exact Nat.le_refl _ | exact Nat.le_succ _ | exact Later.size (by assumption) | exact Nat.le_succ_of_le (Later.size (by assumption))) _ _ _ _ _ _) | (with_reducible refine Later.step ?_ (by assumption))))
              clear hK K
              try simp only [Act.put, List.setIfInBounds_toArray, List.set_cons_zero, List.set_cons_succ]
              refine wpAnyH_take (i := 9) (oi := { dst := some 60, op := Op.build 48 #[(0, Operand.tmp 53), (1, Operand.const (Value.int IntKind.u8 1)), (2, Operand.tmp 59)], type := 48, pos := "law.go:353", after := #[{ on := 2, ground := Ground.data }, { on := 8, ground := Ground.data }], guard := none }) (v := ?_) rfl (by kernel_rfl) (by kernel_rfl) (by kernel_rfl) (fun _ _ _ h => h) (Or.inl ⟨by rfl, ?_⟩) (by assumption) ?_
              rotate_left
              · intro w hSw; (try dsimp only at hSw); go_simp; try (with_reducible rfl)
              try simp only [Act.put, List.setIfInBounds_toArray, List.set_cons_zero, List.set_cons_succ]
              refine wpAnyH_ready (rs := [10]) (by kernel_rfl) (by simp) ?_
              refine AllReadyH.cons (o := { dst := some 10, op := Op.alloc 48, type := 0, pos := "law.go:353", after := #[], guard := none }) rfl (fun K hK => ?_) ?_
              · go_simp
                first
                  | (go_at_call 21; (with_reducible refine (RatOf_b y _ (by omega) (by omega)).mono ?_); rintro e wl ⟨vl, rfl, hbl, hxl⟩; (obtain ⟨pl, Al, nl, cl, pl', Al', nl', cl', rfl⟩ := hbl.1.shape); (have hSl := Later.step (by assumption) hxl); (have hEl : Ext wc wl := hSl); (try (have bq : Box wl wc.heap.size 48 #[.slice none 0 0, .int .u8 0, .bool false, .slice none 0 0, .bool false, .slice none 0 0] := by with_reducible exact boxAd' hxl)); (try (have bq : Box wl wc.heap.size 48 #[.slice none 0 0, .int .u8 0, .bool false, .slice none 0 0, .bool false, .slice none 0 0] := by with_reducible exact boxB0f hxl)); (try (have bq : Box wl (wc.heap.size + 1) 48 #[.slice none 0 0, .int .u8 0, .bool false, .slice none 0 0, .bool false, .slice none 0 0] := by with_reducible exact boxB1f hxl)); (try (have bz : Box wl wc.heap.size 37 (zerosR n) := by with_reducible exact boxAd' hxl)); (try (have bz : Box wl wc.heap.size 37 (zerosR n) := by with_reducible exact boxB0f hxl)); (try (have bz : Box wl (wc.heap.size + 1) 37 (zerosR n) := by with_reducible exact boxB1f hxl)))
                  | skip
                try (go_wp2_with fail)
                refine hK.out _ _ ?_ (fun hHeld => ?_)
                · (try dsimp only); (repeat (first | (with_reducible assumption) | (with_reducible apply Later.drew) | (with_reducible apply Later.drewN) | (with_reducible apply Later.alloc) | (with_reducible refine later6L ?_ (by first | exact Nat.le_refl _ | exact Nat.le_succ _ | exact Later.size (by assumption) | exact Nat.le_succ_of_le (Later.size (by assumption))) _ _ _ _ _ _) | (with_reducible refine Later.step ?_ (by assumption))))
                clear hK K
                try simp only [Act.put, List.setIfInBounds_toArray, List.set_cons_zero, List.set_cons_succ]
                refine wpAnyH_ready (rs := [11]) (by kernel_rfl) (by simp) ?_
                refine AllReadyH.cons (o := { dst := none, op := Op.store 48 (Operand.tmp 10) (Operand.tmp 60), type := 0, pos := "law.go:353", after := #[{ on := 10, ground := Ground.data }, { on := 9, ground := Ground.data }, { on := 8, ground := Ground.chain }, { on := 0, ground := Ground.phase }, { on := 1, ground := Ground.phase }, { on := 2, ground := Ground.phase }, { on := 3, ground := Ground.phase }, { on := 4, ground := Ground.phase }, { on := 5, ground := Ground.phase }, { on := 6, ground := Ground.phase }, { on := 7, ground := Ground.phase }, { on := 8, ground := Ground.phase }, { on := 9, ground := Ground.phase }, { on := 10, ground := Ground.phase }], guard := none }) rfl (fun K hK => ?_) ?_
                · refine step_sto6 rfl (.tmp 10) (.tmp 60) rfl _ 0 _ _ _ _ _ _ rfl rfl (there6 (by first | (with_reducible exact bq) | (with_reducible exact Box.alloc bq _) | (with_reducible exact Box.new _ _ _) | (with_reducible exact Box.new2 _ _ _ _) | (with_reducible exact Box.alloc (Box.new _ _ _) _))) (all_oneCell_toArray one6) ?_
                  simp only [Act.put]
                  refine hK.out _ _ ?_ (fun hHeld => ?_)
                  · (try dsimp only); (repeat (first | (with_reducible assumption) | (with_reducible apply Later.drew) | (with_reducible apply Later.drewN) | (with_reducible apply Later.alloc) | (with_reducible refine later6L ?_ (by first | exact Nat.le_refl _ | exact Nat.le_succ _ | exact Later.size (by assumption) | exact Nat.le_succ_of_le (Later.size (by assumption))) _ _ _ _ _ _) | (with_reducible refine Later.step ?_ (by assumption))))
                  clear hK K
                  try simp only [Act.put, List.setIfInBounds_toArray, List.set_cons_zero, List.set_cons_succ]
                  refine wpAnyH_done (by kernel_rfl) ?_ _
                  go_wp2_with fail
                  go_meet
                  exact ⟨_, _, _, _, _, _, _, _, _, _, rfl, row_done (by first | (with_reducible exact bq) | (with_reducible exact Box.alloc bq _) | (with_reducible exact Box.new _ _ _) | (with_reducible exact Box.new2 _ _ _ _) | (with_reducible exact Box.alloc (Box.new _ _ _) _)) (by first | (with_reducible exact bz) | (with_reducible exact Box.alloc bz _) | (with_reducible exact Box.new _ _ _) | (with_reducible exact Box.new2 _ _ _ _) | (with_reducible exact Box.alloc (Box.new _ _ _) _)) (by first | (with_reducible exact hbl) | (with_reducible exact hbl.ext ((Ext.refl _).alloc _)) | (with_reducible exact hbl.ext (((Ext.refl _).alloc _).alloc _))) (by first | (with_reducible exact hEl) | (with_reducible exact Ext.alloc hEl _) | (with_reducible exact Ext.alloc (Ext.alloc hEl _) _)) (by first | (with_reducible exact Nat.le_refl _) | (with_reducible exact Nat.le_succ _) | (with_reducible exact Ext.size hEl) | (with_reducible exact Nat.le_succ_of_le (Ext.size hEl))) (by first | (with_reducible exact Nat.le_refl _) | (with_reducible exact Nat.le_succ _) | (with_reducible exact Ext.size hEl) | (with_reducible exact Nat.le_succ_of_le (Ext.size hEl)))⟩
                exact AllReadyH.nil
              exact AllReadyH.nil
            refine AllReadyH.cons (o := { dst := some 10, op := Op.alloc 48, type := 0, pos := "law.go:353", after := #[], guard := none }) rfl (fun K hK => ?_) ?_
            · go_simp
              first
                | (go_at_call 21; (with_reducible refine (RatOf_b y _ (by omega) (by omega)).mono ?_); rintro e wl ⟨vl, rfl, hbl, hxl⟩; (obtain ⟨pl, Al, nl, cl, pl', Al', nl', cl', rfl⟩ := hbl.1.shape); (have hSl := Later.step (by assumption) hxl); (have hEl : Ext wc wl := hSl); (try (have bq : Box wl wc.heap.size 48 #[.slice none 0 0, .int .u8 0, .bool false, .slice none 0 0, .bool false, .slice none 0 0] := by with_reducible exact boxAd' hxl)); (try (have bq : Box wl wc.heap.size 48 #[.slice none 0 0, .int .u8 0, .bool false, .slice none 0 0, .bool false, .slice none 0 0] := by with_reducible exact boxB0f hxl)); (try (have bq : Box wl (wc.heap.size + 1) 48 #[.slice none 0 0, .int .u8 0, .bool false, .slice none 0 0, .bool false, .slice none 0 0] := by with_reducible exact boxB1f hxl)); (try (have bz : Box wl wc.heap.size 37 (zerosR n) := by with_reducible exact boxAd' hxl)); (try (have bz : Box wl wc.heap.size 37 (zerosR n) := by with_reducible exact boxB0f hxl)); (try (have bz : Box wl (wc.heap.size + 1) 37 (zerosR n) := by with_reducible exact boxB1f hxl)))
                | skip
              try (go_wp2_with fail)
              refine hK.out _ _ ?_ (fun hHeld => ?_)
              · (try dsimp only); (repeat (first | (with_reducible assumption) | (with_reducible apply Later.drew) | (with_reducible apply Later.drewN) | (with_reducible apply Later.alloc) | (with_reducible refine later6L ?_ (by first | exact Nat.le_refl _ | exact Nat.le_succ _ | exact Later.size (by assumption) | exact Nat.le_succ_of_le (Later.size (by assumption))) _ _ _ _ _ _) | (with_reducible refine Later.step ?_ (by assumption))))
              clear hK K
              try simp only [Act.put, List.setIfInBounds_toArray, List.set_cons_zero, List.set_cons_succ]
              refine wpAnyH_ready (rs := [2]) (by kernel_rfl) (by simp) ?_
              refine AllReadyH.cons (o := { dst := some 53, op := Op.makeSlice 28 (Operand.tmp 52) (Operand.tmp 52), type := 28, pos := "law.go:353", after := #[{ on := 1, ground := Ground.data }, { on := 1, ground := Ground.data }], guard := none }) rfl (fun K hK => ?_) ?_
              · go_simp
                first
                  | (go_at_call 21; (with_reducible refine (RatOf_b y _ (by omega) (by omega)).mono ?_); rintro e wl ⟨vl, rfl, hbl, hxl⟩; (obtain ⟨pl, Al, nl, cl, pl', Al', nl', cl', rfl⟩ := hbl.1.shape); (have hSl := Later.step (by assumption) hxl); (have hEl : Ext wc wl := hSl); (try (have bq : Box wl wc.heap.size 48 #[.slice none 0 0, .int .u8 0, .bool false, .slice none 0 0, .bool false, .slice none 0 0] := by with_reducible exact boxAd' hxl)); (try (have bq : Box wl wc.heap.size 48 #[.slice none 0 0, .int .u8 0, .bool false, .slice none 0 0, .bool false, .slice none 0 0] := by with_reducible exact boxB0f hxl)); (try (have bq : Box wl (wc.heap.size + 1) 48 #[.slice none 0 0, .int .u8 0, .bool false, .slice none 0 0, .bool false, .slice none 0 0] := by with_reducible exact boxB1f hxl)); (try (have bz : Box wl wc.heap.size 37 (zerosR n) := by with_reducible exact boxAd' hxl)); (try (have bz : Box wl wc.heap.size 37 (zerosR n) := by with_reducible exact boxB0f hxl)); (try (have bz : Box wl (wc.heap.size + 1) 37 (zerosR n) := by with_reducible exact boxB1f hxl)))
                  | skip
                try (go_wp2_with fail)
                refine hK.out _ _ ?_ (fun hHeld => ?_)
                · (try dsimp only); (repeat (first | (with_reducible assumption) | (with_reducible apply Later.drew) | (with_reducible apply Later.drewN) | (with_reducible apply Later.alloc) | (with_reducible refine later6L ?_ (by first | exact Nat.le_refl _ | exact Nat.le_succ _ | exact Later.size (by assumption) | exact Nat.le_succ_of_le (Later.size (by assumption))) _ _ _ _ _ _) | (with_reducible refine Later.step ?_ (by assumption))))
                clear hK K
                try simp only [Act.put, List.setIfInBounds_toArray, List.set_cons_zero, List.set_cons_succ]
                refine wpAnyH_take (i := 9) (oi := { dst := some 60, op := Op.build 48 #[(0, Operand.tmp 53), (1, Operand.const (Value.int IntKind.u8 1)), (2, Operand.tmp 59)], type := 48, pos := "law.go:353", after := #[{ on := 2, ground := Ground.data }, { on := 8, ground := Ground.data }], guard := none }) (v := ?_) rfl (by kernel_rfl) (by kernel_rfl) (by kernel_rfl) (fun _ _ _ h => h) (Or.inl ⟨by rfl, ?_⟩) (by assumption) ?_
                rotate_left
                · intro w hSw; (try dsimp only at hSw); go_simp; try (with_reducible rfl)
                try simp only [Act.put, List.setIfInBounds_toArray, List.set_cons_zero, List.set_cons_succ]
                refine wpAnyH_ready (rs := [11]) (by kernel_rfl) (by simp) ?_
                refine AllReadyH.cons (o := { dst := none, op := Op.store 48 (Operand.tmp 10) (Operand.tmp 60), type := 0, pos := "law.go:353", after := #[{ on := 10, ground := Ground.data }, { on := 9, ground := Ground.data }, { on := 8, ground := Ground.chain }, { on := 0, ground := Ground.phase }, { on := 1, ground := Ground.phase }, { on := 2, ground := Ground.phase }, { on := 3, ground := Ground.phase }, { on := 4, ground := Ground.phase }, { on := 5, ground := Ground.phase }, { on := 6, ground := Ground.phase }, { on := 7, ground := Ground.phase }, { on := 8, ground := Ground.phase }, { on := 9, ground := Ground.phase }, { on := 10, ground := Ground.phase }], guard := none }) rfl (fun K hK => ?_) ?_
                · refine step_sto6 rfl (.tmp 10) (.tmp 60) rfl _ 0 _ _ _ _ _ _ rfl rfl (there6 (by first | (with_reducible exact bq) | (with_reducible exact Box.alloc bq _) | (with_reducible exact Box.new _ _ _) | (with_reducible exact Box.new2 _ _ _ _) | (with_reducible exact Box.alloc (Box.new _ _ _) _))) (all_oneCell_toArray one6) ?_
                  simp only [Act.put]
                  refine hK.out _ _ ?_ (fun hHeld => ?_)
                  · (try dsimp only); (repeat (first | (with_reducible assumption) | (with_reducible apply Later.drew) | (with_reducible apply Later.drewN) | (with_reducible apply Later.alloc) | (with_reducible refine later6L ?_ (by first | exact Nat.le_refl _ | exact Nat.le_succ _ | exact Later.size (by assumption) | exact Nat.le_succ_of_le (Later.size (by assumption))) _ _ _ _ _ _) | (with_reducible refine Later.step ?_ (by assumption))))
                  clear hK K
                  try simp only [Act.put, List.setIfInBounds_toArray, List.set_cons_zero, List.set_cons_succ]
                  refine wpAnyH_done (by kernel_rfl) ?_ _
                  go_wp2_with fail
                  go_meet
                  exact ⟨_, _, _, _, _, _, _, _, _, _, rfl, row_done (by first | (with_reducible exact bq) | (with_reducible exact Box.alloc bq _) | (with_reducible exact Box.new _ _ _) | (with_reducible exact Box.new2 _ _ _ _) | (with_reducible exact Box.alloc (Box.new _ _ _) _)) (by first | (with_reducible exact bz) | (with_reducible exact Box.alloc bz _) | (with_reducible exact Box.new _ _ _) | (with_reducible exact Box.new2 _ _ _ _) | (with_reducible exact Box.alloc (Box.new _ _ _) _)) (by first | (with_reducible exact hbl) | (with_reducible exact hbl.ext ((Ext.refl _).alloc _)) | (with_reducible exact hbl.ext (((Ext.refl _).alloc _).alloc _))) (by first | (with_reducible exact hEl) | (with_reducible exact Ext.alloc hEl _) | (with_reducible exact Ext.alloc (Ext.alloc hEl _) _)) (by first | (with_reducible exact Nat.le_refl _) | (with_reducible exact Nat.le_succ _) | (with_reducible exact Ext.size hEl) | (with_reducible exact Nat.le_succ_of_le (Ext.size hEl))) (by first | (with_reducible exact Nat.le_refl _) | (with_reducible exact Nat.le_succ _) | (with_reducible exact Ext.size hEl) | (with_reducible exact Nat.le_succ_of_le (Ext.size hEl)))⟩
                exact AllReadyH.nil
              exact AllReadyH.nil
            exact AllReadyH.nil
          refine AllReadyH.cons (o := { dst := some 10, op := Op.alloc 48, type := 0, pos := "law.go:353", after := #[], guard := none }) rfl (fun K hK => ?_) ?_
          · go_simp
            first
              | (go_at_call 21; (with_reducible refine (RatOf_b y _ (by omega) (by omega)).mono ?_); rintro e wl ⟨vl, rfl, hbl, hxl⟩; (obtain ⟨pl, Al, nl, cl, pl', Al', nl', cl', rfl⟩ := hbl.1.shape); (have hSl := Later.step (by assumption) hxl); (have hEl : Ext wc wl := hSl); (try (have bq : Box wl wc.heap.size 48 #[.slice none 0 0, .int .u8 0, .bool false, .slice none 0 0, .bool false, .slice none 0 0] := by with_reducible exact boxAd' hxl)); (try (have bq : Box wl wc.heap.size 48 #[.slice none 0 0, .int .u8 0, .bool false, .slice none 0 0, .bool false, .slice none 0 0] := by with_reducible exact boxB0f hxl)); (try (have bq : Box wl (wc.heap.size + 1) 48 #[.slice none 0 0, .int .u8 0, .bool false, .slice none 0 0, .bool false, .slice none 0 0] := by with_reducible exact boxB1f hxl)); (try (have bz : Box wl wc.heap.size 37 (zerosR n) := by with_reducible exact boxAd' hxl)); (try (have bz : Box wl wc.heap.size 37 (zerosR n) := by with_reducible exact boxB0f hxl)); (try (have bz : Box wl (wc.heap.size + 1) 37 (zerosR n) := by with_reducible exact boxB1f hxl)))
              | skip
            try (go_wp2_with fail)
            refine hK.out _ _ ?_ (fun hHeld => ?_)
            · (try dsimp only); (repeat (first | (with_reducible assumption) | (with_reducible apply Later.drew) | (with_reducible apply Later.drewN) | (with_reducible apply Later.alloc) | (with_reducible refine later6L ?_ (by first | exact Nat.le_refl _ | exact Nat.le_succ _ | exact Later.size (by assumption) | exact Nat.le_succ_of_le (Later.size (by assumption))) _ _ _ _ _ _) | (with_reducible refine Later.step ?_ (by assumption))))
            clear hK K
            try simp only [Act.put, List.setIfInBounds_toArray, List.set_cons_zero, List.set_cons_succ]
            refine wpAnyH_ready (rs := [2, 8]) (by kernel_rfl) (by simp) ?_
            refine AllReadyH.cons (o := { dst := some 53, op := Op.makeSlice 28 (Operand.tmp 52) (Operand.tmp 52), type := 28, pos := "law.go:353", after := #[{ on := 1, ground := Ground.data }, { on := 1, ground := Ground.data }], guard := none }) rfl (fun K hK => ?_) ?_
            · go_simp
              first
                | (go_at_call 21; (with_reducible refine (RatOf_b y _ (by omega) (by omega)).mono ?_); rintro e wl ⟨vl, rfl, hbl, hxl⟩; (obtain ⟨pl, Al, nl, cl, pl', Al', nl', cl', rfl⟩ := hbl.1.shape); (have hSl := Later.step (by assumption) hxl); (have hEl : Ext wc wl := hSl); (try (have bq : Box wl wc.heap.size 48 #[.slice none 0 0, .int .u8 0, .bool false, .slice none 0 0, .bool false, .slice none 0 0] := by with_reducible exact boxAd' hxl)); (try (have bq : Box wl wc.heap.size 48 #[.slice none 0 0, .int .u8 0, .bool false, .slice none 0 0, .bool false, .slice none 0 0] := by with_reducible exact boxB0f hxl)); (try (have bq : Box wl (wc.heap.size + 1) 48 #[.slice none 0 0, .int .u8 0, .bool false, .slice none 0 0, .bool false, .slice none 0 0] := by with_reducible exact boxB1f hxl)); (try (have bz : Box wl wc.heap.size 37 (zerosR n) := by with_reducible exact boxAd' hxl)); (try (have bz : Box wl wc.heap.size 37 (zerosR n) := by with_reducible exact boxB0f hxl)); (try (have bz : Box wl (wc.heap.size + 1) 37 (zerosR n) := by with_reducible exact boxB1f hxl)))
                | skip
              try (go_wp2_with fail)
              refine hK.out _ _ ?_ (fun hHeld => ?_)
              · (try dsimp only); (repeat (first | (with_reducible assumption) | (with_reducible apply Later.drew) | (with_reducible apply Later.drewN) | (with_reducible apply Later.alloc) | (with_reducible refine later6L ?_ (by first | exact Nat.le_refl _ | exact Nat.le_succ _ | exact Later.size (by assumption) | exact Nat.le_succ_of_le (Later.size (by assumption))) _ _ _ _ _ _) | (with_reducible refine Later.step ?_ (by assumption))))
              clear hK K
              try simp only [Act.put, List.setIfInBounds_toArray, List.set_cons_zero, List.set_cons_succ]
              refine wpAnyH_ready (rs := [8]) (by kernel_rfl) (by simp) ?_
              refine AllReadyH.cons (o := { dst := some 59, op := Op.call { callee := Callee.value (Operand.func 21), args := #[Operand.tmp 58], argTypes := #[3] }, type := 37, pos := "law.go:353", after := #[{ on := 7, ground := Ground.data }], guard := none }) rfl (fun K hK => ?_) ?_
              · go_simp
                first
                  | (go_at_call 21; (with_reducible refine (RatOf_b y _ (by omega) (by omega)).mono ?_); rintro e wl ⟨vl, rfl, hbl, hxl⟩; (obtain ⟨pl, Al, nl, cl, pl', Al', nl', cl', rfl⟩ := hbl.1.shape); (have hSl := Later.step (by assumption) hxl); (have hEl : Ext wc wl := hSl); (try (have bq : Box wl wc.heap.size 48 #[.slice none 0 0, .int .u8 0, .bool false, .slice none 0 0, .bool false, .slice none 0 0] := by with_reducible exact boxAd' hxl)); (try (have bq : Box wl wc.heap.size 48 #[.slice none 0 0, .int .u8 0, .bool false, .slice none 0 0, .bool false, .slice none 0 0] := by with_reducible exact boxB0f hxl)); (try (have bq : Box wl (wc.heap.size + 1) 48 #[.slice none 0 0, .int .u8 0, .bool false, .slice none 0 0, .bool false, .slice none 0 0] := by with_reducible exact boxB1f hxl)); (try (have bz : Box wl wc.heap.size 37 (zerosR n) := by with_reducible exact boxAd' hxl)); (try (have bz : Box wl wc.heap.size 37 (zerosR n) := by with_reducible exact boxB0f hxl)); (try (have bz : Box wl (wc.heap.size + 1) 37 (zerosR n) := by with_reducible exact boxB1f hxl)))
                  | skip
                try (go_wp2_with fail)
                refine hK.out _ _ ?_ (fun hHeld => ?_)
                · (try dsimp only); (repeat (first | (with_reducible assumption) | (with_reducible apply Later.drew) | (with_reducible apply Later.drewN) | (with_reducible apply Later.alloc) | (with_reducible refine later6L ?_ (by first | exact Nat.le_refl _ | exact Nat.le_succ _ | exact Later.size (by assumption) | exact Nat.le_succ_of_le (Later.size (by assumption))) _ _ _ _ _ _) | (with_reducible refine Later.step ?_ (by assumption))))
                clear hK K
                try simp only [Act.put, List.setIfInBounds_toArray, List.set_cons_zero, List.set_cons_succ]
                refine wpAnyH_take (i := 9) (oi := { dst := some 60, op := Op.build 48 #[(0, Operand.tmp 53), (1, Operand.const (Value.int IntKind.u8 1)), (2, Operand.tmp 59)], type := 48, pos := "law.go:353", after := #[{ on := 2, ground := Ground.data }, { on := 8, ground := Ground.data }], guard := none }) (v := ?_) rfl (by kernel_rfl) (by kernel_rfl) (by kernel_rfl) (fun _ _ _ h => h) (Or.inl ⟨by rfl, ?_⟩) (by assumption) ?_
                rotate_left
                · intro w hSw; (try dsimp only at hSw); go_simp; try (with_reducible rfl)
                try simp only [Act.put, List.setIfInBounds_toArray, List.set_cons_zero, List.set_cons_succ]
                refine wpAnyH_ready (rs := [11]) (by kernel_rfl) (by simp) ?_
                refine AllReadyH.cons (o := { dst := none, op := Op.store 48 (Operand.tmp 10) (Operand.tmp 60), type := 0, pos := "law.go:353", after := #[{ on := 10, ground := Ground.data }, { on := 9, ground := Ground.data }, { on := 8, ground := Ground.chain }, { on := 0, ground := Ground.phase }, { on := 1, ground := Ground.phase }, { on := 2, ground := Ground.phase }, { on := 3, ground := Ground.phase }, { on := 4, ground := Ground.phase }, { on := 5, ground := Ground.phase }, { on := 6, ground := Ground.phase }, { on := 7, ground := Ground.phase }, { on := 8, ground := Ground.phase }, { on := 9, ground := Ground.phase }, { on := 10, ground := Ground.phase }], guard := none }) rfl (fun K hK => ?_) ?_
                · refine step_sto6 rfl (.tmp 10) (.tmp 60) rfl _ 0 _ _ _ _ _ _ rfl rfl (there6 (by first | (with_reducible exact bq) | (with_reducible exact Box.alloc bq _) | (with_reducible exact Box.new _ _ _) | (with_reducible exact Box.new2 _ _ _ _) | (with_reducible exact Box.alloc (Box.new _ _ _) _))) (all_oneCell_toArray one6) ?_
                  simp only [Act.put]
                  refine hK.out _ _ ?_ (fun hHeld => ?_)
                  · (try dsimp only); (repeat (first | (with_reducible assumption) | (with_reducible apply Later.drew) | (with_reducible apply Later.drewN) | (with_reducible apply Later.alloc) | (with_reducible refine later6L ?_ (by first | exact Nat.le_refl _ | exact Nat.le_succ _ | exact Later.size (by assumption) | exact Nat.le_succ_of_le (Later.size (by assumption))) _ _ _ _ _ _) | (with_reducible refine Later.step ?_ (by assumption))))
                  clear hK K
                  try simp only [Act.put, List.setIfInBounds_toArray, List.set_cons_zero, List.set_cons_succ]
                  refine wpAnyH_done (by kernel_rfl) ?_ _
                  go_wp2_with fail
                  go_meet
                  exact ⟨_, _, _, _, _, _, _, _, _, _, rfl, row_done (by first | (with_reducible exact bq) | (with_reducible exact Box.alloc bq _) | (with_reducible exact Box.new _ _ _) | (with_reducible exact Box.new2 _ _ _ _) | (with_reducible exact Box.alloc (Box.new _ _ _) _)) (by first | (with_reducible exact bz) | (with_reducible exact Box.alloc bz _) | (with_reducible exact Box.new _ _ _) | (with_reducible exact Box.new2 _ _ _ _) | (with_reducible exact Box.alloc (Box.new _ _ _) _)) (by first | (with_reducible exact hbl) | (with_reducible exact hbl.ext ((Ext.refl _).alloc _)) | (with_reducible exact hbl.ext (((Ext.refl _).alloc _).alloc _))) (by first | (with_reducible exact hEl) | (with_reducible exact Ext.alloc hEl _) | (with_reducible exact Ext.alloc (Ext.alloc hEl _) _)) (by first | (with_reducible exact Nat.le_refl _) | (with_reducible exact Nat.le_succ _) | (with_reducible exact Ext.size hEl) | (with_reducible exact Nat.le_succ_of_le (Ext.size hEl))) (by first | (with_reducible exact Nat.le_refl _) | (with_reducible exact Nat.le_succ _) | (with_reducible exact Ext.size hEl) | (with_reducible exact Nat.le_succ_of_le (Ext.size hEl)))⟩
                exact AllReadyH.nil
              exact AllReadyH.nil
            refine AllReadyH.cons (o := { dst := some 59, op := Op.call { callee := Callee.value (Operand.func 21), args := #[Operand.tmp 58], argTypes := #[3] }, type := 37, pos := "law.go:353", after := #[{ on := 7, ground := Ground.data }], guard := none }) rfl (fun K hK => ?_) ?_
            · go_simp
              first
                | (go_at_call 21; (with_reducible refine (RatOf_b y _ (by omega) (by omega)).mono ?_); rintro e wl ⟨vl, rfl, hbl, hxl⟩; (obtain ⟨pl, Al, nl, cl, pl', Al', nl', cl', rfl⟩ := hbl.1.shape); (have hSl := Later.step (by assumption) hxl); (have hEl : Ext wc wl := hSl); (try (have bq : Box wl wc.heap.size 48 #[.slice none 0 0, .int .u8 0, .bool false, .slice none 0 0, .bool false, .slice none 0 0] := by with_reducible exact boxAd' hxl)); (try (have bq : Box wl wc.heap.size 48 #[.slice none 0 0, .int .u8 0, .bool false, .slice none 0 0, .bool false, .slice none 0 0] := by with_reducible exact boxB0f hxl)); (try (have bq : Box wl (wc.heap.size + 1) 48 #[.slice none 0 0, .int .u8 0, .bool false, .slice none 0 0, .bool false, .slice none 0 0] := by with_reducible exact boxB1f hxl)); (try (have bz : Box wl wc.heap.size 37 (zerosR n) := by with_reducible exact boxAd' hxl)); (try (have bz : Box wl wc.heap.size 37 (zerosR n) := by with_reducible exact boxB0f hxl)); (try (have bz : Box wl (wc.heap.size + 1) 37 (zerosR n) := by with_reducible exact boxB1f hxl)))
                | skip
              try (go_wp2_with fail)
              refine hK.out _ _ ?_ (fun hHeld => ?_)
              · (try dsimp only); (repeat (first | (with_reducible assumption) | (with_reducible apply Later.drew) | (with_reducible apply Later.drewN) | (with_reducible apply Later.alloc) | (with_reducible refine later6L ?_ (by first | exact Nat.le_refl _ | exact Nat.le_succ _ | exact Later.size (by assumption) | exact Nat.le_succ_of_le (Later.size (by assumption))) _ _ _ _ _ _) | (with_reducible refine Later.step ?_ (by assumption))))
              clear hK K
              try simp only [Act.put, List.setIfInBounds_toArray, List.set_cons_zero, List.set_cons_succ]
              refine wpAnyH_ready (rs := [2]) (by kernel_rfl) (by simp) ?_
              refine AllReadyH.cons (o := { dst := some 53, op := Op.makeSlice 28 (Operand.tmp 52) (Operand.tmp 52), type := 28, pos := "law.go:353", after := #[{ on := 1, ground := Ground.data }, { on := 1, ground := Ground.data }], guard := none }) rfl (fun K hK => ?_) ?_
              · go_simp
                first
                  | (go_at_call 21; (with_reducible refine (RatOf_b y _ (by omega) (by omega)).mono ?_); rintro e wl ⟨vl, rfl, hbl, hxl⟩; (obtain ⟨pl, Al, nl, cl, pl', Al', nl', cl', rfl⟩ := hbl.1.shape); (have hSl := Later.step (by assumption) hxl); (have hEl : Ext wc wl := hSl); (try (have bq : Box wl wc.heap.size 48 #[.slice none 0 0, .int .u8 0, .bool false, .slice none 0 0, .bool false, .slice none 0 0] := by with_reducible exact boxAd' hxl)); (try (have bq : Box wl wc.heap.size 48 #[.slice none 0 0, .int .u8 0, .bool false, .slice none 0 0, .bool false, .slice none 0 0] := by with_reducible exact boxB0f hxl)); (try (have bq : Box wl (wc.heap.size + 1) 48 #[.slice none 0 0, .int .u8 0, .bool false, .slice none 0 0, .bool false, .slice none 0 0] := by with_reducible exact boxB1f hxl)); (try (have bz : Box wl wc.heap.size 37 (zerosR n) := by with_reducible exact boxAd' hxl)); (try (have bz : Box wl wc.heap.size 37 (zerosR n) := by with_reducible exact boxB0f hxl)); (try (have bz : Box wl (wc.heap.size + 1) 37 (zerosR n) := by with_reducible exact boxB1f hxl)))
                  | skip
                try (go_wp2_with fail)
                refine hK.out _ _ ?_ (fun hHeld => ?_)
                · (try dsimp only); (repeat (first | (with_reducible assumption) | (with_reducible apply Later.drew) | (with_reducible apply Later.drewN) | (with_reducible apply Later.alloc) | (with_reducible refine later6L ?_ (by first | exact Nat.le_refl _ | exact Nat.le_succ _ | exact Later.size (by assumption) | exact Nat.le_succ_of_le (Later.size (by assumption))) _ _ _ _ _ _) | (with_reducible refine Later.step ?_ (by assumption))))
                clear hK K
                try simp only [Act.put, List.setIfInBounds_toArray, List.set_cons_zero, List.set_cons_succ]
                refine wpAnyH_take (i := 9) (oi := { dst := some 60, op := Op.build 48 #[(0, Operand.tmp 53), (1, Operand.const (Value.int IntKind.u8 1)), (2, Operand.tmp 59)], type := 48, pos := "law.go:353", after := #[{ on := 2, ground := Ground.data }, { on := 8, ground := Ground.data }], guard := none }) (v := ?_) rfl (by kernel_rfl) (by kernel_rfl) (by kernel_rfl) (fun _ _ _ h => h) (Or.inl ⟨by rfl, ?_⟩) (by assumption) ?_
                rotate_left
                · intro w hSw; (try dsimp only at hSw); go_simp; try (with_reducible rfl)
                try simp only [Act.put, List.setIfInBounds_toArray, List.set_cons_zero, List.set_cons_succ]
                refine wpAnyH_ready (rs := [11]) (by kernel_rfl) (by simp) ?_
                refine AllReadyH.cons (o := { dst := none, op := Op.store 48 (Operand.tmp 10) (Operand.tmp 60), type := 0, pos := "law.go:353", after := #[{ on := 10, ground := Ground.data }, { on := 9, ground := Ground.data }, { on := 8, ground := Ground.chain }, { on := 0, ground := Ground.phase }, { on := 1, ground := Ground.phase }, { on := 2, ground := Ground.phase }, { on := 3, ground := Ground.phase }, { on := 4, ground := Ground.phase }, { on := 5, ground := Ground.phase }, { on := 6, ground := Ground.phase }, { on := 7, ground := Ground.phase }, { on := 8, ground := Ground.phase }, { on := 9, ground := Ground.phase }, { on := 10, ground := Ground.phase }], guard := none }) rfl (fun K hK => ?_) ?_
                · refine step_sto6 rfl (.tmp 10) (.tmp 60) rfl _ 0 _ _ _ _ _ _ rfl rfl (there6 (by first | (with_reducible exact bq) | (with_reducible exact Box.alloc bq _) | (with_reducible exact Box.new _ _ _) | (with_reducible exact Box.new2 _ _ _ _) | (with_reducible exact Box.alloc (Box.new _ _ _) _))) (all_oneCell_toArray one6) ?_
                  simp only [Act.put]
                  refine hK.out _ _ ?_ (fun hHeld => ?_)
                  · (try dsimp only); (repeat (first | (with_reducible assumption) | (with_reducible apply Later.drew) | (with_reducible apply Later.drewN) | (with_reducible apply Later.alloc) | (with_reducible refine later6L ?_ (by first | exact Nat.le_refl _ | exact Nat.le_succ _ | exact Later.size (by assumption) | exact Nat.le_succ_of_le (Later.size (by assumption))) _ _ _ _ _ _) | (with_reducible refine Later.step ?_ (by assumption))))
                  clear hK K
                  try simp only [Act.put, List.setIfInBounds_toArray, List.set_cons_zero, List.set_cons_succ]
                  refine wpAnyH_done (by kernel_rfl) ?_ _
                  go_wp2_with fail
                  go_meet
                  exact ⟨_, _, _, _, _, _, _, _, _, _, rfl, row_done (by first | (with_reducible exact bq) | (with_reducible exact Box.alloc bq _) | (with_reducible exact Box.new _ _ _) | (with_reducible exact Box.new2 _ _ _ _) | (with_reducible exact Box.alloc (Box.new _ _ _) _)) (by first | (with_reducible exact bz) | (with_reducible exact Box.alloc bz _) | (with_reducible exact Box.new _ _ _) | (with_reducible exact Box.new2 _ _ _ _) | (with_reducible exact Box.alloc (Box.new _ _ _) _)) (by first | (with_reducible exact hbl) | (with_reducible exact hbl.ext ((Ext.refl _).alloc _)) | (with_reducible exact hbl.ext (((Ext.refl _).alloc _).alloc _))) (by first | (with_reducible exact hEl) | (with_reducible exact Ext.alloc hEl _) | (with_reducible exact Ext.alloc (Ext.alloc hEl _) _)) (by first | (with_reducible exact Nat.le_refl _) | (with_reducible exact Nat.le_succ _) | (with_reducible exact Ext.size hEl) | (with_reducible exact Nat.le_succ_of_le (Ext.size hEl))) (by first | (with_reducible exact Nat.le_refl _) | (with_reducible exact Nat.le_succ _) | (with_reducible exact Ext.size hEl) | (with_reducible exact Nat.le_succ_of_le (Ext.size hEl)))⟩
                exact AllReadyH.nil
              exact AllReadyH.nil
            exact AllReadyH.nil
          exact AllReadyH.nil
        case rest =>
          obtain ⟨rb, bc, x1, x2, X1, X2, u1, u2, u3, u4, rfl, hRB, hZR, hQB, ⟨hbc, hrb⟩, hXc⟩ := hcut
          rename_i hK
          refine hK _ _ ?_
          clear hK kx ks hmk
          have q0 := hRB.c0
          have hsz1 := hX1.size
          have hbc1 : w1.heap.size ≤ bc := by omega
          have HNE : Hid (∀ i, i < k → 0 < p.len i → rA i ≠ some ⟨bc, 0, none⟩) := Lib.hid (fun i hi hl e => by
            obtain ⟨xs9, ox9, mx9⟩ := hT1.rows
            obtain ⟨b9, e9, hr9, -⟩ := (mx9.coef i hi).2.2 hl
            rw [e] at e9; injection e9 with e9; injection e9 with e9
            have := hr9.lt; omega)
          have HNO : Hid (vO1.ownBlock ≠ some bc) := Lib.hid (fun e => by
            obtain ⟨ys9, oq9, aq9⟩ := hT1.obj
            have := (oq9.lt e).2.1; omega)
          have hne : rb ≠ bc := by
            obtain ⟨cs9, hcs9, -⟩ := id hZR
            exact row_ne hRB hcs9 (by decide)
          go_upto_region 10 with fail
          go_cut [] (fun wx => Box wx rb 48 #[.slice (some ⟨bc, 0, none⟩) n n, .int .u8 1, .bool x1, .slice X1 u1 u2, .bool x2, .slice X2 u3 u4] ∧ RowR wx bc n (fun j => if j = k then ((1 : Int) : Rat) else 0) ∧ RatB wx (.agg #[.bool x1, .slice X1 u1 u2, .bool x2, .slice X2 u3 u4]) (y : Rat) 2 ∧ Two wx w1.heap.size qb vO1 vR (k + 1) k p.obj p rA rc ∧ Ext w1 wx)
          case first =>
            go_region_law (first
              | (go_simp; go_at_call 21; (with_reducible refine (RatOf_b 1 _ (by omega) (by omega)).mono ?_); rintro e wl ⟨vl, rfl, hbl, hxl⟩; (obtain ⟨pl, Al, nl, cl, pl', Al', nl', cl', rfl⟩ := hbl.1.shape); (have hlL : Ext wc wl := Ext.trans (by repeat (first | (with_reducible exact Ext.refl _) | (with_reducible apply Ext.drew) | (with_reducible apply Ext.drewN))) hxl); (have q0 := hlL.cell q0); (have hRl := hZR.ext hlL); (have f0 := hRl.frozen (k * 4)); (have f1 := hRl.frozen (k * 4 + 1)); (have f2 := hRl.frozen (k * 4 + 2)); (have f3 := hRl.frozen (k * 4 + 3)); (obtain ⟨_, _, _, _, _, _, _, _, b0, b1, b2, b3, _⟩ := hRl.at hlt)))
            all_goals (
              obtain ⟨s1, s2⟩ := hRl.set hlt hbl.1
              have hX9 := s2.ext (hXc.trans hlL) (fun b hb => hb ▸ hbc)
              go_wp2_with fail
              go_meet
              exact ⟨s2.box (hRB.ext hlL) hne, s1, s2.ratB (hQB.ext hlL), hT1.ext hX9, hX1.trans hX9⟩)
          case rest =>
            obtain ⟨hRB2, hRow, hQB2, hT2, hX2⟩ := hcut
            rename_i hK
            refine hK _ _ ?_
            clear hK hT1 hXc hRB hZR hQB hX1 q0 hbc hrb hsz1
            have c0 := hRB2.c0
            have c1 := hRB2.c1
            have c2 := hRB2.cell 2
            have c3 := hRB2.cell 3
            have c4 := hRB2.cell 4
            have c5 := hRB2.cell 5
            have cR := hT2.box.c1
            have zR' := hT2.box.frozen 1
            have hsz := hX2.size
            obtain ⟨xsR, oX, mX⟩ := hT2.rows
            obtain ⟨AR, cR', rfl⟩ := oX.shape
            have hza : Ext wc (wc.alloc (.cells #[.slice (some ⟨bc, 0, none⟩) n n, .int .u8 1, .bool x1, .slice X1 u1 u2, .bool x2, .slice X2 u3 u4] 48)) := (Ext.refl wc).alloc _
            go_upto_region 12 with (at_builtin; refine wpList_pushX rfl (.tmp 67) (.tmp 69) 29 rfl w1.heap.size 48 irR _ 6 96 Tryd.underlying29 g1 g2 g3 g4 rfl zRow _ k xsR rfl (oX.ext hza) wc.heap.size [.slice (some ⟨bc, 0, none⟩) n n, .int .u8 1, .bool x1, .slice X1 u1 u2, .bool x2, .slice X2 u3 u4] 1 rfl rfl (new6 wc 48 _ _ _ _ _ _) one6 nou6 (by omega) (by decide) (by simp; omega) ?_; intro v6 y6 o6 r6 s6; have tb6 := boxR (hT2.box.ext hza) (oX.ext hza) r6 (by decide); have c6 := tb6.c1; have z6 := tb6.frozen 1; obtain ⟨A6, d6, rfl⟩ := o6.shape)
            obtain ⟨hl0, hr0, hri0, hc0⟩ := HP.out.2.2.2 k hlt
            have o6' : OwnX y6 w1.heap.size 48 6 (.slice A6 (k + 1) d6) (k + 1) (xsR ++ [.slice (some ⟨bc, 0, none⟩) (p.len k) n, .int .u8 (p.rel k : Int), .bool x1, .slice X1 u1 u2, .bool x2, .slice X2 u3 u4]) := by rw [hl0, hr0]; exact o6
            obtain ⟨hT3, hF3⟩ := (hT2.ext hza).pushR (oX.ext hza) (mX.ext hza) o6' r6 (by rw [hr0]; omega) (by rw [hri0, HCB.out]; exact (hQB2.ext hza).1)
              ⟨by omega, by omega, fun _ => ⟨bc, rfl, by rw [hl0]; exact (hRow.ext hza).congr (fun j _ => by rw [hc0, unitL_get hlt]; split <;> rfl), hbc1⟩⟩ (fun i hi hl _ => HNE.out i hi hl) (fun _ b e => by injection e with e; injection e with e; subst e; exact HNO.out)
            have hX3 := hF3.ext (hX2.trans hza) (fun g hg => by
              rcases hg with hg | rfl
              · exact (oX.lt hg).1
              · exact hqs)
            clear hT2 hRow hQB2 hRB2 c0 c1 c2 c3 c4 c5 cR zR' hza mX oX o6 o6' r6 s6 tb6 hl0 hr0 hri0 hc0 hF3 hX2 hsz c6 z6
            generalize (y6.setCell ⟨qb, 1, none⟩ (.slice A6 (k + 1) d6)) = W3 at *
            have hc5 := (hE.trans hX3).cell HC4.out
            have HSU : Hid (sumB xs ys (k + 1) = if 0 < x then sumB xs ys k + x * y else sumB xs ys k) := Lib.hid (by conv => lhs; unfold sumB; rw [HXD.out, HYD.out])
            have HPR : Hid (proB xs (k + 1) = if 0 < x then (k : Int) else proB xs k) := Lib.hid (by conv => lhs; unfold proB; rw [HXD.out])
            obtain ⟨hs1, hs2⟩ := sumB_le HX8.out HY8.out k
            by_cases hx0 : 0 < x
            · obtain ⟨m1, m2⟩ := mul_8 hx0 gx2 gy1 gy2
              obtain ⟨z, hz⟩ : ∃ z, z = x * y := ⟨_, rfl⟩
              have r3 : IntKind.i64.wrap (x * y) = z := by rw [hz]; exact IntWalk.i64_in _ (by omega)
              have r4 : IntKind.i64.wrap (sumB xs ys k + z) = sumB xs ys k + z := IntWalk.i64_in _ (by omega)
              have HS2 : Hid (sumB xs ys k + z = sumB xs ys (k + 1)) := Lib.hid (by rw [HSU.out, if_pos hx0, hz])
              have HP2 : Hid ((k : Int) = proB xs (k + 1)) := Lib.hid (by rw [HPR.out, if_pos hx0])
              clear hz
              go_wp2_with fail
              go_roundw
              case rel => exact ⟨k + 1, by omega, by go_num, by rw [← HS2.out], by rw [← HP2.out], _, _, _, _, hT3, hX3⟩
              case measure => simp [intOf]; omega
            · have HS2 : Hid (sumB xs ys k = sumB xs ys (k + 1)) := Lib.hid (by rw [HSU.out, if_neg hx0])
              have HP2 : Hid (proB xs k = proB xs (k + 1)) := Lib.hid (by rw [HPR.out, if_neg hx0])
              go_wp2_with fail
              go_roundw
              case rel => exact ⟨k + 1, by omega, by go_num, by rw [← HS2.out], by rw [← HP2.out], _, _, _, _, hT3, hX3⟩
              case measure => simp [intOf]; omega
    · obtain rfl : k = n := by omega
      obtain ⟨hpn, hpm, -, -⟩ := HP.out
      have hT' : Two wr w1.heap.size qb vO vR p.n p.m p.obj p rA rc := by rw [hpn, hpm]; exact hT
      have hP := hT'.prob
      have hnx := HNX.out
      have HOPT := Lib.hid (boxPL_opt (xs := xs) (ys := ys) (by omega) (by omega) HY8.out)
      have hVA : (boxPL xs ys).valid = true := box_valid (ys := ys) (by omega) (by omega) boxPL_rows (by show ((List.range xs.length).map _).length ≤ 8; simp; omega)
      have HBD : Hid (Bnd p 24000000) := Lib.hid (by rw [HPP.out]; exact box_bnd (by omega) (by omega) HX8.out HY8.out boxPL_rows (by show ((List.range xs.length).map _).length ≤ 8; simp; omega))
      have HVA := Lib.hid hVA
      clear hT' hVA
      obtain ⟨osq, oq, aq⟩ := id hT.obj
      obtain ⟨AO, cO, rfl⟩ := oq.shape
      obtain ⟨xsR, oX, mX⟩ := id hT.rows
      obtain ⟨gR, dR, rfl, -, hgR, hndR, hdR, -, hfR, hcR⟩ := oX.cells (by omega)
      have HCR := Lib.hid hcR
      have HFR := Lib.hid hfR
      have c0 := hT.box.c0
      have c1 := hT.box.c1
      obtain ⟨hs1, hs2⟩ := sumB_le HX8.out HY8.out k
      have HPI := Lib.hid (proB_in xs k)
      obtain ⟨S, hS⟩ : ∃ z, z = sumB xs ys k := ⟨_, rfl⟩
      obtain ⟨P, hPd⟩ : ∃ z, z = proB xs k := ⟨_, rfl⟩
      rw [← hS] at hs1 hs2
      rw [← hPd] at HPI
      simp only [← hS, ← hPd]
      have HSD : Hid (S = sumB xs ys xs.length) := Lib.hid (by rw [hS, hnx])
      clear osq oq aq hnx hpn hpm hcR hfR hS hPd
      go_wp2_with fail
      refine (Solve_l _ _ 24000000 _ hP (fun _ => HBD.out)).mono ?_
      rintro e w6 ⟨q, Aq, nq, cq, q', Aq', nq', cq', Ax, nx, cx, Ay, ny, cy, kk, z, xs', ys', rfl, hz, hX', hY', hbx, hby, hres, hx6⟩
      have hkz : kk = 0 ∧ z = ((S : Int) : Rat) := by
        rw [HPP.out] at hres
        rcases hres.pl with ⟨-, h1, h2⟩ | ⟨h, _⟩
        · exact ⟨h1.trans HOPT.out.1, h2.trans (by rw [HOPT.out.2, HSD.out])⟩
        · rw [HVA.out] at h; cases h
      obtain ⟨rfl, rfl⟩ := hkz
      have hT6 := hT.ext hx6
      have hX6 := hX.trans hx6
      clear hX' hY' hbx hby hres hx6 hP c0 c1 hT hX oX mX
      go_upto_region 16 with fail
      have SB := Box.new w6 39 #[.bool q, .slice Aq nq cq, .bool q', .slice Aq' nq' cq', .slice Ax nx cx, .slice Ay ny cy]
      have hx7 : Ext w6 (w6.alloc (.cells #[.bool q, .slice Aq nq cq, .bool q', .slice Aq' nq' cq', .slice Ax nx cx, .slice Ay ny cy] 39)) := (Ext.refl w6).alloc _
      generalize (w6.alloc (.cells #[.bool q, .slice Aq nq cq, .bool q', .slice Aq' nq' cq', .slice Ax nx cx, .slice Ay ny cy] 39)) = U at *
      obtain ⟨sb, hsb⟩ : ∃ x, x = w6.heap.size := ⟨_, rfl⟩
      rw [← hsb] at SB ⊢
      have hT7 := hT6.ext hx7
      have hX7 := hX6.trans hx7
      have hz7 := hz.ext hx7
      clear hsb hx7 hT6 hX6 hz
      have k0 : ∀ w', Later U w' → w'.cell? ⟨sb, 0, none⟩ = some _ := fun w' h => (SB.ext h).c0
      have k1 : ∀ w', Later U w' → w'.cell? ⟨sb, 1, none⟩ = some _ := fun w' h => (SB.ext h).c1
      have k2 : ∀ w', Later U w' → w'.cell? ⟨sb, 2, none⟩ = some _ := fun w' h => (SB.ext h).c2
      have k3 : ∀ w', Later U w' → w'.cell? ⟨sb, 3, none⟩ = some _ := fun w' h => (SB.ext h).c3
      have ks := Later.refl U
      go_cut [100] (fun v wx => v = .bool false ∧ Ext U wx)
      case first =>
        go_region_held3 (fun w' => Later U w') ((repeat (first | assumption | apply Later.drew | apply Later.drewN | apply Later.alloc | (refine Later.step ?_ (by assumption))))) (first
          | (go_at_call 21; (with_reducible refine (RatOf_b S _ (by omega) (by omega)).mono ?_); rintro e w8 ⟨v8, rfl, hb8, hx8⟩; (obtain ⟨p8, A8, n8, c8, p8', A8', n8', c8', rfl⟩ := hb8.1.shape); (have hS8 := Later.step (by assumption) hx8))
          | (go_at_call 28; (with_reducible refine (RatCmp_b _ _ _ _ _ _ _ (RatB.ext hz7 (by repeat (first | (with_reducible exact Ext.refl _) | (with_reducible apply Ext.drew) | (with_reducible apply Ext.drewN) | (with_reducible refine Ext.trans ?_ (by assumption))))) (RatB.ext hb8 (by repeat (first | (with_reducible exact Ext.refl _) | (with_reducible apply Ext.drew) | (with_reducible apply Ext.drewN) | (with_reducible refine Ext.trans ?_ (by assumption))))) (by omega)).mono ?_); rintro e w9 ⟨rfl, hx9⟩; rw [cmpQ_self])
          )
        all_goals (go_wp2_with fail; go_meet)
        all_goals exact ⟨rfl, by assumption⟩
      case rest =>
        obtain ⟨rfl, hx8⟩ := hcut
        rename_i hK
        refine hK _ _ ?_
        clear hK k0 k1 k2 k3 ks SB hz7
        have hT8 := hT7.ext hx8
        have hX8 := hX7.trans hx8
        clear hT7 hX7 hx8
        rcases HPI.out with hneg | ⟨j, rfl, hjn, hjp⟩
        · subst hneg
          go_wp2_with fail
          go_ret
          exact ⟨rfl, hE.trans hX8⟩
        · have c1 := hT8.box.c1
          have f1 := hT8.box.frozen 1
          have HJP := Lib.hid hjp
          clear hjp HPI
          obtain ⟨irR, g1, g2, g3, g4⟩ := info_parts infoRow
          obtain ⟨xsR, oX, mX⟩ := id hT8.rows
          obtain ⟨g9, d9, e9, -, -, -, -, ⟨curR, hcur, -⟩, hfR, hcR⟩ := oX.cells (by omega)
          injection e9 with e9 _ e9'
          injection e9 with e9
          injection e9 with e9
          subst e9 e9'
          have hxl : xsR.length = k * 6 := oX.1
          have hqg : gR ≠ qb := row_ne hcur hT8.box (by decide)
          have hone := mX.one hxl
          obtain ⟨osq, oq, aq⟩ := id hT8.obj
          have hobj : RatsV wc AO k cO p.obj := (OwnQ.rats ⟨osq, oq, aq⟩).rats
          have hCT := boxCut_toP (ys := ys) HNX.out hjn
          rw [← HPP.out] at hCT
          obtain ⟨ct1, ct2, ct3, ct4⟩ := hCT
          have HCT4 := Lib.hid ct4
          have HC := Lib.hid hcR
          have HONE := Lib.hid hone
          have HCUR := Lib.hid hcur
          clear oq aq osq hcR hone oX hcur ct4 hfR
          go_upto_region 20 with fail
          have j1 : (0 : Int) ≤ (j : Int) := by omega
          have j2 : (j : Int) ≤ (dR : Int) := by omega
          have j3 : (j : Int) + 1 ≤ (k : Int) := by omega
          have j4 : (0 : Int) ≤ (j : Int) + 1 := by omega
          have hw1 : IntKind.i64.wrap ((j : Int) + 1) = (j : Int) + 1 := IntWalk.i64_in _ (by omega)
          go_cut [] (fun wx => ∃ A1 c1, Box wx qb 31 #[.slice AO k cO, .slice A1 (k - 1) c1] ∧ ProbV wx (.agg #[.slice AO k cO, .slice A1 (k - 1) c1]) (boxCut xs ys j).toP ∧ Ext w1 wx)
          case first =>
            by_cases hlast : j + 1 = k
            · obtain rfl : k = j + 1 := by omega
              clear hlast
              have hF : Fr (fun b => b = qb) wc (wc.drew.setCell ⟨qb, 1, none⟩ (.slice (some ⟨gR, 0, none⟩) j j)) := Fr.set (P := fun b => b = qb) ((Fr.refl _ wc).drew) (p := ⟨qb, 1, none⟩) rfl (fun z => by rw [show wc.drew.cell? ⟨qb, 1, none⟩ = _ from c1]; intro e; cases e) _
              have hpv := cut_prob (A1 := some ⟨gR, 0, none⟩) (hobj.fr hF (box_ne hT8.box (by decide))) (mX.fr hF (box_ne hT8.box (by decide))) hjn rfl (c1 := j) (by omega) (by omega)
                (fun i r hi hr u hu => hF.cell hqg (HC.out _ _ (by rw [← hu]; unfold past; rw [if_pos (by omega)]))) ct1 ct2 ct3 HCT4.out
              have hbx := (hT8.box.drew).set 1 (.slice (some ⟨gR, 0, none⟩) j j)
              have hxx := hF.ext hX8 (fun b hb => by rw [hb]; exact hqs)
              by_cases hdk : dR = j + 1
              · subst hdk
                have j5 : (j : Int) ≤ (j : Int) + 1 := by omega
                go_region_law (first
                  | (refine step_nothing rfl (.tmp 107) (.tmp 112) 29 rfl 48 irR Tryd.underlying29 g1 (some ⟨gR, 0, none⟩) j j (Nat.le_refl _) rfl (some ⟨gR, 0, none⟩) 0 rfl ?_))
                all_goals (go_wp2_with fail; go_meet; exact ⟨_, _, hbx, hpv, hxx⟩)
              · go_region_law (first
                  | (refine step_nothing rfl (.tmp 107) (.tmp 112) 29 rfl 48 irR Tryd.underlying29 g1 (some ⟨gR, 0, none⟩) j j (Nat.le_refl _) rfl (some ⟨gR, (j + 1) * 6, none⟩) (dR - (j + 1)) rfl ?_))
                all_goals (go_wp2_with fail; go_meet; exact ⟨_, _, hbx, hpv, hxx⟩)
            · have hdr : ¬ dR = j + 1 := by omega
              have holds : ∀ b, some (⟨gR, 0, none⟩ : Addr) = some b → ∀ t u, (xsR.take (j * 6))[t]? = some u → wc.drew.cell? (b.add t) = some u := fun b e t u hu => by
                injection e with e
                subst e
                rw [List.getElem?_take] at hu
                split at hu
                · rw [Lib.add_plain, Nat.zero_add]; exact HC.out t u hu
                · cases hu
              have hnews : ∀ t u, (xsR.drop ((j + 1) * 6))[t]? = some u → wc.drew.cell? ((⟨gR, (j + 1) * 6, none⟩ : Addr).add t) = some u := fun t u hu => by
                rw [List.getElem?_drop] at hu
                rw [Lib.add_plain]; exact HC.out _ u hu
              go_region_law (first
                | (refine step_append_grows rfl (.tmp 107) (.tmp 112) 29 rfl 48 irR _ 6 96 Tryd.underlying29 g1 g2 g3 g4 rfl (by decide) (some ⟨gR, 0, none⟩) j j (xsR.take (j * 6)) rfl (fun h => by cases h) (by rw [List.length_take, hxl]; omega) holds ⟨gR, (j + 1) * 6, none⟩ (k - (j + 1)) (dR - (j + 1)) (xsR.drop ((j + 1) * 6)) rfl (by rw [List.length_drop, hxl]; omega) hnews (fun u hu => HONE.out u (List.mem_of_mem_drop hu)) (by omega) (by unfold maxLen; omega) (by omega) ?_; intro v' w' hown hgrow; (obtain ⟨g', cap', rfl, hg', hcap, hcap2⟩ := own_form hown (by omega)); (have hXa : Ext wc w' := Below.grown ((Ext.refl wc).drew) hgrow (Nat.le_refl _) (fun k hk => by cases hk)); (have hb' := hT8.box.ext hXa); (have c1 := hb'.c1); (have f1 := hb'.frozen 1)))
              all_goals (
                have hjk : j + (k - (j + 1)) = k - 1 := by omega
                rw [hjk] at hown hcap ⊢
                have hgq : g' ≠ qb := by
                  have := hT8.box.lt
                  have := (hown.lt g' rfl).1
                  have : wc.drew.heap.size = wc.heap.size := rfl
                  omega
                have hF2 : Fr (fun b => b = qb) w' (w'.setCell ⟨qb, 1, none⟩ (.slice (some ⟨g', 0, none⟩) (k - 1) cap')) := Fr.set (P := fun b => b = qb) (Fr.refl _ w') (p := ⟨qb, 1, none⟩) rfl (fun z => by rw [c1]; intro e; cases e) _
                have hF := (Fr.of (P := fun b => b = qb) hXa).trans hF2
                have hpv := cut_prob (A1 := some ⟨g', 0, none⟩) (hobj.fr hF (box_ne hT8.box (by decide))) (mX.fr hF (box_ne hT8.box (by decide))) hjn rfl (c1 := cap') hcap hcap2
                  (fun i r hi hr u hu => hF2.cell hgq (by rw [hown.cellAt (i * 6 + r) (by omega), cut_get hxl hi hr hjn]; exact hu)) ct1 ct2 ct3 HCT4.out
                have hbx := hb'.set 1 (.slice (some ⟨g', 0, none⟩) (k - 1) cap')
                have hxx := hF.ext hX8 (fun b hb => by rw [hb]; exact hqs)
                go_wp2_with fail
                go_meet
                exact ⟨_, _, hbx, hpv, hxx⟩)
          case rest =>
            obtain ⟨A1, c1', hbx, hpv, hx9⟩ := hcut
            rename_i hK
            refine hK _ _ ?_
            clear hK hT8 c1 f1 mX hobj hqg
            have HUN := Lib.hid (boxCut_unb (xs := xs) (ys := ys) (k := j) (by have := HNX.out; omega) (by have := HNX.out; omega) HY8.out (by have := HNX.out; omega) HJP.out)
            have HBC : Hid (Bnd (boxCut xs ys j).toP 24000000) := Lib.hid (box_bnd (by have := HNX.out; omega) (by have := HNX.out; omega) HX8.out HY8.out (fun r hr => by obtain ⟨l, -, -, e⟩ := boxCut_rows r hr; exact ⟨l, e⟩) (by
              have := HNX.out
              show (((List.range xs.length).map _).take j ++ ((List.range xs.length).map _).drop (j + 1)).length ≤ 8
              simp; omega))
            have c0 := hbx.c0
            have c1 := hbx.c1
            go_wp2_with fail
            refine (Solve_l _ _ 24000000 _ hpv (fun _ => HBC.out)).mono ?_
            rintro e w6 ⟨q, Aq, nq, cq, q', Aq', nq', cq', Ax, nx, cx, Ay, ny, cy, kk, z, xs', ys', rfl, hz, hX', hY', hbx', hby, hres, hx6⟩
            have hkz : kk = 18 := by
              rcases hres.pl with ⟨-, h1, h2⟩ | ⟨h, _⟩
              · exact h1.trans HUN.out.2
              · rw [HUN.out.1] at h; cases h
            subst hkz
            have hxf := hE.trans (hx9.trans hx6)
            clear hX' hY' hbx' hby hres c0 c1 hz
            go_wp2_with fail
            go_ret
            exact ⟨rfl, hxf.alloc _⟩
end Go.Proofs.YtgffcblldebelaaDoor.Lp

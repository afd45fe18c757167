/- Walk: the law's own combine. -/
import Derived.Test.YtljncdcjkdgkeaaGreatDoorYCV7
set_option linter.unusedVariables false
set_option linter.unusedSimpArgs false
namespace Go.Proofs.YtljncdcjkdgkeaaGreatDoor.Lp
open Go.RowKit Go.Proofs.YtljncdcjkdgkeaaGreatDoor.Big Go.Proofs.YtljncdcjkdgkeaaGreatDoor.Rt
def CombL (w : World) (p : Prob) (y : Nat → Rat) (T : Nat) (e : Ending) (w' : World) : Prop :=
 ∃ Al cl q A n c q' A' n' c', e = .returned (.tuple #[.slice Al p.n cl, .agg #[.bool q, .slice A n c, .bool q', .slice A' n' c'], .bool (sgB p y p.m)]) ∧ qjq w' w.heap.size Al p.n cl (p.left y) ∧ RatB w' (.agg #[.bool q, .slice A n c, .bool q', .slice A' n' c']) (p.rhs y) T ∧ (∀ j, j < p.n → QB T (p.left y j)) ∧ Ext w w'
set_option maxHeartbeats 16000000 in
set_option maxRecDepth 100000 in
theorem qi9 (v : Value) (p : Prob) (Ay : Option Addr) (ny cy : Nat) (y : Nat → Rat) (Kc Kr Ky T : Nat) (w : World) (hv : qga w v p) (hval : qba p = true) (hy : q94 w Ay ny cy y) (hnm : ny = p.m)
 (hc : ∀ i, i < p.m → ∀ j, j < p.n → QB Kc (p.coef i j)) (hr : ∀ i, i < p.m → QB Kr (p.right i)) (hq : ∀ j, j < ny → QB Ky (y j)) (hT : 1 + p.m * (Kc + Kr + Ky + 1) ≤ T) (hT2 : T ≤ 137438953472) (hT3 : Kc + Kr + Ky ≤ 137438953472) :
 Calls Tryz.prog 58 #[v, .slice Ay ny cy] w (CombL w p y T) := by
 obtain ⟨Ao, co, Ar, cr, rfl, hob, hmc, hcr, hrows⟩ := hv
 have HP : Hid (∀ Al cl q A n c q' A' n' c' b w', qjq w' w.heap.size Al p.n cl (p.left y) → RatB w' (.agg #[.bool q, .slice A n c, .bool q', .slice A' n' c']) (p.rhs y) T → (∀ j, j < p.n → QB T (p.left y j)) → Ext w w' → b = sgB p y p.m → CombL w p y T (.returned (.tuple #[.slice Al p.n cl, .agg #[.bool q, .slice A n c, .bool q', .slice A' n' c'], .bool b])) w') := Lib.hid (fun Al cl q A n c q' A' n' c' b w' h1 h2 h3 h4 h5 => by subst h5; exact ⟨Al, cl, q, A, n, c, q', A', n', c', rfl, h1, h2, h3, h4⟩)
 have hp : 1 ≤ p.n ∧ p.n ≤ 1000 ∧ p.m ≤ 1000 ∧ ∀ i, i < p.m → p.len i = p.n ∧ 1 ≤ p.rel i ∧ p.rel i ≤ 3 := validB_iff.1 hval
 obtain ⟨n, hn⟩ : ∃ n, n = p.n := ⟨_, rfl⟩
 rw [← hnm] at hT hc hr hmc hrows HP hp
 have HVR : Hid (∀ i, i < ny → p.len i = n ∧ 1 ≤ p.rel i ∧ p.rel i ≤ 3) := Lib.hid (by rw [hn]; exact hp.2.2.2)
 have hnb : n ≤ 1000 := by rw [hn]; exact hp.2.1
 have hmb : ny ≤ 1000 := hp.2.2.1
 obtain ⟨LL, hLL⟩ : ∃ f : Nat → Nat → Rat, f = fun i j => sm i (fun k => y k * p.coef k j) := ⟨_, rfl⟩
 obtain ⟨RR, hRR⟩ : ∃ f : Nat → Rat, f = fun i => sm i (fun k => y k * p.right k) := ⟨_, rfl⟩
 have HL0 : Hid (∀ j, LL 0 j = 0) := Lib.hid (fun j => by rw [hLL]; rfl)
 have HLS : Hid (∀ i j, LL (i + 1) j = LL i j + y i * p.coef i j) := Lib.hid (fun i j => by rw [hLL]; rfl)
 have HR0 : Hid (RR 0 = 0) := Lib.hid (by rw [hRR]; rfl)
 have HRS : Hid (∀ i, RR (i + 1) = RR i + y i * p.right i) := Lib.hid (fun i => by rw [hRR]; rfl)
 have HLF : Hid (∀ j, p.left y j = LL ny j) := Lib.hid (fun j => by rw [hLL, hnm]; rfl)
 have HRH : Hid (p.rhs y = RR ny) := Lib.hid (by rw [hRR, hnm]; rfl)
 rw [← hn] at hc hob HP
 rw [← hn, ← hnm]
 have HNL : Hid (∀ i, i ≤ ny → ∀ j, j < n → QB T (LL i j)) := Lib.hid (fun i hi j hj => by rw [hLL]; exact qqj (Nat.le_trans (by have := Nat.mul_le_mul hi (show Ky + Kc + 1 ≤ Kc + Kr + Ky + 1 by omega); omega) hT) (qb2.sum i (c := Ky + Kc) (fun k hk => qvy (hq k (by omega)) (hc k (by omega) j hj))))
 have HNR : Hid (∀ i, i ≤ ny → QB T (RR i)) := Lib.hid (fun i hi => by rw [hRR]; exact qqj (Nat.le_trans (by have := Nat.mul_le_mul hi (show Ky + Kr + 1 ≤ Kc + Kr + Ky + 1 by omega); omega) hT) (qb2.sum i (c := Ky + Kr) (fun k hk => qvy (hq k (by omega)) (hr k (by omega)))))
 have HT1 : Hid (1 ≤ T) := Lib.hid (by omega)
 have HC := Lib.hid hc
 have HR := Lib.hid hr
 have HY := Lib.hid hq
 have HROW := Lib.hid hrows
 have hyc := hy.1
 have hyc2 := hy.2.1
 clear hn hnm hc hr hq hT hrows hp hval hob hLL hRR
 obtain ⟨PB, SB, hE0⟩ := qwt w 41 58 #[.slice Ao n co, .slice Ar ny cr] #[.bool false, .slice none 0 0, .bool false, .slice none 0 0]
 obtain ⟨i0, ii, iz0, iz1, iz2⟩ := info_parts qde
 go_enter Tryz.func58, Tryz.ntmps58
 go_upto_region 1 with fail
 generalize ((w.alloc (.cells #[.slice Ao n co, .slice Ar ny cr] 41)).alloc (.cells #[.bool false, .slice none 0 0, .bool false, .slice none 0 0] 58)) = V at *
 obtain ⟨b5, hb5⟩ : ∃ x, x = w.heap.size + 1 := ⟨_, rfl⟩
 obtain ⟨pb, hpb⟩ : ∃ x, x = w.heap.size := ⟨_, rfl⟩
 rw [← hb5] at SB ⊢
 rw [← hpb] at PB ⊢
 have hw5 : w.heap.size ≤ b5 := by omega
 have hwp : w.heap.size ≤ pb := by omega
 have hp5 : pb ≠ b5 := by omega
 have h5V : b5 < V.heap.size := SB.lt
 have hpV : pb < V.heap.size := PB.lt
 have hwV : w.heap.size ≤ V.heap.size := hE0.size
 clear hb5 hpb
 go_wp2_with fail
 go_loopw [4, 7] (fun v i wr => ∃ k : Nat, k ≤ n ∧ i = .int .i64 k ∧ OwnQ wr V.heap.size v k (p.left y) ∧ Ext V wr) (fun _ i _ => n - (intOf i).toNat)
 case atStart => exact ⟨0, by omega, rfl, OwnQ.nil _ _ _, Ext.refl V⟩
 case round =>
  obtain ⟨k, hk, rfl, hO, hx⟩ := hrel
  have PBr := PB.ext hx
  have SBr := SB.ext hx
  have p0 := PBr.c0
  by_cases hlt : k < n
  ·obtain ⟨A1, c1, rfl⟩ := hO.shape
   go_wp2_with fail
   refine (qfw 0 _ (by omega) (by omega)).mono ?_
   rintro e w1 ⟨v1, rfl, hb1, hx1⟩
   obtain ⟨p1, B1, m1, d1, p1', B1', m1', d1', rfl⟩ := hb1.1.shape
   go_upto_region 6 with fail
   have NB := Box.new w1 58 #[.bool p1, .slice B1 m1 d1, .bool p1', .slice B1' m1' d1']
   have hy1 : Ext w1 (w1.alloc (.cells #[.bool p1, .slice B1 m1 d1, .bool p1', .slice B1' m1' d1'] 58)) := (Ext.refl w1).alloc _
   generalize (w1.alloc (.cells #[.bool p1, .slice B1 m1 d1, .bool p1', .slice B1' m1' d1'] 58)) = U at *
   obtain ⟨b8, hb8⟩ : ∃ x, x = w1.heap.size := ⟨_, rfl⟩
   have hrb : wr.heap.size ≤ b8 := by rw [hb8]; exact hx1.size
   have hVb : V.heap.size ≤ b8 := Nat.le_trans hx.size hrb
   rw [← hb8] at NB ⊢
   clear hb8 p0
   have hOU := (hO.ext hx1).ext hy1
   have HOB : Hid (∀ g, (Value.slice A1 k c1).ownBlock = some g → ¬ g = b8) := Lib.hid (fun g hg => by
    obtain ⟨xs, o, -⟩ := hO
    have := (o.lt hg).2.1
    omega)
   have hUX := (hx.trans hx1).trans hy1
   have hb8U := (hb1.ext hy1)
   have PBU := (PBr.ext hx1).ext hy1
   have p1c := PBU.c1
   go_wp2_with fail
   clear p1c
   go_loopw [9] (fun i wr => ∃ j : Nat, j ≤ ny ∧ i = .int .i64 j ∧ RBox wr b8 (LL j k) T ∧ Fr (fun g => g = b8) U wr) (fun i _ => ny - (intOf i).toNat)
   case atStart => exact ⟨0, by omega, rfl, ⟨_, _, _, _, _, _, _, _, NB, by rw [HL0.out]; exact hb8U.1, by rw [HL0.out]; exact qkw HT1.out⟩, Fr.refl _ _⟩
   case round =>
    rename_i wr0
    obtain ⟨j, hj, rfl, hB8, hF⟩ := hrel
    have p1c := (hF.box PBU (show ¬ pb = b8 by omega)).c1
    by_cases hlt2 : j < ny
    ·obtain ⟨br, rfl, hrow⟩ := HROW.out (by omega)
     obtain ⟨ba, rfl, hRy⟩ := hy.2.2 (by omega)
     obtain ⟨Ac, cc, bx, A, d, e, by', A', d', e', g0, -, -, -, -, -, r1, -, -⟩ := hrow j hlt2
     rw [(HVR.out j hlt2).1] at r1 g0
     have hcc := r1.1
     obtain ⟨cb, rfl, hRc⟩ := r1.2.2 (by omega)
     have nb1 : ¬ ba = b8 := by have := hRy.lt; omega
     have nb2 : ¬ br = b8 := by have : br < w.heap.size := World.block_lt_of_cell? w _ g0; omega
     have nb3 : ¬ cb = b8 := by have := hRc.lt; omega
     have g0 := hF.cell nb2 (hUX.cell (hE0.cell g0))
     obtain ⟨p3, A3, m3, c3, p3', A3', m3', c3', e0, e1, e2, e3, hry⟩ := (((hRy.ext hE0).ext hUX).fr hF nb1).at (j := j) hlt2
     obtain ⟨p4, A4, m4, c4, p4', A4', m4', c4', u0, u1, u2, u3, hrc⟩ := (((hRc.ext hE0).ext hUX).fr hF nb3).at (j := k) hlt
     obtain ⟨y0, y1, YA, YA', yd, ye, yd', ye', BY, hQB⟩ := hB8
     have hYB : RatB wr _ (y j) Ky := ⟨hry, HY.out j hlt2⟩
     have hCB : RatB wr _ (p.coef j k) Kc := ⟨hrc, HC.out j hlt2 k hlt⟩
     have a0 := BY.c0
     have a1 := BY.c1
     have a2 := BY.c2
     have a3 := BY.c3
     have i1 : (0 : Int) ≤ (j : Int) := by omega
     have i2 : (j : Int) < (ny : Int) := by omega
     have i3 : (0 : Int) ≤ (k : Int) := by omega
     have i4 : (k : Int) < (n : Int) := by omega
     go_upto_region 9 with fail
     clear p1c
     have kp : ∀ w', Fr (fun k => k = b8) wr w' → w'.cell? ⟨pb, 1, none⟩ = some (.slice (some ⟨br, 0, none⟩) ny cr) := fun w' h => (h.box (hF.box PBU (show ¬ pb = b8 by omega)) (show ¬ pb = b8 by omega)).c1
     have kr : ∀ w', Fr (fun k => k = b8) wr w' → w'.cell? ⟨br, j * 6, none⟩ = some _ := fun w' h => h.cell nb2 g0
     have ky0 : ∀ w', Fr (fun k => k = b8) wr w' → w'.cell? ⟨ba, j * 4, none⟩ = some _ := fun w' h => h.cell nb1 e0
     have ky1 : ∀ w', Fr (fun k => k = b8) wr w' → w'.cell? ⟨ba, j * 4 + 1, none⟩ = some _ := fun w' h => h.cell nb1 e1
     have ky2 : ∀ w', Fr (fun k => k = b8) wr w' → w'.cell? ⟨ba, j * 4 + 2, none⟩ = some _ := fun w' h => h.cell nb1 e2
     have ky3 : ∀ w', Fr (fun k => k = b8) wr w' → w'.cell? ⟨ba, j * 4 + 3, none⟩ = some _ := fun w' h => h.cell nb1 e3
     have kc0 : ∀ w', Fr (fun k => k = b8) wr w' → w'.cell? ⟨cb, k * 4, none⟩ = some _ := fun w' h => h.cell nb3 u0
     have kc1 : ∀ w', Fr (fun k => k = b8) wr w' → w'.cell? ⟨cb, k * 4 + 1, none⟩ = some _ := fun w' h => h.cell nb3 u1
     have kc2 : ∀ w', Fr (fun k => k = b8) wr w' → w'.cell? ⟨cb, k * 4 + 2, none⟩ = some _ := fun w' h => h.cell nb3 u2
     have kc3 : ∀ w', Fr (fun k => k = b8) wr w' → w'.cell? ⟨cb, k * 4 + 3, none⟩ = some _ := fun w' h => h.cell nb3 u3
     have ks := Fr.refl (fun k => k = b8) wr
     clear e0 e1 e2 e3 u0 u1 u2 u3 hry hrc g0
     refine wp_region_held_drew (S := fun w' => Fr (fun k => k = b8) wr w') (by kernel_rfl) ?_ (fun hHeld => ?_)
     ·(try dsimp only); exact kFx
     repeat' (first
      | simp only [Act.put, sqa, sqb, sqc]
      | (
       first
        | refine tky (i := 1) (oi := { dst := some 27, op := Op.move (Operand.tmp 1), type := 38, pos := "law.go:132", after := #[], guard := none }) (v := ?_) rfl ?_ (by assumption) ?_
        | refine tky (i := 2) (oi := { dst := some 28, op := Op.move (Operand.tmp 9), type := 3, pos := "law.go:132", after := #[], guard := none }) (v := ?_) rfl ?_ (by assumption) ?_
        | refine tky (i := 3) (oi := { dst := some 29, op := Op.indexAddr 38 (Operand.tmp 27) (Operand.tmp 28), type := 0, pos := "law.go:132", after := #[{ on := 1, ground := Ground.data }, { on := 2, ground := Ground.data }], guard := none }) (v := ?_) rfl ?_ (by assumption) ?_
        | refine tky (i := 4) (oi := { dst := some 30, op := Op.load 58 (Operand.tmp 29), type := 58, pos := "law.go:132", after := #[{ on := 3, ground := Ground.data }], guard := none }) (v := ?_) rfl ?_ (by assumption) ?_
        | refine tky (i := 5) (oi := { dst := some 31, op := Op.fieldAddr 41 (Operand.tmp 2) 1, type := 0, pos := "law.go:132", after := #[], guard := none }) (v := ?_) rfl ?_ (by assumption) ?_
        | refine tky (i := 6) (oi := { dst := some 32, op := Op.load 39 (Operand.tmp 31), type := 39, pos := "law.go:132", after := #[{ on := 5, ground := Ground.data }], guard := none }) (v := ?_) rfl ?_ (by assumption) ?_
        | refine tky (i := 7) (oi := { dst := some 33, op := Op.move (Operand.tmp 9), type := 3, pos := "law.go:132", after := #[], guard := none }) (v := ?_) rfl ?_ (by assumption) ?_
        | refine tky (i := 8) (oi := { dst := some 34, op := Op.indexAddr 39 (Operand.tmp 32) (Operand.tmp 33), type := 0, pos := "law.go:132", after := #[{ on := 6, ground := Ground.data }, { on := 7, ground := Ground.data }], guard := none }) (v := ?_) rfl ?_ (by assumption) ?_
        | refine tky (i := 9) (oi := { dst := some 35, op := Op.fieldAddr 75 (Operand.tmp 34) 0, type := 0, pos := "law.go:132", after := #[{ on := 8, ground := Ground.data }], guard := none }) (v := ?_) rfl ?_ (by assumption) ?_
        | refine tky (i := 10) (oi := { dst := some 36, op := Op.load 38 (Operand.tmp 35), type := 38, pos := "law.go:132", after := #[{ on := 9, ground := Ground.data }], guard := none }) (v := ?_) rfl ?_ (by assumption) ?_
        | refine tky (i := 11) (oi := { dst := some 37, op := Op.move (Operand.tmp 7), type := 3, pos := "law.go:132", after := #[], guard := none }) (v := ?_) rfl ?_ (by assumption) ?_
        | refine tky (i := 12) (oi := { dst := some 38, op := Op.indexAddr 38 (Operand.tmp 36) (Operand.tmp 37), type := 0, pos := "law.go:132", after := #[{ on := 10, ground := Ground.data }, { on := 11, ground := Ground.data }], guard := none }) (v := ?_) rfl ?_ (by assumption) ?_
        | refine tky (i := 13) (oi := { dst := some 39, op := Op.load 58 (Operand.tmp 38), type := 58, pos := "law.go:132", after := #[{ on := 12, ground := Ground.data }], guard := none }) (v := ?_) rfl ?_ (by assumption) ?_
       rotate_left
       ·intro w hSw; (try dsimp only at hSw); go_simp; try (with_reducible rfl))
      | refine wpAnyH_ready (rs := [0, 14]) (by decide +kernel) (by simp) ?_
      | refine wpAnyH_ready (rs := [14]) (by decide +kernel) (by simp) ?_
      | refine wpAnyH_ready (rs := [15]) (by decide +kernel) (by simp) ?_
      | refine wpAnyH_ready (rs := [16]) (by decide +kernel) (by simp) ?_
      | refine wpAnyH_ready (rs := [0]) (by decide +kernel) (by simp) ?_
      | (
       refine AllReadyH.cons (o := { dst := some 26, op := Op.load 58 (Operand.tmp 8), type := 58, pos := "law.go:132", after := #[], guard := none }) rfl (fun K hK => ?_) ?_
       go_simp
       try (go_wp2_with fail)
       refine hK.out _ _ ?_ (fun hHeld => ?_)
       ·(try dsimp only); exact kFx
       clear hK K)
      | (
       refine AllReadyH.cons (o := { dst := some 40, op := Op.call { callee := Callee.value (Operand.func 87), args := #[Operand.tmp 30, Operand.tmp 39], argTypes := #[58, 58] }, type := 58, pos := "law.go:132", after := #[{ on := 4, ground := Ground.data }, { on := 13, ground := Ground.data }], guard := none }) rfl (fun K hK => ?_) ?_
       go_simp
       first
        | (go_at_call 87; (with_reducible refine (qmy _ _ _ _ _ _ _ (RatB.ext hYB eAx) (RatB.ext hCB eAx) (by omega)).mono ?_); rintro e wk ⟨vk, rfl, hbk, hxk⟩; (obtain ⟨pk, Ak, nk, ck, pk', Ak', nk', ck', rfl⟩ := hbk.1.shape); (have hkL : Ext wr wk := Ext.trans eBx hxk); (have a0 := hkL.cell a0); (have a1 := hkL.cell a1); (have a2 := hkL.cell a2); (have a3 := hkL.cell a3))
       try (go_wp2_with fail)
       refine hK.out _ _ ?_ (fun hHeld => ?_)
       ·(try dsimp only); exact kFx
       clear hK K)
      | (
       refine AllReadyH.cons (o := { dst := some 41, op := Op.call { callee := Callee.value (Operand.func 47), args := #[Operand.tmp 26, Operand.tmp 40], argTypes := #[58, 58] }, type := 58, pos := "law.go:132", after := #[{ on := 0, ground := Ground.data }, { on := 14, ground := Ground.data }, { on := 14, ground := Ground.chain }], guard := none }) rfl (fun K hK => ?_) ?_
       go_simp
       first
        | (go_at_call 47; (with_reducible refine (qcs _ _ _ _ _ _ _ (RatB.ext hQB eAx) (RatB.ext hbk eAx) (by omega)).mono ?_); rintro e wl ⟨vl, rfl, hbl', hxl⟩; (obtain ⟨pl, Al, nl, cl, pl', Al', nl', cl', rfl⟩ := hbl'.1.shape); (have hlL : Ext wr wl := Ext.trans eAx hxl); (have BYl := BY.ext hlL); (have f0 := BYl.frozen 0); (have f1 := BYl.frozen 1); (have f2 := BYl.frozen 2); (have f3 := BYl.frozen 3); (have q0 := BYl.c0); (have q1 := BYl.c1); (have q2 := BYl.c2); (have q3 := BYl.c3); (have hS7 := (Fr.of (P := fun k => k = b8) hlL).trans (fr4 BYl (.bool pl) (.slice Al nl cl) (.bool pl') (.slice Al' nl' cl'))))
       try (go_wp2_with fail)
       refine hK.out _ _ ?_ (fun hHeld => ?_)
       ·(try dsimp only); exact kFx
       clear hK K)
      | (
       refine AllReadyH.cons (o := { dst := none, op := Op.store 58 (Operand.tmp 8) (Operand.tmp 41), type := 0, pos := "law.go:132", after := #[{ on := 15, ground := Ground.data }, { on := 15, ground := Ground.chain }, { on := 0, ground := Ground.phase }, { on := 1, ground := Ground.phase }, { on := 2, ground := Ground.phase }, { on := 3, ground := Ground.phase }, { on := 4, ground := Ground.phase }, { on := 5, ground := Ground.phase }, { on := 6, ground := Ground.phase }, { on := 7, ground := Ground.phase }, { on := 8, ground := Ground.phase }, { on := 9, ground := Ground.phase }, { on := 10, ground := Ground.phase }, { on := 11, ground := Ground.phase }, { on := 12, ground := Ground.phase }, { on := 13, ground := Ground.phase }, { on := 14, ground := Ground.phase }, { on := 15, ground := Ground.phase }], guard := none }) rfl (fun K hK => ?_) ?_
       go_simp
       try (go_wp2_with fail)
       refine hK.out _ _ ?_ (fun hHeld => ?_)
       ·(try dsimp only); exact kFx
       clear hK K)
      | exact AllReadyH.nil
      | (
       refine wpAnyH_done (by decide +kernel) ?_ _
       have hQ4 := (RatV.put hbl'.1 BYl).1
       have hB4 := (RatV.put hbl'.1 BYl).2
       have hFN := hF.trans hS7
       have hls := HLS.out j k
       have hqn := HNL.out (j + 1) (by omega) k hlt
       rw [← hls] at hQ4
       have hRN : RBox _ b8 (LL (j + 1) k) T := ⟨_, _, _, _, _, _, _, _, hB4, hQ4, hqn⟩
       go_wp2_with fail
       go_roundw
       case rel => first | exact ⟨j + 1, by omega, by go_num, hRN, hFN⟩ | ((repeat (apply Exists.intro (α := Value))); exact ⟨⟨j + 1, by omega, by go_num, hRN, hFN⟩, rfl⟩)
       case measure => simp [intOf]; omega)
      )
    ·obtain rfl : j = ny := by omega
     obtain ⟨y0, y1, YA, YA', yd, ye, yd', ye', BY, hQB⟩ := hB8
     have a0 := BY.c0
     have a1 := BY.c1
     have a2 := BY.c2
     have a3 := BY.c3
     have hXr : Ext V wr := hF.ext hUX (fun g hg => by subst hg; exact hVb)
     obtain ⟨xs0, o0, at0⟩ := hOU
     have hO1 : OwnQ _ _ _ _ _ := OwnQ.ext ⟨xs0, o0.fr hF HOB.out, fun j hj => (at0 j hj).fr hF⟩ ((Ext.refl wr).alloc (.cells #[.bool y0, .slice YA yd ye, .bool y1, .slice YA' yd' ye'] 58))
     have hX1 := hXr.alloc (.cells #[.bool y0, .slice YA yd ye, .bool y1, .slice YA' yd' ye'] 58)
     have hb2 := hQB.1.ext ((Ext.refl wr).alloc (.cells #[.bool y0, .slice YA yd ye, .bool y1, .slice YA' yd' ye'] 58))
     have hN4 := new4 wr 58 (.bool y0) (.slice YA yd ye) (.bool y1) (.slice YA' yd' ye')
     rw [← HLF.out] at hb2
     clear o0 at0
     obtain ⟨xs, o0, at0⟩ := hO1
     have hsz := hX1.size
     go_upto_region 4 with (at_builtin; go_loud (refine qbx rfl (.tmp 42) (.tmp 44) 38 rfl V.heap.size 58 i0 _ 4 64 Tryz.underlying38 ii iz0 iz1 iz2 rfl zR _ k xs rfl o0 wr.heap.size [.bool y0, .slice YA yd ye, .bool y1, .slice YA' yd' ye'] 1 rfl rfl hN4 one4 nou4 (by omega) (by decide) hsz ?_); intro v2 w2 o2 r2 s2)
     have hX2 := r2.ext hX1 (fun g hg => (o0.lt hg).1)
     have at2 := At.push o0.1 at0 r2 hb2
     obtain ⟨A2, c2, rfl⟩ := o2.shape
     go_wp2_with fail
     go_roundw
     case rel => exact ⟨k + 1, by omega, by go_num, ⟨_, o2, at2⟩, hX2⟩
     case measure => simp [intOf]; omega
  ·obtain rfl : k = n := by omega
   obtain ⟨A1, c1, rfl⟩ := hO.shape
   have hwr := hwV
   have hVr : V.heap.size ≤ wr.heap.size := hx.size
   have p1c := PBr.c1
   go_upto_region 12 with fail
   clear p0 p1c
   go_loopw [6, 10] (fun s i w3 => ∃ j : Nat, j ≤ ny ∧ i = .int .i64 j ∧ s = .bool (sgB p y j) ∧ RBox w3 b5 (RR j) T ∧ Fr (fun g => g = b5) wr w3) (fun _ i _ => ny - (intOf i).toNat)
   case atStart => exact ⟨0, by omega, rfl, rfl, ⟨_, _, _, _, _, _, _, _, SBr, by rw [HR0.out]; exact RatV.zero wr, by rw [HR0.out]; exact qkw HT1.out⟩, Fr.refl _ _⟩
   case round =>
    rename_i w3
    obtain ⟨j, hj, rfl, rfl, hB5, hF⟩ := hrel
    have p1c := (hF.box PBr hp5).c1
    by_cases hlt2 : j < ny
    ·obtain ⟨br, rfl, hrow⟩ := HROW.out (by omega)
     obtain ⟨ba, rfl, hRy⟩ := hy.2.2 (by omega)
     obtain ⟨Ac, cc, bx, A, d, e, by', A', d', e', g0, g1, g2, g3, g4, g5, -, r2, r3⟩ := hrow j hlt2
     obtain ⟨-, hr1, hr3⟩ := HVR.out j hlt2
     have nb1 : ¬ ba = b5 := by have := hRy.lt; omega
     have nb2 : ¬ br = b5 := by have : br < w.heap.size := World.block_lt_of_cell? w _ g0; omega
     have g1 := hF.cell nb2 (hx.cell (hE0.cell g1))
     have g2 := hF.cell nb2 (hx.cell (hE0.cell g2))
     have g3 := hF.cell nb2 (hx.cell (hE0.cell g3))
     have g4 := hF.cell nb2 (hx.cell (hE0.cell g4))
     have g5 := hF.cell nb2 (hx.cell (hE0.cell g5))
     have r3 := hF.rat ((r3.ext hE0).ext hx)
     have hRy3 := ((hRy.ext hE0).ext hx).fr hF nb1
     obtain ⟨p3, A3, m3, c3, p3', A3', m3', c3', e0, e1, e2, e3, hry⟩ := hRy3.at (j := j) hlt2
     obtain ⟨y0, y1, YA, YA', yd, ye, yd', ye', BY, hQB⟩ := hB5
     have hYB : RatB wr _ (y j) Ky := ⟨hry, HY.out j hlt2⟩
     have hCB : RatB wr _ (p.right j) Kr := ⟨r3, HR.out j hlt2⟩
     have a0 := BY.c0
     have a1 := BY.c1
     have a2 := BY.c2
     have a3 := BY.c3
     have i1 : (0 : Int) ≤ (j : Int) := by omega
     have i2 : (j : Int) < (ny : Int) := by omega
     go_upto_region 14 with fail
     clear p1c
     have hPw := hF.box PBr hp5
     have kp : ∀ w', Fr (fun k => k = b5) wr w' → w'.cell? ⟨pb, 1, none⟩ = some (.slice (some ⟨br, 0, none⟩) ny cr) := fun w' h => (h.box hPw hp5).c1
     have kr2 : ∀ w', Fr (fun k => k = b5) wr w' → w'.cell? ⟨br, j * 6 + 2, none⟩ = some _ := fun w' h => h.cell nb2 g2
     have kr3 : ∀ w', Fr (fun k => k = b5) wr w' → w'.cell? ⟨br, j * 6 + 3, none⟩ = some _ := fun w' h => h.cell nb2 g3
     have kr4 : ∀ w', Fr (fun k => k = b5) wr w' → w'.cell? ⟨br, j * 6 + 4, none⟩ = some _ := fun w' h => h.cell nb2 g4
     have kr5 : ∀ w', Fr (fun k => k = b5) wr w' → w'.cell? ⟨br, j * 6 + 5, none⟩ = some _ := fun w' h => h.cell nb2 g5
     have ky0 : ∀ w', Fr (fun k => k = b5) wr w' → w'.cell? ⟨ba, j * 4, none⟩ = some _ := fun w' h => h.cell nb1 e0
     have ky1 : ∀ w', Fr (fun k => k = b5) wr w' → w'.cell? ⟨ba, j * 4 + 1, none⟩ = some _ := fun w' h => h.cell nb1 e1
     have ky2 : ∀ w', Fr (fun k => k = b5) wr w' → w'.cell? ⟨ba, j * 4 + 2, none⟩ = some _ := fun w' h => h.cell nb1 e2
     have ky3 : ∀ w', Fr (fun k => k = b5) wr w' → w'.cell? ⟨ba, j * 4 + 3, none⟩ = some _ := fun w' h => h.cell nb1 e3
     have ks := Fr.refl (fun k => k = b5) wr
     go_cut [] (fun wx => RBox wx b5 (RR (j + 1)) T ∧ Fr (fun g => g = b5) wr wx)
     case first =>
      clear e0 e1 e2 e3 hry g1 g2 g3 g4 g5 hRy3 hPw
      refine wp_region_held_drew (S := fun w' => Fr (fun k => k = b5) wr w') (by kernel_rfl) ?_ (fun hHeld => ?_)
      ·(try dsimp only); exact kFx
      repeat' (first
       | simp only [Act.put, sqa, sqb, sqc]
       | (
        first
         | refine tky (i := 1) (oi := { dst := some 54, op := Op.move (Operand.tmp 1), type := 38, pos := "law.go:137", after := #[], guard := none }) (v := ?_) rfl ?_ (by assumption) ?_
         | refine tky (i := 2) (oi := { dst := some 55, op := Op.move (Operand.tmp 10), type := 3, pos := "law.go:137", after := #[], guard := none }) (v := ?_) rfl ?_ (by assumption) ?_
         | refine tky (i := 3) (oi := { dst := some 56, op := Op.indexAddr 38 (Operand.tmp 54) (Operand.tmp 55), type := 0, pos := "law.go:137", after := #[{ on := 1, ground := Ground.data }, { on := 2, ground := Ground.data }], guard := none }) (v := ?_) rfl ?_ (by assumption) ?_
         | refine tky (i := 4) (oi := { dst := some 57, op := Op.load 58 (Operand.tmp 56), type := 58, pos := "law.go:137", after := #[{ on := 3, ground := Ground.data }], guard := none }) (v := ?_) rfl ?_ (by assumption) ?_
         | refine tky (i := 5) (oi := { dst := some 58, op := Op.fieldAddr 41 (Operand.tmp 2) 1, type := 0, pos := "law.go:137", after := #[], guard := none }) (v := ?_) rfl ?_ (by assumption) ?_
         | refine tky (i := 6) (oi := { dst := some 59, op := Op.load 39 (Operand.tmp 58), type := 39, pos := "law.go:137", after := #[{ on := 5, ground := Ground.data }], guard := none }) (v := ?_) rfl ?_ (by assumption) ?_
         | refine tky (i := 7) (oi := { dst := some 60, op := Op.move (Operand.tmp 10), type := 3, pos := "law.go:137", after := #[], guard := none }) (v := ?_) rfl ?_ (by assumption) ?_
         | refine tky (i := 8) (oi := { dst := some 61, op := Op.indexAddr 39 (Operand.tmp 59) (Operand.tmp 60), type := 0, pos := "law.go:137", after := #[{ on := 6, ground := Ground.data }, { on := 7, ground := Ground.data }], guard := none }) (v := ?_) rfl ?_ (by assumption) ?_
         | refine tky (i := 9) (oi := { dst := some 62, op := Op.fieldAddr 75 (Operand.tmp 61) 2, type := 0, pos := "law.go:137", after := #[{ on := 8, ground := Ground.data }], guard := none }) (v := ?_) rfl ?_ (by assumption) ?_
         | refine tky (i := 10) (oi := { dst := some 63, op := Op.load 58 (Operand.tmp 62), type := 58, pos := "law.go:137", after := #[{ on := 9, ground := Ground.data }], guard := none }) (v := ?_) rfl ?_ (by assumption) ?_
        rotate_left
        ·intro w hSw; (try dsimp only at hSw); go_simp; try (with_reducible rfl))
       | refine wpAnyH_ready (rs := [0, 11]) (by decide +kernel) (by simp) ?_
       | refine wpAnyH_ready (rs := [11]) (by decide +kernel) (by simp) ?_
       | refine wpAnyH_ready (rs := [12]) (by decide +kernel) (by simp) ?_
       | refine wpAnyH_ready (rs := [13]) (by decide +kernel) (by simp) ?_
       | refine wpAnyH_ready (rs := [0]) (by decide +kernel) (by simp) ?_
       | (
        refine AllReadyH.cons (o := { dst := some 53, op := Op.load 58 (Operand.tmp 5), type := 58, pos := "law.go:137", after := #[], guard := none }) rfl (fun K hK => ?_) ?_
        go_simp
        try (go_wp2_with fail)
        refine hK.out _ _ ?_ (fun hHeld => ?_)
        ·(try dsimp only); exact kFx
        clear hK K)
       | (
        refine AllReadyH.cons (o := { dst := some 64, op := Op.call { callee := Callee.value (Operand.func 87), args := #[Operand.tmp 57, Operand.tmp 63], argTypes := #[58, 58] }, type := 58, pos := "law.go:137", after := #[{ on := 4, ground := Ground.data }, { on := 10, ground := Ground.data }], guard := none }) rfl (fun K hK => ?_) ?_
        go_simp
        first
         | (go_at_call 87; (with_reducible refine (qmy _ _ _ _ _ _ _ (RatB.ext hYB eAx) (RatB.ext hCB eAx) (by omega)).mono ?_); rintro e wk ⟨vk, rfl, hbk, hxk⟩; (obtain ⟨pk, Ak, nk, ck, pk', Ak', nk', ck', rfl⟩ := hbk.1.shape); (have hkL : Ext wr wk := Ext.trans eBx hxk); (have a0 := hkL.cell a0); (have a1 := hkL.cell a1); (have a2 := hkL.cell a2); (have a3 := hkL.cell a3))
        try (go_wp2_with fail)
        refine hK.out _ _ ?_ (fun hHeld => ?_)
        ·(try dsimp only); exact kFx
        clear hK K)
       | (
        refine AllReadyH.cons (o := { dst := some 65, op := Op.call { callee := Callee.value (Operand.func 47), args := #[Operand.tmp 53, Operand.tmp 64], argTypes := #[58, 58] }, type := 58, pos := "law.go:137", after := #[{ on := 0, ground := Ground.data }, { on := 11, ground := Ground.data }, { on := 11, ground := Ground.chain }], guard := none }) rfl (fun K hK => ?_) ?_
        go_simp
        first
         | (go_at_call 47; (with_reducible refine (qcs _ _ _ _ _ _ _ (RatB.ext hQB eAx) (RatB.ext hbk eAx) (by omega)).mono ?_); rintro e wl ⟨vl, rfl, hbl', hxl⟩; (obtain ⟨pl, Al, nl, cl, pl', Al', nl', cl', rfl⟩ := hbl'.1.shape); (have hlL : Ext wr wl := Ext.trans eAx hxl); (have BYl := BY.ext hlL); (have f0 := BYl.frozen 0); (have f1 := BYl.frozen 1); (have f2 := BYl.frozen 2); (have f3 := BYl.frozen 3); (have q0 := BYl.c0); (have q1 := BYl.c1); (have q2 := BYl.c2); (have q3 := BYl.c3); (have hS7 := (Fr.of (P := fun k => k = b5) hlL).trans (fr4 BYl (.bool pl) (.slice Al nl cl) (.bool pl') (.slice Al' nl' cl'))))
        try (go_wp2_with fail)
        refine hK.out _ _ ?_ (fun hHeld => ?_)
        ·(try dsimp only); exact kFx
        clear hK K)
       | (
        refine AllReadyH.cons (o := { dst := none, op := Op.store 58 (Operand.tmp 5) (Operand.tmp 65), type := 0, pos := "law.go:137", after := #[{ on := 12, ground := Ground.data }, { on := 12, ground := Ground.chain }, { on := 0, ground := Ground.phase }, { on := 1, ground := Ground.phase }, { on := 2, ground := Ground.phase }, { on := 3, ground := Ground.phase }, { on := 4, ground := Ground.phase }, { on := 5, ground := Ground.phase }, { on := 6, ground := Ground.phase }, { on := 7, ground := Ground.phase }, { on := 8, ground := Ground.phase }, { on := 9, ground := Ground.phase }, { on := 10, ground := Ground.phase }, { on := 11, ground := Ground.phase }, { on := 12, ground := Ground.phase }], guard := none }) rfl (fun K hK => ?_) ?_
        go_simp
        try (go_wp2_with fail)
        refine hK.out _ _ ?_ (fun hHeld => ?_)
        ·(try dsimp only); exact kFx
        clear hK K)
       | exact AllReadyH.nil
       | (
        refine wpAnyH_done (by decide +kernel) ?_ _
        have hQ4 := (RatV.put hbl'.1 BYl).1
        have hB4 := (RatV.put hbl'.1 BYl).2
        have hls := HRS.out j
        have hqn := HNR.out (j + 1) (by omega)
        rw [← hls] at hQ4
        have hRN : RBox _ b5 (RR (j + 1)) T := ⟨_, _, _, _, _, _, _, _, hB4, hQ4, hqn⟩
        go_wp2_with fail
        go_meet
        exact ⟨hRN, hS7⟩)
       )
     case rest =>
      rename_i hK
      refine hK _ _ ?_
      clear hK kp kr2 kr3 kr4 kr5 ky0 ky1 ky2 ky3 ks a0 a1 a2 a3 BY hYB hCB hQB e0 e1 e2 e3 hry
      obtain ⟨hB5, hFw⟩ := hcut
      have hFc := hF.trans hFw
      have p1c := (hFw.box hPw hp5).c1
      have g1 := hFw.cell nb2 g1
      obtain ⟨q3, A3, m3, c3, q3', A3', m3', c3', e0, e1, e2, e3, hry⟩ := (hRy3.fr hFw nb1).at (j := j) hlt2
      obtain ⟨rel, hrl⟩ : ∃ r, r = p.rel j := ⟨_, rfl⟩
      rw [← hrl] at g1 hr1 hr3 r2
      obtain ⟨Y, hY⟩ : ∃ Y, Y = y j := ⟨_, rfl⟩
      rw [← hY] at hry
      have HYB : Hid (QB Ky Y) := Lib.hid (by rw [hY]; exact HY.out j hlt2)
      obtain ⟨S, hS⟩ : ∃ S, S = sg1 p y j := ⟨_, rfl⟩
      have HS1 : Hid (S = decide ((rel = 1 → 0 ≤ Y) ∧ (rel = 3 → Y ≤ 0))) := Lib.hid (by rw [hS, hrl, hY]; rfl)
      have HSN : Hid (sgB p y (j + 1) = (sgB p y j && S)) := Lib.hid (by rw [hS]; rfl)
      clear hrl hY hS g2 g3 g4 g5 r3 hRy3 hPw
      go_upto_region 15 with fail
      go_cut [97] (fun v wx => v = .bool (!S) ∧ Ext wc wx)
      case first =>
       have hev : (rel = 1 → decide (Y.num.sign < 0) = !S) ∧ (rel = 3 → decide (0 < Y.num.sign) = !S) ∧ (rel = 2 → S = true) := by
        rw [HS1.out]
        refine ⟨fun h => ?_, fun h => ?_, fun h => ?_⟩
        ·subst h
         rcases q83 Y.num with ⟨a, b⟩ | ⟨a, b⟩ | ⟨a, b⟩ <;> rw [b]
         ·have := num_neg.2 a; simp; grind
         ·have := Rat.num_eq_zero.1 a; simp; grind
         ·have := num_pos.2 a; simp; grind
        ·subst h
         rcases q83 Y.num with ⟨a, b⟩ | ⟨a, b⟩ | ⟨a, b⟩ <;> rw [b]
         ·have := num_neg.2 a; simp; grind
         ·have := Rat.num_eq_zero.1 a; simp; grind
         ·have := num_pos.2 a; simp; grind
        ·subst h; simp
       obtain ⟨g, hg⟩ : ∃ g, g = Y.num.sign := ⟨_, rfl⟩
       have HG := Lib.hid hg
       rw [← hg] at hev
       clear hg HS1 HSN
       rcases (show rel = 1 ∨ rel = 2 ∨ rel = 3 by omega) with rfl | rfl | rfl
       ·have ev := hev.1 rfl
        clear hev
        go_wp2_with fail
        refine (qpl _ Y Ky _ ⟨hry, HYB.out⟩).mono ?_
        rintro e w5 ⟨rfl, hx5⟩
        rw [← HG.out]
        have g1' := hx5.cell g1
        have p1c' := hx5.cell p1c
        cases S with
        | true =>
          go_wp2_with fail
          go_meet
          exact ⟨rfl, hx5⟩
        | false =>
          go_wp2_with fail
          go_meet
          exact ⟨rfl, hx5⟩
       ·obtain rfl := hev.2.2 rfl
        clear hev
        go_wp2_with fail
        go_meet
        exact ⟨rfl, Ext.refl _⟩
       ·have ev := hev.2.1 rfl
        clear hev
        go_wp2_with fail
        refine (qpl _ Y Ky _ ⟨hry, HYB.out⟩).mono ?_
        rintro e w5 ⟨rfl, hx5⟩
        rw [← HG.out]
        cases S with
        | true =>
          go_wp2_with fail
          go_meet
          exact ⟨rfl, hx5⟩
        | false =>
          go_wp2_with fail
          go_meet
          exact ⟨rfl, hx5⟩
      case rest =>
       clear p1c g1 e0 e1 e2 e3 hry HS1 HYB
       rename_i hK
       obtain ⟨rfl, hxc⟩ := hcut
       refine hK _ _ ?_
       clear hK
       have hB9 := hB5.ext hxc
       have hF9 := hFc.step hxc
       cases S with
       | true =>
         have HN : Hid (Value.bool (sgB p y j) = .bool (sgB p y (j + 1))) := Lib.hid (by rw [HSN.out, Bool.and_true])
         clear HSN
         go_wp2_with fail
         go_roundw
         case rel => exact ⟨j + 1, by omega, by go_num, HN.out, hB9, hF9⟩
         case measure => simp [intOf]; omega
       | false =>
         have HN : Hid (Value.bool false = .bool (sgB p y (j + 1))) := Lib.hid (by rw [HSN.out, Bool.and_false])
         clear HSN
         go_wp2_with fail
         go_roundw
         case rel => exact ⟨j + 1, by omega, by go_num, HN.out, hB9, hF9⟩
         case measure => simp [intOf]; omega
    ·obtain rfl : j = ny := by omega
     obtain ⟨y0, y1, YA, YA', yd, ye, yd', ye', BY, hQB⟩ := hB5
     have hOF : OwnQ wr V.heap.size (.slice A1 k c1) k (p.left y) := by
      obtain ⟨xs, o, a⟩ := hO
      exact ⟨xs, o.fr hF (fun g hg => by have := (o.lt hg).1; omega), fun i hi => (a i hi).fr hF⟩
     have hRF := hOF.rats
     have hXF : Ext w wr := hF.ext (hE0.trans hx) (fun g hg => by subst hg; exact hw5)
     have hF4 := fr4 BY (.bool y0) (.slice YA yd ye) (.bool y1) (.slice YA' yd' ye')
     have hB4 := RatV.put hQB.1 BY
     rw [← HRH.out] at hQB hB4
     have hR5 : qjq ((((wr.setCell ⟨b5, 0, none⟩ (.bool y0)).setCell ⟨b5, 1, none⟩ (.slice YA yd ye)).setCell ⟨b5, 2, none⟩ (.bool y1)).setCell ⟨b5, 3, none⟩ (.slice YA' yd' ye')) w.heap.size A1 k c1 (p.left y) := ⟨hRF.1, hRF.2.1, fun hn => by
      obtain ⟨bb, e, hr, hb⟩ := hRF.2.2 hn
      exact ⟨bb, e, hr.fr hF4 (by omega), by omega⟩⟩
     have hX5 := ext4 hw5 hXF (.bool y0) (.slice YA yd ye) (.bool y1) (.slice YA' yd' ye')
     have x0 := BY.c0
     have x1 := BY.c1
     have x2 := BY.c2
     have x3 := BY.c3
     have f0 := BY.frozen 0
     have f1 := BY.frozen 1
     have f2 := BY.frozen 2
     have f3 := BY.frozen 3
     have pc0 := hB4.2.c0
     have pc1 := hB4.2.c1
     have pc2 := hB4.2.c2
     have pc3 := hB4.2.c3
     go_upto_region 17 with fail
     clear p1c
     go_region
     all_goals (
      go_wp2_with fail
      refine bodyPost_ret (v := .tuple #[.slice A1 k c1, .agg #[.bool y0, .slice YA yd ye, .bool y1, .slice YA' yd' ye'], .bool (sgB p y j)]) (by simp [results, Tryz.results58, go_sem, pc0, pc1, pc2, pc3]) rfl ?_
      exact HP.out _ _ _ _ _ _ _ _ _ _ _ _ (hR5.ext ((Ext.refl _).drew)) ⟨hB4.1.ext ((Ext.refl _).drew), hQB.2⟩ (fun i hi => by rw [HLF.out]; exact HNL.out j (Nat.le_refl _) i hi) hX5.drew rfl)
end Go.Proofs.YtljncdcjkdgkeaaGreatDoor.Lp

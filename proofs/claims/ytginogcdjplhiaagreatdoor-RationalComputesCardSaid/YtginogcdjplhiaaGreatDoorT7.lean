/- Walk: the rational numbers' Parse. -/
import Derived.Test.YtginogcdjplhiaaGreatDoorT4
import Derived.Test.YtginogcdjplhiaaGreatDoorP2
set_option linter.unusedVariables false
set_option linter.unusedSimpArgs false
namespace Go.Proofs.YtginogcdjplhiaaGreatDoor.Rt
open Go.RowKit Go.Proofs.YtginogcdjplhiaaGreatDoor.Big

/-- the library's variable internal/bytealg.MaxLen holds a number -/
def MxOK (w : World) : Prop := ∃ m : Int, w.cell? ⟨1, 0, none⟩ = some (.int .i64 m)
theorem MxOK.ext {w w' : World} (h : MxOK w) (k : Ext w w') : MxOK w' := by
  obtain ⟨m, hm⟩ := h; exact ⟨m, k.cell hm⟩
theorem cut_sizes (l : List UInt8) : (Lib.cut l [47]).1.length ≤ l.length ∧ (Lib.cut l [47]).2.1.length ≤ l.length := by
  rcases cut_cases l with ⟨_, e⟩ | ⟨a, b, _, hl, e⟩
  · rw [e]; simp
  · rw [e, hl]; simp; omega

theorem cmpZ_zero' {x y : Int} : cmpZ x y = 0 ↔ x = y := by
  unfold cmpZ
  split
  · exact ⟨fun h => by omega, fun h => by omega⟩
  · split
    · exact ⟨fun h => by omega, fun h => by omega⟩
    · exact ⟨fun h => by omega, fun h => by omega⟩

set_option maxHeartbeats 2000000 in
theorem RatParse_full (s : ByteArray) (w : World) (hs : 4096 < s.size) : Calls Tryz.prog 27 #[.string s] w (MakeZero w 5) := by
  have B2 := Box.new w 28 #[.bool false, .slice none 0 0, .bool false, .slice none 0 0]
  have hE0 : Ext w (w.alloc (.cells #[.bool false, .slice none 0 0, .bool false, .slice none 0 0] 28)) := (Ext.refl w).alloc _
  have e1 : decide ((4096 : Int) < s.size) = true := by simp; omega
  have pc0 := B2.c0
  have pc1 := B2.c1
  have pc2 := B2.c2
  have pc3 := B2.c3
  go_enter Tryz.func27, Tryz.ntmps27
  go_wp2_with fail
  refine bodyPost_ret (v := .tuple #[.agg #[.bool false, .slice none 0 0, .bool false, .slice none 0 0], .int .i64 5]) (by simp [results, Tryz.results27, go_sem]) rfl ?_
  exact ⟨rfl, hE0⟩

def RParPost (s : ByteArray) (k : Nat) (w : World) (e : Ending) (w' : World) : Prop :=
  (isRat s.data.toList = true → MakePost w (parseQ s.data.toList) k e w') ∧ (isRat s.data.toList = false → MakeZero w 3 e w')

set_option maxRecDepth 100000 in
set_option maxHeartbeats 8000000 in
theorem RatParse_any (s : ByteArray) (k : Nat) (w : World) (hs : s.size ≤ 4096) (hsk : s.size ≤ k) (hk2 : 2 ≤ k) (hk : k ≤ 1099511627776) (hmx : MxOK w) : Calls Tryz.prog 27 #[.string s] w (RParPost s k w) := by
  obtain ⟨l, hl⟩ : ∃ l, l = s.data.toList := ⟨_, rfl⟩
  have hll : l.length = s.size := by rw [hl]; rfl
  obtain ⟨z1, z2⟩ := cut_sizes l
  unfold RParPost
  rw [← hl]
  obtain ⟨fb, hfb⟩ : ∃ b, b = (Lib.cut l [47]).2.2 := ⟨_, rfl⟩
  obtain ⟨la, hla⟩ : ∃ b, b = (Lib.cut l [47]).1 := ⟨_, rfl⟩
  obtain ⟨lb, hlb⟩ : ∃ b, b = (Lib.cut l [47]).2.1 := ⟨_, rfl⟩
  have hR : isRat l = if fb then isDec la && isDec lb && decide (1 < parseZ lb) && decide (Nat.gcd (parseZ la).natAbs (parseZ lb).natAbs = 1) else isDec la := by unfold isRat; rw [← hfb, ← hla, ← hlb]
  have hQ : parseQ l = Rat.divInt (parseZ la) (if fb then parseZ lb else 1) := by unfold parseQ; rw [← hfb, ← hla, ← hlb]
  rw [← hla] at z1
  rw [← hlb] at z2
  obtain ⟨sa, hsa⟩ : ∃ b : ByteArray, b = ⟨la.toArray⟩ := ⟨_, rfl⟩
  obtain ⟨sb, hsb⟩ : ∃ b : ByteArray, b = ⟨lb.toArray⟩ := ⟨_, rfl⟩
  have ea : sa.data.toList = la := by rw [hsa]
  have eb : sb.data.toList = lb := by rw [hsb]
  have na : sa.size ≤ s.size := by rw [← hll]; have : sa.size = la.length := by rw [hsa]; rfl
                                   omega
  have nb : sb.size ≤ s.size := by rw [← hll]; have : sb.size = lb.length := by rw [hsb]; rfl
                                   omega
  have HCUT : Hid (∀ w', MxOK w' → Calls Tryz.prog 54 #[.string s, .string ⟨#[47]⟩] w' (fun e w'' => e = .returned (.tuple #[.string sa, .string sb, .bool fb]) ∧ Ext w' w'')) := Lib.hid (by
    rintro w' ⟨m, hm⟩
    refine (Tryz.strings_Cut s ⟨#[47]⟩ m w' (by omega) hm).mono ?_
    rintro e w'' ⟨rfl, n, rfl⟩
    refine ⟨?_, Ext.drewN_self _ _⟩
    rw [hsa, hsb, hla, hlb, hfb, hl])
  obtain ⟨R, hRR⟩ : ∃ R, R = isRat l := ⟨_, rfl⟩
  obtain ⟨q, hqq⟩ : ∃ q, q = parseQ l := ⟨_, rfl⟩
  rw [← hRR, ← hqq]
  rw [← hRR, ← ea, ← eb] at hR
  rw [← hqq, ← ea, ← eb] at hQ
  have HR := Lib.hid hR
  have HQ := Lib.hid hQ
  have B2 := Box.new w 28 #[.bool false, .slice none 0 0, .bool false, .slice none 0 0]
  have hE0 : Ext w (w.alloc (.cells #[.bool false, .slice none 0 0, .bool false, .slice none 0 0] 28)) := (Ext.refl w).alloc _
  have e1 : decide ((4096 : Int) < s.size) = false := by simp; omega
  have hmx := hmx.ext hE0
  clear hR hQ hRR hqq hsa hsb ea eb hla hlb hfb hl z1 z2 hll
  go_enter Tryz.func27, Tryz.ntmps27
  go_wp2_with fail
  refine (HCUT.out _ hmx).mono ?_
  rintro e w1 ⟨rfl, hx1⟩
  have hE1 := hE0.trans hx1
  have B2 := B2.ext hx1
  go_wp2_with fail
  refine (Parse_any sa _ (by omega)).mono ?_
  rintro e w2 ⟨v2, X, rfl, hX, hXv, -, hx2⟩
  obtain ⟨da, hda⟩ : ∃ b, b = isDec sa.data.toList := ⟨_, rfl⟩
  obtain ⟨es, hes⟩ : ∃ es : Int, es = (if isDec sa.data.toList = true then 0 else 3) := ⟨_, rfl⟩
  rw [← hes]
  rw [← hda] at hes hXv
  have hde : (es != 0) = !da := by rw [hes]; cases da <;> rfl
  have HDA := Lib.hid hda
  have HXV := Lib.hid hXv
  clear hes hda hXv
  obtain ⟨p3, A3, n3, c3, rfl⟩ := hX.shape
  go_upto_region 5 with fail
  have hx3 : Ext w2 (w2.alloc (.cells #[.bool p3, .slice A3 n3 c3] 26)) := (Ext.refl w2).alloc _
  have B7 := Box.new w2 26 #[.bool p3, .slice A3 n3 c3]
  have hX := hX.ext hx3
  have hE3 := (hE1.trans hx2).trans hx3
  have B2 := (B2.ext hx2).ext hx3
  generalize (w2.alloc (.cells #[.bool p3, .slice A3 n3 c3] 26)) = W at *
  clear hx1 hx2 hx3 hE0 hE1 hmx
  cases da
  case false =>
    have hRf : R = false := by
      have h1 := HDA.out
      have h2 := HR.out
      rw [← h1] at h2
      rw [h2]; cases fb <;> rfl
    have HRf := Lib.hid hRf
    clear hRf
    have q0 := B2.c0
    have q1 := B2.c1
    have q2 := B2.c2
    have q3 := B2.c3
    have f0 := B2.frozen 0
    have f1 := B2.frozen 1
    have f2 := B2.frozen 2
    have f3 := B2.frozen 3
    go_wp2_with fail
    obtain ⟨pp, pb⟩ := RatV.put (RatV.zero W) B2
    have pc0 := pb.c0
    have pc1 := pb.c1
    have pc2 := pb.c2
    have pc3 := pb.c3
    refine bodyPost_ret (v := .tuple #[.agg #[.bool false, .slice none 0 0, .bool false, .slice none 0 0], .int .i64 3]) (by simp [results, Tryz.results27, go_sem, pc0, pc1, pc2, pc3]) rfl ?_
    exact ⟨fun h => absurd (h.symm.trans HRf.out) (by decide), fun _ => ⟨rfl, (((hE3.set (by simp) _).set (by simp) _).set (by simp) _).set (by simp) _⟩⟩
  have hXs := HXV.out rfl
  have bX : B k X := by rw [hXs]; exact parse_boundK (by omega) HDA.out.symm
  have HX := Lib.hid hXs
  clear hXs
  cases fb
  case false =>
    have hRt : R = true := by rw [HR.out]; exact HDA.out.symm
    have hq : q = Rat.divInt X 1 := by rw [HQ.out, HX.out]; rfl
    have HQ1 := Lib.hid hq
    have HRt := Lib.hid hRt
    clear hq hRt
    have hXB : BigB W _ X k := ⟨hX, bX⟩
    have HD0 : Hid ((1 : Int) ≠ 0) := Lib.hid (by decide)
    have ks := KE.start (R := [w.heap.size]) hE3 (by simp)
    have hb7 : w2.heap.size ∉ [w.heap.size] := by
      have h1 := B2.lt
      simp
      intro h
      have h2 := B7
      rw [h] at h2
      unfold Box at h2 B2
      rw [B2] at h2
      simp at h2
    have k70 : ∀ w', KE [w.heap.size] w W w' → w'.cell? ⟨w2.heap.size, 0, none⟩ = some (.bool p3) := fun w' h => (h.bx B7 hb7).c0
    have k71 : ∀ w', KE [w.heap.size] w W w' → w'.cell? ⟨w2.heap.size, 1, none⟩ = some (.slice A3 n3 c3) := fun w' h => (h.bx B7 hb7).c1
    go_upto_region 8 with fail
    go_region_held3 (fun w' => KE [w.heap.size] w W w') ((repeat (first | assumption | apply KE.drew | apply KE.drewN | apply KE.alloc | (refine KE.set ?_ (by simp) _) | (refine KE.step ?_ (by assumption))))) (first
        | (go_at_call 56; (with_reducible refine (Gcd_b _ _ _ _ _ _ _ (BigB.ext (by assumption) (by repeat (first | (with_reducible exact Ext.refl _) | (with_reducible apply Ext.drew) | (with_reducible apply Ext.drewN) | (with_reducible refine Ext.trans ?_ (by assumption))))) (BigB.ext (by assumption) (by repeat (first | (with_reducible exact Ext.refl _) | (with_reducible apply Ext.drew) | (with_reducible apply Ext.drewN) | (with_reducible refine Ext.trans ?_ (by assumption))))) (by first | omega | decide)).mono ?_); rintro e wk ⟨vk, rfl, hbk, hxk⟩; (obtain ⟨pk, Ak, nk, ck, rfl⟩ := hbk.1.shape))
        | (go_at_call 37; (with_reducible refine (Of_b _ _ (by first | assumption | decide) (by first | assumption | decide)).mono ?_); rintro e wk ⟨vk, rfl, hbk, hxk⟩; (obtain ⟨pk, Ak, nk, ck, rfl⟩ := hbk.1.shape))
        | (go_at_call 32; (with_reducible refine (red_b _ _ _ _ _ _ _ (BigB.ext (by assumption) (by repeat (first | (with_reducible exact Ext.refl _) | (with_reducible apply Ext.drew) | (with_reducible apply Ext.drewN) | (with_reducible refine Ext.trans ?_ (by assumption))))) (BigB.ext (by assumption) (by repeat (first | (with_reducible exact Ext.refl _) | (with_reducible apply Ext.drew) | (with_reducible apply Ext.drewN) | (with_reducible refine Ext.trans ?_ (by assumption))))) (by omega) HD0.out).mono ?_); rintro e wk ⟨vk, rfl, hbk, hxk⟩; (obtain ⟨pk, Ak, nk, ck, pk', Ak', nk', ck', rfl⟩ := hbk.1.shape); (have b2 := Box.ext B2 (show Ext W wk by repeat (first | (with_reducible exact Ext.refl _) | (with_reducible apply Ext.drew) | (with_reducible apply Ext.drewN) | (with_reducible refine Ext.trans ?_ (by assumption))))); have q0 := b2.c0; have q1 := b2.c1; have q2 := b2.c2; have q3 := b2.c3; have f0 := b2.frozen 0; have f1 := b2.frozen 1; have f2 := b2.frozen 2; have f3 := b2.frozen 3)
      )
    all_goals (rw [← HQ1.out] at hbk)
    all_goals go_wp2_with fail
    all_goals (
      obtain ⟨pp, pb⟩ := RatV.put hbk.1 b2
      have pc0 := pb.c0
      have pc1 := pb.c1
      have pc2 := pb.c2
      have pc3 := pb.c3
      refine bodyPost_ret (v := .tuple #[.agg #[.bool pk, .slice Ak nk ck, .bool pk', .slice Ak' nk' ck'], .int .i64 0]) (by simp [results, Tryz.results27, go_sem, pc0, pc1, pc2, pc3]) rfl ?_
      exact ⟨fun _ => ⟨_, rfl, ⟨pp, QB_mono (by omega) hbk.2⟩, KE.ext (R := [w.heap.size]) (W0 := W) (by assumption)⟩, fun h => absurd (h.symm.trans HRt.out) (by decide)⟩)
  go_wp2_with fail
  refine (Of_b 1 _ (by decide) (by decide)).mono ?_
  rintro e w4 ⟨v4, rfl, h4, hx4⟩
  obtain ⟨p4, A4, n4, c4, rfl⟩ := h4.1.shape
  go_upto_region 10 with fail
  have hx5 : Ext w4 (w4.alloc (.cells #[.bool p4, .slice A4 n4 c4] 26)) := (Ext.refl w4).alloc _
  have B9 := Box.new w4 26 #[.bool p4, .slice A4 n4 c4]
  have hx45 := hx4.trans hx5
  have hX := hX.ext hx45
  have h1 := h4.ext hx5
  have B7 := B7.ext hx45
  have B2 := B2.ext hx45
  have hE5 := hE3.trans hx45
  generalize (w4.alloc (.cells #[.bool p4, .slice A4 n4 c4] 26)) = W5 at *
  clear hx4 hx5 hx45 h4 hE3
  go_wp2_with fail
  refine (Parse_any sb _ (by omega)).mono ?_
  rintro e w6 ⟨v6, Y, rfl, hY, hYv, -, hx6⟩
  obtain ⟨db, hdb⟩ : ∃ b, b = isDec sb.data.toList := ⟨_, rfl⟩
  obtain ⟨et, het⟩ : ∃ es : Int, es = (if isDec sb.data.toList = true then 0 else 3) := ⟨_, rfl⟩
  rw [← het]
  rw [← hdb] at het hYv
  have hdte : (et != 0) = !db := by rw [het]; cases db <;> rfl
  have HDB := Lib.hid hdb
  have HYV := Lib.hid hYv
  clear het hdb hYv
  obtain ⟨p6, A6, n6, c6, rfl⟩ := hY.shape
  go_upto_region 11 with fail
  have hx7 : Ext w6 (w6.alloc (.cells #[.bool p6, .slice A6 n6 c6] 26)) := (Ext.refl w6).alloc _
  have B10 := Box.new w6 26 #[.bool p6, .slice A6 n6 c6]
  have hx67 := hx6.trans hx7
  have hX := hX.ext hx67
  have hY := hY.ext hx7
  have h1 := h1.ext hx67
  have B7 := B7.ext hx67
  have B9 := B9.ext hx67
  have B2 := B2.ext hx67
  have hE7 := hE5.trans hx67
  generalize (w6.alloc (.cells #[.bool p6, .slice A6 n6 c6] 26)) = W7 at *
  clear hx6 hx7 hx67 hE5
  cases db
  case false =>
    have hRf : R = false := by
      have h1 := HDB.out
      have h2 := HR.out
      rw [← h1] at h2
      rw [h2]; cases isDec sa.data.toList <;> rfl
    have HRf := Lib.hid hRf
    clear hRf
    have q0 := B2.c0
    have q1 := B2.c1
    have q2 := B2.c2
    have q3 := B2.c3
    have f0 := B2.frozen 0
    have f1 := B2.frozen 1
    have f2 := B2.frozen 2
    have f3 := B2.frozen 3
    go_region
    all_goals (go_wp2_with fail)
    all_goals (
      obtain ⟨pp, pb⟩ := RatV.put (RatV.zero W7) B2
      have pc0 := pb.c0
      have pc1 := pb.c1
      have pc2 := pb.c2
      have pc3 := pb.c3
      refine bodyPost_ret (v := .tuple #[.agg #[.bool false, .slice none 0 0, .bool false, .slice none 0 0], .int .i64 3]) (by simp [results, Tryz.results27, go_sem, pc0, pc1, pc2, pc3]) rfl ?_
      exact ⟨fun h => absurd (h.symm.trans HRf.out) (by decide), fun _ => ⟨rfl, Ext.drew ((((hE7.set (by simp) _).set (by simp) _).set (by simp) _).set (by simp) _)⟩⟩)
  have hYs := HYV.out rfl
  have bY : B k Y := by rw [hYs]; exact parse_boundK (by omega) HDB.out.symm
  have HY := Lib.hid hYs
  have hRR : R = (decide (1 < Y) && decide (Nat.gcd X.natAbs Y.natAbs = 1)) := by
    rw [HR.out, ← HDA.out, ← HDB.out, ← HX.out, ← HY.out]; rfl
  have HRR := Lib.hid hRR
  clear hYs hRR
  by_cases hy1 : 1 < Y
  case neg =>
    have e3 : decide (cmpZ Y 1 ≤ 0) = true := by
      unfold cmpZ; split <;> (try split) <;> simp <;> omega
    have hRf : R = false := by rw [HRR.out]; simp [hy1]
    have HRf := Lib.hid hRf
    clear hRf hy1
    have h1V := h1.1
    have k9 := B9.c0
    have k9' := B9.c1
    have k10 := B10.c0
    have k10' := B10.c1
    go_region_with (first
      | (go_at_call 36; (with_reducible refine (Cmp_any _ _ _ _ _ (hY.ext (by repeat (first | (with_reducible exact Ext.refl _) | (with_reducible apply Ext.drew) | (with_reducible apply Ext.drewN)))) (h1V.ext (by repeat (first | (with_reducible exact Ext.refl _) | (with_reducible apply Ext.drew) | (with_reducible apply Ext.drewN))))).mono ?_); rintro e w8 ⟨rfl, hx8⟩))
    all_goals (have B2 := B2.drew.ext hx8)
    all_goals (have hE8 := hE7.drew.trans hx8)
    all_goals (clear k9 k9' k10 k10')
    all_goals (
      have q0 := B2.c0
      have q1 := B2.c1
      have q2 := B2.c2
      have q3 := B2.c3
      have f0 := B2.frozen 0
      have f1 := B2.frozen 1
      have f2 := B2.frozen 2
      have f3 := B2.frozen 3
      go_wp2_with fail
      obtain ⟨pp, pb⟩ := RatV.put (RatV.zero w8) B2
      have pc0 := pb.c0
      have pc1 := pb.c1
      have pc2 := pb.c2
      have pc3 := pb.c3
      refine bodyPost_ret (v := .tuple #[.agg #[.bool false, .slice none 0 0, .bool false, .slice none 0 0], .int .i64 3]) (by simp [results, Tryz.results27, go_sem, pc0, pc1, pc2, pc3]) rfl ?_
      exact ⟨fun h => absurd (h.symm.trans HRf.out) (by decide), fun _ => ⟨rfl, (((hE8.set (by simp) _).set (by simp) _).set (by simp) _).set (by simp) _⟩⟩)
  case pos =>
    have e3 : decide (cmpZ Y 1 ≤ 0) = false := by
      unfold cmpZ; split <;> (try split) <;> simp <;> omega
    have hYB : BigB W7 _ Y k := ⟨hY, bY⟩
    have hXB : BigB W7 _ X k := ⟨hX, bX⟩
    have k90 : ∀ w', Later W7 w' → w'.cell? ⟨w4.heap.size, 0, none⟩ = some (.bool p4) := fun w' h => (B9.ext h).c0
    have k91 : ∀ w', Later W7 w' → w'.cell? ⟨w4.heap.size, 1, none⟩ = some (.slice A4 n4 c4) := fun w' h => (B9.ext h).c1
    have k100 : ∀ w', Later W7 w' → w'.cell? ⟨w6.heap.size, 0, none⟩ = some (.bool p6) := fun w' h => (B10.ext h).c0
    have k101 : ∀ w', Later W7 w' → w'.cell? ⟨w6.heap.size, 1, none⟩ = some (.slice A6 n6 c6) := fun w' h => (B10.ext h).c1
    have k70 : ∀ w', Later W7 w' → w'.cell? ⟨w2.heap.size, 0, none⟩ = some (.bool p3) := fun w' h => (B7.ext h).c0
    have k71 : ∀ w', Later W7 w' → w'.cell? ⟨w2.heap.size, 1, none⟩ = some (.slice A3 n3 c3) := fun w' h => (B7.ext h).c1
    have hS0 := Later.refl W7
    have HY1 := Lib.hid hy1
    clear hy1
    by_cases hg : Nat.gcd X.natAbs Y.natAbs = 1
    · have e4 : (cmpZ ((Nat.gcd X.natAbs Y.natAbs : Nat) : Int) 1 != 0) = false := by rw [hg]; rfl
      have hRt : R = true := by rw [HRR.out, Bool.and_eq_true]; exact ⟨decide_eq_true HY1.out, decide_eq_true hg⟩
      have hq : q = Rat.divInt X Y := by rw [HQ.out, HX.out, HY.out]; rfl
      have HQ1 := Lib.hid hq
      have HRt := Lib.hid hRt
      have HG := Lib.hid hg
      clear hRt hq hg
      go_region_held3 (fun w' => Later W7 w') ((repeat (first | assumption | apply Later.drew | apply Later.drewN | apply Later.alloc | (refine Later.step ?_ (by assumption))))) (first
          | (go_at_call 56; (with_reducible refine (Gcd_b _ _ _ _ _ _ _ (BigB.ext (by assumption) (by repeat (first | (with_reducible exact Ext.refl _) | (with_reducible apply Ext.drew) | (with_reducible apply Ext.drewN) | (with_reducible refine Ext.trans ?_ (by assumption))))) (BigB.ext (by assumption) (by repeat (first | (with_reducible exact Ext.refl _) | (with_reducible apply Ext.drew) | (with_reducible apply Ext.drewN) | (with_reducible refine Ext.trans ?_ (by assumption))))) (by first | omega | decide)).mono ?_); rintro e wk ⟨vk, rfl, hbk, hxk⟩; (obtain ⟨pk, Ak, nk, ck, rfl⟩ := hbk.1.shape))
          | (go_at_call 37; (with_reducible refine (Of_b _ _ (by first | assumption | decide) (by first | assumption | decide)).mono ?_); rintro e wk ⟨vk, rfl, hbk, hxk⟩; (obtain ⟨pk, Ak, nk, ck, rfl⟩ := hbk.1.shape))
          | (go_at_call 34; (with_reducible refine (RatDen_b _ _ _ _ (RatB.ext (by assumption) (by repeat (first | (with_reducible exact Ext.refl _) | (with_reducible apply Ext.drew) | (with_reducible apply Ext.drewN) | (with_reducible refine Ext.trans ?_ (by assumption)))))).mono ?_); rintro e wk ⟨vk, rfl, hbk, hxk⟩; (obtain ⟨pk, Ak, nk, ck, rfl⟩ := hbk.1.shape))
          | (go_at_call 33; (with_reducible refine (Mul_b _ _ _ _ _ _ _ (BigB.ext (by assumption) (by repeat (first | (with_reducible exact Ext.refl _) | (with_reducible apply Ext.drew) | (with_reducible apply Ext.drewN) | (with_reducible refine Ext.trans ?_ (by assumption))))) (BigB.ext (by assumption) (by repeat (first | (with_reducible exact Ext.refl _) | (with_reducible apply Ext.drew) | (with_reducible apply Ext.drewN) | (with_reducible refine Ext.trans ?_ (by assumption))))) (by omega)).mono ?_); rintro e wk ⟨vk, rfl, hbk, hxk⟩; (obtain ⟨pk, Ak, nk, ck, rfl⟩ := hbk.1.shape))
          | (go_at_call 40; (with_reducible refine (Add_b _ _ _ _ _ _ _ (BigB.ext (by assumption) (by repeat (first | (with_reducible exact Ext.refl _) | (with_reducible apply Ext.drew) | (with_reducible apply Ext.drewN) | (with_reducible refine Ext.trans ?_ (by assumption))))) (BigB.ext (by assumption) (by repeat (first | (with_reducible exact Ext.refl _) | (with_reducible apply Ext.drew) | (with_reducible apply Ext.drewN) | (with_reducible refine Ext.trans ?_ (by assumption))))) (by omega)).mono ?_); rintro e wk ⟨vk, rfl, hbk, hxk⟩; (obtain ⟨pk, Ak, nk, ck, rfl⟩ := hbk.1.shape))
          | (go_at_call 36; (with_reducible refine (Cmp_b _ _ _ _ _ _ _ (BigB.ext (by assumption) (by repeat (first | (with_reducible exact Ext.refl _) | (with_reducible apply Ext.drew) | (with_reducible apply Ext.drewN) | (with_reducible refine Ext.trans ?_ (by assumption))))) (BigB.ext (by assumption) (by repeat (first | (with_reducible exact Ext.refl _) | (with_reducible apply Ext.drew) | (with_reducible apply Ext.drewN) | (with_reducible refine Ext.trans ?_ (by assumption)))))).mono ?_); rintro e wk ⟨rfl, hxk⟩)
          | (go_at_call 43; (with_reducible refine (Neg_b _ _ _ _ (BigB.ext (by assumption) (by repeat (first | (with_reducible exact Ext.refl _) | (with_reducible apply Ext.drew) | (with_reducible apply Ext.drewN) | (with_reducible refine Ext.trans ?_ (by assumption)))))).mono ?_); rintro e wk ⟨vk, rfl, hbk, hxk⟩; (obtain ⟨pk, Ak, nk, ck, rfl⟩ := hbk.1.shape))
        )
      all_goals go_upto_region 13 with fail
      all_goals go_wp2_with fail
      all_goals (have hXc : Ext W7 _ := (show Later W7 _ by assumption))
      all_goals (
        refine (red_b _ _ _ _ _ _ _ (hXB.ext hXc) (hYB.ext hXc) (by omega) (by have := HY1.out; omega)).mono ?_
        rintro e w9 ⟨v9, rfl, h9, hx9⟩
        obtain ⟨pk, Ak, nk, ck, pk', Ak', nk', ck', rfl⟩ := h9.1.shape
        have B2 := B2.ext (hXc.trans hx9)
        have hE9 := (hE7.trans hXc).trans hx9
        rw [← HQ1.out] at h9
        clear k90 k91 k100 k101 k70 k71
        have q0 := B2.c0
        have q1 := B2.c1
        have q2 := B2.c2
        have q3 := B2.c3
        have f0 := B2.frozen 0
        have f1 := B2.frozen 1
        have f2 := B2.frozen 2
        have f3 := B2.frozen 3
        go_wp2_with fail
        obtain ⟨pp, pb⟩ := RatV.put h9.1 B2
        have pc0 := pb.c0
        have pc1 := pb.c1
        have pc2 := pb.c2
        have pc3 := pb.c3
        refine bodyPost_ret (v := .tuple #[.agg #[.bool pk, .slice Ak nk ck, .bool pk', .slice Ak' nk' ck'], .int .i64 0]) (by simp [results, Tryz.results27, go_sem, pc0, pc1, pc2, pc3]) rfl ?_
        exact ⟨fun _ => ⟨_, rfl, ⟨pp, QB_mono (by omega) h9.2⟩, (((hE9.set (by simp) _).set (by simp) _).set (by simp) _).set (by simp) _⟩, fun h => absurd (h.symm.trans HRt.out) (by decide)⟩)
    · have e4 : (cmpZ ((Nat.gcd X.natAbs Y.natAbs : Nat) : Int) 1 != 0) = true := by
        have := mt cmpZ_zero'.1 (show ¬ ((Nat.gcd X.natAbs Y.natAbs : Nat) : Int) = 1 by omega)
        simpa using this
      have hRf : R = false := by rw [HRR.out, decide_eq_false hg, Bool.and_false]
      have HRf := Lib.hid hRf
      clear hRf hg
      go_region_held3 (fun w' => Later W7 w') ((repeat (first | assumption | apply Later.drew | apply Later.drewN | apply Later.alloc | (refine Later.step ?_ (by assumption))))) (first
          | (go_at_call 56; (with_reducible refine (Gcd_b _ _ _ _ _ _ _ (BigB.ext (by assumption) (by repeat (first | (with_reducible exact Ext.refl _) | (with_reducible apply Ext.drew) | (with_reducible apply Ext.drewN) | (with_reducible refine Ext.trans ?_ (by assumption))))) (BigB.ext (by assumption) (by repeat (first | (with_reducible exact Ext.refl _) | (with_reducible apply Ext.drew) | (with_reducible apply Ext.drewN) | (with_reducible refine Ext.trans ?_ (by assumption))))) (by first | omega | decide)).mono ?_); rintro e wk ⟨vk, rfl, hbk, hxk⟩; (obtain ⟨pk, Ak, nk, ck, rfl⟩ := hbk.1.shape))
          | (go_at_call 37; (with_reducible refine (Of_b _ _ (by first | assumption | decide) (by first | assumption | decide)).mono ?_); rintro e wk ⟨vk, rfl, hbk, hxk⟩; (obtain ⟨pk, Ak, nk, ck, rfl⟩ := hbk.1.shape))
          | (go_at_call 34; (with_reducible refine (RatDen_b _ _ _ _ (RatB.ext (by assumption) (by repeat (first | (with_reducible exact Ext.refl _) | (with_reducible apply Ext.drew) | (with_reducible apply Ext.drewN) | (with_reducible refine Ext.trans ?_ (by assumption)))))).mono ?_); rintro e wk ⟨vk, rfl, hbk, hxk⟩; (obtain ⟨pk, Ak, nk, ck, rfl⟩ := hbk.1.shape))
          | (go_at_call 33; (with_reducible refine (Mul_b _ _ _ _ _ _ _ (BigB.ext (by assumption) (by repeat (first | (with_reducible exact Ext.refl _) | (with_reducible apply Ext.drew) | (with_reducible apply Ext.drewN) | (with_reducible refine Ext.trans ?_ (by assumption))))) (BigB.ext (by assumption) (by repeat (first | (with_reducible exact Ext.refl _) | (with_reducible apply Ext.drew) | (with_reducible apply Ext.drewN) | (with_reducible refine Ext.trans ?_ (by assumption))))) (by omega)).mono ?_); rintro e wk ⟨vk, rfl, hbk, hxk⟩; (obtain ⟨pk, Ak, nk, ck, rfl⟩ := hbk.1.shape))
          | (go_at_call 40; (with_reducible refine (Add_b _ _ _ _ _ _ _ (BigB.ext (by assumption) (by repeat (first | (with_reducible exact Ext.refl _) | (with_reducible apply Ext.drew) | (with_reducible apply Ext.drewN) | (with_reducible refine Ext.trans ?_ (by assumption))))) (BigB.ext (by assumption) (by repeat (first | (with_reducible exact Ext.refl _) | (with_reducible apply Ext.drew) | (with_reducible apply Ext.drewN) | (with_reducible refine Ext.trans ?_ (by assumption))))) (by omega)).mono ?_); rintro e wk ⟨vk, rfl, hbk, hxk⟩; (obtain ⟨pk, Ak, nk, ck, rfl⟩ := hbk.1.shape))
          | (go_at_call 36; (with_reducible refine (Cmp_b _ _ _ _ _ _ _ (BigB.ext (by assumption) (by repeat (first | (with_reducible exact Ext.refl _) | (with_reducible apply Ext.drew) | (with_reducible apply Ext.drewN) | (with_reducible refine Ext.trans ?_ (by assumption))))) (BigB.ext (by assumption) (by repeat (first | (with_reducible exact Ext.refl _) | (with_reducible apply Ext.drew) | (with_reducible apply Ext.drewN) | (with_reducible refine Ext.trans ?_ (by assumption)))))).mono ?_); rintro e wk ⟨rfl, hxk⟩)
          | (go_at_call 43; (with_reducible refine (Neg_b _ _ _ _ (BigB.ext (by assumption) (by repeat (first | (with_reducible exact Ext.refl _) | (with_reducible apply Ext.drew) | (with_reducible apply Ext.drewN) | (with_reducible refine Ext.trans ?_ (by assumption)))))).mono ?_); rintro e wk ⟨vk, rfl, hbk, hxk⟩; (obtain ⟨pk, Ak, nk, ck, rfl⟩ := hbk.1.shape))
        )
      all_goals go_upto_region 12 with fail
      all_goals (have hXc : Ext W7 _ := (show Later W7 _ by assumption))
      all_goals (
        have B2 := B2.ext hXc
        have hE9 := hE7.trans hXc
        clear k90 k91 k100 k101 k70 k71
        have q0 := B2.c0
        have q1 := B2.c1
        have q2 := B2.c2
        have q3 := B2.c3
        have f0 := B2.frozen 0
        have f1 := B2.frozen 1
        have f2 := B2.frozen 2
        have f3 := B2.frozen 3
        go_wp2_with fail
        obtain ⟨pp, pb⟩ := RatV.put (RatV.zero _) B2
        have pc0 := pb.c0
        have pc1 := pb.c1
        have pc2 := pb.c2
        have pc3 := pb.c3
        refine bodyPost_ret (v := .tuple #[.agg #[.bool false, .slice none 0 0, .bool false, .slice none 0 0], .int .i64 3]) (by simp [results, Tryz.results27, go_sem, pc0, pc1, pc2, pc3]) rfl ?_
        exact ⟨fun h => absurd (h.symm.trans HRf.out) (by decide), fun _ => ⟨rfl, (((hE9.set (by simp) _).set (by simp) _).set (by simp) _).set (by simp) _⟩⟩)
end Go.Proofs.YtginogcdjplhiaaGreatDoor.Rt

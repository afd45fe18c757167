/- Walks: few and Tree of the law. Walk: awake (the example of the chapter). Encode of the laws' trees; walk: CertificateCuts. The law CertificateText, walked. -/
import Derived.Test.YtljncdcjkdgkeaaGreatDoorKCardU
import Derived.Test.YtljncdcjkdgkeaaGreatDoorKCDU
import Derived.Test.YtljncdcjkdgkeaaGreatDoorKCYC
set_option linter.unusedVariables false
set_option linter.unusedSimpArgs false
namespace Go.Proofs.YtljncdcjkdgkeaaGreatDoor.Lp
open Go.RowKit Go.Proofs.YtljncdcjkdgkeaaGreatDoor.Big Go.Proofs.YtljncdcjkdgkeaaGreatDoor.Rt

def fewB (l : List ND) : Bool := decide (l.length ≤ 40) && l.all (fun x => decide (x.num.length ≤ 12))
theorem fewB_iff {l : List ND} : fewB l = true ↔ l.length ≤ 40 ∧ ∀ x ∈ l, x.num.length ≤ 12 := by
  unfold fewB
  simp
set_option maxHeartbeats 2000000 in
set_option maxRecDepth 100000 in
theorem few_b (v : Value) (l : List ND) (w : World) (hv : NodesV w v l) :
    Calls Tryz.prog 10 #[v] w (ValPost w (.int .i64 (if fewB l then 1 else 0))) := by
  obtain ⟨A, c, rfl, hlc, hc, hel⟩ := hv
  obtain ⟨F, hF⟩ : ∃ F, F = fewB l := ⟨_, rfl⟩
  rw [← hF]
  obtain ⟨R, hR⟩ : ∃ R : Int, R = if F then 1 else 0 := ⟨_, rfl⟩
  have HR0 : Hid (F = false → R = 0) := Lib.hid (fun h => by rw [hR, h]; rfl)
  have HR1 : Hid (F = true → R = 1) := Lib.hid (fun h => by rw [hR, h]; rfl)
  rw [← hR]
  have HF := Lib.hid hF
  clear hR hF
  obtain ⟨n, hn⟩ : ∃ n, n = l.length := ⟨_, rfl⟩
  rw [← hn] at hlc hel ⊢
  have HN := Lib.hid hn
  have HEL := Lib.hid hel
  clear hn hel
  go_enter Tryz.func10, Tryz.ntmps10
  by_cases h1 : n ≤ 40
  case neg =>
    have e1 : decide ((40 : Int) < (n : Int)) = true := by simp; omega
    have HE : Hid (F = false) := Lib.hid (by
      rw [HF.out]
      cases e : fewB l with
      | false => rfl
      | true => exact absurd (HN.out ▸ (fewB_iff.1 e).1) h1)
    clear h1
    go_wp2_with fail
    go_ret
    exact ⟨by rw [HR0.out HE.out] <;> rfl, Ext.refl w⟩
  case pos =>
  have e1 : decide ((40 : Int) < (n : Int)) = false := by simp; omega
  go_upto_region 3 with fail
  clear e1
  go_wp2_with fail
  go_loopw [3] (fun i wr => ∃ j : Nat, j ≤ n ∧ i = .int .i64 j ∧ Hid (∀ k x, k < j → l[k]? = some x → x.num.length ≤ 12) ∧ wr = w) (fun i _ => n - (intOf i).toNat)
  case atStart => exact ⟨0, by omega, rfl, Lib.hid (fun k x hk => absurd hk (by omega)), rfl⟩
  case round =>
    obtain ⟨j, hj, rfl, HJ, rfl⟩ := hrel
    by_cases hlt : j < n
    · obtain ⟨b, off, rfl, hnd⟩ := HEL.out (by omega)
      obtain ⟨x, hx⟩ : ∃ x, l[j]? = some x := ⟨_, List.getElem?_eq_getElem (by have := HN.out; omega)⟩
      obtain ⟨An, cn, Ad, cd, g0, g1, g2, g3, g4, g5, r1, r2⟩ := hnd j x hx
      obtain ⟨m, hm⟩ : ∃ m, m = x.num.length := ⟨_, rfl⟩
      rw [← hm] at g3
      have i1 : (0 : Int) ≤ (j : Int) := by omega
      have i2 : (j : Int) < (n : Int) := by omega
      clear g0 g1 g2 g4 g5 r1 r2 hnd
      by_cases h3 : m ≤ 12
      · have e3 : decide ((12 : Int) < (m : Int)) = false := by simp; omega
        have HN1 : Hid (∀ k x, k < j + 1 → l[k]? = some x → x.num.length ≤ 12) := Lib.hid (fun k y hk hy => by
          by_cases e : k = j
          · subst e
            rw [hx] at hy
            injection hy with hy
            rw [← hy]; omega
          · exact HJ.out k y (by omega) hy)
        clear h3 hm hx
        go_wp2_with fail
        go_roundw
        case rel => exact ⟨j + 1, by omega, by go_num, HN1, trivial⟩
        case measure => simp [intOf]; omega
      · have e3 : decide ((12 : Int) < (m : Int)) = true := by simp; omega
        have HE : Hid (F = false) := Lib.hid (by
          rw [HF.out]
          cases e : fewB l with
          | false => rfl
          | true => exact absurd (hm ▸ (fewB_iff.1 e).2 x (List.mem_of_getElem? hx)) h3)
        clear h3 hm hx
        go_wp2_with fail
        go_ret
        exact ⟨by rw [HR0.out HE.out] <;> rfl, Ext.refl _⟩
    · obtain rfl : j = n := by omega
      have HE : Hid (F = true) := Lib.hid (by
        rw [HF.out, fewB_iff]
        refine ⟨by rw [← HN.out]; exact h1, fun x hx => ?_⟩
        obtain ⟨k, hk, rfl⟩ := List.mem_iff_getElem.1 hx
        exact HJ.out k _ (by rw [HN.out]; exact hk) (List.getElem?_eq_getElem hk))
      go_wp2_with fail
      go_ret
      exact ⟨by rw [HR1.out HE.out] <;> rfl, Ext.refl _⟩
theorem Tree_b (v : Value) (l : List ND) (w : World) (hv : NodesV w v l) (hok : ∀ x ∈ l, okN x) :
    Calls Tryz.prog 11 #[v] w (fun e w' => ∃ A, e = .returned (.pointer A) ∧ TreeI w' (buildT 31 l).1 A w.heap.size w'.heap.size ∧ Ext w w') := by
  have h := build_b 31 l 0 v w w (by omega) (Ext.refl w) hv hok
  go_enter Tryz.func11, Tryz.ntmps11
  go_wp2_with fail
  refine h.mono ?_
  rintro e w1 ⟨A, v1, rfl, hT, hv1, hx⟩
  clear h
  go_wp2_with fail
  go_ret
  exact ⟨A, rfl, hT, hx⟩
end Go.Proofs.YtljncdcjkdgkeaaGreatDoor.Lp
namespace Go.Proofs.YtljncdcjkdgkeaaGreatDoor.Lp
open Go.RowKit Go.Proofs.YtljncdcjkdgkeaaGreatDoor.Big Go.Proofs.YtljncdcjkdgkeaaGreatDoor.Rt

/-- the problem of the example -/
def pA : Prob := ⟨1, 1, fun _ => ((1 : Int) : Rat), fun _ => 1, fun _ _ => ((2 : Int) : Rat), fun _ => 1, fun _ => ((5 : Int) : Rat)⟩
def yA : Nat → Rat := fun _ => Rat.divInt 1 2
theorem row1 {w : World} {b : Nat} {p p' : Bool} {A A' : Option Addr} {m c m' c' : Nat} {q : Rat} (B : Box w b 58 #[.bool p, .slice A m c, .bool p', .slice A' m' c']) (h : RatV w (.agg #[.bool p, .slice A m c, .bool p', .slice A' m' c']) q) : RowR w b 1 (fun _ => q) := by
  refine ⟨_, B, by simp, fun j hj => ?_⟩
  obtain rfl : j = 0 := by omega
  exact ⟨p, A, m, c, p', A', m', c', rfl, rfl, rfl, rfl, h⟩
theorem pA_valid : validB pA = true := by decide +kernel
theorem awk_leaf : leafB pA 1 yA (Rat.divInt 5 2) = true := by decide +kernel
theorem awk_two : chkB (bndB pA 1 yA) (pA.rhs yA) (limZ 2 (alZ pA.obj pA.n)) (alZ pA.obj pA.n) = true := by decide +kernel
theorem awk_one : chkB (bndB pA 1 yA) (pA.rhs yA) (limZ 1 (alZ pA.obj pA.n)) (alZ pA.obj pA.n) = false := by decide +kernel
theorem awk_text : leafT false yA 1 = [98, 111, 117, 110, 100, 32, 49, 47, 50, 10] := by decide +kernel
set_option maxHeartbeats 2000000 in
set_option maxRecDepth 100000 in
theorem awake_c (w : World) (htab : TabOK w) : Calls Tryz.prog 9 #[] w (fun e w' => e = .returned (.bool true) ∧ Ext w w') := by
  go_enter Tryz.func9, Tryz.ntmps9
  go_wp2_with fail
  refine (RatOf_b 1 _ (by omega) (by omega)).mono ?_
  rintro e w1 ⟨v1, rfl, hb1, hx1⟩
  obtain ⟨p1, A1, n1, c1, p1', A1', n1', c1', rfl⟩ := hb1.1.shape
  have B1 := Box.new w1 58 #[.bool p1, .slice A1 n1 c1, .bool p1', .slice A1' n1' c1']
  have hy1 : Ext w1 (w1.alloc (.cells #[.bool p1, .slice A1 n1 c1, .bool p1', .slice A1' n1' c1'] 58)) := (Ext.refl w1).alloc _
  go_wp2_with fail
  generalize (w1.alloc (.cells #[.bool p1, .slice A1 n1 c1, .bool p1', .slice A1' n1' c1'] 58)) = V1 at *
  obtain ⟨ob, hob⟩ : ∃ x, x = w1.heap.size := ⟨_, rfl⟩
  rw [← hob] at B1 ⊢
  clear hob
  have hR1 := row1 B1 (hb1.1.ext hy1)
  have q1 := hb1.2
  have hE1 := hx1.trans hy1
  clear B1 hb1 hx1 hy1
  refine (RatOf_b 2 _ (by omega) (by omega)).mono ?_
  rintro e w2 ⟨v2, rfl, hb2, hx2⟩
  obtain ⟨p2, A2, n2, c2, p2', A2', n2', c2', rfl⟩ := hb2.1.shape
  have B2 := Box.new w2 58 #[.bool p2, .slice A2 n2 c2, .bool p2', .slice A2' n2' c2']
  have hy2 : Ext w2 (w2.alloc (.cells #[.bool p2, .slice A2 n2 c2, .bool p2', .slice A2' n2' c2'] 58)) := (Ext.refl w2).alloc _
  go_wp2_with fail
  generalize (w2.alloc (.cells #[.bool p2, .slice A2 n2 c2, .bool p2', .slice A2' n2' c2'] 58)) = V2 at *
  obtain ⟨cb, hcb⟩ : ∃ x, x = w2.heap.size := ⟨_, rfl⟩
  rw [← hcb] at B2 ⊢
  clear hcb
  have hR2 := row1 B2 (hb2.1.ext hy2)
  have q2 := hb2.2
  have hR1 := (hR1.ext hx2).ext hy2
  have hE2 := (hE1.trans hx2).trans hy2
  clear B2 hb2 hx2 hy2 hE1
  refine (RatOf_b 5 _ (by omega) (by omega)).mono ?_
  rintro e w3 ⟨v3, rfl, hb3, hx3⟩
  obtain ⟨p3, A3, n3, c3, p3', A3', n3', c3', rfl⟩ := hb3.1.shape
  obtain ⟨B3, PB, hy3⟩ := boxesT2 w3 75 41 #[.slice (some ⟨cb, 0, none⟩) 1 1, .int .u8 1, .bool p3, .slice A3 n3 c3, .bool p3', .slice A3' n3' c3'] #[.slice (some ⟨ob, 0, none⟩) 1 1, .slice (some ⟨w3.heap.size, 0, none⟩) 1 1]
  go_upto_region 2 with fail
  generalize ((w3.alloc (.cells #[.slice (some ⟨cb, 0, none⟩) 1 1, .int .u8 1, .bool p3, .slice A3 n3 c3, .bool p3', .slice A3' n3' c3'] 75)).alloc (.cells #[.slice (some ⟨ob, 0, none⟩) 1 1, .slice (some ⟨w3.heap.size, 0, none⟩) 1 1] 41)) = V3 at *
  obtain ⟨pb, hpb⟩ : ∃ x, x = w3.heap.size + 1 := ⟨_, rfl⟩
  rw [← hpb] at PB ⊢
  clear hpb
  obtain ⟨rb, hrb⟩ : ∃ x, x = w3.heap.size := ⟨_, rfl⟩
  rw [← hrb] at PB B3
  clear hrb
  have hR2 := (hR2.ext hx3).ext hy3
  have hR1 := (hR1.ext hx3).ext hy3
  have hE3 := (hE2.trans hx3).trans hy3
  have hb3 := hb3.ext hy3
  have hv3 : ProbV V3 (.agg #[.slice (some ⟨ob, 0, none⟩) 1 1, .slice (some ⟨rb, 0, none⟩) 1 1]) pA := by
    refine ⟨_, 1, _, 1, rfl, ⟨by decide, by omega, fun _ => ⟨_, rfl, hR1⟩⟩, by decide, by omega, fun _ => ⟨_, rfl, fun i hi => ?_⟩⟩
    have hi : i < 1 := hi
    obtain rfl : i = 0 := by omega
    exact ⟨_, 1, p3, A3, n3, c3, p3', A3', n3', c3', B3.cell 0, B3.cell 1, B3.cell 2, B3.cell 3, B3.cell 4, B3.cell 5, ⟨by decide, by omega, fun _ => ⟨_, rfl, hR2⟩⟩, by decide, hb3.1⟩
  have HC : Hid (∀ i, i < pA.m → ∀ j, j < pA.n → QB 2 (pA.coef i j)) := Lib.hid fun _ _ _ _ => q2
  have HR : Hid (∀ i, i < pA.m → QB 2 (pA.right i)) := Lib.hid fun _ _ => hb3.2
  have HO : Hid (∀ j, j < pA.n → QB 2 (pA.obj j)) := Lib.hid fun _ _ => q1
  clear q1 q2 hb3 B3 hR1 hR2 hx3 hy3 hE2
  go_wp2_with fail
  refine (Frac_b 1 2 _ (by omega) (by omega) (by omega) (by omega) (by omega)).mono ?_
  rintro e w4 ⟨v4, rfl, hb4, hx4⟩
  obtain ⟨p4, A4, n4, c4, p4', A4', n4', c4', rfl⟩ := hb4.1.shape
  go_upto_region 3 with fail
  have HB := Box.new w4 58 #[.bool p4, .slice A4 n4 c4, .bool p4', .slice A4' n4' c4']
  have hy4 : Ext w4 (w4.alloc (.cells #[.bool p4, .slice A4 n4 c4, .bool p4', .slice A4' n4' c4'] 58)) := (Ext.refl w4).alloc _
  generalize (w4.alloc (.cells #[.bool p4, .slice A4 n4 c4, .bool p4', .slice A4' n4' c4'] 58)) = V4 at *
  obtain ⟨hb, hhb⟩ : ∃ x, x = w4.heap.size := ⟨_, rfl⟩
  rw [← hhb] at HB ⊢
  clear hhb
  have hx4 := hx4.trans hy4
  have hb4 := hb4.ext hy4
  have hv4 := hv3.ext hx4
  have PB4 := PB.ext hx4
  have hE4 := hE3.trans hx4
  clear hv3 PB hE3 hx4 hy4
  go_wp2_with fail
  refine (Frac_b 5 2 _ (by omega) (by omega) (by omega) (by omega) (by omega)).mono ?_
  rintro e w5 ⟨v5, rfl, hb5, hx5⟩
  obtain ⟨p5, A5, n5, c5, p5', A5', n5', c5', rfl⟩ := hb5.1.shape
  go_upto_region 4 with fail
  have LB := Box.new w5 58 #[.bool p5, .slice A5 n5 c5, .bool p5', .slice A5' n5' c5']
  have hy5 : Ext w5 (w5.alloc (.cells #[.bool p5, .slice A5 n5 c5, .bool p5', .slice A5' n5' c5'] 58)) := (Ext.refl w5).alloc _
  generalize (w5.alloc (.cells #[.bool p5, .slice A5 n5 c5, .bool p5', .slice A5' n5' c5'] 58)) = V5 at *
  obtain ⟨lb, hlb⟩ : ∃ x, x = w5.heap.size := ⟨_, rfl⟩
  rw [← hlb] at LB ⊢
  clear hlb
  have hx5 := hx5.trans hy5
  have hb5 := hb5.ext hy5
  have hv5 := hv4.ext hx5
  have PB5 := PB4.ext hx5
  have HB5 := HB.ext hx5
  have hb45 := hb4.ext hx5
  have hE5 := hE4.trans hx5
  clear hv4 PB4 HB hb4 hE4 hx5 hy5
  have h0 := HB5.c0
  have h1 := HB5.c1
  have h2 := HB5.c2
  have h3 := HB5.c3
  obtain ⟨YB, TB, hy6⟩ := boxesT2 V5 58 79 #[.bool p4, .slice A4 n4 c4, .bool p4', .slice A4' n4' c4'] (NodeC (-1) 0 none none false (some ⟨V5.heap.size, 0, none⟩) 1 1)
  unfold NodeC at TB YB hy6
  go_upto_region 5 with fail
  generalize ((V5.alloc (.cells #[.bool p4, .slice A4 n4 c4, .bool p4', .slice A4' n4' c4'] 58)).alloc (.cells #[.int .i64 (-1), .int .i64 0, .pointer none, .pointer none, .bool false, .slice (some ⟨V5.heap.size, 0, none⟩) 1 1] 79)) = V6 at *
  obtain ⟨tb, htb⟩ : ∃ x, x = V5.heap.size + 1 := ⟨_, rfl⟩
  rw [← htb] at TB ⊢
  clear htb
  obtain ⟨yb, hyb⟩ : ∃ x, x = V5.heap.size := ⟨_, rfl⟩
  rw [← hyb] at TB YB
  clear hyb
  have hv6 := hv5.ext hy6
  have PB6 := PB5.ext hy6
  have LB6 := LB.ext hy6
  have hb6 := hb5.ext hy6
  have hY6 : RatsV V6 (some ⟨yb, 0, none⟩) 1 1 yA := ⟨by omega, by omega, fun _ => ⟨_, rfl, row1 YB (hb45.ext hy6).1⟩⟩
  have HY : Hid (∀ j, j < 1 → QB 2 (yA j)) := Lib.hid fun _ _ => hb45.2
  have hE6 := hE5.trans hy6
  clear hv5 PB5 LB hb5 hb45 hE5 hy6 h0 h1 h2 h3 HB5 YB
  have hwf : ∀ W, Ext V6 W → Calls Tryz.prog 32 #[.pointer (some ⟨tb, 0, none⟩)] W (fun e w' => e = .returned (.bool true) ∧ Ext W w') := fun W hW => by
    have h := wellFormed_leaf tb 0 false (some ⟨yb, 0, none⟩) 1 1 W (TB.ext hW)
    rw [show decide ((0 : Int) = 0) = true by decide] at h
    exact h
  have hen : Calls Tryz.prog 12 #[.pointer (some ⟨tb, 0, none⟩)] V6 (EnPost true [98, 111, 117, 110, 100, 32, 49, 47, 50, 10] V6) :=
    Encode_any _ true _ _ (by decide) hwf (fun _ w0 W b fb e0 e1 hB _ _ _ _ => by
      have h := write_leaf w0 W b tb (.pointer (some ⟨fb, 0, none⟩)) [] 0 false (some ⟨yb, 0, none⟩) 1 1 2 yA e1 hB (by simp) (TB.ext e0) (hY6.ext e0) (by omega) (by omega) (by omega) HY.out (htab.ext (hE6.trans e0))
      rw [List.nil_append, awk_text] at h
      exact h)
  go_wp2_with fail
  refine hen.mono ?_
  rintro e w7 ⟨hx7, ⟨-, rfl⟩ | ⟨h, -⟩⟩
  · have HL : ∀ W, Ext V6 W → Calls Tryz.prog 30 #[.agg #[.slice (some ⟨ob, 0, none⟩) 1 1, .slice (some ⟨rb, 0, none⟩) 1 1], .agg #[.bool p5, .slice A5 n5 c5, .bool p5', .slice A5' n5' c5'], .slice (some ⟨yb, 0, none⟩) 1 1] W (ValPost W (.bool true)) := fun W hW => by
      have h := Leaf_b _ pA _ (Rat.divInt 5 2) (some ⟨yb, 0, none⟩) 1 1 yA 2 2 2 2 2 8 W (hv6.ext hW) (hb6.ext hW) (hY6.ext hW) HC.out HR.out HO.out HY.out (by decide) (by decide) (by decide) (by decide) (by decide)
      rw [awk_leaf] at h
      exact h
    have HK : ∀ (z : Int) (R : Bool), z = 1 ∨ z = 2 → chkB (bndB pA 1 yA) (pA.rhs yA) (limZ z (alZ pA.obj pA.n)) (alZ pA.obj pA.n) = R → ∀ W, Ext V6 W → Calls Tryz.prog 16 #[.agg #[.slice (some ⟨ob, 0, none⟩) 1 1, .slice (some ⟨rb, 0, none⟩) 1 1], .int .i64 z, .pointer (some ⟨tb, 0, none⟩)] W (ValPost W (.int .i64 (chkE true R))) := fun z R hz hR W hW => by
      have h := Check_any _ (.pointer (some ⟨tb, 0, none⟩)) pA z true true R 2 W (hv6.ext hW) (by omega) (by omega) (by decide) HO.out (fun W' h' => hwf W' (hW.trans h'))
        (fun _ _ W' h' => by
          have h := fits_leaf tb 0 false (some ⟨yb, 0, none⟩) 1 1 (some ⟨ob, 0, none⟩) (some ⟨rb, 0, none⟩) 1 1 1 1 W' ((TB.ext hW).ext h') (by omega)
          rw [show decide ((1 : Nat) = 1) = true by decide] at h
          exact h)
        (fun _ _ _ W' fb lb sb u1 u3 U2 U4 l2 l3 l4 l5 h' _ _ _ _ BL hz' BS => by
          have h := provesC_leaf _ (.pointer (some ⟨fb, 0, none⟩)) tb lb sb 0 pA (some ⟨yb, 0, none⟩) 1 1 yA 2 2 2 2 5 8 _ (alZ pA.obj pA.n) u1 u3 U2 U4 l2 l3 l4 l5 W' ((TB.ext hW).ext h') ((hv6.ext hW).ext h') pA_valid ((hY6.ext hW).ext h') BL hz' BS HC.out HR.out HO.out HY.out (by decide) (by decide) (by decide) (by decide) (by decide)
          rw [hR] at h
          exact h)
      rw [pA_valid] at h
      exact h
    have HK2 : ∀ W, Ext V6 W → Calls Tryz.prog 16 #[.agg #[.slice (some ⟨ob, 0, none⟩) 1 1, .slice (some ⟨rb, 0, none⟩) 1 1], .int .i64 2, .pointer (some ⟨tb, 0, none⟩)] W (ValPost W (.int .i64 0)) := HK 2 true (by omega) awk_two
    have HK1 : ∀ W, Ext V6 W → Calls Tryz.prog 16 #[.agg #[.slice (some ⟨ob, 0, none⟩) 1 1, .slice (some ⟨rb, 0, none⟩) 1 1], .int .i64 1, .pointer (some ⟨tb, 0, none⟩)] W (ValPost W (.int .i64 19)) := HK 1 false (by omega) awk_one
    have k0 : ∀ w', Later V6 w' → w'.cell? ⟨pb, 0, none⟩ = some _ := fun w' h => (PB6.ext h).c0
    have k1 : ∀ w', Later V6 w' → w'.cell? ⟨pb, 1, none⟩ = some _ := fun w' h => (PB6.ext h).c1
    have k2 : ∀ w', Later V6 w' → w'.cell? ⟨lb, 0, none⟩ = some _ := fun w' h => (LB6.ext h).c0
    have k3 : ∀ w', Later V6 w' → w'.cell? ⟨lb, 1, none⟩ = some _ := fun w' h => (LB6.ext h).c1
    have k4 : ∀ w', Later V6 w' → w'.cell? ⟨lb, 2, none⟩ = some _ := fun w' h => (LB6.ext h).c2
    have k5 : ∀ w', Later V6 w' → w'.cell? ⟨lb, 3, none⟩ = some _ := fun w' h => (LB6.ext h).c3
    have k6 : ∀ w', Later V6 w' → w'.cell? ⟨tb, 5, none⟩ = some (.slice (some ⟨yb, 0, none⟩) 1 1) := fun w' h => (TB.ext h).cell 5
    have ks : Later V6 w7 := hx7
    clear HK hen hwf hv6 PB6 LB6 TB hb6 hY6
    go_upto_region 6 with fail
    go_region_held3 (fun w' => Later V6 w') ((repeat (first | assumption | apply Later.drew | apply Later.drewN | apply Later.alloc | (refine Later.step ?_ (by assumption))))) (first
      | (go_at_call 30; (with_reducible refine (HL _ (by repeat (first | (with_reducible exact Ext.refl _) | (with_reducible apply Ext.drew) | (with_reducible apply Ext.drewN) | (with_reducible refine Ext.trans ?_ (by assumption))))).mono ?_); rintro e wk ⟨rfl, hxk⟩)
      | (go_at_call 16; (with_reducible refine (HK2 _ (by repeat (first | (with_reducible exact Ext.refl _) | (with_reducible apply Ext.drew) | (with_reducible apply Ext.drewN) | (with_reducible refine Ext.trans ?_ (by assumption))))).mono ?_); rintro e wk ⟨rfl, hxk⟩)
      | (go_at_call 16; (with_reducible refine (HK1 _ (by repeat (first | (with_reducible exact Ext.refl _) | (with_reducible apply Ext.drew) | (with_reducible apply Ext.drewN) | (with_reducible refine Ext.trans ?_ (by assumption))))).mono ?_); rintro e wk ⟨rfl, hxk⟩)
      )
    all_goals (
      go_wp2_with fail
      go_ret
      refine ⟨rfl, hE6.trans ?_⟩
      repeat (first | assumption | (with_reducible refine Ext.trans ?_ (by assumption)) | (with_reducible apply Ext.drew) | (with_reducible apply Ext.drewN)))
  · cases h
end Go.Proofs.YtljncdcjkdgkeaaGreatDoor.Lp
namespace Go.Proofs.YtljncdcjkdgkeaaGreatDoor.Dc
open Go.RowKit Go.Proofs.YtljncdcjkdgkeaaGreatDoor.Big Go.Proofs.YtljncdcjkdgkeaaGreatDoor.Lp Go.Proofs.YtljncdcjkdgkeaaGreatDoor.Rt

theorem Encode_f (t : CT) (A : Option Addr) (bb h : Nat) (w : World) (hT : TreeI w t A bb h) (hd : t.dep ≤ 200) (hok : t.okY 2) (hfw : t.few 12) (hsz : t.size ≤ 100) (htab : TabOK w) :
    Calls Tryz.prog 12 #[.pointer A] w (fun e w' => Ext w w' ∧ ((t.wf = true ∧ (treeT t).length ≤ 60000 ∧ e = .returned (.tuple #[.string (str (treeT t)), .int .i64 0])) ∨ (t.wf = false ∧ e = .returned (.tuple #[.string ⟨#[]⟩, .int .i64 3])))) := by
  cases hw : t.wf with
  | true =>
    have hl := treeT_len t ⟨hok, hfw, hw⟩
    have hl2 : (treeT t).length ≤ 60000 := Nat.le_trans hl (by omega)
    refine (Encode_t t A bb h w hT hd hok (by omega) htab).mono ?_
    rintro e w' ⟨hx, ⟨-, rfl⟩ | ⟨h2, -⟩⟩
    · exact ⟨hx, .inl ⟨rfl, hl2, rfl⟩⟩
    · rw [hw] at h2; cases h2
  | false =>
    refine (Encode_any (.pointer A) false [] w (by decide) (fun W hW => by have := wellFormed_t t A bb h W (hT.ext hW) hd; rwa [hw] at this) (fun h => by cases h)).mono ?_
    rintro e w' ⟨hx, ⟨h2, -⟩ | ⟨-, rfl⟩⟩
    · cases h2
    · exact ⟨hx, .inr ⟨rfl, rfl⟩⟩
theorem infoIntC : (Tryz.prog.info? 3).map (fun i => (i.zero, i.size, i.bytes)) = some (some (.int .i64 0), 1, 8) := by kernel_rfl
def sts (T : BL) (i : Nat) : List Nat := (List.range i).filter (fun j => j == 0 || T[j - 1]? == some 10)
def nV (l : List Nat) : List Value := l.map (fun (z : Nat) => Value.int .i64 (z : Int))
theorem sts_succ (T : BL) (i : Nat) : sts T (i + 1) = sts T i ++ (if (i == 0 || T[i - 1]? == some 10) = true then [i] else []) := by
  unfold sts
  rw [List.range_succ, List.filter_append]
  congr 1
  cases h : (i == 0 || T[i - 1]? == some 10) <;> simp [List.filter, h]
theorem sts_mem {T : BL} {i j : Nat} (h : j ∈ sts T i) : j < i ∧ (j = 0 ∨ T[j - 1]? = some 10) := by
  obtain ⟨h1, h2⟩ := List.mem_filter.1 h
  refine ⟨List.mem_range.1 h1, ?_⟩
  simpa using h2
theorem whole_take {T : BL} {j : Nat} (hj : j < T.length) (h : j = 0 ∨ T[j - 1]? = some 10) : whole (T.take j) := by
  rcases h with rfl | h
  · exact .inl rfl
  · by_cases h0 : j = 0
    · subst h0; exact .inl rfl
    · refine .inr ?_
      rw [List.getLast?_eq_getElem?, List.length_take, Nat.min_eq_left (by omega), List.getElem?_take, if_pos (by omega)]
      exact h
set_option maxHeartbeats 1000000 in
set_option maxRecDepth 100000 in
theorem cuts_any (v : Value) (l : List ND) (k : Nat) (w : World) (hv : NodesV w v l) (hln : ∀ x ∈ l, ((∀ z ∈ x.num, in32 z) ∧ (∀ d ∈ x.den, d ≤ 255)) ∧ Lp.fit x.fl = true) (hk8 : k ≤ 255) (he : Env w) :
    Calls Tryz.prog 3 #[v, .int .u8 (k : Int)] w (ValPost w (.bool true)) := by
  have hv0 := hv
  obtain ⟨A0, c0, rfl, -⟩ := hv0
  have HLN := Lib.hid hln
  clear hln
  go_enter Tryz.func3, Tryz.ntmps3
  go_wp2_with fail
  refine (awake_c _ he.tab).mono ?_
  rintro e w1 ⟨rfl, hx1⟩
  go_wp2_with fail
  refine (few_b _ l _ (hv.ext hx1)).mono ?_
  rintro e w2 ⟨rfl, hx2⟩
  have hE2 := hx1.trans hx2
  clear hx1 hx2
  obtain ⟨G, hG⟩ : ∃ G, G = fewB l := ⟨_, rfl⟩
  rw [← hG]
  have HG := Lib.hid hG
  clear hG
  cases G with
  | false =>
    simp only [Bool.false_eq_true, if_false]
    go_wp2_with fail
    go_ret
    exact ⟨rfl, hE2⟩
  | true =>
  simp only [if_true]
  go_wp2_with fail
  have hfb := fewB_iff.1 HG.out.symm
  have HNN : Hid (∀ x ∈ l, okN x) := Lib.hid (fun x hx => ⟨(HLN.out x hx).1.1, (HLN.out x hx).1.2, by have := hfb.2 x hx; omega⟩)
  refine (Tree_b _ l _ (hv.ext hE2) HNN.out).mono ?_
  rintro e w3 ⟨A, rfl, hT, hx3⟩
  have hE3 := hE2.trans hx3
  obtain ⟨t, ht⟩ : ∃ t, t = (buildT 31 l).1 := ⟨_, rfl⟩
  have htd : t.dep ≤ 31 := by rw [ht]; exact buildT_dep 31 l
  obtain ⟨hok, hfw⟩ := buildT_okY 31 l (fun x hx => ⟨HNN.out x hx, (HLN.out x hx).2, hfb.2 x hx⟩)
  have hsz : t.size ≤ 100 := by have := buildT_size 31 l; rw [← ht] at this; have := hfb.1; omega
  rw [← ht] at hT hok hfw
  have HOK := Lib.hid hok
  have hen := Encode_f t A _ _ w3 hT (by omega) hok hfw hsz (he.ext hE3).tab
  clear hT hok hfw hsz hfb ht hx3 hE2
  go_wp2_with fail
  refine hen.mono ?_
  clear hen
  rintro e w4 ⟨hx4, ⟨hw, htl, rfl⟩ | ⟨-, rfl⟩⟩
  case inr =>
    go_wp2_with fail
    go_ret
    exact ⟨rfl, hE3.trans hx4⟩
  have hE4 := hE3.trans hx4
  clear hE3 hx4
  have hss : (str (treeT t)).size = (treeT t).length := rfl
  obtain ⟨u, xl, hul, hxl⟩ := treeT_last t hw
  have hTn : 0 < (treeT t).length := by rw [hul]; simp
  have HPRE : Hid (∀ p q : BL, p ++ q = treeT t → q ≠ [] → whole p → decP p = .error 4) := Lib.hid (fun p q he hq hp => decP_pre hw HOK.out (by omega) (by omega) he hq hp)
  have HMORE : Hid (decP (treeT t ++ [98, 111, 117, 110, 100, 10]) = .error 3) := Lib.hid (decP_more hw HOK.out (by omega) rfl (by rw [List.length_append]; simp; omega))
  have HLESS : Hid (decP ((treeT t).take ((treeT t).length - 1)) = .error 3) := Lib.hid (decP_less hw (by omega))
  have HEnv : Hid (∀ W, Ext w W → Env W) := Lib.hid (fun W h => he.ext h)
  obtain ⟨T, hT⟩ : ∃ T, T = treeT t := ⟨_, rfl⟩
  rw [← hT] at hss hTn HPRE HMORE HLESS htl ⊢
  clear hT hul hxl HOK hw he HLN HG hv htd HNN
  obtain ⟨ij, ij1, ij2, ij3, ij4⟩ := info_parts infoIntC
  have hsz4 : w.heap.size ≤ w4.heap.size := hE4.size
  go_wp2_with fail
  go_loopw [8, 9] (fun sv i wr => ∃ (j M : Nat) (A : Option Addr) (c : Nat), j ≤ T.length ∧ i = .int .i64 j ∧ M ≤ j ∧ (0 < j → 0 < M) ∧ sv = .slice A M c ∧ Hid ((sts T j).length = M) ∧ OwnX wr w4.heap.size 3 1 (.slice A M c) M (nV (sts T j)) ∧ Ext w4 wr) (fun _ i _ => T.length - (intOf i).toNat)
  case atStart => exact ⟨0, 0, none, 0, by omega, rfl, by omega, by omega, rfl, Lib.hid rfl, OwnX.nil _ _ _ _, Ext.refl w4⟩
  case round =>
    obtain ⟨j, M, A, c, hj, rfl, hMj, hj0, rfl, HM, oX, hxr⟩ := hrel
    by_cases hlt : j < T.length
    · by_cases hput : (j == 0 || T[j - 1]? == some 10) = true
      · have HS : Hid (sts T (j + 1) = sts T j ++ [j]) := Lib.hid (by rw [sts_succ, if_pos hput])
        have HM2 : Hid ((sts T (j + 1)).length = M + 1) := Lib.hid (by rw [HS.out, List.length_append, HM.out]; rfl)
        cases j with
        | zero =>
          clear hput
          have hza : Ext wr (wr.alloc (.cells #[.int .i64 0] 3)) := (Ext.refl wr).alloc _
          have hsz : w4.heap.size ≤ (wr.alloc (.cells #[.int .i64 0] 3)).heap.size := (hxr.trans hza).size
          go_upto_region 12 with (at_builtin; refine wpList_pushX rfl (.tmp 46) (.tmp 48) 30 rfl w4.heap.size 3 ij (.int .i64 0) 1 8 Tryz.underlying30 ij1 ij2 ij3 ij4 rfl zI _ M _ rfl (oX.ext hza) wr.heap.size [.int .i64 0] 1 rfl rfl (new1 wr 3 _) (one1 rfl) (nou1 rfl) (by omega) (by decide) hsz ?_; intro v6 w6 o6 r6 s6; obtain ⟨A6, d6, rfl⟩ := o6.shape)
          have hX6 := r6.ext (hxr.trans hza) (fun g hg => (oX.lt hg).1)
          have o7 : OwnX w6 w4.heap.size 3 1 (.slice A6 (M + 1) d6) (M + 1) (nV (sts T (0 + 1))) := by rw [HS.out]; show OwnX _ _ _ _ _ _ (List.map _ (_ ++ _)); rw [List.map_append]; exact o6
          clear hza hsz o6 r6 s6 oX
          go_wp2_with fail
          go_roundw
          case rel => exact ⟨1, M + 1, A6, d6, by omega, by go_num, by omega, by omega, rfl, HM2, o7, hX6⟩
          case measure => simp [intOf]; omega
        | succ m =>
          have hc : T[m]? = some 10 := by
            rw [Bool.or_eq_true] at hput
            rcases hput with h | h
            · simp at h
            · simpa using h
          have hlt' : m < (str T).size := by omega
          have hg : (str T)[m]'hlt' = 10 := str_get hc hlt'
          have e1 : ((m : Int) + 1 == 0) = false := by rw [beq_eq_false_iff_ne]; omega
          have e2 : (((((str T)[m]'hlt').toNat : Nat) : Int) == 10) = true := by rw [hg]; rfl
          have r1 : IntKind.i64.wrap ((m : Int) + 1 - 1) = (m : Int) := by rw [show (m : Int) + 1 - 1 = (m : Int) by omega]; exact IntWalk.i64_in _ (by omega)
          have hza : Ext wr (wr.alloc (.cells #[.int .i64 ((m : Int) + 1)] 3)) := (Ext.refl wr).alloc _
          have hsz : w4.heap.size ≤ (wr.alloc (.cells #[.int .i64 ((m : Int) + 1)] 3)).heap.size := (hxr.trans hza).size
          clear hput hg hc
          go_upto_region 12 with (at_builtin; refine wpList_pushX rfl (.tmp 46) (.tmp 48) 30 rfl w4.heap.size 3 ij (.int .i64 0) 1 8 Tryz.underlying30 ij1 ij2 ij3 ij4 rfl zI _ M _ rfl (oX.ext hza) wr.heap.size [.int .i64 ((m : Int) + 1)] 1 rfl rfl (new1 wr 3 _) (one1 rfl) (nou1 rfl) (by omega) (by decide) hsz ?_; intro v6 w6 o6 r6 s6; obtain ⟨A6, d6, rfl⟩ := o6.shape)
          have hX6 := r6.ext (hxr.trans hza) (fun g hg => (oX.lt hg).1)
          have o7 : OwnX w6 w4.heap.size 3 1 (.slice A6 (M + 1) d6) (M + 1) (nV (sts T (m + 1 + 1))) := by rw [HS.out]; show OwnX _ _ _ _ _ _ (List.map _ (_ ++ _)); rw [List.map_append]; exact o6
          clear hza hsz o6 r6 s6 oX
          go_wp2_with fail
          go_roundw
          case rel => exact ⟨m + 1 + 1, M + 1, A6, d6, by omega, by go_num, by omega, by omega, rfl, HM2, o7, hX6⟩
          case measure => simp [intOf]; omega
      · have HS : Hid (sts T (j + 1) = sts T j) := Lib.hid (by rw [sts_succ, if_neg hput, List.append_nil])
        have hput : ¬ (j == 0 || T[j - 1]? == some 10) = true := hput
        cases j with
        | zero => exact absurd rfl hput
        | succ m =>
          have hlt' : m < (str T).size := by omega
          obtain ⟨ch, hc⟩ : ∃ c, T[m]? = some c := ⟨_, List.getElem?_eq_getElem (by omega)⟩
          have hg : (str T)[m]'hlt' = ch := str_get hc hlt'
          have e1 : ((m : Int) + 1 == 0) = false := by rw [beq_eq_false_iff_ne]; omega
          have e2 : (((((str T)[m]'hlt').toNat : Nat) : Int) == 10) = false := by
            rw [hg]
            have : ¬ ch.toNat = 10 := fun h => hput (by
              rw [Bool.or_eq_true]
              right
              rw [show m + 1 - 1 = m by omega, hc]
              have : ch = 10 := UInt8.toNat_inj.1 (by simpa using h)
              rw [this]; rfl)
            simp; omega
          have r1 : IntKind.i64.wrap ((m : Int) + 1 - 1) = (m : Int) := by rw [show (m : Int) + 1 - 1 = (m : Int) by omega]; exact IntWalk.i64_in _ (by omega)
          have HM2 : Hid ((sts T (m + 1 + 1)).length = M) := Lib.hid (by rw [HS.out]; exact HM.out)
          have o7 : OwnX wr w4.heap.size 3 1 (.slice A M c) M (nV (sts T (m + 1 + 1))) := by rw [HS.out]; exact oX
          clear hput hg hc oX
          go_wp2_with fail
          go_roundw
          case rel => exact ⟨m + 1 + 1, M, A, c, by omega, by go_num, by omega, fun _ => hj0 (by omega), rfl, HM2, o7, hxr⟩
          case measure => simp [intOf]; omega
    · obtain rfl : j = T.length := by omega
      have hM0 := hj0 hTn
      obtain ⟨g, cap, e9, -, -, -, hcap, -, -, hcell⟩ := oX.cells hM0
      injection e9 with e9 _ e10
      subst e9 e10
      have e1 : ((M : Int) == 0) = false := by rw [beq_eq_false_iff_ne]; omega
      have hM1 : (M : Int) ≠ 0 := by omega
      obtain ⟨q, hq⟩ : ∃ q, q = k % M := ⟨_, rfl⟩
      have hqM : q < M := by rw [hq]; exact Nat.mod_lt _ hM0
      obtain ⟨at0, hat⟩ : ∃ a, (sts T T.length)[q]? = some a := ⟨_, List.getElem?_eq_getElem (by rw [HM.out]; exact hqM)⟩
      have e3 := hcell q (.int .i64 (at0 : Int)) (by unfold nV; rw [List.getElem?_map, hat]; rfl)
      obtain ⟨ha1, ha2⟩ := sts_mem (List.mem_of_getElem? hat)
      have HD1 : Hid (decP (T.take at0) = .error 4) := Lib.hid (HPRE.out (T.take at0) (T.drop at0) (List.take_append_drop _ _) (fun h => by
        have := congrArg List.length h
        rw [List.length_drop] at this
        simp at this; omega) (whole_take ha1 ha2))
      have x1 := extract_take T at0
      have x2 := extract_take T (T.length - 1)
      have hkq : (k : Int).tmod (M : Int) = (q : Int) := by rw [hq]; rfl
      have hkq2 : (k : Int) % (M : Int) = (q : Int) := by rw [hq]; rfl
      clear hcell oX hat HPRE hq
      have i1 : (0 : Int) ≤ (at0 : Int) := by omega
      have i2 : (at0 : Int) ≤ (T.length : Int) := by omega
      have i3 : (0 : Int) ≤ (q : Int) := by omega
      have i4 : (q : Int) < (M : Int) := by omega
      have i5 : ((T.length - 1 : Nat) : Int) ≤ (T.length : Int) := by omega
      have r1 : IntKind.i64.wrap ((T.length : Int) - 1) = ((T.length - 1 : Nat) : Int) := by rw [show (T.length : Int) - 1 = ((T.length - 1 : Nat) : Int) by omega]; exact IntWalk.i64_in _ (by omega)
      obtain ⟨L1, hL1⟩ : ∃ n, n = T.length - 1 := ⟨_, rfl⟩
      rw [← hL1] at r1 x2 i5 HLESS
      have i6 : (0 : Int) ≤ (L1 : Int) := by omega
      have hcat : ¬ 9223372036854775807 < T.length + 6 := by omega
      have x3 : str T ++ (⟨#[98, 111, 117, 110, 100, 10]⟩ : ByteArray) = str (T ++ [98, 111, 117, 110, 100, 10]) := by apply ByteArray.ext; simp [str]
      have DP : Hid (∀ (l : BL) (c : Int) W, Ext w W → decP l = .error c → Calls Tryz.prog 13 #[.string (str l)] W (fun e w' => e = .returned (.tuple #[.pointer none, .int .i64 c]) ∧ Ext W w')) := Lib.hid (fun l c W hW hc => by
        refine (Decode_b l W (HEnv.out W hW)).mono ?_
        rintro e w' ⟨hx, hp⟩
        rw [hc] at hp
        exact ⟨hp, hx⟩)
      have hEr := hE4.trans hxr
      obtain ⟨P1, hP1⟩ : ∃ P, P = T.take at0 := ⟨_, rfl⟩
      obtain ⟨P2, hP2⟩ : ∃ P, P = T.take L1 := ⟨_, rfl⟩
      obtain ⟨P3, hP3⟩ : ∃ P, P = T ++ [98, 111, 117, 110, 100, 10] := ⟨_, rfl⟩
      rw [← hP1] at x1 HD1
      rw [← hP2] at x2 HLESS
      rw [← hP3] at x3 HMORE
      clear hP1 hP2 hP3 hL1
      go_wp2_with fail
      refine (DP.out P1 4 _ hEr HD1.out).mono ?_
      rintro e w5 ⟨rfl, hx5⟩
      have hE5 := hEr.trans hx5
      go_wp2_with fail
      refine (DP.out P3 3 _ hE5 HMORE.out).mono ?_
      rintro e w6 ⟨rfl, hx6⟩
      have hE6 := hE5.trans hx6
      go_wp2_with fail
      refine (DP.out P2 3 _ hE6 HLESS.out).mono ?_
      rintro e w7 ⟨rfl, hx7⟩
      go_wp2_with fail
      go_ret
      exact ⟨rfl, hE6.trans hx7⟩
end Go.Proofs.YtljncdcjkdgkeaaGreatDoor.Dc
namespace Go.Proofs.YtljncdcjkdgkeaaGreatDoor.Dc
open Go.RowKit Go.Proofs.YtljncdcjkdgkeaaGreatDoor.Big Go.Proofs.YtljncdcjkdgkeaaGreatDoor.Lp Go.Proofs.YtljncdcjkdgkeaaGreatDoor.Rt

theorem flat_inI : ∀ (t : CT), t.wf = true → t.okY 2 → ∀ x ∈ flat t, inI x.vr ∧ inI x.fl := by
  intro t
  induction t with
  | nil => intro h; cases h
  | node vr fl em n y a b iha ihb =>
    intro hw hok x hx
    obtain ⟨hf, -, -, hoa, hob⟩ := hok
    obtain ⟨f1, f2⟩ := fit_iff.1 hf
    have hfl : inI fl := ⟨by omega, by omega⟩
    have hx : x ∈ (⟨vr, fl, em, (List.range n).map (fun j => ratText (y j))⟩ : RN) :: (if vr = -1 then [] else flat a ++ flat b) := hx
    by_cases hv : vr = -1
    · rw [if_pos hv, List.mem_singleton] at hx
      rw [hx]
      exact ⟨by show inI vr; rw [hv]; exact ⟨by decide, by decide⟩, hfl⟩
    · have hw' : (decide (0 ≤ vr) && (decide (vr ≤ 9999) && (!em && (decide (n = 0) && (a.wf && b.wf))))) = true := by
        have : (if vr = -1 then decide (fl = 0) && (a.isNil && b.isNil) else decide (0 ≤ vr) && (decide (vr ≤ 9999) && (!em && (decide (n = 0) && (a.wf && b.wf))))) = true := hw
        rwa [if_neg hv] at this
      simp only [Bool.and_eq_true, decide_eq_true_eq, Bool.not_eq_true'] at hw'
      obtain ⟨h0, h9, -, -, hwa, hwb⟩ := hw'
      rw [if_neg hv] at hx
      rcases List.mem_cons.1 hx with hx | hx
      · rw [hx]
        exact ⟨by show inI vr; exact ⟨by omega, by omega⟩, hfl⟩
      · rcases List.mem_append.1 hx with hx | hx
        · exact iha hwa hoa x hx
        · exact ihb hwb hob x hx
set_option maxHeartbeats 1000000 in
set_option maxRecDepth 100000 in
theorem text_any (v : Value) (l : List ND) (w : World) (hv : NodesV w v l) (hln : ∀ x ∈ l, ((∀ z ∈ x.num, in32 z) ∧ (∀ d ∈ x.den, d ≤ 255)) ∧ Lp.fit x.fl = true) (he : Env w) :
    Calls Tryz.prog 7 #[v] w (ValPost w (.bool true)) := by
  have hv0 := hv
  obtain ⟨A0, c0, rfl, -⟩ := hv0
  have HLN := Lib.hid hln
  clear hln
  go_enter Tryz.func7, Tryz.ntmps7
  go_wp2_with fail
  refine (awake_c _ he.tab).mono ?_
  rintro e w1 ⟨rfl, hx1⟩
  go_wp2_with fail
  refine (few_b _ l _ (hv.ext hx1)).mono ?_
  rintro e w2 ⟨rfl, hx2⟩
  have hE2 := hx1.trans hx2
  clear hx1 hx2
  obtain ⟨G, hG⟩ : ∃ G, G = fewB l := ⟨_, rfl⟩
  rw [← hG]
  have HG := Lib.hid hG
  clear hG
  cases G with
  | false =>
    simp only [Bool.false_eq_true, if_false]
    go_wp2_with fail
    go_ret
    exact ⟨rfl, hE2⟩
  | true =>
  simp only [if_true]
  go_wp2_with fail
  have hfb := fewB_iff.1 HG.out.symm
  have HNN : Hid (∀ x ∈ l, okN x) := Lib.hid (fun x hx => ⟨(HLN.out x hx).1.1, (HLN.out x hx).1.2, by have := hfb.2 x hx; omega⟩)
  refine (Tree_b _ l _ (hv.ext hE2) HNN.out).mono ?_
  rintro e w3 ⟨A, rfl, hT, hx3⟩
  have hE3 := hE2.trans hx3
  obtain ⟨t, ht⟩ : ∃ t, t = (buildT 31 l).1 := ⟨_, rfl⟩
  have htd : t.dep ≤ 31 := by rw [ht]; exact buildT_dep 31 l
  obtain ⟨hok, hfw⟩ := buildT_okY 31 l (fun x hx => ⟨HNN.out x hx, (HLN.out x hx).2, hfb.2 x hx⟩)
  have hsz : t.size ≤ 100 := by have := buildT_size 31 l; rw [← ht] at this; have := hfb.1; omega
  rw [← ht] at hT hok hfw
  obtain ⟨bb, hbb⟩ : ∃ b, b = w2.heap.size := ⟨_, rfl⟩
  obtain ⟨hh, hhh⟩ : ∃ b, b = w3.heap.size := ⟨_, rfl⟩
  rw [← hbb, ← hhh] at hT
  have HOK := Lib.hid hok
  have HFW := Lib.hid hfw
  have HTT := Lib.hid hT
  have HEnv : Hid (∀ W, Ext w W → Env W) := Lib.hid (fun W h => he.ext h)
  have hen := Encode_f t A _ _ w3 hT (by omega) hok hfw hsz (he.ext hE3).tab
  clear hok hfw hfb ht hx3 hE2 HNN HLN HG hv he hbb hhh hT
  go_wp2_with fail
  refine hen.mono ?_
  clear hen
  rintro e w4 ⟨hx4, hres⟩
  have hE4 := hE3.trans hx4
  have HPL : Hid (Calls Tryz.prog 24 #[.pointer A, .int .i64 0, .slice none 0 0] w4 (PlP w4 [] t)) := Lib.hid (plain_b t w4 A bb hh 0 (.slice none 0 0) [] w4 (HTT.out.ext hx4) HOK.out (Ext.refl _) (NodX.nil _ _) (by omega) (by simp; omega) (HEnv.out _ hE4).tab)
  rcases hres with ⟨hw, htl, rfl⟩ | ⟨hw, rfl⟩
  case inr =>
    go_wp2_with fail
    refine HPL.out.mono ?_
    rintro e w5 ⟨v5, rfl, -, hx5⟩
    rw [hw]
    go_wp2_with fail
    go_ret
    exact ⟨rfl, hE4.trans hx5⟩
  case inl =>
  obtain ⟨t', hdec, heq⟩ := decP_ok hw HOK.out (by omega) (by omega)
  have HDB : Hid (∀ W, Ext w W → Calls Tryz.prog 13 #[.string (str (treeT t))] W (fun e w' => (∃ A', e = .returned (.tuple #[.pointer A', .int .i64 0]) ∧ TreeI w' t' A' W.heap.size w'.heap.size) ∧ Ext W w')) := Lib.hid (fun W hW => by
    refine (Decode_b (treeT t) W (HEnv.out W hW)).mono ?_
    rintro e w' ⟨hx, hp⟩
    rw [hdec] at hp
    exact ⟨hp, hx⟩)
  have HSM : Hid (∀ W A' b' h', Ext w4 W → TreeI W t' A' b' h' → Calls Tryz.prog 26 #[.pointer A, .pointer A', .int .i64 0] W (TruP W)) := Lib.hid (fun W A' b' h' hW hT' => same_b t t' A A' bb hh b' h' 0 W ((HTT.out.ext hx4).ext hW) hT' heq HOK.out (by omega))
  have HRT : Hid (∀ W v', NodV W v' (flat t) → Calls Tryz.prog 25 #[v'] W (fun e w' => e = .returned (.string (str (treeT t))) ∧ Ext W w')) := Lib.hid (fun W v' hV => by
    have hfl := flat_len t
    have hft := flat_text t hw
    have := RText_t v' (flat t) W hV (by rw [hft]; omega) (by omega) (flat_inI t hw HOK.out)
    rw [hft] at this
    exact this)
  have hsl : (str (treeT t)).toList = treeT t := by rw [Lib.toList_data, str_list]
  obtain ⟨T, hT⟩ : ∃ T, T = treeT t := ⟨_, rfl⟩
  rw [← hT] at HDB HRT hsl htl ⊢
  clear hT hdec heq HFW hsz htd
  go_wp2_with fail
  refine HPL.out.mono ?_
  rintro e w5 ⟨v5, rfl, hN5, hx5⟩
  rw [hw] at hN5 ⊢
  have hN5 := hN5 rfl
  rw [List.nil_append] at hN5
  have hV5 := hN5.val
  obtain ⟨A5, c5, rfl⟩ := hN5.shape
  have hE5 := hE4.trans hx5
  clear HPL hw hN5
  go_wp2_with fail
  refine (HDB.out _ hE5).mono ?_
  rintro e w6 ⟨⟨A6, rfl, hT6⟩, hx6⟩
  have hV6 := hV5.ext hx6
  have hE6 := hE5.trans hx6
  go_wp2_with fail
  refine (HRT.out _ _ hV6).mono ?_
  rintro e w7 ⟨rfl, hx7⟩
  go_wp2_with fail
  refine (HSM.out _ A6 _ _ ((hx5.trans hx6).trans hx7) (hT6.ext hx7)).mono ?_
  rintro e w8 ⟨rfl, hx8⟩
  go_wp2_with fail
  go_ret
  exact ⟨rfl, (hE6.trans hx7).trans hx8⟩
end Go.Proofs.YtljncdcjkdgkeaaGreatDoor.Dc

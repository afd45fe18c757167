/- Walks: Value, Feasible. Walk: Feasible. -/
import Derived.Test.YtljncdcjkdgkeaaGreatDoorLV5
set_option linter.unusedVariables false
set_option linter.unusedSimpArgs false
namespace Go.Proofs.YtljncdcjkdgkeaaGreatDoor.Lp
open Go.RowKit Go.Proofs.YtljncdcjkdgkeaaGreatDoor.Big Go.Proofs.YtljncdcjkdgkeaaGreatDoor.Rt

instance holdsDec (rel : Nat) (l r : Rat) : Decidable (Holds rel l r) := by unfold Holds; infer_instance
def nnB (x : Nat → Rat) : Nat → Bool
  | 0 => true
  | j + 1 => nnB x j && decide (0 ≤ x j)
def hB (p : Prob) (x : Nat → Rat) (i : Nat) : Bool := decide (Holds (p.rel i) (dot p.n (p.coef i) x) (p.right i))
def hsB (p : Prob) (x : Nat → Rat) : Nat → Bool
  | 0 => true
  | i + 1 => hsB p x i && hB p x i
def feasB (p : Prob) (n : Nat) (x : Nat → Rat) : Bool := validB p && (n == p.n) && nnB x n && hsB p x p.m
theorem nnB_iff {x : Nat → Rat} {n : Nat} : nnB x n = true ↔ ∀ j, j < n → 0 ≤ x j := by
  induction n with
  | zero => exact ⟨fun _ i hi => absurd hi (by omega), fun _ => rfl⟩
  | succ n ih =>
    show (nnB x n && decide (0 ≤ x n)) = true ↔ _
    rw [Bool.and_eq_true, ih, decide_eq_true_eq]
    constructor
    · rintro ⟨a, b⟩ i hi
      by_cases e : i = n
      · subst e; exact b
      · exact a i (by omega)
    · intro h; exact ⟨fun i hi => h i (by omega), h n (by omega)⟩
theorem hsB_iff {p : Prob} {x : Nat → Rat} {m : Nat} : hsB p x m = true ↔ ∀ i, i < m → Holds (p.rel i) (dot p.n (p.coef i) x) (p.right i) := by
  induction m with
  | zero => exact ⟨fun _ i hi => absurd hi (by omega), fun _ => rfl⟩
  | succ m ih =>
    show (hsB p x m && hB p x m) = true ↔ _
    rw [Bool.and_eq_true, ih]
    unfold hB
    rw [decide_eq_true_eq]
    constructor
    · rintro ⟨a, b⟩ i hi
      by_cases e : i = m
      · subst e; exact b
      · exact a i (by omega)
    · intro h; exact ⟨fun i hi => h i (by omega), h m (by omega)⟩
theorem feasB_iff {p : Prob} {n : Nat} {x : Nat → Rat} : feasB p n x = true ↔ p.Valid ∧ n = p.n ∧ p.Feas x := by
  unfold feasB Prob.Feas
  rw [Bool.and_eq_true, Bool.and_eq_true, Bool.and_eq_true, validB_iff, nnB_iff, hsB_iff, beq_iff_eq]
  constructor
  · rintro ⟨⟨⟨a, rfl⟩, b⟩, c⟩; exact ⟨a, rfl, b, c⟩
  · rintro ⟨a, rfl, b, c⟩; exact ⟨⟨⟨a, rfl⟩, b⟩, c⟩
theorem nnB_no {x : Nat → Rat} {j n : Nat} (h : ¬ 0 ≤ x j) (hj : j < n) : nnB x n = false := by
  cases e : nnB x n with
  | false => rfl
  | true => exact absurd (nnB_iff.1 e j hj) h
theorem hsB_no {p : Prob} {x : Nat → Rat} {i m : Nat} (h : hB p x i = false) (hi : i < m) : hsB p x m = false := by
  cases e : hsB p x m with
  | false => rfl
  | true =>
    have := hsB_iff.1 e i hi
    unfold hB at h
    exact absurd this (of_decide_eq_false h)
set_option maxHeartbeats 8000000 in
set_option maxRecDepth 100000 in
theorem Value_b (v : Value) (p : Prob) (Ax : Option Addr) (nx cx : Nat) (x : Nat → Rat) (Ko Kx T : Nat) (w : World) (hv : ProbV w v p) (hx : RatsV w Ax nx cx x)
    (ho : ∀ j, j < p.n → QB Ko (p.obj j)) (hq : ∀ j, j < nx → QB Kx (x j)) (hnx : nx ≤ 1099511627776) (hT : 1 + nx * (Ko + Kx + 1) ≤ T) (hT2 : T ≤ 137438953472) (hT3 : Ko + Kx ≤ 137438953472) :
    Calls Tryz.prog 22 #[v, .slice Ax nx cx] w (RatBPost w (if validB p = true ∧ nx = p.n then dot p.n p.obj x else 0) T) := by
  have hv0 := hv
  obtain ⟨Ao, co, Ar, cr, rfl, hob, -⟩ := hv0
  obtain ⟨n, hn⟩ : ∃ n, n = p.n := ⟨_, rfl⟩
  obtain ⟨m, hm⟩ : ∃ n, n = p.m := ⟨_, rfl⟩
  rw [← hn] at hob ho
  obtain ⟨Z, hZ⟩ : ∃ Z, Z = if validB p = true ∧ nx = p.n then dot p.n p.obj x else 0 := ⟨_, rfl⟩
  rw [← hZ]
  rw [← hn] at hZ
  have HZ := Lib.hid hZ
  clear hZ
  rw [← hn, ← hm] at hv ⊢
  have HO := Lib.hid ho
  have HX := Lib.hid hq
  have HT := Lib.hid hT
  clear hn hm ho hq hT
  obtain ⟨PB, SB, hE0⟩ := boxesT2 w 41 58 #[.slice Ao n co, .slice Ar m cr] #[.bool false, .slice none 0 0, .bool false, .slice none 0 0]
  go_enter Tryz.func22, Tryz.ntmps22
  go_upto_region 1 with fail
  generalize ((w.alloc (.cells #[.slice Ao n co, .slice Ar m cr] 41)).alloc (.cells #[.bool false, .slice none 0 0, .bool false, .slice none 0 0] 58)) = V at *
  have c0 := PB.c0
  have c1 := PB.c1
  have hvV := hv.ext hE0
  go_wp2_with fail
  refine (Valid_b _ p _ hvV).mono ?_
  rintro e w1 ⟨rfl, hx1⟩
  have hE1 := hE0.trans hx1
  have PB1 := PB.ext hx1
  have SB1 := SB.ext hx1
  have c0 := PB1.c0
  have c1 := PB1.c1
  clear hvV PB SB
  cases hval : validB p with
  | false =>
    have z0 := SB1.c0
    have z1 := SB1.c1
    have z2 := SB1.c2
    have z3 := SB1.c3
    have f0 := SB1.frozen 0
    have f1 := SB1.frozen 1
    have f2 := SB1.frozen 2
    have f3 := SB1.frozen 3
    go_wp2_with fail
    obtain ⟨pp, pb⟩ := RatV.put (RatV.zero w1) SB1
    have pc0 := pb.c0
    have pc1 := pb.c1
    have pc2 := pb.c2
    have pc3 := pb.c3
    refine bodyPost_ret (v := .agg #[.bool false, .slice none 0 0, .bool false, .slice none 0 0]) (by simp [results, Tryz.results22, go_sem, pc0, pc1, pc2, pc3]) rfl ?_
    rw [HZ.out, hval, if_neg (by simp)]
    exact ⟨_, rfl, ⟨pp, QB_zero (by have := HT.out; omega)⟩, (((hE1.set (by simp) _).set (by simp) _).set (by simp) _).set (by simp) _⟩
  | true =>
    by_cases hnn : nx = n
    · subst hnn
      have e1 : ((nx : Int) != (nx : Int)) = false := by simp
      go_wp2_with fail
      refine (product_b _ _ _ _ _ _ _ Ko Kx T _ (hob.ext hE1) (hx.ext hE1) HO.out HX.out hnx HT.out hT2 hT3).mono ?_
      rintro e w2 ⟨v2, rfl, h2, hx2⟩
      obtain ⟨p2, A2, n2, c2, p2', A2', n2', c2', rfl⟩ := h2.1.shape
      have SB2 := SB1.ext hx2
      have hE2 := hE1.trans hx2
      have z0 := SB2.c0
      have z1 := SB2.c1
      have z2 := SB2.c2
      have z3 := SB2.c3
      have f0 := SB2.frozen 0
      have f1 := SB2.frozen 1
      have f2 := SB2.frozen 2
      have f3 := SB2.frozen 3
      go_wp2_with fail
      obtain ⟨pp, pb⟩ := RatV.put h2.1 SB2
      have pc0 := pb.c0
      have pc1 := pb.c1
      have pc2 := pb.c2
      have pc3 := pb.c3
      refine bodyPost_ret (v := .agg #[.bool p2, .slice A2 n2 c2, .bool p2', .slice A2' n2' c2']) (by simp [results, Tryz.results22, go_sem, pc0, pc1, pc2, pc3]) rfl ?_
      rw [HZ.out, if_pos ⟨hval, by first | rfl | trivial⟩]
      exact ⟨_, rfl, ⟨pp, h2.2⟩, (((hE2.set (by simp) _).set (by simp) _).set (by simp) _).set (by simp) _⟩
    · have e1 : ((nx : Int) != (n : Int)) = true := by simp; omega
      have HNN := Lib.hid hnn
      clear hnn
      have z0 := SB1.c0
      have z1 := SB1.c1
      have z2 := SB1.c2
      have z3 := SB1.c3
      have f0 := SB1.frozen 0
      have f1 := SB1.frozen 1
      have f2 := SB1.frozen 2
      have f3 := SB1.frozen 3
      go_wp2_with fail
      obtain ⟨pp, pb⟩ := RatV.put (RatV.zero w1) SB1
      have pc0 := pb.c0
      have pc1 := pb.c1
      have pc2 := pb.c2
      have pc3 := pb.c3
      refine bodyPost_ret (v := .agg #[.bool false, .slice none 0 0, .bool false, .slice none 0 0]) (by simp [results, Tryz.results22, go_sem, pc0, pc1, pc2, pc3]) rfl ?_
      rw [HZ.out, if_neg (fun h => HNN.out h.2)]
      exact ⟨_, rfl, ⟨pp, QB_zero (by have := HT.out; omega)⟩, (((hE1.set (by simp) _).set (by simp) _).set (by simp) _).set (by simp) _⟩
end Go.Proofs.YtljncdcjkdgkeaaGreatDoor.Lp

namespace Go.Proofs.YtljncdcjkdgkeaaGreatDoor.Lp
open Go.RowKit Go.Proofs.YtljncdcjkdgkeaaGreatDoor.Big Go.Proofs.YtljncdcjkdgkeaaGreatDoor.Rt

set_option maxHeartbeats 16000000 in
theorem Feasible_b (v : Value) (p : Prob) (Ax : Option Addr) (nx cx : Nat) (x : Nat → Rat) (Kc Kr Kx T : Nat) (w : World) (hv : ProbV w v p) (hx : RatsV w Ax nx cx x)
    (hc : ∀ i, i < p.m → ∀ j, j < p.n → QB Kc (p.coef i j)) (hr : ∀ i, i < p.m → QB Kr (p.right i)) (hq : ∀ j, j < nx → QB Kx (x j)) (hnx : nx ≤ 1099511627776) (hT : 1 + nx * (Kc + Kx + 1) ≤ T) (hT2 : T ≤ 137438953472) (hT3 : Kc + Kx ≤ 137438953472) (hT4 : Kr ≤ 137438953472) :
    Calls Tryz.prog 21 #[v, .slice Ax nx cx] w (ValPost w (.bool (feasB p nx x))) := by
  have hv0 := hv
  obtain ⟨Ao, co, Ar, cr, rfl, hob, hmc, hcr, hrows⟩ := hv0
  obtain ⟨F, hF⟩ : ∃ F, F = feasB p nx x := ⟨_, rfl⟩
  rw [← hF]
  obtain ⟨n, hn⟩ : ∃ n, n = p.n := ⟨_, rfl⟩
  obtain ⟨m, hm⟩ : ∃ n, n = p.m := ⟨_, rfl⟩
  have HF : Hid (F = (validB p && (nx == n) && nnB x nx && hsB p x m)) := Lib.hid (by rw [hF, hn, hm]; rfl)
  have HB : Hid (∀ i, hB p x i = decide (Holds (p.rel i) (dot n (p.coef i) x) (p.right i))) := Lib.hid (fun i => by rw [hn]; rfl)
  have HVL : Hid (validB p = true → ∀ i, i < m → p.len i = n ∧ 1 ≤ p.rel i ∧ p.rel i ≤ 3) := Lib.hid (fun h => by rw [hn, hm]; exact (validB_iff.1 h).2.2.2)
  rw [← hn] at hc
  rw [← hm] at hc hr hmc hrows
  rw [← hn, ← hm] at hv ⊢
  have HC := Lib.hid hc
  have HR := Lib.hid hr
  have HX := Lib.hid hq
  have HT := Lib.hid hT
  have HROW := Lib.hid hrows
  have hxc := hx.1
  clear hn hm hc hr hq hT hob hF hrows
  have PB := Box.new w 41 #[.slice Ao n co, .slice Ar m cr]
  have hE0 : Ext w (w.alloc (.cells #[.slice Ao n co, .slice Ar m cr] 41)) := (Ext.refl w).alloc _
  go_enter Tryz.func21, Tryz.ntmps21
  go_upto_region 1 with fail
  generalize (w.alloc (.cells #[.slice Ao n co, .slice Ar m cr] 41)) = V at *
  have c0 := PB.c0
  have c1 := PB.c1
  have hvV := hv.ext hE0
  go_wp2_with fail
  refine (Valid_b _ p _ hvV).mono ?_
  rintro e w1 ⟨rfl, hx1⟩
  have hE1 := hE0.trans hx1
  have PB1 := PB.ext hx1
  have c0 := PB1.c0
  have c1 := PB1.c1
  clear hvV PB
  cases hval : validB p with
  | false =>
    have HE : Hid (F = false) := Lib.hid (by rw [HF.out, hval]; rfl)
    clear hval
    go_wp2_with fail
    go_ret
    exact ⟨by rw [HE.out]; rfl, hE1⟩
  | true =>
    have HVR := Lib.hid (HVL.out hval)
    have HV := Lib.hid hval
    clear hval
    by_cases hnn : nx = n
    case neg =>
      have e1 : ((nx : Int) != (n : Int)) = true := by simp; omega
      have HE : Hid (F = false) := Lib.hid (by rw [HF.out, HV.out, show (nx == n) = false by simpa using hnn]; rfl)
      clear hnn
      go_wp2_with fail
      go_ret
      exact ⟨by rw [HE.out]; rfl, hE1⟩
    case pos =>
      subst hnn
      have e1 : ((nx : Int) != (nx : Int)) = false := by simp
      have HE : Hid (F = (nnB x nx && hsB p x m)) := Lib.hid (by rw [HF.out, HV.out]; simp)
      go_wp2_with fail
      clear e1 c0
      go_loopw [23] (fun i wr => ∃ j : Nat, j ≤ nx ∧ i = .int .i64 j ∧ Hid (nnB x j = true) ∧ Ext w1 wr) (fun i _ => nx - (intOf i).toNat)
      case atStart => exact ⟨0, by omega, rfl, Lib.hid rfl, Ext.refl w1⟩
      case round =>
        obtain ⟨j, hj, rfl, HJ, hxr⟩ := hrel
        by_cases hlt : j < nx
        · obtain ⟨ba, rfl, hRa⟩ := hx.2.2 (by omega)
          obtain ⟨p1, A1, m1, c1', p1', A1', m1', c1'', e0, e1, e2, e3, hr1⟩ := (hRa.ext (hE1.trans hxr)).at hlt
          obtain ⟨X, hX⟩ : ∃ X, X = x j := ⟨_, rfl⟩
          have HXJ := Lib.hid hX
          have HXQ := Lib.hid (HX.out j hlt)
          rw [← hX] at hr1 HXQ
          clear hX
          go_upto_region 6 with fail
          have Bx := Box.new wr 58 #[.bool p1, .slice A1 m1 c1', .bool p1', .slice A1' m1' c1'']
          have hEx : Ext wr (wr.alloc (.cells #[.bool p1, .slice A1 m1 c1', .bool p1', .slice A1' m1' c1''] 58)) := (Ext.refl wr).alloc _
          generalize (wr.alloc (.cells #[.bool p1, .slice A1 m1 c1', .bool p1', .slice A1' m1' c1''] 58)) = U at *
          have hr1 := hr1.ext hEx
          have hxr := hxr.trans hEx
          have x0 := Bx.c0
          have x1 := Bx.c1
          have x2 := Bx.c2
          have x3 := Bx.c3
          clear e0 e1 e2 e3 hEx
          go_wp2_with fail
          refine (RatSign_b _ X Kx _ ⟨hr1, HXQ.out⟩).mono ?_
          rintro e w2 ⟨rfl, hx2⟩
          have hxr := hxr.trans hx2
          clear x0 x1 x2 x3
          obtain ⟨sg, hsg⟩ : ∃ s, s = X.num.sign := ⟨_, rfl⟩
          rw [← hsg]
          by_cases hneg : X < 0
          · have e5 : decide (sg < 0) = true := by rw [hsg, Int.sign_eq_neg_one_of_neg (num_neg.1 hneg)]; rfl
            have HE2 : Hid (F = false) := Lib.hid (by rw [HE.out, nnB_no (by rw [← HXJ.out]; exact Rat.not_le.2 hneg) hlt]; rfl)
            clear hneg hsg
            go_wp2_with fail
            go_ret
            exact ⟨by rw [HE2.out]; rfl, hE1.trans hxr⟩
          · have e5 : decide (sg < 0) = false := by
              rw [hsg]
              rcases sign_cases X.num with ⟨a, b⟩ | ⟨a, b⟩ | ⟨a, b⟩ <;> rw [b] <;> first | rfl | exact absurd (num_neg.2 a) hneg
            have HJ2 : Hid (nnB x (j + 1) = true) := Lib.hid (by show (nnB x j && decide (0 ≤ x j)) = true; rw [HJ.out, ← HXJ.out, decide_eq_true (Rat.not_lt.1 hneg)]; rfl)
            clear hneg hsg
            go_wp2_with fail
            go_roundw
            case rel => exact ⟨j + 1, by omega, by go_num, HJ2, hxr⟩
            case measure => simp [intOf]; omega
        · obtain rfl : j = nx := by omega
          have HE3 : Hid (F = hsB p x m) := Lib.hid (by rw [HE.out, HJ.out]; rfl)
          have PB2 := PB1.ext hxr
          have hE2 := hE1.trans hxr
          have c1 := PB2.c1
          go_wp2_with fail
          go_loopw [34] (fun i wr => ∃ k : Nat, k ≤ m ∧ i = .int .i64 k ∧ Hid (hsB p x k = true) ∧ Ext w wr) (fun i _ => m - (intOf i).toNat)
          case atStart => exact ⟨0, by omega, rfl, Lib.hid rfl, hE2⟩
          case round =>
            clear hxr PB2 PB1 c1 hx1 hE0
            obtain ⟨k, hk, rfl, HK, hxr⟩ := hrel
            by_cases hlt2 : k < m
            · obtain ⟨br, rfl, hrow⟩ := HROW.out (by omega)
              obtain ⟨Ac, cc, bx, A, d, e, by', A', d', e', g0, g1, g2, g3, g4, g5, r1, r2, r3⟩ := (hrow k hlt2).ext hxr
              obtain ⟨hl, hr1, hr3⟩ := HVR.out k hlt2
              rw [hl] at r1 g0
              obtain ⟨rel, hrl⟩ : ∃ r, r = p.rel k := ⟨_, rfl⟩
              have HHB := Lib.hid (HB.out k)
              rw [← hrl] at g1 r2 hr1 hr3 HHB
              obtain ⟨Q, hQ⟩ : ∃ r, r = p.right k := ⟨_, rfl⟩
              have HRQ := Lib.hid (HR.out k hlt2)
              rw [← hQ] at r3 HHB HRQ
              have HCK := Lib.hid (HC.out k hlt2)
              clear hl hrl hQ hrow
              go_upto_region 12 with fail
              obtain ⟨rb, hrb⟩ : ∃ z, z = wr.heap.size := ⟨_, rfl⟩
              have BB := Box.new wr 75 #[.slice Ac j cc, .int .u8 (rel : Int), .bool bx, .slice A d e, .bool by', .slice A' d' e']
              have hEx : Ext wr (wr.alloc (.cells #[.slice Ac j cc, .int .u8 (rel : Int), .bool bx, .slice A d e, .bool by', .slice A' d' e'] 75)) := (Ext.refl wr).alloc _
              generalize (wr.alloc (.cells #[.slice Ac j cc, .int .u8 (rel : Int), .bool bx, .slice A d e, .bool by', .slice A' d' e'] 75)) = U at *
              rw [← hrb] at BB ⊢
              clear hrb g0 g1 g2 g3 g4 g5
              have r1 := r1.ext hEx
              have hxU := hx.ext (hxr.trans hEx)
              have hrB : RatB U _ Q Kr := ⟨r3.ext hEx, HRQ.out⟩
              have hxr := hxr.trans hEx
              have k0 : ∀ w', Later U w' → w'.cell? ⟨rb, 0, none⟩ = some _ := fun w' h => (BB.ext h).c0
              have k2 : ∀ w', Later U w' → w'.cell? ⟨rb, 2, none⟩ = some (.bool bx) := fun w' h => (BB.ext h).cell 2
              have k3 : ∀ w', Later U w' → w'.cell? ⟨rb, 3, none⟩ = some (.slice A d e) := fun w' h => (BB.ext h).cell 3
              have k4 : ∀ w', Later U w' → w'.cell? ⟨rb, 4, none⟩ = some (.bool by') := fun w' h => (BB.ext h).cell 4
              have k5 : ∀ w', Later U w' → w'.cell? ⟨rb, 5, none⟩ = some (.slice A' d' e') := fun w' h => (BB.ext h).cell 5
              have ks := Later.refl U
              obtain ⟨D, hD⟩ : ∃ D, D = dot j (p.coef k) x := ⟨_, rfl⟩
              have HD := Lib.hid hD
              have HT' := HT
              clear hD
              go_region_held3 (fun w' => Later U w') ((repeat (first | assumption | apply Later.drew | apply Later.drewN | apply Later.alloc | (refine Later.step ?_ (by assumption))))) (first
                | (go_at_call 62; (with_reducible refine (product_b _ _ _ _ _ _ _ Kc Kx T _ (RatsV.ext r1 (by repeat (first | (with_reducible exact Ext.refl _) | (with_reducible apply Ext.drew) | (with_reducible apply Ext.drewN) | (with_reducible refine Ext.trans ?_ (by assumption))))) (RatsV.ext hxU (by repeat (first | (with_reducible exact Ext.refl _) | (with_reducible apply Ext.drew) | (with_reducible apply Ext.drewN) | (with_reducible refine Ext.trans ?_ (by assumption))))) HCK.out HX.out hnx HT'.out hT2 hT3).mono ?_); rintro e wk ⟨vk, rfl, hbk, hxk⟩; (rw [← HD.out] at hbk); (obtain ⟨pk, Ak, nk, ck, pk', Ak', nk', ck', rfl⟩ := hbk.1.shape))
                | (go_at_call 23; (with_reducible refine (RatCmp_b _ _ _ _ _ _ _ (RatB.ext hbk (by repeat (first | (with_reducible exact Ext.refl _) | (with_reducible apply Ext.drew) | (with_reducible apply Ext.drewN) | (with_reducible refine Ext.trans ?_ (by assumption))))) (RatB.ext hrB (by repeat (first | (with_reducible exact Ext.refl _) | (with_reducible apply Ext.drew) | (with_reducible apply Ext.drewN) | (with_reducible refine Ext.trans ?_ (by assumption))))) (by omega)).mono ?_); rintro e wl ⟨rfl, hxl⟩)
                )
              all_goals (
                have hlL : Ext U wl := by assumption
                clear k0 k2 k3 k4 k5
                have c1 := (BB.ext hlL).c1
                have hx3 := hxr.trans hlL
                rw [← HD.out] at HHB
                obtain ⟨cq, hcq⟩ : ∃ z, z = cmpQ D Q := ⟨_, rfl⟩
                rw [← hcq]
                have key : (hB p x k = true ∧ ((rel = 1 ∧ cq ≤ 0) ∨ (rel = 2 ∧ cq = 0) ∨ (rel = 3 ∧ 0 ≤ cq))) ∨ (hB p x k = false ∧ ((rel = 1 ∧ 0 < cq) ∨ (rel = 2 ∧ cq ≠ 0) ∨ (rel = 3 ∧ cq < 0))) := by
                  rw [HHB.out, hcq]
                  unfold Holds
                  rcases cmpQ_cases D Q with ⟨a, b⟩ | ⟨a, b⟩ | ⟨a, b⟩ <;> rw [b] <;> rcases (show rel = 1 ∨ rel = 2 ∨ rel = 3 by omega) with rfl | rfl | rfl <;> simp <;> grind
                clear hcq HHB
                rcases key with ⟨hh, key⟩ | ⟨hh, key⟩
                · have HK2 : Hid (hsB p x (k + 1) = true) := Lib.hid (by show (hsB p x k && hB p x k) = true; rw [HK.out, hh]; rfl)
                  clear hh
                  rcases key with ⟨rfl, hc⟩ | ⟨rfl, hc⟩ | ⟨rfl, hc⟩
                  · have e6 : decide (0 < cq) = false := by simpa using hc
                    go_wp2_with fail
                    go_roundw
                    case rel => exact ⟨k + 1, by omega, by go_num, HK2, hx3⟩
                    case measure => simp [intOf]; omega
                  · have e6 : (cq != 0) = false := by simpa using hc
                    go_wp2_with fail
                    go_roundw
                    case rel => exact ⟨k + 1, by omega, by go_num, HK2, hx3⟩
                    case measure => simp [intOf]; omega
                  · have e6 : decide (cq < 0) = false := by simpa using hc
                    go_wp2_with fail
                    go_roundw
                    case rel => exact ⟨k + 1, by omega, by go_num, HK2, hx3⟩
                    case measure => simp [intOf]; omega
                · have HF2 : Hid (F = false) := Lib.hid (by rw [HE3.out]; exact hsB_no hh hlt2)
                  clear hh
                  rcases key with ⟨rfl, hc⟩ | ⟨rfl, hc⟩ | ⟨rfl, hc⟩
                  · have e6 : decide (0 < cq) = true := by simpa using hc
                    go_wp2_with fail
                    go_ret
                    exact ⟨by rw [HF2.out]; rfl, hx3⟩
                  · have e6 : (cq != 0) = true := by simpa using hc
                    go_wp2_with fail
                    go_ret
                    exact ⟨by rw [HF2.out]; rfl, hx3⟩
                  · have e6 : decide (cq < 0) = true := by simpa using hc
                    go_wp2_with fail
                    go_ret
                    exact ⟨by rw [HF2.out]; rfl, hx3⟩)
            · obtain rfl : k = m := by omega
              have HF2 : Hid (F = true) := Lib.hid (by rw [HE3.out, HK.out])
              go_wp2_with fail
              go_ret
              exact ⟨by rw [HF2.out]; rfl, hxr⟩
end Go.Proofs.YtljncdcjkdgkeaaGreatDoor.Lp

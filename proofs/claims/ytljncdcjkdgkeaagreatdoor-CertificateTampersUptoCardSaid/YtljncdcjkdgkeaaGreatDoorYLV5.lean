/- Walks: product, Value. Plain: Bnd, from bounds of a problem's numbers. Solve and Farkas: contracts in one form. What the laws' numbers are bounded by; the examples of the chapter (plain). -/
import Derived.Test.YtljncdcjkdgkeaaGreatDoorYLSC
import Derived.Test.YtljncdcjkdgkeaaGreatDoorYLJ
import Derived.Test.YtljncdcjkdgkeaaGreatDoorYT6
import Derived.Test.YtljncdcjkdgkeaaGreatDoorYLN2
import Derived.MapKept
import Derived.LaidEqlPtr
import Derived.Carry
import Derived.Test.YtljncdcjkdgkeaaGreatDoorYShelf
import Derived.BigQuiet
import Derived.Test.YtljncdcjkdgkeaaGreatDoorYLN3
set_option linter.unusedVariables false
set_option linter.unusedSimpArgs false
namespace Go.Proofs.YtljncdcjkdgkeaaGreatDoor.Lp
open Go.RowKit Go.Proofs.YtljncdcjkdgkeaaGreatDoor.Big Go.Proofs.YtljncdcjkdgkeaaGreatDoor.Rt
theorem qkw {k : Nat} (h : 0 < k) : QB k 0 := by
 have h1 := pw_le h
 rw [qfj] at h1
 exact ⟨by show (0 : Int).natAbs < pw k; simp; omega, by show ((1 : Nat) : Int).natAbs < pw k; simp; omega⟩
theorem qb2 : Mag QB :=
 ⟨fun h b => qqj h b, qwg, fun {j k x y} a b => by rw [Rat.sub_eq_add_neg]; exact qa4 a (qwg b), qa4, qvy, fun a b h => QB_div a b (fun e => h (Rat.num_eq_zero.1 e)), qkw⟩
open Go.Proofs.YtljncdcjkdgkeaaGreatDoor.Big Go.Proofs.YtljncdcjkdgkeaaGreatDoor.Rt
theorem q9t {k : Nat} (h : 0 < k) : QB k 1 := ⟨qgv h, qgv h⟩
theorem Bnd.of {p : Prob} (hv : p.Vrel) (k h hr hd : Nat) (hk : p.n ≤ k ∨ p.m ≤ k) (h1 : 2 ≤ h) (hrr : h ≤ hr) (hdd : h ≤ hd) (hK : bK3 p.m k h hr hd ≤ 134217728)
 (ho : ∀ j, j < p.n → QB hd (p.obj j)) (hc : ∀ i, i < p.m → ∀ j, j < p.n → QB h (p.coef i j)) (hb : ∀ i, i < p.m → QB hr (p.right i)) : Bnd p (bK3 p.m k h hr hd) := by
 have hA := Prob.T0_bnd qb2 (p := p) (h0 := h) (by omega) (q9t (by omega)) hc
 have hW := Prob.T0_bndW qb2 (p := p) hb
 have g1 : h ≤ bK3 p.m k h hr hd := by have := bK3_ge p.m k h hr hd; omega
 have hD1 : ∀ j, j ≤ p.W → QB hd (p.D1 j) := fun j _ => by
  unfold Prob.D1
  split
  ·exact q9t (by omega)
  ·exact qkw (by omega)
 have hD2 : ∀ j, j ≤ p.W → QB hd (p.D2 j) := fun j _ => by
  unfold Prob.D2
  split
  ·next hj => exact qwg (ho j hj)
  ·exact qkw (by omega)
 have hK2 := bK3_ge p.m k h hr hd
 have key : ∀ {D : Nat → Rat} {s : St}, (∀ j, j ≤ p.W → QB hd (D j)) → Inv p.m p.W p.T0 p.un D s.R s.C s.b → (∀ i, i < p.m → ∀ j, j ≤ p.W → QB (bK3 p.m k h hr hd) (s.R i j)) ∧ (∀ j, j ≤ p.W → QB (bK3 p.m k h hr hd) (s.C j)) := fun hD hI =>
  ⟨fun i hi j hj => qqj hK2.1 (Prob.bnd2 qb2 hv hI hk (by omega) hA hW i hi j hj), Prob.bnd3 qb2 hv hI hk (by omega) hA hW hD⟩
 refine ⟨hK, by omega, fun j hj => qqj hK2.2 (ho j hj), fun i hi j hj => qqj g1 (hc i hi j hj), fun i hi => qqj ?_ (hb i hi), ?_, ?_, ?_, ?_, ?_⟩
 ·have : hr ≤ bK2 p.m k h hr := by
   unfold bK2
   have : 1 * (grow k h + hr + 1) ≤ p.m * (grow k h + hr + 1) := Nat.mul_le_mul_right _ (by omega)
   omega
  omega
 ·intro s hs
  obtain ⟨a, c⟩ := key hD1 hs.inv
  exact ⟨a, c, hs.inv.bW⟩
 ·intro i hi
  exact Prob.bndR qb2 hv (Prob.inv0 hv p.D1) hi hk (by omega) hA hW hD1
 ·intro i hi
  exact key hD1 (exL_inv (Prob.end1 hv).inv i hi)
 ·intro i hi
  exact Prob.bndR qb2 hv (exL_inv (Prob.end1 hv).inv p.m (Nat.le_refl _)) hi hk (by omega) hA hW hD2
 ·intro s hs
  obtain ⟨a, c⟩ := key hD2 hs.way.inv
  exact ⟨a, c, hs.way.inv.bW⟩
theorem Prob.D2_mult (p : Prob) (C : Nat → Rat) (i : Nat) : muV p.art C p.un p.flip 0 i = p.mult p.D2 C i := by
 unfold muV Prob.mult Prob.sg
 rw [Prob.D2_un]
 have : (if p.art ≤ p.un i then (0 : Rat) else 0) = 0 := by split <;> rfl
 rw [this]
 split <;> grind
theorem Prob.D1_mult {p : Prob} (hv : p.Vrel) (C : Nat → Rat) {i : Nat} (hi : i < p.m) : muV p.art C p.un p.flip (-1) i = p.mult p.D1 C i := by
 unfold muV Prob.mult Prob.sg
 rw [Prob.D1_un hv hi]
 split <;> split <;> grind
theorem pt_bound {m W : Nat} {R : Nat → Nat → Rat} {b : Nat → Nat} {K : Nat} (hK : 0 < K) (hR : ∀ i, i < m → QB K (R i W)) (hinj : ∀ k l, k < m → l < m → b k = b l → k = l) (j : Nat) : QB K (pt m W R b j) := by
 unfold pt
 by_cases h : ∃ k, k < m ∧ b k = j
 ·obtain ⟨k, hk, e⟩ := h
  rw [qfn hk (fun l hl hne => if_neg (fun e' => hne (hinj l k hl hk (e'.trans e.symm)))), if_pos e]
  exact hR k hk
 ·rw [qr4 (fun k hk => if_neg (fun e => h ⟨k, hk, e⟩))]
  exact qkw hK
theorem qog {p : Prob} {D C : Nat → Rat} {K i : Nat} (hC : QB K (C (p.un i))) (hD : QB 1 (D (p.un i))) : QB (K + 1 + 1) (p.mult D C i) := by
 unfold Prob.mult Prob.sg
 have h := qb2.sub hC hD
 split
 ·exact qwg h
 ·exact h
def Res (p : Prob) (k : Int) (z : Rat) (nx : Nat) (xs : Nat → Rat) (ny : Nat) (ys : Nat → Rat) : Prop :=
 (qba p = false ∧ k = 3 ∧ z = 0 ∧ nx = 0 ∧ ny = 0) ∨ (qba p = true ∧ k = p.sol.err ∧ z = p.sol.val ∧ ((k = 0 ∧ nx = p.n ∧ ny = p.m ∧ p.sol = .opt z xs ys) ∨ (k ≠ 0 ∧ nx = 0 ∧ ny = 0)))
def SolPost (w : World) (p : Prob) (K : Nat) (e : Ending) (w' : World) : Prop :=
 ∃ q A n c q' A' n' c' Ax nx cx Ay ny cy k z xs ys, e = .returned (.tuple #[.agg #[.bool q, .slice A n c, .bool q', .slice A' n' c', .slice Ax nx cx, .slice Ay ny cy], .int .i64 k]) ∧ RatB w' (.agg #[.bool q, .slice A n c, .bool q', .slice A' n' c']) z (K + 2) ∧
  q94 w' Ax nx cx xs ∧ q94 w' Ay ny cy ys ∧ (∀ j, j < nx → QB (K + 2) (xs j)) ∧ (∀ i, i < ny → QB (K + 2) (ys i)) ∧ Res p k z nx xs ny ys ∧ Ext w w'
theorem q94.none (w : World) (f : Nat → Rat) : q94 w none 0 0 f := ⟨by omega, by omega, fun h => absurd h (by omega)⟩
theorem qrg (w w' : World) (p : Prob) (K : Nat) (k : Int) (hx : Ext w w') (h : (qba p = false ∧ k = 3) ∨ (qba p = true ∧ k = p.sol.err ∧ 0 = p.sol.val ∧ k ≠ 0)) : SolPost w p K (noSol k) w' :=
 ⟨_, _, _, _, _, _, _, _, _, 0, _, _, 0, _, k, 0, fun _ => 0, fun _ => 0, rfl, ⟨RatV.zero w', qkw (by omega)⟩, q94.none _ _, q94.none _ _, fun j hj => absurd hj (by omega), fun j hj => absurd hj (by omega), h.elim (fun h => .inl ⟨h.1, h.2, rfl, rfl, rfl⟩) (fun h => .inr ⟨h.1, h.2.1, h.2.2.1, .inr ⟨h.2.2.2, rfl, rfl⟩⟩), hx⟩
theorem q6l {p : Prob} (h : p.s1.C p.W ≠ 0) : p.sol = .inf (p.mult p.D1 p.s1.C) := by unfold Prob.sol; rw [if_pos h]
theorem qe0 {p : Prob} (h : p.s1.C p.W = 0) (h2 : entL p.s2.C p.s2.stalled p.art ≠ none) : p.sol = .unb := by unfold Prob.sol; rw [if_neg (fun h' => h' h), if_neg h2]
theorem q36 {p : Prob} (h : p.s1.C p.W = 0) (h2 : entL p.s2.C p.s2.stalled p.art = none) : p.sol = .opt (p.s2.C p.W) (pt p.m p.W p.s2.R p.s2.b) (p.mult p.D2 p.s2.C) := by unfold Prob.sol; rw [if_neg (fun h' => h' h), if_pos h2]
theorem Solve_l (v : Value) (p : Prob) (K : Nat) (w : World) (hv : qga w v p) (hb : qba p = true → Bnd p K) : Calls Tryz.prog 109 #[v] w (SolPost w p K) := by
 refine (Solve_b v p K w hv hb).mono ?_
 rintro e w' ⟨hx, h⟩
 rcases h with ⟨h1, rfl⟩ | ⟨h1, h2, rfl⟩ | ⟨h1, h2, h3, rfl⟩ | ⟨h1, h2, h3, q, A, n, c, q', A', n', c', bx, by', rfl, hz, hX, hY, -⟩
 ·exact qrg w w' p K 3 hx (.inl ⟨h1, rfl⟩)
 ·have e := q6l h2
  exact qrg w w' p K 17 hx (.inr ⟨h1, by rw [e]; rfl, by rw [e]; rfl, by decide⟩)
 ·have e := qe0 h2 h3
  exact qrg w w' p K 18 hx (.inr ⟨h1, by rw [e]; rfl, by rw [e]; rfl, by decide⟩)
 ·have e := q36 h2 h3
  have hp := validB_iff.1 h1
  have hB := hb h1
  have hE := Prob.end2 hp.vrel h2
  obtain ⟨b1, b2, b3⟩ := hB.way2 _ hE
  have hn : p.n ≤ 1000 := hp.2.1
  have hm : p.m ≤ 1000 := hp.2.2.1
  refine ⟨q, A, n, c, q', A', n', c', _, p.n, p.n, _, p.m, p.m, 0, p.s2.C p.W, _, p.mult p.D2 p.s2.C, rfl, ⟨hz, qqj (by omega) (b2 p.W (Nat.le_refl _))⟩, ⟨Nat.le_refl _, by omega, fun _ => ⟨bx, rfl, hX⟩⟩,
   ⟨Nat.le_refl _, by omega, fun _ => ⟨by', rfl, hY.congr (fun i _ => p.D2_mult _ i)⟩⟩, fun j _ => qqj (by omega) (pt_bound (K := K) (by have := hB.one; omega) (fun i hi => b1 i hi p.W (Nat.le_refl _)) (fun k l hk hl e => hE.way.inv.inj hk hl e) j), fun i hi => qog (b2 _ (Nat.le_of_lt (Prob.un_lt hp.vrel hi))) (by rw [Prob.D2_un]; exact qkw (by omega)),
   .inr ⟨h1, by rw [e]; rfl, by rw [e]; rfl, .inl ⟨rfl, rfl, rfl, e⟩⟩, hx⟩
def FarPost (w : World) (p : Prob) (K : Nat) (e : Ending) (w' : World) : Prop :=
 ∃ A n c ok ys, e = .returned (.tuple #[.slice A n c, .bool ok]) ∧ q94 w' A n c ys ∧ (∀ i, i < n → QB (K + 2) (ys i)) ∧ ((ok = true ∧ qba p = true ∧ n = p.m ∧ p.sol = .inf ys) ∨ (ok = false ∧ n = 0 ∧ (qba p = true → p.sol.err ≠ 17))) ∧ Ext w w'
theorem Farkas_l (v : Value) (p : Prob) (K : Nat) (w : World) (hv : qga w v p) (hb : qba p = true → Bnd p K) : Calls Tryz.prog 110 #[v] w (FarPost w p K) := by
 refine (Farkas_b v p K w hv hb).mono ?_
 rintro e w' ⟨hx, h⟩
 rcases h with ⟨h1, h2, b, rfl, hY, -⟩ | ⟨h1, rfl⟩
 ·have hp := validB_iff.1 h1
  have hB := hb h1
  obtain ⟨b1, b2, b3⟩ := hB.way _ (Prob.end1 hp.vrel)
  have hm : p.m ≤ 1000 := hp.2.2.1
  refine ⟨_, p.m, p.m, true, p.mult p.D1 p.s1.C, rfl, ⟨Nat.le_refl _, by omega, fun _ => ⟨b, rfl, hY.congr (fun i hi => Prob.D1_mult hp.vrel _ hi)⟩⟩, fun i hi => qog (b2 _ (Nat.le_of_lt (Prob.un_lt hp.vrel hi))) ?_, .inl ⟨rfl, h1, rfl, q6l h2⟩, hx⟩
  rw [Prob.D1_un hp.vrel hi]
  split
  ·exact q9t (by omega)
  ·exact qkw (by omega)
 ·refine ⟨_, 0, _, false, fun _ => 0, rfl, q94.none _ _, fun i hi => absurd hi (by omega), .inr ⟨rfl, rfl, fun hv' => ?_⟩, hx⟩
  have h2 := h1 hv'
  by_cases h3 : entL p.s2.C p.s2.stalled p.art = none
  ·rw [q36 h2 h3]; show (0 : Int) ≠ 17; decide
  ·rw [qe0 h2 h3]; show (18 : Int) ≠ 17; decide
theorem qiq {n : Int} {d : Nat} (h : in32 n) : QB 2 (qn n d) := by
 have h1 : B 2 n := by
  unfold B; rw [qfm]
  have := h.1; have := h.2; omega
 have h2 : B 2 (1 + ((d % 6 : Nat) : Int)) := by
  unfold B; rw [qfm]; omega
 have := qvh h1 h2 (by omega)
 simpa [qn] using this
theorem in32_zero : in32 0 := ⟨by decide, by decide⟩
theorem qjw {l : List Int} (h : ∀ z ∈ l, in32 z) (j : Nat) : in32 (l.getD j 0) := by
 rw [List.getD_eq_getElem?_getD]
 cases e : l[j]? with
 | none => exact in32_zero
 | some a => exact h a (List.mem_of_getElem? e)
theorem IP.obj_b {p : IP} (h : p.ok) (j : Nat) : QB 2 (p.pl.toP.obj j) := by
 show QB 2 ((p.obj.map (qn · p.den)).getD j 0)
 rw [qzn]; exact qiq (qjw h.1 j)
theorem IP.row_some {p : IP} {i : Nat} (hi : i < p.pl.toP.m) : ∃ r, p.rows[i]? = some r ∧ p.pl.rows.getD i RL.zero = r.rl p.den := by
 have hi' : i < p.rows.length := by simpa [PL.toP, IP.pl] using hi
 exact ⟨_, List.getElem?_eq_getElem hi', IP.row (List.getElem?_eq_getElem hi')⟩
theorem IP.coef_b {p : IP} (h : p.ok) {i : Nat} (hi : i < p.pl.toP.m) (j : Nat) : QB 2 (p.pl.toP.coef i j) := by
 obtain ⟨r, h1, h2⟩ := IP.row_some hi
 show QB 2 ((p.pl.rows.getD i RL.zero).coef.getD j 0)
 rw [h2]
 show QB 2 ((r.coef.map (qn · p.den)).getD j 0)
 rw [qzn]; exact qiq (qjw (h.2.2.2.2 r (List.mem_of_getElem? h1)).1 j)
theorem IP.right_b {p : IP} (h : p.ok) {i : Nat} (hi : i < p.pl.toP.m) : QB 2 (p.pl.toP.right i) := by
 obtain ⟨r, h1, h2⟩ := IP.row_some hi
 show QB 2 (p.pl.rows.getD i RL.zero).right
 rw [h2]
 exact qiq (h.2.2.2.2 r (List.mem_of_getElem? h1)).2.1
theorem Bnd.up {p : Prob} {K K' : Nat} (h : Bnd p K) (hK : K ≤ K') (hK' : K' ≤ 134217728) : Bnd p K' :=
 ⟨hK', Nat.le_trans h.one hK, fun j hj => qqj hK (h.obj j hj), fun i hi j hj => qqj hK (h.coef i hi j hj), fun i hi => qqj hK (h.right i hi),
  fun s hs => ⟨fun i hi j hj => qqj hK ((h.way s hs).1 i hi j hj), fun j hj => qqj hK ((h.way s hs).2.1 j hj), (h.way s hs).2.2⟩, fun i hi j hj => qqj hK (h.red1 i hi j hj),
  fun i hi => ⟨fun k hk j hj => qqj hK ((h.exp i hi).1 k hk j hj), fun j hj => qqj hK ((h.exp i hi).2 j hj)⟩, fun i hi j hj => qqj hK (h.red2 i hi j hj),
  fun s hs => ⟨fun i hi j hj => qqj hK ((h.way2 s hs).1 i hi j hj), fun j hj => qqj hK ((h.way2 s hs).2.1 j hj), (h.way2 s hs).2.2⟩⟩
theorem bK2_mono {m m' k k' h hr hr' : Nat} (hm : m ≤ m') (hk : k ≤ k') (hh : hr ≤ hr') : bK2 m k h hr ≤ bK2 m' k' h hr' := by
 unfold bK2
 have h1 := qv2 h hk
 have := Nat.mul_le_mul hm (show grow k h + hr + 1 ≤ grow k' h + hr' + 1 by omega)
 omega
theorem qrw {m m' k k' h hr hr' hd : Nat} (hm : m ≤ m') (hk : k ≤ k') (hh : hr ≤ hr') : bK3 m k h hr hd ≤ bK3 m' k' h hr' hd := by
 unfold bK3
 have h1 := bK2_mono (h := h) hm hk hh
 have := Nat.mul_le_mul hm (show hd + bK2 m k h hr + 1 ≤ hd + bK2 m' k' h hr' + 1 by omega)
 omega
instance holdsDec (rel : Nat) (l r : Rat) : Decidable (Holds rel l r) := by unfold Holds; infer_instance
def nnB (x : Nat → Rat) : Nat → Bool
 | 0 => true
 | j + 1 => nnB x j && decide (0 ≤ x j)
def hB (p : Prob) (x : Nat → Rat) (i : Nat) : Bool := decide (Holds (p.rel i) (dot p.n (p.coef i) x) (p.right i))
theorem nnB_iff {x : Nat → Rat} {n : Nat} : nnB x n = true ↔ ∀ j, j < n → 0 ≤ x j := by
 induction n with
 | zero => exact ⟨fun _ i hi => absurd hi (by omega), fun _ => rfl⟩
 | succ n ih =>
   show (nnB x n && decide (0 ≤ x n)) = true ↔ _
   rw [Bool.and_eq_true, ih, decide_eq_true_eq]
   constructor
   ·rintro ⟨a, b⟩ i hi
    by_cases e : i = n
    ·subst e; exact b
    ·exact a i (by omega)
   ·intro h; exact ⟨fun i hi => h i (by omega), h n (by omega)⟩
def sg1 (p : Prob) (y : Nat → Rat) (i : Nat) : Bool := decide ((p.rel i = 1 → 0 ≤ y i) ∧ (p.rel i = 3 → y i ≤ 0))
def sgB (p : Prob) (y : Nat → Rat) : Nat → Bool
 | 0 => true
 | i + 1 => sgB p y i && sg1 p y i
theorem sgB_iff {p : Prob} {y : Nat → Rat} {m : Nat} : sgB p y m = true ↔ ∀ i, i < m → (p.rel i = 1 → 0 ≤ y i) ∧ (p.rel i = 3 → y i ≤ 0) := by
 induction m with
 | zero => exact ⟨fun _ i hi => absurd hi (by omega), fun _ => rfl⟩
 | succ m ih =>
   show (sgB p y m && sg1 p y m) = true ↔ _
   rw [Bool.and_eq_true, ih]
   unfold sg1
   rw [decide_eq_true_eq]
   constructor
   ·rintro ⟨a, b⟩ i hi
    by_cases e : i = m
    ·subst e; exact b
    ·exact a i (by omega)
   ·intro h; exact ⟨fun i hi => h i (by omega), h m (by omega)⟩
theorem sgB_no {p : Prob} {y : Nat → Rat} {i m : Nat} (h : sg1 p y i = false) (hi : i < m) : sgB p y m = false := by
 cases e : sgB p y m with
 | false => rfl
 | true =>
   have := sgB_iff.1 e i hi
   unfold sg1 at h
   exact absurd this (of_decide_eq_false h)
def q03 (p : Prob) (ny : Nat) (y : Nat → Rat) : Bool := (ny == p.m) && sgB p y p.m
theorem ext4 {w0 w : World} {b : Nat} (hb : w0.heap.size ≤ b) (h : Ext w0 w) (u0 u1 u2 u3 : Value) : Ext w0 ((((w.setCell ⟨b, 0, none⟩ u0).setCell ⟨b, 1, none⟩ u1).setCell ⟨b, 2, none⟩ u2).setCell ⟨b, 3, none⟩ u3) :=
 (((h.set (p := ⟨b, 0, none⟩) hb u0).set (p := ⟨b, 1, none⟩) hb u1).set (p := ⟨b, 2, none⟩) hb u2).set (p := ⟨b, 3, none⟩) hb u3
theorem RBox.fr {P : Nat → Prop} {w w' : World} {b : Nat} {q : Rat} {k : Nat} (h : RBox w b q k) (f : Fr P w w') (hb : ¬ P b) : RBox w' b q k := by
 obtain ⟨x1, y1, A, A', d, e, d', e', h1, h2⟩ := h
 exact ⟨x1, y1, A, A', d, e, d', e', f.box h1 hb, f.ratB h2⟩
theorem fr4 {w : World} {b : Nat} {E : TypeId} {x y : Bool} {A A' : Option Addr} {d e d' e' : Nat} (B : Box w b E #[.bool x, .slice A d e, .bool y, .slice A' d' e']) (u0 u1 u2 u3 : Value) :
 Fr (fun k => k = b) w ((((w.setCell ⟨b, 0, none⟩ u0).setCell ⟨b, 1, none⟩ u1).setCell ⟨b, 2, none⟩ u2).setCell ⟨b, 3, none⟩ u3) := by
 have h0 := B.set 0 u0
 have h1 := h0.set 1 u1
 have h2 := h1.set 2 u2
 refine ((((Fr.refl (fun k => k = b) w).set (p := ⟨b, 0, none⟩) rfl (fun z => ?_) u0).set (p := ⟨b, 1, none⟩) rfl (fun z => ?_) u1).set (p := ⟨b, 2, none⟩) rfl (fun z => ?_) u2).set (p := ⟨b, 3, none⟩) rfl (fun z => ?_) u3
 ·rw [B.cell 0]; intro e; cases e
 ·rw [h0.cell 1]; intro e; cases e
 ·rw [h1.cell 2]; intro e; cases e
 ·rw [h2.cell 3]; intro e; cases e
end Go.Proofs.YtljncdcjkdgkeaaGreatDoor.Lp
namespace Go.Proofs.YtljncdcjkdgkeaaGreatDoor.Big
open Go.RowKit
def qao (w : World) (r : Nat) (es : Array MapEntry) (clock : Nat) : World := { w with heap := w.heap.setIfInBounds r (.map es clock) }
section
variable {P : Program} {w : World} {mt kt et pt : TypeId} {r clock c0 : Nat} {es0 : Array MapEntry}
theorem qs7 (hb : w.heap[r]? = some (.map es0 c0)) (es : Array MapEntry) (clock : Nat) : (qao w r es clock).heap[r]? = some (.map es clock) := (MapKept.heap_set hb).1
theorem qx2 (hb : w.heap[r]? = some (.map es0 c0)) (es : Array MapEntry) (clock : Nat) {k : Nat} (hk : k ≠ r) : (qao w r es clock).heap[k]? = w.heap[k]? := (MapKept.heap_set hb).2 k hk
theorem qdf (hk : P.underlying kt = some (.pointer pt)) (e : Bool) (n : Nat) (a : Option Addr) : (Instr.checkKey e (n + 1) kt (.pointer a)).run P w = .ok () w := by
 unfold Instr.checkKey
 simp [run_underlying hk, Result.andThen]
theorem qs4 (hk : P.underlying kt = some (.pointer pt)) (k : Value) : (Instr.findKey kt k []).run P w = .ok none w := by
 simp [Instr.findKey, run_underlying hk, Result.andThen, Instr.findNow]
theorem qb6 {j : TypeInfo} (hk : P.underlying kt = some (.pointer pt)) (hj : P.info? pt = some j) (a : Addr) : (Op.equal kt (.pointer (some a)) (.pointer (some a))).run P w = .ok true w := by
 have h : ∀ d : Nat, (Op.equalIn (d + 1) kt (.pointer (some a)) (.pointer (some a))).run P w = .ok true w := fun d => by
  simp [Op.equalIn, run_underlying hk, sizeOf, typeInfo, hj, run_sameAddr_same]
 simp [Op.equal, Op.maxDepth, h 9999]
theorem qc6 {j : TypeInfo} (hk : P.underlying kt = some (.pointer pt)) (hj : P.info? pt = some j) (a : Addr) (v : Value) (c : Nat) : (Instr.findKey kt (.pointer (some a)) [{ key := .pointer (some a), val := v, born := c }]).run P w = .ok (some (0, v)) w := by
 simp [Instr.findKey, run_underlying hk, Result.andThen, Instr.findNow, Instr.sameNow, Instr.findAsking, qb6 hk hj a]
theorem qig {z : Value} (hm : P.underlying mt = some (.map kt et)) (hk : P.underlying kt = some (.pointer pt)) (hb : w.heap[r]? = some (.map #[] clock)) (hz : (zeroValue et).run P w = .ok z w) (a : Option Addr) :
 (Instr.lookup mt (.map (some r)) (.pointer a) true).run P w = .ok (.tuple #[z, .bool false]) w := by
 simp [Instr.lookup, run_underlying hm, Result.andThen, MapKept.run_getObj_map hb, qdf (n := 9999) hk, qs4 hk, hz]
theorem q6k {j : TypeInfo} (hm : P.underlying mt = some (.map kt et)) (hk : P.underlying kt = some (.pointer pt)) (hj : P.info? pt = some j) (a : Addr) (v : Value) (c : Nat) (hb : w.heap[r]? = some (.map #[{ key := .pointer (some a), val := v, born := c }] clock)) :
 (Instr.lookup mt (.map (some r)) (.pointer (some a)) false).run P w = .ok v w := by
 simp [Instr.lookup, run_underlying hm, Result.andThen, MapKept.run_getObj_map hb, qdf (n := 9999) hk, qc6 hk hj]
theorem ql9 (hm : P.underlying mt = some (.map kt et)) (hk : P.underlying kt = some (.pointer pt)) (hb : w.heap[r]? = some (.map #[] clock)) (a : Option Addr) (v : Value) :
 (Instr.mapUpdate mt (.map (some r)) (.pointer a) v).run P w = .ok () (qao w r #[{ key := .pointer a, val := v, born := clock }] (clock + 1)) := by
 simp [Instr.mapUpdate, run_underlying hm, Result.andThen, MapKept.run_getObj_map hb, qdf (n := 9999) hk, qs4 hk, MapKept.run_setObj_map _ hb, qao]
theorem qj7 {j : TypeInfo} (hm : P.underlying mt = some (.map kt et)) (hk : P.underlying kt = some (.pointer pt)) (hj : P.info? pt = some j) (a : Addr) (v0 v : Value) (c : Nat) (hb : w.heap[r]? = some (.map #[{ key := .pointer (some a), val := v0, born := c }] clock)) :
 (Instr.mapUpdate mt (.map (some r)) (.pointer (some a)) v).run P w = .ok () (qao w r #[{ key := .pointer (some a), val := v, born := c }] clock) := by
 have hs : (Instr.keyThatStays (.pointer (some a)) (.pointer (some a))).run P w = .ok (.pointer (some a)) w := by
  simp [Instr.keyThatStays, Instr.sameBits]
 simp [Instr.mapUpdate, run_underlying hm, Result.andThen, MapKept.run_getObj_map hb, qdf (n := 9999) hk, qc6 hk hj, hs, MapKept.run_setObj_map _ hb, qao]
theorem qfs {d : TypeDesc} (hk : P.underlying kt = some d) (k : Value) : (Instr.findKey kt k []).run P w = .ok none w := by
 simp [Instr.findKey, run_underlying hk, Result.andThen, Instr.findNow]
theorem qr6 {d : TypeDesc} {z k : Value} (hm : P.underlying mt = some (.map kt et)) (hk : P.underlying kt = some d) (hc : (Instr.checkKey true 10000 kt k).run P w = .ok () w) (hb : w.heap[r]? = some (.map #[] clock)) (hz : (zeroValue et).run P w = .ok z w) :
 (Instr.lookup mt (.map (some r)) k false).run P w = .ok z w := by
 simp [Instr.lookup, run_underlying hm, Result.andThen, MapKept.run_getObj_map hb, hc, qfs hk, hz]
theorem qbb {d : TypeDesc} {k : Value} (hm : P.underlying mt = some (.map kt et)) (hk : P.underlying kt = some d) (hc : (Instr.checkKey false 10000 kt k).run P w = .ok () w) (hb : w.heap[r]? = some (.map #[] clock)) (v : Value) :
 (Instr.mapUpdate mt (.map (some r)) k v).run P w = .ok () (qao w r #[{ key := k, val := v, born := clock }] (clock + 1)) := by
 simp [Instr.mapUpdate, run_underlying hm, Result.andThen, MapKept.run_getObj_map hb, hc, qfs hk, MapKept.run_setObj_map _ hb, qao]
end
end Go.Proofs.YtljncdcjkdgkeaaGreatDoor.Big
namespace Go.Proofs.YtljncdcjkdgkeaaGreatDoor.Lp
open Go.RowKit
def q89 (vr fl : Int) (lo hi : Option Addr) (em : Bool) (A : Option Addr) (n c : Nat) : Array Value := #[.int .i64 vr, .int .i64 fl, .pointer lo, .pointer hi, .bool em, .slice A n c]
open Go.RowKit Go.Proofs.YtljncdcjkdgkeaaGreatDoor.Big Go.Proofs.YtljncdcjkdgkeaaGreatDoor.Rt
theorem Ext.map {a w : World} {r : Nat} (h : Ext a w) (hr : a.heap.size ≤ r) (es : Array MapEntry) (c : Nat) : Ext a (qao w r es c) :=
 ⟨h.os, h.tape, h.output, by have := h.size; simpa [qao] using this, fun k hk => by
  have hne : k ≠ r := by omega
  have := Below.block h k hk
  rw [← this]
  simp [qao, Ne.symm hne]⟩
theorem zero_int (w : World) : (zeroValue 3).run Tryz.prog w = .ok (.int .i64 0) w := by kernel_rfl
theorem qfo (w : World) : (zeroValue 4).run Tryz.prog w = .ok (.bool false) w := by kernel_rfl
theorem infoNode : (Tryz.prog.info? 79).map (·.size) = some 6 := by kernel_rfl
theorem Box.mapW {w : World} {b r : Nat} {E : TypeId} {cs : Array Value} {es0 : Array MapEntry} {c0 : Nat} (h : Box w b E cs) (hr : w.heap[r]? = some (.map es0 c0)) (es : Array MapEntry) (c : Nat) : Box (qao w r es c) b E cs := by
 have hne : b ≠ r := fun e => by
  subst e
  unfold Box at h
  rw [hr] at h
  injection h with h
  cases h
 exact (qx2 hr es c hne).trans h
set_option maxHeartbeats 4000000 in
set_option maxRecDepth 100000 in
theorem q5z (tb hb fb mb : Nat) (fl lev : Int) (em : Bool) (A : Option Addr) (n c ck : Nat) (v : Value) (w : World) (hT : Box w tb 79 (q89 (-1) fl none none em A n c)) (hH : Box w hb 131 #[.map (some mb)]) (hM : w.heap[mb]? = some (.map #[] ck)) (hl : lev ≤ 200) :
 Calls Tryz.prog 67 #[.pointer (some ⟨tb, 0, none⟩), .int .i64 lev, .pointer (some ⟨hb, 0, none⟩), v] w (fun e w' => e = .returned (.int .i64 (if fl = 0 then 0 else -1)) ∧ ∀ a, Ext a w → a.heap.size ≤ mb → Ext a w') := by
 obtain ⟨j, hj, -⟩ := Option.map_eq_some_iff.1 infoNode
 have e1 : decide ((200 : Int) < lev) = false := by simp; omega
 have h1 := qig (P := Tryz.prog) (mt := 131) Tryz.underlying131 Tryz.underlying25 hM (zero_int w) (some ⟨tb, 0, none⟩)
 have h2 := ql9 (P := Tryz.prog) (mt := 131) Tryz.underlying131 Tryz.underlying25 hM (some ⟨tb, 0, none⟩) (.int .i64 (-1))
 obtain ⟨w1, hw1⟩ : ∃ x, x = qao w mb #[{ key := .pointer (some ⟨tb, 0, none⟩), val := .int .i64 (-1), born := ck }] (ck + 1) := ⟨_, rfl⟩
 have hM1 : w1.heap[mb]? = some (.map #[{ key := .pointer (some ⟨tb, 0, none⟩), val := .int .i64 (-1), born := ck }] (ck + 1)) := by rw [hw1]; exact qs7 hM _ _
 have hT1 : Box w1 tb 79 (q89 (-1) fl none none em A n c) := by rw [hw1]; exact Box.mapW hT hM _ _
 have hH1 : Box w1 hb 131 #[.map (some mb)] := by rw [hw1]; exact Box.mapW hH hM _ _
 have hx1 : ∀ a, Ext a w → a.heap.size ≤ mb → Ext a w1 := fun a ha hr => by rw [hw1]; exact Ext.map ha hr _ _
 rw [← hw1] at h2
 have h3 := qj7 (P := Tryz.prog) (mt := 131) Tryz.underlying131 Tryz.underlying25 hj ⟨tb, 0, none⟩ (.int .i64 (-1)) (.int .i64 0) ck hM1
 obtain ⟨w2, hw2⟩ : ∃ x, x = qao w1 mb #[{ key := .pointer (some ⟨tb, 0, none⟩), val := .int .i64 0, born := ck }] (ck + 1) := ⟨_, rfl⟩
 have hM2 : w2.heap[mb]? = some (.map #[{ key := .pointer (some ⟨tb, 0, none⟩), val := .int .i64 0, born := ck }] (ck + 1)) := by rw [hw2]; exact qs7 hM1 _ _
 have hH2 : Box w2 hb 131 #[.map (some mb)] := by rw [hw2]; exact Box.mapW hH1 hM1 _ _
 have hx2 : ∀ a, Ext a w1 → a.heap.size ≤ mb → Ext a w2 := fun a ha hr => by rw [hw2]; exact Ext.map ha hr _ _
 rw [← hw2] at h3
 have h4 := q6k (P := Tryz.prog) (mt := 131) Tryz.underlying131 Tryz.underlying25 hj ⟨tb, 0, none⟩ (.int .i64 0) ck hM2
 have h5 := q6k (P := Tryz.prog) (mt := 131) Tryz.underlying131 Tryz.underlying25 hj ⟨tb, 0, none⟩ (.int .i64 (-1)) ck hM1
 have c0 := hH.c0
 have c1 := hH1.c0
 have c2 := hH2.c0
 have t0 : w1.cell? ⟨tb, 0, none⟩ = some (.int .i64 (-1)) := hT1.cell 0
 have t1 : w1.cell? ⟨tb, 1, none⟩ = some (.int .i64 fl) := hT1.cell 1
 have t2 : w1.cell? ⟨tb, 2, none⟩ = some (.pointer none) := hT1.cell 2
 have t3 : w1.cell? ⟨tb, 3, none⟩ = some (.pointer none) := hT1.cell 3
 clear hw1 hw2
 by_cases hf : fl = 0
 ·subst hf
  go_enter Tryz.func67, Tryz.ntmps67
  go_wp2_with fail
  go_ret
  exact ⟨rfl, fun a ha hr => hx2 a (hx1 a ha hr) hr⟩
 ·have e2 : (fl == 0) = false := by simpa using hf
  go_enter Tryz.func67, Tryz.ntmps67
  go_wp2_with fail
  go_ret
  exact ⟨rfl, fun a ha hr => hx1 a ha hr⟩
theorem qnt (w : World) (e : Bool) (a : Option Addr) (z : Int) : (Instr.checkKey e 10000 143 (.agg #[.pointer a, .int .i64 z])).run Tryz.prog w = .ok () w := by kernel_rfl
set_option maxHeartbeats 4000000 in
set_option maxRecDepth 100000 in
theorem qzb (tb sb pb mb : Nat) (fl lev : Int) (em : Bool) (A : Option Addr) (n c ck : Nat) (Ao Ar : Option Addr) (no co m cr : Nat) (v : Value) (w : World) (hT : Box w tb 79 (q89 (-1) fl none none em A n c)) (hS : Box w sb 140 #[.map (some mb)]) (hM : w.heap[mb]? = some (.map #[] ck)) (hP : Box w pb 41 #[.slice Ao no co, .slice Ar m cr]) (h0 : 0 ≤ lev) (h1 : lev ≤ 1000) (hm : m ≤ 9000000000000000000) :
 Calls Tryz.prog 76 #[.pointer (some ⟨tb, 0, none⟩), .int .i64 lev, .pointer (some ⟨sb, 0, none⟩), .pointer (some ⟨pb, 0, none⟩), v] w (fun e w' => e = .returned (.bool ((n : Int) == (m : Int) + lev)) ∧ ∀ a, Ext a w → a.heap.size ≤ mb → Ext a w') := by
 obtain ⟨W, hW⟩ : ∃ x, x = w.alloc (.cells #[.pointer (some ⟨tb, 0, none⟩), .int .i64 lev] 143) := ⟨_, rfl⟩
 have hE : Ext w W := by rw [hW]; exact (Ext.refl w).alloc _
 have hB : Box W w.heap.size 143 #[.pointer (some ⟨tb, 0, none⟩), .int .i64 lev] := by rw [hW]; exact Box.new _ _ _
 have hmb : mb < w.heap.size := by
  rcases Nat.lt_or_ge mb w.heap.size with h' | h'
  ·exact h'
  ·rw [Array.getElem?_eq_none h'] at hM; cases hM
 have hM0 : W.heap[mb]? = some (.map #[] ck) := (Below.block hE mb hmb).trans hM
 have e1 := qr6 (P := Tryz.prog) (mt := 140) Tryz.underlying140 Tryz.underlying143 (qnt W true (some ⟨tb, 0, none⟩) lev) hM0 (qfo W)
 have e2 := qbb (P := Tryz.prog) (mt := 140) Tryz.underlying140 Tryz.underlying143 (qnt W false (some ⟨tb, 0, none⟩) lev) hM0 (.bool true)
 obtain ⟨w1, hw1⟩ : ∃ x, x = qao W mb #[{ key := .agg #[.pointer (some ⟨tb, 0, none⟩), .int .i64 lev], val := .bool true, born := ck }] (ck + 1) := ⟨_, rfl⟩
 have hT1 : Box w1 tb 79 (q89 (-1) fl none none em A n c) := by rw [hw1]; exact Box.mapW (hT.ext hE) hM0 _ _
 have hP1 : Box w1 pb 41 #[.slice Ao no co, .slice Ar m cr] := by rw [hw1]; exact Box.mapW (hP.ext hE) hM0 _ _
 have hx1 : ∀ a, Ext a w → a.heap.size ≤ mb → Ext a w1 := fun a ha hr => by rw [hw1]; exact Ext.map (ha.trans hE) hr _ _
 rw [← hw1] at e2
 have c0 := (hS.ext hE).c0
 have b0 := hB.c0
 have b1 := hB.c1
 have t0 : w1.cell? ⟨tb, 0, none⟩ = some (.int .i64 (-1)) := hT1.cell 0
 have t5 : w1.cell? ⟨tb, 5, none⟩ = some (.slice A n c) := hT1.cell 5
 have p1 := hP1.c1
 have r1 : IntKind.i64.wrap ((m : Int) + lev) = (m : Int) + lev := IntWalk.i64_in _ (by omega)
 clear hw1
 go_enter Tryz.func76, Tryz.ntmps76
 go_upto_region 2 with fail
 simp only [← hW]
 clear hW
 go_upto_region 6 with fail
 go_quiet (fail)
 go_wp2_with fail
 go_ret
 exact ⟨rfl, fun a ha hr => (by repeat (first | exact hx1 a ha hr | apply Ext.drewN | apply Ext.drew))⟩
end Go.Proofs.YtljncdcjkdgkeaaGreatDoor.Lp

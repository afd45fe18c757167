/- What the laws above bigint use of it: shapes of values, bounds of magnitude, contracts with bounds. Plain: Lean's rational numbers by numerator and denominator, as the program reckons them. Plain: the texts of rational numbers. -/
import Derived.Test.YtljncdcjkdgkeaaGreatDoorW17
import Derived.Test.YtljncdcjkdgkeaaGreatDoorW15
import Derived.Test.YtljncdcjkdgkeaaGreatDoorMem2
import Derived.Below
import Derived.Lib.IndexMore
set_option linter.unusedVariables false
set_option linter.unusedSimpArgs false
namespace Go.Proofs.YtljncdcjkdgkeaaGreatDoor.Big
open Go.RowKit
open Go.Lib (decDigits decDigits_one itoa)

theorem BigV.shape {w : World} {v : Value} {z : Int} (h : BigV w v z) : ∃ p A n c, v = .agg #[.bool p, .slice A n c] := by
  obtain ⟨A, n, c, rfl, _⟩ := h.form
  exact ⟨_, A, n, c, rfl⟩
theorem Box.put2 {w : World} {b : Nat} {E : TypeId} {x y : Value} (h : Box w b E #[x, y]) (x' y' : Value) : Box ((w.setCell ⟨b, 0, none⟩ x').setCell ⟨b, 1, none⟩ y') b E #[x', y'] := by
  have h1 : Box _ _ _ #[x', y] := h.set 0 x'
  exact h1.set 1 y'
theorem boxes2' (w : World) (E : TypeId) (c0 c1 : Array Value) {b : Nat} {E' : TypeId} {cs : Array Value} (h : Box w b E' cs) :
    Box ((w.alloc (.cells c0 E)).alloc (.cells c1 E)) b E' cs ∧ Box ((w.alloc (.cells c0 E)).alloc (.cells c1 E)) w.heap.size E c0 ∧ Box ((w.alloc (.cells c0 E)).alloc (.cells c1 E)) (w.heap.size + 1) E c1 ∧ Ext w ((w.alloc (.cells c0 E)).alloc (.cells c1 E)) := by
  obtain ⟨h0, h1, h2⟩ := boxes2 w E c0 c1
  exact ⟨h.ext h2, h0, h1, h2⟩
theorem boxN {w w' : World} {E : TypeId} {cs : Array Value} {n : Nat} (h : Ext ((w.alloc (.cells cs E)).drewN n) w') : Box w' w.heap.size E cs := ((Box.new w E cs).drewN n).ext h
theorem boxD {w w' : World} {E : TypeId} {cs : Array Value} (h : Ext ((w.alloc (.cells cs E)).drew) w') : Box w' w.heap.size E cs := (Box.new w E cs).drew.ext h
theorem box0 {w w' : World} {E : TypeId} {cs : Array Value} (h : Ext (w.alloc (.cells cs E)) w') : Box w' w.heap.size E cs := (Box.new w E cs).ext h

def ParPost (s : ByteArray) (w : World) (e : Ending) (w' : World) : Prop := ∃ v X, e = .returned (.tuple #[v, .int .i64 (if isDec s.data.toList = true then 0 else 3)]) ∧ BigV w' v X ∧ (isDec s.data.toList = true → X = parseZ s.data.toList) ∧ (isDec s.data.toList = false → v = zeroAgg) ∧ Ext w w'
theorem Parse_any (s : ByteArray) (w : World) (hs : s.size ≤ 4096) : Calls Tryz.prog 128 #[.string s] w (ParPost s w) := by
  cases h : isDec s.data.toList with
  | true =>
    refine (Parse_ok s w hs h).mono ?_
    rintro e w' ⟨v, rfl, hb, hx⟩
    exact ⟨v, _, by rw [h]; rfl, hb, fun _ => rfl, fun h' => absurd (h.symm.trans h') (by decide), hx⟩
  | false =>
    refine (Parse_form s w hs h).mono ?_
    rintro e w' ⟨rfl, hx⟩
    exact ⟨zeroAgg, 0, by rw [h]; rfl, BigV.zero _, fun h' => absurd (h.symm.trans h') (by decide), fun _ => rfl, hx⟩

def B (k : Nat) (z : Int) : Prop := z.natAbs < pw k
theorem pw_le {j k : Nat} (h : j ≤ k) : pw j ≤ pw k := Nat.pow_le_pow_right (by decide) h
theorem pw_add' (j k : Nat) : pw (j + k) = pw j * pw k := Nat.pow_add _ _ _
theorem B_mono {j k : Nat} {z : Int} (h : j ≤ k) (b : B j z) : B k z := Nat.lt_of_lt_of_le b (pw_le h)
theorem B_neg {k : Nat} {z : Int} (b : B k z) : B k (-z) := by unfold B; rw [Int.natAbs_neg]; exact b
theorem B_abs {k : Nat} {z : Int} (b : B k z) : B k ((z.natAbs : Nat) : Int) := by unfold B; rw [Int.natAbs_natCast]; exact b
theorem B_add {k : Nat} {x y : Int} (a : B k x) (b : B k y) : B (k + 1) (x + y) := by
  unfold B at *
  have h1 : pw (k + 1) = pw k * 4294967296 := Nat.pow_succ ..
  have h2 := Int.natAbs_add_le x y
  omega
theorem B_sub {k : Nat} {x y : Int} (a : B k x) (b : B k y) : B (k + 1) (x - y) := by
  rw [Int.sub_eq_add_neg]; exact B_add a (B_neg b)
theorem B_mul {j k : Nat} {x y : Int} (a : B j x) (b : B k y) : B (j + k) (x * y) := by
  unfold B at *
  rw [Int.natAbs_mul, pw_add']
  exact Nat.mul_lt_mul'' a b
theorem cmpZ_self (x : Int) : cmpZ x x = 0 := by unfold cmpZ; simp
theorem Cmp_eq (x y : Value) (X Y : Int) (w : World) (hx : BigV w x X) (hy : BigV w y Y) (h : X = Y) : Calls Tryz.prog 45 #[x, y] w (IntPost w 0) := by
  have := Cmp_any x y X Y w hx hy
  rw [h, cmpZ_self] at this
  exact this
/-- a number of the heap with a bound of its magnitude -/
def BigB (w : World) (v : Value) (z : Int) (k : Nat) : Prop := BigV w v z ∧ B k z
theorem BigB.ext {w w' : World} {v : Value} {z : Int} {k : Nat} (h : BigB w v z k) (x : Ext w w') : BigB w' v z k := ⟨h.1.ext x, h.2⟩
def BigBPost (w : World) (z : Int) (k : Nat) (e : Ending) (w' : World) : Prop := ∃ v, e = .returned v ∧ BigB w' v z k ∧ Ext w w'
theorem toB {w : World} {z : Int} {k : Nat} (b : B k z) {e : Ending} {w' : World} (h : BigPost w z e w') : BigBPost w z k e w' := by
  obtain ⟨v, rfl, h1, h2⟩ := h
  exact ⟨v, rfl, ⟨h1, b⟩, h2⟩
theorem Add_b (x y : Value) (X Y : Int) (j k : Nat) (w : World) (hx : BigB w x X j) (hy : BigB w y Y k) (hL : max j k ≤ 1099511627776) : Calls Tryz.prog 80 #[x, y] w (BigBPost w (X + Y) (max j k + 1)) :=
  (Add_any x y X Y (max j k) w hx.1 hy.1 (B_mono (Nat.le_max_left _ _) hx.2) (B_mono (Nat.le_max_right _ _) hy.2) hL).mono fun _ _ h => toB (B_add (B_mono (Nat.le_max_left _ _) hx.2) (B_mono (Nat.le_max_right _ _) hy.2)) h
theorem Sub_b (x y : Value) (X Y : Int) (j k : Nat) (w : World) (hx : BigB w x X j) (hy : BigB w y Y k) (hL : max j k ≤ 1099511627776) : Calls Tryz.prog 86 #[x, y] w (BigBPost w (X - Y) (max j k + 1)) :=
  (Sub_any x y X Y (max j k) w hx.1 hy.1 (B_mono (Nat.le_max_left _ _) hx.2) (B_mono (Nat.le_max_right _ _) hy.2) hL).mono fun _ _ h => toB (B_sub (B_mono (Nat.le_max_left _ _) hx.2) (B_mono (Nat.le_max_right _ _) hy.2)) h
theorem Mul_b (x y : Value) (X Y : Int) (j k : Nat) (w : World) (hx : BigB w x X j) (hy : BigB w y Y k) (hL : max j k ≤ 1099511627776) : Calls Tryz.prog 63 #[x, y] w (BigBPost w (X * Y) (j + k)) :=
  (Mul_any x y X Y (max j k) w hx.1 hy.1 (B_mono (Nat.le_max_left _ _) hx.2) (B_mono (Nat.le_max_right _ _) hy.2) hL).mono fun _ _ h => toB (B_mul hx.2 hy.2) h
theorem Neg_b (x : Value) (X : Int) (j : Nat) (w : World) (hx : BigB w x X j) : Calls Tryz.prog 89 #[x] w (BigBPost w (-X) j) :=
  (Neg_any x X w hx.1).mono fun _ _ h => toB (B_neg hx.2) h
theorem Cmp_eqb (x y : Value) (X Y : Int) (j k : Nat) (w : World) (hx : BigB w x X j) (hy : BigB w y Y k) (h : X = Y) : Calls Tryz.prog 45 #[x, y] w (IntPost w 0) := Cmp_eq x y X Y w hx.1 hy.1 h
theorem Cmp_b (x y : Value) (X Y : Int) (j k : Nat) (w : World) (hx : BigB w x X j) (hy : BigB w y Y k) : Calls Tryz.prog 45 #[x, y] w (IntPost w (cmpZ X Y)) := Cmp_any x y X Y w hx.1 hy.1
theorem Sign_b (x : Value) (X : Int) (j : Nat) (w : World) (hx : BigB w x X j) : Calls Tryz.prog 77 #[x] w (IntPost w X.sign) := Sign_any x X w hx.1
/-- Ext by another name: what a drawn region holds -/
def Later (a b : World) : Prop := Ext a b
theorem Later.refl (w : World) : Later w w := Ext.refl w
theorem Later.drew {a b : World} (h : Later a b) : Later a b.drew := Ext.drew h
theorem Later.drewN {a b : World} (h : Later a b) (n : Nat) : Later a (b.drewN n) := Ext.drewN h n
theorem Later.alloc {a b : World} (h : Later a b) (o : Obj) : Later a (b.alloc o) := Ext.alloc h o
theorem Later.step {a b c : World} (h : Later a b) (k : Ext b c) : Later a c := Ext.trans h k
theorem B_gcd {j k : Nat} {x y : Int} (a : B j x) (b : B k y) : B (max j k) ((Nat.gcd x.natAbs y.natAbs : Nat) : Int) := by
  have a := B_mono (Nat.le_max_left j k) a
  have b := B_mono (Nat.le_max_right j k) b
  unfold B at *
  rw [Int.natAbs_natCast]
  rcases Nat.eq_zero_or_pos x.natAbs with h | h
  · rw [h, Nat.gcd_zero_left]; exact b
  · exact Nat.lt_of_le_of_lt (Nat.gcd_le_left _ h) a
theorem Gcd_b (x y : Value) (X Y : Int) (j k : Nat) (w : World) (hx : BigB w x X j) (hy : BigB w y Y k) (hL : max j k ≤ 1099511627776) : Calls Tryz.prog 90 #[x, y] w (BigBPost w ((Nat.gcd X.natAbs Y.natAbs : Nat) : Int) (max j k)) :=
  (Gcd_any x y X Y (max j k) w hx.1 hy.1 (B_mono (Nat.le_max_left _ _) hx.2) (B_mono (Nat.le_max_right _ _) hy.2) hL).mono fun _ _ h => toB (B_gcd hx.2 hy.2) h
theorem Of_b (n : Int) (w : World) (h0 : -9223372036854775808 ≤ n) (h1 : n ≤ 9223372036854775807) : Calls Tryz.prog 46 #[.int .i64 n] w (BigBPost w n 2) :=
  (Of_any n w h0 h1).mono fun _ _ h => toB (show n.natAbs < pw 2 by rw [pw_two_eq]; omega) h
theorem tdiv_boundG {k : Nat} {x : Int} (y : Int) (b : B k x) : B k (x.tdiv y) := by
  unfold B at *; rw [Int.natAbs_tdiv]; exact Nat.lt_of_le_of_lt (Nat.div_le_self _ _) b
theorem pad_cons : ∀ (k r : Nat), pad (k + 1) r = UInt8.ofNat (48 + r / 10 ^ k % 10) :: pad k r := by
  intro k
  induction k with
  | zero => intro r; simp [pad]
  | succ k ih =>
    intro r
    rw [pad, ih (r / 10), List.cons_append, Nat.div_div_eq_div_mul, ← Nat.pow_succ', pad]
theorem pad_full {n V : Nat} (hn : 0 < n) (h1 : 10 ^ (n - 1) ≤ V) (h2 : V < 10 ^ n) : pad n V = decDigits V := by
  obtain ⟨k, rfl⟩ : ∃ k, n = k + 1 := ⟨n - 1, by omega⟩
  rw [show k + 1 - 1 = k by omega] at h1
  have hp : 0 < 10 ^ k := Nat.pow_pos (by omega)
  have hq1 : 1 ≤ V / 10 ^ k := (Nat.one_le_div_iff hp).2 h1
  have hq9 : V / 10 ^ k < 10 := Nat.div_lt_of_lt_mul (by rw [← Nat.pow_succ]; exact h2)
  have hV : V / 10 ^ k * 10 ^ k + V % 10 ^ k = V := by rw [Nat.mul_comm]; exact Nat.div_add_mod V (10 ^ k)
  have h3 := decDigits_pad hq1 k (V % 10 ^ k) (Nat.mod_lt _ hp)
  rw [hV, decDigits_one hq9] at h3
  rw [h3, pad_cons, Nat.mod_eq_of_lt hq9]
  have hm : ∀ k r, pad k r = pad k (r % 10 ^ k) := by
    intro k
    induction k with
    | zero => intro r; rfl
    | succ k ih =>
      intro r
      rw [pad_cons, pad_cons, ih r, ih (r % 10 ^ (k + 1))]
      have e1 : r % 10 ^ (k + 1) % 10 ^ k = r % 10 ^ k := by rw [Nat.pow_succ]; exact Nat.mod_mul_right_mod _ _ _
      have e2 : r % 10 ^ (k + 1) / 10 ^ k % 10 = r / 10 ^ k % 10 := by rw [Nat.pow_succ, Nat.mod_mul_right_div_self, Nat.mod_mod]
      rw [e1, e2]
  rw [hm k V]; rfl
theorem valD_cons (c : UInt8) (t : List UInt8) : valD (c :: t) = (c.toNat - 48) * 10 ^ t.length + valD t := by
  have h := valD_append [c] t
  rw [valD_one] at h; exact h
theorem isDec_eq (l : List UInt8) : isDec l = (!(rest l).isEmpty && digs (rest l) && (if (rest l).head? = some 48 then (rest l == [48]) && !negd l else true)) := rfl
theorem Text_all (x : Value) (Z : Int) (L : Nat) (w : World) (hx : BigV w x Z) (bx : B L Z) (hL : L ≤ 1099511627776) (htab : TabOK w) : Calls Tryz.prog 70 #[x] w (StrPost w (itoa Z)) := by
  by_cases h : Z = 0
  · subst h; exact Text_zero x w hx
  · exact Text_any x Z L w hx bx hL h htab
theorem pad_valD : ∀ (r : List UInt8), digs r = true → pad r.length (valD r) = r := by
  intro r
  induction r with
  | nil => intro _; rfl
  | cons c t ih =>
    intro h
    have h1 := digs_get h (j := 0) (by simp)
    simp only [List.getElem_cons_zero] at h1
    have ht : digs t = true := digs_drop (l := c :: t) h 1
    have hlt := valD_lt ht
    have hp : 0 < 10 ^ t.length := Nat.pow_pos (by omega)
    rw [List.length_cons, pad_cons, valD_cons]
    have e1 : ((c.toNat - 48) * 10 ^ t.length + valD t) / 10 ^ t.length % 10 = c.toNat - 48 := by
      rw [Nat.mul_comm, Nat.mul_add_div hp, Nat.div_eq_of_lt hlt, Nat.add_zero]
      omega
    have e2 : ∀ a, pad t.length (a * 10 ^ t.length + valD t) = pad t.length (valD t) := by
      intro a
      have hm : ∀ k r, pad k r = pad k (r % 10 ^ k) := by
        intro k
        induction k with
        | zero => intro r; rfl
        | succ k ih =>
          intro r
          rw [pad_cons, pad_cons, ih r, ih (r % 10 ^ (k + 1))]
          have e1 : r % 10 ^ (k + 1) % 10 ^ k = r % 10 ^ k := by rw [Nat.pow_succ]; exact Nat.mod_mul_right_mod _ _ _
          have e2 : r % 10 ^ (k + 1) / 10 ^ k % 10 = r / 10 ^ k % 10 := by rw [Nat.pow_succ, Nat.mod_mul_right_div_self, Nat.mod_mod]
          rw [e1, e2]
      rw [hm, Nat.add_comm, Nat.add_mul_mod_self_right, Nat.mod_eq_of_lt hlt]
    rw [e1, e2, ih ht]
    congr 1
    apply UInt8.toNat_inj.1
    simp
    omega
theorem dec_rest {r : List UInt8} (hne : r.isEmpty = false) (hd : digs r = true) (hh : r.head? = some 48 → r = [48]) : decDigits (valD r) = r ∧ (r ≠ [48] → 0 < valD r) := by
  cases r with
  | nil => cases hne
  | cons c t =>
    by_cases hc : c = 48
    · subst hc
      have := hh rfl
      injection this with _ ht
      subst ht
      refine ⟨?_, fun h => absurd rfl h⟩
      have : valD [(48 : UInt8)] = 0 := by decide
      rw [this, decDigits_one (by omega)]; rfl
    · have h1 := digs_get hd (j := 0) (by simp)
      simp only [List.getElem_cons_zero] at h1
      have hne48 : c.toNat ≠ 48 := fun h => hc (UInt8.toNat_inj.1 h)
      have hge : 10 ^ t.length ≤ valD (c :: t) := by
        rw [valD_cons]
        have : 1 * 10 ^ t.length ≤ (c.toNat - 48) * 10 ^ t.length := Nat.mul_le_mul_right _ (by omega)
        omega
      have hp : 0 < 10 ^ t.length := Nat.pow_pos (by omega)
      have h2 := pad_full (n := t.length + 1) (V := valD (c :: t)) (by omega) hge (by have := valD_lt hd; rw [List.length_cons] at this; exact this)
      have h3 := pad_valD (c :: t) hd
      rw [List.length_cons] at h3
      exact ⟨h2.symm.trans h3, fun _ => by omega⟩
theorem itoa_parse {l : List UInt8} (h : isDec l = true) : itoa (parseZ l) = l := by
  rw [isDec_eq] at h
  simp only [Bool.and_eq_true] at h
  obtain ⟨⟨h1, h2⟩, h3⟩ := h
  have h1' : (rest l).isEmpty = false := by simpa using h1
  have hh : (rest l).head? = some 48 → rest l = [48] ∧ negd l = false := by
    intro he
    rw [if_pos he] at h3
    simp only [Bool.and_eq_true] at h3
    exact ⟨eq_of_beq h3.1, by simpa using h3.2⟩
  obtain ⟨d1, d2⟩ := dec_rest h1' h2 (fun he => (hh he).1)
  cases hn : negd l with
  | false =>
    have e : rest l = l := by unfold negd at hn; unfold rest Lib.trimPrefix; rw [hn]; rfl
    unfold parseZ itoa sgn
    rw [hn]
    simp only [Bool.false_eq_true, if_false]
    rw [if_neg (by omega), Int.toNat_natCast, d1, e]
  | true =>
    have hne : rest l ≠ [48] := by
      intro he
      have := (hh (by rw [he]; rfl)).2
      rw [hn] at this; cases this
    have hp := d2 hne
    have e : l = 45 :: rest l := by
      cases l with
      | nil => cases hn
      | cons c t =>
        unfold negd Lib.hasPrefix at hn
        have hc : (45 : UInt8) = c := by simpa [List.isPrefixOf] using hn
        subst hc
        rfl
    unfold parseZ itoa sgn
    rw [hn]
    simp only [if_true]
    rw [if_pos (by omega), Int.natAbs_neg, Int.natAbs_natCast, d1]
    exact e.symm

theorem parse_boundK {s : ByteArray} {k : Nat} (h1 : s.size ≤ k) (h2 : isDec s.data.toList = true) : B k (parseZ s.data.toList) := by
  have h3 : digs (rest s.data.toList) = true := by
    unfold isDec at h2
    simp only [Bool.and_eq_true] at h2
    exact h2.1.2
  unfold B parseZ
  rw [sgn_natAbs]
  have h4 := valD_lt h3
  have h5 := ten_le_pw (rest s.data.toList).length
  have h6 := rest_len s.data.toList
  have h7 : s.data.toList.length = s.size := rfl
  have h8 := pw_le (show (rest s.data.toList).length ≤ k by omega)
  exact Nat.lt_of_lt_of_le h4 (Nat.le_trans h5 h8)
theorem Text_b (x : Value) (X : Int) (j : Nat) (w : World) (hx : BigB w x X j) (hL : j ≤ 1099511627776) (ht : TabOK w) : Calls Tryz.prog 70 #[x] w (StrPost w (itoa X)) :=
  Text_all x X j w hx.1 hx.2 hL ht
end Go.Proofs.YtljncdcjkdgkeaaGreatDoor.Big

namespace Go.Proofs.YtljncdcjkdgkeaaGreatDoor.Rt

theorem red_pos {n d : Int} (hd : 0 < d) : (Rat.divInt n d).num = n.tdiv ((Nat.gcd n.natAbs d.natAbs : Nat) : Int) ∧ ((Rat.divInt n d).den : Int) = d.tdiv ((Nat.gcd n.natAbs d.natAbs : Nat) : Int) := by
  have hg : d.gcd n = Nat.gcd n.natAbs d.natAbs := Nat.gcd_comm _ _
  have h1 : ((Nat.gcd n.natAbs d.natAbs : Nat) : Int) ∣ n := Int.natAbs_dvd_natAbs.1 (by rw [Int.natAbs_natCast]; exact Nat.gcd_dvd_left _ _)
  have h2 : ((Nat.gcd n.natAbs d.natAbs : Nat) : Int) ∣ d := Int.natAbs_dvd_natAbs.1 (by rw [Int.natAbs_natCast]; exact Nat.gcd_dvd_right _ _)
  refine ⟨?_, ?_⟩
  · rw [Rat.num_divInt, Int.sign_eq_one_of_pos hd, Int.one_mul, hg, Int.tdiv_eq_ediv_of_dvd h1]
  · rw [Rat.den_divInt, if_neg (by omega), hg, Int.tdiv_eq_ediv_of_dvd h2, Int.natCast_ediv]
    congr 1
    omega
theorem add_eq (x y : Rat) : x + y = Rat.divInt (x.num * y.den + y.num * x.den) (x.den * y.den) := by
  conv => lhs; rw [← Rat.num_divInt_den x, ← Rat.num_divInt_den y]
  exact Rat.divInt_add_divInt _ _ (by have := x.den_pos; omega) (by have := y.den_pos; omega)
theorem mul_eq (x y : Rat) : x * y = Rat.divInt (x.num * y.num) (x.den * y.den) := by
  conv => lhs; rw [← Rat.num_divInt_den x, ← Rat.num_divInt_den y]
  exact Rat.divInt_mul_divInt _ _
theorem div_eq (x y : Rat) : x / y = Rat.divInt (x.num * y.den) (x.den * y.num) := by
  rw [Rat.div_def, Rat.inv_def]
  conv => lhs; rw [← Rat.num_divInt_den x]
  exact Rat.divInt_mul_divInt _ _
/-- what Cmp answers -/
def cmpQ (x y : Rat) : Int := if x < y then -1 else if y < x then 1 else 0
theorem cmpQ_cases (x y : Rat) : (x < y ∧ cmpQ x y = -1) ∨ (x = y ∧ cmpQ x y = 0) ∨ (y < x ∧ cmpQ x y = 1) := by
  unfold cmpQ
  by_cases h : x < y
  · exact .inl ⟨h, by rw [if_pos h]⟩
  · by_cases h2 : y < x
    · exact .inr (.inr ⟨h2, by rw [if_neg h, if_pos h2]⟩)
    · exact .inr (.inl ⟨Rat.le_antisymm (Rat.not_lt.1 h2) (Rat.not_lt.1 h), by rw [if_neg h, if_neg h2]⟩)
theorem cmpQ_self (x : Rat) : cmpQ x x = 0 := by unfold cmpQ; rw [if_neg Rat.lt_irrefl, if_neg Rat.lt_irrefl]
theorem cmpQ_lt {x y : Rat} (h : x < y) : cmpQ x y = -1 := by unfold cmpQ; rw [if_pos h]
theorem cmpQ_gt {x y : Rat} (h : y < x) : cmpQ x y = 1 := by
  unfold cmpQ; rw [if_neg (Rat.not_lt.2 (Rat.le_of_lt h)), if_pos h]
theorem cmpQ_eq (x y : Rat) : cmpQ x y = 0 ↔ x = y := by
  rcases cmpQ_cases x y with ⟨h, e⟩ | ⟨h, e⟩ | ⟨h, e⟩ <;> rw [e]
  · exact ⟨fun h' => absurd h' (by decide), fun h' => absurd h' (Rat.ne_of_lt h)⟩
  · exact ⟨fun _ => h, fun _ => rfl⟩
  · exact ⟨fun h' => absurd h' (by decide), fun h' => absurd h'.symm (Rat.ne_of_lt h)⟩
theorem cmpQ_swap (x y : Rat) : cmpQ x y = -cmpQ y x := by
  rcases cmpQ_cases x y with ⟨h, e⟩ | ⟨h, e⟩ | ⟨h, e⟩
  · rw [e, cmpQ_gt h]
  · subst h; rw [e]; rfl
  · rw [e, cmpQ_lt h]; rfl
theorem cmpQ_add (x y z : Rat) : cmpQ (x + z) (y + z) = cmpQ x y := by
  unfold cmpQ
  simp only [Rat.add_lt_add_right]
theorem sign_num (x : Rat) : (0 < x ∧ x.num.sign = 1) ∨ (x = 0 ∧ x.num.sign = 0) ∨ (x < 0 ∧ x.num.sign = -1) := by
  rcases Int.lt_trichotomy x.num 0 with h | h | h
  · refine .inr (.inr ⟨?_, Int.sign_eq_neg_one_of_neg h⟩)
    have h1 : ¬ 0 ≤ x := fun h' => by have := Rat.num_nonneg.2 h'; omega
    exact Rat.not_le.1 h1
  · have := Rat.num_eq_zero.1 h
    exact .inr (.inl ⟨this, by rw [h]; rfl⟩)
  · refine .inl ⟨?_, Int.sign_eq_one_of_pos h⟩
    refine Rat.lt_of_le_of_ne (Rat.num_nonneg.1 (by omega)) ?_
    intro h0
    rw [← h0] at h
    exact absurd h (by decide)
theorem cmpQ_sub (x y : Rat) : (x - y).num.sign = cmpQ x y := by
  rcases cmpQ_cases x y with ⟨h, e⟩ | ⟨h, e⟩ | ⟨h, e⟩
  · rw [e]
    have h1 : x - y < 0 := by rw [Rat.sub_lt_iff, Rat.zero_add]; exact h
    rcases sign_num (x - y) with ⟨a, b⟩ | ⟨a, b⟩ | ⟨a, b⟩
    · exact absurd (Rat.le_of_lt a) (Rat.not_le.2 h1)
    · rw [a] at h1; exact absurd h1 Rat.lt_irrefl
    · exact b
  · subst h; rw [e, Rat.sub_self]; rfl
  · rw [e]
    have h1 : 0 < x - y := (Rat.lt_iff_sub_pos y x).1 h
    rcases sign_num (x - y) with ⟨a, b⟩ | ⟨a, b⟩ | ⟨a, b⟩
    · exact b
    · rw [a] at h1; exact absurd h1 Rat.lt_irrefl
    · exact absurd (Rat.le_of_lt a) (Rat.not_le.2 h1)
theorem cmpQ_mul (x y z : Rat) : cmpQ (x * z) (y * z) = cmpQ x y * z.num.sign := by
  rcases sign_num z with ⟨a, b⟩ | ⟨a, b⟩ | ⟨a, b⟩
  · rw [b, Int.mul_one]; unfold cmpQ; simp only [Rat.mul_lt_mul_right a]
  · rw [b, a, Rat.mul_zero, Rat.mul_zero, Int.mul_zero, cmpQ_self]
  · rw [b]
    have hz : 0 < -z := by have := Rat.neg_lt_neg a; rwa [Rat.neg_zero] at this
    have h1 : ∀ u v : Rat, u * z < v * z ↔ v < u := by
      intro u v
      rw [← Rat.neg_lt_neg_iff, ← Rat.mul_neg, ← Rat.mul_neg]
      exact Rat.mul_lt_mul_right hz
    have h2 : cmpQ (x * z) (y * z) = cmpQ y x := by unfold cmpQ; simp only [h1]
    rw [h2, cmpQ_swap y x]; omega
end Go.Proofs.YtljncdcjkdgkeaaGreatDoor.Rt

namespace Go.Proofs.YtljncdcjkdgkeaaGreatDoor.Rt
open Go.Proofs.YtljncdcjkdgkeaaGreatDoor.Big
open Go.Lib (decDigits decDigits_one itoa)

theorem dec_ind {p : Nat → Prop} (h1 : ∀ n, n < 10 → p n) (h2 : ∀ n, ¬ n < 10 → p (n / 10) → p n) : ∀ n, p n := by
  intro n
  induction n using Nat.strongRecOn with
  | _ n ih =>
    by_cases h : n < 10
    · exact h1 n h
    · exact h2 n h (ih _ (by omega))
theorem digit_ok {d : Nat} (h : d < 10) : (48 : UInt8) ≤ UInt8.ofNat (48 + d) ∧ UInt8.ofNat (48 + d) ≤ 57 ∧ (UInt8.ofNat (48 + d)).toNat = 48 + d := by
  have e : (UInt8.ofNat (48 + d)).toNat = 48 + d := by simp; omega
  refine ⟨?_, ?_, e⟩ <;> rw [UInt8.le_iff_toNat_le, e] <;> simp <;> omega
theorem digs_dec (n : Nat) : digs (decDigits n) = true := by
  refine dec_ind (p := fun n => digs (decDigits n) = true) ?_ ?_ n
  · intro n h
    obtain ⟨a, b, _⟩ := digit_ok h
    rw [decDigits_one h]; unfold digs; rw [List.all_cons, List.all_nil, decide_eq_true a, decide_eq_true b]; rfl
  · intro n h ih
    obtain ⟨a, b, _⟩ := digit_ok (show n % 10 < 10 by omega)
    rw [decDigits_big h, digs_append, ih]; unfold digs; rw [List.all_cons, List.all_nil, decide_eq_true a, decide_eq_true b]; rfl
theorem valD_dec (n : Nat) : valD (decDigits n) = n := by
  refine dec_ind (p := fun n => valD (decDigits n) = n) ?_ ?_ n
  · intro n h
    obtain ⟨_, _, e⟩ := digit_ok h
    rw [decDigits_one h, valD_one, e]; omega
  · intro n h ih
    obtain ⟨_, _, e⟩ := digit_ok (show n % 10 < 10 by omega)
    rw [decDigits_big h, valD_append, ih, valD_one, e]; simp; omega
theorem dec_ne (n : Nat) : decDigits n ≠ [] := by
  by_cases h : n < 10
  · rw [decDigits_one h]; simp
  · rw [decDigits_big h]; simp
theorem digs_neg {l : List UInt8} (h : digs l = true) : negd l = false := by
  unfold negd Lib.hasPrefix
  cases l with
  | nil => rfl
  | cons c t =>
    have := (digs_get h (j := 0) (by simp)).1
    simp only [List.getElem_cons_zero] at this
    simp [List.isPrefixOf]
    intro hc; subst hc; simp at this
theorem rest_pos {l : List UInt8} (h : negd l = false) : rest l = l := by unfold negd at h; unfold rest Lib.trimPrefix; rw [h]; rfl
theorem parse_itoa (z : Int) : parseZ (itoa z) = z := by
  rcases Int.lt_or_le z 0 with h | h
  · obtain ⟨u, rfl⟩ : ∃ u : Nat, z = -(u : Int) := ⟨z.natAbs, by omega⟩
    rw [Lib.itoa_neg u (by omega)]
    have h1 : negd (45 :: decDigits u) = true := by simp [negd, Lib.hasPrefix, List.isPrefixOf]
    have h2 : rest (45 :: decDigits u) = decDigits u := by unfold rest Lib.trimPrefix; unfold negd at h1; rw [h1]; rfl
    unfold parseZ sgn
    rw [h1, h2, valD_dec]; rfl
  · obtain ⟨u, rfl⟩ : ∃ u : Nat, z = (u : Int) := ⟨z.natAbs, by omega⟩
    rw [Lib.itoa_nonneg u]
    have h1 := digs_neg (digs_dec u)
    unfold parseZ sgn
    rw [h1, rest_pos h1, valD_dec]; rfl
theorem itoa_inj {x y : Int} (h : itoa x = itoa y) : x = y := by rw [← parse_itoa x, h, parse_itoa]
theorem digs_slash {l : List UInt8} (h : digs l = true) : (47 : UInt8) ∉ l := by
  intro hm
  unfold digs at h
  rw [List.all_eq_true] at h
  exact absurd (h _ hm) (by decide)
theorem itoa_slash (z : Int) : (47 : UInt8) ∉ itoa z := by
  rcases Int.lt_or_le z 0 with h | h
  · obtain ⟨u, rfl⟩ : ∃ u : Nat, z = -(u : Int) := ⟨z.natAbs, by omega⟩
    rw [Lib.itoa_neg u (by omega)]
    have := digs_slash (digs_dec u)
    simp [this]
  · obtain ⟨u, rfl⟩ : ∃ u : Nat, z = (u : Int) := ⟨z.natAbs, by omega⟩
    rw [Lib.itoa_nonneg u]
    exact digs_slash (digs_dec u)
theorem dec_slash {l : List UInt8} (h : isDec l = true) : (47 : UInt8) ∉ l := by rw [← itoa_parse h]; exact itoa_slash _
theorem split_uniq {a b c d : List UInt8} (ha : (47 : UInt8) ∉ a) (hc : (47 : UInt8) ∉ c) (h : a ++ 47 :: b = c ++ 47 :: d) : a = c ∧ b = d := by
  induction a generalizing c with
  | nil =>
    cases c with
    | nil => simpa using h
    | cons x c => simp at h; exact absurd (by rw [← h.1]; simp) hc
  | cons y a ih =>
    cases c with
    | nil => simp at h; exact absurd (by rw [h.1]; simp) ha
    | cons x c =>
      simp only [List.cons_append, List.cons.injEq] at h
      obtain ⟨h1, h2⟩ := ih (fun hm => ha (by simp [hm])) (fun hm => hc (by simp [hm])) h.2
      exact ⟨by rw [h.1, h1], h2⟩
/-- the first slash of a text -/
theorem occ_slash (l : List UInt8) (i : Nat) : Lib.occAt l [47] i = true ↔ l[i]? = some 47 := by
  unfold Lib.occAt
  cases h : l.drop i with
  | nil =>
    have : l.length ≤ i := by simpa using h
    rw [List.getElem?_eq_none this]
    simp [List.isPrefixOf]
  | cons c t =>
    have e : l[i]? = some c := by
      have := congrArg (fun m => m[0]?) h
      simpa using this
    rw [e]
    show ((47 : UInt8) == c && List.isPrefixOf [] t) = true ↔ _
    rw [show List.isPrefixOf ([] : List UInt8) t = true by cases t <;> rfl, Bool.and_true, beq_iff_eq, Option.some.injEq]
    exact eq_comm
theorem cut_cases (l : List UInt8) : ((47 : UInt8) ∉ l ∧ Lib.cut l [47] = (l, [], false)) ∨ ∃ a b, (47 : UInt8) ∉ a ∧ l = a ++ 47 :: b ∧ Lib.cut l [47] = (a, b, true) := by
  unfold Lib.cut
  rcases Lib.index_spec l [47] with ⟨h1, h2⟩ | ⟨i, h1, h2, h3, h4⟩
  · refine .inl ⟨?_, by rw [h1]; rfl⟩
    intro hm
    obtain ⟨i, hi, e⟩ := List.mem_iff_getElem.1 hm
    have := h2 i (by omega)
    have h5 := (occ_slash l i).2 (by rw [List.getElem?_eq_getElem hi, e])
    rw [this] at h5; cases h5
  · refine .inr ⟨l.take i, l.drop (i + 1), ?_, ?_, ?_⟩
    · intro hm
      obtain ⟨j, hj, e⟩ := List.mem_iff_getElem.1 hm
      have hj' : j < i ∧ j < l.length := by rw [List.length_take] at hj; omega
      rw [List.getElem_take] at e
      have h5 := (occ_slash l j).2 (by rw [List.getElem?_eq_getElem hj'.2, e])
      have := h4 j hj'.1
      rw [this] at h5; cases h5
    · have h5 := (occ_slash l i).1 h3
      obtain ⟨hi, e⟩ := List.getElem?_eq_some_iff.1 h5
      have := List.take_append_drop i l
      rw [List.drop_eq_getElem_cons hi, e] at this
      exact this.symm
    · rw [h1, if_pos (by omega), Int.toNat_natCast]; rfl

def isRat (l : List UInt8) : Bool :=
  if (Lib.cut l [47]).2.2 then isDec (Lib.cut l [47]).1 && isDec (Lib.cut l [47]).2.1 && decide (1 < parseZ (Lib.cut l [47]).2.1) && decide (Nat.gcd (parseZ (Lib.cut l [47]).1).natAbs (parseZ (Lib.cut l [47]).2.1).natAbs = 1)
  else isDec (Lib.cut l [47]).1
def parseQ (l : List UInt8) : Rat := Rat.divInt (parseZ (Lib.cut l [47]).1) (if (Lib.cut l [47]).2.2 then parseZ (Lib.cut l [47]).2.1 else 1)
def ratText (q : Rat) : List UInt8 := if q.den = 1 then itoa q.num else itoa q.num ++ 47 :: itoa (q.den : Int)
theorem red_one {n d : Int} (hd : 0 < d) (hg : Nat.gcd n.natAbs d.natAbs = 1) : (Rat.divInt n d).num = n ∧ ((Rat.divInt n d).den : Int) = d := by
  obtain ⟨a, b⟩ := red_pos (n := n) hd
  rw [hg] at a b
  exact ⟨by rw [a]; exact Int.tdiv_one _, by rw [b]; exact Int.tdiv_one _⟩
theorem divInt_one' (n : Int) : (Rat.divInt n 1).num = n ∧ (Rat.divInt n 1).den = 1 := by
  obtain ⟨a, b⟩ := red_one (n := n) (d := 1) (by omega) (by simp)
  exact ⟨a, by omega⟩
theorem text_parse {l : List UInt8} (h : isRat l = true) : ratText (parseQ l) = l := by
  unfold isRat at h
  unfold parseQ ratText
  rcases cut_cases l with ⟨_, e⟩ | ⟨a, b, _, hl, e⟩
  · rw [e] at h ⊢
    simp only [Bool.false_eq_true, if_false] at h ⊢
    obtain ⟨h1, h2⟩ := divInt_one' (parseZ l)
    rw [h1, h2, if_pos rfl, itoa_parse h]
  · rw [e] at h ⊢
    simp only [if_true, Bool.and_eq_true, decide_eq_true_eq] at h ⊢
    obtain ⟨⟨⟨h1, h2⟩, h3⟩, h4⟩ := h
    obtain ⟨h5, h6⟩ := red_one (show 0 < parseZ b by omega) h4
    rw [if_neg (by omega), h5, h6, itoa_parse h1, itoa_parse h2, hl]
/-- what the reference asks of a text -/
theorem isRat_iff (l : List UInt8) : isRat l = true ↔
    (((Lib.cut l [47]).2.2 = false ∧ isDec (Lib.cut l [47]).1 = true) ∨ ((Lib.cut l [47]).2.2 = true ∧ isDec (Lib.cut l [47]).1 = true ∧ isDec (Lib.cut l [47]).2.1 = true ∧ 0 < parseZ (Lib.cut l [47]).2.1 ∧ ratText (parseQ l) = l)) := by
  constructor
  · intro h
    have ht := text_parse h
    unfold isRat at h
    cases e : (Lib.cut l [47]).2.2 with
    | false => rw [e] at h; exact .inl ⟨rfl, by simpa using h⟩
    | true =>
      rw [e] at h
      simp only [if_true, Bool.and_eq_true, decide_eq_true_eq] at h
      obtain ⟨⟨⟨h1, h2⟩, h3⟩, h4⟩ := h
      exact .inr ⟨rfl, h1, h2, by omega, ht⟩
  · rintro (⟨e, h⟩ | ⟨e, h1, h2, h3, h4⟩)
    · unfold isRat; rw [e]; simpa using h
    · rcases cut_cases l with ⟨_, e'⟩ | ⟨a, b, ha, hl, e'⟩
      · rw [e'] at e; cases e
      · unfold isRat
        rw [e'] at h1 h2 h3 ⊢
        dsimp only at h1 h2 h3
        simp only [if_true, Bool.and_eq_true, decide_eq_true_eq]
        have hq : parseQ l = Rat.divInt (parseZ a) (parseZ b) := by unfold parseQ; rw [e']; rfl
        rw [hq] at h4
        unfold ratText at h4
        by_cases hd : (Rat.divInt (parseZ a) (parseZ b)).den = 1
        · rw [if_pos hd] at h4
          exact absurd (by rw [h4, hl]; simp) (itoa_slash (Rat.divInt (parseZ a) (parseZ b)).num)
        · rw [if_neg hd, hl] at h4
          obtain ⟨k1, k2⟩ := split_uniq (itoa_slash _) ha h4
          have k1 := itoa_inj (k1.trans (itoa_parse h1).symm)
          have k2 := itoa_inj (k2.trans (itoa_parse h2).symm)
          have hred := (Rat.divInt (parseZ a) (parseZ b)).reduced
          unfold Nat.Coprime at hred
          rw [k1] at hred
          have k3 : (Rat.divInt (parseZ a) (parseZ b)).den = (parseZ b).natAbs := by omega
          rw [k3] at hred
          exact ⟨⟨⟨h1, h2⟩, by omega⟩, hred⟩
end Go.Proofs.YtljncdcjkdgkeaaGreatDoor.Rt

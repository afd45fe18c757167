/- What the laws above bigint use of it: shapes of values, bounds of magnitude, contracts with bounds. -/
import Derived.Test.YtginogcdjplhiaaGreatDoorW17
import Derived.Test.YtginogcdjplhiaaGreatDoorW14
import Derived.Test.YtginogcdjplhiaaGreatDoorW12
import Derived.Test.YtginogcdjplhiaaGreatDoorW11
import Derived.Test.YtginogcdjplhiaaGreatDoorW10
import Derived.Test.YtginogcdjplhiaaGreatDoorW9
import Derived.Test.YtginogcdjplhiaaGreatDoorW8
import Derived.Test.YtginogcdjplhiaaGreatDoorMem2
set_option linter.unusedVariables false
set_option linter.unusedSimpArgs false
namespace Go.Proofs.YtginogcdjplhiaaGreatDoor.Big
open Go.RowKit
open Go.Lib (decDigits decDigits_one itoa)

theorem BigV.shape {w : World} {v : Value} {z : Int} (h : BigV w v z) : ∃ p A n c, v = .agg #[.bool p, .slice A n c] := by
  obtain ⟨A, n, c, rfl, _⟩ := h.form
  exact ⟨_, A, n, c, rfl⟩
theorem Box.put2 {w : World} {b : Nat} {E : TypeId} {x y : Value} (h : Box w b E #[x, y]) (x' y' : Value) : Box ((w.setCell ⟨b, 0, none⟩ x').setCell ⟨b, 1, none⟩ y') b E #[x', y'] := by
  have h1 : Box _ _ _ #[x', y] := h.set 0 x'
  exact h1.set 1 y'
theorem boxes2' (w : World) (E : TypeId) (c0 c1 : Array Value) {b : Nat} {E' : TypeId} {cs : Array Value} (h : Box w b E' cs) :
    Box ((w.alloc (.cells c0 E)).alloc (.cells c1 E)) b E' cs ∧ Box ((w.alloc (.cells c0 E)).alloc (.cells c1 E)) w.heap.size E c0 ∧ Box ((w.alloc (.cells c0 E)).alloc (.cells c1 E)) (w.heap.size + 1) E c1 ∧ Ext w ((w.alloc (.cells c0 E)).alloc (.cells c1 E)) := by
  obtain ⟨h0, h1, h2⟩ := boxes2 w E c0 c1
  exact ⟨h.ext h2, h0, h1, h2⟩
theorem boxN {w w' : World} {E : TypeId} {cs : Array Value} {n : Nat} (h : Ext ((w.alloc (.cells cs E)).drewN n) w') : Box w' w.heap.size E cs := ((Box.new w E cs).drewN n).ext h
theorem boxD {w w' : World} {E : TypeId} {cs : Array Value} (h : Ext ((w.alloc (.cells cs E)).drew) w') : Box w' w.heap.size E cs := (Box.new w E cs).drew.ext h
theorem box0 {w w' : World} {E : TypeId} {cs : Array Value} (h : Ext (w.alloc (.cells cs E)) w') : Box w' w.heap.size E cs := (Box.new w E cs).ext h

def ParPost (s : ByteArray) (w : World) (e : Ending) (w' : World) : Prop := ∃ v X, e = .returned (.tuple #[v, .int .i64 (if isDec s.data.toList = true then 0 else 3)]) ∧ BigV w' v X ∧ (isDec s.data.toList = true → X = parseZ s.data.toList) ∧ (isDec s.data.toList = false → v = zeroAgg) ∧ Ext w w'
theorem Parse_any (s : ByteArray) (w : World) (hs : s.size ≤ 4096) : Calls Tryz.prog 55 #[.string s] w (ParPost s w) := by
  cases h : isDec s.data.toList with
  | true =>
    refine (Parse_ok s w hs h).mono ?_
    rintro e w' ⟨v, rfl, hb, hx⟩
    exact ⟨v, _, by rw [h]; rfl, hb, fun _ => rfl, fun h' => absurd (h.symm.trans h') (by decide), hx⟩
  | false =>
    refine (Parse_form s w hs h).mono ?_
    rintro e w' ⟨rfl, hx⟩
    exact ⟨zeroAgg, 0, by rw [h]; rfl, BigV.zero _, fun h' => absurd (h.symm.trans h') (by decide), fun _ => rfl, hx⟩

def B (k : Nat) (z : Int) : Prop := z.natAbs < pw k
theorem pw_le {j k : Nat} (h : j ≤ k) : pw j ≤ pw k := Nat.pow_le_pow_right (by decide) h
theorem pw_add' (j k : Nat) : pw (j + k) = pw j * pw k := Nat.pow_add _ _ _
theorem B_mono {j k : Nat} {z : Int} (h : j ≤ k) (b : B j z) : B k z := Nat.lt_of_lt_of_le b (pw_le h)
theorem B_neg {k : Nat} {z : Int} (b : B k z) : B k (-z) := by unfold B; rw [Int.natAbs_neg]; exact b
theorem B_abs {k : Nat} {z : Int} (b : B k z) : B k ((z.natAbs : Nat) : Int) := by unfold B; rw [Int.natAbs_natCast]; exact b
theorem B_add {k : Nat} {x y : Int} (a : B k x) (b : B k y) : B (k + 1) (x + y) := by
  unfold B at *
  have h1 : pw (k + 1) = pw k * 4294967296 := Nat.pow_succ ..
  have h2 := Int.natAbs_add_le x y
  omega
theorem B_sub {k : Nat} {x y : Int} (a : B k x) (b : B k y) : B (k + 1) (x - y) := by
  rw [Int.sub_eq_add_neg]; exact B_add a (B_neg b)
theorem B_mul {j k : Nat} {x y : Int} (a : B j x) (b : B k y) : B (j + k) (x * y) := by
  unfold B at *
  rw [Int.natAbs_mul, pw_add']
  exact Nat.mul_lt_mul'' a b
theorem cmpZ_self (x : Int) : cmpZ x x = 0 := by unfold cmpZ; simp
theorem Cmp_eq (x y : Value) (X Y : Int) (w : World) (hx : BigV w x X) (hy : BigV w y Y) (h : X = Y) : Calls Tryz.prog 36 #[x, y] w (IntPost w 0) := by
  have := Cmp_any x y X Y w hx hy
  rw [h, cmpZ_self] at this
  exact this
/-- a number of the heap with a bound of its magnitude -/
def BigB (w : World) (v : Value) (z : Int) (k : Nat) : Prop := BigV w v z ∧ B k z
theorem BigB.ext {w w' : World} {v : Value} {z : Int} {k : Nat} (h : BigB w v z k) (x : Ext w w') : BigB w' v z k := ⟨h.1.ext x, h.2⟩
def BigBPost (w : World) (z : Int) (k : Nat) (e : Ending) (w' : World) : Prop := ∃ v, e = .returned v ∧ BigB w' v z k ∧ Ext w w'
theorem toB {w : World} {z : Int} {k : Nat} (b : B k z) {e : Ending} {w' : World} (h : BigPost w z e w') : BigBPost w z k e w' := by
  obtain ⟨v, rfl, h1, h2⟩ := h
  exact ⟨v, rfl, ⟨h1, b⟩, h2⟩
theorem Add_b (x y : Value) (X Y : Int) (j k : Nat) (w : World) (hx : BigB w x X j) (hy : BigB w y Y k) (hL : max j k ≤ 1099511627776) : Calls Tryz.prog 40 #[x, y] w (BigBPost w (X + Y) (max j k + 1)) :=
  (Add_any x y X Y (max j k) w hx.1 hy.1 (B_mono (Nat.le_max_left _ _) hx.2) (B_mono (Nat.le_max_right _ _) hy.2) hL).mono fun _ _ h => toB (B_add (B_mono (Nat.le_max_left _ _) hx.2) (B_mono (Nat.le_max_right _ _) hy.2)) h
theorem Sub_b (x y : Value) (X Y : Int) (j k : Nat) (w : World) (hx : BigB w x X j) (hy : BigB w y Y k) (hL : max j k ≤ 1099511627776) : Calls Tryz.prog 45 #[x, y] w (BigBPost w (X - Y) (max j k + 1)) :=
  (Sub_any x y X Y (max j k) w hx.1 hy.1 (B_mono (Nat.le_max_left _ _) hx.2) (B_mono (Nat.le_max_right _ _) hy.2) hL).mono fun _ _ h => toB (B_sub (B_mono (Nat.le_max_left _ _) hx.2) (B_mono (Nat.le_max_right _ _) hy.2)) h
theorem Mul_b (x y : Value) (X Y : Int) (j k : Nat) (w : World) (hx : BigB w x X j) (hy : BigB w y Y k) (hL : max j k ≤ 1099511627776) : Calls Tryz.prog 33 #[x, y] w (BigBPost w (X * Y) (j + k)) :=
  (Mul_any x y X Y (max j k) w hx.1 hy.1 (B_mono (Nat.le_max_left _ _) hx.2) (B_mono (Nat.le_max_right _ _) hy.2) hL).mono fun _ _ h => toB (B_mul hx.2 hy.2) h
theorem Neg_b (x : Value) (X : Int) (j : Nat) (w : World) (hx : BigB w x X j) : Calls Tryz.prog 43 #[x] w (BigBPost w (-X) j) :=
  (Neg_any x X w hx.1).mono fun _ _ h => toB (B_neg hx.2) h
theorem Cmp_eqb (x y : Value) (X Y : Int) (j k : Nat) (w : World) (hx : BigB w x X j) (hy : BigB w y Y k) (h : X = Y) : Calls Tryz.prog 36 #[x, y] w (IntPost w 0) := Cmp_eq x y X Y w hx.1 hy.1 h
theorem Cmp_b (x y : Value) (X Y : Int) (j k : Nat) (w : World) (hx : BigB w x X j) (hy : BigB w y Y k) : Calls Tryz.prog 36 #[x, y] w (IntPost w (cmpZ X Y)) := Cmp_any x y X Y w hx.1 hy.1
theorem Sign_b (x : Value) (X : Int) (j : Nat) (w : World) (hx : BigB w x X j) : Calls Tryz.prog 35 #[x] w (IntPost w X.sign) := Sign_any x X w hx.1
/-- Ext by another name: what a drawn region holds -/
def Later (a b : World) : Prop := Ext a b
theorem Later.refl (w : World) : Later w w := Ext.refl w
theorem Later.drew {a b : World} (h : Later a b) : Later a b.drew := Ext.drew h
theorem Later.drewN {a b : World} (h : Later a b) (n : Nat) : Later a (b.drewN n) := Ext.drewN h n
theorem Later.alloc {a b : World} (h : Later a b) (o : Obj) : Later a (b.alloc o) := Ext.alloc h o
theorem Later.step {a b c : World} (h : Later a b) (k : Ext b c) : Later a c := Ext.trans h k
theorem B_gcd {j k : Nat} {x y : Int} (a : B j x) (b : B k y) : B (max j k) ((Nat.gcd x.natAbs y.natAbs : Nat) : Int) := by
  have a := B_mono (Nat.le_max_left j k) a
  have b := B_mono (Nat.le_max_right j k) b
  unfold B at *
  rw [Int.natAbs_natCast]
  rcases Nat.eq_zero_or_pos x.natAbs with h | h
  · rw [h, Nat.gcd_zero_left]; exact b
  · exact Nat.lt_of_le_of_lt (Nat.gcd_le_left _ h) a
theorem Gcd_b (x y : Value) (X Y : Int) (j k : Nat) (w : World) (hx : BigB w x X j) (hy : BigB w y Y k) (hL : max j k ≤ 1099511627776) : Calls Tryz.prog 56 #[x, y] w (BigBPost w ((Nat.gcd X.natAbs Y.natAbs : Nat) : Int) (max j k)) :=
  (Gcd_any x y X Y (max j k) w hx.1 hy.1 (B_mono (Nat.le_max_left _ _) hx.2) (B_mono (Nat.le_max_right _ _) hy.2) hL).mono fun _ _ h => toB (B_gcd hx.2 hy.2) h
theorem Of_b (n : Int) (w : World) (h0 : -9223372036854775808 ≤ n) (h1 : n ≤ 9223372036854775807) : Calls Tryz.prog 37 #[.int .i64 n] w (BigBPost w n 2) :=
  (Of_any n w h0 h1).mono fun _ _ h => toB (show n.natAbs < pw 2 by rw [pw_two_eq]; omega) h
theorem tdiv_boundG {k : Nat} {x : Int} (y : Int) (b : B k x) : B k (x.tdiv y) := by
  unfold B at *; rw [Int.natAbs_tdiv]; exact Nat.lt_of_le_of_lt (Nat.div_le_self _ _) b
theorem pad_cons : ∀ (k r : Nat), pad (k + 1) r = UInt8.ofNat (48 + r / 10 ^ k % 10) :: pad k r := by
  intro k
  induction k with
  | zero => intro r; simp [pad]
  | succ k ih =>
    intro r
    rw [pad, ih (r / 10), List.cons_append, Nat.div_div_eq_div_mul, ← Nat.pow_succ', pad]
theorem pad_full {n V : Nat} (hn : 0 < n) (h1 : 10 ^ (n - 1) ≤ V) (h2 : V < 10 ^ n) : pad n V = decDigits V := by
  obtain ⟨k, rfl⟩ : ∃ k, n = k + 1 := ⟨n - 1, by omega⟩
  rw [show k + 1 - 1 = k by omega] at h1
  have hp : 0 < 10 ^ k := Nat.pow_pos (by omega)
  have hq1 : 1 ≤ V / 10 ^ k := (Nat.one_le_div_iff hp).2 h1
  have hq9 : V / 10 ^ k < 10 := Nat.div_lt_of_lt_mul (by rw [← Nat.pow_succ]; exact h2)
  have hV : V / 10 ^ k * 10 ^ k + V % 10 ^ k = V := by rw [Nat.mul_comm]; exact Nat.div_add_mod V (10 ^ k)
  have h3 := decDigits_pad hq1 k (V % 10 ^ k) (Nat.mod_lt _ hp)
  rw [hV, decDigits_one hq9] at h3
  rw [h3, pad_cons, Nat.mod_eq_of_lt hq9]
  have hm : ∀ k r, pad k r = pad k (r % 10 ^ k) := by
    intro k
    induction k with
    | zero => intro r; rfl
    | succ k ih =>
      intro r
      rw [pad_cons, pad_cons, ih r, ih (r % 10 ^ (k + 1))]
      have e1 : r % 10 ^ (k + 1) % 10 ^ k = r % 10 ^ k := by rw [Nat.pow_succ]; exact Nat.mod_mul_right_mod _ _ _
      have e2 : r % 10 ^ (k + 1) / 10 ^ k % 10 = r / 10 ^ k % 10 := by rw [Nat.pow_succ, Nat.mod_mul_right_div_self, Nat.mod_mod]
      rw [e1, e2]
  rw [hm k V]; rfl
theorem valD_cons (c : UInt8) (t : List UInt8) : valD (c :: t) = (c.toNat - 48) * 10 ^ t.length + valD t := by
  have h := valD_append [c] t
  rw [valD_one] at h; exact h
theorem isDec_eq (l : List UInt8) : isDec l = (!(rest l).isEmpty && digs (rest l) && (if (rest l).head? = some 48 then (rest l == [48]) && !negd l else true)) := rfl
theorem Text_all (x : Value) (Z : Int) (L : Nat) (w : World) (hx : BigV w x Z) (bx : B L Z) (hL : L ≤ 1099511627776) (htab : TabOK w) : Calls Tryz.prog 23 #[x] w (StrPost w (itoa Z)) := by
  by_cases h : Z = 0
  · subst h; exact Text_zero x w hx
  · exact Text_any x Z L w hx bx hL h htab
theorem pad_valD : ∀ (r : List UInt8), digs r = true → pad r.length (valD r) = r := by
  intro r
  induction r with
  | nil => intro _; rfl
  | cons c t ih =>
    intro h
    have h1 := digs_get h (j := 0) (by simp)
    simp only [List.getElem_cons_zero] at h1
    have ht : digs t = true := digs_drop (l := c :: t) h 1
    have hlt := valD_lt ht
    have hp : 0 < 10 ^ t.length := Nat.pow_pos (by omega)
    rw [List.length_cons, pad_cons, valD_cons]
    have e1 : ((c.toNat - 48) * 10 ^ t.length + valD t) / 10 ^ t.length % 10 = c.toNat - 48 := by
      rw [Nat.mul_comm, Nat.mul_add_div hp, Nat.div_eq_of_lt hlt, Nat.add_zero]
      omega
    have e2 : ∀ a, pad t.length (a * 10 ^ t.length + valD t) = pad t.length (valD t) := by
      intro a
      have hm : ∀ k r, pad k r = pad k (r % 10 ^ k) := by
        intro k
        induction k with
        | zero => intro r; rfl
        | succ k ih =>
          intro r
          rw [pad_cons, pad_cons, ih r, ih (r % 10 ^ (k + 1))]
          have e1 : r % 10 ^ (k + 1) % 10 ^ k = r % 10 ^ k := by rw [Nat.pow_succ]; exact Nat.mod_mul_right_mod _ _ _
          have e2 : r % 10 ^ (k + 1) / 10 ^ k % 10 = r / 10 ^ k % 10 := by rw [Nat.pow_succ, Nat.mod_mul_right_div_self, Nat.mod_mod]
          rw [e1, e2]
      rw [hm, Nat.add_comm, Nat.add_mul_mod_self_right, Nat.mod_eq_of_lt hlt]
    rw [e1, e2, ih ht]
    congr 1
    apply UInt8.toNat_inj.1
    simp
    omega
theorem dec_rest {r : List UInt8} (hne : r.isEmpty = false) (hd : digs r = true) (hh : r.head? = some 48 → r = [48]) : decDigits (valD r) = r ∧ (r ≠ [48] → 0 < valD r) := by
  cases r with
  | nil => cases hne
  | cons c t =>
    by_cases hc : c = 48
    · subst hc
      have := hh rfl
      injection this with _ ht
      subst ht
      refine ⟨?_, fun h => absurd rfl h⟩
      have : valD [(48 : UInt8)] = 0 := by decide
      rw [this, decDigits_one (by omega)]; rfl
    · have h1 := digs_get hd (j := 0) (by simp)
      simp only [List.getElem_cons_zero] at h1
      have hne48 : c.toNat ≠ 48 := fun h => hc (UInt8.toNat_inj.1 h)
      have hge : 10 ^ t.length ≤ valD (c :: t) := by
        rw [valD_cons]
        have : 1 * 10 ^ t.length ≤ (c.toNat - 48) * 10 ^ t.length := Nat.mul_le_mul_right _ (by omega)
        omega
      have hp : 0 < 10 ^ t.length := Nat.pow_pos (by omega)
      have h2 := pad_full (n := t.length + 1) (V := valD (c :: t)) (by omega) hge (by have := valD_lt hd; rw [List.length_cons] at this; exact this)
      have h3 := pad_valD (c :: t) hd
      rw [List.length_cons] at h3
      exact ⟨h2.symm.trans h3, fun _ => by omega⟩
theorem itoa_parse {l : List UInt8} (h : isDec l = true) : itoa (parseZ l) = l := by
  rw [isDec_eq] at h
  simp only [Bool.and_eq_true] at h
  obtain ⟨⟨h1, h2⟩, h3⟩ := h
  have h1' : (rest l).isEmpty = false := by simpa using h1
  have hh : (rest l).head? = some 48 → rest l = [48] ∧ negd l = false := by
    intro he
    rw [if_pos he] at h3
    simp only [Bool.and_eq_true] at h3
    exact ⟨eq_of_beq h3.1, by simpa using h3.2⟩
  obtain ⟨d1, d2⟩ := dec_rest h1' h2 (fun he => (hh he).1)
  cases hn : negd l with
  | false =>
    have e : rest l = l := by unfold negd at hn; unfold rest Lib.trimPrefix; rw [hn]; rfl
    unfold parseZ itoa sgn
    rw [hn]
    simp only [Bool.false_eq_true, if_false]
    rw [if_neg (by omega), Int.toNat_natCast, d1, e]
  | true =>
    have hne : rest l ≠ [48] := by
      intro he
      have := (hh (by rw [he]; rfl)).2
      rw [hn] at this; cases this
    have hp := d2 hne
    have e : l = 45 :: rest l := by
      cases l with
      | nil => cases hn
      | cons c t =>
        unfold negd Lib.hasPrefix at hn
        have hc : (45 : UInt8) = c := by simpa [List.isPrefixOf] using hn
        subst hc
        rfl
    unfold parseZ itoa sgn
    rw [hn]
    simp only [if_true]
    rw [if_pos (by omega), Int.natAbs_neg, Int.natAbs_natCast, d1]
    exact e.symm

theorem parse_boundK {s : ByteArray} {k : Nat} (h1 : s.size ≤ k) (h2 : isDec s.data.toList = true) : B k (parseZ s.data.toList) := by
  have h3 : digs (rest s.data.toList) = true := by
    unfold isDec at h2
    simp only [Bool.and_eq_true] at h2
    exact h2.1.2
  unfold B parseZ
  rw [sgn_natAbs]
  have h4 := valD_lt h3
  have h5 := ten_le_pw (rest s.data.toList).length
  have h6 := rest_len s.data.toList
  have h7 : s.data.toList.length = s.size := rfl
  have h8 := pw_le (show (rest s.data.toList).length ≤ k by omega)
  exact Nat.lt_of_lt_of_le h4 (Nat.le_trans h5 h8)
theorem Text_b (x : Value) (X : Int) (j : Nat) (w : World) (hx : BigB w x X j) (hL : j ≤ 1099511627776) (ht : TabOK w) : Calls Tryz.prog 23 #[x] w (StrPost w (itoa X)) :=
  Text_all x X j w hx.1 hx.2 hL ht
end Go.Proofs.YtginogcdjplhiaaGreatDoor.Big

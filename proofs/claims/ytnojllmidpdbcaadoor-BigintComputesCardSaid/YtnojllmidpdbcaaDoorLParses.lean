/- Walk: the law BigintParses. -/
import Derived.Test.YtnojllmidpdbcaaDoorR5
import Derived.Test.YtnojllmidpdbcaaDoorLFull
set_option linter.unusedVariables false
set_option linter.unusedSimpArgs false
namespace Go.Proofs.YtnojllmidpdbcaaDoor.Ten
open Go.RowKit Go.Proofs.YtnojllmidpdbcaaDoor.Big
open Go.Lib (decDigits decDigits_one itoa)

theorem Text_all (x : Value) (Z : Int) (L : Nat) (w : World) (hx : BigV w x Z) (bx : B L Z) (hL : L ≤ 1099511627776) (htab : TabOK w) : Calls Tryd.prog 17 #[x] w (StrPost w (itoa Z)) := by
  by_cases h : Z = 0
  · subst h; exact Big.Text_zero x w hx
  · exact Big.Text_any x Z L w hx bx hL h htab
theorem pad_valD : ∀ (r : List UInt8), digs r = true → pad r.length (valD r) = r := by
  intro r
  induction r with
  | nil => intro _; rfl
  | cons c t ih =>
    intro h
    have h1 := digs_get h (j := 0) (by simp)
    simp only [List.getElem_cons_zero] at h1
    have ht : digs t = true := digs_drop (l := c :: t) h 1
    have hlt := valD_lt ht
    have hp : 0 < 10 ^ t.length := Nat.pow_pos (by omega)
    rw [List.length_cons, pad_cons, valD_cons]
    have e1 : ((c.toNat - 48) * 10 ^ t.length + valD t) / 10 ^ t.length % 10 = c.toNat - 48 := by
      rw [Nat.mul_comm, Nat.mul_add_div hp, Nat.div_eq_of_lt hlt, Nat.add_zero]
      omega
    have e2 : ∀ a, pad t.length (a * 10 ^ t.length + valD t) = pad t.length (valD t) := by
      intro a
      have hm : ∀ k r, pad k r = pad k (r % 10 ^ k) := by
        intro k
        induction k with
        | zero => intro r; rfl
        | succ k ih =>
          intro r
          rw [pad_cons, pad_cons, ih r, ih (r % 10 ^ (k + 1))]
          have e1 : r % 10 ^ (k + 1) % 10 ^ k = r % 10 ^ k := by rw [Nat.pow_succ]; exact Nat.mod_mul_right_mod _ _ _
          have e2 : r % 10 ^ (k + 1) / 10 ^ k % 10 = r / 10 ^ k % 10 := by rw [Nat.pow_succ, Nat.mod_mul_right_div_self, Nat.mod_mod]
          rw [e1, e2]
      rw [hm, Nat.add_comm, Nat.add_mul_mod_self_right, Nat.mod_eq_of_lt hlt]
    rw [e1, e2, ih ht]
    congr 1
    apply UInt8.toNat_inj.1
    simp
    omega
theorem dec_rest {r : List UInt8} (hne : r.isEmpty = false) (hd : digs r = true) (hh : r.head? = some 48 → r = [48]) : decDigits (valD r) = r ∧ (r ≠ [48] → 0 < valD r) := by
  cases r with
  | nil => cases hne
  | cons c t =>
    by_cases hc : c = 48
    · subst hc
      have := hh rfl
      injection this with _ ht
      subst ht
      refine ⟨?_, fun h => absurd rfl h⟩
      have : valD [(48 : UInt8)] = 0 := by decide
      rw [this, decDigits_one (by omega)]; rfl
    · have h1 := digs_get hd (j := 0) (by simp)
      simp only [List.getElem_cons_zero] at h1
      have hne48 : c.toNat ≠ 48 := fun h => hc (UInt8.toNat_inj.1 h)
      have hge : 10 ^ t.length ≤ valD (c :: t) := by
        rw [valD_cons]
        have : 1 * 10 ^ t.length ≤ (c.toNat - 48) * 10 ^ t.length := Nat.mul_le_mul_right _ (by omega)
        omega
      have hp : 0 < 10 ^ t.length := Nat.pow_pos (by omega)
      have h2 := pad_full (n := t.length + 1) (V := valD (c :: t)) (by omega) hge (by have := valD_lt hd; rw [List.length_cons] at this; exact this)
      have h3 := pad_valD (c :: t) hd
      rw [List.length_cons] at h3
      exact ⟨h2.symm.trans h3, fun _ => by omega⟩
theorem itoa_parse {l : List UInt8} (h : isDec l = true) : itoa (parseZ l) = l := by
  rw [isDec_eq] at h
  simp only [Bool.and_eq_true] at h
  obtain ⟨⟨h1, h2⟩, h3⟩ := h
  have h1' : (rest l).isEmpty = false := by simpa using h1
  have hh : (rest l).head? = some 48 → rest l = [48] ∧ negd l = false := by
    intro he
    rw [if_pos he] at h3
    simp only [Bool.and_eq_true] at h3
    exact ⟨eq_of_beq h3.1, by simpa using h3.2⟩
  obtain ⟨d1, d2⟩ := dec_rest h1' h2 (fun he => (hh he).1)
  cases hn : negd l with
  | false =>
    have e : rest l = l := by unfold negd at hn; unfold rest Lib.trimPrefix; rw [hn]; rfl
    unfold parseZ itoa sgn
    rw [hn]
    simp only [Bool.false_eq_true, if_false]
    rw [if_neg (by omega), Int.toNat_natCast, d1, e]
  | true =>
    have hne : rest l ≠ [48] := by
      intro he
      have := (hh (by rw [he]; rfl)).2
      rw [hn] at this; cases this
    have hp := d2 hne
    have e : l = 45 :: rest l := by
      cases l with
      | nil => cases hn
      | cons c t =>
        unfold negd Lib.hasPrefix at hn
        have hc : (45 : UInt8) = c := by simpa [List.isPrefixOf] using hn
        subst hc
        rfl
    unfold parseZ itoa sgn
    rw [hn]
    simp only [if_true]
    rw [if_pos (by omega), Int.natAbs_neg, Int.natAbs_natCast, d1]
    exact e.symm

set_option maxRecDepth 100000 in
set_option maxHeartbeats 8000000 in
theorem parses_law_any (s : ByteArray) (w : World) (htab : TabOK w) :
    Calls Tryd.prog 3 #[.string s] w (fun e w' => e = .returned (.bool true) ∧ Ext w w') := by
  go_enter Tryd.func3, Tryd.ntmps3
  go_wp2_with fail
  refine (awake_any _ htab).mono ?_
  rintro e w1 ⟨rfl, hx1⟩
  by_cases hs : 80 < s.size
  · have e1 : decide ((80 : Int) < (s.size : Int)) = true := by simp; omega
    clear hs
    go_wp2_with fail
    go_ret
    exact ⟨rfl, hx1⟩
  have e1 : decide ((80 : Int) < (s.size : Int)) = false := by simp; omega
  have HSZ := Lib.hid (show s.size ≤ 80 by omega)
  go_wp2_with fail
  refine (Big.Parse_any s _ (by omega)).mono ?_
  rintro e w2 ⟨v2, X, rfl, h2, hX1, hX0, hx2⟩
  have hE2 := hx1.trans hx2
  have bX : isDec s.data.toList = true → B 80 X := fun h => by rw [hX1 h]; exact parse_bound (by unfold okT; simp [show s.size ≤ 80 by omega, h])
  cases hd : isDec s.data.toList with
  | false =>
    have hv := hX0 hd
    subst hv
    have hX0 : X = 0 := by
      obtain ⟨A, n, c, he, hD, hT⟩ := h2.form
      have he' : zeroAgg = .agg #[.bool false, .slice none 0 0] := rfl
      rw [he'] at he
      injection he with he
      have h0 := congrArg (fun a => a[1]?) he
      simp at h0
      obtain ⟨rfl, rfl, rfl⟩ := h0
      have := (hT.pos_iff hD.inj.2.2.2.1)
      simp at this
      omega
    subst hX0
    clear hX1 bX hs
    unfold zeroAgg at *
    go_upto_region 6 with fail
    have hE : Ext w2 (w2.alloc (.cells #[.bool false, .slice none 0 0] 25)) := (Ext.refl w2).alloc _
    have B3 := Box.new w2 25 #[.bool false, .slice none 0 0]
    have h2 := h2.ext hE
    have hE3 := hE2.trans hE
    generalize (w2.alloc (.cells #[.bool false, .slice none 0 0] 25)) = W3 at *
    go_wp2_with fail
    refine (Ten.Parse_any s _ (by have := HSZ.out; omega)).mono ?_
    rintro e w4 ⟨v4, z4, rfl, h4, -, -, hx4⟩
    obtain ⟨s4, A4, n4, c4, rfl, -⟩ := h4.shape
    rw [hd]
    have q := (B3.ext hx4)
    have hE4 : Ext w4 (w4.alloc (.cells #[.int .i64 s4, .slice A4 n4 c4] 31)) := (Ext.refl w4).alloc _
    go_upto_region 8 with fail
    have q := q.ext hE4
    have h2 := (h2.ext hx4).ext hE4
    have hE5 := (hE3.trans hx4).trans hE4
    generalize (w4.alloc (.cells #[.int .i64 s4, .slice A4 n4 c4] 31)) = W5 at *
    have q0 := q.c0
    have q1 := q.c1
    go_wp2_with fail
    refine (Sign_any _ _ _ h2).mono ?_
    rintro e w6 ⟨rfl, hx6⟩
    have q := q.ext hx6
    have q0 := q.c0
    have q1 := q.c1
    have e5 : Int.sign 0 = 0 := rfl
    rw [e5]
    go_wp2_with fail
    refine (text_zero' _ _ (h2.ext hx6)).mono ?_
    rintro e w7 ⟨rfl, hx7⟩
    go_wp2_with fail
    go_ret
    exact ⟨rfl, (hE5.trans hx6).trans hx7⟩
  | true =>
    have hXv := hX1 hd
    have bX := bX hd
    have htx : itoa X = s.data.toList := by rw [hXv]; exact itoa_parse hd
    have hst : (⟨(itoa X).toArray⟩ : ByteArray) = s := by rw [htx]
    have HST := Lib.hid hst
    obtain ⟨p2, A2, k2, c2, rfl⟩ := h2.shape
    clear hX1 hX0 hs hXv htx hst
    go_upto_region 6 with fail
    have hE : Ext w2 (w2.alloc (.cells #[.bool p2, .slice A2 k2 c2] 25)) := (Ext.refl w2).alloc _
    have B3 := Box.new w2 25 #[.bool p2, .slice A2 k2 c2]
    have h2 := h2.ext hE
    have hE3 := hE2.trans hE
    generalize (w2.alloc (.cells #[.bool p2, .slice A2 k2 c2] 25)) = W3 at *
    go_wp2_with fail
    refine (Ten.Parse_any s _ (by have := HSZ.out; omega)).mono ?_
    rintro e w4 ⟨v4, z4, rfl, h4, -, -, hx4⟩
    obtain ⟨s4, A4, n4, c4, rfl, -⟩ := h4.shape
    rw [hd]
    have q := (B3.ext hx4)
    have hE4 : Ext w4 (w4.alloc (.cells #[.int .i64 s4, .slice A4 n4 c4] 31)) := (Ext.refl w4).alloc _
    go_upto_region 9 with fail
    have q := q.ext hE4
    have h2 := (h2.ext hx4).ext hE4
    have hE5 := (hE3.trans hx4).trans hE4
    generalize (w4.alloc (.cells #[.int .i64 s4, .slice A4 n4 c4] 31)) = W5 at *
    have q0 := q.c0
    have q1 := q.c1
    go_wp2_with fail
    refine (Text_all _ _ 80 _ h2 bX (by decide) (htab.ext hE5)).mono ?_
    rintro e w7 ⟨rfl, hx7⟩
    rw [HST.out]
    go_wp2_with fail
    go_ret
    exact ⟨rfl, hE5.trans hx7⟩
end Go.Proofs.YtnojllmidpdbcaaDoor.Ten

/- Walk: improve. make of a row of rational numbers; frames of calls that have made blocks of their own. Problems in memory; walks: flips, direction, Valid. Walk: Valid. copy of rational num -/
import Derived.ArgAppend
import Derived.Laws.CopyOwn
import Derived.Deep.CutBlock
import Derived.Deep.RegionLaw
import Derived.Test.YtljncdcjkdgkeaaGreatDoorYLS4
import Derived.Test.YtljncdcjkdgkeaaGreatDoorYLJ
import Derived.Test.YtljncdcjkdgkeaaGreatDoorYLT
set_option linter.unusedVariables false
set_option linter.unusedSimpArgs false
namespace Go.Proofs.YtljncdcjkdgkeaaGreatDoor.Lp
open Go.RowKit Go.Proofs.YtljncdcjkdgkeaaGreatDoor.Big Go.Proofs.YtljncdcjkdgkeaaGreatDoor.Rt
def ImpPost (a : TA) (m W art bc : Nat) (cv : Value) (u : Nat → Nat) (fl : Nat → Bool) (s0 : St) (w : World) (e : Ending) (w' : World) : Prop :=
 ∃ (N : Nat) (s : St), it m W art N s0 = some s ∧ nxt m W art s = none ∧ e = .returned (.bool (entL s.C s.stalled art == none)) ∧ Tab a m W art w' cv s.R s.b u fl ∧ Cst a m W w' bc s.C ∧ Fr (tP a m bc) w w'
set_option maxHeartbeats 8000000 in
theorem qxl (a : TA) (m W art bc : Nat) (u : Nat → Nat) (fl : Nat → Bool) (s0 : St) (K N : Nat) (sN : St) (w : World) (P : St → Prop)
 (hst : s0.stalled = false) (hT : Tab a m W art w (.slice (some ⟨bc, 0, none⟩) (W + 1) (W + 1)) s0.R s0.b u fl) (hC : Cst a m W w bc s0.C)
 (hN : it m W art N s0 = some sN) (hE : nxt m W art sN = none) (h0 : P s0) (hP : ∀ s s', P s → nxt m W art s = some s' → P s')
 (hB : ∀ s, P s → (∀ i, i < m → ∀ j, j ≤ W → QB K (s.R i j)) ∧ (∀ j, j ≤ W → QB K (s.C j)) ∧ ∀ i, i < m → s.b i < W)
 (hK : K ≤ 134217728) (ha : art ≤ W) (hW : W < 1099511627776) (hm : m ≤ 1099511627776) :
 Calls Tryz.prog 135 #[.pointer (some ⟨a.t, 0, none⟩)] w (ImpPost a m W art bc (.slice (some ⟨bc, 0, none⟩) (W + 1) (W + 1)) u fl s0 w) := by
 have HN := Lib.hid hN
 have HE := Lib.hid hE
 have HP := Lib.hid hP
 have HB := Lib.hid hB
 have HST := Lib.hid hst
 have H0 := Lib.hid h0
 clear hN hE hP hB hst h0
 go_enter Tryz.func135, Tryz.ntmps135
 go_wp2_with fail
 go_loopg [3] N (fun k sv wr => ∃ (s : St) (n : Nat), n + k = N ∧ Hid (it m W art n s0 = some s) ∧ sv = .bool s.stalled ∧ Tab a m W art wr (.slice (some ⟨bc, 0, none⟩) (W + 1) (W + 1)) s.R s.b u fl ∧ Cst a m W wr bc s.C ∧ Fr (tP a m bc) w wr ∧ Hid (P s))
 case atStart => exact ⟨s0, 0, by omega, Lib.hid rfl, by rw [HST.out], hT, hC, Fr.refl _ _, H0⟩
 case round =>
  obtain ⟨s, n, hn, HI, rfl, hT1, hC1, hF, HPs⟩ := hrel
  obtain ⟨hb1, hb2, hb3⟩ := HB.out s HPs.out
  have HB1 := Lib.hid hb1
  have HB2 := Lib.hid hb2
  have HB3 := Lib.hid hb3
  clear hT hC hb1 hb2 hb3
  obtain ⟨oe, hoe⟩ : ∃ o, o = entL s.C s.stalled art := ⟨_, rfl⟩
  go_wp2_with fail
  refine (q73 a m W art bc s.R s.C s.b u fl s.stalled K wr hT1 hC1 HB2.out (by omega) ha hW).mono ?_
  rintro e w1 ⟨rfl, hx1⟩
  rw [← hoe]
  have HOE := Lib.hid hoe
  clear hoe
  have hT2 := hT1.ext hx1
  have hC2 := hC1.ext hx1
  have hF2 := hF.step hx1
  cases oe with
  | none =>
    rw [show optI none = -1 from rfl]
    have HNX : Hid (nxt m W art s = none) := Lib.hid (by unfold nxt; rw [← HOE.out])
    go_wp2_with fail
    go_ret
    exact ⟨n, s, HI.out, HNX.out, by rw [← HOE.out]; rfl, hT2, hC2, hF2⟩
  | some c =>
    rw [show optI (some c) = (c : Int) from rfl]
    have hca := (qcn HOE.out.symm).1
    obtain ⟨ol, hol⟩ : ∃ o, o = q45 s.R W s.b c m := ⟨_, rfl⟩
    have e1 : decide ((c : Int) < 0) = false := by simp
    go_wp2_with fail
    refine (leaving_b a m W art _ c s.R s.b u fl K w1 hT2 HB1.out hK (by omega) hW hm HB3.out).mono ?_
    rintro e w2 ⟨rfl, hx2⟩
    rw [← hol]
    have HOL := Lib.hid hol
    clear hol
    have hT3 := hT2.ext hx2
    have hC3 := hC2.ext hx2
    have hF3 := hF2.step hx2
    cases ol with
    | none =>
      rw [show optI none = -1 from rfl]
      have HNX : Hid (nxt m W art s = none) := Lib.hid (by unfold nxt; rw [← HOE.out]; show (match q45 s.R W s.b c m with | none => none | some r => some (s.piv W r c)) = none; rw [← HOL.out])
      go_wp2_with fail
      go_ret
      exact ⟨n, s, HI.out, HNX.out, by rw [← HOE.out]; rfl, hT3, hC3, hF3⟩
    | some r =>
      rw [show optI (some r) = (r : Int) from rfl]
      have hl := qn5 HOL.out.symm
      have hrm := hl.1
      have HL := Lib.hid hl
      have HNX : Hid (nxt m W art s = some (s.piv W r c)) := Lib.hid (by unfold nxt; rw [← HOE.out]; show (match q45 s.R W s.b c m with | none => none | some r => some (s.piv W r c)) = _; rw [← HOL.out])
      clear hl
      have hk : 0 < gk := by
       rcases Nat.eq_zero_or_pos gk with h | h
       ·exfalso
        obtain rfl : n = N := by omega
        have h1 := HI.out.symm.trans HN.out
        injection h1 with h1
        have h2 := HNX.out
        rw [h1, HE.out] at h2
        cases h2
       ·exact h
      obtain ⟨hAr, hAb, hAu, hAf⟩ := hT3.adr (by omega)
      have hse := hT3.self
      rw [hAr, hAb, hAu, hAf] at hse
      have q0 := hse.c0
      have q6 : w2.cell? ⟨a.t, 6, none⟩ = some (.int .i64 (W : Int)) := hse.cell 6
      have q1 := hT3.rows r hrm
      obtain ⟨p2, A2, m2, c2, p2', A2', m2', c2', g0, g1, g2, g3, hv⟩ := (hT3.row r hrm).at (j := W) (by omega)
      have e2 : decide ((r : Int) < 0) = false := by simp
      have hcap := hT3.cap.1
      have i1 : (0 : Int) ≤ (r : Int) := by omega
      have i2 : (r : Int) < (m : Int) := by omega
      have i3 : (0 : Int) ≤ (W : Int) := by omega
      have i4 : (W : Int) < (W : Int) + 1 := by omega
      have kq0 : ∀ w', Later w2 w' → w'.cell? ⟨a.t, 0, none⟩ = some _ := fun w' h => Later.cell h q0
      have kq6 : ∀ w', Later w2 w' → w'.cell? ⟨a.t, 6, none⟩ = some _ := fun w' h => Later.cell h q6
      have kq1 : ∀ w', Later w2 w' → w'.cell? ⟨a.br, r, none⟩ = some _ := fun w' h => Later.cell h q1
      have l0 : ∀ w', Later w2 w' → w'.cell? ⟨a.rw r, W * 4, none⟩ = some _ := fun w' h => Later.cell h g0
      have l1 : ∀ w', Later w2 w' → w'.cell? ⟨a.rw r, W * 4 + 1, none⟩ = some _ := fun w' h => Later.cell h g1
      have l2 : ∀ w', Later w2 w' → w'.cell? ⟨a.rw r, W * 4 + 2, none⟩ = some _ := fun w' h => Later.cell h g2
      have l3 : ∀ w', Later w2 w' → w'.cell? ⟨a.rw r, W * 4 + 3, none⟩ = some _ := fun w' h => Later.cell h g3
      have ks := Later.refl w2
      obtain ⟨z, hz⟩ : ∃ z, z = s.R r W := ⟨_, rfl⟩
      have hzB : RatB w2 _ z K := ⟨by rw [hz]; exact hv, by rw [hz]; exact HB1.out r hrm W (by omega)⟩
      have HZ := Lib.hid hz
      obtain ⟨sg, hsg⟩ : ∃ g, g = z.num.sign := ⟨_, rfl⟩
      have HSG := Lib.hid hsg
      clear q0 q6 q1 g0 g1 g2 g3 hz hsg hse hv hAr hAb hAu hAf
      go_upto_region 8 with fail
      go_region_held3 (fun w' => Later w2 w') ((repeat (first | assumption | apply Later.drew | apply Later.drewN | apply Later.alloc | (refine Later.step ?_ (by assumption))))) (first
       | (go_at_call 61; (with_reducible refine (qpl _ _ _ _ (RatB.ext hzB eBx)).mono ?_); rintro e w3 ⟨rfl, hx3⟩; rw [← HSG.out])
       )
      all_goals (
       clear kq0 kq6 kq1 l0 l1 l2 l3
       have hL3 : Ext w2 w3 := show Later w2 w3 by assumption
       have hT4 := hT3.ext hL3
       have hC4 := hC3.ext hL3
       have hF4 := hF3.step hL3
       have hst : (sg == 0) = (s.piv W r c).stalled := by
        show _ = decide (s.R r W = 0)
        rw [HSG.out, HZ.out]
        by_cases h0 : s.R r W = 0
        ·rw [h0]; rfl
        ·rw [q9n (fun h => h0 (Rat.num_eq_zero.1 h))]; simpa using h0
       have HSTL := Lib.hid hst
       have hpos : s.R r c ≠ 0 := by have := HL.out.2.1; intro h; rw [h] at this; exact absurd this Rat.lt_irrefl
       have HPOS := Lib.hid hpos
       clear hst hpos
       go_wp2_with fail
       refine (pivot_b a m W art bc r c s.R s.C s.b u fl K w3 hT4 hC4 hrm (by omega) HPOS.out HB1.out HB2.out (by omega) hm hW).mono ?_
       rintro e w4 ⟨rfl, hT5, hC5, hF5⟩
       have hF6 := hF4.trans hF5
       go_wp2_with fail
       go_roundg (gk - 1)
       case measure => omega
       case rel => exact ⟨s.piv W r c, n + 1, by omega, Lib.hid (by show (it m W art n s0).bind (nxt m W art) = _; rw [HI.out]; exact HNX.out), by rw [HSTL.out], hT5, hC5, hF6, Lib.hid (HP.out s _ HPs.out HNX.out)⟩)
theorem Fr.drop {P Q : Nat → Prop} {w w' : World} (h : Fr P w w') (hPQ : ∀ b, P b → b < w.heap.size → Q b) : Fr Q w w' := ⟨h.os, h.tape, h.output, h.size, fun k hk hne => h.block k hk (fun hp => hne (hPQ k hp hk)), h.digs⟩
theorem qde : (Tryz.prog.info? 58).map (fun i => (i.zero, i.size, i.bytes)) = some (some (.agg #[.bool false, .slice none 0 0, .bool false, .slice none 0 0]), 4, 64) := by kernel_rfl
theorem qhn (w : World) {ops : Array Oper} {rest : List Oper} {o : Oper} {a : Act} {Q : Exit → Act → World → Prop}
 (hg : o.guard = none) (l c : Operand) (hop : o.op = Op.makeSlice 38 l c)
 (L C : Int) (hl : a.eval l = .int .i64 L) (hc : a.eval c = .int .i64 C) (n : Nat) (hL : L = (n : Int)) (hC : C = (n : Int)) (hn : n ≤ 1099511627776)
 (hK : ∀ w', RowR w' w.heap.size n (fun _ => 0) → Ext w w' → wpList Tryz.prog ops Q rest (a.put o.dst (.slice (some ⟨w.heap.size, 0, none⟩) n n)) w') :
 wpList Tryz.prog ops Q (o :: rest) a w := by
 obtain ⟨i0, hi, hz0, hz1, hz2⟩ := info_parts qde
 refine wpList_make_full w hg l c 38 hop w.heap.size 58 i0 _ 4 Tryz.underlying38 hi hz0 hz1 .i64 .i64 L C n hl hc hL hC (by rw [hz2]; omega) (by unfold maxLen; omega) (Nat.le_refl _) ?_
 intro w' hown hgr
 refine hK w' ?_ (Below.grown (Ext.refl w) hgr (Nat.le_refl _) (fun k hk => by cases hk))
 obtain ⟨hlen, hh⟩ := hown
 rcases hh with ⟨h, _⟩ | ⟨g, cap, cur, hv, _, hh, hcap, _, hsz, htake⟩
 ·cases h
 ·injection hv with e1 e2 e3
  injection e1 with e1
  injection e1 with e1
  subst e1 e3
  have hcur : cur.toList = (madeCells (Value.agg #[.bool false, .slice none 0 0, .bool false, .slice none 0 0]).cells (n * 4)).toList := by
   rw [← htake, List.take_of_length_le (by simp; omega)]
  refine ⟨cur, hh, Nat.le_of_eq hsz.symm, fun j hj => ?_⟩
  have key : ∀ i, i < 4 → cur[j * 4 + i]? = (#[Value.bool false, .slice none 0 0, .bool false, .slice none 0 0] : Array Value)[i]? := by
   intro i hi
   rw [← Array.getElem?_toList, hcur]
   have h1 : (j * 4 + i) % 4 = i := by omega
   have h2 : j * 4 + i < n * 4 := by omega
   simp [madeCells, Value.cells, h2, h1]
   rcases (show i = 0 ∨ i = 1 ∨ i = 2 ∨ i = 3 by omega) with rfl | rfl | rfl | rfl <;> rfl
  exact ⟨_, _, _, _, _, _, _, _, key 0 (by omega), key 1 (by omega), key 2 (by omega), key 3 (by omega), RatV.zero w'⟩
def q94 (w : World) (A : Option Addr) (n c : Nat) (f : Nat → Rat) : Prop := n ≤ c ∧ c ≤ 9223372036854775807 ∧ (0 < n → ∃ b, A = some ⟨b, 0, none⟩ ∧ RowR w b n f)
def RowV (w : World) (v : Value) (l : Nat) (f : Nat → Rat) (rel : Nat) (q : Rat) : Prop :=
 ∃ Ac cc x A d e y A' d' e', v = .agg #[.slice Ac l cc, .int .u8 (rel : Int), .bool x, .slice A d e, .bool y, .slice A' d' e'] ∧ q94 w Ac l cc f ∧ rel ≤ 255 ∧ RatV w (.agg #[.bool x, .slice A d e, .bool y, .slice A' d' e']) q
def RowAt (w : World) (b i : Nat) (l : Nat) (f : Nat → Rat) (rel : Nat) (q : Rat) : Prop :=
 ∃ Ac cc x A d e y A' d' e', w.cell? ⟨b, i * 6, none⟩ = some (.slice Ac l cc) ∧ w.cell? ⟨b, i * 6 + 1, none⟩ = some (.int .u8 (rel : Int)) ∧ w.cell? ⟨b, i * 6 + 2, none⟩ = some (.bool x) ∧ w.cell? ⟨b, i * 6 + 3, none⟩ = some (.slice A d e) ∧
  w.cell? ⟨b, i * 6 + 4, none⟩ = some (.bool y) ∧ w.cell? ⟨b, i * 6 + 5, none⟩ = some (.slice A' d' e') ∧ q94 w Ac l cc f ∧ rel ≤ 255 ∧ RatV w (.agg #[.bool x, .slice A d e, .bool y, .slice A' d' e']) q
def qga (w : World) (v : Value) (p : Prob) : Prop :=
 ∃ Ao co Ar cr, v = .agg #[.slice Ao p.n co, .slice Ar p.m cr] ∧ q94 w Ao p.n co p.obj ∧ p.m ≤ cr ∧ cr ≤ 9223372036854775807 ∧ (0 < p.m → ∃ br, Ar = some ⟨br, 0, none⟩ ∧ ∀ i, i < p.m → RowAt w br i (p.len i) (p.coef i) (p.rel i) (p.right i))
section
variable {w w' : World}
theorem q94.ext {A : Option Addr} {n c : Nat} {f : Nat → Rat} (h : q94 w A n c f) (k : Ext w w') : q94 w' A n c f :=
 ⟨h.1, h.2.1, fun hn => by obtain ⟨b, e, hr⟩ := h.2.2 hn; exact ⟨b, e, hr.ext k⟩⟩
theorem RowV.ext {v : Value} {l : Nat} {f : Nat → Rat} {rel : Nat} {q : Rat} (h : RowV w v l f rel q) (k : Ext w w') : RowV w' v l f rel q := by
 obtain ⟨Ac, cc, x, A, d, e, y, A', d', e', rfl, h1, h2, h3⟩ := h
 exact ⟨Ac, cc, x, A, d, e, y, A', d', e', rfl, h1.ext k, h2, h3.ext k⟩
theorem RowAt.ext {b i l : Nat} {f : Nat → Rat} {rel : Nat} {q : Rat} (h : RowAt w b i l f rel q) (k : Ext w w') : RowAt w' b i l f rel q := by
 obtain ⟨Ac, cc, x, A, d, e, y, A', d', e', g0, g1, g2, g3, g4, g5, h1, h2, h3⟩ := h
 exact ⟨Ac, cc, x, A, d, e, y, A', d', e', k.cell g0, k.cell g1, k.cell g2, k.cell g3, k.cell g4, k.cell g5, h1.ext k, h2, h3.ext k⟩
theorem qga.ext {v : Value} {p : Prob} (h : qga w v p) (k : Ext w w') : qga w' v p := by
 obtain ⟨Ao, co, Ar, cr, rfl, h1, h2, h3, h4⟩ := h
 exact ⟨Ao, co, Ar, cr, rfl, h1.ext k, h2, h3, fun hm => by obtain ⟨br, e, hr⟩ := h4 hm; exact ⟨br, e, fun i hi => (hr i hi).ext k⟩⟩
end
def qay (rel : Nat) (q : Rat) : Bool := decide (q < 0 ∨ (q = 0 ∧ rel = 3))
def dirN (rel : Nat) (q : Rat) : Nat := if qay rel q = true then 4 - rel else rel
def qjz (w : World) (v : Value) (e : Ending) (w' : World) : Prop := e = .returned v ∧ Ext w w'
set_option maxHeartbeats 4000000 in
theorem qam (v : Value) (l : Nat) (f : Nat → Rat) (rel : Nat) (q : Rat) (K : Nat) (w : World) (h : RowV w v l f rel q) (hq : QB K q) : Calls Tryz.prog 167 #[v] w (qjz w (.bool (qay rel q))) := by
 obtain ⟨Ac, cc, x, A, d, e, y, A', d', e', rfl, h1, h2, h3⟩ := h
 obtain ⟨F, hF⟩ : ∃ F, F = qay rel q := ⟨_, rfl⟩
 rw [← hF]
 have HF := Lib.hid hF
 clear hF h1
 have B := Box.new w 75 #[.slice Ac l cc, .int .u8 (rel : Int), .bool x, .slice A d e, .bool y, .slice A' d' e']
 have hE0 : Ext w (w.alloc (.cells #[.slice Ac l cc, .int .u8 (rel : Int), .bool x, .slice A d e, .bool y, .slice A' d' e'] 75)) := (Ext.refl w).alloc _
 go_enter Tryz.func167, Tryz.ntmps167
 go_upto_region 1 with fail
 generalize (w.alloc (.cells #[.slice Ac l cc, .int .u8 (rel : Int), .bool x, .slice A d e, .bool y, .slice A' d' e'] 75)) = V at *
 have h3 := h3.ext hE0
 have c1 := B.c1
 have c2 := B.c2
 have c3 := B.c3
 have c4 : V.cell? ⟨w.heap.size, 4, none⟩ = some (.bool y) := B.cell 4
 have c5 : V.cell? ⟨w.heap.size, 5, none⟩ = some (.slice A' d' e') := B.cell 5
 go_wp2_with fail
 refine (qpl _ q K _ ⟨h3, hq⟩).mono ?_
 rintro e1 w1 ⟨rfl, hx1⟩
 have hE1 := hE0.trans hx1
 have c1 := hx1.cell c1
 have c2 := hx1.cell c2
 have c3 := hx1.cell c3
 have c4 := hx1.cell c4
 have c5 := hx1.cell c5
 obtain ⟨sg, hsg⟩ : ∃ g, g = q.num.sign := ⟨_, rfl⟩
 rw [← hsg]
 have HSG := Lib.hid hsg
 by_cases hn : q < 0
 ·have e5 : decide (sg < 0) = true := by rw [hsg, Int.sign_eq_neg_one_of_neg (num_neg.1 hn)]; rfl
  have HE : Hid (F = true) := Lib.hid (by rw [HF.out]; unfold qay; simp [hn])
  clear hn hsg
  go_wp2_with fail
  go_ret
  exact ⟨by rw [HE.out]; rfl, hE1⟩
 ·have e5 : decide (sg < 0) = false := by
   rw [hsg]
   rcases q83 q.num with ⟨a, b⟩ | ⟨a, b⟩ | ⟨a, b⟩ <;> rw [b] <;> first | rfl | exact absurd (num_neg.2 a) hn
  have HE : Hid (F = decide (q = 0 ∧ rel = 3)) := Lib.hid (by rw [HF.out]; unfold qay; simp [hn])
  clear hn hsg
  go_wp2_with fail
  refine (qpl _ q K _ ⟨h3.ext hx1, hq⟩).mono ?_
  rintro e2 w2 ⟨rfl, hx2⟩
  have hE2 := hE1.trans hx2
  have c1 := hx2.cell c1
  rw [← HSG.out]
  by_cases h0 : q = 0
  ·have e6 : (sg == 0) = true := by rw [HSG.out, h0]; rfl
   have e7 : ((rel : Int) == 3) = decide (rel = 3) := by
    by_cases hr : rel = 3
    ·subst hr; rfl
    ·rw [decide_eq_false hr]; simp; omega
   have HE2 : Hid (F = decide (rel = 3)) := Lib.hid (by rw [HE.out]; simp [h0])
   clear h0
   go_wp2_with fail
   go_ret
   exact ⟨by rw [HE2.out]; rfl, hE2⟩
  ·have e6 : (sg == 0) = false := by rw [HSG.out]; exact q9n (fun h => h0 (Rat.num_eq_zero.1 h))
   have HE2 : Hid (F = false) := Lib.hid (by rw [HE.out]; simp [h0])
   clear h0
   go_wp2_with fail
   go_ret
   exact ⟨by rw [HE2.out]; rfl, hE2⟩
set_option maxHeartbeats 4000000 in
theorem q5x (v : Value) (l : Nat) (f : Nat → Rat) (rel : Nat) (q : Rat) (K : Nat) (w : World) (h : RowV w v l f rel q) (hq : QB K q) (hr : rel ≤ 4) : Calls Tryz.prog 166 #[v] w (qjz w (.int .u8 (dirN rel q : Int))) := by
 have hv := h
 obtain ⟨Ac, cc, x, A, d, e, y, A', d', e', rfl, h1, h2, h3⟩ := h
 obtain ⟨D, hD⟩ : ∃ D, D = dirN rel q := ⟨_, rfl⟩
 rw [← hD]
 have HD := Lib.hid hD
 clear hD h1 h3
 have B := Box.new w 75 #[.slice Ac l cc, .int .u8 (rel : Int), .bool x, .slice A d e, .bool y, .slice A' d' e']
 have hE0 : Ext w (w.alloc (.cells #[.slice Ac l cc, .int .u8 (rel : Int), .bool x, .slice A d e, .bool y, .slice A' d' e'] 75)) := (Ext.refl w).alloc _
 go_enter Tryz.func166, Tryz.ntmps166
 go_upto_region 1 with fail
 generalize (w.alloc (.cells #[.slice Ac l cc, .int .u8 (rel : Int), .bool x, .slice A d e, .bool y, .slice A' d' e'] 75)) = V at *
 have hv := hv.ext hE0
 have c0 := B.c0
 have c1 := B.c1
 have c2 := B.c2
 have c3 := B.c3
 have c4 : V.cell? ⟨w.heap.size, 4, none⟩ = some (.bool y) := B.cell 4
 have c5 : V.cell? ⟨w.heap.size, 5, none⟩ = some (.slice A' d' e') := B.cell 5
 go_wp2_with fail
 refine (qam _ l f rel q K _ hv hq).mono ?_
 rintro e1 w1 ⟨rfl, hx1⟩
 have hE1 := hE0.trans hx1
 have c1 := hx1.cell c1
 obtain ⟨fl, hfl⟩ : ∃ x, x = qay rel q := ⟨_, rfl⟩
 rw [← hfl]
 cases fl with
 | true =>
   have HE : Hid (D = 4 - rel) := Lib.hid (by rw [HD.out]; unfold dirN; rw [← hfl]; rfl)
   clear hfl
   go_wp2_with fail
   go_ret
   exact ⟨by rw [HE.out, show ((4 - rel : Nat) : Int) = 4 - (rel : Int) by omega]; rfl, hE1⟩
 | false =>
   have HE : Hid (D = rel) := Lib.hid (by rw [HD.out]; unfold dirN; rw [← hfl]; rfl)
   clear hfl
   go_wp2_with fail
   go_ret
   exact ⟨by rw [HE.out]; rfl, hE1⟩
def q2m (p : Prob) (i : Nat) : Bool := p.len i == p.n && decide (1 ≤ p.rel i) && decide (p.rel i ≤ 3)
def qrs (p : Prob) : Nat → Bool
 | 0 => true
 | i + 1 => qrs p i && q2m p i
def qba (p : Prob) : Bool := decide (1 ≤ p.n) && decide (p.n ≤ 1000) && decide (p.m ≤ 1000) && qrs p p.m
theorem rowsOK_iff {p : Prob} {m : Nat} : qrs p m = true ↔ ∀ i, i < m → p.len i = p.n ∧ 1 ≤ p.rel i ∧ p.rel i ≤ 3 := by
 induction m with
 | zero => exact ⟨fun _ i hi => absurd hi (by omega), fun _ => rfl⟩
 | succ m ih =>
   show (qrs p m && q2m p m) = true ↔ _
   rw [Bool.and_eq_true, ih]
   have h1 : q2m p m = true ↔ p.len m = p.n ∧ 1 ≤ p.rel m ∧ p.rel m ≤ 3 := by unfold q2m; simp [and_assoc]
   rw [h1]
   constructor
   ·rintro ⟨a, b⟩ i hi
    by_cases e : i = m
    ·subst e; exact b
    ·exact a i (by omega)
   ·intro h; exact ⟨fun i hi => h i (by omega), h m (by omega)⟩
theorem validB_iff {p : Prob} : qba p = true ↔ p.Valid := by
 unfold qba Prob.Valid
 rw [Bool.and_eq_true, rowsOK_iff]; simp [and_assoc]
theorem q9j {p : Prob} {i m : Nat} (h : q2m p i = false) (hi : i < m) : qrs p m = false := by
 cases e : qrs p m with
 | false => rfl
 | true =>
   have := rowsOK_iff.1 e i hi
   unfold q2m at h
   simp [this] at h
set_option maxHeartbeats 4000000 in
theorem q72 (v : Value) (p : Prob) (w : World) (h : qga w v p) : Calls Tryz.prog 17 #[v] w (qjz w (.bool (qba p))) := by
 obtain ⟨Ao, co, Ar, cr, rfl, h1, h2, h3, h4⟩ := h
 obtain ⟨F, hF⟩ : ∃ F, F = qba p := ⟨_, rfl⟩
 rw [← hF]
 obtain ⟨n, hn⟩ : ∃ n, n = p.n := ⟨_, rfl⟩
 obtain ⟨m, hm⟩ : ∃ m, m = p.m := ⟨_, rfl⟩
 have HF : Hid (F = (decide (1 ≤ n) && decide (n ≤ 1000) && decide (m ≤ 1000) && qrs p m)) := Lib.hid (by rw [hF, hn, hm]; rfl)
 have HR : Hid (∀ i, q2m p i = (p.len i == n && decide (1 ≤ p.rel i) && decide (p.rel i ≤ 3))) := Lib.hid (fun i => by rw [hn]; rfl)
 have H4 : Hid (0 < m → ∃ br, Ar = some ⟨br, 0, none⟩ ∧ ∀ i, i < m → RowAt w br i (p.len i) (p.coef i) (p.rel i) (p.right i)) := Lib.hid (by rw [hm]; exact h4)
 rw [← hn, ← hm]
 have hmc : m ≤ cr := by rw [hm]; exact h2
 clear hF h1 h2 h4 hn hm
 have B := Box.new w 41 #[.slice Ao n co, .slice Ar m cr]
 have hE0 : Ext w (w.alloc (.cells #[.slice Ao n co, .slice Ar m cr] 41)) := (Ext.refl w).alloc _
 go_enter Tryz.func17, Tryz.ntmps17
 go_upto_region 1 with fail
 generalize (w.alloc (.cells #[.slice Ao n co, .slice Ar m cr] 41)) = V at *
 have c0 := B.c0
 have c1 := B.c1
 by_cases hn1 : n < 1
 ·have e1 : decide ((n : Int) < 1) = true := by simp; omega
  have HE : Hid (F = false) := Lib.hid (by rw [HF.out, decide_eq_false (show ¬ 1 ≤ n by omega)]; rfl)
  clear hn1
  go_wp2_with fail
  go_ret
  exact ⟨by rw [HE.out]; rfl, hE0⟩
 ·have e1 : decide ((n : Int) < 1) = false := by simp; omega
  have HN1 := Lib.hid hn1
  clear hn1
  by_cases hn2 : 1000 < n
  ·have e2 : decide ((1000 : Int) < (n : Int)) = true := by simp; omega
   have HE : Hid (F = false) := Lib.hid (by rw [HF.out, decide_eq_false (show ¬ n ≤ 1000 by omega)]; simp)
   clear hn2
   go_wp2_with fail
   go_ret
   exact ⟨by rw [HE.out]; rfl, hE0⟩
  ·have e2 : decide ((1000 : Int) < (n : Int)) = false := by simp; omega
   have HN2 := Lib.hid hn2
   clear hn2
   by_cases hm2 : 1000 < m
   ·have e3 : decide ((1000 : Int) < (m : Int)) = true := by simp; omega
    have HE : Hid (F = false) := Lib.hid (by rw [HF.out, decide_eq_false (show ¬ m ≤ 1000 by omega)]; simp)
    clear hm2
    go_wp2_with fail
    go_ret
    exact ⟨by rw [HE.out]; rfl, hE0⟩
   ·have e3 : decide ((1000 : Int) < (m : Int)) = false := by simp; omega
    have HE : Hid (F = qrs p m) := Lib.hid (by rw [HF.out, decide_eq_true (show 1 ≤ n by have := HN1.out; omega), decide_eq_true (show n ≤ 1000 by have := HN2.out; omega), decide_eq_true (show m ≤ 1000 by omega)]; rfl)
    have hmb : m ≤ 1000 := by omega
    clear hm2
    go_wp2_with fail
    clear e1 e2 e3
    go_loopw [24] (fun i wr => ∃ k : Nat, k ≤ m ∧ i = .int .i64 k ∧ Hid (qrs p k = true) ∧ Ext V wr) (fun i _ => m - (intOf i).toNat)
    case atStart => exact ⟨0, by omega, rfl, Lib.hid rfl, Ext.refl V⟩
    case round =>
     obtain ⟨k, hk, rfl, HK, hx⟩ := hrel
     by_cases hlt : k < m
     ·obtain ⟨br, rfl, hrow⟩ := H4.out (by omega)
      obtain ⟨Ac, cc, x, A, d, e, y, A', d', e', g0, g1, g2, g3, g4, g5, r1, r2, r3⟩ := (hrow k hlt).ext (hE0.trans hx)
      have HRK := HR.out k
      obtain ⟨l, hl⟩ : ∃ l, l = p.len k := ⟨_, rfl⟩
      obtain ⟨rel, hrel⟩ : ∃ r, r = p.rel k := ⟨_, rfl⟩
      rw [← hl] at g0 HRK
      rw [← hrel] at g1 HRK r2
      have c0 := hx.cell c0
      have HRK := Lib.hid HRK
      clear hl hrel hrow r1 r3
      go_upto_region 6 with fail
      have BB := Box.new wr 75 #[.slice Ac l cc, .int .u8 (rel : Int), .bool x, .slice A d e, .bool y, .slice A' d' e']
      have hEx : Ext wr (wr.alloc (.cells #[.slice Ac l cc, .int .u8 (rel : Int), .bool x, .slice A d e, .bool y, .slice A' d' e'] 75)) := (Ext.refl wr).alloc _
      generalize (wr.alloc (.cells #[.slice Ac l cc, .int .u8 (rel : Int), .bool x, .slice A d e, .bool y, .slice A' d' e'] 75)) = U at *
      have c0 := hEx.cell c0
      have d0 := BB.c0
      have d1 := BB.c1
      have hX := hx.trans hEx
      clear g0 g1 g2 g3 g4 g5
      by_cases hln : l = n
      ·have e1 : ((l : Int) != (n : Int)) = false := by simp [hln]
       have HLN := Lib.hid hln
       clear hln
       by_cases hr1 : rel < 1
       ·have e2 : decide ((rel : Int) < 1) = true := by simp; omega
        have HF2 : Hid (F = false) := Lib.hid (by rw [HE.out]; exact q9j (by rw [HRK.out, decide_eq_false (show ¬ 1 ≤ rel by omega)]; simp) hlt)
        clear hr1
        go_wp2_with fail
        go_ret
        exact ⟨by rw [HF2.out]; rfl, hE0.trans hX⟩
       ·have e2 : decide ((rel : Int) < 1) = false := by simp; omega
        by_cases hr3 : 3 < rel
        ·have e3 : decide ((3 : Int) < (rel : Int)) = true := by simp; omega
         have HF2 : Hid (F = false) := Lib.hid (by rw [HE.out]; exact q9j (by rw [HRK.out, decide_eq_false (show ¬ rel ≤ 3 by omega)]; simp) hlt)
         clear hr1 hr3
         go_wp2_with fail
         go_ret
         exact ⟨by rw [HF2.out]; rfl, hE0.trans hX⟩
        ·have e3 : decide ((3 : Int) < (rel : Int)) = false := by simp; omega
         have HK2 : Hid (qrs p (k + 1) = true) := Lib.hid (by show (qrs p k && q2m p k) = true; rw [HK.out, HRK.out, HLN.out, decide_eq_true (show 1 ≤ rel by omega), decide_eq_true (show rel ≤ 3 by omega)]; simp)
         clear hr1 hr3
         go_wp2_with fail
         go_roundw
         case rel => exact ⟨k + 1, by omega, by go_num, HK2, hX⟩
         case measure => simp [intOf]; omega
      ·have e1 : ((l : Int) != (n : Int)) = true := by simp; omega
       have HF2 : Hid (F = false) := Lib.hid (by rw [HE.out]; exact q9j (by rw [HRK.out, show (l == n) = false by simpa using hln]; rfl) hlt)
       clear hln
       go_wp2_with fail
       go_ret
       exact ⟨by rw [HF2.out]; rfl, hE0.trans hX⟩
     ·obtain rfl : k = m := by omega
      have HF2 : Hid (F = true) := Lib.hid (by rw [HE.out, HK.out])
      go_wp2_with fail
      go_ret
      exact ⟨by rw [HF2.out]; rfl, hE0.trans hx⟩
theorem At.fr {P : Nat → Prop} {w w' : World} {cs : Array Value} {i : Nat} {q : Rat} (h : At w cs i q) (k : Fr P w w') : At w' cs i q := by
 obtain ⟨p, A, m, c, p', A', m', c', e0, e1, e2, e3, hr⟩ := h
 exact ⟨p, A, m, c, p', A', m', c', e0, e1, e2, e3, k.rat hr⟩
theorem RowR.lay {w : World} {g b N n : Nat} {f fs : Nat → Rat} (hg : RowR w g N f) (hb : RowR w b n fs) (hn : n ≤ N) (cg cb : Array Value) (hcg : w.heap[g]? = some (.cells cg 58 (0, 0))) (hcb : w.heap[b]? = some (.cells cb 58 (0, 0))) :
 RowR (w.setRow g (cb.toList.take (n * 4) ++ cg.toList.drop (n * 4)).toArray) g N (fun j => if j < n then fs j else f j) ∧ Fr (fun k => k = g) w (w.setRow g (cb.toList.take (n * 4) ++ cg.toList.drop (n * 4)).toArray) := by
 obtain ⟨xg, h1, h2, h3⟩ := hg
 obtain ⟨xb, g1, g2, g3⟩ := hb
 obtain rfl : xg = cg := by rw [hcg] at h1; injection h1 with h1; injection h1 with h1; exact h1.symm
 obtain rfl : xb = cb := by rw [hcb] at g1; injection g1 with g1; injection g1 with g1; exact g1.symm
 have hlen : (xb.toList.take (n * 4)).length = n * 4 := by rw [List.length_take, Array.length_toList]; omega
 have hlo : ∀ i, i < n * 4 → ((xb.toList.take (n * 4) ++ xg.toList.drop (n * 4)).toArray)[i]? = xb[i]? := fun i hi => by
  rw [List.getElem?_toArray, List.getElem?_append_left (by omega), List.getElem?_take, if_pos hi, Array.getElem?_toList]
 have hhi : ∀ i, n * 4 ≤ i → ((xb.toList.take (n * 4) ++ xg.toList.drop (n * 4)).toArray)[i]? = xg[i]? := fun i hi => by
  rw [List.getElem?_toArray, List.getElem?_append_right (by omega), hlen, List.getElem?_drop, Array.getElem?_toList]; congr 1; omega
 have hcell : ∀ i, (w.setRow g (xb.toList.take (n * 4) ++ xg.toList.drop (n * 4)).toArray).cell? ⟨g, i, none⟩ = ((xb.toList.take (n * 4) ++ xg.toList.drop (n * 4)).toArray)[i]? := fun i => cell_of_row _ g i _ _ (0, 0) (setRow_heap w g _ _ _ _ hcg)
 have hk : Fr (fun k => k = g) w (w.setRow g (xb.toList.take (n * 4) ++ xg.toList.drop (n * 4)).toArray) := by
  refine ⟨rfl, rfl, rfl, by simp [World.setRow], fun k _ hne => setRow_other w g k _ hne, fun b' i z hz => ?_⟩
  by_cases e : b' = g
  ·subst e
   rw [cell_of_row w b' i xg _ (0, 0) hcg] at hz
   have hi : i < xg.size := (Array.getElem?_eq_some_iff.1 hz).1
   by_cases hN : i < N * 4
   ·exfalso
    obtain ⟨p, A, m, c, p', A', m', c', e0, e1, e2, e3, _⟩ := h3 (i / 4) (by omega)
    rcases (show i = i / 4 * 4 ∨ i = i / 4 * 4 + 1 ∨ i = i / 4 * 4 + 2 ∨ i = i / 4 * 4 + 3 by omega) with e | e | e | e
    ·rw [← e, hz] at e0; cases e0
    ·rw [← e, hz] at e1; cases e1
    ·rw [← e, hz] at e2; cases e2
    ·rw [← e, hz] at e3; cases e3
   ·rw [hcell, hhi i (by omega)]; exact hz
  ·rw [World.cell?_of_block (w := w) (w' := w.setRow g _) (a := ⟨b', i, none⟩) (setRow_other w g b' _ e)]; exact hz
 refine ⟨⟨_, setRow_heap w g _ _ _ _ hcg, ?_, fun j hj => ?_⟩, hk⟩
 ·rw [List.size_toArray, List.length_append, hlen, List.length_drop, Array.length_toList]; omega
 ·by_cases hjn : j < n
  ·show At _ _ _ (if j < n then fs j else f j)
   rw [if_pos hjn]
   obtain ⟨p, A, m, c, p', A', m', c', e0, e1, e2, e3, hr⟩ := (g3 j hjn).fr hk
   exact ⟨p, A, m, c, p', A', m', c', by rw [hlo _ (by omega)]; exact e0, by rw [hlo _ (by omega)]; exact e1, by rw [hlo _ (by omega)]; exact e2, by rw [hlo _ (by omega)]; exact e3, hr⟩
  ·show At _ _ _ (if j < n then fs j else f j)
   rw [if_neg hjn]
   obtain ⟨p, A, m, c, p', A', m', c', e0, e1, e2, e3, hr⟩ := (h3 j hj).fr hk
   exact ⟨p, A, m, c, p', A', m', c', by rw [hhi _ (by omega)]; exact e0, by rw [hhi _ (by omega)]; exact e1, by rw [hhi _ (by omega)]; exact e2, by rw [hhi _ (by omega)]; exact e3, hr⟩
theorem qzx (w : World) (ty : TypeId) (g b N dc n sc : Nat) (f fs : Nat → Rat) (hg : RowR w g N f) (hb : RowR w b n fs) (hn : n ≤ N) :
 ∃ w', (Builtin.copy_ #[38, 38] ty #[.slice (some ⟨g, 0, none⟩) N dc, .slice (some ⟨b, 0, none⟩) n sc]).run Tryz.prog w = .ok (goInt (n : Int)) w' ∧ RowR w' g N (fun j => if j < n then fs j else f j) ∧ Fr (fun k => k = g) w w' := by
 obtain ⟨i0, hi, hz0, hz1, hz2⟩ := info_parts qde
 have hg' := hg
 have hb' := hb
 obtain ⟨cg, h1, h2, h3⟩ := hg'
 obtain ⟨cb, g1, g2, g3⟩ := hb'
 obtain ⟨r1, r2⟩ := hg.lay hb hn cg cb h1 g1
 have hlen : (cb.toList.take (n * 4)).length = n * 4 := by rw [List.length_take, Array.length_toList]; omega
 have hl := run_loadCells_list (P := Tryz.prog) w ⟨b, 0, none⟩ (cb.toList.take (n * 4)) (fun j v hj => by
  rw [Lib.add_plain, Nat.zero_add, cell_of_row w b j cb _ (0, 0) g1]
  rw [List.getElem?_take] at hj
  split at hj
  ·rw [← Array.getElem?_toList]; exact hj
  ·cases hj)
 rw [hlen] at hl
 have h1c : ∀ v ∈ cb.toList.take (n * 4), v.oneCell' = true := fun v hv => by
  obtain ⟨i, hi'⟩ := List.getElem?_of_mem hv
  rw [List.getElem?_take] at hi'
  split at hi'
  ·next hlt =>
   rw [Array.getElem?_toList] at hi'
   obtain ⟨k, d, hd4, rfl⟩ : ∃ k d, d < 4 ∧ i = k * 4 + d := ⟨i / 4, i % 4, by omega, by omega⟩
   obtain ⟨p, A, m, c, p', A', m', c', e0, e1, e2, e3, _⟩ := g3 k (by omega)
   rcases (show d = 0 ∨ d = 1 ∨ d = 2 ∨ d = 3 by omega) with rfl | rfl | rfl | rfl
   ·rw [Option.some.inj (hi'.symm.trans e0)]; rfl
   ·rw [Option.some.inj (hi'.symm.trans e1)]; rfl
   ·rw [Option.some.inj (hi'.symm.trans e2)]; rfl
   ·rw [Option.some.inj (hi'.symm.trans e3)]; rfl
  ·cases hi'
 have hst := run_storeCells_at Tryz.prog g 0 58 (cb.toList.take (n * 4)) 0 cg w h1 (by rw [hlen]; omega) h1c
 rw [hlen] at hst
 simp only [Nat.zero_add, Nat.add_zero, List.take_zero, List.nil_append] at hst
 refine ⟨w.setRow g (cb.toList.take (n * 4) ++ cg.toList.drop (n * 4)).toArray, ?_, r1, r2⟩
 simp [Builtin.copy_, run_underlying Tryz.underlying38, Builtin.lenOf, Builtin.firstCells, sizeOf, typeInfo, hi, hz1, Nat.min_eq_left hn, hl, hst]
def noU : Value → Bool | .int .u32 _ => false | _ => true
def qyo (w : World) (v v' : Value) : Prop := v'.ownBlock = v.ownBlock ∨ ∃ g, v'.ownBlock = some g ∧ w.heap.size ≤ g
def OwnX (w : World) (base : Nat) (E : TypeId) (k : Nat) (v : Value) (n : Nat) (xs : List Value) : Prop :=
 xs.length = n * k ∧ ((v = .slice none 0 0 ∧ n = 0) ∨ ∃ g cap cur, v = .slice (some ⟨g, 0, none⟩) n cap ∧ base ≤ g ∧ w.heap[g]? = some (.cells cur E (0, 0)) ∧ n ≤ cap ∧ cap ≤ maxLen ∧ cur.size = cap * k ∧ cur.toList.take (n * k) = xs ∧ ∀ u ∈ cur.toList, noU u = true)
section
variable {w w' : World} {base n k : Nat} {E : TypeId} {v : Value} {xs : List Value}
theorem OwnX.nil (w : World) (base : Nat) (E : TypeId) (k : Nat) : OwnX w base E k (.slice none 0 0) 0 [] := ⟨by simp, .inl ⟨rfl, rfl⟩⟩
theorem OwnX.up {base' : Nat} (h : OwnX w base E k v n xs) (hb : base' ≤ base) : OwnX w base' E k v n xs := by
 obtain ⟨h1, h2⟩ := h
 refine ⟨h1, ?_⟩
 rcases h2 with h2 | ⟨g, cap, cur, hv, hg, h5⟩
 ·exact .inl h2
 ·exact .inr ⟨g, cap, cur, hv, Nat.le_trans hb hg, h5⟩
theorem OwnX.fr {P : Nat → Prop} (h : OwnX w base E k v n xs) (f : Fr P w w') (hp : ∀ g, v.ownBlock = some g → ¬ P g) : OwnX w' base E k v n xs := by
 obtain ⟨h1, h2⟩ := h
 refine ⟨h1, ?_⟩
 rcases h2 with h2 | ⟨g, cap, cur, rfl, hg, h5, h6⟩
 ·exact .inl h2
 ·exact .inr ⟨g, cap, cur, rfl, hg, f.row (hp g rfl) h5, h6⟩
theorem OwnX.ext (h : OwnX w base E k v n xs) (x : Ext w w') : OwnX w' base E k v n xs := h.fr (P := fun _ => False) (Fr.of x) (fun _ _ => id)
theorem OwnX.lt (h : OwnX w base E k v n xs) {g : Nat} (hg : v.ownBlock = some g) : base ≤ g ∧ g < w.heap.size ∧ ∃ cur, w.heap[g]? = some (.cells cur E (0, 0)) := by
 rcases h.2 with ⟨rfl, _⟩ | ⟨g', cap, cur, rfl, hb, h5, _⟩
 ·cases hg
 ·obtain rfl : g' = g := Option.some.inj hg
  refine ⟨hb, ?_, cur, h5⟩
  rcases Nat.lt_or_ge g' w.heap.size with hlt | hge
  ·exact hlt
  ·rw [Array.getElem?_eq_none hge] at h5; cases h5
theorem OwnX.shape (h : OwnX w base E k v n xs) : ∃ A c, v = .slice A n c := by
 rcases h.2 with ⟨rfl, rfl⟩ | ⟨g, cap, cur, rfl, _⟩
 ·exact ⟨none, 0, rfl⟩
 ·exact ⟨_, cap, rfl⟩
theorem OwnX.cells (h : OwnX w base E k v n xs) (hn : 0 < n) : ∃ g cap, v = .slice (some ⟨g, 0, none⟩) n cap ∧ v.ownBlock = some g ∧ base ≤ g ∧ n ≤ cap ∧ cap ≤ 9223372036854775807 ∧ (∃ cur, w.heap[g]? = some (.cells cur E (0, 0)) ∧ n * k ≤ cur.size) ∧ (∀ i, w.frozen? ⟨g, i, none⟩ = false) ∧ ∀ j u, xs[j]? = some u → w.cell? ⟨g, j, none⟩ = some u := by
 rcases h.2 with ⟨_, h0⟩ | ⟨g, cap, cur, rfl, hb, h5, h6, h7, h8, h9, _⟩
 ·omega
 ·refine ⟨g, cap, rfl, rfl, hb, h6, by unfold maxLen at h7; exact h7, ⟨cur, h5, by rw [h8]; exact Nat.mul_le_mul_right _ h6⟩, fun i => by simp [World.frozen?, h5], fun j u hj => ?_⟩
  rw [cell_of_row w g j cur _ (0, 0) h5, ← Array.getElem?_toList]
  rw [← h9, List.getElem?_take] at hj
  split at hj
  ·exact hj
  ·cases hj
end
theorem q2s {z : Array Value} (hz : ∀ u ∈ z.toList, noU u = true) (n : Nat) : ∀ u ∈ (Builtin.zeroCells z n).toList, noU u = true := by
 intro u hu
 obtain ⟨i, hi⟩ := List.getElem?_of_mem hu
 have hi2 : (Builtin.zeroCells z n)[i]? = some u := by rw [← Array.getElem?_toList]; exact hi
 have hlt : i < (Builtin.zeroCells z n).size := (Array.getElem?_eq_some_iff.1 hi2).1
 rw [size_zeroCells] at hlt
 have hz0 : 0 < z.size := by
  rcases Nat.eq_zero_or_pos z.size with h | h
  ·rw [h] at hlt; omega
  ·exact h
 have hm : i % z.size < z.size := Nat.mod_lt _ hz0
 have e : u = z[i % z.size] := by
  unfold Builtin.zeroCells at hi2
  rw [Array.getElem?_map, Array.getElem?_range, if_pos hlt] at hi2
  simp only [Option.map_some, Option.some.injEq] at hi2
  rw [← hi2, getElem!_pos z _ hm]
 rw [e]
 exact hz _ (Array.mem_toList_iff.2 (Array.getElem_mem hm))
theorem qtx {w : World} {o : Oper} {a : Act} {K : Act → World → Prop} {Q : Exit → Act → World → Prop}
 (s x : Operand) (t : TypeId) (hop : o.op = Op.call { callee := Callee.builtin Builtin.append, args := #[s, x], argTypes := #[t, t] })
 (base : Nat) (e : TypeId) (i : TypeInfo) (z : Value) (k bytes : Nat) (h1 : Tryz.prog.underlying t = some (.slice e)) (h2 : Tryz.prog.info? e = some i) (h3 : i.zero = some z) (h4 : i.size = k) (h5 : i.bytes = bytes) (h6 : z.cells.size = k) (hz : ∀ u ∈ z.cells.toList, noU u = true)
 (v : Value) (n : Nat) (xs : List Value) (hs : a.eval s = v) (hown : OwnX w base e k v n xs) (ba : Nat) (news : List Value) (c : Nat) (hx : a.eval x = .slice (some ⟨ba, 0, none⟩) 1 c) (hnl : news.length = k) (hnw : ∀ j y, news[j]? = some y → w.cell? ⟨ba, j, none⟩ = some y) (h1c : ∀ y ∈ news, y.oneCell' = true) (hnu : ∀ y ∈ news, noU y = true)
 (b1 : n + 1 ≤ 1099511627776) (b2 : bytes ≤ 128) (hbase : base ≤ w.heap.size)
 (hK : ∀ v' w', OwnX w' base e k v' (n + 1) (xs ++ news) → Fr (fun g => v.ownBlock = some g) w w' → qyo w v v' → K (a.put o.dst v') w') :
 Oper.wp Tryz.prog o a w K Q := by
 subst h4 h5
 have hnews : ∀ j y, news[j]? = some y → w.cell? ((⟨ba, 0, none⟩ : Addr).add j) = some y := fun j y hj => by rw [Lib.add_plain, Nat.zero_add]; exact hnw j y hj
 have hbyt : (n + 1) * i.bytes ≤ 140737488355328 := Nat.le_trans (Nat.mul_le_mul b1 b2) (by decide)
 have hml : n + 1 ≤ maxLen := by unfold maxLen; omega
 have hlen : (xs ++ news).length = (n + 1) * i.size := by rw [List.length_append, hown.1, hnl, Nat.add_mul, Nat.one_mul]
 have hl1 : news.length = 1 * i.size := by rw [hnl, Nat.one_mul]
 -- where a new block comes
 have grown : ∀ old, (∀ u ∈ xs, noU u = true) → OwnX (w.drew.alloc (.cells (xs.toArray ++ news.toArray ++ Builtin.zeroCells z.cells (grownCap w (n + 1) old e - (n + 1))) e)) base e i.size (.slice (some ⟨w.heap.size, 0, none⟩) (n + 1) (grownCap w (n + 1) old e)) (n + 1) (xs ++ news) := by
  intro old hxu
  have hge := grownCap_ge w (n + 1) old e
  have hcm : grownCap w (n + 1) old e ≤ maxLen := grownCap_le_maxLen w (n + 1) old e hml
  refine ⟨hlen, .inr ⟨w.heap.size, _, _, rfl, hbase, heap_alloc_new w.drew _, hge, hcm, ?_, ?_, ?_⟩⟩
  ·simp only [Array.size_append, List.size_toArray, size_zeroCells, h6, hown.1, hnl]
   obtain ⟨d, hd⟩ : ∃ d, grownCap w (n + 1) old e = n + 1 + d := ⟨grownCap w (n + 1) old e - (n + 1), by omega⟩
   rw [hd, show n + 1 + d - (n + 1) = d by omega, Nat.add_mul, Nat.add_mul, Nat.one_mul]
  ·simp only [Array.toList_append, List.append_assoc]
   rw [← List.append_assoc, ← hlen]
   exact List.take_left
  ·intro u hu
   simp only [Array.toList_append, List.mem_append] at hu
   rcases hu with (hu | hu) | hu
   ·exact hxu u hu
   ·exact hnu u hu
   ·exact q2s hz _ u hu
 have frN : ∀ (obj : Obj) (P : Nat → Prop), Fr P w (w.drew.alloc obj) := fun obj P => ((Fr.refl P w).drew).alloc obj
 have fin : ∀ (v' : Value) (w' : World), (Builtin.append_ #[t, t] o.type #[v, .slice (some ⟨ba, 0, none⟩) 1 c]).run Tryz.prog w = .ok v' w' → K (a.put o.dst v') w' → Oper.wp Tryz.prog o a w K Q := by
  intro v' w' hrun hr
  unfold Oper.wp
  simp [execOp, hop, resolve, invoke, builtin, hs, hx, hrun, Result.andThen]
  exact hr
 rcases hown.2 with ⟨rfl, rfl⟩ | ⟨g, cap, cur, rfl, hb, g5, g6, g7, g8, g9, g10⟩
 ·have hx0 : xs = [] := List.eq_nil_of_length_eq_zero (by simpa using hown.1)
  subst hx0
  have hr := run_append_nil (P := Tryz.prog) w t o.type e i z h1 h2 h3 ⟨ba, 0, none⟩ 1 c news hl1 hnews (by decide) (by decide) (by omega)
  have hgr := grown 0 (fun u hu => by cases hu)
  simp only [Nat.zero_add, List.nil_append, Array.empty_append] at hgr hr hK
  refine fin _ _ hr (hK _ _ hgr (frN _ _) (.inr ⟨_, rfl, Nat.le_refl _⟩))
 ·by_cases hcap : n + 1 ≤ cap
  ·have hnk : n * i.size + i.size ≤ cap * i.size := by rw [← Nat.succ_mul]; exact Nat.mul_le_mul_right _ hcap
   have hr := run_append_room (P := Tryz.prog) w t o.type e i h1 h2 g n cap cur g5 ⟨ba, 0, none⟩ 1 c news hl1 hnews h1c hcap (by rw [hnl, g8]; exact hnk)
   have hcn : (cur.toList.take (n * i.size)).length = n * i.size := by rw [List.length_take, Array.length_toList, g8]; omega
   have hmem : ∀ u ∈ cur.toList.take (n * i.size) ++ news ++ cur.toList.drop (n * i.size + news.length), noU u = true := by
    intro u hu
    simp only [List.mem_append] at hu
    rcases hu with (hu | hu) | hu
    ·exact g10 u (List.mem_of_mem_take hu)
    ·exact hnu u hu
    ·exact g10 u (List.mem_of_mem_drop hu)
   refine fin _ _ hr (hK _ _ ⟨hlen, .inr ⟨g, cap, _, rfl, hb, setRow_heap w g cur _ e _ g5, hcap, g7, ?_, ?_, by simpa using hmem⟩⟩ ?_ (.inl rfl))
   ·simp only [List.size_toArray, List.length_append, hcn, List.length_drop, Array.length_toList, hnl, g8]; omega
   ·rw [g9, ← hlen]; exact List.take_left
   ·refine ⟨rfl, rfl, rfl, by simp [World.setRow], fun k _ hne => setRow_other w g k _ (fun e' => hne (by rw [e']; rfl)), fun b' j zz hzz => ?_⟩
    by_cases e' : b' = g
    ·subst e'
     rw [cell_of_row w b' j cur _ (0, 0) g5] at hzz
     have := g10 _ (Array.mem_toList_iff.2 (Array.mem_of_getElem? hzz))
     cases this
    ·rw [World.cell?_of_block (w := w) (w' := w.setRow g _) (a := ⟨b', j, none⟩) (setRow_other w g b' _ e')]; exact hzz
  ·have holds : ∀ j u, xs[j]? = some u → w.cell? ((⟨g, 0, none⟩ : Addr).add j) = some u := fun j u hj => by
    rw [Lib.add_plain, Nat.zero_add, cell_of_row w g j cur _ (0, 0) g5, ← Array.getElem?_toList]
    rw [← g9, List.getElem?_take] at hj
    split at hj
    ·exact hj
    ·cases hj
   have hlt : cap < n + 1 := Nat.lt_of_not_le hcap
   have hr := run_append_grow (P := Tryz.prog) w t o.type e i z h1 h2 h3 ⟨g, 0, none⟩ n cap xs hown.1 holds ⟨ba, 0, none⟩ 1 c news hl1 hnews hlt (by omega) (growslice_fits hlt hbyt)
   refine fin _ _ hr (hK _ _ (grown cap (fun u hu => g10 u (by rw [← g9] at hu; exact List.mem_of_mem_take hu))) (frN _ _) (.inr ⟨_, rfl, Nat.le_refl _⟩))
theorem qbx {w : World} {ops : Array Oper} {rest : List Oper} {o : Oper} {a : Act} {Q : Exit → Act → World → Prop}
 (hg : o.guard = none) (s x : Operand) (t : TypeId) (hop : o.op = Op.call { callee := Callee.builtin Builtin.append, args := #[s, x], argTypes := #[t, t] })
 (base : Nat) (e : TypeId) (i : TypeInfo) (z : Value) (k bytes : Nat) (h1 : Tryz.prog.underlying t = some (.slice e)) (h2 : Tryz.prog.info? e = some i) (h3 : i.zero = some z) (h4 : i.size = k) (h5 : i.bytes = bytes) (h6 : z.cells.size = k) (hz : ∀ u ∈ z.cells.toList, noU u = true)
 (v : Value) (n : Nat) (xs : List Value) (hs : a.eval s = v) (hown : OwnX w base e k v n xs) (ba : Nat) (news : List Value) (c : Nat) (hx : a.eval x = .slice (some ⟨ba, 0, none⟩) 1 c) (hnl : news.length = k) (hnw : ∀ j y, news[j]? = some y → w.cell? ⟨ba, j, none⟩ = some y) (h1c : ∀ y ∈ news, y.oneCell' = true) (hnu : ∀ y ∈ news, noU y = true)
 (b1 : n + 1 ≤ 1099511627776) (b2 : bytes ≤ 128) (hbase : base ≤ w.heap.size)
 (hK : ∀ v' w', OwnX w' base e k v' (n + 1) (xs ++ news) → Fr (fun g => v.ownBlock = some g) w w' → qyo w v v' → wpList Tryz.prog ops Q rest (a.put o.dst v') w') :
 wpList Tryz.prog ops Q (o :: rest) a w :=
 wpList_plain hg fun _ hK' => qtx s x t hop base e i z k bytes h1 h2 h3 h4 h5 h6 hz v n xs hs hown ba news c hx hnl hnw h1c hnu b1 b2 hbase (fun v' w' h1 h2 h3 => hK' _ _ (hK v' w' h1 h2 h3))
theorem qos {w : World} {ops : Array Oper} {o : Oper} {a : Act} {K : Act → World → Prop} {Q : Exit → Act → World → Prop} {Z : Prop}
 (hg : o.guard = none) (s x : Operand) (t : TypeId) (hop : o.op = Op.call { callee := Callee.builtin Builtin.append, args := #[s, x], argTypes := #[t, t] })
 (base : Nat) (e : TypeId) (i : TypeInfo) (z : Value) (k bytes : Nat) (h1 : Tryz.prog.underlying t = some (.slice e)) (h2 : Tryz.prog.info? e = some i) (h3 : i.zero = some z) (h4 : i.size = k) (h5 : i.bytes = bytes) (h6 : z.cells.size = k) (hz : ∀ u ∈ z.cells.toList, noU u = true)
 (v : Value) (n : Nat) (xs : List Value) (hs : a.eval s = v) (hown : OwnX w base e k v n xs) (ba : Nat) (news : List Value) (c : Nat) (hx : a.eval x = .slice (some ⟨ba, 0, none⟩) 1 c) (hnl : news.length = k) (hnw : ∀ j y, news[j]? = some y → w.cell? ⟨ba, j, none⟩ = some y) (h1c : ∀ y ∈ news, y.oneCell' = true) (hnu : ∀ y ∈ news, noU y = true)
 (b1 : n + 1 ≤ 1099511627776) (b2 : bytes ≤ 128) (hbase : base ≤ w.heap.size)
 (hK : ∀ v' w', OwnX w' base e k v' (n + 1) (xs ++ news) → Fr (fun g => v.ownBlock = some g) w w' → qyo w v v' → K (a.put o.dst v') w') :
 if Region.wanted o (yielded ops a.tmps) = true then Oper.wp Tryz.prog o a w K Q else Z := by
 have hw : Region.wanted o (yielded ops a.tmps) = true := by simp [Region.wanted, hg]
 rw [if_pos hw]
 exact qtx s x t hop base e i z k bytes h1 h2 h3 h4 h5 h6 hz v n xs hs hown ba news c hx hnl hnw h1c hnu b1 b2 hbase hK
def qn (n : Int) (d : Nat) : Rat := Rat.divInt n (1 + ((d % 6 : Nat) : Int))
def in32 (n : Int) : Prop := -2147483648 ≤ n ∧ n ≤ 2147483647
set_option maxHeartbeats 4000000 in
theorem qp7 (n : Int) (d : Nat) (w : World) (hn : in32 n) (hd : d ≤ 255) : Calls Tryz.prog 42 #[.int .i32 n, .int .u8 (d : Int)] w (q3z w (qn n d) 2) := by
 obtain ⟨Q, hQ⟩ : ∃ Q, Q = qn n d := ⟨_, rfl⟩
 rw [← hQ]
 obtain ⟨m, hm⟩ : ∃ m : Int, m = 1 + ((d % 6 : Nat) : Int) := ⟨_, rfl⟩
 have hm0 : 0 < m := by omega
 have hm1 : m < 7 := by omega
 have HQ : Hid (Q = Rat.divInt n m) := Lib.hid (by rw [hQ, hm]; rfl)
 have B0 := Box.new w 58 #[.bool false, .slice none 0 0, .bool false, .slice none 0 0]
 have hE0 : Ext w (w.alloc (.cells #[.bool false, .slice none 0 0, .bool false, .slice none 0 0] 58)) := (Ext.refl w).alloc _
 obtain ⟨n1, n2⟩ := hn
 go_enter Tryz.func42, Tryz.ntmps42
 go_upto_region 1 with fail
 generalize (w.alloc (.cells #[.bool false, .slice none 0 0, .bool false, .slice none 0 0] 58)) = V at *
 go_wp2_with fail
 refine (q6i _ _ _ (by omega) (by omega) (by omega) (by omega) (by omega)).mono ?_
 rintro e w1 ⟨v1, rfl, hb1, hx1⟩
 obtain ⟨p1, A1, m1, c1, p1', A1', m1', c1', rfl⟩ := hb1.1.shape
 rw [show Rat.divInt n (1 + (d : Int) % 6) = Q by rw [HQ.out, hm]; congr 1] at hb1
 have hE1 := hE0.trans hx1
 have B1 := B0.ext hx1
 go_upto_region 2 with fail
 have B5 := Box.new w1 58 #[.bool p1, .slice A1 m1 c1, .bool p1', .slice A1' m1' c1']
 have hE5 : Ext w1 (w1.alloc (.cells #[.bool p1, .slice A1 m1 c1, .bool p1', .slice A1' m1' c1'] 58)) := (Ext.refl w1).alloc _
 generalize (w1.alloc (.cells #[.bool p1, .slice A1 m1 c1, .bool p1', .slice A1' m1' c1'] 58)) = U at *
 have B2 := B1.ext hE5
 have hb2 := hb1.ext hE5
 have hE := hE1.trans hE5
 have x0 := B5.c0
 have x1 := B5.c1
 have x2 := B5.c2
 have x3 := B5.c3
 have z0 := B2.c0
 have z1 := B2.c1
 have z2 := B2.c2
 have z3 := B2.c3
 have f0 := B2.frozen 0
 have f1 := B2.frozen 1
 have f2 := B2.frozen 2
 have f3 := B2.frozen 3
 go_wp2_with fail
 obtain ⟨pp, pb⟩ := RatV.put hb2.1 B2
 have pc0 := pb.c0
 have pc1 := pb.c1
 have pc2 := pb.c2
 have pc3 := pb.c3
 refine bodyPost_ret (v := .agg #[.bool p1, .slice A1 m1 c1, .bool p1', .slice A1' m1' c1']) (by simp [results, Tryz.results42, go_sem, pc0, pc1, pc2, pc3]) rfl ?_
 exact ⟨_, rfl, ⟨pp, hb2.2⟩, (((hE.set (by simp) _).set (by simp) _).set (by simp) _).set (by simp) _⟩
def Row (w : World) (v : Value) (vs : List Value) : Prop :=
 ∃ A c, v = .slice A vs.length c ∧ vs.length ≤ c ∧ c ≤ 9223372036854775807 ∧ (0 < vs.length → ∃ b off, A = some ⟨b, off, none⟩ ∧ ∀ j u, vs[j]? = some u → w.cell? ⟨b, off + j, none⟩ = some u)
theorem Row.ext {w w' : World} {v : Value} {vs : List Value} (h : Row w v vs) (k : Ext w w') : Row w' v vs := by
 obtain ⟨A, c, rfl, h1, h2, h3⟩ := h
 refine ⟨A, c, rfl, h1, h2, fun hn => ?_⟩
 obtain ⟨b, off, rfl, hc⟩ := h3 hn
 exact ⟨b, off, rfl, fun j u hj => k.cell (hc j u hj)⟩
theorem Row.nil (w : World) (A : Option Addr) (c : Nat) (hc : c ≤ 9223372036854775807) : Row w (.slice A 0 c) [] := ⟨A, c, rfl, by simp, hc, fun h => absurd h (by simp)⟩
theorem Row.inj {w : World} {A : Option Addr} {n c : Nat} {vs : List Value} (h : Row w (.slice A n c) vs) : n = vs.length ∧ vs.length ≤ c ∧ c ≤ 9223372036854775807 ∧ (0 < vs.length → ∃ b off, A = some ⟨b, off, none⟩ ∧ ∀ j u, vs[j]? = some u → w.cell? ⟨b, off + j, none⟩ = some u) := by
 obtain ⟨A', c', e, h1⟩ := h
 injection e with a b c
 subst a b c
 exact ⟨rfl, h1⟩
def wV (xs : List Int) : List Value := xs.map (Value.int .i32)
theorem wV_get {xs : List Int} {j : Nat} {x : Int} (h : xs[j]? = some x) : (wV xs)[j]? = some (.int .i32 x) := by simp [wV, h]
theorem qys (xs : List Int) : (wV xs).length = xs.length := by simp [wV]
def OwnQ (w : World) (base : Nat) (v : Value) (n : Nat) (f : Nat → Rat) : Prop := ∃ xs, OwnX w base 58 4 v n xs ∧ ∀ j, j < n → At w xs.toArray (j * 4) (f j)
def qjq (w : World) (base : Nat) (A : Option Addr) (n c : Nat) (f : Nat → Rat) : Prop := n ≤ c ∧ c ≤ 9223372036854775807 ∧ (0 < n → ∃ b, A = some ⟨b, 0, none⟩ ∧ RowR w b n f ∧ base ≤ b)
theorem qjq.rats {w : World} {base : Nat} {A : Option Addr} {n c : Nat} {f : Nat → Rat} (h : qjq w base A n c f) : q94 w A n c f :=
 ⟨h.1, h.2.1, fun hn => by obtain ⟨b, e, hr, _⟩ := h.2.2 hn; exact ⟨b, e, hr⟩⟩
theorem qjq.ext {w w' : World} {base : Nat} {A : Option Addr} {n c : Nat} {f : Nat → Rat} (h : qjq w base A n c f) (k : Ext w w') : qjq w' base A n c f :=
 ⟨h.1, h.2.1, fun hn => by obtain ⟨b, e, hr, hb⟩ := h.2.2 hn; exact ⟨b, e, hr.ext k, hb⟩⟩
theorem qjq.congr {w : World} {base : Nat} {A : Option Addr} {n c : Nat} {f g : Nat → Rat} (h : qjq w base A n c f) (e : ∀ j, j < n → f j = g j) : qjq w base A n c g :=
 ⟨h.1, h.2.1, fun hn => by obtain ⟨b, e', hr, hb⟩ := h.2.2 hn; exact ⟨b, e', hr.congr e, hb⟩⟩
theorem q94.congr {w : World} {A : Option Addr} {n c : Nat} {f g : Nat → Rat} (h : q94 w A n c f) (e : ∀ j, j < n → f j = g j) : q94 w A n c g :=
 ⟨h.1, h.2.1, fun hn => by obtain ⟨b, e', hr⟩ := h.2.2 hn; exact ⟨b, e', hr.congr e⟩⟩
section
variable {w w' : World} {base n : Nat} {v : Value} {f : Nat → Rat}
theorem OwnQ.nil (w : World) (base : Nat) (f : Nat → Rat) : OwnQ w base (.slice none 0 0) 0 f := ⟨[], OwnX.nil _ _ _ _, fun j hj => absurd hj (by omega)⟩
theorem OwnQ.ext (h : OwnQ w base v n f) (x : Ext w w') : OwnQ w' base v n f := by
 obtain ⟨xs, h1, h2⟩ := h
 exact ⟨xs, h1.ext x, fun j hj => (h2 j hj).fr (P := fun _ => False) (Fr.of x)⟩
theorem OwnQ.shape (h : OwnQ w base v n f) : ∃ A c, v = .slice A n c := by
 obtain ⟨xs, h1, h2⟩ := h
 exact h1.shape
theorem OwnQ.rats {A : Option Addr} {c : Nat} (h : OwnQ w base (.slice A n c) n f) : qjq w base A n c f := by
 obtain ⟨xs, h1, h2⟩ := h
 rcases Nat.eq_zero_or_pos n with hn | hn
 ·subst hn
  refine ⟨by omega, ?_, fun h => absurd h (by omega)⟩
  rcases h1.2 with ⟨e, _⟩ | ⟨g, cap, cur, e, _, _, _, h6, _⟩
  ·injection e with _ _ e; omega
  ·injection e with _ _ e
   unfold maxLen at h6; omega
 ·obtain ⟨g, cap, e, _, hb, h3, h4, ⟨cur, h5, h6⟩, _, h8⟩ := h1.cells hn
  injection e with e1 e2 e3
  subst e1 e3
  refine ⟨h3, h4, fun _ => ⟨g, rfl, ⟨cur, h5, h6, fun j hj => ?_⟩, hb⟩⟩
  obtain ⟨p, A, m, c, p', A', m', c', e0, e1, e2, e3, hr⟩ := h2 j hj
  have key : ∀ i u, xs.toArray[i]? = some u → cur[i]? = some u := fun i u hu => by
   rw [List.getElem?_toArray] at hu
   have := h8 i u hu
   rwa [cell_of_row w g i cur _ (0, 0) h5] at this
  exact ⟨p, A, m, c, p', A', m', c', key _ _ e0, key _ _ e1, key _ _ e2, key _ _ e3, hr⟩
theorem At.push {P : Nat → Prop} {xs : List Value} {p p' : Bool} {A A' : Option Addr} {m c m' c' : Nat} (hl : xs.length = n * 4) (h : ∀ j, j < n → At w xs.toArray (j * 4) (f j)) (k : Fr P w w') (hq : RatV w (.agg #[.bool p, .slice A m c, .bool p', .slice A' m' c']) (f n)) :
 ∀ j, j < n + 1 → At w' (xs ++ [Value.bool p, .slice A m c, .bool p', .slice A' m' c']).toArray (j * 4) (f j) := by
 intro j hj
 by_cases e : j = n
 ·subst e
  have key : ∀ i, (xs ++ [Value.bool p, .slice A m c, .bool p', .slice A' m' c']).toArray[j * 4 + i]? = [Value.bool p, .slice A m c, .bool p', .slice A' m' c'][i]? := fun i => by
   rw [List.getElem?_toArray, List.getElem?_append_right (by omega), hl]
   congr 1; omega
  exact ⟨p, A, m, c, p', A', m', c', key 0, key 1, key 2, key 3, k.rat hq⟩
 ·obtain ⟨p1, A1, m1, c1, p1', A1', m1', c1', e0, e1, e2, e3, hr⟩ := h j (by omega)
  have key : ∀ i, i < 4 → (xs ++ [Value.bool p, .slice A m c, .bool p', .slice A' m' c']).toArray[j * 4 + i]? = xs.toArray[j * 4 + i]? := fun i hi => by
   rw [List.getElem?_toArray, List.getElem?_append_left (by omega), List.getElem?_toArray]
  exact ⟨p1, A1, m1, c1, p1', A1', m1', c1', by rw [← e0]; exact key 0 (by omega), by rw [← e1]; exact key 1 (by omega), by rw [← e2]; exact key 2 (by omega), by rw [← e3]; exact key 3 (by omega), k.rat hr⟩
end
theorem new4 (w : World) (E : TypeId) (a b c d : Value) : ∀ j y, [a, b, c, d][j]? = some y → (w.alloc (.cells #[a, b, c, d] E)).cell? ⟨w.heap.size, j, none⟩ = some y := by
 intro j y hj
 rw [(Box.new w E #[a, b, c, d]).cell j, ← hj]
 exact List.getElem?_toArray
theorem zR : ∀ u ∈ (Value.agg #[Value.bool false, .slice none 0 0, .bool false, .slice none 0 0]).cells.toList, noU u = true := fun u hu => by
 have : u = .bool false ∨ u = .slice none 0 0 := by
  simp [Value.cells] at hu
  rcases hu with h | h | h | h <;> simp [h]
 rcases this with rfl | rfl <;> rfl
theorem one4 {p p' : Bool} {A A' : Option Addr} {m c m' c' : Nat} : ∀ y ∈ [Value.bool p, .slice A m c, .bool p', .slice A' m' c'], y.oneCell' = true := fun y hy => by
 simp at hy
 rcases hy with rfl | rfl | rfl | rfl <;> rfl
theorem nou4 {p p' : Bool} {A A' : Option Addr} {m c m' c' : Nat} : ∀ y ∈ [Value.bool p, .slice A m c, .bool p', .slice A' m' c'], noU y = true := fun y hy => by
 simp at hy
 rcases hy with rfl | rfl | rfl | rfl <;> rfl
def NumsPost (w : World) (n : Nat) (f : Nat → Rat) (e : Ending) (w' : World) : Prop := ∃ A c, e = .returned (.slice A n c) ∧ qjq w' w.heap.size A n c f ∧ Ext w w'
set_option maxHeartbeats 8000000 in
set_option maxRecDepth 100000 in
theorem qel (A : Option Addr) (n c : Nat) (l : List Int) (d : Nat) (w : World) (h : Row w (.slice A n c) (wV l)) (hl : ∀ z ∈ l, in32 z) (hd : d ≤ 255) (hb : l.length ≤ 1048576) :
 Calls Tryz.prog 41 #[.slice A n c, .int .u8 (d : Int)] w (NumsPost w l.length (fun j => qn (l.getD j 0) d)) := by
 obtain ⟨hn, hc, -, hrow⟩ := h.inj
 rw [qys] at hn hc hrow
 subst hn
 have HL := Lib.hid hl
 have HROW := Lib.hid hrow
 clear hl hrow h
 obtain ⟨N, hN⟩ : ∃ N, N = l.length := ⟨_, rfl⟩
 rw [← hN] at hc hb HROW ⊢
 have HN := Lib.hid hN
 clear hN
 obtain ⟨i0, ii, iz0, iz1, iz2⟩ := info_parts qde
 go_enter Tryz.func41, Tryz.ntmps41
 go_wp2_with fail
 go_loopw [5, 10] (fun v i wr => ∃ k : Nat, k ≤ N ∧ i = .int .i64 k ∧ OwnQ wr w.heap.size v k (fun j => qn (l.getD j 0) d) ∧ Ext w wr) (fun _ i _ => N - (intOf i).toNat)
 case atStart => exact ⟨0, by omega, rfl, OwnQ.nil _ _ _, Ext.refl w⟩
 case round =>
  obtain ⟨k, hk, rfl, hO, hx⟩ := hrel
  by_cases hlt : k < N
  ·obtain ⟨b, off, rfl, hcell⟩ := HROW.out (by omega)
   obtain ⟨x, hxk⟩ : ∃ x, l[k]? = some x := ⟨_, List.getElem?_eq_getElem (by have := HN.out; omega)⟩
   have e0 := hx.cell (hcell k _ (wV_get hxk))
   have hx32 : in32 x := HL.out x (List.mem_of_getElem? hxk)
   have HXK : Hid (qn x d = qn (l.getD k 0) d) := Lib.hid (by rw [List.getD_eq_getElem?_getD, hxk]; rfl)
   clear hcell hxk
   obtain ⟨A1, c1, rfl⟩ := hO.shape
   go_wp2_with fail
   refine (qp7 x d _ hx32 hd).mono ?_
   rintro e w1 ⟨v1, rfl, hb1, hx1⟩
   obtain ⟨p1, B1, m1, d1, p1', B1', m1', d1', rfl⟩ := hb1.1.shape
   have hO1 := (hO.ext hx1).ext ((Ext.refl w1).alloc (.cells #[.bool p1, .slice B1 m1 d1, .bool p1', .slice B1' m1' d1'] 58))
   have hX1 := (hx.trans hx1).alloc (.cells #[.bool p1, .slice B1 m1 d1, .bool p1', .slice B1' m1' d1'] 58)
   have hb2 := hb1.1.ext ((Ext.refl w1).alloc (.cells #[.bool p1, .slice B1 m1 d1, .bool p1', .slice B1' m1' d1'] 58))
   have hN4 := new4 w1 58 (.bool p1) (.slice B1 m1 d1) (.bool p1') (.slice B1' m1' d1')
   obtain ⟨xs, o0, a0⟩ := hO1
   rw [HXK.out] at hb2
   have hsz := hX1.size
   go_upto_region 6 with (at_builtin; go_loud (refine qbx rfl (.tmp 14) (.tmp 18) 38 rfl w.heap.size 58 i0 _ 4 64 Tryz.underlying38 ii iz0 iz1 iz2 rfl zR _ k xs rfl o0 w1.heap.size [.bool p1, .slice B1 m1 d1, .bool p1', .slice B1' m1' d1'] 1 rfl rfl hN4 one4 nou4 (by omega) (by decide) hsz ?_); intro v2 w2 o2 r2 s2)
   have hX2 := r2.ext hX1 (fun g hg => (o0.lt hg).1)
   have a2 := At.push o0.1 a0 r2 hb2
   obtain ⟨A2, c2, rfl⟩ := o2.shape
   go_wp2_with fail
   go_roundw
   case rel => exact ⟨k + 1, by omega, by go_num, ⟨_, o2, a2⟩, hX2⟩
   case measure => simp [intOf]; omega
  ·obtain rfl : k = N := by omega
   obtain ⟨A1, c1, rfl⟩ := hO.shape
   go_wp2_with fail
   go_ret
   exact ⟨A1, c1, rfl, hO.rats, hx⟩
theorem infoL : (Tryz.prog.info? 38).map (fun i => (i.zero, i.size, i.bytes)) = some (some (.slice none 0 0), 1, 24) := by kernel_rfl
theorem infoI : (Tryz.prog.info? 3).map (fun i => (i.zero, i.size, i.bytes)) = some (some (.int .i64 0), 1, 8) := by kernel_rfl
theorem infoB : (Tryz.prog.info? 4).map (fun i => (i.zero, i.size, i.bytes)) = some (some (.bool false), 1, 1) := by kernel_rfl
def NewPost (w : World) (p : Prob) (e : Ending) (w' : World) : Prop :=
 ∃ a : TA, e = .returned (.pointer (some ⟨a.t, 0, none⟩)) ∧ Tab a p.m p.W p.art w' (.slice none 0 0) p.T0 p.un p.un p.flip ∧ Ext w w' ∧ w.heap.size ≤ a.t ∧ (∀ i, i < p.m → w.heap.size ≤ a.rw i) ∧ (0 < p.m → w.heap.size ≤ a.bb)
def tc (vr vb vu vf : Value) (x y : Nat) : Array Value := #[vr, .slice none 0 0, vb, vu, vf, .int .i64 (x : Int), .int .i64 (y : Int)]
theorem qjj (n : Nat) (q : Nat → Bool) : cnt (n + 1) q = cnt n q + if q n = true then 1 else 0 := rfl
theorem qsk (n : Nat) (q : Nat → Bool) : cnt n q ≤ n := qvg n q
theorem qb8 {w : World} {b b' : Nat} {cs cs' : Array Value} {E E' : TypeId} {f f' : Nat × Nat} (h : w.heap[b]? = some (.cells cs E f)) (h' : w.heap[b']? = some (.cells cs' E' f')) (hE : E ≠ E') : b ≠ b' := fun e => by
 rw [e, h'] at h; injection h with h; injection h with _ h2; exact hE h2.symm
def rwL (rw : Nat → Nat) (W n : Nat) : List Value := (List.range n).map fun k => .slice (some ⟨rw k, 0, none⟩) (W + 1) (W + 1)
def inL (f : Nat → Nat) (n : Nat) : List Value := (List.range n).map fun k => .int .i64 (f k : Int)
def boL (f : Nat → Bool) (n : Nat) : List Value := (List.range n).map fun k => .bool (f k)
structure NewI (p : Prob) (w wr : World) (pb tb W art : Nat) (pcs : Array Value) (a b c d : Nat) (vr vb vu vf : Value) (rw : Nat → Nat) : Prop where
 pbx : Box wr pb 41 pcs
 tbx : Box wr tb 200 (tc vr vb vu vf art W)
 orr : OwnX wr w.heap.size 38 1 vr a (rwL rw W a)
 ob : OwnX wr w.heap.size 3 1 vb b (inL p.un b)
 ou : OwnX wr w.heap.size 3 1 vu c (inL p.un c)
 of' : OwnX wr w.heap.size 4 1 vf d (boL p.flip d)
 bu : ∀ g, vb.ownBlock = some g → vu.ownBlock ≠ some g
 row : ∀ k, k < a → RowR wr (rw k) (W + 1) (p.T0 k) ∧ w.heap.size ≤ rw k
 inj : ∀ k, k < a → ∀ l, l < a → rw k = rw l → k = l
 ext : Ext w wr
section
variable {p : Prob} {w wr w' : World} {pb tb W art a b c d : Nat} {pcs : Array Value} {vr vb vu vf : Value} {rw : Nat → Nat} {P : Nat → Prop}
theorem RowR.cells {w : World} {b n : Nat} {f : Nat → Rat} (h : RowR w b n f) : ∃ cs, w.heap[b]? = some (.cells cs 58 (0, 0)) := by
 obtain ⟨cs, h1, _⟩ := h; exact ⟨cs, h1⟩
theorem NewI.fr (h : NewI p w wr pb tb W art pcs a b c d vr vb vu vf rw) (f : Fr P wr w') (h1 : ¬ P pb) (h2 : ¬ P tb) (h3 : ∀ g, vr.ownBlock = some g → ¬ P g) (h4 : ∀ g, vb.ownBlock = some g → ¬ P g) (h5 : ∀ g, vu.ownBlock = some g → ¬ P g) (h6 : ∀ g, vf.ownBlock = some g → ¬ P g) (h7 : ∀ k, k < a → ¬ P (rw k)) (hx : Ext w w') :
 NewI p w w' pb tb W art pcs a b c d vr vb vu vf rw :=
 ⟨f.box h.pbx h1, f.box h.tbx h2, h.orr.fr f h3, h.ob.fr f h4, h.ou.fr f h5, h.of'.fr f h6, h.bu, fun k hk => ⟨(h.row k hk).1.fr f (h7 k hk), (h.row k hk).2⟩, h.inj, hx⟩
theorem NewI.mono (h : NewI p w wr pb tb W art pcs a b c d vr vb vu vf rw) (x : Ext wr w') : NewI p w w' pb tb W art pcs a b c d vr vb vu vf rw :=
 h.fr (P := fun _ => False) (Fr.of x) id id (fun _ _ => id) (fun _ _ => id) (fun _ _ => id) (fun _ _ => id) (fun _ _ => id) (h.ext.trans x)
theorem NewI.apart (h : NewI p w wr pb tb W art pcs a b c d vr vb vu vf rw) :
 (∀ g, vr.ownBlock = some g → g ≠ pb ∧ g ≠ tb ∧ (∀ g', vb.ownBlock = some g' → g' ≠ g) ∧ (∀ g', vu.ownBlock = some g' → g' ≠ g) ∧ (∀ g', vf.ownBlock = some g' → g' ≠ g) ∧ ∀ k, k < a → rw k ≠ g) ∧
 (∀ g, vb.ownBlock = some g → g ≠ pb ∧ g ≠ tb ∧ (∀ g', vf.ownBlock = some g' → g' ≠ g) ∧ ∀ k, k < a → rw k ≠ g) ∧
 (∀ g, vu.ownBlock = some g → g ≠ pb ∧ g ≠ tb ∧ (∀ g', vf.ownBlock = some g' → g' ≠ g) ∧ ∀ k, k < a → rw k ≠ g) ∧
 (∀ g, vf.ownBlock = some g → g ≠ pb ∧ g ≠ tb ∧ ∀ k, k < a → rw k ≠ g) ∧ pb ≠ tb ∧ (∀ k, k < a → rw k ≠ pb ∧ rw k ≠ tb) := by
 have hp := h.pbx
 have ht := h.tbx
 unfold Box at hp ht
 refine ⟨fun g hg => ?_, fun g hg => ?_, fun g hg => ?_, fun g hg => ?_, qb8 hp ht (by decide), fun k hk => ?_⟩
 ·obtain ⟨-, -, cur, hc⟩ := h.orr.lt hg
  refine ⟨qb8 hc hp (by decide), qb8 hc ht (by decide), fun g' hg' => ?_, fun g' hg' => ?_, fun g' hg' => ?_, fun k hk => ?_⟩
  ·obtain ⟨-, -, cur', hc'⟩ := h.ob.lt hg'; exact qb8 hc' hc (by decide)
  ·obtain ⟨-, -, cur', hc'⟩ := h.ou.lt hg'; exact qb8 hc' hc (by decide)
  ·obtain ⟨-, -, cur', hc'⟩ := h.of'.lt hg'; exact qb8 hc' hc (by decide)
  ·obtain ⟨cs, hc'⟩ := (h.row k hk).1.cells; exact qb8 hc' hc (by decide)
 ·obtain ⟨-, -, cur, hc⟩ := h.ob.lt hg
  refine ⟨qb8 hc hp (by decide), qb8 hc ht (by decide), fun g' hg' => ?_, fun k hk => ?_⟩
  ·obtain ⟨-, -, cur', hc'⟩ := h.of'.lt hg'; exact qb8 hc' hc (by decide)
  ·obtain ⟨cs, hc'⟩ := (h.row k hk).1.cells; exact qb8 hc' hc (by decide)
 ·obtain ⟨-, -, cur, hc⟩ := h.ou.lt hg
  refine ⟨qb8 hc hp (by decide), qb8 hc ht (by decide), fun g' hg' => ?_, fun k hk => ?_⟩
  ·obtain ⟨-, -, cur', hc'⟩ := h.of'.lt hg'; exact qb8 hc' hc (by decide)
  ·obtain ⟨cs, hc'⟩ := (h.row k hk).1.cells; exact qb8 hc' hc (by decide)
 ·obtain ⟨-, -, cur, hc⟩ := h.of'.lt hg
  refine ⟨qb8 hc hp (by decide), qb8 hc ht (by decide), fun k hk => ?_⟩
  obtain ⟨cs, hc'⟩ := (h.row k hk).1.cells; exact qb8 hc' hc (by decide)
 ·obtain ⟨cs, hc⟩ := (h.row k hk).1.cells
  exact ⟨qb8 hc hp (by decide), qb8 hc ht (by decide)⟩
theorem NewI.base (h : NewI p w wr pb tb W art pcs a b c d vr vb vu vf rw) : w.heap.size ≤ wr.heap.size := h.ext.size
theorem qez {A : Option Addr} {n c : Nat} : ∀ z, some (Value.slice A n c) ≠ some (.int .u32 z) := fun z h => by cases h
theorem rwL_push (rw : Nat → Nat) (W a L : Nat) : rwL rw W a ++ [.slice (some ⟨L, 0, none⟩) (W + 1) (W + 1)] = rwL (fun k => if k = a then L else rw k) W (a + 1) := by
 unfold rwL
 rw [List.range_succ, List.map_append]
 congr 1
 ·refine List.map_congr_left fun k hk => ?_
  have := List.mem_range.1 hk
  show _ = Value.slice (some ⟨if k = a then L else rw k, 0, none⟩) (W + 1) (W + 1)
  rw [if_neg (by omega)]
 ·simp
theorem q15 (f : Nat → Nat) (a : Nat) : inL f a ++ [.int .i64 (f a : Int)] = inL f (a + 1) := by unfold inL; rw [List.range_succ, List.map_append]; rfl
theorem boL_push (f : Nat → Bool) (a : Nat) : boL f a ++ [.bool (f a)] = boL f (a + 1) := by unfold boL; rw [List.range_succ, List.map_append]; rfl
theorem NewI.pushR (h : NewI p w wr pb tb W art pcs a b c d vr vb vu vf rw) (hw : w.heap.size ≤ tb) {v' : Value} {L : Nat} (o' : OwnX w' w.heap.size 38 1 v' (a + 1) (rwL rw W a ++ [.slice (some ⟨L, 0, none⟩) (W + 1) (W + 1)])) (f : Fr (fun g => vr.ownBlock = some g) wr w')
 (hL : RowR wr L (W + 1) (p.T0 a)) (hLB : w.heap.size ≤ L) (hLn : ∀ k, k < a → rw k ≠ L) :
 NewI p w (w'.setCell ⟨tb, 0, none⟩ v') pb tb W art pcs (a + 1) b c d v' vb vu vf (fun k => if k = a then L else rw k) := by
 obtain ⟨ar, ab, au, af, apt, ak⟩ := h.apart
 have hx : Ext w w' := f.ext h.ext (fun g hg => (h.orr.lt hg).1)
 have ht' := f.box h.tbx (fun e => (ar _ e).2.1 rfl)
 obtain ⟨A0, c0, hs⟩ := h.orr.shape
 have g : Fr (fun k => k = tb) w' (w'.setCell ⟨tb, 0, none⟩ v') := (Fr.refl (fun k => k = tb) w').set (p := ⟨tb, 0, none⟩) rfl (by rw [ht'.c0, hs]; exact qez) _
 have hLt : L ≠ tb ∧ ¬ vr.ownBlock = some L := by
  obtain ⟨cs, hc'⟩ := hL.cells
  exact ⟨qb8 hc' h.tbx (by decide), fun e => by
   obtain ⟨-, -, cur, hc⟩ := h.orr.lt e
   exact qb8 hc hc' (by decide) rfl⟩
 refine ⟨g.box (f.box h.pbx (fun e => (ar _ e).1 rfl)) apt, ht'.set 0 v', ?_, (h.ob.fr f (fun x hx e => (ar _ e).2.2.1 _ hx rfl)).fr g (fun x hx => (ab x hx).2.1), (h.ou.fr f (fun x hx e => (ar _ e).2.2.2.1 _ hx rfl)).fr g (fun x hx => (au x hx).2.1),
  (h.of'.fr f (fun x hx e => (ar _ e).2.2.2.2.1 _ hx rfl)).fr g (fun x hx => (af x hx).2.1), h.bu, fun k hk => ?_, fun k hk l hl e => ?_, hx.set hw _⟩
 ·rw [← rwL_push]
  exact o'.fr g (fun x hx => by obtain ⟨-, -, cur, hc⟩ := o'.lt hx; exact qb8 hc ht' (by decide))
 ·by_cases e : k = a
  ·subst e
   simp only [if_true]
   exact ⟨(hL.fr f hLt.2).fr g hLt.1, hLB⟩
  ·simp only [if_neg e]
   exact ⟨((h.row k (by omega)).1.fr f (fun e' => (ar _ e').2.2.2.2.2 k (by omega) rfl)).fr g (ak k (by omega)).2, (h.row k (by omega)).2⟩
 ·by_cases ek : k = a <;> by_cases el : l = a
  ·omega
  ·rw [if_pos ek, if_neg el] at e; exact absurd e.symm (hLn l (by omega))
  ·rw [if_neg ek, if_pos el] at e; exact absurd e (hLn k (by omega))
  ·rw [if_neg ek, if_neg el] at e; exact h.inj k (by omega) l (by omega) e
theorem NewI.pushB (h : NewI p w wr pb tb W art pcs a b c d vr vb vu vf rw) (hw : w.heap.size ≤ tb) {v' : Value} (o' : OwnX w' w.heap.size 3 1 v' (b + 1) (inL p.un b ++ [.int .i64 (p.un b : Int)])) (f : Fr (fun g => vb.ownBlock = some g) wr w') (fs : qyo wr vb v') :
 NewI p w (w'.setCell ⟨tb, 2, none⟩ v') pb tb W art pcs a (b + 1) c d vr v' vu vf rw := by
 obtain ⟨ar, ab, au, af, apt, ak⟩ := h.apart
 have hx : Ext w w' := f.ext h.ext (fun g hg => (h.ob.lt hg).1)
 have ht' := f.box h.tbx (fun e => (ab _ e).2.1 rfl)
 obtain ⟨A0, c0, hs⟩ := h.ob.shape
 have g : Fr (fun k => k = tb) w' (w'.setCell ⟨tb, 2, none⟩ v') := (Fr.refl (fun k => k = tb) w').set (p := ⟨tb, 2, none⟩) rfl (by rw [ht'.c2, hs]; exact qez) _
 refine ⟨g.box (f.box h.pbx (fun e => (ab _ e).1 rfl)) apt, ht'.set 2 v', (h.orr.fr f (fun x hx e => (ar _ hx).2.2.1 _ e rfl)).fr g (fun x hx => (ar x hx).2.1), ?_, (h.ou.fr f (fun x hx e => h.bu _ e hx)).fr g (fun x hx => (au x hx).2.1),
  (h.of'.fr f (fun x hx e => (ab _ e).2.2.1 _ hx rfl)).fr g (fun x hx => (af x hx).2.1), fun x hx e => ?_, fun k hk => ?_, h.inj, hx.set hw _⟩
 ·rw [← q15]
  exact o'.fr g (fun x hx => by obtain ⟨-, -, cur, hc⟩ := o'.lt hx; exact qb8 hc ht' (by decide))
 ·rcases fs with fs | ⟨y, fs, hy⟩
  ·rw [fs] at hx; exact h.bu x hx e
  ·rw [fs] at hx
   obtain rfl := Option.some.inj hx
   have := (h.ou.lt e).2.1; omega
 ·exact ⟨((h.row k hk).1.fr f (fun e' => (ab _ e').2.2.2 k hk rfl)).fr g (ak k hk).2, (h.row k hk).2⟩
theorem NewI.pushU (h : NewI p w wr pb tb W art pcs a b c d vr vb vu vf rw) (hw : w.heap.size ≤ tb) {v' : Value} (o' : OwnX w' w.heap.size 3 1 v' (c + 1) (inL p.un c ++ [.int .i64 (p.un c : Int)])) (f : Fr (fun g => vu.ownBlock = some g) wr w') (fs : qyo wr vu v') :
 NewI p w (w'.setCell ⟨tb, 3, none⟩ v') pb tb W art pcs a b (c + 1) d vr vb v' vf rw := by
 obtain ⟨ar, ab, au, af, apt, ak⟩ := h.apart
 have hx : Ext w w' := f.ext h.ext (fun g hg => (h.ou.lt hg).1)
 have ht' := f.box h.tbx (fun e => (au _ e).2.1 rfl)
 obtain ⟨A0, c0, hs⟩ := h.ou.shape
 have g : Fr (fun k => k = tb) w' (w'.setCell ⟨tb, 3, none⟩ v') := (Fr.refl (fun k => k = tb) w').set (p := ⟨tb, 3, none⟩) rfl (by rw [ht'.c3, hs]; exact qez) _
 refine ⟨g.box (f.box h.pbx (fun e => (au _ e).1 rfl)) apt, ht'.set 3 v', (h.orr.fr f (fun x hx e => (ar _ hx).2.2.2.1 _ e rfl)).fr g (fun x hx => (ar x hx).2.1), (h.ob.fr f (fun x hx e => h.bu _ hx e)).fr g (fun x hx => (ab x hx).2.1), ?_,
  (h.of'.fr f (fun x hx e => (au _ e).2.2.1 _ hx rfl)).fr g (fun x hx => (af x hx).2.1), fun x hx e => ?_, fun k hk => ?_, h.inj, hx.set hw _⟩
 ·rw [← q15]
  exact o'.fr g (fun x hx => by obtain ⟨-, -, cur, hc⟩ := o'.lt hx; exact qb8 hc ht' (by decide))
 ·rcases fs with fs | ⟨y, fs, hy⟩
  ·rw [fs] at e; exact h.bu x hx e
  ·rw [fs] at e
   obtain rfl := Option.some.inj e
   have := (h.ob.lt hx).2.1; omega
 ·exact ⟨((h.row k hk).1.fr f (fun e' => (au _ e').2.2.2 k hk rfl)).fr g (ak k hk).2, (h.row k hk).2⟩
theorem NewI.pushF (h : NewI p w wr pb tb W art pcs a b c d vr vb vu vf rw) (hw : w.heap.size ≤ tb) {v' : Value} (o' : OwnX w' w.heap.size 4 1 v' (d + 1) (boL p.flip d ++ [.bool (p.flip d)])) (f : Fr (fun g => vf.ownBlock = some g) wr w') :
 NewI p w (w'.setCell ⟨tb, 4, none⟩ v') pb tb W art pcs a b c (d + 1) vr vb vu v' rw := by
 obtain ⟨ar, ab, au, af, apt, ak⟩ := h.apart
 have hx : Ext w w' := f.ext h.ext (fun g hg => (h.of'.lt hg).1)
 have ht' := f.box h.tbx (fun e => (af _ e).2.1 rfl)
 obtain ⟨A0, c0, hs⟩ := h.of'.shape
 have h4 : w'.cell? ⟨tb, 4, none⟩ = some vf := ht'.cell 4
 have g : Fr (fun k => k = tb) w' (w'.setCell ⟨tb, 4, none⟩ v') := (Fr.refl (fun k => k = tb) w').set (p := ⟨tb, 4, none⟩) rfl (by rw [h4, hs]; exact qez) _
 refine ⟨g.box (f.box h.pbx (fun e => (af _ e).1 rfl)) apt, ht'.set 4 v', (h.orr.fr f (fun x hx e => (ar _ hx).2.2.2.2.1 _ e rfl)).fr g (fun x hx => (ar x hx).2.1), (h.ob.fr f (fun x hx e => (ab _ hx).2.2.1 _ e rfl)).fr g (fun x hx => (ab x hx).2.1), (h.ou.fr f (fun x hx e => (au _ hx).2.2.1 _ e rfl)).fr g (fun x hx => (au x hx).2.1), ?_, h.bu, fun k hk => ?_, h.inj, hx.set hw _⟩
 ·rw [← boL_push]
  exact o'.fr g (fun x hx => by obtain ⟨-, -, cur, hc⟩ := o'.lt hx; exact qb8 hc ht' (by decide))
 ·exact ⟨((h.row k hk).1.fr f (fun e' => (af _ e').2.2 k hk rfl)).fr g (ak k hk).2, (h.row k hk).2⟩
end
theorem T0_of {p : Prob} {i : Nat} (hi : i < p.m) {j : Nat} (hj : j ≤ p.W) :
 (if p.dir i ≠ 1 ∧ j = p.ar i then (1 : Rat) else if p.rel i ≠ 2 ∧ j = p.sl i then (if p.dir i = 1 then 1 else -1) else if p.flip i = true then -(if j = p.W then p.right i else if j < p.n then p.coef i j else 0) else (if j = p.W then p.right i else if j < p.n then p.coef i j else 0)) = p.T0 i j := by
 have a1 := p.art_le
 have a2 := p.n_le
 have s1 : ∀ q : Rat, (if p.flip i = true then -q else q) = p.sg i q := fun q => rfl
 unfold Prob.T0
 by_cases hW : j = p.W
 ·rw [if_pos hW, if_neg (fun h => by have := Prob.ar_lt hi h.1; omega), if_neg (fun h => by have := Prob.sl_lt hi h.1; omega), if_pos hW]
  rfl
 ·rw [if_neg hW, if_neg hW]
  by_cases hn : j < p.n
  ·rw [if_pos hn, if_neg (fun h => by have := p.ar_ge i; omega), if_neg (fun h => by have := p.sl_ge i; omega), if_pos hn]
   rfl
  ·rw [if_neg hn, if_neg hn]
   have z : (if p.flip i = true then -(0 : Rat) else 0) = 0 := by split <;> rfl
   rw [z]
   by_cases h1 : p.dir i ≠ 1 ∧ j = p.ar i
   ·rw [if_pos h1, if_neg (fun h => by have := p.ar_ge i; have := Prob.sl_lt hi h.1; omega), if_pos h1]
   ·rw [if_neg h1]
    by_cases h2 : p.rel i ≠ 2 ∧ j = p.sl i
    ·rw [if_pos h2, if_pos h2]
    ·rw [if_neg h2, if_neg h2, if_neg h1]
theorem new1 (w : World) (E : TypeId) (v : Value) : ∀ j y, [v][j]? = some y → (w.alloc (.cells #[v] E)).cell? ⟨w.heap.size, j, none⟩ = some y := by
 intro j y hj
 cases j with
 | zero => simp at hj; subst hj; exact (Box.new w E #[v]).c0
 | succ j => simp at hj
theorem one1 {v : Value} (h : v.oneCell' = true) : ∀ y ∈ [v], y.oneCell' = true := fun y hy => by rw [List.mem_singleton.1 hy]; exact h
theorem nou1 {v : Value} (h : noU v = true) : ∀ y ∈ [v], noU y = true := fun y hy => by rw [List.mem_singleton.1 hy]; exact h
theorem zL : ∀ u ∈ (Value.slice none 0 0).cells.toList, noU u = true := fun u hu => by
 have : u = .slice none 0 0 := by simpa [Value.cells] using hu
 rw [this]; rfl
theorem zI : ∀ u ∈ (Value.int .i64 0).cells.toList, noU u = true := fun u hu => by
 have : u = .int .i64 0 := by simpa [Value.cells] using hu
 rw [this]; rfl
theorem zB : ∀ u ∈ (Value.bool false).cells.toList, noU u = true := fun u hu => by
 have : u = .bool false := by simpa [Value.cells] using hu
 rw [this]; rfl
theorem NewI.tab {p : Prob} {w wr : World} {pb tb W art m : Nat} {pcs : Array Value} {vr vb vu vf : Value} {rw : Nat → Nat} (h : NewI p w wr pb tb W art pcs m m m m vr vb vu vf rw) :
 ∃ a : TA, a.t = tb ∧ a.rw = rw ∧ Tab a m W art wr (.slice none 0 0) p.T0 p.un p.un p.flip ∧ (0 < m → w.heap.size ≤ a.bb) := by
 obtain ⟨ar, ab, au, af, apt, ak⟩ := h.apart
 rcases Nat.eq_zero_or_pos m with hm | hm
 ·obtain ⟨A1, c1, e1⟩ := h.orr.shape
  obtain ⟨A2, c2, e2⟩ := h.ob.shape
  obtain ⟨A3, c3, e3⟩ := h.ou.shape
  obtain ⟨A4, c4, e4⟩ := h.of'.shape
  refine ⟨⟨tb, A1, 0, c1, rw, A2, 0, c2, A3, 0, c3, A4, 0, c4⟩, rfl, rfl, ⟨?_, fun h' => by omega, ⟨by omega, by omega, by omega, by omega⟩, fun i hi => by omega, fun i hi => by omega, fun i hi => by omega, fun i hi => by omega, fun i hi => by omega, fun i hi => by omega, fun i hi => by omega, fun h' => by omega, fun i hi => by omega⟩, fun h' => by omega⟩
  have := h.tbx
  rw [e1, e2, e3, e4] at this
  exact this
 ·obtain ⟨g1, c1, e1, o1, b1, k1, -, -, fz1, q1⟩ := h.orr.cells hm
  obtain ⟨g2, c2, e2, o2, b2, k2, -, -, fz2, q2⟩ := h.ob.cells hm
  obtain ⟨g3, c3, e3, o3, b3, k3, -, -, fz3, q3⟩ := h.ou.cells hm
  obtain ⟨g4, c4, e4, o4, b4, k4, -, -, fz4, q4⟩ := h.of'.cells hm
  obtain ⟨r1, r2, r3, r4, r5, r6⟩ := ar g1 o1
  obtain ⟨s1, s2, s3, s4⟩ := ab g2 o2
  obtain ⟨t1, t2, t3, t4⟩ := au g3 o3
  obtain ⟨u1, u2, u3⟩ := af g4 o4
  refine ⟨⟨tb, some ⟨g1, 0, none⟩, g1, c1, rw, some ⟨g2, 0, none⟩, g2, c2, some ⟨g3, 0, none⟩, g3, c3, some ⟨g4, 0, none⟩, g4, c4⟩, rfl, rfl, ⟨?_, fun _ => ⟨rfl, rfl, rfl, rfl⟩, ⟨k1, k2, k3, k4⟩, fun i hi => q1 i _ (by simp [rwL, hi]), fun i hi => (h.row i hi).1, fun i hi => q2 i _ (by simp [inL, hi]), fun i hi => fz2 i, fun i hi => q3 i _ (by simp [inL, hi]), fun i hi => q4 i _ (by simp [boL, hi]), fun i hi k hk e => h.inj i hi k hk e, fun _ => ⟨r2.symm, s2.symm, t2.symm, u2.symm, r3 _ o2, fun e => ?_, fun e => s3 _ o4 e.symm⟩, fun i hi => ⟨(ak i hi).2, r6 i hi, s4 i hi, t4 i hi, u3 i hi⟩⟩, fun _ => b2⟩
  ·have := h.tbx
   rw [e1, e2, e3, e4] at this
   exact this
  ·have e' : g2 = g3 := e
   subst e'
   exact h.bu _ o2 o3
theorem boxR {w w' : World} {rb base k n : Nat} {E E' : TypeId} {cs : Array Value} {v : Value} {xs : List Value} (B : Box w rb E cs) (o : OwnX w base E' k v n xs) (f : Fr (fun g => v.ownBlock = some g) w w') (hE : E' ≠ E) : Box w' rb E cs :=
 f.box B (fun e => by obtain ⟨-, -, cur, hc⟩ := o.lt e; exact qb8 hc B hE rfl)
structure IRow where
 coef : List Int
 rel : Nat
 right : Int
structure IP where
 obj : List Int
 rows : List IRow
 den : Nat
def IRow.ok (r : IRow) : Prop := (∀ z ∈ r.coef, in32 z) ∧ in32 r.right ∧ r.rel ≤ 255 ∧ r.coef.length ≤ 1048576
def IP.ok (p : IP) : Prop := (∀ z ∈ p.obj, in32 z) ∧ p.obj.length ≤ 1048576 ∧ p.rows.length ≤ 1048576 ∧ p.den ≤ 255 ∧ ∀ r ∈ p.rows, r.ok
def IRow.rl (d : Nat) (r : IRow) : RL := ⟨r.coef.map (qn · d), r.rel, qn r.right d⟩
def IP.pl (p : IP) : PL := ⟨p.obj.map (qn · p.den), p.rows.map (IRow.rl p.den)⟩
def q4l (w : World) (b off : Nat) (r : IRow) : Prop :=
 ∃ A c, w.cell? ⟨b, off, none⟩ = some (.slice A r.coef.length c) ∧ w.cell? ⟨b, off + 1, none⟩ = some (.int .u8 (r.rel : Int)) ∧ w.cell? ⟨b, off + 2, none⟩ = some (.int .i32 r.right) ∧ Row w (.slice A r.coef.length c) (wV r.coef)
def IPV (w : World) (v : Value) (p : IP) : Prop :=
 ∃ Ao co Ar cr, v = .agg #[.slice Ao p.obj.length co, .slice Ar p.rows.length cr, .int .u8 (p.den : Int)] ∧ Row w (.slice Ao p.obj.length co) (wV p.obj) ∧ p.rows.length ≤ cr ∧ cr ≤ 9223372036854775807 ∧
  (0 < p.rows.length → ∃ b off, Ar = some ⟨b, off, none⟩ ∧ ∀ j r, p.rows[j]? = some r → q4l w b (off + j * 3) r)
theorem q4l.ext {w w' : World} {b off : Nat} {r : IRow} (h : q4l w b off r) (k : Ext w w') : q4l w' b off r := by
 obtain ⟨A, c, h1, h2, h3, h4⟩ := h
 exact ⟨A, c, k.cell h1, k.cell h2, k.cell h3, h4.ext k⟩
theorem IPV.ext {w w' : World} {v : Value} {p : IP} (h : IPV w v p) (k : Ext w w') : IPV w' v p := by
 obtain ⟨Ao, co, Ar, cr, rfl, h1, h2, h3, h4⟩ := h
 exact ⟨Ao, co, Ar, cr, rfl, h1.ext k, h2, h3, fun hn => by obtain ⟨b, off, e, hr⟩ := h4 hn; exact ⟨b, off, e, fun j r hj => (hr j r hj).ext k⟩⟩
theorem qn_zero (d : Nat) : qn 0 d = 0 := Rat.zero_divInt _
theorem qzn (l : List Int) (d j : Nat) : (l.map (qn · d)).getD j 0 = qn (l.getD j 0) d := by
 simp only [List.getD_eq_getElem?_getD, List.getElem?_map]
 cases l[j]? with
 | none => exact (qn_zero d).symm
 | some a => rfl
theorem IP.row {p : IP} {i : Nat} {r : IRow} (h : p.rows[i]? = some r) : p.pl.rows.getD i RL.zero = r.rl p.den := by
 unfold IP.pl
 simp only [List.getD_eq_getElem?_getD, List.getElem?_map, h]; rfl
structure MA where
 Ao : Option Addr
 co : Nat
 Ar : Option Addr
 br : Nat
 cr : Nat
 rA : Nat → Option Addr
 rc : Nat → Nat
structure MRows (w : World) (base lo m : Nat) (p : Prob) (rA : Nat → Option Addr) (rc : Nat → Nat) (X : Nat → Option Value) : Prop where
 row : ∀ i, i < m → X (i * 6) = some (.slice (rA i) (p.len i) (rc i)) ∧ X (i * 6 + 1) = some (.int .u8 (p.rel i : Int)) ∧ p.rel i ≤ 255 ∧
  ∃ x B d e y B' d' e', X (i * 6 + 2) = some (.bool x) ∧ X (i * 6 + 3) = some (.slice B d e) ∧ X (i * 6 + 4) = some (.bool y) ∧ X (i * 6 + 5) = some (.slice B' d' e') ∧ RatV w (.agg #[.bool x, .slice B d e, .bool y, .slice B' d' e']) (p.right i)
 coef : ∀ i, i < m → qjq w lo (rA i) (p.len i) (rc i) (p.coef i)
 apart : ∀ i, i < m → ∀ j, j < m → i ≠ j → 0 < p.len i → 0 < p.len j → rA i ≠ rA j
theorem MRows.fr {P : Nat → Prop} {w w' : World} {base lo m : Nat} {p : Prob} {rA : Nat → Option Addr} {rc : Nat → Nat} {X : Nat → Option Value} (h : MRows w base lo m p rA rc X) (k : Fr P w w') (hP : ∀ b n f, RowR w b n f → ¬ P b) : MRows w' base lo m p rA rc X := by
 refine ⟨fun i hi => ?_, fun i hi => ?_, h.apart⟩
 ·obtain ⟨h1, h2, h3, x, B, d, e, y, B', d', e', g2, g3, g4, g5, hr⟩ := h.row i hi
  exact ⟨h1, h2, h3, x, B, d, e, y, B', d', e', g2, g3, g4, g5, k.rat hr⟩
 ·obtain ⟨h1, h2, h3⟩ := h.coef i hi
  exact ⟨h1, h2, fun hn => by obtain ⟨b, e, hr, hb⟩ := h3 hn; exact ⟨b, e, hr.fr k (hP _ _ _ hr), hb⟩⟩
theorem MRows.ext {w w' : World} {base lo m : Nat} {p : Prob} {rA : Nat → Option Addr} {rc : Nat → Nat} {X : Nat → Option Value} (h : MRows w base lo m p rA rc X) (k : Ext w w') : MRows w' base lo m p rA rc X := h.fr (P := fun _ => False) (Fr.of k) (fun _ _ _ _ => id)
theorem MRows.X {w : World} {base lo m : Nat} {p : Prob} {rA : Nat → Option Addr} {rc : Nat → Nat} {X Y : Nat → Option Value} (h : MRows w base lo m p rA rc X) (hXY : ∀ i, i < m * 6 → ∀ u, X i = some u → Y i = some u) : MRows w base lo m p rA rc Y := by
 refine ⟨fun i hi => ?_, h.coef, h.apart⟩
 obtain ⟨h1, h2, h3, x, B, d, e, y, B', d', e', g2, g3, g4, g5, hr⟩ := h.row i hi
 exact ⟨hXY _ (by omega) _ h1, hXY _ (by omega) _ h2, h3, x, B, d, e, y, B', d', e', hXY _ (by omega) _ g2, hXY _ (by omega) _ g3, hXY _ (by omega) _ g4, hXY _ (by omega) _ g5, hr⟩
def OwnM (w : World) (base lo : Nat) (v : Value) (m : Nat) (p : Prob) (rA : Nat → Option Addr) (rc : Nat → Nat) : Prop := ∃ xs, OwnX w base 75 6 v m xs ∧ MRows w base lo m p rA rc (fun i => xs[i]?)
theorem OwnM.nil (w : World) (base lo : Nat) (p : Prob) (rA : Nat → Option Addr) (rc : Nat → Nat) : OwnM w base lo (.slice none 0 0) 0 p rA rc :=
 ⟨[], OwnX.nil _ _ _ _, fun i hi => absurd hi (by omega), fun i hi => absurd hi (by omega), fun i hi => absurd hi (by omega)⟩
theorem OwnM.ext {w w' : World} {base lo m : Nat} {v : Value} {p : Prob} {rA : Nat → Option Addr} {rc : Nat → Nat} (h : OwnM w base lo v m p rA rc) (x : Ext w w') : OwnM w' base lo v m p rA rc := by
 obtain ⟨xs, h1, h2⟩ := h
 exact ⟨xs, h1.ext x, h2.ext x⟩
theorem MRows.push {w w' : World} {base lo m : Nat} {v : Value} {p : Prob} {rA : Nat → Option Addr} {rc : Nat → Nat} {xs : List Value} (o : OwnX w base 75 6 v m xs) (h : MRows w base lo m p rA rc (fun i => xs[i]?)) (k : Fr (fun g => v.ownBlock = some g) w w')
 {A : Option Addr} {c : Nat} {x y : Bool} {B B' : Option Addr} {d e d' e' : Nat} (hr : p.rel m ≤ 255) (hq : RatV w (.agg #[.bool x, .slice B d e, .bool y, .slice B' d' e']) (p.right m)) (hc : qjq w lo A (p.len m) c (p.coef m))
 (hne : ∀ i, i < m → 0 < p.len i → 0 < p.len m → rA i ≠ A) :
 MRows w' base lo (m + 1) p (fun i => if i = m then A else rA i) (fun i => if i = m then c else rc i) (fun i => (xs ++ [.slice A (p.len m) c, .int .u8 (p.rel m : Int), .bool x, .slice B d e, .bool y, .slice B' d' e'])[i]?) := by
 have hl : xs.length = m * 6 := o.1
 have hP : ∀ b n f, RowR w b n f → ¬ v.ownBlock = some b := fun b n f hb e => by
  obtain ⟨-, -, cur, hcur⟩ := o.lt e
  obtain ⟨cs, hcs⟩ := hb.cells
  exact qb8 hcur hcs (by decide) rfl
 refine ⟨fun i hi => ?_, fun i hi => ?_, fun i hi j hj hij hi0 hj0 => ?_⟩
 ·by_cases him : i = m
  ·subst him
   have key : ∀ t, (xs ++ [Value.slice A (p.len i) c, .int .u8 (p.rel i : Int), .bool x, .slice B d e, .bool y, .slice B' d' e'])[i * 6 + t]? = [Value.slice A (p.len i) c, .int .u8 (p.rel i : Int), .bool x, .slice B d e, .bool y, .slice B' d' e'][t]? := fun t => by
    rw [List.getElem?_append_right (by omega), hl]
    congr 1; omega
   simp only [if_true]
   exact ⟨key 0, key 1, hr, x, B, d, e, y, B', d', _, key 2, key 3, key 4, key 5, k.rat hq⟩
  ·obtain ⟨h1, h2, h3, x1, B1, d1, e1, y1, B1', d1', e1', g2, g3, g4, g5, hr1⟩ := h.row i (by omega)
   have key : ∀ t, t < 6 → (xs ++ [Value.slice A (p.len m) c, .int .u8 (p.rel m : Int), .bool x, .slice B d e, .bool y, .slice B' d' e'])[i * 6 + t]? = xs[i * 6 + t]? := fun t ht => List.getElem?_append_left (by omega)
   simp only [if_neg him]
   exact ⟨(key 0 (by omega)).trans h1, (key 1 (by omega)).trans h2, h3, x1, B1, d1, e1, y1, B1', d1', e1', (key 2 (by omega)).trans g2, (key 3 (by omega)).trans g3, (key 4 (by omega)).trans g4, (key 5 (by omega)).trans g5, k.rat hr1⟩
 ·have up : ∀ {A n c f}, qjq w lo A n c f → qjq w' lo A n c f := fun {A n c f} h => ⟨h.1, h.2.1, fun hn => by obtain ⟨b, e, hr, hb⟩ := h.2.2 hn; exact ⟨b, e, hr.fr k (hP _ _ _ hr), hb⟩⟩
  by_cases e' : i = m
  ·subst e'
   simp only [if_true]
   exact up hc
  ·simp only [if_neg e']
   exact up (h.coef i (by omega))
 ·by_cases e1 : i = m
  ·rw [if_pos e1, if_neg (by omega)]
   intro e2
   subst e1
   exact hne j (by omega) hj0 hi0 e2.symm
  ·rw [if_neg e1]
   by_cases e2 : j = m
   ·subst e2; rw [if_pos rfl]; exact hne i (by omega) hi0 hj0
   ·rw [if_neg e2]; exact h.apart i (by omega) j (by omega) hij hi0 hj0
structure MkV (w : World) (base : Nat) (v : Value) (p : Prob) (a : MA) : Prop where
 val : v = .agg #[.slice a.Ao p.n a.co, .slice a.Ar p.m a.cr]
 obj : qjq w base a.Ao p.n a.co p.obj
 cap : p.m ≤ a.cr ∧ a.cr ≤ 9223372036854775807
 blk : 0 < p.m → a.Ar = some ⟨a.br, 0, none⟩ ∧ base ≤ a.br ∧ ∃ cs, w.heap[a.br]? = some (.cells cs 75 (0, 0)) ∧ p.m * 6 ≤ cs.size
 rows : MRows w base base p.m p a.rA a.rc (fun i => w.cell? ⟨a.br, i, none⟩)
 apart : ∀ i, i < p.m → 0 < p.len i → 0 < p.n → a.rA i ≠ a.Ao
theorem MkV.prob {w : World} {base : Nat} {v : Value} {p : Prob} {a : MA} (h : MkV w base v p a) : qga w v p := by
 refine ⟨a.Ao, a.co, a.Ar, a.cr, h.val, h.obj.rats, h.cap.1, h.cap.2, fun hm => ⟨a.br, (h.blk hm).1, fun i hi => ?_⟩⟩
 obtain ⟨h1, h2, h3, x, B, d, e, y, B', d', e', g2, g3, g4, g5, hr⟩ := h.rows.row i hi
 exact ⟨a.rA i, a.rc i, x, B, d, e, y, B', d', e', h1, h2, g2, g3, g4, g5, (h.rows.coef i hi).rats, h3, hr⟩
theorem qqi : (Tryz.prog.info? 75).map (fun i => (i.zero, i.size, i.bytes)) = some (some (.agg #[.slice none 0 0, .int .u8 0, .bool false, .slice none 0 0, .bool false, .slice none 0 0]), 6, 96) := by kernel_rfl
theorem zRow : ∀ u ∈ (Value.agg #[.slice none 0 0, .int .u8 0, .bool false, .slice none 0 0, .bool false, .slice none 0 0]).cells.toList, noU u = true := fun u hu => by
 have : u = .bool false ∨ u = .slice none 0 0 ∨ u = .int .u8 0 := by
  simp [Value.cells] at hu
  rcases hu with h | h | h | h | h | h <;> simp [h]
 rcases this with rfl | rfl | rfl <;> rfl
theorem new6 (w : World) (E : TypeId) (a b c d e f : Value) : ∀ j y, [a, b, c, d, e, f][j]? = some y → (w.alloc (.cells #[a, b, c, d, e, f] E)).cell? ⟨w.heap.size, j, none⟩ = some y := by
 intro j y hj
 rw [(Box.new w E #[a, b, c, d, e, f]).cell j, ← hj]
 exact List.getElem?_toArray
theorem one6 {p p' : Bool} {A0 A A' : Option Addr} {n0 c0 m c m' c' : Nat} {r : Int} : ∀ y ∈ [Value.slice A0 n0 c0, .int .u8 r, .bool p, .slice A m c, .bool p', .slice A' m' c'], y.oneCell' = true := fun y hy => by
 simp at hy
 rcases hy with rfl | rfl | rfl | rfl | rfl | rfl <;> rfl
theorem nou6 {p p' : Bool} {A0 A A' : Option Addr} {n0 c0 m c m' c' : Nat} {r : Int} : ∀ y ∈ [Value.slice A0 n0 c0, .int .u8 r, .bool p, .slice A m c, .bool p', .slice A' m' c'], noU y = true := fun y hy => by
 simp at hy
 rcases hy with rfl | rfl | rfl | rfl | rfl | rfl <;> rfl
theorem tky {P : Program} {ops : Array Oper} {Q : Exit → Act → World → Prop} {md : Region.Mode} {S : World → Prop} {i : Nat} {oi : Oper} {v : Value} {fuel : Nat} {listed : Array Bool} {a : Act} {w : World} (hi : ops[i]? = some oi) (hr : ∀ w, S w → (execOp a.eval oi).run P w = .ok (.value v) w) (hS : S w) (h : wpAnyH P md ops Q S fuel (listed.setIfInBounds i true) (a.put oi.dst v) w) (hs : Region.noSelect ops = true := by kernel_rfl) (hf : Region.free md ops listed i = true := by decide +kernel) (hc : (Region.ready md ops listed).contains i = true := by decide +kernel) (hQ : ∀ c a w, Q (.panic c) (a.put oi.dst v) w → Q (.panic c) a w := by exact fun _ _ _ h => h) (hw : Region.wanted oi (yielded ops a.tmps) = true := by rfl) : wpAnyH P md ops Q S (fuel + 1) listed a w := wpAnyH_take hi hs hf hc hQ (Or.inl ⟨hw, hr⟩) hS h
end Go.Proofs.YtljncdcjkdgkeaaGreatDoor.Lp

/- Walk: the rational numbers' Text. What every card of the laws of certificate needs: the table of powers, a world for the witness, the problem among the arguments opened, the closing of a  -/
import Derived.Test.YtljncdcjkdgkeaaGreatDoorYW17
import Derived.Test.YtljncdcjkdgkeaaGreatDoorYT4
import Derived.WalkKit
import Derived.ProofKit
import Derived.OpenShut
import Derived.Deep.DeepHandedRow
import Derived.Lib.LaidTab
import Derived.LaidSub
import Derived.Deep.Slices
import Derived.Deep.Fields
import Derived.ChangeSame
import Derived.ChangeSlices
import Derived.Carry
import Derived.WideKeyArgs
import Derived.Lib.SmallJoins
import Derived.Test.YtljncdcjkdgkeaaGreatDoorRows
import Derived.Test.YtljncdcjkdgkeaaGreatDoorYLN2
set_option linter.unusedVariables false
set_option linter.unusedSimpArgs false
namespace Go.Proofs.YtljncdcjkdgkeaaGreatDoor.Rt
open Go.RowKit Go.Proofs.YtljncdcjkdgkeaaGreatDoor.Big
open Go.Lib (itoa)
theorem cmpZ_zero {x y : Int} : cmpZ x y = 0 ↔ x = y := by
 unfold cmpZ
 split
 ·exact ⟨fun h => by omega, fun h => by omega⟩
 ·split
  ·exact ⟨fun h => by omega, fun h => by omega⟩
  ·exact ⟨fun h => by omega, fun h => by omega⟩
theorem cat_slash (a b : List UInt8) : ((⟨a.toArray⟩ : ByteArray) ++ ⟨#[47]⟩) ++ ⟨b.toArray⟩ = ⟨(a ++ 47 :: b).toArray⟩ := by
 apply ByteArray.ext
 simp
theorem pw_ten (k : Nat) : pw k ≤ 10 ^ (10 * k) := by
 unfold pw
 rw [Nat.pow_mul]
 exact Nat.pow_le_pow_left (by decide) k
theorem dec_len {u k : Nat} (hk : 0 < k) (h : u < pw k) : (Lib.decDigits u).length ≤ 10 * k := by
 rw [Lib.decDigits_length]
 exact qtn (by omega) (Nat.lt_of_lt_of_le h (pw_ten k))
theorem qbl {z : Int} {k : Nat} (hk : 0 < k) (b : B k z) : (itoa z).length ≤ 10 * k + 1 := by
 unfold B at b
 rcases Int.lt_or_le z 0 with h | h
 ·obtain ⟨u, rfl⟩ : ∃ u : Nat, z = -(u : Int) := ⟨z.natAbs, by omega⟩
  rw [Lib.itoa_neg u (by omega), List.length_cons]
  have := dec_len (u := u) hk (by omega)
  omega
 ·obtain ⟨u, rfl⟩ : ∃ u : Nat, z = (u : Int) := ⟨z.natAbs, by omega⟩
  rw [Lib.itoa_nonneg u]
  have := dec_len (u := u) hk (by omega)
  omega
theorem qn7 {z : Int} {k : Nat} (hk : 0 < k) (b : B k z) : (⟨(itoa z).toArray⟩ : ByteArray).size ≤ 10 * k + 1 := by
 have := qbl hk b
 simpa [ByteArray.size] using this
set_option maxRecDepth 100000 in
set_option maxHeartbeats 8000000 in
theorem RatText_b (x : Value) (q : Rat) (k : Nat) (w : World) (hx : RatB w x q k) (hL : k ≤ 549755813888) (htab : TabOK w) : Calls Tryz.prog 37 #[x] w (qte w (q6j q)) := by
 obtain ⟨p1, A1, n1, c1, p1', A1', n1', c1', rfl⟩ := hx.1.shape
 obtain ⟨D, hD⟩ : ∃ D : Int, D = (q.den : Int) := ⟨_, rfl⟩
 obtain ⟨V, hV⟩ : ∃ V, V = q6j q := ⟨_, rfl⟩
 rw [← hV]
 have HV := Lib.hid hV
 have HD := Lib.hid hD
 clear hV hD
 have hE0 : Ext w (w.alloc (.cells #[.bool p1, .slice A1 n1 c1, .bool p1', .slice A1' n1' c1'] 58)) := (Ext.refl w).alloc _
 have B0 := Box.new w 58 #[.bool p1, .slice A1 n1 c1, .bool p1', .slice A1' n1' c1']
 have hX := hx.ext hE0
 have hXn := hX.numB
 have hQ := hX.2
 have hTab := htab.ext hE0
 go_enter Tryz.func37, Tryz.ntmps37
 go_wp2_with fail
 clear hx htab
 refine (q07 _ _ _ _ hX).mono ?_
 rintro e w1 ⟨v1, rfl, hb1, hx1⟩
 rw [← HD.out] at hb1
 obtain ⟨p2, A2, n2, c2, rfl⟩ := hb1.1.shape
 go_upto_region 2 with fail
 have hx2 : Ext w1 (w1.alloc (.cells #[.bool p2, .slice A2 n2 c2] 56)) := (Ext.refl w1).alloc _
 have B1 := Box.new w1 56 #[.bool p2, .slice A2 n2 c2]
 have hD1 := hb1.ext hx2
 have hXn := (hXn.ext hx1).ext hx2
 have hTab := (hTab.ext hx1).ext hx2
 have hE := (hE0.trans hx1).trans hx2
 have B0 := (B0.ext hx1).ext hx2
 generalize (w1.alloc (.cells #[.bool p2, .slice A2 n2 c2] 56)) = W at *
 clear hx1 hx2 hE0 hX hb1
 have k00 : ∀ w', Later W w' → w'.cell? ⟨_, 0, none⟩ = some _ := fun w' h => (B0.ext h).c0
 have k01 : ∀ w', Later W w' → w'.cell? ⟨_, 1, none⟩ = some _ := fun w' h => (B0.ext h).c1
 have k02 : ∀ w', Later W w' → w'.cell? ⟨_, 2, none⟩ = some _ := fun w' h => (B0.ext h).c2
 have k03 : ∀ w', Later W w' → w'.cell? ⟨_, 3, none⟩ = some _ := fun w' h => (B0.ext h).c3
 have k10 : ∀ w', Later W w' → w'.cell? ⟨w1.heap.size, 0, none⟩ = some (.bool p2) := fun w' h => (B1.ext h).c0
 have k11 : ∀ w', Later W w' → w'.cell? ⟨w1.heap.size, 1, none⟩ = some (.slice A2 n2 c2) := fun w' h => (B1.ext h).c1
 have hS0 := Later.refl W
 by_cases h1 : D = 1
 ·have e1 : (cmpZ D 1 == 0) = true := by rw [cmpZ_zero.2 h1]; rfl
  have HR := Lib.hid (show V = itoa q.num by rw [HV.out]; unfold q6j; rw [if_pos (by have := HD.out; omega)])
  clear h1
  go_region_held3 (fun w' => Later W w') ((repeat (first | assumption | apply Later.drew | apply Later.drewN | apply Later.alloc | (refine Later.step ?_ (by assumption))))) (first
   | (go_at_call 90; (with_reducible refine (Gcd_b _ _ _ _ _ _ _ (BigB.ext (by assumption) eAx) (BigB.ext (by assumption) eAx) (by first | omega | decide)).mono ?_); rintro e wk ⟨vk, rfl, hbk, hxk⟩; (obtain ⟨pk, Ak, nk, ck, rfl⟩ := hbk.1.shape))
   | (go_at_call 46; (with_reducible refine (Of_b _ _ (by first | assumption | decide) (by first | assumption | decide)).mono ?_); rintro e wk ⟨vk, rfl, hbk, hxk⟩; (obtain ⟨pk, Ak, nk, ck, rfl⟩ := hbk.1.shape))
   | (go_at_call 44; (with_reducible refine (q07 _ _ _ _ (RatB.ext (by assumption) eAx)).mono ?_); rintro e wk ⟨vk, rfl, hbk, hxk⟩; (obtain ⟨pk, Ak, nk, ck, rfl⟩ := hbk.1.shape))
   | (go_at_call 63; (with_reducible refine (q44 _ _ _ _ _ _ _ (BigB.ext (by assumption) eAx) (BigB.ext (by assumption) eAx) (by omega)).mono ?_); rintro e wk ⟨vk, rfl, hbk, hxk⟩; (obtain ⟨pk, Ak, nk, ck, rfl⟩ := hbk.1.shape))
   | (go_at_call 80; (with_reducible refine (qgk _ _ _ _ _ _ _ (BigB.ext (by assumption) eAx) (BigB.ext (by assumption) eAx) (by omega)).mono ?_); rintro e wk ⟨vk, rfl, hbk, hxk⟩; (obtain ⟨pk, Ak, nk, ck, rfl⟩ := hbk.1.shape))
   | (go_at_call 45; (with_reducible refine (qc9 _ _ _ _ _ _ _ (BigB.ext (by assumption) eAx) (BigB.ext (by assumption) eAx)).mono ?_); rintro e wk ⟨rfl, hxk⟩)
   | (go_at_call 89; (with_reducible refine (qyu _ _ _ _ (BigB.ext (by assumption) eAx)).mono ?_); rintro e wk ⟨vk, rfl, hbk, hxk⟩; (obtain ⟨pk, Ak, nk, ck, rfl⟩ := hbk.1.shape))
   )
  all_goals go_upto_region 3 with fail
  all_goals go_wp2_with fail
  all_goals (
   refine (Text_b _ _ _ _ (BigB.ext hXn eAx) (by omega) (TabOK.ext hTab eAx)).mono ?_
   rintro e w9 ⟨rfl, hx9⟩
   have hS9 := Later.step (by assumption) hx9
   rw [← HR.out]
   go_wp2_with fail
   go_ret
   exact ⟨rfl, hE.trans (show Later W _ from hS9)⟩)
 ·have e1 : (cmpZ D 1 == 0) = false := by
   have := mt cmpZ_zero.1 h1
   simpa using this
  have HR := Lib.hid (show V = itoa q.num ++ 47 :: itoa D by rw [HV.out]; unfold q6j; rw [if_neg (by have := HD.out; omega), HD.out])
  have z1 := qn7 (qnv hQ) hXn.2
  have z2 := qn7 (qnv hQ) hD1.2
  obtain ⟨SN, hSN⟩ : ∃ S : ByteArray, S = ⟨(itoa q.num).toArray⟩ := ⟨_, rfl⟩
  obtain ⟨SD, hSD⟩ : ∃ S : ByteArray, S = ⟨(itoa D).toArray⟩ := ⟨_, rfl⟩
  rw [← hSN] at z1
  rw [← hSD] at z2
  have HS : Hid ((⟨V.toArray⟩ : ByteArray) = (SN ++ ⟨#[47]⟩) ++ SD) := Lib.hid (by rw [HR.out, hSN, hSD, cat_slash])
  have HTN : Hid (∀ w', Later W w' → Calls Tryz.prog 70 #[.agg #[.bool p1, .slice A1 n1 c1]] w' (fun e w'' => e = .returned (.string SN) ∧ Ext w' w'')) := Lib.hid (fun w' h => by rw [hSN]; exact Text_b _ _ _ _ (hXn.ext h) (by omega) (hTab.ext h))
  have HTD : Hid (∀ w', Later W w' → Calls Tryz.prog 70 #[.agg #[.bool p2, .slice A2 n2 c2]] w' (fun e w'' => e = .returned (.string SD) ∧ Ext w' w'')) := Lib.hid (fun w' h => by rw [hSD]; exact Text_b _ _ _ _ (hD1.ext h) (by omega) (hTab.ext h))
  have c1 : ¬ 9223372036854775807 < SN.size + 1 := by omega
  have c2 : ¬ 9223372036854775807 < SN.size + 1 + SD.size := by omega
  clear h1 hSN hSD
  go_region_held3 (fun w' => Later W w') ((repeat (first | assumption | apply Later.drew | apply Later.drewN | apply Later.alloc | (refine Later.step ?_ (by assumption))))) (first
   | (go_at_call 90; (with_reducible refine (Gcd_b _ _ _ _ _ _ _ (BigB.ext (by assumption) eAx) (BigB.ext (by assumption) eAx) (by first | omega | decide)).mono ?_); rintro e wk ⟨vk, rfl, hbk, hxk⟩; (obtain ⟨pk, Ak, nk, ck, rfl⟩ := hbk.1.shape))
   | (go_at_call 46; (with_reducible refine (Of_b _ _ (by first | assumption | decide) (by first | assumption | decide)).mono ?_); rintro e wk ⟨vk, rfl, hbk, hxk⟩; (obtain ⟨pk, Ak, nk, ck, rfl⟩ := hbk.1.shape))
   | (go_at_call 44; (with_reducible refine (q07 _ _ _ _ (RatB.ext (by assumption) eAx)).mono ?_); rintro e wk ⟨vk, rfl, hbk, hxk⟩; (obtain ⟨pk, Ak, nk, ck, rfl⟩ := hbk.1.shape))
   | (go_at_call 63; (with_reducible refine (q44 _ _ _ _ _ _ _ (BigB.ext (by assumption) eAx) (BigB.ext (by assumption) eAx) (by omega)).mono ?_); rintro e wk ⟨vk, rfl, hbk, hxk⟩; (obtain ⟨pk, Ak, nk, ck, rfl⟩ := hbk.1.shape))
   | (go_at_call 80; (with_reducible refine (qgk _ _ _ _ _ _ _ (BigB.ext (by assumption) eAx) (BigB.ext (by assumption) eAx) (by omega)).mono ?_); rintro e wk ⟨vk, rfl, hbk, hxk⟩; (obtain ⟨pk, Ak, nk, ck, rfl⟩ := hbk.1.shape))
   | (go_at_call 45; (with_reducible refine (qc9 _ _ _ _ _ _ _ (BigB.ext (by assumption) eAx) (BigB.ext (by assumption) eAx)).mono ?_); rintro e wk ⟨rfl, hxk⟩)
   | (go_at_call 89; (with_reducible refine (qyu _ _ _ _ (BigB.ext (by assumption) eAx)).mono ?_); rintro e wk ⟨vk, rfl, hbk, hxk⟩; (obtain ⟨pk, Ak, nk, ck, rfl⟩ := hbk.1.shape))
   )
  all_goals go_upto_region 4 with fail
  go_region_held3 (fun w' => Later W w') ((repeat (first | assumption | apply Later.drew | apply Later.drewN | apply Later.alloc | (refine Later.step ?_ (by assumption))))) (first
   | (go_at_call 70; (with_reducible refine (HTN.out _ (by assumption)).mono ?_); rintro e wk ⟨rfl, hxk⟩)
   | (go_at_call 70; (with_reducible refine (HTD.out _ (by assumption)).mono ?_); rintro e wk ⟨rfl, hxk⟩)
   )
  all_goals go_wp2_with fail
  all_goals go_ret
  all_goals exact ⟨by rw [HS.out]; rfl, hE.trans (show Later W _ by assumption)⟩
end Go.Proofs.YtljncdcjkdgkeaaGreatDoor.Rt
namespace Go.Proofs.YtljncdcjkdgkeaaGreatDoor.Big
open Go.ChangeShapes Go.WideShapes Go.ChangeAt Go.RowKit
theorem own : ownKnob Tryz.prog.godebug = none := by kernel_rfl
theorem gPow : Tryz.prog.globalNamed "internal/strconv.uint64pow10" = some 0 := by kernel_rfl
theorem gPowType : (Tryz.prog.globals[(0 : Nat)]?).map (·.type) = some 208 := by kernel_rfl
theorem cellsPow : Tryz.prog.cellsOf 208 = 20 := by kernel_rfl
theorem cellsU64 : Tryz.prog.cellsOf 145 = 1 := by kernel_rfl
section
variable {H : Type} {enc : TypeId × Value → H} {P : Program}
end
theorem Lit.wf_int_iff' (k : IntKind) (n : Int) : (Lit.int k n).wf = true ↔ k.min ≤ n ∧ n ≤ k.max := by simp [Lit.wf]
theorem wf32 {n : Int} (h : (Lit.int .i32 n).wf = true) : -2147483648 ≤ n ∧ n ≤ 2147483647 := (Lit.wf_int_iff' .i32 n).1 h
theorem wf8 {n : Int} (h : (Lit.int .u8 n).wf = true) : 0 ≤ n ∧ n ≤ 255 := (Lit.wf_int_iff' .u8 n).1 h
def qnw : DataW Unit → Array Value
 | .agg xs => (xs.map fun
  | .lit (.int k n) => Value.int k n
  | _ => .nilIface).toArray
 | _ => #[]
def lay (cs : Array Value) : Obj → Obj
 | .cells _ t frozen => .cells cs t frozen
 | o => o
noncomputable def laidWorld (os : Os) : World :=
 { World.holding Tryz.prog os ⟨#[], #[], []⟩ with heap := (((World.holding Tryz.prog os ⟨#[], #[], []⟩).heap.modify 4 (lay (qnw Rows.laid_math_bits_deBruijn32tab))).modify 5 (lay (qnw Rows.laid_math_bits_deBruijn64tab))).modify 0 (lay (qnw Rows.laid_internal_strconv_uint64pow10)) }
open Go.ChangeShapes Go.WideShapes Go.ChangeAt Go.RowKit Go.Deep Go.Proofs.YtljncdcjkdgkeaaGreatDoor.Lp
theorem qke : Tryz.prog.cellsOf 104 = 3 := by kernel_rfl
theorem sliCells : Tryz.prog.cellsOf 34 = 1 := by kernel_rfl
theorem u8Cells : Tryz.prog.cellsOf 5 = 1 := by kernel_rfl
theorem i32Cells : Tryz.prog.cellsOf 21 = 1 := by kernel_rfl
theorem proCells : Tryz.prog.cellsOf 37 = 3 := by kernel_rfl
theorem bulk_one {H : Type} (d : DataW H) : 1 ≤ Rows.uptoBulk d := by
 cases d with
 | lit l => cases l <;> simp [Rows.uptoBulk]
 | nil => simp [Rows.uptoBulk]
 | ptr d => simp [Rows.uptoBulk]
 | slice elems spare => simp [Rows.uptoBulk]
 | agg parts => simp [Rows.uptoBulk]
 | iface t d => simp [Rows.uptoBulk]
 | map entries => simp [Rows.uptoBulk]
 | held h => simp [Rows.uptoBulk]
theorem bulk_part {H : Type} {d : DataW H} {l : List (DataW H)} (h : d ∈ l) : Rows.uptoBulk d ≤ Rows.uptoBulkAll l := by
 induction l with
 | nil => cases h
 | cons x r ih =>
   simp only [Rows.uptoBulkAll]
   cases List.mem_cons.1 h with
   | inl e => subst e; omega
   | inr e => have := ih e; omega
theorem qsj {H : Type} (l : List (DataW H)) : l.length ≤ Rows.uptoBulkAll l := by
 induction l with
 | nil => simp [Rows.uptoBulkAll]
 | cons x r ih => have := bulk_one x; simp only [Rows.uptoBulkAll, List.length_cons]; omega
theorem qr3 {H : Type} (elems spare : List (DataW H)) : Rows.uptoBulkAll elems + Rows.uptoBulkAll spare + 1 = Rows.uptoBulk (.slice elems spare) := by simp [Rows.uptoBulk]
theorem qm8 {H : Type} (parts : List (DataW H)) : Rows.uptoBulkAll parts + 1 = Rows.uptoBulk (.agg parts) := by simp [Rows.uptoBulk]
section
variable {H : Type} {enc : TypeId × Value → H} {W : World} {base : Nat} {r : Reach} {b0 : Nat}
set_option maxRecDepth 100000 in
theorem qxk {sp : Nat → Bool} {fuel : Nat} {v : Value} {y : DataW H × List MemPlace} (h : DataW.trod enc Tryz.prog W base sp true fuel 34 [v] = some y) :
 ∃ A n c xs, v = .slice A n c ∧ Lp.Row W (.slice A n c) (wV xs) ∧ (∀ z ∈ xs, in32 z) ∧ xs.length ≤ Rows.uptoBulk y.1 := by
 rcases open_ints Tryz.underlying34 Tryz.underlying21 (by kernel_rfl) h with ⟨h1, _⟩ | ⟨a, len, cap, zs, h1, _, h2, h3, h4, h5, h6, h7⟩
 ·injection h1 with h1
  exact ⟨none, 0, 0, [], h1, Row.nil W none 0 (by omega), (fun z hz => by cases hz), by simp⟩
 ·injection h1 with h1
  subst h1
  have hzl : len ≤ zs.length := by rw [h4]; split <;> omega
  refine ⟨some a, len, cap, zs.take len, rfl, ?_, ?_, ?_⟩
  ·refine ⟨some a, cap, by rw [qys, List.length_take, Nat.min_eq_left hzl], by rw [qys, List.length_take]; omega, by unfold maxLen at h3; exact h3, fun hn => ?_⟩
   rw [qys, List.length_take] at hn
   obtain ⟨b, off, spot⟩ := a
   have hspot : spot = none := by simpa [Addr.add] using World.cell?_spot (h6 0 (by omega))
   subst hspot
   refine ⟨b, off, rfl, fun j u hj => ?_⟩
   have hjl : j < (wV (zs.take len)).length := (List.getElem?_eq_some_iff.1 hj).1
   rw [qys, List.length_take] at hjl
   have hc := h6 j (by omega)
   rw [show (⟨b, off, none⟩ : Addr).add j = ⟨b, off + j, none⟩ by simp [Addr.add]] at hc
   rw [hc]
   have h8 : (zs.take len)[j]? = some (zs.getD j 0) := by
    rw [List.getElem?_take, if_pos (by omega), List.getElem?_eq_getElem (by omega)]
    simp [List.getD, show j < zs.length by omega]
   rw [wV_get h8] at hj
   exact hj
  ·intro z hz
   exact wf32 (h7 z (List.mem_of_mem_take hz))
  ·rw [h5]
   have h8 := qr3 (lits .i32 (zs.take len) : List (DataW H)) (lits .i32 (zs.drop len))
   have h9 := qsj (lits .i32 (zs.take len) : List (DataW H))
   have hl1 : (lits .i32 (zs.take len) : List (DataW H)).length = (zs.take len).length := by simp [lits]
   show (zs.take len).length ≤ Rows.uptoBulk (.slice (lits .i32 (zs.take len)) (lits .i32 (zs.drop len)))
   omega
set_option maxRecDepth 100000 in
theorem irow_of {sp : Nat → Bool} {fuel : Nat} {a : Addr} {cs : List Value} {x : DataW H × List MemPlace}
 (hc : W.cells? base a (Tryz.prog.cellsOf 104) = some cs) (h : DataW.trod enc Tryz.prog W base sp true fuel 104 cs = some x) :
 ∃ (v0 v1 v2 : Value) (y0 y1 y2 : DataW H × List MemPlace) (n : Nat), x.1 = .agg [y0.1, y1.1, y2.1] ∧ W.cell? (a.add 0) = some v0 ∧ W.cell? (a.add 1) = some v1 ∧ W.cell? (a.add 2) = some v2 ∧
  DataW.trod enc Tryz.prog W base sp true n 34 [v0] = some y0 ∧ DataW.trod enc Tryz.prog W base sp true n 5 [v1] = some y1 ∧ DataW.trod enc Tryz.prog W base sp true n 21 [v2] = some y2 := by
 obtain ⟨ys, n, _, hx, hl, hyl, hf⟩ := DataW.trod_struct Tryz.underlying104 h
 rw [qke] at hc hl
 obtain ⟨_, _, hat⟩ := World.cells?_some hc
 match cs, hl, hat, hf with
 | [v0, v1, v2], _, hat, hf =>
   match ys, hyl, hx, hf with
   | [y0, y1, y2], _, hx, hf =>
     have f0 := hf 0 _ rfl
     have f1 := hf 1 _ rfl
     have f2 := hf 2 _ rfl
     change DataW.trod enc Tryz.prog W base sp true n 34 (List.take (Tryz.prog.cellsOf 34) (List.drop 0 [v0, v1, v2])) = some y0 at f0
     change DataW.trod enc Tryz.prog W base sp true n 5 (List.take (Tryz.prog.cellsOf 5) (List.drop 1 [v0, v1, v2])) = some y1 at f1
     change DataW.trod enc Tryz.prog W base sp true n 21 (List.take (Tryz.prog.cellsOf 21) (List.drop 2 [v0, v1, v2])) = some y2 at f2
     rw [sliCells] at f0
     rw [u8Cells] at f1
     rw [i32Cells] at f2
     exact ⟨v0, v1, v2, y0, y1, y2, n, congrArg Prod.fst hx, hat (i := 0) (by omega), hat (i := 1) (by omega), hat (i := 2) (by omega), f0, f1, f2⟩
set_option maxRecDepth 100000 in
theorem irows_row {sp : Nat → Bool} {fuel : Nat} {v : Value} {y : DataW H × List MemPlace} (h : DataW.trod enc Tryz.prog W base sp true fuel 35 [v] = some y) (hb : Rows.uptoBulk y.1 ≤ 1048576) :
 ∃ (A : Option Addr) (c : Nat) (rows : List IRow), v = .slice A rows.length c ∧ rows.length ≤ c ∧ c ≤ 9223372036854775807 ∧ rows.length ≤ 1048576 ∧ (∀ x ∈ rows, IRow.ok x) ∧ (0 < rows.length → ∃ b off, A = some ⟨b, off, none⟩ ∧ ∀ j x, rows[j]? = some x → q4l W b (off + j * 3) x) := by
 rcases open_slice Tryz.underlying35 h with ⟨h1, _⟩ | ⟨a, len, cap, m, k, D, Pl, h1, _, h2, h3, h4, h5, h6⟩
 ·injection h1 with h1
  exact ⟨none, 0, [], h1, by simp, by omega, by simp, (fun x hx => by cases hx), fun h => absurd h (by simp)⟩
 ·injection h1 with h1
  subst h1
  have hm : len ≤ m := by rw [h4]; split <;> omega
  have hd : y.1 = .slice ((List.range len).map D) ((List.range (m - len)).map fun j => D (len + j)) := congrArg Prod.fst h5
  have hbs := qr3 ((List.range len).map D) ((List.range (m - len)).map fun j => D (len + j))
  rw [← hd] at hbs
  have hbl := qsj ((List.range len).map D)
  simp only [List.length_map, List.length_range] at hbl
  have each : ∀ i, ∃ x : IRow, i < len → ∃ A c, W.cell? (a.add (i * 3 + 0)) = some (.slice A x.coef.length c) ∧ W.cell? (a.add (i * 3 + 1)) = some (.int .u8 (x.rel : Int)) ∧ W.cell? (a.add (i * 3 + 2)) = some (.int .i32 x.right) ∧
   Lp.Row W (.slice A x.coef.length c) (wV x.coef) ∧ x.ok := by
   intro i
   by_cases hi : i < len
   ·obtain ⟨cs', hcs, htr⟩ := h6 i (by omega)
    obtain ⟨v0, v1, v2, y0, y1, y2, fu, hD, c0, c1, c2, t0, t1, t2⟩ := irow_of hcs htr
    rw [qke, Go.Deep.add_add] at c0 c1 c2
    have hD : D i = .agg [y0.1, y1.1, y2.1] := hD
    obtain ⟨A', n', c', xs, q0, hrow, hin, hlen⟩ := qxk t0
    obtain ⟨z1, q1, r1, wf1⟩ := DataW.trod_int Tryz.underlying5 t1
    obtain ⟨z2, q2, r2, wf2⟩ := DataW.trod_int Tryz.underlying21 t2
    injection q1 with q1
    injection q2 with q2
    subst q0 q1 q2
    have hz1 := wf8 wf1
    have hz2 := wf32 wf2
    have hmem : D i ∈ (List.range len).map D := List.mem_map.2 ⟨i, List.mem_range.2 hi, rfl⟩
    have hp := bulk_part hmem
    rw [hD] at hp
    have ha := qm8 [y0.1, y1.1, y2.1]
    have hq : Rows.uptoBulk y0.1 ≤ Rows.uptoBulkAll [y0.1, y1.1, y2.1] := bulk_part (by simp)
    obtain ⟨hn', -⟩ := hrow.inj
    rw [qys] at hn'
    subst hn'
    exact ⟨⟨xs, z1.toNat, z2⟩, fun _ => ⟨A', c', c0, by rw [show ((z1.toNat : Nat) : Int) = z1 by omega]; exact c1, c2, hrow, hin, hz2, by show z1.toNat ≤ 255; omega, by show xs.length ≤ 1048576; omega⟩⟩
   ·exact ⟨⟨[], 0, 0⟩, fun h => absurd h hi⟩
  obtain ⟨f, hf'⟩ := Classical.axiomOfChoice each
  refine ⟨some a, cap, (List.range len).map f, by simp, by simpa using h2, by unfold maxLen at h3; exact h3, by simp; omega, ?_, fun hn => ?_⟩
  ·intro x hx
   obtain ⟨i, hi, rfl⟩ := List.mem_map.1 hx
   obtain ⟨_, _, _, _, _, _, hb⟩ := hf' i (List.mem_range.1 hi)
   exact hb
  ·simp at hn
   obtain ⟨b, off, spot⟩ := a
   obtain ⟨A', c', c0, _⟩ := hf' 0 hn
   have hspot : spot = none := by simpa [Addr.add] using World.cell?_spot c0
   subst hspot
   refine ⟨b, off, rfl, fun j x hj => ?_⟩
   have hjn : j < len := by simpa using (List.getElem?_eq_some_iff.1 hj).1
   rw [List.getElem?_map, List.getElem?_range hjn] at hj
   injection hj with hj
   subst hj
   obtain ⟨A1, c1, k0, k1, k2, k3, _⟩ := hf' j hjn
   have hadd : ∀ i, (⟨b, off, none⟩ : Addr).add i = ⟨b, off + i, none⟩ := fun i => by unfold Addr.add; split <;> simp_all
   rw [hadd] at k0 k1 k2
   exact ⟨A1, c1, k0, k1, k2, k3⟩
set_option maxRecDepth 100000 in
theorem open_ip {v : Value} {d : DataW H} {p : List MemPlace} (hv : Value.okWide Tryz.prog W r b0 37 v) (h : DataW.Trod enc Tryz.prog W base (fun _ => true) true 37 v d p) (hb : Rows.uptoBulk d ≤ 1048576) :
 ∃ ip : IP, IPV W v ip ∧ ip.ok := by
 obtain ⟨v0, v1, v2, y0, y1, y2, n, rfl, rfl, rfl, t0, t1, t2⟩ := Go.Joins.open_agg3 Tryz.underlying37 (by kernel_rfl) proCells hv h
 have ha := qm8 [y0.1, y1.1, y2.1]
 have h0 : Rows.uptoBulk y0.1 ≤ Rows.uptoBulkAll [y0.1, y1.1, y2.1] := bulk_part (by simp)
 have h1 : Rows.uptoBulk y1.1 ≤ Rows.uptoBulkAll [y0.1, y1.1, y2.1] := bulk_part (by simp)
 obtain ⟨A, m, c, xs, rfl, hrow, hin, hlen⟩ := qxk t0
 obtain ⟨A', c', rows, rfl, r1, r2, r3, r4, r5⟩ := irows_row t1 (by omega)
 obtain ⟨z, q, _, wf⟩ := DataW.trod_int Tryz.underlying5 t2
 injection q with q
 subst q
 have hz := wf8 wf
 obtain ⟨hn', -⟩ := hrow.inj
 rw [qys] at hn'
 subst hn'
 refine ⟨⟨xs, rows, z.toNat⟩, ⟨A, c, A', c', ?_, hrow, r1, r2, r5⟩, hin, by show xs.length ≤ 1048576; omega, r3, by show z.toNat ≤ 255; omega, r4⟩
 show Value.agg _ = .agg #[_, _, .int .u8 ((z.toNat : Nat) : Int)]
 rw [show ((z.toNat : Nat) : Int) = z by omega]
end
section
variable {H : Type} {enc : TypeId × Value → H}
theorem laidOutP : laidOutB Tryz.prog = true := by kernel_rfl
def qax (ts : List TypeId) : Prop := ∀ t ∈ ts, Tryz.prog.readableRec t = true ∧ t < Tryz.prog.types.size
theorem qag {W W' : World} (hb : Below W.heap.size W W') {sp : Nat → Bool} : ∀ {ts : List TypeId} {vs : List Value} {ds : List (DataW H)} {ps : List MemPlace}, qax ts → (∀ x ∈ ps, x.block < W.heap.size) → (∀ x ∈ ps, sp x.block = true) →
 DataW.TrodAll enc Tryz.prog W 0 (fun _ => true) true ts vs ds ps → DataW.TrodAll enc Tryz.prog W' 0 sp true ts vs ds ps
 | [], [], [], _, _, _, _, h => h
 | t :: ts, v :: vs, d :: ds, ps, hr, hlt, hs, ⟨p, q, h1, h2, e⟩ => by
   subst e
   obtain ⟨r1, r2⟩ := hr t (by simp)
   refine ⟨p, q, ?_, qag hb (fun t ht => hr t (by simp [ht])) (fun x hx => hlt x (by simp [hx])) (fun x hx => hs x (by simp [hx])) h2, rfl⟩
   exact WideElems.Trod_stays laidOutP r1 r2 h1 (fun x hx => hb.same (hlt x (by simp [hx]))) (fun x hx => hs x (by simp [hx]))
end
set_option maxRecDepth 100000 in
theorem post_stay {H : Type} {enc : TypeId × Value → H} {f : Func} {s : ChangeSpec} {W W' : World} {args : Array Value} {v : Value} {ds gs : List (DataW H)} {before : List MemPlace}
 (hW : DataW.Whole enc Tryz.prog f.params.toList s.vars false W args.toList ds gs before) (hvr : s.vars = []) (hr : qax f.params.toList) (hfa : (s.fn H (ds ++ gs)).args = ds) (hfv : (s.fn H (ds ++ gs)).vars = [])
 (hres : ∀ (b : Nat) (sp : Nat → Bool) (hd : Bool), DataW.TrodAll enc Tryz.prog W' b sp hd f.resultTypes.toList (v.resultList f.resultTypes.size) (s.fn H (ds ++ gs)).results []) (hb : Below W.heap.size W W')
 (hok : ∀ (j : Nat) (t : TypeId) (r : Value), f.resultTypes[j]? = some t → (v.resultList f.resultTypes.size)[j]? = some r → Value.okWide Tryz.prog W' .any 0 t r) :
 s.post enc Tryz.prog f false true false false W args v W' := by
 have hlt : ∀ x ∈ before, x.block < W.heap.size := fun x hx => hW.lt x hx
 have hold : ∀ x ∈ before, (fun b => decide (b < W.heap.size)) x.block = true := fun x hx => by simpa using hlt x hx
 have hW0 := hW
 obtain ⟨p, q, hA, hV, hpq, hz, hn⟩ := hW0
 have hA : DataW.TrodAll enc Tryz.prog W 0 (fun _ => true) true f.params.toList args.toList ds p := hA
 rw [hvr] at hV
 obtain ⟨rfl, rfl⟩ := trodVars_none hV
 rw [List.append_nil] at hpq
 subst hpq
 have hargs : ∀ sp : Nat → Bool, (∀ x ∈ before, sp x.block = true) → DataW.TrodAll enc Tryz.prog W' 0 sp true f.params.toList args.toList (s.fn H (ds ++ [])).args before := fun sp hs => by
  rw [hfa]; exact qag hb hr hlt hs hA
 have hvars : ∀ sp : Nat → Bool, DataW.TrodVars enc Tryz.prog W' sp s.vars (s.fn H (ds ++ [])).vars [] := fun sp => by
  rw [hfv, hvr]; rfl
 refine ⟨ds, [], before, [], before, [], hW, hres _ _ _, hargs _ hold, hvars _, World.keptBut_mono (fun x hx => ⟨hx, Or.inr (Or.inl hx)⟩) (hb.frame (· ∈ before)), fun _ => ⟨hok, _, _, ([] ++ before) ++ [], ⟨[] ++ before, [], trodAll_append (hargs _ (fun _ _ => rfl)) (hres _ _ _), hvars _, rfl, ?_, ?_⟩, ?_⟩⟩
 ·intro b off hp
  have hin : MemPlace.cell b off ∈ before := by simpa using hp
  rw [hb.frozen (hlt _ hin)]
  exact hz b off hin
 ·intro ha
  simpa using hn ha
 ·intro x hx _
  simpa using hx
end Go.Proofs.YtljncdcjkdgkeaaGreatDoor.Big

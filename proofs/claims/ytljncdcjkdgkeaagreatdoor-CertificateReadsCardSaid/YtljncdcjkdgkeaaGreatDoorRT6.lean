/- Walk: the rational numbers' Text. What every card of the laws of certificate needs: the table of powers, a world for the witness, the problem among the arguments opened, the closing of a law that leaves the heap it found as it was. -/
import Derived.Test.YtljncdcjkdgkeaaGreatDoorRW17
import Derived.WalkKit
import Derived.ProofKit
import Derived.OpenShut
import Derived.Deep.DeepHandedRow
import Derived.Lib.LaidTab
import Derived.LaidSub
import Derived.Deep.Slices
import Derived.Deep.Fields
import Derived.ChangeSame
import Derived.ChangeSlices
import Derived.Carry
import Derived.WideKeyArgs
import Derived.Lib.SmallJoins
import Derived.Test.YtljncdcjkdgkeaaGreatDoorRLN2
import Derived.Test.YtljncdcjkdgkeaaGreatDoorRows
set_option linter.unusedVariables false
set_option linter.unusedSimpArgs false
namespace Go.Proofs.YtljncdcjkdgkeaaGreatDoor.Rt
open Go.RowKit Go.Proofs.YtljncdcjkdgkeaaGreatDoor.Big
open Go.Lib (itoa)

theorem cmpZ_zero {x y : Int} : cmpZ x y = 0 ↔ x = y := by
  unfold cmpZ
  split
  · exact ⟨fun h => by omega, fun h => by omega⟩
  · split
    · exact ⟨fun h => by omega, fun h => by omega⟩
    · exact ⟨fun h => by omega, fun h => by omega⟩
theorem cat_slash (a b : List UInt8) : ((⟨a.toArray⟩ : ByteArray) ++ ⟨#[47]⟩) ++ ⟨b.toArray⟩ = ⟨(a ++ 47 :: b).toArray⟩ := by
  apply ByteArray.ext
  simp

theorem pw_ten (k : Nat) : pw k ≤ 10 ^ (10 * k) := by
  unfold pw
  rw [Nat.pow_mul]
  exact Nat.pow_le_pow_left (by decide) k
theorem dec_len {u k : Nat} (hk : 0 < k) (h : u < pw k) : (Lib.decDigits u).length ≤ 10 * k := by
  rw [Lib.decDigits_length]
  exact nDigits_le (by omega) (Nat.lt_of_lt_of_le h (pw_ten k))
theorem itoa_len {z : Int} {k : Nat} (hk : 0 < k) (b : B k z) : (itoa z).length ≤ 10 * k + 1 := by
  unfold B at b
  rcases Int.lt_or_le z 0 with h | h
  · obtain ⟨u, rfl⟩ : ∃ u : Nat, z = -(u : Int) := ⟨z.natAbs, by omega⟩
    rw [Lib.itoa_neg u (by omega), List.length_cons]
    have := dec_len (u := u) hk (by omega)
    omega
  · obtain ⟨u, rfl⟩ : ∃ u : Nat, z = (u : Int) := ⟨z.natAbs, by omega⟩
    rw [Lib.itoa_nonneg u]
    have := dec_len (u := u) hk (by omega)
    omega
theorem itoa_size {z : Int} {k : Nat} (hk : 0 < k) (b : B k z) : (⟨(itoa z).toArray⟩ : ByteArray).size ≤ 10 * k + 1 := by
  have := itoa_len hk b
  simpa [ByteArray.size] using this

set_option maxRecDepth 100000 in
set_option maxHeartbeats 8000000 in
theorem RatText_b (x : Value) (q : Rat) (k : Nat) (w : World) (hx : RatB w x q k) (hL : k ≤ 549755813888) (htab : TabOK w) : Calls Tryz.prog 37 #[x] w (StrPost w (ratText q)) := by
  obtain ⟨p1, A1, n1, c1, p1', A1', n1', c1', rfl⟩ := hx.1.shape
  obtain ⟨D, hD⟩ : ∃ D : Int, D = (q.den : Int) := ⟨_, rfl⟩
  obtain ⟨V, hV⟩ : ∃ V, V = ratText q := ⟨_, rfl⟩
  rw [← hV]
  have HV := Lib.hid hV
  have HD := Lib.hid hD
  clear hV hD
  have hE0 : Ext w (w.alloc (.cells #[.bool p1, .slice A1 n1 c1, .bool p1', .slice A1' n1' c1'] 58)) := (Ext.refl w).alloc _
  have B0 := Box.new w 58 #[.bool p1, .slice A1 n1 c1, .bool p1', .slice A1' n1' c1']
  have hX := hx.ext hE0
  have hXn := hX.numB
  have hQ := hX.2
  have hTab := htab.ext hE0
  go_enter Tryz.func37, Tryz.ntmps37
  go_wp2_with fail
  clear hx htab
  refine (RatDen_b _ _ _ _ hX).mono ?_
  rintro e w1 ⟨v1, rfl, hb1, hx1⟩
  rw [← HD.out] at hb1
  obtain ⟨p2, A2, n2, c2, rfl⟩ := hb1.1.shape
  go_upto_region 2 with fail
  have hx2 : Ext w1 (w1.alloc (.cells #[.bool p2, .slice A2 n2 c2] 56)) := (Ext.refl w1).alloc _
  have B1 := Box.new w1 56 #[.bool p2, .slice A2 n2 c2]
  have hD1 := hb1.ext hx2
  have hXn := (hXn.ext hx1).ext hx2
  have hTab := (hTab.ext hx1).ext hx2
  have hE := (hE0.trans hx1).trans hx2
  have B0 := (B0.ext hx1).ext hx2
  generalize (w1.alloc (.cells #[.bool p2, .slice A2 n2 c2] 56)) = W at *
  clear hx1 hx2 hE0 hX hb1
  have k00 : ∀ w', Later W w' → w'.cell? ⟨_, 0, none⟩ = some _ := fun w' h => (B0.ext h).c0
  have k01 : ∀ w', Later W w' → w'.cell? ⟨_, 1, none⟩ = some _ := fun w' h => (B0.ext h).c1
  have k02 : ∀ w', Later W w' → w'.cell? ⟨_, 2, none⟩ = some _ := fun w' h => (B0.ext h).c2
  have k03 : ∀ w', Later W w' → w'.cell? ⟨_, 3, none⟩ = some _ := fun w' h => (B0.ext h).c3
  have k10 : ∀ w', Later W w' → w'.cell? ⟨w1.heap.size, 0, none⟩ = some (.bool p2) := fun w' h => (B1.ext h).c0
  have k11 : ∀ w', Later W w' → w'.cell? ⟨w1.heap.size, 1, none⟩ = some (.slice A2 n2 c2) := fun w' h => (B1.ext h).c1
  have hS0 := Later.refl W
  by_cases h1 : D = 1
  · have e1 : (cmpZ D 1 == 0) = true := by rw [cmpZ_zero.2 h1]; rfl
    have HR := Lib.hid (show V = itoa q.num by rw [HV.out]; unfold ratText; rw [if_pos (by have := HD.out; omega)])
    clear h1
    go_region_held3 (fun w' => Later W w') ((repeat (first | assumption | apply Later.drew | apply Later.drewN | apply Later.alloc | (refine Later.step ?_ (by assumption))))) (first
        | (go_at_call 90; (with_reducible refine (Gcd_b _ _ _ _ _ _ _ (BigB.ext (by assumption) (by repeat (first | (with_reducible exact Ext.refl _) | (with_reducible apply Ext.drew) | (with_reducible apply Ext.drewN) | (with_reducible refine Ext.trans ?_ (by assumption))))) (BigB.ext (by assumption) (by repeat (first | (with_reducible exact Ext.refl _) | (with_reducible apply Ext.drew) | (with_reducible apply Ext.drewN) | (with_reducible refine Ext.trans ?_ (by assumption))))) (by first | omega | decide)).mono ?_); rintro e wk ⟨vk, rfl, hbk, hxk⟩; (obtain ⟨pk, Ak, nk, ck, rfl⟩ := hbk.1.shape))
        | (go_at_call 46; (with_reducible refine (Of_b _ _ (by first | assumption | decide) (by first | assumption | decide)).mono ?_); rintro e wk ⟨vk, rfl, hbk, hxk⟩; (obtain ⟨pk, Ak, nk, ck, rfl⟩ := hbk.1.shape))
        | (go_at_call 44; (with_reducible refine (RatDen_b _ _ _ _ (RatB.ext (by assumption) (by repeat (first | (with_reducible exact Ext.refl _) | (with_reducible apply Ext.drew) | (with_reducible apply Ext.drewN) | (with_reducible refine Ext.trans ?_ (by assumption)))))).mono ?_); rintro e wk ⟨vk, rfl, hbk, hxk⟩; (obtain ⟨pk, Ak, nk, ck, rfl⟩ := hbk.1.shape))
        | (go_at_call 63; (with_reducible refine (Mul_b _ _ _ _ _ _ _ (BigB.ext (by assumption) (by repeat (first | (with_reducible exact Ext.refl _) | (with_reducible apply Ext.drew) | (with_reducible apply Ext.drewN) | (with_reducible refine Ext.trans ?_ (by assumption))))) (BigB.ext (by assumption) (by repeat (first | (with_reducible exact Ext.refl _) | (with_reducible apply Ext.drew) | (with_reducible apply Ext.drewN) | (with_reducible refine Ext.trans ?_ (by assumption))))) (by omega)).mono ?_); rintro e wk ⟨vk, rfl, hbk, hxk⟩; (obtain ⟨pk, Ak, nk, ck, rfl⟩ := hbk.1.shape))
        | (go_at_call 80; (with_reducible refine (Add_b _ _ _ _ _ _ _ (BigB.ext (by assumption) (by repeat (first | (with_reducible exact Ext.refl _) | (with_reducible apply Ext.drew) | (with_reducible apply Ext.drewN) | (with_reducible refine Ext.trans ?_ (by assumption))))) (BigB.ext (by assumption) (by repeat (first | (with_reducible exact Ext.refl _) | (with_reducible apply Ext.drew) | (with_reducible apply Ext.drewN) | (with_reducible refine Ext.trans ?_ (by assumption))))) (by omega)).mono ?_); rintro e wk ⟨vk, rfl, hbk, hxk⟩; (obtain ⟨pk, Ak, nk, ck, rfl⟩ := hbk.1.shape))
        | (go_at_call 45; (with_reducible refine (Cmp_b _ _ _ _ _ _ _ (BigB.ext (by assumption) (by repeat (first | (with_reducible exact Ext.refl _) | (with_reducible apply Ext.drew) | (with_reducible apply Ext.drewN) | (with_reducible refine Ext.trans ?_ (by assumption))))) (BigB.ext (by assumption) (by repeat (first | (with_reducible exact Ext.refl _) | (with_reducible apply Ext.drew) | (with_reducible apply Ext.drewN) | (with_reducible refine Ext.trans ?_ (by assumption)))))).mono ?_); rintro e wk ⟨rfl, hxk⟩)
        | (go_at_call 89; (with_reducible refine (Neg_b _ _ _ _ (BigB.ext (by assumption) (by repeat (first | (with_reducible exact Ext.refl _) | (with_reducible apply Ext.drew) | (with_reducible apply Ext.drewN) | (with_reducible refine Ext.trans ?_ (by assumption)))))).mono ?_); rintro e wk ⟨vk, rfl, hbk, hxk⟩; (obtain ⟨pk, Ak, nk, ck, rfl⟩ := hbk.1.shape))
      )
    all_goals go_upto_region 3 with fail
    all_goals go_wp2_with fail
    all_goals (
      refine (Text_b _ _ _ _ (BigB.ext hXn (by repeat (first | (with_reducible exact Ext.refl _) | (with_reducible apply Ext.drew) | (with_reducible apply Ext.drewN) | (with_reducible refine Ext.trans ?_ (by assumption))))) (by omega) (TabOK.ext hTab (by repeat (first | (with_reducible exact Ext.refl _) | (with_reducible apply Ext.drew) | (with_reducible apply Ext.drewN) | (with_reducible refine Ext.trans ?_ (by assumption)))))).mono ?_
      rintro e w9 ⟨rfl, hx9⟩
      have hS9 := Later.step (by assumption) hx9
      rw [← HR.out]
      go_wp2_with fail
      go_ret
      exact ⟨rfl, hE.trans (show Later W _ from hS9)⟩)
  · have e1 : (cmpZ D 1 == 0) = false := by
      have := mt cmpZ_zero.1 h1
      simpa using this
    have HR := Lib.hid (show V = itoa q.num ++ 47 :: itoa D by rw [HV.out]; unfold ratText; rw [if_neg (by have := HD.out; omega), HD.out])
    have z1 := itoa_size (QB_pos hQ) hXn.2
    have z2 := itoa_size (QB_pos hQ) hD1.2
    obtain ⟨SN, hSN⟩ : ∃ S : ByteArray, S = ⟨(itoa q.num).toArray⟩ := ⟨_, rfl⟩
    obtain ⟨SD, hSD⟩ : ∃ S : ByteArray, S = ⟨(itoa D).toArray⟩ := ⟨_, rfl⟩
    rw [← hSN] at z1
    rw [← hSD] at z2
    have HS : Hid ((⟨V.toArray⟩ : ByteArray) = (SN ++ ⟨#[47]⟩) ++ SD) := Lib.hid (by rw [HR.out, hSN, hSD, cat_slash])
    have HTN : Hid (∀ w', Later W w' → Calls Tryz.prog 70 #[.agg #[.bool p1, .slice A1 n1 c1]] w' (fun e w'' => e = .returned (.string SN) ∧ Ext w' w'')) := Lib.hid (fun w' h => by rw [hSN]; exact Text_b _ _ _ _ (hXn.ext h) (by omega) (hTab.ext h))
    have HTD : Hid (∀ w', Later W w' → Calls Tryz.prog 70 #[.agg #[.bool p2, .slice A2 n2 c2]] w' (fun e w'' => e = .returned (.string SD) ∧ Ext w' w'')) := Lib.hid (fun w' h => by rw [hSD]; exact Text_b _ _ _ _ (hD1.ext h) (by omega) (hTab.ext h))
    have c1 : ¬ 9223372036854775807 < SN.size + 1 := by omega
    have c2 : ¬ 9223372036854775807 < SN.size + 1 + SD.size := by omega
    clear h1 hSN hSD
    go_region_held3 (fun w' => Later W w') ((repeat (first | assumption | apply Later.drew | apply Later.drewN | apply Later.alloc | (refine Later.step ?_ (by assumption))))) (first
        | (go_at_call 90; (with_reducible refine (Gcd_b _ _ _ _ _ _ _ (BigB.ext (by assumption) (by repeat (first | (with_reducible exact Ext.refl _) | (with_reducible apply Ext.drew) | (with_reducible apply Ext.drewN) | (with_reducible refine Ext.trans ?_ (by assumption))))) (BigB.ext (by assumption) (by repeat (first | (with_reducible exact Ext.refl _) | (with_reducible apply Ext.drew) | (with_reducible apply Ext.drewN) | (with_reducible refine Ext.trans ?_ (by assumption))))) (by first | omega | decide)).mono ?_); rintro e wk ⟨vk, rfl, hbk, hxk⟩; (obtain ⟨pk, Ak, nk, ck, rfl⟩ := hbk.1.shape))
        | (go_at_call 46; (with_reducible refine (Of_b _ _ (by first | assumption | decide) (by first | assumption | decide)).mono ?_); rintro e wk ⟨vk, rfl, hbk, hxk⟩; (obtain ⟨pk, Ak, nk, ck, rfl⟩ := hbk.1.shape))
        | (go_at_call 44; (with_reducible refine (RatDen_b _ _ _ _ (RatB.ext (by assumption) (by repeat (first | (with_reducible exact Ext.refl _) | (with_reducible apply Ext.drew) | (with_reducible apply Ext.drewN) | (with_reducible refine Ext.trans ?_ (by assumption)))))).mono ?_); rintro e wk ⟨vk, rfl, hbk, hxk⟩; (obtain ⟨pk, Ak, nk, ck, rfl⟩ := hbk.1.shape))
        | (go_at_call 63; (with_reducible refine (Mul_b _ _ _ _ _ _ _ (BigB.ext (by assumption) (by repeat (first | (with_reducible exact Ext.refl _) | (with_reducible apply Ext.drew) | (with_reducible apply Ext.drewN) | (with_reducible refine Ext.trans ?_ (by assumption))))) (BigB.ext (by assumption) (by repeat (first | (with_reducible exact Ext.refl _) | (with_reducible apply Ext.drew) | (with_reducible apply Ext.drewN) | (with_reducible refine Ext.trans ?_ (by assumption))))) (by omega)).mono ?_); rintro e wk ⟨vk, rfl, hbk, hxk⟩; (obtain ⟨pk, Ak, nk, ck, rfl⟩ := hbk.1.shape))
        | (go_at_call 80; (with_reducible refine (Add_b _ _ _ _ _ _ _ (BigB.ext (by assumption) (by repeat (first | (with_reducible exact Ext.refl _) | (with_reducible apply Ext.drew) | (with_reducible apply Ext.drewN) | (with_reducible refine Ext.trans ?_ (by assumption))))) (BigB.ext (by assumption) (by repeat (first | (with_reducible exact Ext.refl _) | (with_reducible apply Ext.drew) | (with_reducible apply Ext.drewN) | (with_reducible refine Ext.trans ?_ (by assumption))))) (by omega)).mono ?_); rintro e wk ⟨vk, rfl, hbk, hxk⟩; (obtain ⟨pk, Ak, nk, ck, rfl⟩ := hbk.1.shape))
        | (go_at_call 45; (with_reducible refine (Cmp_b _ _ _ _ _ _ _ (BigB.ext (by assumption) (by repeat (first | (with_reducible exact Ext.refl _) | (with_reducible apply Ext.drew) | (with_reducible apply Ext.drewN) | (with_reducible refine Ext.trans ?_ (by assumption))))) (BigB.ext (by assumption) (by repeat (first | (with_reducible exact Ext.refl _) | (with_reducible apply Ext.drew) | (with_reducible apply Ext.drewN) | (with_reducible refine Ext.trans ?_ (by assumption)))))).mono ?_); rintro e wk ⟨rfl, hxk⟩)
        | (go_at_call 89; (with_reducible refine (Neg_b _ _ _ _ (BigB.ext (by assumption) (by repeat (first | (with_reducible exact Ext.refl _) | (with_reducible apply Ext.drew) | (with_reducible apply Ext.drewN) | (with_reducible refine Ext.trans ?_ (by assumption)))))).mono ?_); rintro e wk ⟨vk, rfl, hbk, hxk⟩; (obtain ⟨pk, Ak, nk, ck, rfl⟩ := hbk.1.shape))
      )
    all_goals go_upto_region 4 with fail
    go_region_held3 (fun w' => Later W w') ((repeat (first | assumption | apply Later.drew | apply Later.drewN | apply Later.alloc | (refine Later.step ?_ (by assumption))))) (first
      | (go_at_call 70; (with_reducible refine (HTN.out _ (by assumption)).mono ?_); rintro e wk ⟨rfl, hxk⟩)
      | (go_at_call 70; (with_reducible refine (HTD.out _ (by assumption)).mono ?_); rintro e wk ⟨rfl, hxk⟩)
      )
    all_goals go_wp2_with fail
    all_goals go_ret
    all_goals exact ⟨by rw [HS.out]; rfl, hE.trans (show Later W _ by assumption)⟩
end Go.Proofs.YtljncdcjkdgkeaaGreatDoor.Rt
namespace Go.Proofs.YtljncdcjkdgkeaaGreatDoor.Big
open Go.ChangeShapes Go.WideShapes Go.ChangeAt Go.RowKit

theorem own : ownKnob Tryz.prog.godebug = none := by kernel_rfl
theorem gPow : Tryz.prog.globalNamed "internal/strconv.uint64pow10" = some 0 := by kernel_rfl
theorem gPowType : (Tryz.prog.globals[(0 : Nat)]?).map (·.type) = some 208 := by kernel_rfl
theorem cellsPow : Tryz.prog.cellsOf 208 = 20 := by kernel_rfl
theorem cellsU64 : Tryz.prog.cellsOf 145 = 1 := by kernel_rfl

def laidAll : List (String × DataW Unit) := Rows.certificateNoneRow.laid
theorem laidPow : laidAll.filter (fun x => x.1 == "internal/strconv.uint64pow10") = [("internal/strconv.uint64pow10", Lib.tabData .u64 Lib.pow10Tab)] := by kernel_rfl
theorem tab_of_laid {W : World} (h : laidMetH Tryz.prog laidAll W) : TabOK W := by
  have h : laidMet Tryz.prog laidAll W := h
  have h1 := h.filter (fun x => x.1 == "internal/strconv.uint64pow10")
  rw [laidPow] at h1
  exact Lib.tabIs_of_head (rest := []) gPow gPowType Tryz.underlying208 Tryz.underlying145 cellsU64 cellsPow h1

section
variable {H : Type} {enc : TypeId × Value → H} {P : Program}
/-- A law whose arguments hold no place of memory, and that leaves every block that it found as it was. -/
theorem post_plain {f : Func} {s : ChangeSpec} {apart fresh handsOn again : Bool} {W W' : World} {args : Array Value} {v : Value} {ds gs : List (DataW H)}
    (hW : DataW.Whole enc P f.params.toList s.vars apart W args.toList ds gs [])
    (hres : ∀ (b : Nat) (sp : Nat → Bool) (hd : Bool), DataW.TrodAll enc P W' b sp hd f.resultTypes.toList (v.resultList f.resultTypes.size) (s.fn H (ds ++ gs)).results [])
    (hargs : ∀ sp : Nat → Bool, DataW.TrodAll enc P W' 0 sp true f.params.toList args.toList (s.fn H (ds ++ gs)).args [])
    (hvars : ∀ sp : Nat → Bool, DataW.TrodVars enc P W' sp s.vars (s.fn H (ds ++ gs)).vars [])
    (hk : Below W.heap.size W W')
    (hok : ∀ (j : Nat) (t : TypeId) (r : Value), f.resultTypes[j]? = some t → (v.resultList f.resultTypes.size)[j]? = some r → Value.okWide P W' .any 0 t r) :
    s.post enc P f apart fresh handsOn again W args v W' :=
  ⟨ds, gs, [], [], [], [], hW, hres _ _ _, hargs _, hvars _, hk.frame _, fun _ => ⟨hok, _, _, [], ⟨[], [], trodAll_append (hargs _) (hres _ _ _), hvars _, rfl, (fun _ _ hp => by cases hp), fun _ => List.nodup_nil⟩, fun _ hp _ => by cases hp⟩⟩
end

def lay (cs : Array Value) : Obj → Obj
  | .cells _ t frozen => .cells cs t frozen
  | o => o
end Go.Proofs.YtljncdcjkdgkeaaGreatDoor.Big
namespace Go.Proofs.YtljncdcjkdgkeaaGreatDoor.Big
open Go.ChangeShapes Go.WideShapes Go.ChangeAt Go.RowKit Go.Deep Go.Proofs.YtljncdcjkdgkeaaGreatDoor.Lp
section
variable {H : Type} {enc : TypeId × Value → H} {W : World} {base : Nat} {r : Reach} {b0 : Nat}
end
section
variable {H : Type} {enc : TypeId × Value → H}
end

end Go.Proofs.YtljncdcjkdgkeaaGreatDoor.Big

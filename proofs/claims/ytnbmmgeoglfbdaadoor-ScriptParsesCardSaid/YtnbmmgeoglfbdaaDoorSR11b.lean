/- Walks: kind and Name of the reference. -/
import Derived.Test.YtnbmmgeoglfbdaaDoorSRef2
import Derived.Deep.RegionHeld3
import Derived.Deep.DeepCutAuto
set_option linter.unusedVariables false
set_option linter.unusedSimpArgs false
namespace Go.Proofs.YtnbmmgeoglfbdaaDoor.Big
open Go.RowKit
/-- Ext by another name: what a drawn region holds -/
def Later (a b : World) : Prop := Ext a b
theorem Later.refl (w : World) : Later w w := Ext.refl w
theorem Later.drew {a b : World} (h : Later a b) : Later a b.drew := Ext.drew h
theorem Later.drewN {a b : World} (h : Later a b) (n : Nat) : Later a (b.drewN n) := Ext.drewN h n
theorem Later.alloc {a b : World} (h : Later a b) (o : Obj) : Later a (b.alloc o) := Ext.alloc h o
theorem Later.step {a b c : World} (h : Later a b) (k : Ext b c) : Later a c := Ext.trans h k
theorem Later.cell {a b : World} (h : Later a b) {p : Addr} {v : Value} (hc : a.cell? p = some v) : b.cell? p = some v := Ext.cell h hc
end Go.Proofs.YtnbmmgeoglfbdaaDoor.Big
namespace Go.Proofs.YtnbmmgeoglfbdaaDoor.Sc
open Go.RowKit Go.Proofs.YtnbmmgeoglfbdaaDoor.Big

def KindPost (w : World) (t : BL) (e : Ending) (w' : World) : Prop := (∃ k : Nat, e = .returned (.int .u8 (k : Int)) ∧ k ≤ 5 ∧ (k == 1) = isWord t) ∧ Ext w w'
set_option maxHeartbeats 8000000 in
set_option maxRecDepth 100000 in
theorem kind_any (t : BL) (w : World) (ht : t.length ≤ 1099511627776) : Calls Tryd.prog 58 #[.string (str t)] w (KindPost w t) := by
  have hss : (str t).size = t.length := rfl
  by_cases ht0 : t = []
  · subst ht0
    rw [show str [] = (⟨#[]⟩ : ByteArray) from rfl]
    go_enter Tryd.func58, Tryd.ntmps58
    go_wp2_with fail
    go_ret
    exact ⟨⟨0, rfl, by omega, rfl⟩, Ext.refl w⟩
  · have hpos : 0 < t.length := List.length_pos_iff.2 ht0
    have hlt0 : 0 < (str t).size := by omega
    obtain ⟨L0, hL0⟩ : ∃ L0, L0 = isLet ((str t)[0]'hlt0) := ⟨_, rfl⟩
    have HL0 : Hid (isLet ((str t)[0]'hlt0) = L0) := Lib.hid hL0.symm
    obtain ⟨W, hW⟩ : ∃ W, W = isWord t := ⟨_, rfl⟩
    have hWL : W = (L0 && t.all isInn) := by
      rw [hW, hL0]
      cases t with
      | nil => exact absurd rfl ht0
      | cons c r =>
        have : (str (c :: r))[0]'hlt0 = c := by simp [str, ByteArray.getElem_eq_getElem_data]
        rw [this, List.all_cons]
        show (isLet c && r.all isInn) = _
        cases h : isLet c with
        | false => rfl
        | true => rw [show isInn c = true by unfold isInn; rw [h]; rfl]; rfl
    have HW := Lib.hid hW
    have HWL := Lib.hid hWL
    clear hL0 hW hWL ht0
    go_enter Tryd.func58, Tryd.ntmps58
    go_upto_region 3 with fail
    have ks := Later.refl w
    go_cut [3, 4, 5, 6] (fun a b c d wx => a = .bool L0 ∧ b = .bool true ∧ c = .bool true ∧ (∃ q, d = .bool q) ∧ Later w wx)
    case first =>
      go_region_held3 (fun w' => Later w w') ((repeat (first | assumption | apply Later.drew | apply Later.drewN | apply Later.alloc | (refine Later.step ?_ (by assumption))))) (first
        | (go_at_call 76; (with_reducible refine (letter_any _ _).mono ?_); rintro e wk ⟨rfl, rfl⟩; rw [HL0.out])
        )
      all_goals (go_wp2_with fail; go_meet)
      all_goals exact ⟨rfl, rfl, rfl, ⟨_, rfl⟩, by assumption⟩
    case rest =>
      obtain ⟨rfl, rfl, rfl, ⟨q0, rfl⟩, hL⟩ := hcut
      rename_i hK
      refine hK _ _ ?_
      clear hK
      go_wp2_with fail
      go_loopw [3, 4, 5, 6, 7] (fun pw pn pb pc i wr => ∃ (k : Nat) (x n b c : Bool), k ≤ t.length ∧ pw = .bool x ∧ pn = .bool n ∧ pb = .bool b ∧ pc = .bool c ∧ i = .int .i64 k ∧ Hid (x = (L0 && (t.take k).all isInn)) ∧ Ext w wr) (fun _ _ _ _ i _ => t.length - (intOf i).toNat)
      case atStart => exact ⟨0, _, _, _, _, by omega, rfl, rfl, rfl, rfl, rfl, Lib.hid (by simp), hL⟩
      case round =>
        obtain ⟨k, x, n, b, c, hk, rfl, rfl, rfl, rfl, rfl, HX, hx⟩ := hrel
        by_cases hlt : k < t.length
        · have hlt' : k < (str t).size := by omega
          obtain ⟨ch, hc⟩ : ∃ c, t[k]? = some c := ⟨_, List.getElem?_eq_getElem hlt⟩
          have hg : (str t)[k]'hlt' = ch := str_get hc hlt'
          have hT : (t.take (k + 1)).all isInn = ((t.take k).all isInn && isInn ch) := by rw [List.take_add_one, hc, List.all_append]; simp
          have HG := Lib.hid hg
          have HT := Lib.hid hT
          clear hg hT hc
          obtain ⟨il, hil⟩ : ∃ z, z = isLet ch := ⟨_, rfl⟩
          obtain ⟨id', hid'⟩ : ∃ z, z = isDig ch := ⟨_, rfl⟩
          have HIL : Hid (isLet ((str t)[k]'hlt') = il) := Lib.hid (by rw [hil, HG.out])
          have HID : Hid (isDig ((str t)[k]'hlt') = id') := Lib.hid (by rw [hid', HG.out])
          have HIN : Hid (isInn ch = (il || id')) := Lib.hid (by rw [hil, hid']; rfl)
          clear hil hid'
          go_upto_region 7 with fail
          go_cut [3] (fun v wx => v = .bool (x && (il || id')) ∧ Ext w wx)
          case first =>
            cases x
            · go_wp2_with fail
              go_meet
              exact ⟨rfl, by assumption⟩
            · go_wp2_with fail
              refine (letter_any _ _).mono ?_
              rintro e w2 ⟨rfl, rfl⟩
              rw [HIL.out]
              cases il
              · go_wp2_with fail
                refine (digit_any _ _).mono ?_
                rintro e w2 ⟨rfl, rfl⟩
                rw [HID.out]
                go_wp2_with fail
                go_meet
                exact ⟨rfl, by assumption⟩
              · go_wp2_with fail
                go_meet
                exact ⟨rfl, by assumption⟩
          case rest =>
            obtain ⟨rfl, hx1⟩ := hcut
            rename_i hK
            refine hK _ _ ?_
            clear hK
            go_upto_region 8 with fail
            go_cut [4] (fun v wx => (∃ z, v = .bool z) ∧ Ext w wx)
            case first =>
              cases n
              · go_wp2_with fail
                go_meet
                exact ⟨⟨_, rfl⟩, by assumption⟩
              · go_wp2_with fail
                refine (digit_any _ _).mono ?_
                rintro e w2 ⟨rfl, rfl⟩
                rw [HID.out]
                go_wp2_with fail
                go_meet
                exact ⟨⟨_, rfl⟩, by assumption⟩
            case rest =>
              obtain ⟨⟨n1, rfl⟩, hx2⟩ := hcut
              rename_i hK
              refine hK _ _ ?_
              clear hK
              go_upto_region 9 with fail
              go_cut [5] (fun v wx => (∃ z, v = .bool z) ∧ Ext w wx)
              case first =>
                cases b
                · go_wp2_with fail
                  go_meet
                  exact ⟨⟨_, rfl⟩, by assumption⟩
                · go_wp2_with fail
                  refine (space_some _ _).mono ?_
                  rintro e w2 ⟨z, rfl, rfl⟩
                  go_wp2_with fail
                  go_meet
                  exact ⟨⟨_, rfl⟩, by assumption⟩
              case rest =>
                obtain ⟨⟨b1, rfl⟩, hx3⟩ := hcut
                rename_i hK
                refine hK _ _ ?_
                clear hK
                cases c
                all_goals go_wp2_with fail
                all_goals exact ⟨⟨k + 1, _, _, _, _, by omega, rfl, rfl, rfl, rfl, by go_num, Lib.hid (by rw [HT.out, HX.out, HIN.out, Bool.and_assoc]), hx3⟩, by simp [intOf]; omega⟩
        · have hkl : k = t.length := by omega
          have HF : Hid (x = W) := Lib.hid (by rw [HX.out, HWL.out, hkl, List.take_length])
          cases x with
          | true =>
            have HF2 : Hid (W = true) := Lib.hid HF.out.symm
            go_wp2_with fail
            go_ret
            exact ⟨⟨1, rfl, by omega, by rw [← HW.out, HF2.out]; rfl⟩, hx⟩
          | false =>
            have HF2 : Hid (W = false) := Lib.hid HF.out.symm
            cases n with
            | true =>
              go_wp2_with fail
              go_ret
              exact ⟨⟨2, rfl, by omega, by rw [← HW.out, HF2.out]; rfl⟩, hx⟩
            | false =>
              go_wp2_with fail
              refine (Signs_any _).mono ?_
              rintro e w2 ⟨⟨sb, rfl, hrw⟩, hx2⟩
              go_wp2_with fail
              refine (In_any _ _ _ _ t _ hrw).mono ?_
              rintro e w3 ⟨rfl, rfl⟩
              obtain ⟨z, hz⟩ : ∃ z, z = signsR.contains t := ⟨_, rfl⟩
              rw [← hz]
              clear hz
              have hx3 := hx.trans hx2
              cases z with
              | true =>
                go_wp2_with fail
                go_ret
                exact ⟨⟨3, rfl, by omega, by rw [← HW.out, HF2.out]; rfl⟩, hx3⟩
              | false =>
                cases b with
                | true =>
                  go_wp2_with fail
                  go_ret
                  exact ⟨⟨4, rfl, by omega, by rw [← HW.out, HF2.out]; rfl⟩, hx3⟩
                | false =>
                  cases c with
                  | true =>
                    go_wp2_with fail
                    go_ret
                    exact ⟨⟨5, rfl, by omega, by rw [← HW.out, HF2.out]; rfl⟩, hx3⟩
                  | false =>
                    go_wp2_with fail
                    go_ret
                    exact ⟨⟨0, rfl, by omega, by rw [← HW.out, HF2.out]; rfl⟩, hx3⟩
end Go.Proofs.YtnbmmgeoglfbdaaDoor.Sc

/- Walk: the law BigintFull. -/
import Derived.Test.YtnojllmidpdbcaaDoorLBits
import Derived.Test.YtnojllmidpdbcaaDoorRArr
import Derived.Laws.IdiomStrings
set_option linter.unusedVariables false
set_option linter.unusedSimpArgs false
namespace Go.Proofs.YtnojllmidpdbcaaDoor.Big
open Go.RowKit

theorem info8 : (Tryd.prog.info? 5).map (fun i => (i.zero, i.size, i.bytes)) = some (some (.int .u8 0), 1, 1) := by kernel_rfl
/-- m sevens -/
def sev (m : Nat) : ByteArray := ⟨(List.replicate m (55 : UInt8)).toArray⟩
theorem sev_size (m : Nat) : (sev m).size = m := by simp [sev, ByteArray.size]
theorem sev_list (m : Nat) : (sev m).data.toList = List.replicate m 55 := by simp [sev]
theorem sev_rest {m : Nat} : rest (List.replicate m (55 : UInt8)) = List.replicate m 55 ∧ negd (List.replicate m (55 : UInt8)) = false := by
  cases m with
  | zero => exact ⟨rfl, rfl⟩
  | succ m => rw [List.replicate_succ]; exact ⟨by unfold rest; rfl, by unfold negd; rfl⟩
theorem sev_digs (m : Nat) : digs (List.replicate m (55 : UInt8)) = true := by
  induction m with
  | zero => rfl
  | succ m ih => rw [List.replicate_succ]; unfold digs at *; simp only [List.all_cons, ih]; rfl
theorem sev_dec {m : Nat} (h : 0 < m) : isDec (sev m).data.toList = true := by
  rw [sev_list]
  unfold isDec
  rw [sev_rest.1, sev_rest.2, sev_digs]
  cases m with
  | zero => omega
  | succ m => rw [List.replicate_succ]; rfl
theorem sev_pos {m : Nat} (h : 0 < m) : 0 < valD (List.replicate m (55 : UInt8)) := by
  obtain ⟨k, rfl⟩ : ∃ k, m = k + 1 := ⟨m - 1, by omega⟩
  have e : List.replicate (k + 1) (55 : UInt8) = List.replicate k 55 ++ [55] := by rw [List.replicate_succ']
  rw [e, valD_append]
  have : valD [(55 : UInt8)] = 7 := by decide
  rw [this]
  omega
theorem sev_val (m : Nat) : parseZ (sev m).data.toList = (valD (List.replicate m (55 : UInt8)) : Nat) := by
  unfold parseZ
  rw [sev_list, sev_rest.1, sev_rest.2]
  rfl
theorem sev_bound (m : Nat) : B m (parseZ (sev m).data.toList) := by
  unfold B
  rw [sev_val, Int.natAbs_natCast]
  have := valD_lt (sev_digs m)
  rw [List.length_replicate] at this
  exact Nat.lt_of_lt_of_le this (ten_le_pw m)

theorem text_zero' (x : Value) (w : World) (hx : BigV w x 0) : Calls Tryd.prog 17 #[x] w (fun e w' => e = .returned (.string ⟨#[48]⟩) ∧ Ext w w') :=
  (Text_zero x w hx).mono fun e w' ⟨h1, h2⟩ => ⟨by
    rw [h1]
    have : Lib.itoa 0 = [48] := by unfold Lib.itoa; simp; rw [Lib.decDigits_one (by omega)]; rfl
    rw [this], h2⟩
theorem bits_zero' (x : Value) (w : World) (hx : BigV w x 0) : Calls Tryd.prog 26 #[x] w (IntPost w 0) :=
  (Bits_any x 0 1 w hx (pw_pos 1) (by decide)).mono fun e w' ⟨nb, h1, h2, _, h4⟩ => ⟨by rw [h1, h2 rfl]; rfl, h4⟩

set_option maxRecDepth 100000 in
set_option maxHeartbeats 8000000 in
theorem full_any (n : Int) (w : World) (n0 : 0 ≤ n) (n1 : n ≤ 255) (htab : TabOK w) :
    Calls Tryd.prog 7 #[.int .u8 n] w (fun e w' => e = .returned (.bool true) ∧ Ext w w') := by
  obtain ⟨k, rfl⟩ : ∃ k : Nat, n = (k : Int) := ⟨n.toNat, by omega⟩
  obtain ⟨m, hm⟩ : ∃ m : Nat, (4097 : Int) + (k : Int) = (m : Int) := ⟨4097 + k, by omega⟩
  have kb : k ≤ 255 := by omega
  have HM := Lib.hid hm
  have m0 : 4097 ≤ m := by omega
  have m1 : m ≤ 4352 := by omega
  clear hm n0 n1
  go_enter Tryd.func7, Tryd.ntmps7
  go_wp2_with fail
  refine (awake_any _ htab).mono ?_
  rintro e w1 ⟨rfl, hx1⟩
  go_wp2_with (at_make; refine wpList_makeK .u8 1 _ rfl _ _ 49 rfl 5 Tryd.underlying49 info8 (by decide) _ _ rfl rfl m HM.out HM.out (by omega) ?_; intro w2 harr hext)
  go_loopw [4] (fun i wr => ∃ j : Nat, j ≤ m ∧ i = .int .i64 j ∧ (∃ f, ArrK .u8 wr w1.heap.size m 5 f ∧ ∀ i, i < j → f i = 55) ∧ Ext w1 wr) (fun i _ => m - (intOf i).toNat)
  case atStart => exact ⟨0, by omega, rfl, ⟨_, harr, fun i hi => absurd hi (by omega)⟩, hext⟩
  case round =>
    obtain ⟨j, hj, rfl, ⟨f, ha, hf⟩, hE⟩ := hrel
    by_cases hlt : j < m
    · have hco := ha.cell hlt
      have hfo := ha.frozen j
      go_wp2_with fail
      go_roundw
      case rel =>
        refine ⟨j + 1, by omega, by go_num, ⟨_, (ha.set j 55).congr (fun _ _ => rfl), fun i hi => ?_⟩, hE.set (Nat.le_refl _) _⟩
        by_cases hij : i = j
        · simp [hij]
        · simp [hij]; exact hf i (by omega)
      case measure => simp [intOf]; omega
    · obtain rfl : j = m := by omega
      have hcell : ∀ i, i < j → wr.cell? ⟨w1.heap.size, i, none⟩ = some (.int .u8 55) := fun i hi => by rw [ha.cell hi, hf i hi]; rfl
      have ha' := ha.cell (j := 4095) (by omega)
      have cv1 := run_convert_bytes_back (P := Tryd.prog) wr 49 9 5 ⟨w1.heap.size, 0, none⟩ j (List.replicate 4096 55) Tryd.underlying49 Tryd.underlying5 Tryd.underlying9 (fun i hi => by
        rw [Lib.add_plain, Nat.zero_add, List.getElem_replicate]
        exact hcell i (by simp at hi; omega))
      rw [List.length_replicate] at cv1
      have cv2 := fun w' (hw : Ext wr w') => run_convert_bytes_back (P := Tryd.prog) w' 49 9 5 ⟨w1.heap.size, 0, none⟩ j (List.replicate j 55) Tryd.underlying49 Tryd.underlying5 Tryd.underlying9 (fun i hi => by
        rw [Lib.add_plain, Nat.zero_add, List.getElem_replicate]
        exact hw.cell (hcell i (by simp at hi; omega)))
      rw [show (⟨(List.replicate 4096 (55 : UInt8)).toArray⟩ : ByteArray) = sev 4096 from rfl] at cv1
      simp only [List.length_replicate, show (⟨(List.replicate j (55 : UInt8)).toArray⟩ : ByteArray) = sev j from rfl] at cv2
      have P1 := fun w' => Parse_ok (sev 4096) w' (by rw [sev_size]; omega) (sev_dec (by omega))
      have P2 := fun w' => Parse_full (sev j) w' (by rw [sev_size]; omega) (by rw [sev_size]; omega)
      obtain ⟨X, hX⟩ : ∃ X, X = parseZ (sev 4096).data.toList := ⟨_, rfl⟩
      have bX := sev_bound 4096
      have sX : X.sign = 1 := by
        rw [hX, sev_val]
        exact Int.sign_eq_one_of_pos (by have := sev_pos (m := 4096) (by omega); omega)
      rw [← hX] at bX P1
      clear hX
      generalize sev 4096 = S1 at *
      generalize sev j = S2 at *
      clear ha' hcell hf ha
      go_wp2_with fail
      refine (P1 _).mono ?_
      rintro e w3 ⟨v3, rfl, h3, hx3⟩
      obtain ⟨p3, A3, k3, c3, rfl⟩ := h3.shape
      go_upto_region 9 with fail
      have hE3 : Ext w3 (w3.alloc (.cells #[.bool p3, .slice A3 k3 c3] 25)) := (Ext.refl w3).alloc _
      have B5 := Box.new w3 25 #[.bool p3, .slice A3 k3 c3]
      have h3 := h3.ext hE3
      have hW3 := hx3.trans hE3
      clear hE3 cv1 P1
      generalize (w3.alloc (.cells #[.bool p3, .slice A3 k3 c3] 25)) = W3 at *
      have cv := cv2 W3 hW3
      clear cv2
      go_wp2_with fail
      refine (P2 _).mono ?_
      rintro e w4 ⟨rfl, hx4⟩
      unfold zeroAgg
      go_upto_region 11 with fail
      obtain ⟨B7, B9, hE4⟩ := boxes2 w4 25 #[.bool false, .slice none 0 0] #[.bool false, .slice none 0 0]
      have B5 := (B5.ext hx4).ext hE4
      have h3 := (h3.ext hx4).ext hE4
      have hEf := (((hx1.trans hE).trans hW3).trans hx4).trans hE4
      clear hE4 hx4 cv P2
      generalize ((w4.alloc (.cells #[.bool false, .slice none 0 0] 25)).alloc (.cells #[.bool false, .slice none 0 0] 25)) = V at *
      obtain ⟨Z, hZ⟩ : ∃ Z : Int, Z = 0 := ⟨_, rfl⟩
      have z1 : Z.sign = 0 := by rw [hZ]; rfl
      have z2 : Z + X = X := by rw [hZ]; omega
      have z3 : (Z * X).sign = 0 := by rw [hZ, Int.zero_mul]; rfl
      have hz0 : BigV V (.agg #[.bool false, .slice none 0 0]) Z := by rw [hZ]; exact BigV.zero _
      have hZZ : BigB V (.agg #[.bool false, .slice none 0 0]) Z 1 := ⟨hz0, by rw [hZ]; exact pw_pos 1⟩
      have T0 := fun w' (hx : BigV w' (.agg #[.bool false, .slice none 0 0]) Z) => text_zero' _ w' (hZ ▸ hx)
      have Q0 := fun w' (hx : BigV w' (.agg #[.bool false, .slice none 0 0]) Z) => bits_zero' _ w' (hZ ▸ hx)
      have hXX : BigB V _ X 4096 := ⟨h3, bX⟩
      have k50 : ∀ w', Later V w' → w'.cell? ⟨w3.heap.size, 0, none⟩ = some (.bool p3) := fun w' h => (B5.ext h).c0
      have k51 : ∀ w', Later V w' → w'.cell? ⟨w3.heap.size, 1, none⟩ = some (.slice A3 k3 c3) := fun w' h => (B5.ext h).c1
      have k70 : ∀ w', Later V w' → w'.cell? ⟨w4.heap.size, 0, none⟩ = some (.bool false) := fun w' h => (B7.ext h).c0
      have k71 : ∀ w', Later V w' → w'.cell? ⟨w4.heap.size, 1, none⟩ = some (.slice none 0 0) := fun w' h => (B7.ext h).c1
      have k90 : ∀ w', Later V w' → w'.cell? ⟨w4.heap.size + 1, 0, none⟩ = some (.bool false) := fun w' h => (B9.ext h).c0
      have k91 : ∀ w', Later V w' → w'.cell? ⟨w4.heap.size + 1, 1, none⟩ = some (.slice none 0 0) := fun w' h => (B9.ext h).c1
      have ks := Later.refl V
      clear B5 B7 B9 hZ h3 hE hext hx1 hx3 hW3
      go_region_held3 (fun w' => Later V w') ((repeat (first | assumption | apply Later.drew | apply Later.drewN | apply Later.alloc | (refine Later.step ?_ (by assumption))))) (first
          | (go_at_call 24; (with_reducible refine (Add_b _ _ _ _ _ _ _ (BigB.ext (by assumption) (by repeat (first | (with_reducible exact Ext.refl _) | (with_reducible apply Ext.drew) | (with_reducible apply Ext.drewN) | (with_reducible refine Ext.trans ?_ (by assumption))))) (BigB.ext (by assumption) (by repeat (first | (with_reducible exact Ext.refl _) | (with_reducible apply Ext.drew) | (with_reducible apply Ext.drewN) | (with_reducible refine Ext.trans ?_ (by assumption))))) (by decide)).mono ?_); rintro e wk ⟨vk, rfl, hbk, hxk⟩; (obtain ⟨pk, Ak, nk, ck, rfl⟩ := hbk.1.shape))
          | (go_at_call 28; (with_reducible refine (Sub_b _ _ _ _ _ _ _ (BigB.ext (by assumption) (by repeat (first | (with_reducible exact Ext.refl _) | (with_reducible apply Ext.drew) | (with_reducible apply Ext.drewN) | (with_reducible refine Ext.trans ?_ (by assumption))))) (BigB.ext (by assumption) (by repeat (first | (with_reducible exact Ext.refl _) | (with_reducible apply Ext.drew) | (with_reducible apply Ext.drewN) | (with_reducible refine Ext.trans ?_ (by assumption))))) (by decide)).mono ?_); rintro e wk ⟨vk, rfl, hbk, hxk⟩; (obtain ⟨pk, Ak, nk, ck, rfl⟩ := hbk.1.shape))
          | (go_at_call 23; (with_reducible refine (Mul_b _ _ _ _ _ _ _ (BigB.ext (by assumption) (by repeat (first | (with_reducible exact Ext.refl _) | (with_reducible apply Ext.drew) | (with_reducible apply Ext.drewN) | (with_reducible refine Ext.trans ?_ (by assumption))))) (BigB.ext (by assumption) (by repeat (first | (with_reducible exact Ext.refl _) | (with_reducible apply Ext.drew) | (with_reducible apply Ext.drewN) | (with_reducible refine Ext.trans ?_ (by assumption))))) (by decide)).mono ?_); rintro e wk ⟨vk, rfl, hbk, hxk⟩; (obtain ⟨pk, Ak, nk, ck, rfl⟩ := hbk.1.shape))
          | (go_at_call 27; (with_reducible refine (Neg_b _ _ _ _ (BigB.ext (by assumption) (by repeat (first | (with_reducible exact Ext.refl _) | (with_reducible apply Ext.drew) | (with_reducible apply Ext.drewN) | (with_reducible refine Ext.trans ?_ (by assumption)))))).mono ?_); rintro e wk ⟨vk, rfl, hbk, hxk⟩; (obtain ⟨pk, Ak, nk, ck, rfl⟩ := hbk.1.shape))
          | (go_at_call 25; (with_reducible refine (abs_b _ _ _ _ (BigB.ext (by assumption) (by repeat (first | (with_reducible exact Ext.refl _) | (with_reducible apply Ext.drew) | (with_reducible apply Ext.drewN) | (with_reducible refine Ext.trans ?_ (by assumption)))))).mono ?_); rintro e wk ⟨vk, rfl, hbk, hxk⟩; (obtain ⟨pk, Ak, nk, ck, rfl⟩ := hbk.1.shape))
          | (go_at_call 20; (with_reducible refine (Cmp_eqb _ _ _ _ _ _ _ (BigB.ext (by assumption) (by repeat (first | (with_reducible exact Ext.refl _) | (with_reducible apply Ext.drew) | (with_reducible apply Ext.drewN) | (with_reducible refine Ext.trans ?_ (by assumption))))) (BigB.ext (by assumption) (by repeat (first | (with_reducible exact Ext.refl _) | (with_reducible apply Ext.drew) | (with_reducible apply Ext.drewN) | (with_reducible refine Ext.trans ?_ (by assumption))))) (by first | exact Int.add_comm _ _ | exact Int.mul_comm _ _ | exact Int.add_assoc _ _ _ | exact Int.mul_assoc _ _ _ | exact Int.mul_add _ _ _ | exact Int.sub_eq_add_neg | assumption | exact rfl)).mono ?_); rintro e wk ⟨rfl, hxk⟩)
          | (go_at_call 20; (with_reducible refine (Cmp_b _ _ _ _ _ _ _ (BigB.ext (by assumption) (by repeat (first | (with_reducible exact Ext.refl _) | (with_reducible apply Ext.drew) | (with_reducible apply Ext.drewN) | (with_reducible refine Ext.trans ?_ (by assumption))))) (BigB.ext (by assumption) (by repeat (first | (with_reducible exact Ext.refl _) | (with_reducible apply Ext.drew) | (with_reducible apply Ext.drewN) | (with_reducible refine Ext.trans ?_ (by assumption)))))).mono ?_); rintro e wk ⟨rfl, hxk⟩)
          | (go_at_call 16; (with_reducible refine (Sign_b _ _ _ _ (BigB.ext (by assumption) (by repeat (first | (with_reducible exact Ext.refl _) | (with_reducible apply Ext.drew) | (with_reducible apply Ext.drewN) | (with_reducible refine Ext.trans ?_ (by assumption)))))).mono ?_); rintro e wk ⟨rfl, hxk⟩)
          | (go_at_call 17; (with_reducible refine (T0 _ (BigV.ext hz0 (by repeat (first | (with_reducible exact Ext.refl _) | (with_reducible apply Ext.drew) | (with_reducible apply Ext.drewN) | (with_reducible refine Ext.trans ?_ (by assumption)))))).mono ?_); rintro e wk ⟨rfl, hxk⟩)
          | (go_at_call 26; (with_reducible refine (Q0 _ (BigV.ext hz0 (by repeat (first | (with_reducible exact Ext.refl _) | (with_reducible apply Ext.drew) | (with_reducible apply Ext.drewN) | (with_reducible refine Ext.trans ?_ (by assumption)))))).mono ?_); rintro e wk ⟨rfl, hxk⟩)
        )
      all_goals go_wp2_with fail
      all_goals go_ret
      all_goals exact ⟨rfl, hEf.trans (show Later V _ by first | assumption | (apply Later.drew; assumption) | (apply Later.drewN; assumption))⟩
end Go.Proofs.YtnojllmidpdbcaaDoor.Big

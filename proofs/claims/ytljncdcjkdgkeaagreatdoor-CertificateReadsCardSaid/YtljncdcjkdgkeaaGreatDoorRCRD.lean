/- Walks: words of the reference. -/
import Derived.Test.YtljncdcjkdgkeaaGreatDoorRCDZ
import Derived.Test.YtljncdcjkdgkeaaGreatDoorRCRC
set_option linter.unusedVariables false
set_option linter.unusedSimpArgs false
namespace Go.Proofs.YtljncdcjkdgkeaaGreatDoor.Dc
open Go.RowKit Go.Proofs.YtljncdcjkdgkeaaGreatDoor.Big Go.Proofs.YtljncdcjkdgkeaaGreatDoor.Lp Go.Proofs.YtljncdcjkdgkeaaGreatDoor.Rt

def RowP (w : World) (L : List BL) (e : Ending) (w' : World) : Prop := (∃ A c, e = .returned (.slice A L.length c) ∧ RowS w' (.slice A L.length c) L) ∧ Ext w w'
set_option maxHeartbeats 2000000 in
set_option maxRecDepth 100000 in
theorem words_b (t : BL) (w : World) (ht : t.length ≤ 1048576) : Calls Tryz.prog 92 #[.string (str t)] w (RowP w (parts 32 t)) := by
  have hss : (str t).size = t.length := rfl
  obtain ⟨i0, hi, hz0, hz1, hz2⟩ := info_parts infoStr
  obtain ⟨R, hR⟩ : ∃ R, R = parts 32 t := ⟨_, rfl⟩
  rw [← hR]
  have HR := Lib.hid hR
  clear hR
  go_enter Tryz.func92, Tryz.ntmps92
  go_wp2_with fail
  go_loopw [3, 4, 5] (fun sv fv iv wr => ∃ (k fr M : Nat) (L : List BL) (A : Option Addr) (c : Nat), k ≤ t.length + 1 ∧ iv = .int .i64 k ∧ fr ≤ k ∧ fv = .int .i64 fr ∧ M ≤ k ∧ sv = .slice A M c ∧ Hid (L.length = M) ∧ Hid (k ≤ t.length → parts 32 (t.take k) = L ++ [(t.take k).drop fr]) ∧ Hid (k = t.length + 1 → L = R) ∧ OwnX wr w.heap.size 9 1 (.slice A M c) M (sV L) ∧ Ext w wr) (fun _ _ i _ => t.length + 1 - (intOf i).toNat)
  case atStart => exact ⟨0, 0, 0, [], none, 0, by omega, rfl, by omega, rfl, by omega, rfl, Lib.hid rfl, Lib.hid (fun _ => by simp [parts]), Lib.hid (fun h => by omega), OwnX.nil _ _ _ _, Ext.refl w⟩
  case round =>
    obtain ⟨k, fr, M, L, A, c, hk, rfl, hfr, rfl, hM, rfl, HL, HP, HE, oX, hxr⟩ := hrel
    by_cases hle : k ≤ t.length
    · have hpk := HP.out hle
      obtain ⟨Q, hQ⟩ : ∃ Q, Q = (t.take k).drop fr := ⟨_, rfl⟩
      have hex : (str t).extract fr k = str Q := by rw [extract_drop, hQ, List.drop_take]
      rw [← hQ] at hpk
      have HPK := Lib.hid hpk
      have HQ := Lib.hid hQ
      have hza : Ext wr (wr.alloc (.cells #[.string (str Q)] 9)) := (Ext.refl wr).alloc _
      have hsz : w.heap.size ≤ (wr.alloc (.cells #[.string (str Q)] 9)).heap.size := (hxr.trans hza).size
      have HL2 : Hid ((L ++ [Q]).length = M + 1) := Lib.hid (by rw [List.length_append, HL.out]; rfl)
      clear hpk hQ
      by_cases hend : k = t.length
      · have e1 : ((k : Int) == (t.length : Int)) = true := by rw [hend]; simp
        have HF : Hid (L ++ [Q] = R) := Lib.hid (by rw [← HPK.out, HR.out, hend, List.take_length])
        have HT : Hid (k = t.length) := Lib.hid hend
        clear hend
        go_upto_region 8 with (at_builtin; refine wpList_pushX rfl (.tmp 22) (.tmp 27) 125 rfl w.heap.size 9 i0 (.string ⟨#[]⟩) 1 16 Tryz.underlying125 hi hz0 hz1 hz2 rfl zStr _ M _ rfl (oX.ext hza) wr.heap.size [.string (str Q)] 1 rfl rfl (new1 wr 9 _) (one1 rfl) (nou1 rfl) (by omega) (by decide) hsz ?_; intro v6 w6 o6 r6 s6; obtain ⟨A6, d6, rfl⟩ := o6.shape)
        have hX6 := r6.ext (hxr.trans hza) (fun g hg => (oX.lt hg).1)
        have o7 : OwnX w6 w.heap.size 9 1 (.slice A6 (M + 1) d6) (M + 1) (sV (L ++ [Q])) := by rw [sV_snoc]; exact o6
        have HT2 : Hid (k + 1 = t.length + 1) := Lib.hid (by rw [HT.out])
        clear hza hsz o6 r6 s6 oX
        go_wp2_with fail
        go_roundw
        case rel => exact ⟨k + 1, k + 1, M + 1, L ++ [Q], A6, d6, by omega, by go_num, by omega, by go_num, by omega, rfl, HL2, Lib.hid (fun h => by have := HT2.out; omega), Lib.hid (fun _ => HF.out), o7, hX6⟩
        case measure => simp [intOf]; omega
      · have hlt : k < t.length := by omega
        have e1 : ((k : Int) == (t.length : Int)) = false := by rw [beq_eq_false_iff_ne]; omega
        have hlt' : k < (str t).size := by omega
        obtain ⟨c0, hc⟩ : ∃ c, t[k]? = some c := ⟨_, List.getElem?_eq_getElem hlt⟩
        have hg : (str t)[k]'hlt' = c0 := str_get hc hlt'
        have htk : t.take (k + 1) = t.take k ++ [c0] := by rw [List.take_add_one, hc]; rfl
        by_cases h32 : c0 = 32
        · subst h32
          have e2 : ((((str t)[k]'hlt').toNat : Int) == 32) = true := by rw [hg]; rfl
          have HP2 : Hid (k + 1 ≤ t.length → parts 32 (t.take (k + 1)) = (L ++ [Q]) ++ [(t.take (k + 1)).drop (k + 1)]) := Lib.hid (fun _ => by
            rw [htk, parts_sep, HPK.out]
            congr 2
            rw [List.drop_of_length_le]
            rw [List.length_append, List.length_take, List.length_singleton]; omega)
          clear hg hc htk hend HP HE
          go_upto_region 8 with (at_builtin; refine wpList_pushX rfl (.tmp 22) (.tmp 27) 125 rfl w.heap.size 9 i0 (.string ⟨#[]⟩) 1 16 Tryz.underlying125 hi hz0 hz1 hz2 rfl zStr _ M _ rfl (oX.ext hza) wr.heap.size [.string (str Q)] 1 rfl rfl (new1 wr 9 _) (one1 rfl) (nou1 rfl) (by omega) (by decide) hsz ?_; intro v6 w6 o6 r6 s6; obtain ⟨A6, d6, rfl⟩ := o6.shape)
          have hX6 := r6.ext (hxr.trans hza) (fun g hg => (oX.lt hg).1)
          have o7 : OwnX w6 w.heap.size 9 1 (.slice A6 (M + 1) d6) (M + 1) (sV (L ++ [Q])) := by rw [sV_snoc]; exact o6
          clear hza hsz o6 r6 s6 oX
          go_wp2_with fail
          go_roundw
          case rel => exact ⟨k + 1, k + 1, M + 1, L ++ [Q], A6, d6, by omega, by go_num, by omega, by go_num, by omega, rfl, HL2, HP2, Lib.hid (fun h => by omega), o7, hX6⟩
          case measure => simp [intOf]; omega
        · have e2 : ((((str t)[k]'hlt').toNat : Int) == 32) = false := by
            rw [hg]
            have : ¬ c0.toNat = 32 := fun h => h32 (UInt8.toNat_inj.1 (by simpa using h))
            simp; omega
          have HP2 : Hid (k + 1 ≤ t.length → parts 32 (t.take (k + 1)) = L ++ [(t.take (k + 1)).drop fr]) := Lib.hid (fun _ => by
            rw [htk, parts_last h32 _ _ _ HPK.out, List.drop_append_of_le_length (by rw [List.length_take]; omega), ← HQ.out])
          clear hg hc htk hend HP HE hza hsz hex
          go_wp2_with fail
          go_roundw
          case rel => exact ⟨k + 1, fr, M, L, A, c, by omega, by go_num, by omega, rfl, by omega, rfl, HL, HP2, Lib.hid (fun h => by omega), oX, hxr⟩
          case measure => simp [intOf]; omega
    · have hke : k = t.length + 1 := by omega
      have hLR := HE.out hke
      have hML : M = L.length := HL.out.symm
      have i1 : decide ((k : Int) ≤ (t.length : Int)) = false := decide_eq_false (by omega)
      subst hLR hML
      have hrow := RowS.of_own oX
      have HROW := Lib.hid hrow
      clear hke HP HE oX hrow
      go_wp2_with fail
      go_ret
      exact ⟨⟨A, c, rfl, HROW.out⟩, hxr⟩
def okL (ws : List BL) : Bool := ws.all isRat
def lnR0 (a : BL) : Option Bool := match parts 32 a with
  | [] => none
  | w0 :: ws => if w0 = splB then (if (spl ws).isSome then some true else none) else if (w0 = emptyB ∨ w0 = boundB) ∧ okL ws = true then some false else none
def LineP (w : World) (o : Option Bool) (e : Ending) (w' : World) : Prop := (∃ vr fl em A n c, e = .returned (.tuple #[.agg #[.int .i64 vr, .int .i64 fl, .bool em, .slice A n c, .int .i64 0, .int .i64 0], .bool o.isSome]) ∧ (o = some true → 0 ≤ vr) ∧ (o = some false → vr < 0)) ∧ Ext w w'
theorem ext_set6 {a w : World} {rb : Nat} (h : Ext a w) (hb : a.heap.size ≤ rb) (v0 v1 v2 v3 v4 v5 : Value) : Ext a ((((((w.setCell ⟨rb, 0, none⟩ v0).setCell ⟨rb, 1, none⟩ v1).setCell ⟨rb, 2, none⟩ v2).setCell ⟨rb, 3, none⟩ v3).setCell ⟨rb, 4, none⟩ v4).setCell ⟨rb, 5, none⟩ v5) :=
  (((((h.set (p := ⟨rb, 0, none⟩) hb v0).set (p := ⟨rb, 1, none⟩) hb v1).set (p := ⟨rb, 2, none⟩) hb v2).set (p := ⟨rb, 3, none⟩) hb v3).set (p := ⟨rb, 4, none⟩) hb v4).set (p := ⟨rb, 5, none⟩) hb v5
set_option maxHeartbeats 2000000 in
set_option maxRecDepth 100000 in
theorem line_h (t : BL) (w : World) (ht : t.length ≤ 1048576)
    (HW : Hid (∀ W, Calls Tryz.prog 92 #[.string (str t)] W (RowP W (parts 32 t))))
    (HNU : Hid (∀ l W, l ∈ parts 32 t → Calls Tryz.prog 93 #[.string (str l)] W (NumP W (num l))))
    (HMU : Hid (∀ l W, l ∈ parts 32 t → Calls Tryz.prog 94 #[.string (str l)] W (fun e w' => e = .returned (.bool (isRat l)) ∧ Ext W w'))) :
    Calls Tryz.prog 65 #[.string (str t)] w (LineP w (lnR0 t)) := by
  obtain ⟨R, hR⟩ : ∃ R, R = lnR0 t := ⟨_, rfl⟩
  rw [← hR]
  have HR := Lib.hid hR
  clear hR
  obtain ⟨w0, ws, hp⟩ : ∃ w0 ws, parts 32 t = w0 :: ws := by
    cases h : parts 32 t with
    | nil => exact absurd h (parts_ne _ _)
    | cons x y => exact ⟨x, y, rfl⟩
  rw [hp] at HW HNU HMU
  have HLN : Hid (R = if w0 = splB then (if (spl ws).isSome then some true else none) else if (w0 = emptyB ∨ w0 = boundB) ∧ okL ws = true then some false else none) := Lib.hid (by rw [HR.out]; unfold lnR0; rw [hp])
  clear hp HR
  go_enter Tryz.func65, Tryz.ntmps65
  have RB := Box.new w 127 #[.int .i64 0, .int .i64 0, .bool false, .slice none 0 0, .int .i64 0, .int .i64 0]
  have hE : Ext w (w.alloc (.cells #[.int .i64 0, .int .i64 0, .bool false, .slice none 0 0, .int .i64 0, .int .i64 0] 127)) := (Ext.refl w).alloc _
  go_upto_region 1 with fail
  generalize (w.alloc (.cells #[.int .i64 0, .int .i64 0, .bool false, .slice none 0 0, .int .i64 0, .int .i64 0] 127)) = V at *
  obtain ⟨rb, hrb⟩ : ∃ x, x = w.heap.size := ⟨_, rfl⟩
  rw [← hrb] at RB ⊢
  have hwr : w.heap.size ≤ rb := by omega
  clear hrb
  go_wp2_with fail
  refine (HW.out V).mono ?_
  rintro e w1 ⟨⟨A, c, rfl, A', c', hA, hcap, hcap2, hrow⟩, hx1⟩
  injection hA with hA _ hc
  subst hA hc
  have RB1 := RB.ext hx1
  have hE1 := hE.trans hx1
  clear RB hx1 hE
  obtain ⟨b, rfl, -, hcell⟩ := hrow (by simp)
  obtain ⟨N, hN⟩ : ∃ N, N = ws.length := ⟨_, rfl⟩
  have hlen : (w0 :: ws).length = N + 1 := by rw [hN]; rfl
  rw [hlen] at hrow hcap ⊢
  have e0 := hcell 0 w0 rfl
  have HC := Lib.hid hcell
  have HN := Lib.hid hN
  have i1 : (0 : Int) < ((N + 1 : Nat) : Int) := by omega
  have hsl : (str w0).toList = w0 := by rw [Lib.toList_data, str_list]
  clear hcell hlen hN hrow
  have c0 := RB1.c0
  have c1 := RB1.c1
  have c2 : w1.cell? ⟨rb, 2, none⟩ = some (.bool false) := RB1.cell 2
  have c3 : w1.cell? ⟨rb, 3, none⟩ = some (.slice none 0 0) := RB1.cell 3
  have c4 : w1.cell? ⟨rb, 4, none⟩ = some (.int .i64 0) := RB1.cell 4
  have c5 : w1.cell? ⟨rb, 5, none⟩ = some (.int .i64 0) := RB1.cell 5
  have z0 := RB1.frozen 0
  have z1 := RB1.frozen 1
  have z2 := RB1.frozen 2
  have z3 := RB1.frozen 3
  have z4 := RB1.frozen 4
  have z5 := RB1.frozen 5
  by_cases hsp : w0 = splB
  · have e9 : (w0 == [115, 112, 108, 105, 116]) = true := by rw [hsp]; decide
    have HLN2 : Hid (R = if (spl ws).isSome then some true else none) := Lib.hid (by rw [HLN.out, if_pos hsp])
    clear hsp
    by_cases hN2 : N = 2
    · subst hN2
      obtain ⟨x, y, hxy⟩ : ∃ x y, ws = [x, y] := by
        have := HN.out
        match ws, this with
        | [x, y], _ => exact ⟨x, y, rfl⟩
      have e3 := HC.out 1 x (by rw [hxy]; rfl)
      have e4 := HC.out 2 y (by rw [hxy]; rfl)
      have HNX : Hid (∀ W, Calls Tryz.prog 93 #[.string (str x)] W (NumP W (num x))) := Lib.hid (fun W => HNU.out x W (by rw [hxy]; simp))
      have HNY : Hid (∀ W, Calls Tryz.prog 93 #[.string (str y)] W (NumP W (num y))) := Lib.hid (fun W => HNU.out y W (by rw [hxy]; simp))
      have hspl : spl ws = match num x, num y with
        | some v, some fl => if 0 ≤ v ∧ v ≤ 9999 then some (v, fl) else none
        | _, _ => none := by rw [hxy]; rfl
      have HSP := Lib.hid hspl
      clear hxy hspl HC HN
      go_wp2_with fail
      refine (HNX.out _).mono ?_
      rintro e w2 ⟨⟨v, bv, rfl, hbv, hv⟩, rfl⟩
      have HBV := Lib.hid hbv
      have HV := Lib.hid hv
      clear hbv hv
      go_wp2_with fail
      refine (HNY.out _).mono ?_
      rintro e w3 ⟨⟨fl, bf, rfl, hbf, hfl⟩, rfl⟩
      have HBF := Lib.hid hbf
      have HFL := Lib.hid hfl
      clear hbf hfl
      by_cases hgood : (bv = true ∧ bf = true) ∧ 0 ≤ v ∧ v ≤ 9999
      case neg =>
        have HF : Hid (R = none) := Lib.hid (by
          rw [HLN2.out, HSP.out]
          have hbv := HBV.out
          have hbf := HBF.out
          have hv := HV.out
          cases hnx : num x with
          | none => rfl
          | some v' =>
            cases hny : num y with
            | none => rfl
            | some fl' =>
              have e1 := hv _ hnx
              rw [hnx] at hbv
              rw [hny] at hbf
              show (if (if 0 ≤ v' ∧ v' ≤ 9999 then some (v', fl') else none).isSome = true then _ else none) = none
              rw [if_neg (show ¬ (0 ≤ v' ∧ v' ≤ 9999) by rw [← e1]; intro h; exact hgood ⟨⟨hbv, hbf⟩, h⟩)]
              rfl)
        have HG := Lib.hid hgood
        clear HV HFL HBV HBF hgood
        cases bv with
        | false =>
          go_wp2_with fail
          refine bodyPost_ret (v := .tuple #[.agg #[.int .i64 v, .int .i64 fl, .bool false, .slice none 0 0, .int .i64 0, .int .i64 0], .bool false]) (by simp [results, Tryz.results65, go_sem, c0, c1, c2, c3, c4, c5, z0, z1, z2, z3, z4, z5]) rfl ?_
          exact ⟨⟨v, fl, false, none, 0, 0, by rw [HF.out]; rfl, fun h => (by rw [HF.out] at h; cases h), fun h => (by rw [HF.out] at h; cases h)⟩, ext_set6 hE1 hwr _ _ _ _ _ _⟩
        | true =>
          cases bf with
          | false =>
            go_wp2_with fail
            refine bodyPost_ret (v := .tuple #[.agg #[.int .i64 v, .int .i64 fl, .bool false, .slice none 0 0, .int .i64 0, .int .i64 0], .bool false]) (by simp [results, Tryz.results65, go_sem, c0, c1, c2, c3, c4, c5, z0, z1, z2, z3, z4, z5]) rfl ?_
            exact ⟨⟨v, fl, false, none, 0, 0, by rw [HF.out]; rfl, fun h => (by rw [HF.out] at h; cases h), fun h => (by rw [HF.out] at h; cases h)⟩, ext_set6 hE1 hwr _ _ _ _ _ _⟩
          | true =>
            by_cases hv0 : v < 0
            · have u1 : decide ((0 : Int) ≤ v) = false := decide_eq_false (by omega)
              go_wp2_with fail
              refine bodyPost_ret (v := .tuple #[.agg #[.int .i64 v, .int .i64 fl, .bool false, .slice none 0 0, .int .i64 0, .int .i64 0], .bool false]) (by simp [results, Tryz.results65, go_sem, c0, c1, c2, c3, c4, c5, z0, z1, z2, z3, z4, z5]) rfl ?_
              exact ⟨⟨v, fl, false, none, 0, 0, by rw [HF.out]; rfl, fun h => (by rw [HF.out] at h; cases h), fun h => (by rw [HF.out] at h; cases h)⟩, ext_set6 hE1 hwr _ _ _ _ _ _⟩
            · have u1 : decide ((0 : Int) ≤ v) = true := decide_eq_true (by omega)
              have hv9 : (9999 : Int) < v := by
                by_cases h : (9999 : Int) < v
                · exact h
                · exact (HG.out ⟨⟨rfl, rfl⟩, by omega, by omega⟩).elim
              have u2 : decide (v ≤ 9999) = false := decide_eq_false (by omega)
              go_wp2_with fail
              refine bodyPost_ret (v := .tuple #[.agg #[.int .i64 v, .int .i64 fl, .bool false, .slice none 0 0, .int .i64 0, .int .i64 0], .bool false]) (by simp [results, Tryz.results65, go_sem, c0, c1, c2, c3, c4, c5, z0, z1, z2, z3, z4, z5]) rfl ?_
              exact ⟨⟨v, fl, false, none, 0, 0, by rw [HF.out]; rfl, fun h => (by rw [HF.out] at h; cases h), fun h => (by rw [HF.out] at h; cases h)⟩, ext_set6 hE1 hwr _ _ _ _ _ _⟩
      case pos =>
      obtain ⟨⟨rfl, rfl⟩, hv0, hv9⟩ := hgood
      have HF : Hid (R = some true) := Lib.hid (by
        rw [HLN2.out, HSP.out]
        have hbv := HBV.out
        have hbf := HBF.out
        have hv := HV.out
        cases hnx : num x with
        | none => rw [hnx] at hbv; cases hbv
        | some v' =>
          cases hny : num y with
          | none => rw [hny] at hbf; cases hbf
          | some fl' =>
            have e1 := hv _ hnx
            show (if (if 0 ≤ v' ∧ v' ≤ 9999 then some (v', fl') else none).isSome = true then _ else none) = _
            rw [← e1, if_pos (show 0 ≤ v ∧ v ≤ 9999 from ⟨hv0, hv9⟩)]
            rfl)
      have u1 : decide ((0 : Int) ≤ v) = true := decide_eq_true (by omega)
      have u2 : decide (v ≤ 9999) = true := decide_eq_true (by omega)
      have HV0 := Lib.hid hv0
      clear HV HFL HBV HBF hv0 hv9
      go_wp2_with fail
      refine bodyPost_ret (v := .tuple #[.agg #[.int .i64 v, .int .i64 fl, .bool false, .slice none 0 0, .int .i64 0, .int .i64 0], .bool true]) (by simp [results, Tryz.results65, go_sem, c0, c1, c2, c3, c4, c5, z0, z1, z2, z3, z4, z5]) rfl ?_
      exact ⟨⟨v, fl, false, none, 0, 0, by rw [HF.out]; rfl, fun _ => HV0.out, fun h => (by rw [HF.out] at h; cases h)⟩, ext_set6 hE1 hwr _ _ _ _ _ _⟩
    · have e3 : ¬ ((N : Int) + 1 = 3) := by omega
      have e1 : (((N : Int) + 1) == 3) = false := by rw [beq_eq_false_iff_ne]; exact e3
      have e2 : (((N : Int) + 1) != 3) = true := by rw [bne, e1]; rfl
      have HF : Hid (R = none) := Lib.hid (by
        rw [HLN2.out]
        have : spl ws = none := by
          have hl2 : ws.length ≠ 2 := by rw [← HN.out]; exact hN2
          unfold spl
          split
          · exact absurd rfl hl2
          · rfl
        rw [this]; rfl)
      clear hN2
      go_wp2_with fail
      refine bodyPost_ret (v := .tuple #[.agg #[.int .i64 0, .int .i64 0, .bool false, .slice none 0 0, .int .i64 0, .int .i64 0], .bool false]) (by simp [results, Tryz.results65, go_sem, c0, c1, c2, c3, c4, c5, z0, z1, z2, z3, z4, z5]) rfl ?_
      exact ⟨⟨0, 0, false, none, 0, 0, by rw [HF.out]; rfl, fun h => (by rw [HF.out] at h; cases h), fun h => (by rw [HF.out] at h; cases h)⟩, ext_set6 hE1 hwr _ _ _ _ _ _⟩
  · have e9 : (w0 == [115, 112, 108, 105, 116]) = false := by simpa [splB] using hsp
    have HLN2 : Hid (R = if (w0 = emptyB ∨ w0 = boundB) ∧ okL ws = true then some false else none) := Lib.hid (by rw [HLN.out, if_neg hsp])
    clear hsp
    by_cases hw0 : w0 = emptyB ∨ w0 = boundB
    case neg =>
      have e5 : (w0 == [98, 111, 117, 110, 100]) = false := by rw [beq_eq_false_iff_ne]; exact fun h => hw0 (.inr h)
      have e6 : (w0 == [101, 109, 112, 116, 121]) = false := by rw [beq_eq_false_iff_ne]; exact fun h => hw0 (.inl h)
      have HF : Hid (R = none) := Lib.hid (by rw [HLN2.out, if_neg (fun h => hw0 h.1)])
      clear hw0
      go_wp2_with fail
      refine bodyPost_ret (v := .tuple #[.agg #[.int .i64 0, .int .i64 0, .bool false, .slice none 0 0, .int .i64 0, .int .i64 0], .bool false]) (by simp [results, Tryz.results65, go_sem, c0, c1, c2, c3, c4, c5, z0, z1, z2, z3, z4, z5]) rfl ?_
      exact ⟨⟨0, 0, false, none, 0, 0, by rw [HF.out]; rfl, fun h => (by rw [HF.out] at h; cases h), fun h => (by rw [HF.out] at h; cases h)⟩, ext_set6 hE1 hwr _ _ _ _ _ _⟩
    case pos =>
    obtain ⟨em, hem⟩ : ∃ em, em = (w0 == [101, 109, 112, 116, 121]) := ⟨_, rfl⟩
    have e6 := hem.symm
    have e5 : (w0 == [98, 111, 117, 110, 100]) = !em := by
      rcases hw0 with h | h
      · rw [hem, h]; decide
      · rw [hem, h]; decide
    have HLN3 : Hid (R = if okL ws = true then some false else none) := Lib.hid (by
      rw [HLN2.out]
      by_cases h : okL ws = true
      · rw [if_pos ⟨hw0, h⟩, if_pos h]
      · rw [if_neg (fun q => h q.2), if_neg h])
    have HW0 := Lib.hid hw0
    clear hem hw0
    go_upto_region 8 with fail
    go_cut [59] (fun v wx => v = .bool false ∧ wx = w1)
    case first =>
      cases em with
      | true =>
        go_wp2_with fail
        go_meet
        exact ⟨rfl, rfl⟩
      | false =>
        go_wp2_with fail
        go_meet
        exact ⟨rfl, rfl⟩
    case rest =>
    rename_i hK
    obtain ⟨rfl, hwx⟩ := hcut
    refine hK _ _ ?_
    clear hK
    subst hwx
    have ke0 : ∀ w', Ext wc w' → w'.cell? ⟨b, 0, none⟩ = some (.string (str w0)) := fun w' h => h.cell e0
    go_upto_region 10 with fail
    go_cut [4, 9] (fun v4 v wx => ∃ (AY : Option Addr) (cY nb : Nat), v = .pointer (some ⟨nb, 0, none⟩) ∧ Box wx nb 127 #[.int .i64 (-1), .int .i64 0, .bool em, .slice AY N cY, .int .i64 0, .int .i64 0] ∧ Ext wc wx ∧ (0 < N → AY = some ⟨b, 1, none⟩))
    case first =>
      have i2 : (1 : Int) ≤ (N : Int) + 1 := by omega
      have i3 : (N : Int) + 1 ≤ (c : Int) := by omega
      have i4 : (1 : Int) ≤ (c : Int) := by omega
      clear c0 c1 c2 c3 c4 c5 z0 z1 z2 z3 z4 z5
      have ks := Ext.refl wc
      have HCN : Hid (0 < N → ¬ c = 1) := Lib.hid (fun h => by omega)
      go_region_held3 (fun w' => Ext wc w') ((repeat (first | (with_reducible assumption) | (with_reducible apply Ext.drew) | (with_reducible apply Ext.drewN) | (with_reducible apply Ext.alloc)))) (fail)
      all_goals (go_wp2_with fail)
      all_goals (
        go_meet
        first
        | exact ⟨_, _, _, rfl, (Box.new wc 127 _).ext ((Ext.refl _).drew), ((Ext.refl wc).alloc _).drew, fun _ => rfl⟩
        | exact ⟨_, _, _, rfl, (Box.new wc 127 _).ext ((Ext.refl _).drew), ((Ext.refl wc).alloc _).drew, fun hn => absurd (by assumption) (HCN.out hn)⟩)
    case rest =>
    rename_i hK
    obtain ⟨AY, cY, nb, rfl, NB, hxc, hAY⟩ := hcut
    refine hK _ _ ?_
    have hNb : N ≤ 9223372036854775806 := by omega
    clear hK ke0 e0 hsl e5 e6 i1 hcap hcap2
    rename_i wd
    have RB2 := RB1.ext hxc
    have hEd := hE1.trans hxc
    have HAY := Lib.hid hAY
    clear c0 c1 c2 c3 c4 c5 z0 z1 z2 z3 z4 z5 RB1 hAY
    go_wp2_with fail
    go_loopw [10] (fun iv wr => ∃ k : Nat, k ≤ N ∧ iv = .int .i64 k ∧ Hid (∀ x ∈ ws.take k, isRat x = true) ∧ Ext wc wr) (fun i _ => N - (intOf i).toNat)
    case atStart => exact ⟨0, by omega, rfl, Lib.hid (by simp), Ext.refl _⟩
    case round =>
      obtain ⟨k, hk, rfl, HK, hxr⟩ := hrel
      have NBr := NB.ext hxr
      have RBr := RB2.ext hxr
      have n3 : wr.cell? ⟨nb, 3, none⟩ = some (.slice AY N cY) := NBr.cell 3
      have hEr := hEd.trans hxr
      by_cases hlt : k < N
      · obtain ⟨x, hx⟩ : ∃ x, ws[k]? = some x := ⟨_, List.getElem?_eq_getElem (by have := HN.out; omega)⟩
        have i5 : (0 : Int) ≤ (k : Int) := by omega
        have i6 : (k : Int) < (N : Int) := by omega
        have hay := HAY.out (by omega)
        rw [hay] at n3
        have e7 := (hxc.trans hxr).cell (HC.out (k + 1) x (by simpa using hx))
        rw [Nat.add_comm] at e7
        have HM9 := HMU.out x wr (List.mem_cons_of_mem _ (List.mem_of_getElem? hx))
        obtain ⟨B, hB⟩ : ∃ B, B = isRat x := ⟨_, rfl⟩
        rw [← hB] at HM9
        have HB := Lib.hid hB
        have HX := Lib.hid hx
        clear hB hx hay
        go_wp2_with fail
        refine HM9.mono ?_
        rintro e w9 ⟨rfl, hx9⟩
        have hE9 := hEr.trans hx9
        have RB9 := RBr.ext hx9
        clear n3 e7 HM9
        cases B with
        | false =>
          have HF : Hid (R = none) := Lib.hid (by
            rw [HLN3.out, if_neg]
            intro h
            have := List.all_eq_true.1 h x (List.mem_of_getElem? HX.out)
            rw [← HB.out] at this; cases this)
          have c0 := RB9.c0
          have c1 := RB9.c1
          have c2 : w9.cell? ⟨rb, 2, none⟩ = some (.bool false) := RB9.cell 2
          have c3 : w9.cell? ⟨rb, 3, none⟩ = some (.slice none 0 0) := RB9.cell 3
          have c4 : w9.cell? ⟨rb, 4, none⟩ = some (.int .i64 0) := RB9.cell 4
          have c5 : w9.cell? ⟨rb, 5, none⟩ = some (.int .i64 0) := RB9.cell 5
          have z0 := RB9.frozen 0
          have z1 := RB9.frozen 1
          have z2 := RB9.frozen 2
          have z3 := RB9.frozen 3
          have z4 := RB9.frozen 4
          have z5 := RB9.frozen 5
          go_wp2_with fail
          refine bodyPost_ret (v := .tuple #[.agg #[.int .i64 0, .int .i64 0, .bool false, .slice none 0 0, .int .i64 0, .int .i64 0], .bool false]) (by simp [results, Tryz.results65, go_sem, c0, c1, c2, c3, c4, c5, z0, z1, z2, z3, z4, z5]) rfl ?_
          exact ⟨⟨0, 0, false, none, 0, 0, by rw [HF.out]; rfl, fun h => (by rw [HF.out] at h; cases h), fun h => (by rw [HF.out] at h; cases h)⟩, ext_set6 hE9 hwr _ _ _ _ _ _⟩
        | true =>
          have HK2 : Hid (∀ y ∈ ws.take (k + 1), isRat y = true) := Lib.hid (by
            intro y hy
            rw [List.take_add_one, HX.out, List.mem_append] at hy
            rcases hy with hy | hy
            · exact HK.out y hy
            · rw [Option.toList_some, List.mem_singleton] at hy
              rw [hy]; exact HB.out.symm)
          clear HK HB HX
          go_wp2_with fail
          go_roundw
          case rel => exact ⟨k + 1, by omega, by go_num, HK2, hxr.trans hx9⟩
          case measure => simp [intOf]; omega
      · obtain rfl : k = N := by omega
        have hk' := HK.out
        rw [HN.out, List.take_length] at hk'
        have HF : Hid (R = some false) := Lib.hid (by
          rw [HLN3.out, if_pos]
          exact List.all_eq_true.2 hk')
        have c0 := RBr.c0
        have c1 := RBr.c1
        have c2 : wr.cell? ⟨rb, 2, none⟩ = some (.bool false) := RBr.cell 2
        have c3 : wr.cell? ⟨rb, 3, none⟩ = some (.slice none 0 0) := RBr.cell 3
        have c4 : wr.cell? ⟨rb, 4, none⟩ = some (.int .i64 0) := RBr.cell 4
        have c5 : wr.cell? ⟨rb, 5, none⟩ = some (.int .i64 0) := RBr.cell 5
        have z0 := RBr.frozen 0
        have z1 := RBr.frozen 1
        have z2 := RBr.frozen 2
        have z3 := RBr.frozen 3
        have z4 := RBr.frozen 4
        have z5 := RBr.frozen 5
        have n0 := NBr.c0
        have n1 := NBr.c1
        have n2 : wr.cell? ⟨nb, 2, none⟩ = some (.bool em) := NBr.cell 2
        have n4 : wr.cell? ⟨nb, 4, none⟩ = some (.int .i64 0) := NBr.cell 4
        have n5 : wr.cell? ⟨nb, 5, none⟩ = some (.int .i64 0) := NBr.cell 5
        clear HK hk'
        go_wp2_with fail
        refine bodyPost_ret (v := .tuple #[.agg #[.int .i64 (-1), .int .i64 0, .bool em, .slice AY k cY, .int .i64 0, .int .i64 0], .bool true]) (by simp [results, Tryz.results65, go_sem, c0, c1, c2, c3, c4, c5, z0, z1, z2, z3, z4, z5]) rfl ?_
        exact ⟨⟨-1, 0, em, AY, k, cY, by rw [HF.out]; rfl, fun h => (by rw [HF.out] at h; cases h), fun _ => by omega⟩, ext_set6 hEr hwr _ _ _ _ _ _⟩
theorem lnR_eq {t : BL} (ht : t.length ≤ 4096) : lnR0 t = lnR t := by
  unfold lnR0 lnR
  cases h : parts 32 t with
  | nil => rfl
  | cons w0 ws =>
    dsimp only
    by_cases hs : w0 = splB
    · rw [if_pos hs, if_pos hs]
    · rw [if_neg hs, if_neg hs]
      have hall : ws.all okW = okL ws := by
        unfold okL
        rw [Bool.eq_iff_iff, List.all_eq_true, List.all_eq_true]
        constructor
        · intro k x hx
          have := k x hx
          unfold okW at this
          rw [Bool.and_eq_true] at this
          exact this.2
        · intro k x hx
          have hl := parts_mem_len 32 t x (by rw [h]; exact List.mem_cons_of_mem _ hx)
          unfold okW
          rw [k x hx, decide_eq_true (show x.length ≤ 4096 by omega)]
          rfl
      have e : lfT (w0 :: ws) = if w0 = emptyB ∨ w0 = boundB then (if ws.all okW = true then some (CT.node (-1) 0 (w0 == emptyB) ws.length (yW ws) CT.nil CT.nil) else none) else none := rfl
      rw [e, hall]
      by_cases h0 : w0 = emptyB ∨ w0 = boundB
      · by_cases h1 : okL ws = true
        · rw [if_pos ⟨h0, h1⟩, if_pos h0, if_pos h1]; rfl
        · rw [if_neg (fun k => h1 k.2), if_pos h0, if_neg h1]; rfl
      · rw [if_neg (fun k => h0 k.1), if_neg h0]; rfl
theorem line_b (t : BL) (w : World) (hs : Short t) (ht : t.length ≤ 4096) : Calls Tryz.prog 65 #[.string (str t)] w (LineP w (lnR t)) := by
  rw [← lnR_eq ht]
  refine line_h t w (by omega) (Lib.hid (fun W => words_b t W (by omega))) (Lib.hid (fun l W hl => ?_)) (Lib.hid (fun l W hl => ?_))
  · have hsl := parts_short hs l hl
    have hll := parts_mem_len 32 t l hl
    rw [num_ref hsl]
    exact Number_b l W hsl (by omega)
  · exact Multiplier_b l W (parts_short hs l hl) (by have := parts_mem_len 32 t l hl; omega)
end Go.Proofs.YtljncdcjkdgkeaaGreatDoor.Dc

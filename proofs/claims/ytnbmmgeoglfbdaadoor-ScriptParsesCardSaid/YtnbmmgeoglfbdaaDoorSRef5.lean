/- Walk: Format of the reference. -/
import Derived.Test.YtnbmmgeoglfbdaaDoorSRef4
import Derived.Test.YtnbmmgeoglfbdaaDoorSRNum
import Derived.Deep.RegionLaw
set_option linter.unusedVariables false
set_option linter.unusedSimpArgs false
namespace Go.Proofs.YtnbmmgeoglfbdaaDoor.Sc
open Go.RowKit Go.Proofs.YtnbmmgeoglfbdaaDoor.Big

theorem str_snoc (Z : BL) (c : UInt8) : str Z ++ (⟨#[c]⟩ : ByteArray) = str (Z ++ [c]) := str_append Z [c]
theorem str_cat3 (Z T : BL) (c : UInt8) : str Z ++ (⟨#[c]⟩ : ByteArray) ++ str T = str (Z ++ c :: T) := by
  rw [str_snoc, str_append]; simp
def WordPost (w : World) (i : Nat) (e : Ending) (w' : World) : Prop := (∃ b, e = .returned (.slice (some ⟨b, 0, none⟩) 11 11) ∧ w'.cell? ⟨b, i, none⟩ = some (.string (str (word i)))) ∧ Ext w w'
theorem Words_at (i : Nat) (hi : i < 11) (w : World) : Calls Tryd.prog 33 #[] w (WordPost w i) := by
  refine (Words_any w).mono ?_
  rintro e w' ⟨⟨b, rfl, hr⟩, hx⟩
  obtain ⟨_, _, _, h3⟩ := hr.inj
  obtain ⟨b', off, e1, hc⟩ := h3 (by decide)
  injection e1 with e1
  injection e1 with e1 e2
  subst e1 e2
  have hw : words[i]? = some (word i) := by
    have hl : i < words.length := hi
    unfold word
    rw [List.getD_eq_getElem?_getD, List.getElem?_eq_getElem hl]; rfl
  have := hc i _ (sV_get hw)
  rw [Nat.zero_add] at this
  exact ⟨⟨b, rfl, this⟩, hx⟩
theorem namedB_fN (i : Nat) : namedB (i + 1) = fN i := by
  unfold namedB fN
  rw [Bool.eq_iff_iff]; simp
theorem textB_fT (i : Nat) : ((i + 1 : Nat) == 1) = fT i := by
  unfold fT
  rw [Bool.eq_iff_iff]; simp
theorem formatC_parts {x : Cmd} {i : Nat} (hi : x.kind = i + 1) : formatC x = word i ++ ((if fN i = true then 32 :: x.name else []) ++ (numT x.nums ++ ((if fT i = true then 32 :: Lib.itoa (nl x.text : Int) else []) ++ 10 :: x.text))) := by
  unfold formatC lineC
  rw [hi, Nat.add_sub_cancel]
  simp only [List.append_assoc]
set_option maxHeartbeats 8000000 in
set_option maxRecDepth 100000 in
theorem FormatR_any (A : Option Addr) (n c : Nat) (l : List Cmd) (w : World) (h : CmdsV w (.slice A n c) l) (hgood : Good l) (hl1 : l.length ≤ 1000) : Calls Tryd.prog 15 #[.slice A n c] w (fun e w' => e = .returned (.string (str (formatL l))) ∧ Ext w w') := by
  obtain ⟨S, hS⟩ : ∃ S, S = str (formatL l) := ⟨_, rfl⟩
  rw [← hS]
  have HS := Lib.hid hS
  obtain ⟨h0, h1, h2, h3⟩ := h.inj
  subst h0
  have HG := Lib.hid hgood
  clear hS h3 hgood
  go_enter Tryd.func15, Tryd.ntmps15
  go_wp2_with fail
  go_loopw [3, 4] (fun sv i wr => ∃ (k : Nat) (X : BL), k ≤ l.length ∧ i = .int .i64 k ∧ sv = .string (str X) ∧ Hid (X = formatL (l.take k)) ∧ Ext w wr) (fun _ i _ => l.length - (intOf i).toNat)
  case atStart => exact ⟨0, [], by omega, rfl, rfl, Lib.hid (by simp [formatL]), Ext.refl _⟩
  case round =>
    obtain ⟨k, X, hk, rfl, rfl, HX, hE⟩ := hrel
    by_cases hlt : k < l.length
    · obtain ⟨b, off, A', n', c', rfl, g0, g1, g2, g3, g4⟩ := h.at_ hlt
      obtain ⟨x, hxd⟩ : ∃ x, x = l[k] := ⟨_, rfl⟩
      have hft := formatL_take hlt
      rw [← hxd] at g0 g1 g3 g4 hft
      have hxm : x ∈ l := by rw [hxd]; exact List.getElem_mem hlt
      have hgx := HG.out x hxm
      obtain ⟨m1, m2, m3, m4⟩ := formatC_max hgx.1 hgx.2
      obtain ⟨v1, v2, _⟩ := validC_iff.1 hgx.1
      have HNI := Lib.hid hgx.2
      have hpl : X.length ≤ 100000000 := by
        have := formatL_max (l := l.take k) (fun c hc => HG.out c (List.mem_of_mem_take hc))
        rw [List.length_take] at this
        have h2 : min k l.length ≤ 1000 := by omega
        rw [HX.out]
        exact Nat.le_trans this (Nat.le_trans (Nat.mul_le_mul_right _ h2) (by omega))
      obtain ⟨i, hi⟩ : ∃ i, x.kind = i + 1 := ⟨x.kind - 1, by omega⟩
      have hi11 : i < 11 := by omega
      have hn' := g4.inj.1
      rw [iV_len] at hn'
      subst hn'
      have hk8 : IntKind.u8.wrap ((x.kind : Int) - 1) = (i : Int) := by rw [IntKind.wrap_u8]; omega
      have hk255 : x.kind ≤ 255 := by omega
      have HFT0 : Hid (formatL (l.take (k + 1)) = X ++ (word i ++ ((if fN i = true then 32 :: x.name else []) ++ (numT x.nums ++ ((if fT i = true then 32 :: Lib.itoa (nl x.text : Int) else []) ++ 10 :: x.text))))) := Lib.hid (by rw [hft, HX.out, formatC_parts hi])
      obtain ⟨vN, hvN⟩ : ∃ z, z = fN i := ⟨_, rfl⟩
      obtain ⟨vT, hvT⟩ : ∃ z, z = fT i := ⟨_, rfl⟩
      rw [← hvN, ← hvT] at HFT0
      have HNB : Hid (namedB x.kind = vN) := Lib.hid (by rw [hi, hvN, namedB_fN])
      have HTB : Hid ((x.kind == 1) = vT) := Lib.hid (by rw [hi, hvT, textB_fT])
      have hwl := word_len i hi11
      obtain ⟨wd, hwd⟩ : ∃ z, z = word i := ⟨_, rfl⟩
      rw [← hwd] at HFT0 hwl
      have HWD := Lib.hid hwd
      have e0 := hE.cell g0
      have e1 := hE.cell g1
      have e2 := hE.cell g2
      have e3 := hE.cell g3
      obtain ⟨W5, hW5⟩ : ∃ W5, W5 = wr.alloc (.cells #[.int .u8 (x.kind : Int), .string (str x.name), .slice A' x.nums.length c', .string (str x.text)] 54) := ⟨_, rfl⟩
      have Bc : Box W5 wr.heap.size 54 #[.int .u8 (x.kind : Int), .string (str x.name), .slice A' x.nums.length c', .string (str x.text)] := by rw [hW5]; exact Box.new wr _ _
      have hX5 : Ext w W5 := by rw [hW5]; exact hE.alloc _
      clear hxd hft hxm hgx g0 g1 g2 g3 hvN hvT hwd hi v1 v2 HX m1
      go_upto_region 6 with fail
      simp only [← hW5]
      obtain ⟨bc, hbc⟩ : ∃ x, x = wr.heap.size := ⟨_, rfl⟩
      rw [← hbc] at Bc ⊢
      clear hW5 e0 e1 e2 e3 hbc hE
      have z0 := Bc.c0
      go_cut [3] (fun v wx => v = .string (str (X ++ wd)) ∧ Ext W5 wx)
      case first =>
        have hsw : (str wd).size = wd.length := rfl
        have hsx : (str X).size = X.length := rfl
        have hcg : ¬ 9223372036854775807 < X.length + wd.length := by omega
        have b1 : (0 : Int) ≤ (i : Int) := by omega
        have b2 : (i : Int) < 11 := by omega
        go_region_law (first
          | (go_simp; go_at_call 33; (with_reducible refine (Words_at i hi11 _).mono ?_); rintro e wl ⟨⟨wb, rfl, hcw⟩, hxl⟩; rw [← HWD.out] at hcw; (have hlL : Ext W5 wl := Ext.trans (by repeat (first | (with_reducible exact Ext.refl _) | (with_reducible apply Ext.drew) | (with_reducible apply Ext.drewN))) hxl); (have z0 := hlL.cell z0)))
        all_goals (
          go_wp2_with fail
          go_meet
          exact ⟨by rw [← str_append], by assumption⟩)
      case rest =>
        obtain ⟨rfl, hx6⟩ := hcut
        rename_i hK
        refine hK _ _ ?_
        clear hK z0
        obtain ⟨Y, hY⟩ : ∃ Y, Y = X ++ wd := ⟨_, rfl⟩
        have hYl : Y.length ≤ 100000010 := by rw [hY, List.length_append]; omega
        rw [← hY]
        have HFT1 : Hid (formatL (l.take (k + 1)) = Y ++ ((if vN = true then 32 :: x.name else []) ++ (numT x.nums ++ ((if vT = true then 32 :: Lib.itoa (nl x.text : Int) else []) ++ 10 :: x.text)))) := Lib.hid (by rw [HFT0.out, hY, List.append_assoc])
        clear HFT0 hY hpl
        have Bc6 := Bc.ext hx6
        have hX6 := hX5.trans hx6
        clear Bc hX5 hx6
        have z0 := Bc6.c0
        have z1 := Bc6.c1
        go_wp2_with fail
        refine (named_any x.kind _ hk255).mono ?_
        rintro e w7 ⟨rfl, rfl⟩
        rw [HNB.out]
        go_upto_if 27 with fail
        rename_i hK
        go_cut [3] (fun v wx => ∃ Z : BL, v = .string (str Z) ∧ Z.length ≤ 100000100 ∧ Hid (formatL (l.take (k + 1)) = Z ++ (numT x.nums ++ ((if vT = true then 32 :: Lib.itoa (nl x.text : Int) else []) ++ 10 :: x.text))) ∧ Ext w wx ∧ Box wx bc 54 #[.int .u8 (x.kind : Int), .string (str x.name), .slice A' x.nums.length c', .string (str x.text)])
        case first =>
          cases vN with
          | false =>
            go_wp2_with fail
            go_meet
            exact ⟨Y, rfl, by omega, Lib.hid (by rw [HFT1.out]; rfl), hX6, Bc6⟩
          | true =>
            have hsy : (str Y).size = Y.length := rfl
            have hsn : (str x.name).size = x.name.length := rfl
            have hc1 : ¬ 9223372036854775807 < Y.length + 1 := by omega
            have hc2 : ¬ 9223372036854775807 < Y.length + 1 + x.name.length := by omega
            go_wp2_with fail
            go_meet
            exact ⟨Y ++ 32 :: x.name, by rw [str_cat3], by simp; omega, Lib.hid (by rw [HFT1.out]; simp), hX6, Bc6⟩
        case rest =>
          obtain ⟨Z0, rfl, hZl, HFT2, hX7, Bc7⟩ := hcut
          refine hK _ _ ?_
          clear hK HFT1 Bc6 hX6 z0 z1 hYl
          have z2 := Bc7.cell 2
          go_wp2_with fail
          go_loopw [3, 6] (fun v jv wr => ∃ (j : Nat) (Z : BL), j ≤ x.nums.length ∧ jv = .int .i64 j ∧ v = .string (str Z) ∧ Hid (Z = Z0 ++ numT (x.nums.take j)) ∧ Ext w wr ∧ Box wr bc 54 #[.int .u8 (x.kind : Int), .string (str x.name), .slice A' x.nums.length c', .string (str x.text)]) (fun _ jv _ => x.nums.length - (intOf jv).toNat)
          case atStart => exact ⟨0, Z0, by omega, rfl, rfl, Lib.hid (by simp [numT]), hX7, Bc7⟩
          case round =>
            clear z2
            obtain ⟨j, Z, hj, rfl, rfl, HZ, hX8, Bc8⟩ := hrel
            have hntl : Z.length ≤ 100030000 := by
              have h1 := numT_len (x.nums.take j) (fun v hv => HNI.out v (List.mem_of_mem_take hv))
              rw [List.length_take] at h1
              rw [HZ.out, List.length_append]
              omega
            have z2 := Bc8.cell 2
            by_cases hjl : j < x.nums.length
            · have q3 := (g4.ext hX8).inj.2.2.2
              rw [iV_len] at q3
              obtain ⟨b2, off2, rfl, hc2⟩ := q3 (by omega)
              have e5 := hc2 j _ (iV_get (List.getElem?_eq_getElem hjl))
              have hni := HNI.out x.nums[j] (List.getElem_mem hjl)
              have hnt := numT_take hjl
              obtain ⟨v, hv⟩ : ∃ v, v = x.nums[j] := ⟨_, rfl⟩
              rw [← hv] at e5 hni hnt
              have hil := Lib.itoa_length_le v hni.1 hni.2
              have HNT : Hid (Z ++ 32 :: Lib.itoa v = Z0 ++ numT (x.nums.take (j + 1))) := Lib.hid (by rw [hnt, HZ.out, List.append_assoc])
              have HNI2 := Lib.hid hni
              have hsz : (str Z).size = Z.length := rfl
              have hc1 : ¬ 9223372036854775807 < Z.length + 1 := by omega
              clear hc2 q3 hnt hni hv HZ
              go_wp2_with fail
              refine (Number_any v _ HNI2.out).mono ?_
              rintro e w9 ⟨rfl, hx9⟩
              obtain ⟨T, hT⟩ : ∃ T, T = Lib.itoa v := ⟨_, rfl⟩
              rw [← hT] at hil HNT ⊢
              have hst : (str T).size = T.length := rfl
              have hc3 : ¬ 9223372036854775807 < Z.length + 1 + T.length := by omega
              have hX9 := hX8.trans hx9
              have Bc9 := Bc8.ext hx9
              clear hT hx9 hX8 Bc8 z2 e5
              go_wp2_with fail
              go_roundw
              case rel => exact ⟨j + 1, Z ++ 32 :: T, by omega, by go_num, by rw [str_cat3], HNT, hX9, Bc9⟩
              case measure => simp [intOf]; omega
            · obtain rfl : j = x.nums.length := by omega
              have HFT3 : Hid (formatL (l.take (k + 1)) = Z ++ ((if vT = true then 32 :: Lib.itoa (nl x.text : Int) else []) ++ 10 :: x.text)) := Lib.hid (by rw [HFT2.out, HZ.out, List.take_length, List.append_assoc])
              clear HFT2 HZ
              have z0 := Bc8.c0
              have z3 := Bc8.cell 3
              go_wp2_with fail
              refine (texted_any x.kind _ hk255).mono ?_
              rintro e w9 ⟨rfl, rfl⟩
              rw [HTB.out]
              go_upto_if 51 with fail
              rename_i hK
              go_cut [3] (fun v wx => ∃ Z : BL, v = .string (str Z) ∧ Z.length ≤ 100031000 ∧ Hid (formatL (l.take (k + 1)) = Z ++ 10 :: x.text) ∧ Ext w wx ∧ Box wx bc 54 #[.int .u8 (x.kind : Int), .string (str x.name), .slice A' x.nums.length c', .string (str x.text)])
              case first =>
                cases vT with
                | false =>
                  go_wp2_with fail
                  go_meet
                  exact ⟨Z, rfl, by omega, Lib.hid (by rw [HFT3.out]; rfl), hX8, Bc8⟩
                | true =>
                  have hsz : (str Z).size = Z.length := rfl
                  have hc1 : ¬ 9223372036854775807 < Z.length + 1 := by omega
                  have hnl := nl_le x.text
                  go_wp2_with fail
                  refine (lines_any x.text _ (by omega)).mono ?_
                  rintro e w9 ⟨rfl, rfl⟩
                  obtain ⟨N, hN⟩ : ∃ N, N = nl x.text := ⟨_, rfl⟩
                  rw [← hN] at hnl HFT3 ⊢
                  have hil := Lib.itoa_length_le (N : Int) (by omega) (by omega)
                  clear hN
                  go_wp2_with fail
                  refine (Number_any (N : Int) _ ⟨by omega, by omega⟩).mono ?_
                  rintro e w9 ⟨rfl, hx9⟩
                  obtain ⟨T, hT⟩ : ∃ T, T = Lib.itoa (N : Int) := ⟨_, rfl⟩
                  rw [← hT] at hil HFT3 ⊢
                  have hst : (str T).size = T.length := rfl
                  have hc3 : ¬ 9223372036854775807 < Z.length + 1 + T.length := by omega
                  have hX9 := hX8.trans hx9
                  have Bc9 := Bc8.ext hx9
                  clear hT hx9 hX8 Bc8 z2 z0 z3
                  go_wp2_with fail
                  go_meet
                  exact ⟨Z ++ 32 :: T, by rw [str_cat3], by simp; omega, Lib.hid (by rw [HFT3.out]; simp), hX9, Bc9⟩
              case rest =>
                obtain ⟨Z, rfl, hZ2, HFT4, hX9, Bc9⟩ := hcut
                refine hK _ _ ?_
                clear hK HFT3 Bc8 hX8 z0 z3 z2 hntl
                have z3 := Bc9.cell 3
                have hsz : (str Z).size = Z.length := rfl
                have hst : (str x.text).size = x.text.length := rfl
                have hc1 : ¬ 9223372036854775807 < Z.length + 1 := by omega
                have hc3 : ¬ 9223372036854775807 < Z.length + 1 + x.text.length := by omega
                go_wp2_with fail
                go_roundw
                case rel => exact ⟨k + 1, Z ++ 10 :: x.text, by omega, by go_num, by rw [str_cat3], Lib.hid HFT4.out.symm, hX9⟩
                case measure => simp [intOf]; omega
    · obtain rfl : k = l.length := by omega
      have HF : Hid (str X = S) := Lib.hid (by rw [HS.out, HX.out, List.take_length])
      clear HX
      go_wp2_with fail
      go_ret
      exact ⟨by rw [HF.out]; rfl, hE⟩
end Go.Proofs.YtnbmmgeoglfbdaaDoor.Sc

/- Walk: Parse of the reference. -/
import Derived.Test.YtnbmmgeoglfbdaaDoorSRef8
import Derived.Test.YtnbmmgeoglfbdaaDoorSParse
set_option linter.unusedVariables false
set_option linter.unusedSimpArgs false
namespace Go.Proofs.YtnbmmgeoglfbdaaDoor.Sc
open Go.RowKit Go.Proofs.YtnbmmgeoglfbdaaDoor.Big

theorem split_go {many k : Nat} {rest T r a b : BL} (hk : k < many) (h : splitL many rest = (splitL (many - k) r).map (fun p => (T ++ p.1, p.2))) (hc : cutB 10 r = some (a, b)) : splitL many rest = (splitL (many - (k + 1)) b).map (fun p => ((T ++ (a ++ [10])) ++ p.1, p.2)) := by
  rw [h, show many - k = (many - (k + 1)) + 1 by omega, splitL_step, hc]
  simp only [Option.map_map]
  congr 1
  funext p
  simp
theorem split_no {many k : Nat} {rest T r : BL} (hk : k < many) (h : splitL many rest = (splitL (many - k) r).map (fun p => (T ++ p.1, p.2))) (hc : cutB 10 r = none) : splitL many rest = none := by
  rw [h, show many - k = (many - (k + 1)) + 1 by omega, splitL_step, hc]; rfl
theorem split_end {many : Nat} {rest T r : BL} (h : splitL many rest = (splitL (many - many) r).map (fun p => (T ++ p.1, p.2))) : splitL many rest = some (T, r) := by
  rw [h, Nat.sub_self]; simp [splitL]
set_option maxHeartbeats 8000000 in
set_option maxRecDepth 100000 in
theorem ParseR_any (s : BL) (w : World) (hs : s.length < 1000000000) : Calls Tryd.prog 8 #[.string (str s)] w (ParsePost w (parse s)) := by
  obtain ⟨res, hres⟩ : ∃ res, res = parse s := ⟨_, rfl⟩
  rw [← hres]
  have HRES := Lib.hid hres
  clear hres
  obtain ⟨i0, hi, hz0, hz1, hz2⟩ := info_parts infoCmdR
  go_enter Tryd.func8, Tryd.ntmps8
  go_wp2_with fail
  go_loopw [0, 5, 6] (fun sv lv av wr => ∃ (cur : BL) (acc : List (Cmd × Value)) (a f : Nat), sv = .string (str cur) ∧ av = .int .i64 a ∧ a + cur.length ≤ s.length + 1 ∧ acc.length ≤ 1000 ∧ cur.length < f ∧ Hid (res = (parseL f acc.length a cur).app (acc.map (·.1))) ∧ CollR w wr lv acc ∧ Ext w wr) (fun sv _ _ _ => sLen sv)
  case atStart => exact ⟨s, [], 1, s.length + 1, rfl, rfl, by omega, by simp, by omega, Lib.hid (by rw [HRES.out]; unfold parse; cases parseL (s.length + 1) 0 1 s <;> simp [Res.app]), CollR.nil _ _, Ext.refl _⟩
  case round =>
    obtain ⟨cur, acc, a, f, rfl, rfl, ha, hacc, hfu, HK, hcoll, hE⟩ := hrel
    obtain ⟨f', rfl⟩ : ∃ f', f = f' + 1 := ⟨f - 1, by omega⟩
    have HK1 : Hid (res = (if cur = [] then Res.ok [] else if acc.length = 1000 then .err a 5 else match step cur with | .err e => .err a e | .ok c k r => (parseL f' (acc.length + 1) (a + k) r).cons c).app (acc.map (·.1))) := Lib.hid (by rw [HK.out]; rfl)
    clear HK
    obtain ⟨A0, c0, hsh⟩ := hcoll.view.shape
    rw [List.length_map] at hsh
    subst hsh
    by_cases h0 : cur = []
    · have HF : Hid (res = .ok (acc.map (·.1))) := Lib.hid (by rw [HK1.out, if_pos h0]; simp [Res.app])
      have HV := Lib.hid hcoll
      subst h0
      rw [show str [] = (⟨#[]⟩ : ByteArray) from rfl]
      clear HK1
      go_wp2_with fail
      go_ret3
      exact ⟨⟨_, _, _, 0, 0, rfl, fun l h => (by rw [HF.out] at h; injection h with h; subst h; exact ⟨HV.out.view, rfl, rfl⟩), fun a' e' h => (by rw [HF.out] at h; cases h)⟩, hE⟩
    · have he0 : ((str cur).toList == []) = false := by rw [Lib.toList_data, str_list]; simpa using h0
      have he1 : (str cur).toList ≠ [] := by rw [Lib.toList_data, str_list]; exact h0
      by_cases h1000 : acc.length = 1000
      · have h1000' : ((acc.length : Int) == 1000) = true := by simp; omega
        have HF : Hid (res = .err a 5) := Lib.hid (by rw [HK1.out, if_neg h0, if_pos h1000]; rfl)
        clear HK1 h0 h1000
        go_wp2_with fail
        go_ret3
        exact ⟨⟨none, 0, 0, (a : Int), 5, rfl, fun l h => (by rw [HF.out] at h; cases h), fun a' e' h => (by rw [HF.out] at h; injection h with h1 h2; subst h1 h2; exact ⟨rfl, rfl, rfl, rfl, rfl⟩)⟩, hE⟩
      · have h1000' : ((acc.length : Int) == 1000) = false := by simp; omega
        have HK2 : Hid (res = (match step cur with | .err e => Res.err a e | .ok c k r => (parseL f' (acc.length + 1) (a + k) r).cons c).app (acc.map Prod.fst)) := Lib.hid (by rw [HK1.out, if_neg h0, if_neg h1000])
        clear HK1 h0
        go_wp2_with fail
        refine (cut_any cur _ (by omega)).mono ?_
        rintro e w1 ⟨⟨line, rest, fl, rfl, hcut0⟩, hx1⟩
        have HCUT := Lib.hid hcut0
        have hE1 := hE.trans hx1
        have hc1 := hcoll.ext hx1
        clear hcoll hE hx1 he0 he1 hcut0
        cases fl with
        | false =>
          have HF : Hid (res = .err a 4) := Lib.hid (by rw [HK2.out]; unfold step; rw [HCUT.out]; rfl)
          clear HK2
          go_wp2_with fail
          go_ret3
          exact ⟨⟨none, 0, 0, (a : Int), 4, rfl, fun l h => (by rw [HF.out] at h; cases h), fun a' e' h => (by rw [HF.out] at h; injection h with h1 h2; subst h1 h2; exact ⟨rfl, rfl, rfl, rfl, rfl⟩)⟩, hE1⟩
        | true =>
          have HCU : Hid (cutB 10 cur = some (line, rest)) := Lib.hid (by have := HCUT.out; simpa using this)
          have hsp := (cutB_spec HCU.out).1
          have hlens : line.length + 1 + rest.length = cur.length := by rw [hsp]; simp; omega
          clear hsp
          obtain ⟨o, ho⟩ : ∃ o, o = firstL line := ⟨_, rfl⟩
          have HO := Lib.hid ho
          clear ho
          go_wp2_with fail
          refine (firstR_any line _ (by omega)).mono ?_
          rintro e w2 ⟨⟨kd, nm, A, n, cc, tx, m, bb, rfl, hbb, hm0, hm1, hv⟩, hx2⟩
          rw [← HO.out] at hbb hv
          have hE2 := hE1.trans hx2
          have hc2 := hc1.ext hx2
          clear hE1 hc1 hx2
          cases o with
          | none =>
            obtain rfl : bb = false := hbb
            have HF : Hid (res = .err a 3) := Lib.hid (by rw [HK2.out]; unfold step; rw [HCUT.out]; simp only [if_true]; rw [← HO.out]; rfl)
            have hE3 := hE2.alloc (.cells #[.int .u8 kd, .string nm, .slice A n cc, .string tx] 54)
            clear HK2 hv
            go_wp2_with fail
            go_ret3
            exact ⟨⟨none, 0, 0, (a : Int), 3, rfl, fun l h => (by rw [HF.out] at h; cases h), fun a' e' h => (by rw [HF.out] at h; injection h with h1 h2; subst h1 h2; exact ⟨rfl, rfl, rfl, rfl, rfl⟩)⟩, hE3⟩
          | some ck =>
            obtain ⟨c, k⟩ := ck
            obtain rfl : bb = true := hbb
            obtain ⟨hcv, rfl, hty⟩ := hv c k rfl
            clear hv
            obtain ⟨A', n', c', e1, hrow⟩ := hcv
            injection e1 with e1
            injection e1 with e1
            simp only [List.cons.injEq, Value.int.injEq, Value.string.injEq, Value.slice.injEq, true_and, and_true] at e1
            obtain ⟨rfl, rfl, ⟨rfl, rfl, rfl⟩, rfl⟩ := e1
            obtain ⟨q, hq⟩ : ∃ q, q = splitL k rest := ⟨_, rfl⟩
            have HQ := Lib.hid hq
            clear hq
            have hct : c.text = [] := firstL_text HO.out.symm
            rw [hct]
            have HST : Hid (step cur = afterSplit c k q) := Lib.hid (by rw [step_cut HCU.out HO.out.symm, ← HQ.out])
            clear hct
            go_upto_region 10 with fail
            have Bc := Box.new w2 54 #[.int .u8 (c.kind : Int), .string (str c.name), .slice A n cc, .string (str [])]
            have hE3 : Ext w2 (w2.alloc (.cells #[.int .u8 (c.kind : Int), .string (str c.name), .slice A n cc, .string (str [])] 54)) := (Ext.refl w2).alloc _
            generalize hWg : (w2.alloc (.cells #[.int .u8 (c.kind : Int), .string (str c.name), .slice A n cc, .string (str [])] 54)) = W3 at *
            clear hWg
            obtain ⟨bc, hbc⟩ : ∃ x, x = w2.heap.size := ⟨_, rfl⟩
            have hbcw : w.heap.size ≤ bc := by rw [hbc]; exact hE2.size
            have hbc2 : w2.heap.size ≤ bc := by omega
            rw [← hbc] at Bc ⊢
            clear hbc
            go_wp2_with fail
            go_loopw [8, 13] (fun rv jv wr => ∃ (j : Nat) (T r : BL), j ≤ k ∧ jv = .int .i64 j ∧ rv = .string (str r) ∧ Hid (splitL k rest = (splitL (k - j) r).map (fun p => (T ++ p.1, p.2))) ∧ T.length + r.length ≤ rest.length ∧ Box wr bc 54 #[.int .u8 (c.kind : Int), .string (str c.name), .slice A n cc, .string (str T)] ∧ Ext w2 wr) (fun _ jv _ => k - (intOf jv).toNat)
            case atStart => exact ⟨0, [], rest, by omega, rfl, rfl, Lib.hid (by rw [Nat.sub_zero]; cases splitL k rest <;> simp), by simp, Bc, hE3⟩
            case round =>
              clear Bc hE3
              obtain ⟨j, T, r, hj, rfl, rfl, HSP, hTr, Bc, hE3⟩ := hrel
              by_cases hjk : j < k
              · go_wp2_with fail
                refine (cut_any r _ (by omega)).mono ?_
                rintro e w5 ⟨⟨l2, r2, fl2, rfl, hcut2⟩, hx5⟩
                have HC2 := Lib.hid hcut2
                have Bc5 := Bc.ext hx5
                have hE5 := hE3.trans hx5
                clear hcut2 Bc hE3 hx5
                cases fl2 with
                | false =>
                  have HF : Hid (res = .err a 4) := Lib.hid (by rw [HK2.out, HST.out, HQ.out, split_no hjk HSP.out HC2.out]; rfl)
                  have hE6 := hE2.trans hE5
                  clear HK2 HST
                  go_wp2_with fail
                  go_ret3
                  exact ⟨⟨none, 0, 0, (a : Int), 4, rfl, fun l h => (by rw [HF.out] at h; cases h), fun a' e' h => (by rw [HF.out] at h; injection h with h1 h2; subst h1 h2; exact ⟨rfl, rfl, rfl, rfl, rfl⟩)⟩, hE6⟩
                | true =>
                  have HSP2 := Lib.hid (split_go hjk HSP.out (HC2.out.trans (if_pos rfl)))
                  have hsp2 := (cutB_spec (HC2.out.trans (if_pos rfl))).1
                  have hl2 : l2.length + 1 + r2.length = r.length := by rw [hsp2]; simp; omega
                  have z3 := Bc5.cell 3
                  have zf3 := Bc5.frozen 3
                  have s1 : (str T).size = T.length := rfl
                  have s2 : (str l2).size = l2.length := rfl
                  have q1 : ¬ 9223372036854775807 < T.length + l2.length := by omega
                  have q2 : ¬ 9223372036854775807 < T.length + l2.length + 1 := by omega
                  have hcat : str T ++ str l2 ++ (⟨#[10]⟩ : ByteArray) = str (T ++ (l2 ++ [10])) := by rw [str_append, str_snoc, List.append_assoc]
                  have Bc6 := Bc5.set 3 (.string (str (T ++ (l2 ++ [10]))))
                  clear hsp2 HSP
                  go_wp2_with fail
                  go_roundw
                  case rel => exact ⟨j + 1, T ++ (l2 ++ [10]), r2, by omega, by go_num, rfl, HSP2, by simp; omega, by first | exact Bc6 | (rw [hcat]; exact Bc6), hE5.set hbc2 _⟩
                  case measure => simp [intOf]; omega
              · obtain rfl : j = k := by omega
                have HSE : Hid (q = some (T, r)) := Lib.hid (by rw [HQ.out]; exact split_end HSP.out)
                have z3 := Bc.cell 3
                have hE6 := hE2.trans hE3
                clear HSP
                by_cases hbig : 65536 < T.length
                · have HF : Hid (res = .err a 3) := Lib.hid (by rw [HK2.out, HST.out, HSE.out]; unfold afterSplit; simp only [if_pos hbig]; rfl)
                  have hsz : (str T).size = T.length := rfl
                  clear HK2 HST
                  go_wp2_with fail
                  go_ret3
                  exact ⟨⟨none, 0, 0, (a : Int), 3, rfl, fun l h => (by rw [HF.out] at h; cases h), fun a' e' h => (by rw [HF.out] at h; injection h with h1 h2; subst h1 h2; exact ⟨rfl, rfl, rfl, rfl, rfl⟩)⟩, hE6⟩
                · have hstep : step cur = .ok { c with text := T } (1 + j) r := by rw [HST.out, HSE.out]; unfold afterSplit; simp only [if_neg hbig]
                  have hlen := step_len hstep
                  have HN : Hid (res = (parseL f' (acc.length + 1) (a + (1 + j)) r).app ((acc ++ [({ c with text := T }, Value.slice A n cc)]).map Prod.fst)) := Lib.hid (by
                    rw [HK2.out, hstep]; simp only []; rw [Res.app_cons]; simp)
                  have hsz : (str T).size = T.length := rfl
                  have hc6 := hc2.ext hE3
                  have hrow6 := hrow.ext hE3
                  have hty6 := hty.ext hE3
                  have z0 := Bc.c0
                  have z1 := Bc.c1
                  have z2 := Bc.cell 2
                  have hown := hc6.own
                  have hsz6 := hE6.size
                  clear HK2 HST hstep hc2 hrow hty HSE
                  go_wp2_with (at_builtin; refine wpList_append_own _ rfl _ _ 27 rfl w.heap.size 54 i0 (.agg #[.int .u8 0, .string ⟨#[]⟩, .slice none 0 0, .string ⟨#[]⟩]) 4 64 Tryd.underlying27 hi hz0 hz1 hz2 rfl (by decide) _ _ _ rfl (hown.alloc _) ⟨wr.heap.size, 0, none⟩ 1 1 [.int .u8 (c.kind : Int), .string (str c.name), .slice A n cc, .string (str T)] rfl rfl ?c1 ?c2 ?c3 ?c4 ?c5 ?_)
                  case c1 =>
                    intro j u hj
                    match j, hj with
                    | 0, hj => simp at hj; subst hj; simp [Addr.add]
                    | 1, hj => simp at hj; subst hj; simp [Addr.add]
                    | 2, hj => simp at hj; subst hj; simp [Addr.add]
                    | 3, hj => simp at hj; subst hj; simp [Addr.add]
                  case c2 => intro u hu; simp at hu; rcases hu with rfl | rfl | rfl | rfl <;> rfl
                  case c3 => unfold maxLen; omega
                  case c4 => omega
                  case c5 => simp; omega
                  intro v' w7 hown' hgrow _
                  have hal : Ext wr (wr.alloc (.cells #[.int .u8 (c.kind : Int), .string (str c.name), .slice A n cc, .string (str T)] 54)) := (Ext.refl wr).alloc _
                  have hpush := CollR.push (p := ({ c with text := T }, .slice A n cc)) (hc6.ext hal) (hrow6.ext hal) (hty6.ext hal) hown' hgrow
                  have hE7 : Ext w w7 := Below.grown (hE6.alloc _) hgrow (by simp; omega) (fun k hk => (hown.lt k hk).1)
                  clear hown' hgrow hown hal hc6 hrow6 hty6 Bc z0 z1 z2 z3 hE6 hE3
                  go_wp2_with fail
                  go_roundw
                  case rel => exact ⟨r, acc ++ [({ c with text := T }, .slice A n cc)], a + (1 + j), f', rfl, by go_num, by omega, by simp; omega, by omega, by rw [List.length_append, List.length_singleton]; exact HN, hpush, hE7⟩
                  case measure => simp [sLen, str_size]; omega
end Go.Proofs.YtnbmmgeoglfbdaaDoor.Sc

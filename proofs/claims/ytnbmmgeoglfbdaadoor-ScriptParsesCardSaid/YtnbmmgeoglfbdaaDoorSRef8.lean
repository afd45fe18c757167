/- Walk: first of the reference. -/
import Derived.Test.YtnbmmgeoglfbdaaDoorSRef5
import Derived.Test.YtnbmmgeoglfbdaaDoorSRef6
import Derived.Test.YtnbmmgeoglfbdaaDoorSRef7
set_option linter.unusedVariables false
set_option linter.unusedSimpArgs false
namespace Go.Proofs.YtnbmmgeoglfbdaaDoor.Sc
open Go.RowKit Go.Proofs.YtnbmmgeoglfbdaaDoor.Big

theorem lastW_le (w : BL) : ∀ k, lastW w k ≤ k
  | 0 => Nat.le_refl _
  | k + 1 => by unfold lastW; split; exact Nat.le_refl _; exact Nat.le_succ_of_le (lastW_le w k)
theorem lastW_succ (w : BL) (k : Nat) : lastW w (k + 1) = if word k = w then k + 1 else lastW w k := rfl
end Go.Proofs.YtnbmmgeoglfbdaaDoor.Sc
namespace Go.Proofs.YtnbmmgeoglfbdaaDoor.Big
open Go.RowKit Go.Proofs.YtnbmmgeoglfbdaaDoor.Sc
theorem Row.at0 {w : World} {A : Option Addr} {n c : Nat} {f : BL} {fs : List BL} (h : Row w (.slice A n c) (sV (f :: fs))) : ∃ b off, A = some ⟨b, off, none⟩ ∧ w.cell? ⟨b, off, none⟩ = some (.string (str f)) := by
  obtain ⟨_, _, _, h3⟩ := h.inj
  obtain ⟨b, off, rfl, hc⟩ := h3 (by simp [sV])
  have := hc 0 _ rfl
  rw [Nat.add_zero] at this
  exact ⟨b, off, rfl, this⟩
theorem Row.initS {w : World} {A : Option Addr} {n c : Nat} {ys : List BL} {z : BL} (h : Row w (.slice A n c) (sV (ys ++ [z]))) : Row w (.slice A ys.length c) (sV ys) := by
  have := h.take ys.length (by simp)
  have e : (sV (ys ++ [z])).take ys.length = sV ys := by unfold sV; rw [List.map_append, List.take_left' (by simp)]
  rwa [e] at this
end Go.Proofs.YtnbmmgeoglfbdaaDoor.Big
namespace Go.Proofs.YtnbmmgeoglfbdaaDoor.Sc
open Go.RowKit Go.Proofs.YtnbmmgeoglfbdaaDoor.Big
theorem numsL_split {fs : List BL} {k : Nat} {ns : List Int} (hk : k < fs.length) (h : numsL fs = (numsL (fs.drop k)).map (ns ++ ·)) : (num fs[k] = none → numsL fs = none) ∧ ∀ v, num fs[k] = some v → numsL fs = (numsL (fs.drop (k + 1))).map ((ns ++ [v]) ++ ·) := by
  rw [numsL_step hk] at h
  constructor
  · intro e; rw [h, e]; rfl
  · intro v e
    rw [h, e]
    simp only [Option.map_map]
    congr 1
    funext x
    simp
theorem own_neBox {w : World} {base : Nat} {e : TypeId} {size : Nat} {v : Value} {n : Nat} {xs : List Value} (h : w.ownsRow base e size v n xs) {b : Nat} {E : TypeId} {cs : Array Value} (hb : Box w b E cs) (hne : E ≠ e) : v.ownBlock ≠ some b := by
  rcases h.2 with ⟨hv, _⟩ | ⟨g, cap, cur, hv, _, hg, _⟩
  · rw [hv]; intro e; cases e
  · rw [hv]
    intro e
    injection e with e
    subst e
    unfold Box at hb
    rw [hg] at hb
    injection hb with hb
    injection hb with _ h2
    exact hne h2.symm
set_option maxHeartbeats 60000000 in
set_option maxRecDepth 100000 in
theorem firstR_any (t : BL) (w : World) (ht : t.length ≤ 1000000000) : Calls Tryd.prog 25 #[.string (str t)] w (FirstPost w (firstL t)) := by
  obtain ⟨o, ho⟩ : ∃ o, o = firstL t := ⟨_, rfl⟩
  rw [← ho]
  obtain ⟨w0, fs, hwf⟩ : ∃ w0 fs, headL t = (w0, fs) := ⟨_, _, rfl⟩
  have hparts : parts 32 t = w0 :: fs := by rw [head_parts, hwf]
  obtain ⟨K, hK⟩ : ∃ K, K = lastW w0 11 := ⟨_, rfl⟩
  have HO : Hid (o = if K = 0 then none else bodyL (K - 1) fs) := Lib.hid (by rw [ho]; unfold firstL; rw [hwf]; simp only; rw [findW_last, ← hK]; by_cases hk : K = 0 <;> simp [hk])
  have HKW := Lib.hid hK
  have hK11 : K ≤ 11 := by rw [hK]; exact lastW_le _ _
  have hfl : fs.length ≤ t.length := by have := parts_len 32 t; rw [hparts] at this; simpa using this
  have HFL : Hid (∀ x ∈ fs, x.length ≤ t.length) := Lib.hid (fun x hx => parts_mem_len 32 t x (by rw [hparts]; simp [hx]))
  have HRW : Hid (∀ w', Calls Tryd.prog 46 #[.string (str t)] w' (SplitR w' (w0 :: fs))) := Lib.hid (fun w' => by have := splitR_any t w' (by omega); rwa [hparts] at this)
  obtain ⟨i0, hi, hz0, hz1, hz2⟩ := info_parts infoInt
  clear ho hwf hparts hK
  go_enter Tryd.func25, Tryd.ntmps25
  go_wp2_with fail
  have B0 := Box.new w 54 #[.int .u8 0, .string ⟨#[]⟩, .slice none 0 0, .string ⟨#[]⟩]
  have hE0 : Ext w (w.alloc (.cells #[.int .u8 0, .string ⟨#[]⟩, .slice none 0 0, .string ⟨#[]⟩] 54)) := (Ext.refl w).alloc _
  generalize w.alloc (.cells #[.int .u8 0, .string ⟨#[]⟩, .slice none 0 0, .string ⟨#[]⟩] 54) = W0 at *
  refine (HRW.out _).mono ?_
  rintro e w1 ⟨⟨g, c, rfl, hrow⟩, hx1⟩
  rw [List.length_cons] at hrow ⊢
  have hrowI := hrow.inj
  simp only [sV_len, List.length_cons] at hrowI
  obtain ⟨-, hcl, hcm, -⟩ := hrowI
  have y0 : w1.cell? ⟨g, 0, none⟩ = some (.string (str w0)) := by
    obtain ⟨b, off, e1, h2⟩ := hrow.at0
    injection e1 with e1
    injection e1 with e1 e2
    subst e1 e2
    exact h2
  have B01 := B0.ext hx1
  have hE1 := hE0.trans hx1
  clear HRW B0 hE0 hx1
  go_upto_region 3 with fail
  have Bc := Box.new w1 54 #[.int .u8 0, .string ⟨#[]⟩, .slice none 0 0, .string ⟨#[]⟩]
  have hE2 : Ext w1 (w1.alloc (.cells #[.int .u8 0, .string ⟨#[]⟩, .slice none 0 0, .string ⟨#[]⟩] 54)) := (Ext.refl w1).alloc _
  generalize hWg : w1.alloc (.cells #[.int .u8 0, .string ⟨#[]⟩, .slice none 0 0, .string ⟨#[]⟩] 54) = W2 at *
  clear hWg
  obtain ⟨cb, hcb⟩ : ∃ x, x = w1.heap.size := ⟨_, rfl⟩
  have hcb1 : w1.heap.size ≤ cb := by omega
  rw [← hcb] at Bc ⊢
  clear hcb
  go_wp2_with fail
  go_loopw [7] (fun i wr => ∃ k m : Nat, k ≤ 11 ∧ m ≤ k ∧ i = .int .i64 k ∧ Hid (m = lastW w0 k) ∧ Box wr cb 54 #[.int .u8 (m : Int), .string ⟨#[]⟩, .slice none 0 0, .string ⟨#[]⟩] ∧ Ext w1 wr) (fun i _ => 11 - (intOf i).toNat)
  case atStart => exact ⟨0, 0, by omega, by omega, rfl, Lib.hid rfl, Bc, hE2⟩
  case round =>
    clear Bc hE2
    obtain ⟨k, m, hk, hmk, rfl, HM, Bc, hE2⟩ := hrel
    by_cases hlt : k < 11
    · go_wp2_with fail
      refine (Words_at 0 (by omega) _).mono ?_
      rintro e w3 ⟨⟨b3, rfl, _⟩, hx3⟩
      have hE3 := hE2.trans hx3
      have Bc3 := Bc.ext hx3
      have z0 := hE3.cell y0
      obtain ⟨wd, hwd⟩ : ∃ z, z = word k := ⟨_, rfl⟩
      have hst : lastW w0 (k + 1) = if wd = w0 then k + 1 else m := by rw [lastW_succ, ← HM.out, hwd]
      have HST := Lib.hid hst
      have HWD := Lib.hid hwd
      obtain ⟨q, hq⟩ : ∃ q, q = decide (wd = w0) := ⟨_, rfl⟩
      have heq : ((str wd).toList == (str w0).toList) = q := by rw [str_eq_iff, hq]
      have HQ := Lib.hid hq
      clear hst hwd hq Bc hE2 hx3 HM
      go_upto_region 6 with fail
      go_cut [30] (fun v wx => v = .bool q ∧ Ext w3 wx)
      case first =>
        go_region_law (first
          | (go_simp; go_at_call 33; (with_reducible refine (Words_at k hlt _).mono ?_); rintro e wl ⟨⟨wb, rfl, hcw⟩, hxl⟩; rw [← HWD.out] at hcw; (have hlL : Ext w3 wl := Ext.trans (by repeat (first | (with_reducible exact Ext.refl _) | (with_reducible apply Ext.drew) | (with_reducible apply Ext.drewN))) hxl); (have z0 := hlL.cell z0)))
        all_goals (
          go_wp2_with fail
          go_meet
          exact ⟨rfl, by assumption⟩)
      case rest =>
        obtain ⟨rfl, hx4⟩ := hcut
        rename_i hKK
        refine hKK _ _ ?_
        clear hKK z0 heq
        have Bc4 := Bc3.ext hx4
        have hE4 := hE3.trans hx4
        have zc0 := Bc4.c0
        have zf0 := Bc4.frozen 0
        cases q with
        | true =>
          have HM2 : Hid (k + 1 = lastW w0 (k + 1)) := Lib.hid (by rw [HST.out, if_pos (of_decide_eq_true HQ.out.symm)])
          have Bc5 := Bc4.set 0 (.int .u8 ((k : Int) + 1))
          have hk8 : IntKind.u8.wrap ((k : Int) + 1) = (k : Int) + 1 := by rw [IntKind.wrap_u8]; omega
          go_wp2_with fail
          go_roundw
          case rel => exact ⟨k + 1, k + 1, by omega, by omega, by go_num, HM2, Bc5, hE4.set hcb1 _⟩
          case measure => simp [intOf]; omega
        | false =>
          have HM2 : Hid (m = lastW w0 (k + 1)) := Lib.hid (by rw [HST.out, if_neg (of_decide_eq_false HQ.out.symm)])
          go_wp2_with fail
          go_roundw
          case rel => exact ⟨k + 1, m, by omega, by omega, by go_num, HM2, Bc4, hE4⟩
          case measure => simp [intOf]; omega
    · obtain rfl : k = 11 := by omega
      obtain rfl : m = K := by rw [HM.out, HKW.out]
      have B02 := B01.ext hE2
      have hE3 := hE1.trans hE2
      have hrow2 := hrow.ext hE2
      clear HM HKW y0
      go_wp2_with fail
      refine (Words_at 0 (by omega) _).mono ?_
      rintro e w3 ⟨⟨b3, rfl, _⟩, hx3⟩
      have Bc3 := Bc.ext hx3
      have B03 := B02.ext hx3
      have hE4 := hE3.trans hx3
      have hrow3 := hrow2.ext hx3
      have hX3 := hE2.trans hx3
      clear Bc B02 hE3 hrow2 hx3 hE2
      by_cases hK0 : m = 0
      · subst hK0
        have HF : Hid (o = none) := Lib.hid (by rw [HO.out, if_pos rfl])
        have z0 := B03.c0
        have z1 := B03.c1
        have z2 := B03.c2
        have z3 := B03.c3
        have zf0 := B03.frozen 0
        have zf1 := B03.frozen 1
        have zf2 := B03.frozen 2
        have zf3 := B03.frozen 3
        have y0 := Bc3.c0
        have y1 := Bc3.c1
        have y2 := Bc3.c2
        have y3 := Bc3.c3
        have yf0 := Bc3.frozen 0
        have yf1 := Bc3.frozen 1
        have yf2 := Bc3.frozen 2
        have yf3 := Bc3.frozen 3
        go_wp2_with fail
        have hbz := B03.set4 (.int .u8 0) (.string ⟨#[]⟩) (.slice none 0 0) (.string ⟨#[]⟩)
        have zz0 := hbz.c0
        have zz1 := hbz.c1
        have zz2 := hbz.c2
        have zz3 := hbz.c3
        refine bodyPost_ret (v := .tuple #[.agg #[(.int .u8 0), .string ⟨#[]⟩, .slice none 0 0, .string ⟨#[]⟩], .int .i64 0, .bool false]) (by simp [results, Tryd.results25, go_sem, zz0, zz1, zz2, zz3]) rfl ?_
        exact ⟨⟨_, _, _, _, _, _, 0, false, rfl, by rw [HF.out]; rfl, by omega, by omega, fun c k h => by rw [HF.out] at h; cases h⟩, hE4.set4 (Nat.le_refl _) _ _ _ _⟩
      · obtain ⟨i, rfl⟩ : ∃ i, m = i + 1 := ⟨m - 1, by omega⟩
        have hi11 : i < 11 := by omega
        obtain ⟨KK, hKK⟩ : ∃ KK, KK = i + 1 := ⟨_, rfl⟩
        have HB : Hid (o = match namePart i fs with | none => none | some (nm, fs) => refTail i nm fs) := Lib.hid (by rw [HO.out, if_neg hK0, Nat.add_sub_cancel, refTail_eq hi11]; cases namePart i fs <;> rfl)
        have HNB : Hid (namedB KK = fN i) := Lib.hid (by rw [hKK, namedB_fN])
        have HTB : Hid ((KK == 1) = fT i) := Lib.hid (by rw [hKK, textB_fT])
        have hk255 : KK ≤ 255 := by omega
        have hKK0 : ((KK : Int) == 0) = false := by simp; omega
        have HKK := Lib.hid hKK
        rw [← hKK] at Bc3
        have yc0 := Bc3.c0
        clear HO hK0 hK11 hKK hmk
        go_upto_region 10 with fail
        go_cut [5] (fun v wx => ∃ A c', v = .slice A fs.length c' ∧ Row w1 (.slice A fs.length c') (sV fs) ∧ wx = w3)
        case first =>
          by_cases hcap : c = 1
          · subst hcap
            have hfs0 : fs = [] := List.eq_nil_of_length_eq_zero (by omega)
            subst hfs0
            go_wp2_with fail
            go_meet
            exact ⟨_, _, rfl, Row.nil _ _ _ (by omega), rfl⟩
          · have hcap2 : 1 < c := by omega
            have hrt := hrow.tailS
            go_wp2_with fail
            go_meet
            exact ⟨_, _, rfl, hrt, rfl⟩
        case rest =>
          rename_i hKX
          obtain ⟨A1, c1, rfl, hrow4, rfl⟩ := hcut
          refine hKX _ _ ?_
          clear hKX hrow hcl hcm
          go_wp2_with fail
          refine (named_any KK _ hk255).mono ?_
          rintro e w7 ⟨rfl, rfl⟩
          rw [HNB.out]
          obtain ⟨vN, hvN⟩ : ∃ z, z = fN i := ⟨_, rfl⟩
          have HVN := Lib.hid hvN
          rw [← hvN]
          clear hvN HNB
          have hc1m := hrow4.inj.2.2.1
          have hcc := hrow4.inj.2.1
          rw [sV_len] at hcc
          go_upto_if 43 with fail
          rename_i hKX
          go_cut [5] (fun v wx => ∃ A c fs' nm, v = .slice A fs'.length c ∧ Row w1 (.slice A fs'.length c) (sV fs') ∧ Hid (o = refTail i nm fs') ∧ Hid (∀ x ∈ fs', x.length ≤ t.length) ∧ fs'.length ≤ t.length ∧
            Box wx cb 54 #[.int .u8 (KK : Int), .string (str nm), .slice none 0 0, .string ⟨#[]⟩] ∧ Ext w1 wx)
          case first => as_aux_lemma =>
            cases vN with
            | false =>
              have HF : Hid (o = refTail i [] fs) := Lib.hid (by rw [HB.out]; unfold namePart; rw [← HVN.out]; rfl)
              go_wp2_with fail
              go_meet
              exact ⟨_, _, fs, [], rfl, hrow4, HF, HFL, hfl, Bc3, hX3⟩
            | true =>
              cases fs with
              | nil =>
                have HF : Hid (o = none) := Lib.hid (by rw [HB.out]; unfold namePart; rw [← HVN.out]; rfl)
                rw [List.length_nil]
                have z0 := B03.c0
                have z1 := B03.c1
                have z2 := B03.c2
                have z3 := B03.c3
                have zf0 := B03.frozen 0
                have zf1 := B03.frozen 1
                have zf2 := B03.frozen 2
                have zf3 := B03.frozen 3
                have y0 := Bc3.c0
                have y1 := Bc3.c1
                have y2 := Bc3.c2
                have y3 := Bc3.c3
                have yf0 := Bc3.frozen 0
                have yf1 := Bc3.frozen 1
                have yf2 := Bc3.frozen 2
                have yf3 := Bc3.frozen 3
                go_wp2_with fail
                have hbz := B03.set4 (.int .u8 (KK : Int)) (.string ⟨#[]⟩) (.slice none 0 0) (.string ⟨#[]⟩)
                have zz0 := hbz.c0
                have zz1 := hbz.c1
                have zz2 := hbz.c2
                have zz3 := hbz.c3
                refine bodyPost_ret (v := .tuple #[.agg #[(.int .u8 (KK : Int)), .string ⟨#[]⟩, .slice none 0 0, .string ⟨#[]⟩], .int .i64 0, .bool false]) (by simp [results, Tryd.results25, go_sem, zz0, zz1, zz2, zz3]) rfl ?_
                exact ⟨⟨_, _, _, _, _, _, 0, false, rfl, by rw [HF.out]; rfl, by omega, by omega, fun c k h => by rw [HF.out] at h; cases h⟩, hE4.set4 (Nat.le_refl _) _ _ _ _⟩
              | cons fd fs =>
                obtain ⟨b', off, rfl, hc00⟩ := hrow4.at0
                have hc0 := hX3.cell hc00
                rw [List.length_cons] at hcc ⊢
                obtain ⟨bn, hbn⟩ : ∃ x, x = isName fd := ⟨_, rfl⟩
                have HBN : Hid (isName fd = bn) := Lib.hid hbn.symm
                have HNP : Hid (namePart i (fd :: fs) = if bn then some (fd, fs) else none) := Lib.hid (by unfold namePart; rw [← HVN.out, hbn]; rfl)
                have hfdl : fd.length ≤ 1099511627776 := by
                  have := HFL.out fd (by simp); omega
                have hl0 : ((fs.length : Int) + 1 == 0) = false := by simp; omega
                have HP2 : Hid (∀ x ∈ fs, x.length ≤ t.length) := Lib.hid (fun x hx => HFL.out x (by simp [hx]))
                have hfl2 : fs.length + 1 ≤ t.length := by simpa using hfl
                clear hbn hc00 hfl
                go_wp2_with fail
                refine (NameR_any fd _ hfdl).mono ?_
                rintro e w5 ⟨rfl, hx5⟩
                rw [HBN.out]
                have B05 := B03.ext hx5
                have Bc5 := Bc3.ext hx5
                have hE5 := hE4.trans hx5
                have hX5 := hX3.trans hx5
                have hc1 := hx5.cell hc0
                clear hc0 B03 Bc3 hE4 hX3 yc0
                cases bn with
                | false =>
                  have HF : Hid (o = none) := Lib.hid (by rw [HB.out, HNP.out]; rfl)
                  have z0 := B05.c0
                  have z1 := B05.c1
                  have z2 := B05.c2
                  have z3 := B05.c3
                  have zf0 := B05.frozen 0
                  have zf1 := B05.frozen 1
                  have zf2 := B05.frozen 2
                  have zf3 := B05.frozen 3
                  have y0 := Bc5.c0
                  have y1 := Bc5.c1
                  have y2 := Bc5.c2
                  have y3 := Bc5.c3
                  have yf0 := Bc5.frozen 0
                  have yf1 := Bc5.frozen 1
                  have yf2 := Bc5.frozen 2
                  have yf3 := Bc5.frozen 3
                  go_wp2_with fail
                  have hbz := B05.set4 (.int .u8 (KK : Int)) (.string ⟨#[]⟩) (.slice none 0 0) (.string ⟨#[]⟩)
                  have zz0 := hbz.c0
                  have zz1 := hbz.c1
                  have zz2 := hbz.c2
                  have zz3 := hbz.c3
                  refine bodyPost_ret (v := .tuple #[.agg #[(.int .u8 (KK : Int)), .string ⟨#[]⟩, .slice none 0 0, .string ⟨#[]⟩], .int .i64 0, .bool false]) (by simp [results, Tryd.results25, go_sem, zz0, zz1, zz2, zz3]) rfl ?_
                  exact ⟨⟨_, _, _, _, _, _, 0, false, rfl, by rw [HF.out]; rfl, by omega, by omega, fun c k h => by rw [HF.out] at h; cases h⟩, hE5.set4 (Nat.le_refl _) _ _ _ _⟩
                | true =>
                  have HF : Hid (o = refTail i fd fs) := Lib.hid (by rw [HB.out, HNP.out]; rfl)
                  have z0 := Bc5.c0
                  have z1 := Bc5.c1
                  have z2 := Bc5.c2
                  have z3 := Bc5.c3
                  have zf0 := Bc5.frozen 0
                  have zf1 := Bc5.frozen 1
                  have zf2 := Bc5.frozen 2
                  have zf3 := Bc5.frozen 3
                  have Bc6 := Bc5.set 1 (.string (str fd))
                  by_cases hcap : c1 = 1
                  · subst hcap
                    have hfs0 : fs = [] := List.eq_nil_of_length_eq_zero (by omega)
                    subst hfs0
                    go_wp2_with fail
                    go_meet
                    exact ⟨_, _, [], fd, rfl, Row.nil _ _ _ (by omega), HF, HP2, by simp, Bc6, hX5.set hcb1 _⟩
                  · have hcap2 : 1 < c1 := by omega
                    have hrt := hrow4.tailS
                    go_wp2_with fail
                    go_meet
                    exact ⟨_, _, fs, fd, rfl, hrt, HF, HP2, by omega, Bc6, hX5.set hcb1 _⟩
          case rest => as_aux_lemma =>
            obtain ⟨A2, c2, fs2, nm, rfl, hrow5, HT, HP2, hfl2, Bc5, hX5⟩ := hcut
            refine hKX _ _ ?_
            clear hKX HB HFL hfl hrow4 hc1m hcc Bc3 hX3 hE4 B03 yc0 HVN hrow3
            have hE5 := hE1.trans hX5
            have B05 := B01.ext hX5
            have z0 := Bc5.c0
            have hc2m := hrow5.inj.2.2.1
            have hcc := hrow5.inj.2.1
            rw [sV_len] at hcc
            go_wp2_with fail
            refine (texted_any KK _ hk255).mono ?_
            rintro e w7 ⟨rfl, rfl⟩
            rw [HTB.out]
            obtain ⟨vT, hvT⟩ : ∃ z, z = fT i := ⟨_, rfl⟩
            have HVT := Lib.hid hvT
            rw [← hvT]
            clear hvT HTB
            go_upto_if 63 with fail
            rename_i hKX
            go_cut [5, 8] (fun v mv wx => ∃ A c fs' k, v = .slice A fs'.length c ∧ mv = .int .i64 ((k : Nat) : Int) ∧ k ≤ 9223372036854775807 ∧ Row w1 (.slice A fs'.length c) (sV fs') ∧ Hid (o = endI i nm fs' k) ∧ Hid (∀ x ∈ fs', x.length ≤ t.length) ∧ fs'.length ≤ t.length ∧
              Box wx cb 54 #[.int .u8 (KK : Int), .string (str nm), .slice none 0 0, .string ⟨#[]⟩] ∧ Ext w1 wx)
            case first => as_aux_lemma =>
              cases vT with
              | false =>
                have HF : Hid (o = endI i nm fs2 0) := Lib.hid (by
                  rw [HT.out]; unfold refTail
                  rw [if_neg]
                  intro e
                  have := HVT.out
                  rw [e] at this; cases this)
                go_wp2_with fail
                go_meet
                exact ⟨_, _, fs2, 0, rfl, rfl, by omega, hrow5, HF, HP2, hfl2, Bc5, hX5⟩
              | true =>
                have hi0 : i = 0 := by have := HVT.out; unfold fT at this; simpa using this.symm
                have HT2 : Hid (o = match fs2.getLast? with | none => none | some t => match num t with | none => none | some v => if v < 0 then none else endI i nm fs2.dropLast v.toNat) := Lib.hid (by rw [HT.out]; unfold refTail; rw [if_pos hi0]; cases fs2.getLast? with | none => rfl | some t => cases num t <;> rfl)
                clear hi0 HT
                rcases List.eq_nil_or_concat fs2 with rfl | ⟨ys, z, rfl⟩
                · have HF : Hid (o = none) := Lib.hid (by rw [HT2.out]; rfl)
                  rw [List.length_nil]
                  have z0 := B05.c0
                  have z1 := B05.c1
                  have z2 := B05.c2
                  have z3 := B05.c3
                  have zf0 := B05.frozen 0
                  have zf1 := B05.frozen 1
                  have zf2 := B05.frozen 2
                  have zf3 := B05.frozen 3
                  have y0 := Bc5.c0
                  have y1 := Bc5.c1
                  have y2 := Bc5.c2
                  have y3 := Bc5.c3
                  have yf0 := Bc5.frozen 0
                  have yf1 := Bc5.frozen 1
                  have yf2 := Bc5.frozen 2
                  have yf3 := Bc5.frozen 3
                  go_wp2_with fail
                  have hbz := B05.set4 (.int .u8 (KK : Int)) (.string (str nm)) (.slice none 0 0) (.string ⟨#[]⟩)
                  have zz0 := hbz.c0
                  have zz1 := hbz.c1
                  have zz2 := hbz.c2
                  have zz3 := hbz.c3
                  refine bodyPost_ret (v := .tuple #[.agg #[(.int .u8 (KK : Int)), .string (str nm), .slice none 0 0, .string ⟨#[]⟩], .int .i64 0, .bool false]) (by simp [results, Tryd.results25, go_sem, zz0, zz1, zz2, zz3]) rfl ?_
                  exact ⟨⟨_, _, _, _, _, _, 0, false, rfl, by rw [HF.out]; rfl, by omega, by omega, fun c k h => by rw [HF.out] at h; cases h⟩, hE5.set4 (Nat.le_refl _) _ _ _ _⟩
                · rw [List.concat_eq_append] at *
                  have hll : (ys ++ [z]).length = ys.length + 1 := by simp
                  rw [hll] at hrow5 hfl2 hcc ⊢
                  obtain ⟨h0, h1, h2, h3⟩ := hrow5.inj
                  obtain ⟨b', off, rfl, hc⟩ := h3 (by simp [sV])
                  have hc0 := hX5.cell (hc ys.length (.string (str z)) (by rw [sV_snoc, List.getElem?_append_right (by simp)]; simp))
                  have hri := hrow5.initS
                  have HP3 : Hid (∀ x ∈ ys, x.length ≤ t.length) := Lib.hid (fun x hx => HP2.out x (by simp [hx]))
                  have hzl : z.length ≤ 1099511627776 := by have := HP2.out z (by simp); omega
                  have HT3 : Hid (o = match num z with | none => none | some v => if v < 0 then none else endI i nm ys v.toNat) := Lib.hid (by rw [HT2.out]; simp)
                  have hq0 : ((ys.length : Int) + 1 == 0) = false := by simp; omega
                  obtain ⟨nz, hnz⟩ : ∃ q, q = num z := ⟨_, rfl⟩
                  rw [← hnz] at HT3
                  have HNZ := Lib.hid hnz
                  clear h0 h1 h2 h3 hc HT2 hnz hll
                  go_wp2_with fail
                  refine (value_any z _ hzl).mono ?_
                  rintro e w8 ⟨⟨v, bb, rfl, hbb, hv⟩, hx8⟩
                  rw [← HNZ.out] at hbb hv
                  have B06 := B05.ext hx8
                  have Bc6 := Bc5.ext hx8
                  have hE6 := hE5.trans hx8
                  have hX6 := hX5.trans hx8
                  clear B05 Bc5 hE5 hX5 hc0 z0
                  cases nz with
                  | none =>
                    obtain rfl : bb = false := hbb
                    have HF : Hid (o = none) := Lib.hid (by rw [HT3.out])
                    clear hv HT3
                    have z0 := B06.c0
                    have z1 := B06.c1
                    have z2 := B06.c2
                    have z3 := B06.c3
                    have zf0 := B06.frozen 0
                    have zf1 := B06.frozen 1
                    have zf2 := B06.frozen 2
                    have zf3 := B06.frozen 3
                    have y0 := Bc6.c0
                    have y1 := Bc6.c1
                    have y2 := Bc6.c2
                    have y3 := Bc6.c3
                    have yf0 := Bc6.frozen 0
                    have yf1 := Bc6.frozen 1
                    have yf2 := Bc6.frozen 2
                    have yf3 := Bc6.frozen 3
                    go_wp2_with fail
                    have hbz := B06.set4 (.int .u8 (KK : Int)) (.string (str nm)) (.slice none 0 0) (.string ⟨#[]⟩)
                    have zz0 := hbz.c0
                    have zz1 := hbz.c1
                    have zz2 := hbz.c2
                    have zz3 := hbz.c3
                    refine bodyPost_ret (v := .tuple #[.agg #[(.int .u8 (KK : Int)), .string (str nm), .slice none 0 0, .string ⟨#[]⟩], .int .i64 0, .bool false]) (by simp [results, Tryd.results25, go_sem, zz0, zz1, zz2, zz3]) rfl ?_
                    exact ⟨⟨_, _, _, _, _, _, 0, false, rfl, by rw [HF.out]; rfl, by omega, by omega, fun c k h => by rw [HF.out] at h; cases h⟩, hE6.set4 (Nat.le_refl _) _ _ _ _⟩
                  | some vv =>
                    obtain rfl : bb = true := hbb
                    obtain rfl := hv _ rfl
                    clear hv
                    obtain ⟨hv1, hv2⟩ := (num_some HNZ.out.symm).2
                    have HT4 : Hid (o = if v < 0 then none else endI i nm ys v.toNat) := Lib.hid HT3.out
                    clear HT3
                    by_cases hneg : v < 0
                    · have HF : Hid (o = none) := Lib.hid (by rw [HT4.out, if_pos hneg])
                      have z0 := B06.c0
                      have z1 := B06.c1
                      have z2 := B06.c2
                      have z3 := B06.c3
                      have zf0 := B06.frozen 0
                      have zf1 := B06.frozen 1
                      have zf2 := B06.frozen 2
                      have zf3 := B06.frozen 3
                      have y0 := Bc6.c0
                      have y1 := Bc6.c1
                      have y2 := Bc6.c2
                      have y3 := Bc6.c3
                      have yf0 := Bc6.frozen 0
                      have yf1 := Bc6.frozen 1
                      have yf2 := Bc6.frozen 2
                      have yf3 := Bc6.frozen 3
                      go_wp2_with fail
                      have hbz := B06.set4 (.int .u8 (KK : Int)) (.string (str nm)) (.slice none 0 0) (.string ⟨#[]⟩)
                      have zz0 := hbz.c0
                      have zz1 := hbz.c1
                      have zz2 := hbz.c2
                      have zz3 := hbz.c3
                      refine bodyPost_ret (v := .tuple #[.agg #[(.int .u8 (KK : Int)), .string (str nm), .slice none 0 0, .string ⟨#[]⟩], .int .i64 0, .bool false]) (by simp [results, Tryd.results25, go_sem, zz0, zz1, zz2, zz3]) rfl ?_
                      exact ⟨⟨_, _, _, _, _, _, 0, false, rfl, by rw [HF.out]; rfl, by omega, by omega, fun c k h => by rw [HF.out] at h; cases h⟩, hE6.set4 (Nat.le_refl _) _ _ _ _⟩
                    · have HF : Hid (o = endI i nm ys v.toNat) := Lib.hid (by rw [HT4.out, if_neg hneg])
                      obtain ⟨u, rfl⟩ : ∃ u : Nat, v = (u : Int) := ⟨v.toNat, by omega⟩
                      rw [Int.toNat_natCast] at HF
                      clear HT4
                      go_wp2_with fail
                      go_meet
                      exact ⟨_, _, ys, u, rfl, rfl, by omega, hri, HF, HP3, by omega, Bc6, hX6⟩
            case rest => as_aux_lemma =>
              obtain ⟨A3, c3, fs3, kk, rfl, rfl, hkk, hrow6, HT2, HP3, hfl3, Bc6, hX6⟩ := hcut
              refine hKX _ _ ?_
              clear hKX HT HP2 hfl2 hrow5 hc2m hcc Bc5 hX5 hE5 B05 z0 HVT
              have HT3 : Hid (o = match numsL fs3 with | none => none | some ns => if cntB (i + 1) ns.length = true then some (⟨i + 1, nm, ns, []⟩, kk) else none) := Lib.hid HT2.out
              clear HT2
              go_wp2_with fail
              go_loopw [11] (fun jv wr => ∃ (j : Nat) (ns : List Int) (v : Value), j ≤ fs3.length ∧ jv = .int .i64 j ∧ Hid (ns.length = j) ∧ Hid (numsL fs3 = (numsL (fs3.drop j)).map (ns ++ ·)) ∧ wr.ownsRow w1.heap.size 3 1 v j (iV ns) ∧ Box wr cb 54 #[.int .u8 (KK : Int), .string (str nm), v, .string ⟨#[]⟩] ∧ Ext w1 wr) (fun jv _ => fs3.length - (intOf jv).toNat)
              case atStart => exact ⟨0, [], _, by omega, rfl, Lib.hid rfl, Lib.hid (by rw [List.drop_zero]; cases numsL fs3 <;> simp), World.ownsRow_nil _ _ _ _, Bc6, hX6⟩
              case round =>
                clear Bc6 hX6
                obtain ⟨j, ns, v, hj, rfl, HNL, HNS, hown, Bc7, hX7⟩ := hrel
                obtain ⟨A7, c7, rfl⟩ := own_shape hown
                by_cases hjl : j < fs3.length
                · have h3 := hrow6.inj.2.2.2
                  obtain ⟨b', off, rfl, hc⟩ := h3 (by rw [sV_len]; omega)
                  have hc0 := hX7.cell (hc j _ (sV_get (List.getElem?_eq_getElem hjl)))
                  obtain ⟨hs1, hs2⟩ := numsL_split hjl HNS.out
                  have hxl := HP3.out fs3[j] (List.getElem_mem hjl)
                  obtain ⟨x, hx⟩ : ∃ x, x = fs3[j] := ⟨_, rfl⟩
                  rw [← hx] at hc0 hs1 hs2 hxl
                  obtain ⟨nz, hnz⟩ : ∃ q, q = num x := ⟨_, rfl⟩
                  rw [← hnz] at hs1 hs2
                  have HS1 := Lib.hid hs1
                  have HS2 := Lib.hid hs2
                  have HNZ := Lib.hid hnz
                  have hxl2 : x.length ≤ 1099511627776 := by omega
                  clear h3 hc hs1 hs2 hx hnz HNS
                  go_wp2_with fail
                  refine (value_any x _ hxl2).mono ?_
                  rintro e w8 ⟨⟨v, bb, rfl, hbb, hv⟩, hx8⟩
                  rw [← HNZ.out] at hbb hv
                  have Bc8 := Bc7.ext hx8
                  have hX8 := hX7.trans hx8
                  have hown8 := ownsRow_ext hown hx8
                  clear Bc7 hX7 hc0 hown hx8
                  cases nz with
                  | none =>
                    obtain rfl : bb = false := hbb
                    have HF : Hid (o = none) := Lib.hid (by rw [HT3.out, HS1.out rfl])
                    have B08 := B01.ext hX8
                    have hE8 := hE1.trans hX8
                    clear hv HT3 HS1 HS2
                    have z0 := B08.c0
                    have z1 := B08.c1
                    have z2 := B08.c2
                    have z3 := B08.c3
                    have zf0 := B08.frozen 0
                    have zf1 := B08.frozen 1
                    have zf2 := B08.frozen 2
                    have zf3 := B08.frozen 3
                    have y0 := Bc8.c0
                    have y1 := Bc8.c1
                    have y2 := Bc8.c2
                    have y3 := Bc8.c3
                    have yf0 := Bc8.frozen 0
                    have yf1 := Bc8.frozen 1
                    have yf2 := Bc8.frozen 2
                    have yf3 := Bc8.frozen 3
                    go_wp2_with fail
                    have hbz := B08.set4 (.int .u8 (KK : Int)) (.string (str nm)) (.slice A7 j c7) (.string ⟨#[]⟩)
                    have zz0 := hbz.c0
                    have zz1 := hbz.c1
                    have zz2 := hbz.c2
                    have zz3 := hbz.c3
                    refine bodyPost_ret (v := .tuple #[.agg #[(.int .u8 (KK : Int)), .string (str nm), .slice A7 j c7, .string ⟨#[]⟩], .int .i64 0, .bool false]) (by simp [results, Tryd.results25, go_sem, zz0, zz1, zz2, zz3]) rfl ?_
                    exact ⟨⟨_, _, _, _, _, _, 0, false, rfl, by rw [HF.out]; rfl, by omega, by omega, fun c k h => by rw [HF.out] at h; cases h⟩, hE8.set4 (Nat.le_refl _) _ _ _ _⟩
                  | some vv =>
                    obtain rfl : bb = true := hbb
                    obtain rfl := hv _ rfl
                    have HNS2 := Lib.hid (HS2.out _ rfl)
                    have HNL2 : Hid ((ns ++ [v]).length = j + 1) := Lib.hid (by rw [List.length_append, HNL.out]; rfl)
                    have hsz8 := hX8.size
                    have hneb := own_neBox hown8 Bc8 (by decide)
                    have hneb2 := hown8.lt
                    have z2 := Bc8.cell 2
                    have HNE := Lib.hid hneb
                    have HNE2 := Lib.hid hneb2
                    clear hv HS1 HS2 HNZ hneb hneb2 HNL
                    go_wp2_with (at_builtin; refine wpList_append_own _ rfl _ _ 38 rfl w1.heap.size 3 i0 (.int .i64 0) 1 8 Tryd.underlying38 hi hz0 hz1 hz2 rfl (by decide) _ _ _ rfl (hown8.alloc _) ⟨w8.heap.size, 0, none⟩ 1 1 [.int .i64 v] rfl rfl ?c1 ?c2 ?c3 ?c4 ?c5 ?_)
                    case c1 =>
                      intro j u hj
                      match j, hj with
                      | 0, hj => simp at hj; subst hj; simp [Addr.add]
                    case c2 => intro u hu; simp at hu; subst hu; rfl
                    case c3 => unfold maxLen; omega
                    case c4 => omega
                    case c5 => simp; omega
                    intro v' w9 hown' hgrow _
                    have hX9 : Ext w1 w9 := Below.grown (hX8.alloc _) hgrow (by simp; omega) (fun k hk => (HNE2.out k hk).1)
                    have Bc9 : Box w9 cb 54 #[.int .u8 (KK : Int), .string (str nm), .slice A7 j c7, .string ⟨#[]⟩] := by
                      have hlt := (Bc8.alloc (.cells #[.int .i64 v] 3)).lt
                      exact (hgrow.block cb hlt (fun e => HNE.out e.symm)).trans (Bc8.alloc _)
                    have e2 : iV (ns ++ [v]) = iV ns ++ [.int .i64 v] := by simp [iV]
                    rw [← e2] at hown'
                    have hne9 := own_neBox hown' Bc9 (by decide)
                    have Bc10 := Bc9.set 2 v'
                    have hown10 := ownsRow_setCell_other hown' (a := ⟨cb, 2, none⟩) hne9 v'
                    have z2 := Bc9.cell 2
                    have zf2 := Bc9.frozen 2
                    obtain ⟨A9, c9, rfl⟩ := own_shape hown'
                    clear hown' hgrow hown8 e2 hne9 Bc8 hX8 HNE HNE2
                    go_wp2_with fail
                    go_roundw
                    case rel => exact ⟨j + 1, ns ++ [v], _, by omega, by go_num, HNL2, HNS2, hown10, Bc10, hX9.set hcb1 _⟩
                    case measure => simp [intOf]; omega
                · obtain rfl : j = fs3.length := by omega
                  have HNS2 : Hid (numsL fs3 = some ns) := Lib.hid (by rw [HNS.out, List.drop_length]; simp [numsL])
                  have hnl : fs3.length ≤ 9223372036854775807 := by omega
                  have B08 := B01.ext hX7
                  have hE8 := hE1.trans hX7
                  have HRI : Hid (Row wr (.slice A7 fs3.length c7) (iV ns)) := Lib.hid (by
                    have := Row.of_owns (xs := iV ns) (by rw [iV_len, HNL.out]; exact hown)
                    exact this)
                  have HTY := Lib.hid (TyI.of_owns hown)
                  obtain ⟨cv, hcv⟩ : ∃ q, q = cntB KK fs3.length := ⟨_, rfl⟩
                  have HCV : Hid (cntB KK fs3.length = cv) := Lib.hid hcv.symm
                  have HF : Hid (o = if cv = true then some (⟨KK, nm, ns, []⟩, kk) else none) := Lib.hid (by rw [HT3.out, HNS2.out]; simp only; rw [HNL.out, ← HKK.out, hcv])
                  clear hcv HT3 HNS HNS2 HNL hown
                  have z0 := B08.c0
                  have z1 := B08.c1
                  have z2 := B08.c2
                  have z3 := B08.c3
                  have zf0 := B08.frozen 0
                  have zf1 := B08.frozen 1
                  have zf2 := B08.frozen 2
                  have zf3 := B08.frozen 3
                  have y0 := Bc7.c0
                  have y1 := Bc7.c1
                  have y2 := Bc7.c2
                  have y3 := Bc7.c3
                  have yf0 := Bc7.frozen 0
                  have yf1 := Bc7.frozen 1
                  have yf2 := Bc7.frozen 2
                  have yf3 := Bc7.frozen 3
                  go_upto_region 32 with fail
                  go_region_law (first
                    | (go_simp; go_at_call 49; (with_reducible refine (counts_any KK fs3.length _ hk255 hnl).mono ?_); rintro e wl ⟨rfl, rfl⟩; rw [HCV.out]))
                  all_goals (
                    go_wp2_with fail
                    have hbz := B08.set4 (.int .u8 (KK : Int)) (.string (str nm)) (.slice A7 fs3.length c7) (.string ⟨#[]⟩)
                    have zz0 := hbz.c0
                    have zz1 := hbz.c1
                    have zz2 := hbz.c2
                    have zz3 := hbz.c3
                    have hr7 := HRI.out.put4 (kd' := (KK : Int)) (nm' := str nm) (A' := A7) (n' := fs3.length) (c' := c7) (tx' := ⟨#[]⟩) B08
                    refine bodyPost_ret (v := .tuple #[.agg #[.int .u8 (KK : Int), .string (str nm), .slice A7 fs3.length c7, .string ⟨#[]⟩], .int .i64 (kk : Int), .bool cv]) (by simp [results, Tryd.results25, go_sem, zz0, zz1, zz2, zz3]) rfl ?_
                    refine ⟨⟨_, _, _, _, _, _, (kk : Int), cv, rfl, by rw [HF.out]; cases cv <;> rfl, by omega, by omega, fun c' k' h => ?_⟩, by first | exact hE8.set4 (Nat.le_refl _) _ _ _ _ | exact (hE8.set4 (Nat.le_refl _) _ _ _ _).drew⟩
                    rw [HF.out] at h
                    cases cv with
                    | false => cases h
                    | true =>
                      injection h with h
                      injection h with ha hb
                      subst ha hb
                      refine ⟨⟨_, _, _, rfl, ?_⟩, rfl, ?_⟩
                      · first | exact hr7 | exact hr7.ext ((Ext.refl _).drew)
                      · first | exact (((HTY.out.set _ _).set _ _).set _ _).set _ _ | exact ((((HTY.out.set _ _).set _ _).set _ _).set _ _).ext ((Ext.refl _).drew))
end Go.Proofs.YtnbmmgeoglfbdaaDoor.Sc

/- Walk: the law ScriptCuts. -/
import Derived.Test.YtpdijhplelpmhaaDoorSLaws
import Derived.Test.YtpdijhplelpmhaaDoorLSErrors
set_option linter.unusedVariables false
set_option linter.unusedSimpArgs false
namespace Go.Proofs.YtpdijhplelpmhaaDoor.Sc
open Go.RowKit Go.Proofs.YtpdijhplelpmhaaDoor.Big

/-- the first k commands of a list in memory; one command of it -/
theorem CmdsV.take {w : World} {A : Option Addr} {n c : Nat} {l : List Cmd} (h : CmdsV w (.slice A n c) l) (k : Nat) (hk : k ≤ l.length) : CmdsV w (.slice A k c) (l.take k) := by
  obtain ⟨h0, h1, h2, h3⟩ := h.inj
  refine ⟨A, c, by rw [List.length_take, Nat.min_eq_left hk], by rw [List.length_take]; omega, h2, fun hn => ?_⟩
  rw [List.length_take] at hn
  obtain ⟨b, off, rfl, hc⟩ := h3 (by omega)
  refine ⟨b, off, rfl, fun j x hj => ?_⟩
  rw [List.getElem?_take] at hj
  split at hj
  · exact hc j x hj
  · cases hj
theorem CmdsV.one {w : World} {b off n c k : Nat} {l : List Cmd} (h : CmdsV w (.slice (some ⟨b, off, none⟩) n c) l) (hk : k < l.length) (c' : Nat) (hc1 : 1 ≤ c') (hc2 : c' ≤ 9223372036854775807) : CmdsV w (.slice (some ⟨b, off + k * 4, none⟩) 1 c') [l[k]] := by
  obtain ⟨h0, h1, h2, h3⟩ := h.inj
  obtain ⟨b', off', e, hc⟩ := h3 (by omega)
  injection e with e
  injection e with e1 e2
  subst e1 e2
  refine ⟨_, c', rfl, by simpa using hc1, hc2, fun _ => ⟨b, off + k * 4, rfl, fun j x hj => ?_⟩⟩
  match j, hj with
  | 0, hj =>
    simp at hj; subst hj
    have := hc k l[k] (List.getElem?_eq_getElem hk)
    simpa using this
  | j + 1, hj => simp at hj
theorem Good.one {l : List Cmd} (h : Good l) {k : Nat} (hk : k < l.length) : Good [l[k]] := fun c hc => by
  simp only [List.mem_singleton] at hc; subst hc; exact h _ (List.getElem_mem hk)
theorem Good.take {l : List Cmd} (h : Good l) (k : Nat) : Good (l.take k) := fun c hc => h c (List.mem_of_mem_take hc)
theorem formatL_one (c : Cmd) : formatL [c] = formatC c := by simp [formatL]
theorem linesL_take {l : List Cmd} {k : Nat} (hk : k < l.length) : linesL (l.take (k + 1)) = linesL (l.take k) + (1 + nl l[k].text) := by
  rw [List.take_succ_eq_append_getElem hk, linesL_append]; simp [linesL]
/-- what is left of a text form that is cut behind n bytes: k commands, and something of the next -/
theorem cut_at {l : List Cmd} (hg : Good l) (hl : l.length ≤ 1000) {k n : Nat} (hk : k < l.length) (h1 : (formatL (l.take k)).length ≤ n) (h2 : n < (formatL (l.take (k + 1))).length) :
    (n = (formatL (l.take k)).length ∧ parse ((formatL l).take n) = .ok (l.take k)) ∨ ((formatL (l.take k)).length < n ∧ parse ((formatL l).take n) = .err (1 + linesL (l.take k)) 4) := by
  have hsplit : formatL l = formatL (l.take k) ++ (formatC l[k] ++ formatL (l.drop (k + 1))) := by
    rw [← formatL_cons, ← List.drop_eq_getElem_cons hk, ← formatL_append, List.take_append_drop]
  have hlen : (formatL (l.take (k + 1))).length = (formatL (l.take k)).length + (formatC l[k]).length := by rw [formatL_take hk, List.length_append]
  have htk : (formatL l).take n = formatL (l.take k) ++ (formatC l[k]).take (n - (formatL (l.take k)).length) := by
    rw [hsplit, List.take_append, List.take_of_length_le h1, List.take_append_of_le_length (by omega)]
  rcases Nat.eq_or_lt_of_le h1 with h | h
  · left
    refine ⟨h.symm, ?_⟩
    rw [htk, h, Nat.sub_self, List.take_zero, List.append_nil]
    exact parse_format (hg.take k) (by rw [List.length_take]; omega)
  · right
    refine ⟨h, ?_⟩
    rw [htk]
    have hgk := hg l[k] (List.getElem_mem hk)
    have hp : (formatC l[k]).take (n - (formatL (l.take k)).length) ≠ [] := by
      intro e
      have := congrArg List.length e
      rw [List.length_take, List.length_nil] at this; omega
    have hq : (formatC l[k]).drop (n - (formatL (l.take k)).length) ≠ [] := by
      intro e
      have := congrArg List.length e
      rw [List.length_drop, List.length_nil] at this; omega
    exact parse_app_err (hg.take k) (by rw [List.length_take]; omega) hp (step_prefix hgk.1 hgk.2 (List.take_append_drop _ _) hp hq)
theorem lines_any (c : Cmd) (A : Option Addr) (n cc : Nat) (w : World) (hl : c.text.length ≤ 140737488355328) : Calls Tryd.prog 28 #[.agg #[.int .u8 (c.kind : Int), .string (str c.name), .slice A n cc, .string (str c.text)]] w (fun e w' => e = .returned (.int .i64 ((1 + nl c.text : Nat) : Int)) ∧ Ext w w') := by
  have hn := nl_le c.text
  obtain ⟨N, hN⟩ : ∃ N, N = nl c.text := ⟨_, rfl⟩
  have HN := Lib.hid hN
  rw [← hN] at hn ⊢
  clear hN
  go_enter Tryd.func28, Tryd.ntmps28
  go_wp2_with fail
  refine (Tryd.strings_Count_one (str c.text) 10 _).mono ?_
  rintro e w6 ⟨rfl, rfl⟩
  rw [count_nl, str_list, ← HN.out]
  go_wp2_with fail
  go_ret
  exact ⟨by show Ending.returned (.int .i64 (1 + (N : Int))) = _; first | rfl | (congr 2; omega), (Ext.refl w).alloc _⟩
theorem take_str (S : BL) (N : Nat) (h : N ≤ S.length) : (str S).extract 0 N = str (S.take N) := by
  have h1 := extract_str (S.take N) (S.drop N)
  rw [List.take_append_drop, List.length_take, Nat.min_eq_left h] at h1
  exact h1
set_option maxHeartbeats 8000000 in
set_option maxRecDepth 100000 in
theorem cuts_any (A : Option Addr) (n c : Nat) (l : List Cmd) (cut : Int) (w : World) (h : CmdsV w (.slice A n c) l) (hm : Mild l) (hi : AllIn l) (he : Env w) (hf : FormatsOK w) (hc0 : 0 ≤ cut) (hc1 : cut ≤ 65535) :
    Calls Tryd.prog 9 #[.slice A n c, .int .u16 cut] w (BoolPost w true) := by
  obtain ⟨sm, hsm⟩ : ∃ b, b = smallB l := ⟨_, rfl⟩
  have HSM := Lib.hid hsm
  clear hsm
  cases sm with
  | false =>
    go_enter Tryd.func9, Tryd.ntmps9
    go_wp2_with fail
    refine (awake_any _ he hf).mono ?_
    rintro e w1 ⟨rfl, hx1⟩
    go_wp2_with fail
    refine (small_any A n c l _ (h.ext hx1) hm).mono ?_
    rintro e w2 ⟨rfl, hx2⟩
    have hx := hx1.trans hx2
    rw [← HSM.out]
    go_wp2_with fail
    refine (awake_any _ (he.ext hx) (hf.ext hx)).mono ?_
    rintro e w3 ⟨rfl, hx3⟩
    go_wp2_with fail
    go_ret
    exact ⟨rfl, hx.trans hx3⟩
  | true =>
    have hl40 : l.length ≤ 40 := by
      have := HSM.out
      unfold smallB at this
      simp at this; exact this.1
    obtain ⟨V, hV⟩ : ∃ b, b = validL l := ⟨_, rfl⟩
    have HV := Lib.hid hV
    clear hV
    cases V with
    | false =>
      go_enter Tryd.func9, Tryd.ntmps9
      go_wp2_with fail
      refine (awake_any _ he hf).mono ?_
      rintro e w1 ⟨rfl, hx1⟩
      go_wp2_with fail
      refine (small_any A n c l _ (h.ext hx1) hm).mono ?_
      rintro e w2 ⟨rfl, hx2⟩
      have hx := hx1.trans hx2
      rw [← HSM.out]
      go_wp2_with fail
      refine (Format_bad A n c l _ (h.ext hx) hm hi HV.out.symm (he.ext hx) (hf.ext hx)).mono ?_
      rintro e w3 ⟨rfl, hx3⟩
      go_wp2_with fail
      go_ret
      exact ⟨rfl, hx.trans hx3⟩
    | true =>
      have hg := good_of HV.out.symm hi
      have HG := Lib.hid hg
      have hsz := formatL_size hg (by omega)
      obtain ⟨S, hS⟩ : ∃ S, S = formatL l := ⟨_, rfl⟩
      obtain ⟨N, hN⟩ : ∃ N : Nat, N = cut.toNat % (S.length + 1) := ⟨_, rfl⟩
      have hNl : N ≤ S.length := by
        have := Nat.mod_lt cut.toNat (show 0 < S.length + 1 by omega)
        omega
      have hNi : cut % ((S.length : Int) + 1) = (N : Int) := by
        rw [hN]; push_cast; rw [Int.toNat_of_nonneg hc0]
      rw [← hS] at hsz
      obtain ⟨res, hres⟩ : ∃ r, r = parse (S.take N) := ⟨_, rfl⟩
      have HR := Lib.hid hres
      have HS := Lib.hid hS
      have HX := Lib.hid (take_str S N hNl)
      have hnc := h.inj
      have hn0 := hnc.1
      have hnc1 := hnc.2.1
      have hnc2 := hnc.2.2.1
      subst hn0
      clear hres hS hN hg hnc
      have hss : (str S).size = S.length := rfl
      go_enter Tryd.func9, Tryd.ntmps9
      go_wp2_with fail
      refine (awake_any _ he hf).mono ?_
      rintro e w1 ⟨rfl, hx1⟩
      go_wp2_with fail
      refine (small_any A l.length c l _ (h.ext hx1) hm).mono ?_
      rintro e w2 ⟨rfl, hx2⟩
      have hx := hx1.trans hx2
      rw [← HSM.out]
      go_wp2_with fail
      refine (Format_ok A l.length c l _ (h.ext hx) HG.out (by omega) (he.ext hx) (hf.ext hx)).mono ?_
      rintro e w3 ⟨rfl, hx3⟩
      rw [← HS.out]
      have hX3 := hx.trans hx3
      go_wp2_with fail
      rw [HX.out]
      simp only [hNi]
      have HNI := Lib.hid hNi
      clear hNi
      cases res with
      | ok m =>
        refine (Parse_ok (str (S.take N)) m _ (by rw [str_size, List.length_take]; omega) (he.ext hX3) (hf.ext hX3) (by rw [str_list]; exact HR.out.symm)).mono ?_
        rintro e w4 ⟨⟨A4, n4, c4, rfl, hv4⟩, hx4⟩
        have hX4 := hX3.trans hx4
        have hv := h.ext hX4
        have heW := he.ext hX4
        have hfW := hf.ext hX4
        clear hx1 hx2 hx hx3 hx4 hX3 h
        go_wp2_with fail
        go_loopw [11, 12, 48] (fun dv lv iv wr => ∃ k : Nat, k ≤ l.length ∧ iv = .int .i64 k ∧ dv = .int .i64 (formatL (l.take k)).length ∧ lv = .int .i64 ((1 + linesL (l.take k) : Nat) : Int) ∧ (formatL (l.take k)).length ≤ N ∧ linesL (l.take k) ≤ 100000000 ∧ Ext w4 wr) (fun _ _ iv _ => l.length - (intOf iv).toNat)
        case atStart => exact ⟨0, by omega, rfl, by simp [formatL], by simp [linesL], by simp [formatL], by simp [linesL], Ext.refl _⟩
        case round =>
          obtain ⟨k, hk, rfl, rfl, rfl, hD, hLb, hxr⟩ := hrel
          by_cases hlt : k < l.length
          · obtain ⟨b, off, A', n', c', hA, g0, g1, g2, g3, g4⟩ := (hv.ext hxr).at_ hlt
            subst hA
            have hft := formatL_take hlt
            have hlt2 := linesL_take hlt
            have hgk := HG.out l[k] (List.getElem_mem hlt)
            obtain ⟨fm, _, _, fm4⟩ := formatC_max hgk.1 hgk.2
            have hone := (hv.ext hxr).one hlt (c - k) (by omega) (by omega)
            have hcut := cut_at HG.out (by omega) (n := N) hlt hD
            have hnlk : linesL (l.take (k + 1)) ≤ 100000000 := by
              have h1 := nl_le (formatL (l.take (k + 1)))
              rw [nl_formatL (HG.out.take (k + 1))] at h1
              have h2 := formatL_size (HG.out.take (k + 1)) (by rw [List.length_take]; omega)
              omega
            have hg1 := HG.out.one hlt
            obtain ⟨x, hxd⟩ : ∃ x, x = l[k] := ⟨_, rfl⟩
            rw [← hxd] at g0 g1 g3 g4 hft hlt2 fm hone hg1 fm4
            obtain ⟨D, hDd⟩ : ∃ D, D = (formatL (l.take k)).length := ⟨_, rfl⟩
            obtain ⟨F, hFd⟩ : ∃ F, F = formatC x := ⟨_, rfl⟩
            obtain ⟨LN, hLN⟩ : ∃ L, L = linesL (l.take k) := ⟨_, rfl⟩
            have hft2 : (formatL (l.take (k + 1))).length = D + F.length := by rw [hft, List.length_append, hDd, hFd]
            rw [← hDd] at hD hcut ⊢
            rw [← hLN] at hLb hcut hlt2 ⊢
            rw [← hFd] at fm
            rw [hft2] at hcut
            have HFT := Lib.hid hft2
            have HLT := Lib.hid hlt2
            have HCUT := Lib.hid hcut
            have HONE := Lib.hid hone
            have HG1 := Lib.hid hg1
            have HFD : Hid (formatL [x] = F) := Lib.hid (by rw [formatL_one, hFd])
            have HDD := Lib.hid hDd
            have hck : ¬ c = k := by omega
            have hkc : k + 1 ≤ c := by omega
            have hDb : D ≤ 100000000 := by omega
            have h60 : ((1 + LN : Nat) : Int) = (1 : Int) + (LN : Int) := by omega
            clear hft hlt2 hcut hone hgk hg1 hxd hDd hFd hft2 hLN
            have hE1 : Ext wr (wr.alloc (.cells #[.int .u8 (x.kind : Int), .string (str x.name), .slice A' n' c', .string (str x.text)] 42)) := (Ext.refl wr).alloc _
            have hxr2 := hxr.trans hE1
            go_wp2_with fail
            refine (Format_ok (some ⟨b, off + k * 4, none⟩) 1 (c - k) [x] _ (HONE.out.ext hE1) HG1.out (by simp) (heW.ext hxr2) (hfW.ext hxr2)).mono ?_
            rintro e w7 ⟨rfl, hx7⟩
            rw [HFD.out]
            have hX7 := hxr2.trans hx7
            have hFs : (str F).size = F.length := rfl
            by_cases hgt : N < D + F.length
            · rcases HCUT.out hgt with ⟨hNe, hpr⟩ | ⟨hNl, hpr⟩
              · rw [← HS.out, ← HR.out] at hpr
                injection hpr with hpr; subst hpr; have hDN : ((D : Int) == (N : Int)) = true := (by simp; omega); have hkc2 : k ≤ c := (by omega); go_wp2_with fail; refine (same_true A4 (some ⟨b, off, none⟩) n4 c4 k c (l.take k) _ (hv4.ext hX7) ((hv.ext hX7).take k hk)).mono ?_; rintro e w8 ⟨rfl, hx8⟩; go_wp2_with fail; go_ret; exact ⟨rfl, hX4.trans (hX7.trans hx8)⟩
              · rw [← HS.out, ← HR.out] at hpr
                cases hpr
            · have hbx := (Box.new wr 42 #[.int .u8 (x.kind : Int), .string (str x.name), .slice A' n' c', .string (str x.text)]).ext hx7
              have z0 := hbx.c0
              have z1 := hbx.c1
              have z2 := hbx.c2
              have z3 := hbx.c3
              clear g0 g1 g2 g3 g4 hE1
              go_wp2_with fail
              refine (lines_any x A' n' c' _ (by omega)).mono ?_
              rintro e w8 ⟨rfl, hx8⟩
              have hX8 := hX7.trans hx8
              clear z0 z1 z2 z3 hbx h60
              have hnx : 1 + nl x.text ≤ 100000 := by have := nl_le x.text; omega
              go_wp2_with fail
              go_roundw
              case rel => exact ⟨k + 1, by omega, by go_num, by rw [HFT.out]; go_num, by rw [HLT.out]; go_num, by rw [HFT.out]; omega, hnlk, hX8⟩
              case measure => simp [intOf]; omega
          · obtain rfl : k = l.length := by omega
            rw [List.take_length] at hD hLb
            have hNl2 : N ≤ (formatL l).length := by rw [← HS.out]; exact hNl
            have hNe : N = (formatL l).length := by omega
            have hpr : parse ((formatL l).take N) = .ok l := by rw [hNe, List.take_length]; exact parse_format HG.out (by omega)
            rw [← HS.out, ← HR.out] at hpr
            injection hpr with hpr; rw [hpr] at hv4; clear hpr hNe hNl2; go_wp2_with fail; refine (same_true A4 A n4 c4 l.length c l _ (hv4.ext hxr) (hv.ext hxr)).mono ?_; rintro e w8 ⟨rfl, hx8⟩; go_wp2_with fail; go_ret; exact ⟨rfl, hX4.trans (hxr.trans hx8)⟩
      | err a er =>
        refine (Parse_err (str (S.take N)) a er _ (by rw [str_size, List.length_take]; omega) (he.ext hX3) (hf.ext hX3) (by rw [str_list]; exact HR.out.symm)).mono ?_
        rintro e w4 ⟨rfl, hx4⟩
        have hX4 := hX3.trans hx4
        have hv := h.ext hX4
        have heW := he.ext hX4
        have hfW := hf.ext hX4
        clear hx1 hx2 hx hx3 hx4 hX3 h
        go_wp2_with fail
        go_loopw [11, 12, 48] (fun dv lv iv wr => ∃ k : Nat, k ≤ l.length ∧ iv = .int .i64 k ∧ dv = .int .i64 (formatL (l.take k)).length ∧ lv = .int .i64 ((1 + linesL (l.take k) : Nat) : Int) ∧ (formatL (l.take k)).length ≤ N ∧ linesL (l.take k) ≤ 100000000 ∧ Ext w4 wr) (fun _ _ iv _ => l.length - (intOf iv).toNat)
        case atStart => exact ⟨0, by omega, rfl, by simp [formatL], by simp [linesL], by simp [formatL], by simp [linesL], Ext.refl _⟩
        case round =>
          obtain ⟨k, hk, rfl, rfl, rfl, hD, hLb, hxr⟩ := hrel
          by_cases hlt : k < l.length
          · obtain ⟨b, off, A', n', c', hA, g0, g1, g2, g3, g4⟩ := (hv.ext hxr).at_ hlt
            subst hA
            have hft := formatL_take hlt
            have hlt2 := linesL_take hlt
            have hgk := HG.out l[k] (List.getElem_mem hlt)
            obtain ⟨fm, _, _, fm4⟩ := formatC_max hgk.1 hgk.2
            have hone := (hv.ext hxr).one hlt (c - k) (by omega) (by omega)
            have hcut := cut_at HG.out (by omega) (n := N) hlt hD
            have hnlk : linesL (l.take (k + 1)) ≤ 100000000 := by
              have h1 := nl_le (formatL (l.take (k + 1)))
              rw [nl_formatL (HG.out.take (k + 1))] at h1
              have h2 := formatL_size (HG.out.take (k + 1)) (by rw [List.length_take]; omega)
              omega
            have hg1 := HG.out.one hlt
            obtain ⟨x, hxd⟩ : ∃ x, x = l[k] := ⟨_, rfl⟩
            rw [← hxd] at g0 g1 g3 g4 hft hlt2 fm hone hg1 fm4
            obtain ⟨D, hDd⟩ : ∃ D, D = (formatL (l.take k)).length := ⟨_, rfl⟩
            obtain ⟨F, hFd⟩ : ∃ F, F = formatC x := ⟨_, rfl⟩
            obtain ⟨LN, hLN⟩ : ∃ L, L = linesL (l.take k) := ⟨_, rfl⟩
            have hft2 : (formatL (l.take (k + 1))).length = D + F.length := by rw [hft, List.length_append, hDd, hFd]
            rw [← hDd] at hD hcut ⊢
            rw [← hLN] at hLb hcut hlt2 ⊢
            rw [← hFd] at fm
            rw [hft2] at hcut
            have HFT := Lib.hid hft2
            have HLT := Lib.hid hlt2
            have HCUT := Lib.hid hcut
            have HONE := Lib.hid hone
            have HG1 := Lib.hid hg1
            have HFD : Hid (formatL [x] = F) := Lib.hid (by rw [formatL_one, hFd])
            have HDD := Lib.hid hDd
            have hck : ¬ c = k := by omega
            have hkc : k + 1 ≤ c := by omega
            have hDb : D ≤ 100000000 := by omega
            have h60 : ((1 + LN : Nat) : Int) = (1 : Int) + (LN : Int) := by omega
            clear hft hlt2 hcut hone hgk hg1 hxd hDd hFd hft2 hLN
            have hE1 : Ext wr (wr.alloc (.cells #[.int .u8 (x.kind : Int), .string (str x.name), .slice A' n' c', .string (str x.text)] 42)) := (Ext.refl wr).alloc _
            have hxr2 := hxr.trans hE1
            go_wp2_with fail
            refine (Format_ok (some ⟨b, off + k * 4, none⟩) 1 (c - k) [x] _ (HONE.out.ext hE1) HG1.out (by simp) (heW.ext hxr2) (hfW.ext hxr2)).mono ?_
            rintro e w7 ⟨rfl, hx7⟩
            rw [HFD.out]
            have hX7 := hxr2.trans hx7
            have hFs : (str F).size = F.length := rfl
            by_cases hgt : N < D + F.length
            · rcases HCUT.out hgt with ⟨hNe, hpr⟩ | ⟨hNl, hpr⟩
              · rw [← HS.out, ← HR.out] at hpr
                cases hpr
              · rw [← HS.out, ← HR.out] at hpr
                injection hpr with hp1 hp2; subst hp1 hp2; have hDN : ((D : Int) == (N : Int)) = false := (by simp; omega); go_wp2_with fail; go_ret; exact ⟨rfl, hX4.trans hX7⟩
            · have hbx := (Box.new wr 42 #[.int .u8 (x.kind : Int), .string (str x.name), .slice A' n' c', .string (str x.text)]).ext hx7
              have z0 := hbx.c0
              have z1 := hbx.c1
              have z2 := hbx.c2
              have z3 := hbx.c3
              clear g0 g1 g2 g3 g4 hE1
              go_wp2_with fail
              refine (lines_any x A' n' c' _ (by omega)).mono ?_
              rintro e w8 ⟨rfl, hx8⟩
              have hX8 := hX7.trans hx8
              clear z0 z1 z2 z3 hbx h60
              have hnx : 1 + nl x.text ≤ 100000 := by have := nl_le x.text; omega
              go_wp2_with fail
              go_roundw
              case rel => exact ⟨k + 1, by omega, by go_num, by rw [HFT.out]; go_num, by rw [HLT.out]; go_num, by rw [HFT.out]; omega, hnlk, hX8⟩
              case measure => simp [intOf]; omega
          · obtain rfl : k = l.length := by omega
            rw [List.take_length] at hD hLb
            have hNl2 : N ≤ (formatL l).length := by rw [← HS.out]; exact hNl
            have hNe : N = (formatL l).length := by omega
            have hpr : parse ((formatL l).take N) = .ok l := by rw [hNe, List.take_length]; exact parse_format HG.out (by omega)
            rw [← HS.out, ← HR.out] at hpr
            cases hpr
end Go.Proofs.YtpdijhplelpmhaaDoor.Sc

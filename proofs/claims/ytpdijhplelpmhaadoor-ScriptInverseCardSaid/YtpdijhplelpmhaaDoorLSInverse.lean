/- Walk: the law ScriptInverse. -/
import Derived.Test.YtpdijhplelpmhaaDoorSLaws
import Derived.Test.YtpdijhplelpmhaaDoorLSErrors
set_option linter.unusedVariables false
set_option linter.unusedSimpArgs false
namespace Go.Proofs.YtpdijhplelpmhaaDoor.Sc
open Go.RowKit Go.Proofs.YtpdijhplelpmhaaDoor.Big

set_option maxHeartbeats 4000000 in
set_option maxRecDepth 100000 in
theorem inverse_any (A : Option Addr) (n c : Nat) (l : List Cmd) (s : ByteArray) (w : World) (h : CmdsV w (.slice A n c) l) (hm : Mild l) (hi : AllIn l) (he : Env w) (hf : FormatsOK w) (hs63 : s.size ≤ 9223372036854775807) :
    Calls Tryd.prog 7 #[.slice A n c, .string s] w (BoolPost w true) := by
  obtain ⟨sm, hsm⟩ : ∃ b, b = smallB l := ⟨_, rfl⟩
  have HSM := Lib.hid hsm
  clear hsm
  cases sm with
  | false =>
    go_enter Tryd.func7, Tryd.ntmps7
    go_wp2_with fail
    refine (awake_any _ he hf).mono ?_
    rintro e w1 ⟨rfl, hx1⟩
    go_wp2_with fail
    refine (small_any A n c l _ (h.ext hx1) hm).mono ?_
    rintro e w2 ⟨rfl, hx2⟩
    have hx := hx1.trans hx2
    rw [← HSM.out]
    go_wp2_with fail
    refine (awake_any _ (he.ext hx) (hf.ext hx)).mono ?_
    rintro e w3 ⟨rfl, hx3⟩
    go_wp2_with fail
    go_ret
    exact ⟨rfl, hx.trans hx3⟩
  | true =>
    by_cases hbig : 1500 < s.size
    · go_enter Tryd.func7, Tryd.ntmps7
      go_wp2_with fail
      refine (awake_any _ he hf).mono ?_
      rintro e w1 ⟨rfl, hx1⟩
      go_wp2_with fail
      refine (small_any A n c l _ (h.ext hx1) hm).mono ?_
      rintro e w2 ⟨rfl, hx2⟩
      have hx := hx1.trans hx2
      rw [← HSM.out]
      go_wp2_with fail
      refine (awake_any _ (he.ext hx) (hf.ext hx)).mono ?_
      rintro e w3 ⟨rfl, hx3⟩
      go_wp2_with fail
      go_ret
      exact ⟨rfl, hx.trans hx3⟩
    · obtain ⟨res, hres⟩ : ∃ r, r = parse s.data.toList := ⟨_, rfl⟩
      have HR := Lib.hid hres
      obtain ⟨V, hV⟩ : ∃ b, b = validL l := ⟨_, rfl⟩
      have HV := Lib.hid hV
      clear hres hV
      go_enter Tryd.func7, Tryd.ntmps7
      go_wp2_with fail
      refine (awake_any _ he hf).mono ?_
      rintro e w1 ⟨rfl, hx1⟩
      go_wp2_with fail
      refine (small_any A n c l _ (h.ext hx1) hm).mono ?_
      rintro e w2 ⟨rfl, hx2⟩
      have hx := hx1.trans hx2
      rw [← HSM.out]
      have h2 := h.ext hx
      clear h hx1 hx2
      go_wp2_with fail
      cases V with
      | false =>
        refine (Format_bad A n c l _ h2 hm hi HV.out.symm (he.ext hx) (hf.ext hx)).mono ?_
        rintro e w3 ⟨rfl, hx3⟩
        have hX := hx.trans hx3
        clear hx hx3
        cases res with
        | err a er =>
          have hex := parse_err HR.out.symm
          have ha1 : 1 ≤ a := by obtain ⟨_, _, _, _, _, ha, _⟩ := hex; omega
          have her : ((er : Int) == 0) = false := by
            obtain ⟨_, _, _, _, _, _, _, hc⟩ := hex
            rcases hc with ⟨_, rfl⟩ | ⟨_, h2⟩
            · rfl
            · rcases step_code h2 with h | h <;> subst h <;> rfl
          have ha2 : decide ((1 : Int) ≤ a) = true := by simp; omega
          clear hex
          go_wp2_with fail
          refine (Parse_err s a er _ (by omega) (he.ext hX) (hf.ext hX) HR.out.symm).mono ?_
          rintro e w9 ⟨rfl, hx9⟩
          have hX9 := hX.trans hx9
          go_wp2_with fail
          go_ret
          exact ⟨rfl, hX9⟩
        | ok m =>
          obtain ⟨hsm, hgm, hlm⟩ := parse_inv HR.out.symm
          have hfs : str (formatL m) = s := by rw [← hsm, str_of]
          have hts : ((str (formatL m)).toList == s.toList) = true := by rw [hfs]; simp
          have HFS := Lib.hid hfs
          have HGM := Lib.hid hgm
          clear hsm hfs hgm
          go_wp2_with fail
          refine (Parse_ok s m _ (by omega) (he.ext hX) (hf.ext hX) HR.out.symm).mono ?_
          rintro e w9 ⟨⟨A9, n9, c9, rfl, hv9⟩, hx9⟩
          have hX9 := hX.trans hx9
          go_wp2_with fail
          refine (Format_ok A9 n9 c9 m _ hv9 HGM.out hlm (he.ext hX9) (hf.ext hX9)).mono ?_
          rintro e w10 ⟨rfl, hx10⟩
          have hX10 := hX9.trans hx10
          go_wp2_with fail
          refine (Valid_true A9 n9 c9 m _ (hv9.ext hx10) HGM.out hlm (he.ext hX10) (hf.ext hX10)).mono ?_
          rintro e w11 ⟨rfl, hx11⟩
          have hX11 := hX10.trans hx11
          go_wp2_with fail
          go_ret
          exact ⟨rfl, hX11⟩
      | true =>
        have hg := good_of HV.out.symm hi
        have hl := (validL_iff.1 HV.out.symm).1
        have HG := Lib.hid hg
        clear hg
        refine (Format_ok A n c l _ h2 HG.out hl (he.ext hx) (hf.ext hx)).mono ?_
        rintro e w3 ⟨rfl, hx3⟩
        have hX3 := hx.trans hx3
        go_wp2_with fail
        refine (Parse_fmt _ l _ rfl HG.out hl (he.ext hX3) (hf.ext hX3)).mono ?_
        rintro e w4 ⟨⟨A4, n4, c4, rfl, hv4⟩, hx4⟩
        have hX4 := hX3.trans hx4
        go_wp2_with fail
        refine (same_true A A4 n c n4 c4 l _ (h2.ext (hx3.trans hx4)) hv4).mono ?_
        rintro e w5 ⟨rfl, hx5⟩
        have hX := hX4.trans hx5
        clear hx hx3 hx4 hx5 hX3 hX4
        cases res with
        | err a er =>
          have hex := parse_err HR.out.symm
          have ha1 : 1 ≤ a := by obtain ⟨_, _, _, _, _, ha, _⟩ := hex; omega
          have her : ((er : Int) == 0) = false := by
            obtain ⟨_, _, _, _, _, _, _, hc⟩ := hex
            rcases hc with ⟨_, rfl⟩ | ⟨_, h2⟩
            · rfl
            · rcases step_code h2 with h | h <;> subst h <;> rfl
          have ha2 : decide ((1 : Int) ≤ a) = true := by simp; omega
          clear hex
          go_wp2_with fail
          refine (Parse_err s a er _ (by omega) (he.ext hX) (hf.ext hX) HR.out.symm).mono ?_
          rintro e w9 ⟨rfl, hx9⟩
          have hX9 := hX.trans hx9
          go_wp2_with fail
          go_ret
          exact ⟨rfl, hX9⟩
        | ok m =>
          obtain ⟨hsm, hgm, hlm⟩ := parse_inv HR.out.symm
          have hfs : str (formatL m) = s := by rw [← hsm, str_of]
          have hts : ((str (formatL m)).toList == s.toList) = true := by rw [hfs]; simp
          have HFS := Lib.hid hfs
          have HGM := Lib.hid hgm
          clear hsm hfs hgm
          go_wp2_with fail
          refine (Parse_ok s m _ (by omega) (he.ext hX) (hf.ext hX) HR.out.symm).mono ?_
          rintro e w9 ⟨⟨A9, n9, c9, rfl, hv9⟩, hx9⟩
          have hX9 := hX.trans hx9
          go_wp2_with fail
          refine (Format_ok A9 n9 c9 m _ hv9 HGM.out hlm (he.ext hX9) (hf.ext hX9)).mono ?_
          rintro e w10 ⟨rfl, hx10⟩
          have hX10 := hX9.trans hx10
          go_wp2_with fail
          refine (Valid_true A9 n9 c9 m _ (hv9.ext hx10) HGM.out hlm (he.ext hX10) (hf.ext hX10)).mono ?_
          rintro e w11 ⟨rfl, hx11⟩
          have hX11 := hX10.trans hx11
          go_wp2_with fail
          go_ret
          exact ⟨rfl, hX11⟩
end Go.Proofs.YtpdijhplelpmhaaDoor.Sc

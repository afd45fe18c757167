/- Walk: the law ScriptErrors. -/
import Derived.Test.YtpdijhplelpmhaaDoorSAwake
set_option linter.unusedVariables false
set_option linter.unusedSimpArgs false
namespace Go.Proofs.YtpdijhplelpmhaaDoor.Sc
open Go.RowKit Go.Proofs.YtpdijhplelpmhaaDoor.Big

theorem extract_str (a b : BL) : (str (a ++ b)).extract 0 a.length = str a := by
  have h1 := Lib.extract_toList (str (a ++ b)) 0 a.length
  rw [str_list] at h1
  have h2 : (str (a ++ b)).extract 0 a.length = str ((str (a ++ b)).extract 0 a.length).data.toList := (str_of _).symm
  rw [h2, ← Lib.toList_data, h1]; simp
theorem step_code {t : BL} {e : Nat} (h : step t = .err e) : e = 3 ∨ e = 4 := by
  unfold step at h
  split at h
  · injection h with h; exact .inr h.symm
  · split at h
    · injection h with h; exact .inl h.symm
    · split at h
      · injection h with h; exact .inr h.symm
      · split at h
        · injection h with h; exact .inl h.symm
        · cases h
theorem formatL_min {l : List Cmd} (h : Good l) : l.length * 4 ≤ (formatL l).length := by
  induction l with
  | nil => simp
  | cons c r ih =>
    have := ih h.tail
    obtain ⟨v1, v2, _⟩ := validC_iff.1 (h c (by simp)).1
    have hw := word_len (c.kind - 1) (by omega)
    have : 4 ≤ (formatC c).length := by
      unfold formatC lineC
      simp only [List.length_append, List.length_cons]; omega
    rw [formatL_cons]; simp; omega
theorem cut_of_split {m : Nat} {r u t : BL} (h : splitL (m + 1) r = some (u, t)) : ∃ a b u', cutB 10 r = some (a, b) ∧ splitL m b = some (u', t) ∧ u = a ++ 10 :: u' := by
  rw [splitL_step] at h
  cases hc : cutB 10 r with
  | none => rw [hc] at h; cases h
  | some p =>
    obtain ⟨a, b⟩ := p
    rw [hc] at h
    simp only [Option.map_eq_some_iff] at h
    obtain ⟨⟨u', t'⟩, h1, h2⟩ := h
    injection h2 with h2 h3
    exact ⟨a, b, u', rfl, by rw [h1, ← h3], h2.symm⟩
set_option maxHeartbeats 4000000 in
set_option maxRecDepth 100000 in
theorem errors_any (s : ByteArray) (w : World) (he : Env w) (hf : FormatsOK w) (hs63 : s.size ≤ 9223372036854775807) : Calls Tryd.prog 3 #[.string s] w (BoolPost w true) := by
  by_cases hbig : 1500 < s.size
  · go_enter Tryd.func3, Tryd.ntmps3
    go_wp2_with fail
    refine (awake_any _ he hf).mono ?_
    rintro e w1 ⟨rfl, hx1⟩
    go_wp2_with fail
    refine (awake_any _ (he.ext hx1) (hf.ext hx1)).mono ?_
    rintro e w2 ⟨rfl, hx2⟩
    go_wp2_with fail
    go_ret
    exact ⟨rfl, hx1.trans hx2⟩
  · obtain ⟨res, hres⟩ : ∃ r, r = parse s.data.toList := ⟨_, rfl⟩
    have HR := Lib.hid hres
    clear hres
    cases res with
    | ok l =>
      go_enter Tryd.func3, Tryd.ntmps3
      go_wp2_with fail
      refine (awake_any _ he hf).mono ?_
      rintro e w1 ⟨rfl, hx1⟩
      go_wp2_with fail
      refine (Parse_ok s l _ (by omega) (he.ext hx1) (hf.ext hx1) HR.out.symm).mono ?_
      rintro e w2 ⟨⟨A, n, c, rfl, _⟩, hx2⟩
      go_wp2_with fail
      go_ret
      exact ⟨rfl, hx1.trans hx2⟩
    | err a er =>
      obtain ⟨l, t, hst, hg, ht0, ha, hl, hcase⟩ := parse_err HR.out.symm
      have hmin := formatL_min hg
      have hsl : s.size = (formatL l).length + t.length := by rw [Lib.size_eq, hst, List.length_append]
      have hlt : l.length < 1000 := by omega
      have hstep : step t = .err er := by
        rcases hcase with ⟨h1, _⟩ | ⟨_, h2⟩
        · omega
        · exact h2
      have hcode := step_code hstep
      have her : ((er : Int) == 0) = false := by rcases hcode with h | h <;> subst h <;> rfl
      have her9 : er ≤ 4 := by omega
      obtain ⟨L, hL⟩ : ∃ L, L = linesL l := ⟨_, rfl⟩
      have hLb : L ≤ 1500 := by
        have := nl_le (formatL l)
        rw [nl_formatL hg] at this; omega
      have hsp := split_formatL hg t
      rw [← hL] at hsp ha
      obtain ⟨F, hF⟩ : ∃ F, F = formatL l := ⟨_, rfl⟩
      have hpf : parse F = .ok l := by rw [hF]; exact parse_format hg (by omega)
      have hpt : parse t = .err 1 er := parse_step_err ht0 hstep
      rw [← hF] at hsp hst hsl
      have hstr : s = str (F ++ t) := by rw [← hst, str_of]
      have HP1 := Lib.hid hpf
      have HP2 := Lib.hid hpt
      have HST := Lib.hid hstr
      have HSP := Lib.hid hsp
      have HSL := Lib.hid hsl
      have HX : Hid (s.extract 0 F.length = str F) := Lib.hid (by rw [hstr]; exact extract_str F t)
      subst ha
      have hFl : F.length ≤ 1500 := by omega
      have htl : t.length ≤ 1500 := by omega
      have hFs : F.length ≤ s.size := by omega
      clear hst hg ht0 hcase hmin hsl hstep hcode hL hsp hF hpf hpt hstr hl hlt
      go_enter Tryd.func3, Tryd.ntmps3
      go_wp2_with fail
      refine (awake_any _ he hf).mono ?_
      rintro e w1 ⟨rfl, hx1⟩
      go_wp2_with fail
      refine (Parse_err s (1 + L) er _ (by omega) (he.ext hx1) (hf.ext hx1) HR.out.symm).mono ?_
      rintro e w2 ⟨rfl, hx2⟩
      have hx := hx1.trans hx2
      have he2 := he.ext hx
      have hf2 := hf.ext hx
      go_wp2_with fail
      go_loopw [6, 7, 38] (fun rv dv i wr => ∃ (k : Nat) (d r u : BL), k ≤ L ∧ i = .int .i64 k ∧ rv = .string (str r) ∧ dv = .int .i64 d.length ∧ Hid (splitL (L - k) r = some (u, t)) ∧ Hid (F = d ++ u) ∧ d.length + r.length ≤ 1500 ∧ Ext w2 wr) (fun _ _ i _ => L - (intOf i).toNat)
      case atStart => exact ⟨0, [], F ++ t, F, by omega, rfl, by rw [HST.out], rfl, Lib.hid (by rw [Nat.sub_zero]; exact HSP.out), Lib.hid rfl, by rw [List.length_append]; have := HSL.out; simp; omega, Ext.refl _⟩
      case round =>
        obtain ⟨k, d, r, u, hk, rfl, rfl, rfl, HS1, HD, hdr, hx3⟩ := hrel
        by_cases hkl : k < L
        · have hs1 := HS1.out
          rw [show L - k = (L - (k + 1)) + 1 by omega] at hs1
          obtain ⟨a, b, u', hc, hs2, rfl⟩ := cut_of_split hs1
          have hrs : r = a ++ 10 :: b := (cutB_spec hc).1
          have hrl : r.length = a.length + 1 + b.length := by rw [hrs]; simp; omega
          have HC := Lib.hid hc
          have HS2 := Lib.hid hs2
          have HD2 : Hid (F = (d ++ (a ++ [10])) ++ u') := Lib.hid (by rw [HD.out]; simp)
          have hss : (str r).size = r.length := rfl
          clear hs1 hc hs2 hrs HS1 HD
          go_wp2_with fail
          refine (Cut_any (str r) 10 _ (by omega) (he2.ext hx3)).mono ?_
          rintro e w3 ⟨⟨p, q, f, rfl, hf1, hf2⟩, hx4⟩
          rw [str_list] at hf1 hf2
          have hcc := cut_some hf1 hf2
          rw [HC.out] at hcc
          clear hf1 hf2
          cases f with
          | false => cases hcc
          | true =>
            injection hcc with hcc
            injection hcc with h1 h2
            subst h1 h2
            have hss2 : (str b).size = b.length := rfl
            have hdn : ((d.length : Int) + ((r.length : Int) - (b.length : Int))) = ((d ++ (a ++ [10])).length : Int) := by simp; omega
            go_wp2_with fail
            go_roundw
            case rel => exact ⟨k + 1, d ++ (a ++ [10]), b, u', by omega, by go_num, rfl, by congr 1; simp, HS2, HD2, by simp; omega, hx3.trans hx4⟩
            case measure => simp [intOf]; omega
        · obtain rfl : k = L := by omega
          have hs0 := HS1.out
          rw [Nat.sub_self] at hs0
          injection hs0 with hs0
          injection hs0 with h1 h2
          subst h1 h2
          have hFd : F = d := by rw [HD.out]; simp
          subst hFd
          clear HS1 HD
          go_wp2_with fail
          rw [HX.out]
          refine (Parse_ok (str F) l _ (by rw [str_size]; omega) (he2.ext hx3) (hf2.ext hx3) (by rw [str_list]; exact HP1.out)).mono ?_
          rintro e w3 ⟨⟨A, n, c, rfl, _⟩, hx4⟩
          have hx5 := hx3.trans hx4
          go_wp2_with fail
          refine (Parse_err (str r) 1 er _ (by rw [str_size]; omega) (he2.ext hx5) (hf2.ext hx5) (by rw [str_list]; exact HP2.out)).mono ?_
          rintro e w4 ⟨rfl, hx6⟩
          have hx7 := hx.trans (hx5.trans hx6)
          go_wp2_with fail
          go_ret
          exact ⟨rfl, hx7⟩
end Go.Proofs.YtpdijhplelpmhaaDoor.Sc

/- Walk: the law ScriptFormats. -/
import Derived.Test.YtnbmmgeoglfbdaaDoorSLaws
import Derived.Test.YtnbmmgeoglfbdaaDoorSRef5
set_option linter.unusedVariables false
set_option linter.unusedSimpArgs false
namespace Go.Proofs.YtnbmmgeoglfbdaaDoor.Sc
open Go.RowKit Go.Proofs.YtnbmmgeoglfbdaaDoor.Big

theorem bulk_mem {l : List Cmd} {x : Cmd} (h : x ∈ l) : x.text.length + x.name.length + 8 * x.nums.length ≤ bulk l := by
  unfold bulk
  induction l with
  | nil => cases h
  | cons c r ih =>
    rw [List.map_cons, List.sum_cons]
    rcases List.mem_cons.1 h with rfl | h
    · omega
    · have := ih h; omega
set_option maxHeartbeats 4000000 in
set_option maxRecDepth 100000 in
theorem formats_any (A : Option Addr) (n c : Nat) (l : List Cmd) (w : World) (h : CmdsV w (.slice A n c) l) (hm : Mild l) (hi : AllIn l) (he : Env w) (hf : FormatsOK w) :
    Calls Tryd.prog 4 #[.slice A n c] w (BoolPost w true) := by
  obtain ⟨sm, hsm⟩ : ∃ b, b = smallB l := ⟨_, rfl⟩
  have HSM := Lib.hid hsm
  clear hsm
  cases sm with
  | false =>
    go_enter Tryd.func4, Tryd.ntmps4
    go_wp2_with fail
    refine (awake_any _ he hf).mono ?_
    rintro e w1 ⟨rfl, hx1⟩
    go_wp2_with fail
    refine (small_any A n c l _ (h.ext hx1) hm).mono ?_
    rintro e w2 ⟨rfl, hx2⟩
    rw [← HSM.out]
    have hX2 := hx1.trans hx2
    go_wp2_with fail
    refine (awake_any _ (he.ext hX2) (hf.ext hX2)).mono ?_
    rintro e w3 ⟨rfl, hx3⟩
    go_wp2_with fail
    go_ret
    exact ⟨rfl, hX2.trans hx3⟩
  | true =>
    have hsb := HSM.out.symm
    unfold smallB at hsb
    rw [Bool.and_eq_true, decide_eq_true_eq, decide_eq_true_eq] at hsb
    obtain ⟨hl40, hbk⟩ := hsb
    have HMR : Hid (MildR l) := Lib.hid (fun x hx => by
      have h1 := bulk_mem hx
      obtain ⟨k, _, _, _⟩ := hm x hx
      exact ⟨k, by omega, by omega, by omega⟩)
    obtain ⟨V, hV⟩ : ∃ V, V = validL l := ⟨_, rfl⟩
    have HV := Lib.hid hV
    have HM := Lib.hid hm
    have HI := Lib.hid hi
    clear hV hm hi hbk
    go_enter Tryd.func4, Tryd.ntmps4
    go_wp2_with fail
    refine (awake_any _ he hf).mono ?_
    rintro e w1 ⟨rfl, hx1⟩
    go_wp2_with fail
    refine (small_any A n c l _ (h.ext hx1) HM.out).mono ?_
    rintro e w2 ⟨rfl, hx2⟩
    rw [← HSM.out]
    have hX2 := hx1.trans hx2
    cases V with
    | false =>
      go_wp2_with fail
      refine (Format_bad A n c l _ (h.ext hX2) HM.out HI.out HV.out.symm (he.ext hX2) (hf.ext hX2)).mono ?_
      rintro e w3 ⟨rfl, hx3⟩
      have hX3 := hX2.trans hx3
      rw [show str [] = (⟨#[]⟩ : ByteArray) from rfl]
      go_wp2_with fail
      refine (plain_any A n c l _ (h.ext hX3) (by omega)).mono ?_
      rintro e w4 ⟨⟨A4, n4, c4, rfl, hv4⟩, hx4⟩
      go_wp2_with fail
      refine (ValidR_any A4 n4 c4 l _ hv4 HMR.out).mono ?_
      rintro e w5 ⟨rfl, hx5⟩
      rw [← HV.out]
      have hX5 := (hX3.trans hx4).trans hx5
      go_wp2_with fail
      refine (Valid_any A n c l _ (h.ext hX5) HM.out.kinds (he.ext hX5).sg (hf.ext hX5)).mono ?_
      rintro e w6 ⟨rfl, hx6⟩
      rw [← HV.out]
      have hX6 := hX5.trans hx6
      go_wp2_with fail
      go_ret
      exact ⟨rfl, hX6⟩
    | true =>
      have HG : Hid (Good l) := Lib.hid (good_of HV.out.symm HI.out)
      go_wp2_with fail
      refine (Format_ok A n c l _ (h.ext hX2) HG.out (by omega) (he.ext hX2) (hf.ext hX2)).mono ?_
      rintro e w3 ⟨rfl, hx3⟩
      have hX3 := hX2.trans hx3
      obtain ⟨S, hS⟩ : ∃ S, S = str (formatL l) := ⟨_, rfl⟩
      rw [← hS]
      have HS := Lib.hid hS
      clear hS
      go_wp2_with fail
      refine (plain_any A n c l _ (h.ext hX3) (by omega)).mono ?_
      rintro e w4 ⟨⟨A4, n4, c4, rfl, hv4⟩, hx4⟩
      go_wp2_with fail
      refine (ValidR_any A4 n4 c4 l _ hv4 HMR.out).mono ?_
      rintro e w5 ⟨rfl, hx5⟩
      rw [← HV.out]
      have hX5 := (hX3.trans hx4).trans hx5
      go_wp2_with fail
      refine (Valid_any A n c l _ (h.ext hX5) HM.out.kinds (he.ext hX5).sg (hf.ext hX5)).mono ?_
      rintro e w6 ⟨rfl, hx6⟩
      rw [← HV.out]
      have hX6 := hX5.trans hx6
      go_wp2_with fail
      refine (plain_any A n c l _ (h.ext hX6) (by omega)).mono ?_
      rintro e w7 ⟨⟨A7, n7, c7, rfl, hv7⟩, hx7⟩
      go_wp2_with fail
      refine (FormatR_any A7 n7 c7 l _ hv7 HG.out (by omega)).mono ?_
      rintro e w8 ⟨rfl, hx8⟩
      rw [← HS.out]
      have hX8 := (hX6.trans hx7).trans hx8
      go_wp2_with fail
      go_ret
      exact ⟨rfl, hX8⟩
end Go.Proofs.YtnbmmgeoglfbdaaDoor.Sc

/- Walk: the law ScriptParses. -/
import Derived.Test.YtnbmmgeoglfbdaaDoorSLaws
import Derived.Test.YtnbmmgeoglfbdaaDoorSRef9
import Derived.Test.YtnbmmgeoglfbdaaDoorSEq
set_option linter.unusedVariables false
set_option linter.unusedSimpArgs false
namespace Go.Proofs.YtnbmmgeoglfbdaaDoor.Sc
open Go.RowKit Go.Proofs.YtnbmmgeoglfbdaaDoor.Big

set_option maxHeartbeats 4000000 in
set_option maxRecDepth 100000 in
theorem parses_any (s : ByteArray) (w : World) (he : Env w) (hf : FormatsOK w) (hs63 : s.size ≤ 9223372036854775807) : Calls Tryd.prog 3 #[.string s] w (BoolPost w true) := by
  by_cases hbig : 1500 < s.size
  · go_enter Tryd.func3, Tryd.ntmps3
    go_wp2_with fail
    refine (awake_any _ he hf).mono ?_
    rintro e w1 ⟨rfl, hx1⟩
    go_wp2_with fail
    refine (awake_any _ (he.ext hx1) (hf.ext hx1)).mono ?_
    rintro e w2 ⟨rfl, hx2⟩
    go_wp2_with fail
    go_ret
    exact ⟨rfl, hx1.trans hx2⟩
  · obtain ⟨l, hl⟩ : ∃ l, l = s.data.toList := ⟨_, rfl⟩
    obtain ⟨res, hres⟩ : ∃ r, r = parse l := ⟨_, rfl⟩
    have hsl : s = str l := by rw [hl, str_of]
    have hll : l.length = s.size := by rw [hl]; exact (Lib.size_eq s).symm
    have HR := Lib.hid hres
    have HRP : Hid (parse s.data.toList = res) := Lib.hid (by rw [← hl, hres])
    have HRR : Hid (∀ w', Calls Tryd.prog 8 #[.string s] w' (ParsePost w' res)) := Lib.hid (fun w' => by have := ParseR_any l w' (by omega); rwa [← hsl, ← hres] at this)
    clear hl hres hsl hll
    cases res with
    | ok m =>
      go_enter Tryd.func3, Tryd.ntmps3
      go_wp2_with fail
      refine (awake_any _ he hf).mono ?_
      rintro e w1 ⟨rfl, hx1⟩
      go_wp2_with fail
      refine (Parse_ok s m _ (by omega) (he.ext hx1) (hf.ext hx1) HRP.out).mono ?_
      rintro e w2 ⟨⟨A, n, c, rfl, hv⟩, hx2⟩
      go_wp2_with fail
      refine (HRR.out _).mono ?_
      rintro e w3 ⟨⟨A', n', c', a', er', rfl, h1, _⟩, hx3⟩
      obtain ⟨hv', rfl, rfl⟩ := h1 m rfl
      have hv3 := hv.ext hx3
      have hX := (hx1.trans hx2).trans hx3
      go_wp2_with fail
      refine (equal_any A A' n c n' c' m m _ hv3 hv').mono ?_
      rintro e w4 ⟨rfl, hx4⟩
      rw [decide_eq_true rfl]
      go_wp2_with fail
      go_ret
      exact ⟨rfl, hX.trans hx4⟩
    | err a er =>
      go_enter Tryd.func3, Tryd.ntmps3
      go_wp2_with fail
      refine (awake_any _ he hf).mono ?_
      rintro e w1 ⟨rfl, hx1⟩
      go_wp2_with fail
      refine (Parse_err s a er _ (by omega) (he.ext hx1) (hf.ext hx1) HRP.out).mono ?_
      rintro e w2 ⟨rfl, hx2⟩
      go_wp2_with fail
      refine (HRR.out _).mono ?_
      rintro e w3 ⟨⟨A', n', c', a', er', rfl, _, h1⟩, hx3⟩
      obtain ⟨rfl, rfl, rfl, rfl, rfl⟩ := h1 a er rfl
      have hX := (hx1.trans hx2).trans hx3
      go_wp2_with fail
      refine (equal_any none none 0 0 0 0 [] [] _ (CmdsV.nil _) (CmdsV.nil _)).mono ?_
      rintro e w4 ⟨rfl, hx4⟩
      rw [decide_eq_true rfl]
      go_wp2_with fail
      go_ret
      exact ⟨rfl, hX.trans hx4⟩
end Go.Proofs.YtnbmmgeoglfbdaaDoor.Sc

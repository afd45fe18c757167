/- What the script's laws call, by its outcome. -/
import Derived.Test.YtnbmmgeoglfbdaaDoorSAwake
set_option linter.unusedVariables false
set_option linter.unusedSimpArgs false
namespace Go.Proofs.YtnbmmgeoglfbdaaDoor.Sc
open Go.RowKit Go.Proofs.YtnbmmgeoglfbdaaDoor.Big

theorem good_mild {l : List Cmd} (h : Good l) : Mild l := fun c hc => by
  obtain ⟨a, b⟩ := h c hc
  obtain ⟨_, m1, m2, m3⟩ := formatC_max a b
  obtain ⟨_, v2, _⟩ := validC_iff.1 a
  exact ⟨by omega, by omega, by omega, by omega⟩
def AllIn (l : List Cmd) : Prop := ∀ c ∈ l, NumsIn c
theorem good_of {l : List Cmd} (h : validL l = true) (hi : AllIn l) : Good l := fun c hc => ⟨(validL_iff.1 h).2 c hc, hi c hc⟩
theorem good_valid {l : List Cmd} (h : Good l) (hl : l.length ≤ 1000) : validL l = true := validL_iff.2 ⟨hl, fun c hc => (h c hc).1⟩
theorem good_in {l : List Cmd} (h : Good l) : AllIn l := fun c hc => (h c hc).2
theorem formatL_size {l : List Cmd} (h : Good l) (hl : l.length ≤ 1000) : (formatL l).length ≤ 100000000 := by
  have := formatL_max h
  exact Nat.le_trans this (Nat.le_trans (Nat.mul_le_mul_right _ hl) (by omega))
def StrPost (w : World) (S : BL) (er : Int) (e : Ending) (w' : World) : Prop := e = .returned (.tuple #[.string (str S), .int .i64 er]) ∧ Ext w w'
theorem Format_ok (A : Option Addr) (n c : Nat) (l : List Cmd) (w : World) (h : CmdsV w (.slice A n c) l) (hg : Good l) (hl : l.length ≤ 1000) (he : Env w) (hf : FormatsOK w) : Calls Tryd.prog 11 #[.slice A n c] w (StrPost w (formatL l) 0) := by
  refine (Format_any A n c l w h (good_mild hg) (good_in hg) he hf).mono ?_
  rintro e w' ⟨⟨S, er, rfl, h1, _⟩, hx⟩
  obtain ⟨rfl, rfl⟩ := h1 (good_valid hg hl)
  exact ⟨rfl, hx⟩
theorem Format_bad (A : Option Addr) (n c : Nat) (l : List Cmd) (w : World) (h : CmdsV w (.slice A n c) l) (hm : Mild l) (hi : AllIn l) (hv : validL l = false) (he : Env w) (hf : FormatsOK w) : Calls Tryd.prog 11 #[.slice A n c] w (StrPost w [] 3) := by
  refine (Format_any A n c l w h hm hi he hf).mono ?_
  rintro e w' ⟨⟨S, er, rfl, _, h1⟩, hx⟩
  obtain ⟨rfl, rfl⟩ := h1 hv
  exact ⟨rfl, hx⟩
theorem Parse_fmt (s : ByteArray) (l : List Cmd) (w : World) (hs : s = str (formatL l)) (hg : Good l) (hl : l.length ≤ 1000) (he : Env w) (hf : FormatsOK w) : Calls Tryd.prog 7 #[.string s] w (OkPost w l) := by
  subst hs
  exact Parse_ok _ l w (by rw [str_size]; have := formatL_size hg hl; omega) he hf (by rw [str_list]; exact parse_format hg hl)
theorem Valid_true (A : Option Addr) (n c : Nat) (l : List Cmd) (w : World) (h : CmdsV w (.slice A n c) l) (hg : Good l) (hl : l.length ≤ 1000) (he : Env w) (hf : FormatsOK w) : Calls Tryd.prog 14 #[.slice A n c] w (BoolPost w true) := by
  refine (Valid_any A n c l w h (good_mild hg).kinds he.sg hf).mono ?_
  rintro e w' ⟨rfl, hx⟩
  exact ⟨by rw [good_valid hg hl], hx⟩
end Go.Proofs.YtnbmmgeoglfbdaaDoor.Sc

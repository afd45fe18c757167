/- Walk: Make. -/
import Derived.Test.YtljncdcjkdgkeaaGreatDoorKLN2
set_option linter.unusedVariables false
set_option linter.unusedSimpArgs false
namespace Go.Proofs.YtljncdcjkdgkeaaGreatDoor.Lp
open Go.RowKit Go.Proofs.YtljncdcjkdgkeaaGreatDoor.Big Go.Proofs.YtljncdcjkdgkeaaGreatDoor.Rt

theorem RatsO.up {w : World} {base base' : Nat} {A : Option Addr} {n c : Nat} {f : Nat → Rat} (h : RatsO w base A n c f) (hb : base' ≤ base) : RatsO w base' A n c f :=
  ⟨h.1, h.2.1, fun hn => by obtain ⟨b, e, hr, hb'⟩ := h.2.2 hn; exact ⟨b, e, hr, Nat.le_trans hb hb'⟩⟩
theorem RatsO.far {w : World} {base b i n c : Nat} {A : Option Addr} {f : Nat → Rat} {E : TypeId} {cs : Array Value} (h : RatsO w base A n c f) (B : Box w b E cs) (h2 : E ≠ 58) (hc : ∀ z, cs[i]? ≠ some (.int .u32 z)) (u : Value) : RatsO (w.setCell ⟨b, i, none⟩ u) base A n c f := by
  have k : Fr (fun k => k = b) w (w.setCell ⟨b, i, none⟩ u) := (Fr.refl (fun k => k = b) w).set (p := ⟨b, i, none⟩) rfl (fun z => by rw [B.cell i]; exact hc z) u
  refine ⟨h.1, h.2.1, fun hn => ?_⟩
  obtain ⟨b', e, hr, hb⟩ := h.2.2 hn
  refine ⟨b', e, hr.fr k (fun e' => ?_), hb⟩
  obtain ⟨cs', hcs⟩ := hr.cells
  exact row_ne B hcs h2 e'.symm
end Go.Proofs.YtljncdcjkdgkeaaGreatDoor.Lp

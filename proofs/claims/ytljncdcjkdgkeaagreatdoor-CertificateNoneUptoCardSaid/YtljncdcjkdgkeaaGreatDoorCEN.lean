/- Encode and Check of no tree. -/
import Derived.Test.YtljncdcjkdgkeaaGreatDoorCWN
import Derived.Test.YtljncdcjkdgkeaaGreatDoorCE2
set_option linter.unusedVariables false
set_option linter.unusedSimpArgs false
namespace Go.Proofs.YtljncdcjkdgkeaaGreatDoor.Lp
open Go.RowKit Go.Proofs.YtljncdcjkdgkeaaGreatDoor.Big Go.Proofs.YtljncdcjkdgkeaaGreatDoor.Rt

theorem encode_nil (w : World) : Calls Tryz.prog 12 #[.pointer none] w (fun e w' => e = .returned (.tuple #[.string ⟨#[]⟩, .int .i64 3]) ∧ Ext w w') := by
  refine (Encode_any (.pointer none) false [] w (by simp) (fun W _ => wellFormed_nil W) (fun h => by cases h)).mono ?_
  rintro e w' ⟨hx, ⟨h, -⟩ | ⟨-, rfl⟩⟩
  · cases h
  · exact ⟨rfl, hx⟩
theorem check_nil (v : Value) (p : Prob) (z : Int) (Ko : Nat) (w : World) (hv : ProbV w v p) (hz0 : -9223372036854775808 ≤ z) (hz1 : z ≤ 9223372036854775807) (hKo : Ko ≤ 549755813888) (ho : ∀ j, j < p.n → QB Ko (p.obj j)) :
    Calls Tryz.prog 16 #[v, .int .i64 z, .pointer none] w (ValPost w (.int .i64 3)) := by
  have h := Check_any v (.pointer none) p z false false false Ko w hv hz0 hz1 hKo ho (fun W _ => wellFormed_nil W) (fun _ h => by cases h) (fun _ h => by cases h)
  rw [show chkE (validB p && false && false) false = 3 by simp [chkE]] at h
  exact h
end Go.Proofs.YtljncdcjkdgkeaaGreatDoor.Lp

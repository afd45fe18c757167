/- Walks: the law helpers long, same, two. -/
import Derived.Test.YtginogcdjplhiaaGreatDoorT6
import Derived.Test.YtginogcdjplhiaaGreatDoorT7
set_option linter.unusedVariables false
set_option linter.unusedSimpArgs false
namespace Go.Proofs.YtginogcdjplhiaaGreatDoor.Rt
open Go.RowKit Go.Proofs.YtginogcdjplhiaaGreatDoor.Big
open Go.Lib (itoa)

theorem long_any (s : ByteArray) (w : World) : Calls Tryz.prog 5 #[.string s] w (fun e w' => e = .returned (.bool (decide ((200 : Int) < s.size))) ∧ w = w') := by
  go_enter Tryz.func5, Tryz.ntmps5
  go_wp2_with fail
  go_ret
  exact ⟨rfl, rfl⟩

theorem RatText_n (x : Value) (q : Rat) (k : Nat) (w : World) (S : ByteArray) (hS : S = ⟨(ratText q).toArray⟩) (hx : RatB w x q k) (hL : k ≤ 549755813888) (htab : TabOK w) : Calls Tryz.prog 10 #[x] w (fun e w' => e = .returned (.string S) ∧ Ext w w') := by
  subst hS; exact RatText_b x q k w hx hL htab

theorem drew_of {w w' : World} (h : Ext w.drew w') : Ext w w' := (Ext.refl w).drew.trans h

end Go.Proofs.YtginogcdjplhiaaGreatDoor.Rt

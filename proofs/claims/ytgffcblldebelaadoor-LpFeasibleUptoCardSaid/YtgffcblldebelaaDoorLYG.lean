/- Plain: a point of the reference and of the program (LpFeasible). -/
import Derived.Test.YtgffcblldebelaaDoorLZJ
import Derived.Test.YtgffcblldebelaaDoorLZ9
import Derived.Test.YtgffcblldebelaaDoorLV5
import Derived.Test.YtgffcblldebelaaDoorLV3
set_option linter.unusedVariables false
set_option linter.unusedSimpArgs false
namespace Go.Proofs.YtgffcblldebelaaDoor.Lp
open Go.RowKit Go.Proofs.YtgffcblldebelaaDoor.Big Go.Proofs.YtgffcblldebelaaDoor.Rt

theorem qn_den {x D : Int} {d : Nat} (hD : D = 1 + (d : Int) % 6) : (x : Rat) = qn x d * (D : Rat) := by
  unfold qn
  have e : (1 + ((d % 6 : Nat) : Int)) = D := by omega
  have h1 : (1 : Int) ≤ D := by omega
  rw [e, Rat.divInt_eq_div]
  have h2 : (0 : Rat) < (D : Rat) := Rat.intCast_pos.2 (by omega)
  exact (div_mul' (by grind)).symm
theorem feas_join {p : IP} (h : littleB p = true) {xs : List Int} (hl : xs.length = p.obj.length) {d : Nat} {D : Int} (hD : D = 1 + (d : Int) % 6) :
    p.rp.feas xs D = feasB p.pl.toP p.obj.length (fun j => qn (xs.getD j 0) d) := by
  have hv := little_iff.1 h
  rw [Bool.eq_iff_iff, feasB_iff, RP.feas_iff (little_ok h) (show 0 < D by omega) (show xs.length = p.rp.obj.length from hl) (x := fun j => qn (xs.getD j 0) d) (fun j _ => qn_den hD), ← IP.rp_pl hv.1]
  exact ⟨fun k => ⟨validB_iff.1 hv.2.2.2.2.1, (IP.pn p).symm, k⟩, fun k => k.2.2⟩
theorem value_join {p : IP} (h : littleB p = true) {xs : List Int} (hl : xs.length = p.obj.length) {d : Nat} {D : Int} (hD : D = 1 + (d : Int) % 6) :
    dot p.pl.toP.n p.pl.toP.obj (fun j => qn (xs.getD j 0) d) = Rat.divInt (dotI p.obj xs) D := by
  have hv := little_iff.1 h
  have e := RP.obj_dot (p := p.rp) (xs := xs) (d := D) (x := fun j => qn (xs.getD j 0) d) hl (fun j _ => qn_den hD)
  rw [← IP.rp_pl hv.1] at e
  have h2 : (0 : Rat) < (D : Rat) := Rat.intCast_pos.2 (by omega)
  rw [Rat.divInt_eq_div]
  have e' : ((dotI p.obj xs : Int) : Rat) = _ := e
  rw [e']
  have := h2
  grind
theorem getD_inC {xs : List Int} (h : ∀ x ∈ xs, -128 ≤ x ∧ x ≤ 127) (i : Nat) : inC 128 (xs.getD i 0) := by
  rw [List.getD_eq_getElem?_getD]
  cases e : xs[i]? with
  | none => show inC 128 0; unfold inC; omega
  | some x =>
    have := h x (List.mem_of_getElem? e)
    show inC 128 x
    unfold inC; omega
end Go.Proofs.YtgffcblldebelaaDoor.Lp

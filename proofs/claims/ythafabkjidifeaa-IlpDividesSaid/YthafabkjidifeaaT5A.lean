/- For the walks of Floor and Ceil: what a statement with two new boxes leaves. -/
import Derived.Test.YthafabkjidifeaaT4
import Derived.Test.YthafabkjidifeaaP2
set_option linter.unusedVariables false
set_option linter.unusedSimpArgs false
namespace Go.Proofs.Ythafabkjidifeaa.Big
open Go.RowKit
section
variable {w : World} {b c : Nat} {E : TypeId} {cs : Array Value}
theorem Box.p2 {x y : Value} (h : Box w b E #[x, y]) (x' y' : Value) : Box ((w.setCell ⟨b, 0, none⟩ x').setCell ⟨b, 1, none⟩ y') b E #[x', y'] := h.put2 x' y'
theorem Box.f2 (h : Box w b E cs) (hne : b ≠ c) (x y : Value) : Box ((w.setCell ⟨c, 0, none⟩ x).setCell ⟨c, 1, none⟩ y) b E cs := (h.far (p := ⟨c, 0, none⟩) hne x).far (p := ⟨c, 1, none⟩) hne y
theorem BigV.s2 {p q : Bool} {A A' : Option Addr} {n m n' m' : Nat} {v : Value} {z : Int} (h : BigV w v z) (hb : Box w c E #[.bool p, .slice A n m]) : BigV ((w.setCell ⟨c, 0, none⟩ (.bool q)).setCell ⟨c, 1, none⟩ (.slice A' n' m')) v z :=
  (h.far hb rfl rfl 0 _).far (hb.set 0 (.bool q)) rfl rfl 1 _
end
theorem boxA {w w' : World} {E : TypeId} {cs : Array Value} (h : Ext (w.alloc (.cells cs E)) w') : Box w' w.heap.size E cs := (Box.new w E cs).ext h
theorem boxB0 {w w' : World} {E0 E1 : TypeId} {c0 c1 : Array Value} (h : Ext ((w.alloc (.cells c0 E0)).alloc (.cells c1 E1)) w') : Box w' w.heap.size E0 c0 := ((Box.new w E0 c0).alloc _).ext h
theorem boxB1 {w w' : World} {E0 E1 : TypeId} {c0 c1 : Array Value} (h : Ext ((w.alloc (.cells c0 E0)).alloc (.cells c1 E1)) w') : Box w' (w.heap.size + 1) E1 c1 := by
  have := Box.new (w.alloc (.cells c0 E0)) E1 c1
  rw [show (w.alloc (.cells c0 E0)).heap.size = w.heap.size + 1 by simp] at this
  exact this.ext h
theorem boxAd {w w' : World} {E : TypeId} {cs : Array Value} (h : Ext (w.alloc (.cells cs E)).drew w') : Box w' w.heap.size E cs := (Box.new w E cs).drew.ext h
theorem boxB0d {w w' : World} {E0 E1 : TypeId} {c0 c1 : Array Value} (h : Ext ((w.alloc (.cells c0 E0)).alloc (.cells c1 E1)).drew w') : Box w' w.heap.size E0 c0 := ((Box.new w E0 c0).alloc _).drew.ext h
theorem boxB1d {w w' : World} {E0 E1 : TypeId} {c0 c1 : Array Value} (h : Ext ((w.alloc (.cells c0 E0)).alloc (.cells c1 E1)).drew w') : Box w' (w.heap.size + 1) E1 c1 := by
  have := Box.new (w.alloc (.cells c0 E0)) E1 c1
  rw [show (w.alloc (.cells c0 E0)).heap.size = w.heap.size + 1 by simp] at this
  exact this.drew.ext h
theorem Box.new1 (w : World) (E0 E1 : TypeId) (c0 c1 : Array Value) : Box ((w.alloc (.cells c0 E0)).alloc (.cells c1 E1)) (w.heap.size + 1) E1 c1 := by
  have := Box.new (w.alloc (.cells c0 E0)) E1 c1
  rwa [show (w.alloc (.cells c0 E0)).heap.size = w.heap.size + 1 by simp] at this
theorem BigV.al {w : World} {v : Value} {z : Int} (h : BigV w v z) (o : Obj) : BigV (w.alloc o) v z := h.ext ((Ext.refl w).alloc o)
end Go.Proofs.Ythafabkjidifeaa.Big
namespace Go.Proofs.Ythafabkjidifeaa.Rt
open Go.RowKit Go.Proofs.Ythafabkjidifeaa.Big
attribute [local go_sem] Go.World.cell?_alloc_some Go.RowKit.frozen?_alloc_cells

def floorZ (q : Rat) : Int := q.num / q.den
def ceilZ (q : Rat) : Int := -((-q.num) / q.den)
theorem tdiv_floor {n d : Int} (hd : 0 < d) : (n.tmod d < 0 → n.tdiv d - 1 = n / d) ∧ (¬ n.tmod d < 0 → n.tdiv d = n / d) := by
  have h1 := Int.mul_tdiv_add_tmod n d
  have h2 := Int.mul_ediv_add_emod n d
  have h3 := Int.emod_nonneg n (show d ≠ 0 by omega)
  have h4 := Int.emod_lt_of_pos n hd
  have h5 : (n.tmod d).natAbs < d.natAbs := by rw [Int.natAbs_tmod]; exact Nat.mod_lt _ (by omega)
  refine ⟨fun h => ?_, fun h => ?_⟩
  · have e : d * (n.tdiv d - 1 - n / d) = n % d - n.tmod d - d := by rw [Int.mul_sub, Int.mul_sub]; omega
    have h6 : n.tdiv d - 1 - n / d < 1 := by
      refine Int.lt_of_mul_lt_mul_left (a := d) ?_ (by omega)
      rw [e]; omega
    have h7 : -1 < n.tdiv d - 1 - n / d := by
      refine Int.lt_of_mul_lt_mul_left (a := d) ?_ (by omega)
      rw [e]; omega
    omega
  · have e : d * (n.tdiv d - n / d) = n % d - n.tmod d := by rw [Int.mul_sub]; omega
    have h6 : n.tdiv d - n / d < 1 := by
      refine Int.lt_of_mul_lt_mul_left (a := d) ?_ (by omega)
      rw [e]; omega
    have h7 : -1 < n.tdiv d - n / d := by
      refine Int.lt_of_mul_lt_mul_left (a := d) ?_ (by omega)
      rw [e]; omega
    omega
theorem tdiv_ceil {n d : Int} (hd : 0 < d) : (0 < n.tmod d → n.tdiv d + 1 = -((-n) / d)) ∧ (¬ 0 < n.tmod d → n.tdiv d = -((-n) / d)) := by
  have h := tdiv_floor (n := -n) hd
  rw [Int.neg_tmod, Int.neg_tdiv] at h
  exact ⟨fun h' => by have := h.1 (by omega); omega, fun h' => by have := h.2 (by omega); omega⟩

/-- what the statement 'q, r, _ := x.Div(y)' leaves -/
def FC (W0 : World) (X Y : Int) (v u er : Value) (wx : World) : Prop := ∃ (b c n m n' m' : Nat) (p p' : Bool) (A A' : Option Addr), v = .pointer (some ⟨b, 0, none⟩) ∧ u = .pointer (some ⟨c, 0, none⟩) ∧ er = .int .i64 0 ∧ Box wx b 57 #[.bool p, .slice A n m] ∧ Box wx c 57 #[.bool p', .slice A' n' m'] ∧ BigV wx (.agg #[.bool p, .slice A n m]) X ∧ BigV wx (.agg #[.bool p', .slice A' n' m']) Y ∧ Ext W0 wx ∧ W0.heap.size ≤ b
section
variable {W0 w : World} {X Y : Int} {n m n' m' k0 l0 k1 l1 : Nat} {p p' o0 o1 : Bool} {A A' D0 D1 : Option Addr}
theorem FC.way1 (h : BigV w (.agg #[.bool p, .slice A n m]) X) (h' : BigV w (.agg #[.bool p', .slice A' n' m']) Y) (hS : Later W0 w) :
    FC W0 X Y (.pointer (some ⟨w.heap.size, 0, none⟩)) (.pointer (some ⟨w.heap.size + 1, 0, none⟩)) (.int .i64 0) ((w.alloc (.cells #[.bool p, .slice A n m] 57)).alloc (.cells #[.bool p', .slice A' n' m'] 57)) :=
  ⟨_, _, _, _, _, _, _, _, _, _, rfl, rfl, rfl, (Box.new _ _ _).alloc _, Box.new1 _ _ _ _ _, (h.al _).al _, (h'.al _).al _, Ext.alloc (Ext.alloc hS _) _, Ext.size hS⟩
theorem FC.way2 (h : BigV w (.agg #[.bool p, .slice A n m]) X) (h' : BigV w (.agg #[.bool p', .slice A' n' m']) Y) (hS : Later W0 w) :
    FC W0 X Y (.pointer (some ⟨w.heap.size + 1, 0, none⟩)) (.pointer (some ⟨w.heap.size, 0, none⟩)) (.int .i64 0) ((w.alloc (.cells #[.bool p', .slice A' n' m'] 57)).alloc (.cells #[.bool p, .slice A n m] 57)) :=
  ⟨_, _, _, _, _, _, _, _, _, _, rfl, rfl, rfl, Box.new1 _ _ _ _ _, (Box.new _ _ _).alloc _, (h.al _).al _, (h'.al _).al _, Ext.alloc (Ext.alloc hS _) _, Nat.le_succ_of_le (Ext.size hS)⟩
theorem FC.way3 {b c : Nat} (h : BigV w (.agg #[.bool p, .slice A n m]) X) (h' : BigV w (.agg #[.bool p', .slice A' n' m']) Y) (hS : Later W0 w)
    (hb : Box w b 57 #[.bool o0, .slice D0 k0 l0]) (hc : Box w c 57 #[.bool o1, .slice D1 k1 l1]) (hbc : ¬ b = c) (sb : W0.heap.size ≤ b) (sc : W0.heap.size ≤ c) :
    FC W0 X Y (.pointer (some ⟨b, 0, none⟩)) (.pointer (some ⟨c, 0, none⟩)) (.int .i64 0) ((((w.setCell ⟨b, 0, none⟩ (.bool p)).setCell ⟨b, 1, none⟩ (.slice A n m)).setCell ⟨c, 0, none⟩ (.bool p')).setCell ⟨c, 1, none⟩ (.slice A' n' m')) := by
  obtain ⟨w', rfl, h1, h2, h3, h4⟩ := two_put hbc h h' hb hc
  exact ⟨_, _, _, _, _, _, _, _, _, _, rfl, rfl, rfl, h3, h4, h1, h2, (((Ext.set hS sb _).set sb _).set sc _).set sc _, sb⟩
theorem FC.way4 {b : Nat} (h : BigV w (.agg #[.bool p, .slice A n m]) X) (h' : BigV w (.agg #[.bool p', .slice A' n' m']) Y) (hS : Later W0 w)
    (hb : Box w b 57 #[.bool o0, .slice D0 k0 l0]) (sb : W0.heap.size ≤ b) :
    FC W0 X Y (.pointer (some ⟨b, 0, none⟩)) (.pointer (some ⟨w.heap.size, 0, none⟩)) (.int .i64 0) (((((w.alloc (.cells #[.bool false, .slice none 0 0] 57)).setCell ⟨b, 0, none⟩ (.bool p)).setCell ⟨b, 1, none⟩ (.slice A n m)).setCell ⟨w.heap.size, 0, none⟩ (.bool p')).setCell ⟨w.heap.size, 1, none⟩ (.slice A' n' m')) :=
  FC.way3 (h.al _) (h'.al _) (Ext.alloc hS _) (hb.alloc _) (Box.new _ _ _) (by have := hb.lt; omega) sb (Ext.size hS)
theorem FC.way5 {c : Nat} (h : BigV w (.agg #[.bool p, .slice A n m]) X) (h' : BigV w (.agg #[.bool p', .slice A' n' m']) Y) (hS : Later W0 w)
    (hc : Box w c 57 #[.bool o1, .slice D1 k1 l1]) (sc : W0.heap.size ≤ c) :
    FC W0 X Y (.pointer (some ⟨w.heap.size, 0, none⟩)) (.pointer (some ⟨c, 0, none⟩)) (.int .i64 0) (((w.alloc (.cells #[.bool p, .slice A n m] 57)).setCell ⟨c, 0, none⟩ (.bool p')).setCell ⟨c, 1, none⟩ (.slice A' n' m')) :=
  ⟨_, _, _, _, _, _, _, _, _, _, rfl, rfl, rfl, (Box.new _ _ _).f2 (by have := hc.lt; omega) _ _, (hc.alloc _).p2 _ _, (h.al _).s2 (hc.alloc _), (h'.al _).s2 (hc.alloc _), ((Ext.alloc hS _).set sc _).set sc _, Ext.size hS⟩
end

end Go.Proofs.Ythafabkjidifeaa.Rt

/- The trees that the laws build; walk: build. -/
import Derived.Test.YtljncdcjkdgkeaaGreatDoorRCV9
import Derived.Test.YtljncdcjkdgkeaaGreatDoorRLN3
set_option linter.unusedVariables false
set_option linter.unusedSimpArgs false
namespace Go.Proofs.YtljncdcjkdgkeaaGreatDoor.Lp
open Go.RowKit Go.Proofs.YtljncdcjkdgkeaaGreatDoor.Big Go.Proofs.YtljncdcjkdgkeaaGreatDoor.Rt

/-- a node of a law's list -/
structure ND where
  var : Int
  fl : Int
  em : Bool
  num : List Int
  den : List Nat
  kids : Bool
/-- a tree of a certificate, children may be missing -/
inductive CT where
  | nil : CT
  | node (var fl : Int) (em : Bool) (n : Nat) (y : Nat → Rat) (lo hi : CT) : CT
def uV (ds : List Nat) : List Value := ds.map fun (d : Nat) => Value.int .u8 (d : Int)
/-- a node of the list at place o of block b -/
def NdAt (w : World) (b o : Nat) (x : ND) : Prop :=
  ∃ An cn Ad cd, w.cell? ⟨b, o, none⟩ = some (.int .i64 x.var) ∧ w.cell? ⟨b, o + 1, none⟩ = some (.int .i64 x.fl) ∧ w.cell? ⟨b, o + 2, none⟩ = some (.bool x.em) ∧ w.cell? ⟨b, o + 3, none⟩ = some (.slice An x.num.length cn) ∧ w.cell? ⟨b, o + 4, none⟩ = some (.slice Ad x.den.length cd) ∧
    w.cell? ⟨b, o + 5, none⟩ = some (.bool x.kids) ∧ Row w (.slice An x.num.length cn) (wV x.num) ∧ Row w (.slice Ad x.den.length cd) (uV x.den)
def NodesV (w : World) (v : Value) (l : List ND) : Prop :=
  ∃ A c, v = .slice A l.length c ∧ l.length ≤ c ∧ c ≤ 9223372036854775807 ∧ (0 < l.length → ∃ b off, A = some ⟨b, off, none⟩ ∧ ∀ j x, l[j]? = some x → NdAt w b (off + j * 6) x)
/-- numbers whose block lies from lo to h -/
def RatsI (w : World) (lo h : Nat) (A : Option Addr) (n c : Nat) (f : Nat → Rat) : Prop := RatsO w lo A n c f ∧ (0 < n → ∀ b, A = some ⟨b, 0, none⟩ → b < h)
/-- a tree in the blocks from b to h, no block in two places -/
def TreeI (w : World) : CT → Option Addr → Nat → Nat → Prop
  | .nil, A, b, h => A = none ∧ b ≤ h
  | .node vr fl em n y lo hi, A, b, h => ∃ k L H Y c m1 m2, A = some ⟨k, 0, none⟩ ∧ b ≤ k ∧ k < m1 ∧ Box w k 79 (NodeC vr fl L H em Y n c) ∧ RatsI w b m1 Y n c y ∧ TreeI w lo L m1 m2 ∧ TreeI w hi H m2 h
theorem RatsO.inI {w : World} {lo h : Nat} {A : Option Addr} {n c : Nat} {f : Nat → Rat} (k : RatsO w lo A n c f) (hh : w.heap.size ≤ h) : RatsI w lo h A n c f :=
  ⟨k, fun hn b e => by
    obtain ⟨b', e', hr, -⟩ := k.2.2 hn
    rw [e] at e'
    injection e' with e'
    injection e' with e'
    obtain ⟨cs, h1, -⟩ := hr
    rcases Nat.lt_or_ge b' w.heap.size with hlt | hge
    · omega
    · rw [Array.getElem?_eq_none hge] at h1; cases h1⟩
theorem RatsI.fr {P : Nat → Prop} {w w' : World} {lo h : Nat} {A : Option Addr} {n c : Nat} {f : Nat → Rat} (x : RatsI w lo h A n c f) (k : Fr P w w') (hP : ∀ b, lo ≤ b → b < h → ¬ P b) : RatsI w' lo h A n c f :=
  ⟨⟨x.1.1, x.1.2.1, fun hn => by obtain ⟨b, e, hr, hb⟩ := x.1.2.2 hn; exact ⟨b, e, hr.fr k (hP b hb (x.2 hn b e)), hb⟩⟩, x.2⟩
theorem RatsI.ext {w w' : World} {lo h : Nat} {A : Option Addr} {n c : Nat} {f : Nat → Rat} (x : RatsI w lo h A n c f) (k : Ext w w') : RatsI w' lo h A n c f := ⟨x.1.ext k, x.2⟩
theorem RatsI.up {w : World} {lo lo' h h' : Nat} {A : Option Addr} {n c : Nat} {f : Nat → Rat} (x : RatsI w lo h A n c f) (h1 : lo' ≤ lo) (h2 : h ≤ h') : RatsI w lo' h' A n c f := ⟨x.1.up h1, fun hn b e => Nat.lt_of_lt_of_le (x.2 hn b e) h2⟩
theorem TreeI.le {w : World} : ∀ {t : CT} {A : Option Addr} {b h : Nat}, TreeI w t A b h → b ≤ h
  | .nil, _, _, _, x => x.2
  | .node .., _, _, _, x => by
    obtain ⟨k, L, H, Y, c, m1, m2, e, h1, h2, B, hY, hl, hh⟩ := x
    have := TreeI.le hl
    have := TreeI.le hh
    omega
theorem TreeI.fr {P : Nat → Prop} {w w' : World} : ∀ {t : CT} {A : Option Addr} {b h : Nat}, TreeI w t A b h → Fr P w w' → (∀ k, b ≤ k → k < h → ¬ P k) → TreeI w' t A b h
  | .nil, _, _, _, x, _, _ => x
  | .node .., _, _, _, x, f, hP => by
    obtain ⟨k, L, H, Y, c, m1, m2, e, h1, h2, B, hY, hl, hh⟩ := x
    have l1 := TreeI.le hl
    have l2 := TreeI.le hh
    exact ⟨k, L, H, Y, c, m1, m2, e, h1, h2, f.box B (hP k h1 (by omega)), hY.fr f (fun b' g1 g2 => hP b' g1 (by omega)), TreeI.fr hl f (fun k' g1 g2 => hP k' (by omega) (by omega)), TreeI.fr hh f (fun k' g1 g2 => hP k' (by omega) (by omega))⟩
theorem TreeI.ext {w w' : World} {t : CT} {A : Option Addr} {b h : Nat} (x : TreeI w t A b h) (k : Ext w w') : TreeI w' t A b h := x.fr (P := fun _ => False) (Fr.of k) (fun _ _ _ h => h)
theorem TreeI.up {w : World} : ∀ {t : CT} {A : Option Addr} {b h b' h' : Nat}, TreeI w t A b h → b' ≤ b → h ≤ h' → TreeI w t A b' h'
  | .nil, _, _, _, _, _, x, h1, h2 => ⟨x.1, by have := x.2; omega⟩
  | .node .., _, _, _, _, _, x, g1, g2 => by
    obtain ⟨k, L, H, Y, c, m1, m2, e, h1, h2, B, hY, hl, hh⟩ := x
    exact ⟨k, L, H, Y, c, m1, m2, e, by omega, h2, B, hY.up g1 (Nat.le_refl _), hl, hh.up (Nat.le_refl _) g2⟩
theorem TreeI.nilA {w : World} {A : Option Addr} {b h : Nat} : ∀ {t : CT}, TreeI w t A b h → (A = none ↔ t = .nil)
  | .nil, x => ⟨fun _ => rfl, fun _ => x.1⟩
  | .node .., x => by
    obtain ⟨k, L, H, Y, c, m1, m2, e, -⟩ := x
    exact ⟨fun h => (by rw [e] at h; cases h), fun h => (by cases h)⟩
theorem NdAt.ext {w w' : World} {b o : Nat} {x : ND} (h : NdAt w b o x) (k : Ext w w') : NdAt w' b o x := by
  obtain ⟨An, cn, Ad, cd, g0, g1, g2, g3, g4, g5, h1, h2⟩ := h
  exact ⟨An, cn, Ad, cd, k.cell g0, k.cell g1, k.cell g2, k.cell g3, k.cell g4, k.cell g5, h1.ext k, h2.ext k⟩
theorem NodesV.ext {w w' : World} {v : Value} {l : List ND} (h : NodesV w v l) (k : Ext w w') : NodesV w' v l := by
  obtain ⟨A, c, rfl, h1, h2, h3⟩ := h
  exact ⟨A, c, rfl, h1, h2, fun hn => by obtain ⟨b, off, e, hx⟩ := h3 hn; exact ⟨b, off, e, fun j x hj => (hx j x hj).ext k⟩⟩
theorem OwnQ.fr {P : Nat → Prop} {w w' : World} {base n : Nat} {v : Value} {f : Nat → Rat} (h : OwnQ w base v n f) (k : Fr P w w') (hp : ∀ g, v.ownBlock = some g → ¬ P g) : OwnQ w' base v n f := by
  obtain ⟨xs, o, a⟩ := h
  exact ⟨xs, o.fr k hp, fun j hj => (a j hj).fr k⟩
end Go.Proofs.YtljncdcjkdgkeaaGreatDoor.Lp

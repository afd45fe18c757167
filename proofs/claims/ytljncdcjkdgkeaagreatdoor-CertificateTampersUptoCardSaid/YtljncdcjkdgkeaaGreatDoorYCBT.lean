/- The trees that the laws build; walk: build. -/
import Derived.Test.YtljncdcjkdgkeaaGreatDoorYCN0
import Derived.Test.YtljncdcjkdgkeaaGreatDoorYCK3
set_option linter.unusedVariables false
set_option linter.unusedSimpArgs false
namespace Go.Proofs.YtljncdcjkdgkeaaGreatDoor.Lp
open Go.RowKit Go.Proofs.YtljncdcjkdgkeaaGreatDoor.Big Go.Proofs.YtljncdcjkdgkeaaGreatDoor.Rt
structure ND where
 var : Int
 fl : Int
 em : Bool
 num : List Int
 den : List Nat
 kids : Bool
inductive CT where
 | nil : CT
 | node (var fl : Int) (em : Bool) (n : Nat) (y : Nat → Rat) (lo hi : CT) : CT
def okN (x : ND) : Prop := (∀ z ∈ x.num, in32 z) ∧ (∀ d ∈ x.den, d ≤ 255) ∧ x.num.length ≤ 1048576
def qrr (w : World) (lo h : Nat) (A : Option Addr) (n c : Nat) (f : Nat → Rat) : Prop := qjq w lo A n c f ∧ (0 < n → ∀ b, A = some ⟨b, 0, none⟩ → b < h)
def qjd (w : World) : CT → Option Addr → Nat → Nat → Prop
 | .nil, A, b, h => A = none ∧ b ≤ h
 | .node vr fl em n y lo hi, A, b, h => ∃ k L H Y c m1 m2, A = some ⟨k, 0, none⟩ ∧ b ≤ k ∧ k < m1 ∧ Box w k 79 (q89 vr fl L H em Y n c) ∧ qrr w b m1 Y n c y ∧ qjd w lo L m1 m2 ∧ qjd w hi H m2 h
theorem qjq.inI {w : World} {lo h : Nat} {A : Option Addr} {n c : Nat} {f : Nat → Rat} (k : qjq w lo A n c f) (hh : w.heap.size ≤ h) : qrr w lo h A n c f :=
 ⟨k, fun hn b e => by
  obtain ⟨b', e', hr, -⟩ := k.2.2 hn
  rw [e] at e'
  injection e' with e'
  injection e' with e'
  obtain ⟨cs, h1, -⟩ := hr
  rcases Nat.lt_or_ge b' w.heap.size with hlt | hge
  ·omega
  ·rw [Array.getElem?_eq_none hge] at h1; cases h1⟩
theorem qrr.fr {P : Nat → Prop} {w w' : World} {lo h : Nat} {A : Option Addr} {n c : Nat} {f : Nat → Rat} (x : qrr w lo h A n c f) (k : Fr P w w') (hP : ∀ b, lo ≤ b → b < h → ¬ P b) : qrr w' lo h A n c f :=
 ⟨⟨x.1.1, x.1.2.1, fun hn => by obtain ⟨b, e, hr, hb⟩ := x.1.2.2 hn; exact ⟨b, e, hr.fr k (hP b hb (x.2 hn b e)), hb⟩⟩, x.2⟩
theorem qrr.up {w : World} {lo lo' h h' : Nat} {A : Option Addr} {n c : Nat} {f : Nat → Rat} (x : qrr w lo h A n c f) (h1 : lo' ≤ lo) (h2 : h ≤ h') : qrr w lo' h' A n c f := ⟨x.1.up h1, fun hn b e => Nat.lt_of_lt_of_le (x.2 hn b e) h2⟩
theorem qjd.le {w : World} : ∀ {t : CT} {A : Option Addr} {b h : Nat}, qjd w t A b h → b ≤ h
 | .nil, _, _, _, x => x.2
 | .node .., _, _, _, x => by
   obtain ⟨k, L, H, Y, c, m1, m2, e, h1, h2, B, hY, hl, hh⟩ := x
   have := qjd.le hl
   have := qjd.le hh
   omega
theorem qjd.fr {P : Nat → Prop} {w w' : World} : ∀ {t : CT} {A : Option Addr} {b h : Nat}, qjd w t A b h → Fr P w w' → (∀ k, b ≤ k → k < h → ¬ P k) → qjd w' t A b h
 | .nil, _, _, _, x, _, _ => x
 | .node .., _, _, _, x, f, hP => by
   obtain ⟨k, L, H, Y, c, m1, m2, e, h1, h2, B, hY, hl, hh⟩ := x
   have l1 := qjd.le hl
   have l2 := qjd.le hh
   exact ⟨k, L, H, Y, c, m1, m2, e, h1, h2, f.box B (hP k h1 (by omega)), hY.fr f (fun b' g1 g2 => hP b' g1 (by omega)), qjd.fr hl f (fun k' g1 g2 => hP k' (by omega) (by omega)), qjd.fr hh f (fun k' g1 g2 => hP k' (by omega) (by omega))⟩
theorem qjd.ext {w w' : World} {t : CT} {A : Option Addr} {b h : Nat} (x : qjd w t A b h) (k : Ext w w') : qjd w' t A b h := x.fr (P := fun _ => False) (Fr.of k) (fun _ _ _ h => h)
theorem qjd.up {w : World} : ∀ {t : CT} {A : Option Addr} {b h b' h' : Nat}, qjd w t A b h → b' ≤ b → h ≤ h' → qjd w t A b' h'
 | .nil, _, _, _, _, _, x, h1, h2 => ⟨x.1, by have := x.2; omega⟩
 | .node .., _, _, _, _, _, x, g1, g2 => by
   obtain ⟨k, L, H, Y, c, m1, m2, e, h1, h2, B, hY, hl, hh⟩ := x
   exact ⟨k, L, H, Y, c, m1, m2, e, by omega, h2, B, hY.up g1 (Nat.le_refl _), hl, hh.up (Nat.le_refl _) g2⟩
theorem qjd.nilA {w : World} {A : Option Addr} {b h : Nat} : ∀ {t : CT}, qjd w t A b h → (A = none ↔ t = .nil)
 | .nil, x => ⟨fun _ => rfl, fun _ => x.1⟩
 | .node .., x => by
   obtain ⟨k, L, H, Y, c, m1, m2, e, -⟩ := x
   exact ⟨fun h => (by rw [e] at h; cases h), fun h => (by cases h)⟩
end Go.Proofs.YtljncdcjkdgkeaaGreatDoor.Lp

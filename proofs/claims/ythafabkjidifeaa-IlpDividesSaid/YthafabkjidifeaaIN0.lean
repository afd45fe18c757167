/- Plain: the steps of a search; what a node's call leaves. -/
import Derived.Test.YthafabkjidifeaaIB
set_option linter.unusedVariables false
set_option linter.unusedSimpArgs false
namespace Go.Proofs.Ythafabkjidifeaa.Lp
open Go.RowKit Go.Proofs.Ythafabkjidifeaa.Big Go.Proofs.Ythafabkjidifeaa.Rt

/-- how a search ends that fails -/
def failE (c : Int) : Ending := .panicked [{ v := .iface 84 (.agg #[.int .i64 c]), recovered := false }]
section
variable {L k : Nat} {p : Prob} {s : BS}
theorem nodeF_full (h : L ≤ s.solved) : nodeF L k p s = .error 13 := by
  cases k with
  | zero => rfl
  | succ k => unfold nodeF; rw [if_pos h]
theorem nodeF_inf {y : Nat → Rat} (h : ¬ L ≤ s.solved) (e : p.sol = .inf y) : nodeF L (k + 1) p s = .ok (.leaf true p.m y, s.tick) := by
  unfold nodeF; rw [if_neg h, e]
theorem nodeF_unb (h : ¬ L ≤ s.solved) (e : p.sol = .unb) : nodeF L (k + 1) p s = .error 18 := by
  unfold nodeF; rw [if_neg h, e]
theorem nodeF_cut {z : Rat} {x y : Nat → Rat} (h : ¬ L ≤ s.solved) (e : p.sol = .opt z x y) (hc : s.cut z = true) : nodeF L (k + 1) p s = .ok (.leaf false p.m y, s.tick) := by
  unfold nodeF; rw [if_neg h, e]
  simp only
  rw [if_pos hc]
theorem nodeF_opt {z : Rat} {x y : Nat → Rat} (h : ¬ L ≤ s.solved) (e : p.sol = .opt z x y) (hc : s.cut z = false) : nodeF L (k + 1) p s = (match fracV x p.n with
        | some v =>
          if fit (x v).floor = true then
            match nodeF L k (p.side v (x v).floor false) s.tick with
            | .error e => .error e
            | .ok (lo, s1) =>
              match nodeF L k (p.side v (x v).floor true) s1 with
              | .error e => .error e
              | .ok (hi, s2) => .ok (.node v (x v).floor lo hi, s2)
          else .error 2
        | none => if (fitsV x p.n && fit z.floor) = true then .ok (.leaf false p.m y, ⟨s.solved + 1, some (z.floor, fun j => (x j).num)⟩) else .error 2) := by
  conv => lhs; unfold nodeF
  rw [if_neg h, e]
  simp only
  rw [if_neg (by rw [hc]; decide)]
  rfl
theorem nodeF_big {z : Rat} {x y : Nat → Rat} {v : Nat} (h : ¬ L ≤ s.solved) (e : p.sol = .opt z x y) (hc : s.cut z = false) (hf : fracV x p.n = some v) (hb : fit (x v).floor = false) : nodeF L (k + 1) p s = .error 2 := by
  rw [nodeF_opt h e hc, hf]
  simp only
  rw [if_neg (by rw [hb]; decide)]
theorem nodeF_low {z : Rat} {x y : Nat → Rat} {v : Nat} {c : Int} (h : ¬ L ≤ s.solved) (e : p.sol = .opt z x y) (hc : s.cut z = false) (hf : fracV x p.n = some v) (hb : fit (x v).floor = true) (h1 : nodeF L k (p.side v (x v).floor false) s.tick = .error c) : nodeF L (k + 1) p s = .error c := by
  rw [nodeF_opt h e hc, hf]
  simp only
  rw [if_pos hb, h1]
theorem nodeF_high {z : Rat} {x y : Nat → Rat} {v : Nat} {c : Int} {lo : BT} {s1 : BS} (h : ¬ L ≤ s.solved) (e : p.sol = .opt z x y) (hc : s.cut z = false) (hf : fracV x p.n = some v) (hb : fit (x v).floor = true) (h1 : nodeF L k (p.side v (x v).floor false) s.tick = .ok (lo, s1)) (h2 : nodeF L k (p.side v (x v).floor true) s1 = .error c) : nodeF L (k + 1) p s = .error c := by
  rw [nodeF_opt h e hc, hf]
  simp only
  rw [if_pos hb, h1]
  simp only
  rw [h2]
theorem nodeF_both {z : Rat} {x y : Nat → Rat} {v : Nat} {lo hi : BT} {s1 s2 : BS} (h : ¬ L ≤ s.solved) (e : p.sol = .opt z x y) (hc : s.cut z = false) (hf : fracV x p.n = some v) (hb : fit (x v).floor = true) (h1 : nodeF L k (p.side v (x v).floor false) s.tick = .ok (lo, s1)) (h2 : nodeF L k (p.side v (x v).floor true) s1 = .ok (hi, s2)) : nodeF L (k + 1) p s = .ok (.node v (x v).floor lo hi, s2) := by
  rw [nodeF_opt h e hc, hf]
  simp only
  rw [if_pos hb, h1]
  simp only
  rw [h2]
theorem nodeF_unfit {z : Rat} {x y : Nat → Rat} (h : ¬ L ≤ s.solved) (e : p.sol = .opt z x y) (hc : s.cut z = false) (hf : fracV x p.n = none) (hb : (fitsV x p.n && fit z.floor) = false) : nodeF L (k + 1) p s = .error 2 := by
  rw [nodeF_opt h e hc, hf]
  simp only
  rw [if_neg (by rw [hb]; decide)]
theorem nodeF_best {z : Rat} {x y : Nat → Rat} (h : ¬ L ≤ s.solved) (e : p.sol = .opt z x y) (hc : s.cut z = false) (hf : fracV x p.n = none) (hb : fitsV x p.n = true) (hz : fit z.floor = true) : nodeF L (k + 1) p s = .ok (.leaf false p.m y, ⟨s.solved + 1, some (z.floor, fun j => (x j).num)⟩) := by
  rw [nodeF_opt h e hc, hf]
  simp only
  rw [if_pos (by rw [hb, hz]; rfl)]
end
/-- what a node's call leaves -/
def NPost (K sb L n : Nat) (w : World) : Except Int (BT × BS) → Ending → World → Prop
  | .ok (t, s), e, w' => FrS sb w w' ∧ ∃ b, e = .returned (.pointer (some ⟨b, 0, none⟩)) ∧ w.heap.size ≤ b ∧ TreeV K w' t b w'.heap.size ∧ SearchV w' sb L n s
  | .error c, e, w' => FrS sb w w' ∧ e = failE c
/-- a step of the count -/
theorem SearchV.tick {w : World} {sb L n : Nat} {s : BS} (h : SearchV w sb L n s) : SearchV (w.setCell ⟨sb, 1, none⟩ (.int .i64 ((s.solved + 1 : Nat) : Int))) sb L n s.tick ∧ FrS sb w (w.setCell ⟨sb, 1, none⟩ (.int .i64 ((s.solved + 1 : Nat) : Int))) := by
  obtain ⟨fo, va, A, m, c, h1, h2, h3⟩ := h
  have hF : FrS sb w (w.setCell ⟨sb, 1, none⟩ (.int .i64 ((s.solved + 1 : Nat) : Int))) := (Fr.refl (fun k => k = sb) w).set (p := ⟨sb, 1, none⟩) rfl (fun z => by rw [h1.c1]; intro e; cases e) _
  refine ⟨⟨fo, va, A, m, c, h1.set 1 _, h2, fun v x e => ?_⟩, hF⟩
  obtain ⟨a1, a2, a0, a3, a4, g, a5, a6⟩ := h3 v x e
  refine ⟨a1, a2, a0, a3, a4, g, a5, a6.fr hF ?_⟩
  rintro rfl
  obtain ⟨cs, k1, -⟩ := a6
  unfold Box at h1
  rw [h1] at k1
  injection k1 with k1
  injection k1 with _ k1 _
  exact absurd k1 (by decide)
end Go.Proofs.Ythafabkjidifeaa.Lp

/- Memory of linear programs: rows of rational numbers that are written; what a call leaves that writes some blocks. Walk: subtract (a multiple of a row from another). A tableau in memory. Walk: pivot. Walk: the entering column. -/
import Derived.Test.YtljncdcjkdgkeaaGreatDoorKW17
set_option linter.unusedVariables false
set_option linter.unusedSimpArgs false
namespace Go.Proofs.YtljncdcjkdgkeaaGreatDoor.Big
theorem Later.cell {a b : World} (h : Later a b) {p : Addr} {v : Value} (hc : a.cell? p = some v) : b.cell? p = some v := Ext.cell h hc
end Go.Proofs.YtljncdcjkdgkeaaGreatDoor.Big
namespace Go.Proofs.YtljncdcjkdgkeaaGreatDoor.Lp
open Go.RowKit Go.Proofs.YtljncdcjkdgkeaaGreatDoor.Big Go.Proofs.YtljncdcjkdgkeaaGreatDoor.Rt

/-- as it was but for the blocks of P, whose digits stay, and new blocks -/
structure Fr (P : Nat → Prop) (w w' : World) : Prop where
  os : w'.os = w.os
  tape : w'.tape = w.tape
  output : w'.output = w.output
  size : w.heap.size ≤ w'.heap.size
  block : ∀ k, k < w.heap.size → ¬ P k → w'.heap[k]? = w.heap[k]?
  digs : ∀ b i z, w.cell? ⟨b, i, none⟩ = some (.int .u32 z) → w'.cell? ⟨b, i, none⟩ = some (.int .u32 z)
section
variable {P Q : Nat → Prop} {a w w' w'' : World}
theorem Fr.refl (P : Nat → Prop) (w : World) : Fr P w w := ⟨rfl, rfl, rfl, Nat.le_refl _, fun _ _ _ => rfl, fun _ _ _ h => h⟩
theorem Fr.trans (h : Fr P a w) (k : Fr P w w') : Fr P a w' :=
  ⟨k.os.trans h.os, k.tape.trans h.tape, k.output.trans h.output, Nat.le_trans h.size k.size, fun i hi hp => (k.block i (Nat.lt_of_lt_of_le hi h.size) hp).trans (h.block i hi hp), fun b i z hc => k.digs b i z (h.digs b i z hc)⟩
theorem Fr.of (k : Ext w w') : Fr P w w' := ⟨k.os, k.tape, k.output, k.size, fun i hi _ => Below.block k i hi, fun _ _ _ hc => k.cell hc⟩
theorem Fr.step (h : Fr P a w) (k : Ext w w') : Fr P a w' := h.trans (Fr.of k)
theorem Fr.drew (h : Fr P a w) : Fr P a w.drew := ⟨h.os, h.tape, h.output, h.size, h.block, h.digs⟩
theorem Fr.alloc (h : Fr P a w) (o : Obj) : Fr P a (w.alloc o) := h.step ((Ext.refl w).alloc o)
theorem Fr.set (h : Fr P a w) {p : Addr} (hp : P p.block) (hc : ∀ z, w.cell? p ≠ some (.int .u32 z)) (u : Value) : Fr P a (w.setCell p u) :=
  ⟨h.os, h.tape, h.output, by simpa [World.setCell] using h.size, fun k hk hne => (Below.heap_setCell w p u k (fun e => hne (e ▸ hp))).trans (h.block k hk hne), fun b i z hz => by
    have h1 := h.digs b i z hz
    rw [World.cell?_setCell_other _ _ _ _ (fun e => hc z (by rw [e]; exact h1))]; exact h1⟩
theorem Fr.setN (h : Fr P a w) {p : Addr} (hp : a.heap.size ≤ p.block) (u : Value) : Fr P a (w.setCell p u) :=
  ⟨h.os, h.tape, h.output, by simpa [World.setCell] using h.size, fun k hk hne => (Below.heap_setCell w p u k (by omega)).trans (h.block k hk hne), fun b i z hz => by
    have h1 := h.digs b i z hz
    have h2 := World.block_lt_of_cell? a _ hz
    rw [World.cell?_setCell_other _ _ _ _ (fun e => by rw [e] at hp; simp at hp h2; omega)]; exact h1⟩
theorem Fr.weak (h : Fr P w w') (hPQ : ∀ b, P b → Q b) : Fr Q w w' := ⟨h.os, h.tape, h.output, h.size, fun k hk hne => h.block k hk (fun hp => hne (hPQ k hp)), h.digs⟩
/-- what is written lies above: all that lay below is as it was -/
theorem Fr.ext (h : Fr P w w') (k : Ext a w) (hP : ∀ b, P b → a.heap.size ≤ b) : Ext a w' :=
  ⟨h.os.trans k.os, h.tape.trans k.tape, h.output.trans k.output, Nat.le_trans k.size h.size, fun i hi => (h.block i (Nat.lt_of_lt_of_le hi k.size) (fun hp => absurd (hP i hp) (by omega))).trans (Below.block k i hi)⟩
theorem Fr.row (h : Fr P w w') {b : Nat} (hb : ¬ P b) {o : Obj} (hr : w.heap[b]? = some o) : w'.heap[b]? = some o := by
  have hl : b < w.heap.size := by
    rcases Nat.lt_or_ge b w.heap.size with hlt | hge
    · exact hlt
    · rw [Array.getElem?_eq_none hge] at hr; cases hr
  exact (h.block b hl hb).trans hr
theorem Fr.cell (h : Fr P w w') {b i : Nat} (hb : ¬ P b) {v : Value} (hc : w.cell? ⟨b, i, none⟩ = some v) : w'.cell? ⟨b, i, none⟩ = some v :=
  (World.cell?_of_block (w := w) (w' := w') (a := ⟨b, i, none⟩) (h.block b (World.block_lt_of_cell? w _ hc) hb)).trans hc
theorem Fr.box (h : Fr P w w') {b : Nat} {E : TypeId} {cs : Array Value} (hx : Box w b E cs) (hb : ¬ P b) : Box w' b E cs := h.row hb hx
theorem Fr.dig (h : Fr P w w') {v : Value} {n V : Nat} (hd : Dig w v n V) : Dig w' v n V := by
  obtain ⟨A, c, rfl, h1, h2, h3, h4⟩ := hd
  refine ⟨A, c, rfl, h1, h2, h3, fun hn => ?_⟩
  obtain ⟨b', off, rfl, hc⟩ := h4 hn
  exact ⟨b', off, rfl, fun j hj => h.digs _ _ _ (hc j hj)⟩
theorem Fr.big (h : Fr P w w') {v : Value} {z : Int} (hb : BigV w v z) : BigV w' v z := by
  obtain ⟨s, n, rfl, h1, h2⟩ := hb
  exact ⟨s, n, rfl, h.dig h1, h2⟩
theorem Fr.rat (h : Fr P w w') {v : Value} {q : Rat} (hr : RatV w v q) : RatV w' v q := by
  obtain ⟨p, A, n, c, p', A', n', c', z, rfl, h1, h2, h3⟩ := hr
  exact ⟨p, A, n, c, p', A', n', c', z, rfl, h.big h1, h.big h2, h3⟩
theorem Fr.ratB (h : Fr P w w') {v : Value} {q : Rat} {k : Nat} (hr : RatB w v q k) : RatB w' v q k := ⟨h.rat hr.1, hr.2⟩
end

/-- place j of the cells cs holds the rational number q -/
def At (w : World) (cs : Array Value) (i : Nat) (q : Rat) : Prop :=
  ∃ p A m c p' A' m' c', cs[i]? = some (.bool p) ∧ cs[i + 1]? = some (.slice A m c) ∧ cs[i + 2]? = some (.bool p') ∧ cs[i + 3]? = some (.slice A' m' c') ∧ RatV w (.agg #[.bool p, .slice A m c, .bool p', .slice A' m' c']) q
/-- block b is an array of n rational numbers, f j at place j -/
def RowR (w : World) (b n : Nat) (f : Nat → Rat) : Prop :=
  ∃ cs : Array Value, w.heap[b]? = some (.cells cs 58 (0, 0)) ∧ n * 4 ≤ cs.size ∧ ∀ j, j < n → At w cs (j * 4) (f j)
section
variable {P : Nat → Prop} {w w' : World} {b n : Nat} {f g : Nat → Rat}
theorem RowR.lt (h : RowR w b n f) : b < w.heap.size := by
  obtain ⟨cs, h1, _⟩ := h
  rcases Nat.lt_or_ge b w.heap.size with hlt | hge
  · exact hlt
  · rw [Array.getElem?_eq_none hge] at h1; cases h1
theorem RowR.frozen (h : RowR w b n f) (i : Nat) : w.frozen? ⟨b, i, none⟩ = false := by
  obtain ⟨cs, h1, _⟩ := h; simp [World.frozen?, h1]
theorem RowR.fr (h : RowR w b n f) (k : Fr P w w') (hb : ¬ P b) : RowR w' b n f := by
  obtain ⟨cs, h1, h2, h3⟩ := h
  refine ⟨cs, k.row hb h1, h2, fun j hj => ?_⟩
  obtain ⟨p, A, m, c, p', A', m', c', e0, e1, e2, e3, hr⟩ := h3 j hj
  exact ⟨p, A, m, c, p', A', m', c', e0, e1, e2, e3, k.rat hr⟩
theorem RowR.ext (h : RowR w b n f) (k : Ext w w') : RowR w' b n f := h.fr (P := fun _ => False) (Fr.of k) id
theorem RowR.congr (h : RowR w b n f) (e : ∀ j, j < n → f j = g j) : RowR w b n g := by
  obtain ⟨cs, h1, h2, h3⟩ := h
  exact ⟨cs, h1, h2, fun j hj => by rw [← e j hj]; exact h3 j hj⟩
/-- the cells of a place -/
theorem RowR.at (h : RowR w b n f) {j : Nat} (hj : j < n) : ∃ p A m c p' A' m' c', w.cell? ⟨b, j * 4, none⟩ = some (.bool p) ∧ w.cell? ⟨b, j * 4 + 1, none⟩ = some (.slice A m c) ∧ w.cell? ⟨b, j * 4 + 2, none⟩ = some (.bool p') ∧ w.cell? ⟨b, j * 4 + 3, none⟩ = some (.slice A' m' c') ∧ RatV w (.agg #[.bool p, .slice A m c, .bool p', .slice A' m' c']) (f j) := by
  obtain ⟨cs, h1, h2, h3⟩ := h
  obtain ⟨p, A, m, c, p', A', m', c', e0, e1, e2, e3, hr⟩ := h3 j hj
  have hc : ∀ i, w.cell? ⟨b, i, none⟩ = cs[i]? := fun i => cell_of_row w b i cs _ (0, 0) h1
  exact ⟨p, A, m, c, p', A', m', c', by rw [hc]; exact e0, by rw [hc]; exact e1, by rw [hc]; exact e2, by rw [hc]; exact e3, hr⟩
/-- a number written at a place -/
theorem RowR.set (h : RowR w b n f) {j : Nat} (hj : j < n) {p p' : Bool} {A A' : Option Addr} {m c m' c' : Nat} {q : Rat} (hq : RatV w (.agg #[.bool p, .slice A m c, .bool p', .slice A' m' c']) q) :
    RowR ((((w.setCell ⟨b, j * 4, none⟩ (.bool p)).setCell ⟨b, j * 4 + 1, none⟩ (.slice A m c)).setCell ⟨b, j * 4 + 2, none⟩ (.bool p')).setCell ⟨b, j * 4 + 3, none⟩ (.slice A' m' c')) b n (fun i => if i = j then q else f i) ∧
    Fr (fun k => k = b) w ((((w.setCell ⟨b, j * 4, none⟩ (.bool p)).setCell ⟨b, j * 4 + 1, none⟩ (.slice A m c)).setCell ⟨b, j * 4 + 2, none⟩ (.bool p')).setCell ⟨b, j * 4 + 3, none⟩ (.slice A' m' c')) := by
  have hF : Fr (fun k => k = b) w ((((w.setCell ⟨b, j * 4, none⟩ (.bool p)).setCell ⟨b, j * 4 + 1, none⟩ (.slice A m c)).setCell ⟨b, j * 4 + 2, none⟩ (.bool p')).setCell ⟨b, j * 4 + 3, none⟩ (.slice A' m' c')) := by
    obtain ⟨p1, A1, m1, c1, p1', A1', m1', c1', e0, e1, e2, e3, _⟩ := h.at hj
    have key : ∀ (W : World) (i i' : Nat) (u : Value), i ≠ i' → (W.setCell ⟨b, i, none⟩ u).cell? ⟨b, i', none⟩ = W.cell? ⟨b, i', none⟩ := fun W i i' u hne => World.cell?_setCell_other _ _ _ _ (fun e => hne (by injection e))
    refine Fr.set (Fr.set (Fr.set (Fr.set (Fr.refl (fun k => k = b) w) (p := ⟨b, j * 4, none⟩) rfl ?_ _) (p := ⟨b, j * 4 + 1, none⟩) rfl ?_ _) (p := ⟨b, j * 4 + 2, none⟩) rfl ?_ _) (p := ⟨b, j * 4 + 3, none⟩) rfl ?_ _
    · intro z; rw [e0]; intro h; cases h
    · intro z; rw [key _ _ _ _ (by omega), e1]; intro h; cases h
    · intro z; rw [key _ _ _ _ (by omega), key _ _ _ _ (by omega), e2]; intro h; cases h
    · intro z; rw [key _ _ _ _ (by omega), key _ _ _ _ (by omega), key _ _ _ _ (by omega), e3]; intro h; cases h
  refine ⟨?_, hF⟩
  obtain ⟨cs, h1, h2, h3⟩ := h
  refine ⟨(((cs.setIfInBounds (j * 4) (.bool p)).setIfInBounds (j * 4 + 1) (.slice A m c)).setIfInBounds (j * 4 + 2) (.bool p')).setIfInBounds (j * 4 + 3) (.slice A' m' c'), ?_, by simpa using h2, fun i hi => ?_⟩
  · simp [World.setCell, Array.getElem?_modify, h1]
  · by_cases e : i = j
    · subst e
      show At _ _ _ (if i = i then q else f i)
      rw [if_pos rfl]
      refine ⟨p, A, m, c, p', A', m', c', ?_, ?_, ?_, ?_, hF.rat hq⟩
      · rw [Array.getElem?_setIfInBounds_ne (by omega), Array.getElem?_setIfInBounds_ne (by omega), Array.getElem?_setIfInBounds_ne (by omega), Array.getElem?_setIfInBounds_self_of_lt (by omega)]
      · rw [Array.getElem?_setIfInBounds_ne (by omega), Array.getElem?_setIfInBounds_ne (by omega), Array.getElem?_setIfInBounds_self_of_lt (by simp; omega)]
      · rw [Array.getElem?_setIfInBounds_ne (by omega), Array.getElem?_setIfInBounds_self_of_lt (by simp; omega)]
      · rw [Array.getElem?_setIfInBounds_self_of_lt (by simp; omega)]
    · show At _ _ _ (if i = j then q else f i)
      rw [if_neg e]
      obtain ⟨p1, A1, m1, c1, p1', A1', m1', c1', e0, e1, e2, e3, hr⟩ := h3 i hi
      have key : ∀ d, d < 4 → ((((cs.setIfInBounds (j * 4) (.bool p)).setIfInBounds (j * 4 + 1) (.slice A m c)).setIfInBounds (j * 4 + 2) (.bool p')).setIfInBounds (j * 4 + 3) (.slice A' m' c'))[i * 4 + d]? = cs[i * 4 + d]? := fun d hd => by
        rw [Array.getElem?_setIfInBounds_ne (by omega), Array.getElem?_setIfInBounds_ne (by omega), Array.getElem?_setIfInBounds_ne (by omega), Array.getElem?_setIfInBounds_ne (by omega)]
      exact ⟨p1, A1, m1, c1, p1', A1', m1', c1', by rw [← e0]; exact key 0 (by omega), by rw [← e1]; exact key 1 (by omega), by rw [← e2]; exact key 2 (by omega), by rw [← e3]; exact key 3 (by omega), hF.rat hr⟩
end
end Go.Proofs.YtljncdcjkdgkeaaGreatDoor.Lp

namespace Go.Proofs.YtljncdcjkdgkeaaGreatDoor.Lp
open Go.RowKit Go.Proofs.YtljncdcjkdgkeaaGreatDoor.Big Go.Proofs.YtljncdcjkdgkeaaGreatDoor.Rt

end Go.Proofs.YtljncdcjkdgkeaaGreatDoor.Lp

namespace Go.Proofs.YtljncdcjkdgkeaaGreatDoor.Lp
open Go.RowKit Go.Proofs.YtljncdcjkdgkeaaGreatDoor.Big Go.Proofs.YtljncdcjkdgkeaaGreatDoor.Rt

end Go.Proofs.YtljncdcjkdgkeaaGreatDoor.Lp
namespace Go.Proofs.YtljncdcjkdgkeaaGreatDoor.Lp
open Go.RowKit Go.Proofs.YtljncdcjkdgkeaaGreatDoor.Big Go.Proofs.YtljncdcjkdgkeaaGreatDoor.Rt

end Go.Proofs.YtljncdcjkdgkeaaGreatDoor.Lp

namespace Go.Proofs.YtljncdcjkdgkeaaGreatDoor.Lp
open Go.RowKit Go.Proofs.YtljncdcjkdgkeaaGreatDoor.Big Go.Proofs.YtljncdcjkdgkeaaGreatDoor.Rt

theorem num_neg {q : Rat} : q < 0 ↔ q.num < 0 := by
  rw [← Rat.not_le, ← Int.not_le, Rat.num_nonneg]
end Go.Proofs.YtljncdcjkdgkeaaGreatDoor.Lp

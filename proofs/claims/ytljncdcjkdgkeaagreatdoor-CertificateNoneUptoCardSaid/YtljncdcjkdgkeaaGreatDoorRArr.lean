/- A row of numbers of one kind that the call has made; make's law for it. -/
import Derived.Test.YtljncdcjkdgkeaaGreatDoorMem2
set_option linter.unusedVariables false
set_option linter.unusedSimpArgs false
namespace Go.Proofs.YtljncdcjkdgkeaaGreatDoor.Big
open Go.RowKit

/-- block b is an array of the call's own: n numbers of kind k, f j at place j -/
def ArrK (k : IntKind) (w : World) (b n : Nat) (E : TypeId) (f : Nat → Nat) : Prop :=
  ∃ cs : Array Value, w.heap[b]? = some (.cells cs E (0, 0)) ∧ cs.size = n ∧ ∀ j, j < n → cs[j]? = some (.int k (f j : Int))
section
variable {kd : IntKind} {w w' : World} {b n : Nat} {E : TypeId} {f g : Nat → Nat}
theorem ArrK.lt (h : ArrK kd w b n E f) : b < w.heap.size := by
  obtain ⟨cs, h1, _⟩ := h
  rcases Nat.lt_or_ge b w.heap.size with hlt | hge
  · exact hlt
  · rw [Array.getElem?_eq_none hge] at h1; cases h1
theorem ArrK.cell (h : ArrK kd w b n E f) {j : Nat} (hj : j < n) : w.cell? ⟨b, j, none⟩ = some (.int kd (f j : Int)) := by
  obtain ⟨cs, h1, _, h3⟩ := h
  unfold World.cell?
  rw [h1]
  simpa using h3 j hj
theorem ArrK.frozen (h : ArrK kd w b n E f) (j : Nat) : w.frozen? ⟨b, j, none⟩ = false := by
  obtain ⟨cs, h1, _⟩ := h
  simp [World.frozen?, h1]
theorem ArrK.ext (h : ArrK kd w b n E f) (k : Ext w w') : ArrK kd w' b n E f := by
  have hl := h.lt
  obtain ⟨cs, h1, h2⟩ := h
  exact ⟨cs, (Below.block k b hl).trans h1, h2⟩
theorem ArrK.congr (h : ArrK kd w b n E f) (hfg : ∀ j, j < n → f j = g j) : ArrK kd w b n E g := by
  obtain ⟨cs, h1, h2, h3⟩ := h
  exact ⟨cs, h1, h2, fun j hj => by rw [h3 j hj, hfg j hj]⟩
theorem ArrK.set (h : ArrK kd w b n E f) (i u : Nat) : ArrK kd (w.setCell ⟨b, i, none⟩ (.int kd (u : Int))) b n E (fun j => if j = i then u else f j) := by
  obtain ⟨cs, h1, h2, h3⟩ := h
  refine ⟨cs.setIfInBounds i (.int kd (u : Int)), ?_, by simpa using h2, fun j hj => ?_⟩
  · simp [World.setCell, Array.getElem?_modify, h1]
  · by_cases hji : j = i
    · subst hji; simp [Array.getElem?_setIfInBounds_self, h2, hj]
    · rw [Array.getElem?_setIfInBounds_ne (Ne.symm hji), h3 j hj]; simp [hji]
theorem ArrK.setI (h : ArrK kd w b n E f) (i : Nat) (e : Int) (u : Nat) (he : e = (u : Int)) : ArrK kd (w.setCell ⟨b, i, none⟩ (.int kd e)) b n E (fun j => if j = i then u else f j) := by
  subst he; exact h.set i u
theorem ArrK.other {p : Addr} (h : ArrK kd w b n E f) (hp : b ≠ p.block) (u : Value) : ArrK kd (w.setCell p u) b n E f := by
  obtain ⟨cs, h1, h2⟩ := h
  exact ⟨cs, (Below.heap_setCell w p u b hp).trans h1, h2⟩
theorem ArrK.row (h : ArrK kd w b n E f) : ∃ cs, w.heap[b]? = some (.cells cs E (0, 0)) := by
  obtain ⟨cs, h1, _⟩ := h
  exact ⟨cs, h1⟩
end
theorem wpList_makeK {P : Program} (kd : IntKind) (bb : Nat) (w : World) {ops : Array Oper} {rest : List Oper} {o : Oper} {a : Act} {Q : Exit → Act → World → Prop}
    (hg : o.guard = none) (l c : Operand) (t : TypeId) (hop : o.op = Op.makeSlice t l c)
    (e : TypeId) (h1 : P.underlying t = some (.slice e)) (hinfo : (P.info? e).map (fun i => (i.zero, i.size, i.bytes)) = some (some (.int kd 0), 1, bb)) (hbb : bb ≤ 8)
    (L C : Int) (hl : a.eval l = .int .i64 L) (hc : a.eval c = .int .i64 C) (n : Nat) (hL : L = (n : Int)) (hC : C = (n : Int)) (hn : n ≤ 4398046511104)
    (hK : ∀ w', ArrK kd w' w.heap.size n e (fun _ => 0) → Ext w w' → wpList P ops Q rest (a.put o.dst (.slice (some ⟨w.heap.size, 0, none⟩) n n)) w') :
    wpList P ops Q (o :: rest) a w := by
  obtain ⟨i0, hi, hz0, hz1, hz2⟩ := info_parts hinfo
  have hmul : n * bb ≤ n * 8 := Nat.mul_le_mul_left _ hbb
  have hmul2 : bb * n ≤ 8 * n := Nat.mul_le_mul_right _ hbb
  refine wpList_make_full w hg l c t hop w.heap.size e i0 _ 1 h1 hi hz0 hz1 .i64 .i64 L C n hl hc hL hC (by rw [hz2]; omega) (by unfold maxLen; omega) (Nat.le_refl _) ?_
  intro w' hown hgr
  refine hK w' ?_ (Ext.of_grown hgr)
  obtain ⟨hlen, hh⟩ := hown
  rcases hh with ⟨h, _⟩ | ⟨g, cap, cur, hv, _, hh, hcap, _, hsz, htake⟩
  · cases h
  · injection hv with e1 e2 e3
    injection e1 with e1
    injection e1 with e1
    subst e1 e3
    refine ⟨cur, hh, by omega, fun j hj => ?_⟩
    have : cur.toList = (madeCells (Value.int kd 0).cells (n * 1)).toList := by
      rw [← htake, List.take_of_length_le (by simp; omega)]
    rw [← Array.getElem?_toList, this]
    simp [madeCells, Value.cells, hj, Nat.mod_one]
end Go.Proofs.YtljncdcjkdgkeaaGreatDoor.Big

/- Lists of commands in memory. -/
import Derived.Test.YtnbmmgeoglfbdaaDoorSNum
set_option linter.unusedVariables false
set_option linter.unusedSimpArgs false
namespace Go.Proofs.YtnbmmgeoglfbdaaDoor.Sc
open Go.RowKit Go.Proofs.YtnbmmgeoglfbdaaDoor.Big

/-- a list of commands in memory -/
def CmdsV (w : World) (v : Value) (l : List Cmd) : Prop :=
  ∃ A c, v = .slice A l.length c ∧ l.length ≤ c ∧ c ≤ 9223372036854775807 ∧ (0 < l.length → ∃ b off, A = some ⟨b, off, none⟩ ∧ ∀ j x, l[j]? = some x → ∃ A' n' c', w.cell? ⟨b, off + j * 4, none⟩ = some (.int .u8 (x.kind : Int)) ∧
    w.cell? ⟨b, off + j * 4 + 1, none⟩ = some (.string (str x.name)) ∧ w.cell? ⟨b, off + j * 4 + 2, none⟩ = some (.slice A' n' c') ∧ w.cell? ⟨b, off + j * 4 + 3, none⟩ = some (.string (str x.text)) ∧ Row w (.slice A' n' c') (iV x.nums))
theorem CmdsV.ext {w w' : World} {v : Value} {l : List Cmd} (h : CmdsV w v l) (k : Ext w w') : CmdsV w' v l := by
  obtain ⟨A, c, rfl, h1, h2, h3⟩ := h
  refine ⟨A, c, rfl, h1, h2, fun hn => ?_⟩
  obtain ⟨b, off, rfl, hc⟩ := h3 hn
  refine ⟨b, off, rfl, fun j x hj => ?_⟩
  obtain ⟨A', n', c', g0, g1, g2, g3, g4⟩ := hc j x hj
  exact ⟨A', n', c', k.cell g0, k.cell g1, k.cell g2, k.cell g3, g4.ext k⟩
theorem CmdsV.nil (w : World) : CmdsV w (.slice none 0 0) [] := ⟨none, 0, rfl, by simp, by omega, fun h => absurd h (by simp)⟩
theorem CmdsV.inj {w : World} {A : Option Addr} {n c : Nat} {l : List Cmd} (h : CmdsV w (.slice A n c) l) : n = l.length ∧ l.length ≤ c ∧ c ≤ 9223372036854775807 ∧ (0 < l.length → ∃ b off, A = some ⟨b, off, none⟩ ∧ ∀ j x, l[j]? = some x → ∃ A' n' c', w.cell? ⟨b, off + j * 4, none⟩ = some (.int .u8 (x.kind : Int)) ∧
    w.cell? ⟨b, off + j * 4 + 1, none⟩ = some (.string (str x.name)) ∧ w.cell? ⟨b, off + j * 4 + 2, none⟩ = some (.slice A' n' c') ∧ w.cell? ⟨b, off + j * 4 + 3, none⟩ = some (.string (str x.text)) ∧ Row w (.slice A' n' c') (iV x.nums)) := by
  obtain ⟨A', c', e, h1⟩ := h
  injection e with a b c
  subst a b c
  exact ⟨rfl, h1⟩
theorem CmdsV.shape {w : World} {v : Value} {l : List Cmd} (h : CmdsV w v l) : ∃ A c, v = .slice A l.length c := by
  obtain ⟨A, c, rfl, _⟩ := h; exact ⟨A, c, rfl⟩
/-- commands with their slices of numbers, laid one after the other -/
def cells4 (p : Cmd × Value) : List Value := [.int .u8 (p.1.kind : Int), .string (str p.1.name), p.2, .string (str p.1.text)]
def flat (l : List (Cmd × Value)) : List Value := l.flatMap cells4
theorem flat_append (a b : List (Cmd × Value)) : flat (a ++ b) = flat a ++ flat b := by simp [flat]
theorem flat_len : ∀ l : List (Cmd × Value), (flat l).length = l.length * 4
  | [] => rfl
  | p :: r => by
    have h : flat (p :: r) = cells4 p ++ flat r := rfl
    rw [h, List.length_append, flat_len r, List.length_cons]
    simp [cells4]; omega
theorem flat_get : ∀ (l : List (Cmd × Value)) (j i : Nat) (p : Cmd × Value), l[j]? = some p → i < 4 → (flat l)[j * 4 + i]? = (cells4 p)[i]?
  | [], j, i, p, h, _ => by simp at h
  | q :: r, 0, i, p, h, hi => by
    have e : flat (q :: r) = cells4 q ++ flat r := rfl
    simp at h; subst h
    rw [e, Nat.zero_mul, Nat.zero_add, List.getElem?_append_left (by simp [cells4]; exact hi)]
  | q :: r, j + 1, i, p, h, hi => by
    have e : flat (q :: r) = cells4 q ++ flat r := rfl
    have hl : (cells4 q).length = 4 := rfl
    rw [e, List.getElem?_append_right (by rw [hl]; omega), hl, show (j + 1) * 4 + i - 4 = j * 4 + i by omega]
    exact flat_get r j i p (by simpa using h) hi
/-- a row of commands of the call's own -/
structure Coll (w0 w : World) (v : Value) (acc : List (Cmd × Value)) : Prop where
  own : w.ownsRow w0.heap.size 40 4 v acc.length (flat acc)
  rows : ∀ p ∈ acc, Row w p.2 (iV p.1.nums) ∧ TyI w p.2
theorem Coll.nil (w0 w : World) : Coll w0 w (.slice none 0 0) [] := ⟨World.ownsRow_nil _ _ _ _, fun p h => by cases h⟩
theorem Coll.ext {w0 w w' : World} {v : Value} {acc : List (Cmd × Value)} (h : Coll w0 w v acc) (k : Ext w w') : Coll w0 w' v acc := ⟨ownsRow_ext h.own k, fun p hp => ⟨(h.rows p hp).1.ext k, (h.rows p hp).2.ext k⟩⟩
theorem Coll.view {w0 w : World} {v : Value} {acc : List (Cmd × Value)} (h : Coll w0 w v acc) : CmdsV w v (acc.map (·.1)) := by
  obtain ⟨⟨h1, h2⟩, h3⟩ := h
  rcases h2 with ⟨rfl, h0⟩ | ⟨g, cap, cur, rfl, _, h5, h6, h7, h8, h9⟩
  · have : acc = [] := List.eq_nil_of_length_eq_zero h0
    subst this; exact CmdsV.nil w
  · refine ⟨_, cap, by rw [List.length_map], by rw [List.length_map]; exact h6, by unfold maxLen at h7; exact h7, fun _ => ⟨g, 0, rfl, fun j x hj => ?_⟩⟩
    rw [List.getElem?_map] at hj
    obtain ⟨p, hp, rfl⟩ := Option.map_eq_some_iff.1 hj
    have hrow := (h3 p (List.mem_of_getElem? hp)).1
    obtain ⟨A', c', hs⟩ := hrow.shape
    have hjl : j < acc.length := (List.getElem?_eq_some_iff.1 hp).1
    have key : ∀ i, i < 4 → w.cell? ⟨g, 0 + j * 4 + i, none⟩ = (cells4 p)[i]? := by
      intro i hi
      rw [show w.cell? ⟨g, 0 + j * 4 + i, none⟩ = cur[0 + j * 4 + i]? from cell_of_row w g _ cur _ (0, 0) h5, Nat.zero_add]
      have h10 : (cur.toList.take (acc.length * 4))[j * 4 + i]? = (flat acc)[j * 4 + i]? := by rw [h9]
      rw [List.getElem?_take, if_pos (by omega), flat_get acc j i p hp hi] at h10
      simpa using h10
    refine ⟨A', (iV p.1.nums).length, c', ?_, ?_, ?_, ?_, ?_⟩
    · have := key 0 (by omega); simpa [cells4] using this
    · exact key 1 (by omega)
    · have := key 2 (by omega); rw [← hs]; exact this
    · exact key 3 (by omega)
    · rw [← hs]; exact hrow
theorem infoCmd : (Tryd.prog.info? 40).map (fun i => (i.zero, i.size, i.bytes)) = some (some (.agg #[.int .u8 0, .string ⟨#[]⟩, .slice none 0 0, .string ⟨#[]⟩]), 4, 64) := by kernel_rfl
/-- a row of ints under an append to a row of commands -/
theorem int_grown {w w' : World} {v : Value} {base n : Nat} {xs : List Value} {u : Value} {ns : List Int} (hown : w.ownsRow base 40 4 v n xs) (hg : w.grownBy w' v.ownBlock) (h : Row w u (iV ns)) (ht : TyI w u) : Row w' u (iV ns) ∧ TyI w' u := by
  have key : ∀ a k c, u = .slice (some a) k c → w'.heap[a.block]? = w.heap[a.block]? := by
    intro a k c hu
    obtain ⟨cs, fr, hc⟩ := ht a k c hu
    refine hg.block _ ?_ ?_
    · rcases Nat.lt_or_ge a.block w.heap.size with h' | h'
      · exact h'
      · rw [Array.getElem?_eq_none h'] at hc; cases hc
    · intro e
      rcases hown.2 with ⟨hv, _⟩ | ⟨g, cap, cur, hv, _, h5, _⟩
      · rw [hv] at e; cases e
      · rw [hv] at e
        injection e with e
        rw [e, h5] at hc
        injection hc with hc
        injection hc with _ h2 _
        exact absurd h2 (by decide)
  refine ⟨?_, ?_⟩
  · obtain ⟨A, c, rfl, h1, h2, h3⟩ := h
    refine ⟨A, c, rfl, h1, h2, fun hn => ?_⟩
    obtain ⟨b, off, rfl, hc⟩ := h3 hn
    exact ⟨b, off, rfl, fun j x hj => (World.cell?_of_block (w := w) (w' := w') (a := ⟨b, off + j, none⟩) (show w'.heap[b]? = w.heap[b]? from key ⟨b, off, none⟩ _ _ rfl)).trans (hc j x hj)⟩
  · intro a k c hu
    obtain ⟨cs, fr, hc⟩ := ht a k c hu
    exact ⟨cs, fr, (key a k c hu).trans hc⟩
theorem Coll.push {w0 w w' : World} {v v' : Value} {acc : List (Cmd × Value)} {p : Cmd × Value} (h : Coll w0 w v acc) (hr : Row w p.2 (iV p.1.nums)) (ht : TyI w p.2) (ho : w'.ownsRow w0.heap.size 40 4 v' (acc.length + 1) (flat acc ++ cells4 p)) (hg : w.grownBy w' v.ownBlock) : Coll w0 w' v' (acc ++ [p]) := by
  refine ⟨?_, ?_⟩
  · rw [List.length_append, List.length_singleton, flat_append]
    have : flat [p] = cells4 p := by simp [flat]
    rw [this]; exact ho
  · intro q hq
    rw [List.mem_append, List.mem_singleton] at hq
    rcases hq with hq | rfl
    · exact int_grown h.own hg (h.rows q hq).1 (h.rows q hq).2
    · exact int_grown h.own hg hr ht
end Go.Proofs.YtnbmmgeoglfbdaaDoor.Sc

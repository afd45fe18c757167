/- Two lists of commands, one behind the other. -/
import Derived.Test.YtnbmmgeoglfbdaaDoorSLaws
import Derived.Test.YtnbmmgeoglfbdaaDoorLSErrors
import Derived.Laws.AppendOwnNone
import Derived.Deep.AppendLies
set_option linter.unusedVariables false
set_option linter.unusedSimpArgs false
namespace Go.Proofs.YtnbmmgeoglfbdaaDoor.Sc
open Go.RowKit Go.Proofs.YtnbmmgeoglfbdaaDoor.Big

/-- the cells of a list of commands in memory, one after the other -/
theorem CmdsV.flat {w : World} {A : Option Addr} {n c : Nat} {l : List Cmd} (h : CmdsV w (.slice A n c) l) : ∃ acc : List (Cmd × Value), acc.map Prod.fst = l ∧ (∀ p ∈ acc, Row w p.2 (iV p.1.nums)) ∧ ∀ b off, A = some ⟨b, off, none⟩ → ∀ j u, (flat acc)[j]? = some u → w.cell? ⟨b, off + j, none⟩ = some u := by
  obtain ⟨h0, h1, h2, h3⟩ := h.inj
  by_cases hl : l = []
  · subst hl
    exact ⟨[], rfl, (fun p hp => by cases hp), fun b off _ j u hj => by simp [Sc.flat] at hj⟩
  · obtain ⟨b, off, rfl, hc⟩ := h3 (List.length_pos_iff.2 hl)
    have each : ∀ j, ∃ v : Value, ∀ x, l[j]? = some x → w.cell? ⟨b, off + j * 4, none⟩ = some (.int .u8 (x.kind : Int)) ∧ w.cell? ⟨b, off + j * 4 + 1, none⟩ = some (.string (str x.name)) ∧ w.cell? ⟨b, off + j * 4 + 2, none⟩ = some v ∧ w.cell? ⟨b, off + j * 4 + 3, none⟩ = some (.string (str x.text)) ∧ Row w v (iV x.nums) := by
      intro j
      by_cases hj : j < l.length
      · obtain ⟨A', n', c', g0, g1, g2, g3, g4⟩ := hc j l[j] (List.getElem?_eq_getElem hj)
        refine ⟨.slice A' n' c', fun x hx => ?_⟩
        rw [List.getElem?_eq_getElem hj] at hx
        injection hx with hx
        subst hx
        exact ⟨g0, g1, g2, g3, g4⟩
      · exact ⟨.nilIface, fun x hx => by rw [List.getElem?_eq_none (by omega)] at hx; cases hx⟩
    obtain ⟨f, hf⟩ := Classical.axiomOfChoice each
    obtain ⟨acc, hacc⟩ : ∃ acc : List (Cmd × Value), acc = (List.range l.length).map fun j => (l.getD j ⟨0, [], [], []⟩, f j) := ⟨_, rfl⟩
    have hal : acc.length = l.length := by rw [hacc]; simp
    have hget : ∀ j, j < l.length → ∃ x, l[j]? = some x ∧ acc[j]? = some (x, f j) := by
      intro j hj
      refine ⟨l[j], List.getElem?_eq_getElem hj, ?_⟩
      rw [hacc, List.getElem?_map, List.getElem?_range hj]
      simp [List.getD, hj]
    refine ⟨acc, ?_, ?_, ?_⟩
    · apply List.ext_getElem?
      intro j
      rw [List.getElem?_map]
      by_cases hj : j < l.length
      · obtain ⟨x, h5, h6⟩ := hget j hj
        rw [h5, h6]; rfl
      · rw [List.getElem?_eq_none (by omega), List.getElem?_eq_none (by omega)]; rfl
    · intro p hp
      obtain ⟨j, hj⟩ := List.mem_iff_getElem?.1 hp
      have hjl : j < l.length := by have := (List.getElem?_eq_some_iff.1 hj).1; omega
      obtain ⟨x, h5, h6⟩ := hget j hjl
      rw [h6] at hj
      injection hj with hj
      subst hj
      exact (hf j x h5).2.2.2.2
    · intro b' off' e j u hj
      injection e with e
      injection e with e1 e2
      subst e1 e2
      have hjl : j < (Sc.flat acc).length := (List.getElem?_eq_some_iff.1 hj).1
      rw [flat_len] at hjl
      obtain ⟨x, h5, h6⟩ := hget (j / 4) (by omega)
      have h7 := flat_get acc (j / 4) (j % 4) _ h6 (Nat.mod_lt _ (by omega))
      rw [Nat.mul_comm, Nat.div_add_mod] at h7
      rw [h7] at hj
      obtain ⟨g0, g1, g2, g3, _⟩ := hf (j / 4) x h5
      have hj4 : j = j / 4 * 4 + j % 4 := by omega
      have hm4 := Nat.mod_lt j (show 0 < 4 by omega)
      rw [show off + j = off + j / 4 * 4 + j % 4 by omega]
      match j % 4, hm4, hj with
      | 0, _, hj => simp [cells4] at hj; subst hj; exact g0
      | 1, _, hj => simp [cells4] at hj; subst hj; exact g1
      | 2, _, hj => simp [cells4] at hj; subst hj; exact g2
      | 3, _, hj => simp [cells4] at hj; subst hj; exact g3
/-- a row of commands of the call's own, over rows of numbers that lay before -/
theorem view_of {w0 w : World} {v : Value} {acc : List (Cmd × Value)} (ho : w.ownsRow w0.heap.size 40 4 v acc.length (flat acc)) (hr : ∀ p ∈ acc, Row w p.2 (iV p.1.nums)) : CmdsV w v (acc.map Prod.fst) := by
  obtain ⟨h1, h2⟩ := ho
  rcases h2 with ⟨rfl, h0⟩ | ⟨g, cap, cur, rfl, _, h5, h6, h7, h8, h9⟩
  · have : acc = [] := List.eq_nil_of_length_eq_zero h0
    subst this; exact CmdsV.nil w
  · refine ⟨_, cap, by rw [List.length_map], by rw [List.length_map]; exact h6, by unfold maxLen at h7; exact h7, fun _ => ⟨g, 0, rfl, fun j x hj => ?_⟩⟩
    rw [List.getElem?_map] at hj
    obtain ⟨p, hp, rfl⟩ := Option.map_eq_some_iff.1 hj
    have hrow := hr p (List.mem_of_getElem? hp)
    obtain ⟨A', c', hs⟩ := hrow.shape
    have hjl : j < acc.length := (List.getElem?_eq_some_iff.1 hp).1
    have key : ∀ i, i < 4 → w.cell? ⟨g, 0 + j * 4 + i, none⟩ = (cells4 p)[i]? := by
      intro i hi
      rw [show w.cell? ⟨g, 0 + j * 4 + i, none⟩ = cur[0 + j * 4 + i]? from cell_of_row w g _ cur _ (0, 0) h5, Nat.zero_add]
      have h10 : (cur.toList.take (acc.length * 4))[j * 4 + i]? = (flat acc)[j * 4 + i]? := by rw [h9]
      rw [List.getElem?_take, if_pos (by omega), flat_get acc j i p hp hi] at h10
      simpa using h10
    refine ⟨A', (iV p.1.nums).length, c', ?_, ?_, ?_, ?_, ?_⟩
    · have := key 0 (by omega); simpa [cells4] using this
    · exact key 1 (by omega)
    · have := key 2 (by omega); rw [← hs]; exact this
    · exact key 3 (by omega)
    · rw [← hs]; exact hrow
theorem flat_one : ∀ (acc : List (Cmd × Value)), (∀ p ∈ acc, ∃ A n c, p.2 = .slice A n c) → ∀ u ∈ flat acc, u.oneCell' = true
  | [], _, u, hu => by simp [flat] at hu
  | p :: r, h, u, hu => by
    have e : flat (p :: r) = cells4 p ++ flat r := rfl
    rw [e, List.mem_append] at hu
    rcases hu with hu | hu
    · obtain ⟨A, n, c, hp⟩ := h p (by simp)
      simp only [cells4, List.mem_cons, List.not_mem_nil, or_false] at hu
      rcases hu with rfl | rfl | rfl | rfl
      · rfl
      · rfl
      · rw [hp]; rfl
      · rfl
    · exact flat_one r (fun q hq => h q (by simp [hq])) u hu
theorem CmdsV.flatS {w : World} {ad : Addr} {n c : Nat} {l : List Cmd} (h : CmdsV w (.slice (some ad) n c) l) : ∃ acc : List (Cmd × Value), acc.map Prod.fst = l ∧ (∀ p ∈ acc, Row w p.2 (iV p.1.nums)) ∧ ∀ j u, (Sc.flat acc)[j]? = some u → w.cell? (ad.add j) = some u := by
  obtain ⟨acc, h1, h2, h3⟩ := h.flat
  refine ⟨acc, h1, h2, fun j u hj => ?_⟩
  have hl : 0 < l.length := by
    have := (List.getElem?_eq_some_iff.1 hj).1
    rw [flat_len] at this
    rw [← h1, List.length_map]; omega
  obtain ⟨b, off, e, _⟩ := h.inj.2.2.2 hl
  injection e with e
  subst e
  rw [show (⟨b, off, none⟩ : Addr).add j = ⟨b, off + j, none⟩ by unfold Addr.add; split <;> simp_all]
  exact h3 b off rfl j u hj
theorem rows_one {w : World} {acc : List (Cmd × Value)} (h : ∀ p ∈ acc, Row w p.2 (iV p.1.nums)) : ∀ u ∈ Sc.flat acc, u.oneCell' = true := flat_one acc (fun p hp => by
  obtain ⟨A, c, hs⟩ := (h p hp).shape
  exact ⟨_, _, _, hs⟩)
theorem mild_append {a b : List Cmd} (ha : Mild a) (hb : Mild b) : Mild (a ++ b) := fun c hc => by
  rw [List.mem_append] at hc
  rcases hc with hc | hc
  · exact ha c hc
  · exact hb c hc
theorem in_append {a b : List Cmd} (ha : AllIn a) (hb : AllIn b) : AllIn (a ++ b) := fun c hc => by
  rw [List.mem_append] at hc
  rcases hc with hc | hc
  · exact ha c hc
  · exact hb c hc
theorem validL_append (a b : List Cmd) (ha : a.length ≤ 40) (hb : b.length ≤ 40) : validL (a ++ b) = (validL a && validL b) := by
  unfold validL
  rw [List.all_append, List.length_append, decide_eq_true (show a.length + b.length ≤ 1000 by omega), decide_eq_true (show a.length ≤ 1000 by omega), decide_eq_true (show b.length ≤ 1000 by omega)]
  simp
/-- an empty row of the call's own -/
theorem owns_empty (w : World) : (w.alloc (.cells #[] 40)).ownsRow w.heap.size 40 4 (.slice (some ⟨w.heap.size, 0, none⟩) 0 0) 0 [] :=
  ⟨rfl, .inr ⟨w.heap.size, 0, #[], rfl, Nat.le_refl _, heap_alloc_new w _, Nat.le_refl _, Nat.zero_le _, rfl, rfl⟩⟩
theorem str_append (a b : BL) : str a ++ str b = str (a ++ b) := by
  have h : (str a ++ str b).data.toList = a ++ b := by rw [ByteArray.data_append]; simp [str]
  rw [← h, str_of]
theorem view2 {w5 w : World} {v : Value} {n : Nat} {xs : List Value} {acca accb : List (Cmd × Value)} {a b : List Cmd} (ho : w.ownsRow w5.heap.size 40 4 v n xs) (hn : n = a.length + b.length) (hxs : xs = flat acca ++ flat accb) (hma : acca.map Prod.fst = a) (hmb : accb.map Prod.fst = b)
    (hra : ∀ p ∈ acca, Row w5 p.2 (iV p.1.nums)) (hrb : ∀ p ∈ accb, Row w5 p.2 (iV p.1.nums)) (hx : Ext w5 w) : CmdsV w v (a ++ b) := by
  subst hma hmb
  rw [← List.map_append]
  refine view_of (w0 := w5) ?_ ?_
  · rw [flat_append, ← hxs, List.length_append]
    simp only [List.length_map] at hn
    rw [← hn]; exact ho
  · intro p hp
    rw [List.mem_append] at hp
    rcases hp with hp | hp
    · exact (hra p hp).ext hx
    · exact (hrb p hp).ext hx
end Go.Proofs.YtnbmmgeoglfbdaaDoor.Sc

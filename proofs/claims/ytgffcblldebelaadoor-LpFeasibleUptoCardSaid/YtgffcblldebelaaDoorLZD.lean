/- Walk: Best of the reference of LpSmall. -/
import Derived.Test.YtgffcblldebelaaDoorLZC
set_option linter.unusedVariables false
set_option linter.unusedSimpArgs false
namespace Go.Proofs.YtgffcblldebelaaDoor.Lp
open Go.RowKit Go.Proofs.YtgffcblldebelaaDoor.Big Go.Proofs.YtgffcblldebelaaDoor.Rt

theorem infoInt : (Tryd.prog.info? 3).map (fun i => (i.zero, i.size, i.bytes)) = some (some (.int .i64 0), 1, 8) := by kernel_rfl
theorem PickV.ofK {w : World} {b n : Nat} (h : ArrK .i64 w b n 3 (fun _ => 0)) : PickV w b n (fun _ => 0) := by
  obtain ⟨cs, h1, h2, h3⟩ := h
  exact ⟨cs, h1, by omega, h3⟩
theorem picksF_step (f : Nat) (q : List Nat) (N : Nat) : picksF (f + 1) q N = q :: (match nextP q N with | none => [] | some r => picksF f r N) := rfl
/-- how far the picks are gone through -/
def Prog (p : RP) (N f : Nat) (q : List Nat) (s : Int × Int × Bool) : Prop := ∃ l0 : List (List Nat), p.all = l0 ++ picksF f q N ∧ l0.length + f = 60 ∧ s = l0.foldl p.step (0, 1, false)
def BestPost (w : World) (p : RP) (e : Ending) (w' : World) : Prop := e = .returned (.tuple #[.int .i64 (p.best p.all).1, .int .i64 (p.best p.all).2.1, .bool (p.best p.all).2.2]) ∧ Ext w w'
/-- the numbers that are met -/
theorem RP.step_in {p : RP} (hs : p.Sm) {s : Int × Int × Bool} {q : List Nat} {C : Int} (hA : inC 1296000 (meetA p.left q)) (hX : ∀ i, inC 1296000 ((meetX p.left p.rhs q).getD i 0)) (hl : (meetX p.left p.rhs q).length ≤ 3) (h : inC 240000000 s.1 ∧ 0 ≤ s.2.1 ∧ s.2.1 ≤ 1296000) : inC 240000000 (p.step s q).1 ∧ 0 ≤ (p.step s q).2.1 ∧ (p.step s q).2.1 ≤ 1296000 := by
  unfold RP.step
  split
  · next hq =>
    split
    · refine ⟨?_, Int.le_of_lt hq.1, hA.2⟩
      show inC 240000000 (dotI p.obj (meetX p.left p.rhs q))
      unfold dotI
      have h5 := smI_le (n := min p.obj.length (meetX p.left p.rhs q).length) (C := 60 * 1296000) (by omega) (f := fun i => p.obj.getD i 0 * (meetX p.left p.rhs q).getD i 0) (fun j _ => abs_mul (hs.obj j) (hX j) (by omega))
      have h7 : ((min p.obj.length (meetX p.left p.rhs q).length : Nat) : Int) ≤ 3 := by omega
      have h8 := Int.mul_le_mul_of_nonneg_right h7 (show (0 : Int) ≤ 60 * 1296000 by omega)
      unfold inC; omega
    · exact h
  · exact h
theorem rowsD {p : RP} {i : Nat} (hi : i < p.rows.length) : p.rows.getD i ⟨[], 0, 0⟩ = p.rows[i] := by rw [List.getD_eq_getElem?_getD, List.getElem?_eq_getElem hi]; rfl
theorem RP.left_in {p : RP} (hs : p.Sm) (i k : Nat) : inC 60 ((p.left.getD i []).getD k 0) := by
  by_cases hi : i < p.rows.length
  · rw [p.left_row hi, rowsD hi]
    exact (hs.row _ (List.getElem_mem hi)).2.1 k
  · by_cases h2 : i < p.rows.length + p.obj.length
    · obtain ⟨j, rfl⟩ : ∃ j, i = p.rows.length + j := ⟨i - p.rows.length, by omega⟩
      rw [p.left_unit (by omega)]
      by_cases hk : k < p.obj.length
      · rw [unitI_get hk]; unfold inC; split <;> omega
      · rw [List.getD_eq_getElem?_getD, List.getElem?_eq_none (by rw [unitI_len]; omega)]
        show inC 60 0
        unfold inC; omega
    · have e : p.left.getD i [] = [] := by rw [List.getD_eq_getElem?_getD, List.getElem?_eq_none (by rw [left_length]; omega)]; rfl
      rw [e]
      show inC 60 0
      unfold inC; omega
theorem RP.rhs_in {p : RP} (hs : p.Sm) (i : Nat) : inC 60 (p.rhs.getD i 0) := by
  by_cases hi : i < p.rows.length
  · rw [p.rhs_row hi, rowsD hi]
    exact (hs.row _ (List.getElem_mem hi)).1
  · by_cases h2 : i < p.rows.length + p.obj.length
    · obtain ⟨j, rfl⟩ : ∃ j, i = p.rows.length + j := ⟨i - p.rows.length, by omega⟩
      rw [p.rhs_unit]
      unfold inC; omega
    · have e : p.rhs.getD i 0 = 0 := by rw [List.getD_eq_getElem?_getD, List.getElem?_eq_none (by rw [rhs_length]; omega)]; rfl
      rw [e]
      unfold inC; omega
theorem RP.meet_in {p : RP} {M : Nat} (h : p.ok M) (hM : M ≤ 5) (hs : p.Sm) {q : List Nat} (hq : q ∈ p.all) : inC 1296000 (meetA p.left q) ∧ (∀ i, inC 1296000 ((meetX p.left p.rhs q).getD i 0)) ∧ (meetX p.left p.rhs q).length ≤ 3 := by
  obtain ⟨hl, hi⟩ := picks_mem h.n1 h.n3 (by omega) (by have := h.m5; have := h.n3; omega) hq
  have h3 := h.n3
  have hdB : dB q.length ≤ 1296000 := by
    have h1 := h.n1
    rcases (show q.length = 1 ∨ q.length = 2 ∨ q.length = 3 by omega) with e | e | e <;> rw [e] <;> decide
  have hlb := RP.left_in hs
  have hrb := RP.rhs_in hs
  have key : ∀ m : List (List Int), (∀ i k, inC 60 ((m.getD i []).getD k 0)) → inC 1296000 (detN q.length m) := fun m hm => by
    have := detN_in q.length m hm
    unfold inC at this ⊢; omega
  refine ⟨?_, fun j => ?_, by rw [meetX_len]; omega⟩
  · have h4 : inC 1296000 (meetD p.left q) := key _ (map_in (by omega) _ _ (fun i _ k => hlb _ k))
    unfold meetA
    unfold inC at h4 ⊢
    split <;> omega
  · by_cases hj : j < q.length
    · rw [meetX_get hj]
      have h4 : inC 1296000 (meetC p.left p.rhs q j) := by
        refine key _ (map_in (by omega) _ _ (fun i hi' k => ?_))
        have hlt : q.getD i 0 < p.rows.length + p.obj.length := hi _ (by rw [List.getD_eq_getElem?_getD, List.getElem?_eq_getElem hi']; exact List.getElem_mem hi')
        rw [set_get _ _ _ _ (by rw [RP.left_len h hlt]; omega)]
        split
        · exact hrb _
        · exact hlb _ k
      unfold inC at h4 ⊢
      split <;> omega
    · rw [List.getD_eq_getElem?_getD, List.getElem?_eq_none (by rw [meetX_len]; omega)]
      show inC 1296000 0
      unfold inC; omega
end Go.Proofs.YtgffcblldebelaaDoor.Lp

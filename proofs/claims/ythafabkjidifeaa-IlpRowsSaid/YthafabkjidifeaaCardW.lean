/- The problem among the arguments, of whatever length; the frame of a full statement of a law. -/
import Derived.Test.YthafabkjidifeaaCardI
import Derived.Test.YthafabkjidifeaaKF
set_option linter.unusedVariables false
set_option linter.unusedSimpArgs false
namespace Go.Proofs.Ythafabkjidifeaa.Big
open Go.ChangeShapes Go.WideShapes Go.ChangeAt Go.RowKit Go.Deep Go.Proofs.Ythafabkjidifeaa.Lp
section
variable {H : Type} {enc : TypeId × Value → H} {W : World} {base : Nat} {r : Reach} {b0 : Nat}
set_option maxRecDepth 100000 in
theorem irows_rowW {sp : Nat → Bool} {fuel : Nat} {v : Value} {y : DataW H × List MemPlace} (h : DataW.trod enc Try.prog W base sp true fuel 23 [v] = some y) :
    ∃ (A : Option Addr) (c : Nat) (rows : List IRow), v = .slice A rows.length c ∧ rows.length ≤ c ∧ c ≤ 9223372036854775807 ∧ (∀ x ∈ rows, IRow.okW x) ∧ (0 < rows.length → ∃ b off, A = some ⟨b, off, none⟩ ∧ ∀ j x, rows[j]? = some x → IRowAt W b (off + j * 3) x) := by
  rcases open_slice Try.underlying23 h with ⟨h1, _⟩ | ⟨a, len, cap, m, k, D, Pl, h1, _, h2, h3, h4, h5, h6⟩
  · injection h1 with h1
    exact ⟨none, 0, [], h1, by simp, by omega, (fun x hx => by cases hx), fun h => absurd h (by simp)⟩
  · injection h1 with h1
    subst h1
    have hm : len ≤ m := by rw [h4]; split <;> omega
    have hd : y.1 = .slice ((List.range len).map D) ((List.range (m - len)).map fun j => D (len + j)) := congrArg Prod.fst h5
    have each : ∀ i, ∃ x : IRow, i < len → ∃ A c, W.cell? (a.add (i * 3 + 0)) = some (.slice A x.coef.length c) ∧ W.cell? (a.add (i * 3 + 1)) = some (.int .u8 (x.rel : Int)) ∧ W.cell? (a.add (i * 3 + 2)) = some (.int .i32 x.right) ∧
        Lp.Row W (.slice A x.coef.length c) (wV x.coef) ∧ x.okW := by
      intro i
      by_cases hi : i < len
      · obtain ⟨cs', hcs, htr⟩ := h6 i (by omega)
        obtain ⟨v0, v1, v2, y0, y1, y2, fu, hD, c0, c1, c2, t0, t1, t2⟩ := irow_of hcs htr
        rw [rowCells, Go.Deep.add_add] at c0 c1 c2
        have hD : D i = .agg [y0.1, y1.1, y2.1] := hD
        obtain ⟨A', n', c', xs, q0, hrow, hin, hlen⟩ := i32s_row t0
        obtain ⟨z1, q1, r1, wf1⟩ := DataW.trod_int Try.underlying5 t1
        obtain ⟨z2, q2, r2, wf2⟩ := DataW.trod_int Try.underlying21 t2
        injection q1 with q1
        injection q2 with q2
        subst q0 q1 q2
        have hz1 := wf8 wf1
        have hz2 := wf32 wf2
        obtain ⟨hn', -⟩ := hrow.inj
        rw [wV_len] at hn'
        subst hn'
        exact ⟨⟨xs, z1.toNat, z2⟩, fun _ => ⟨A', c', c0, by rw [show ((z1.toNat : Nat) : Int) = z1 by omega]; exact c1, c2, hrow, hin, hz2, by show z1.toNat ≤ 255; omega⟩⟩
      · exact ⟨⟨[], 0, 0⟩, fun h => absurd h hi⟩
    obtain ⟨f, hf'⟩ := Classical.axiomOfChoice each
    refine ⟨some a, cap, (List.range len).map f, by simp, by simpa using h2, by unfold maxLen at h3; exact h3, ?_, fun hn => ?_⟩
    · intro x hx
      obtain ⟨i, hi, rfl⟩ := List.mem_map.1 hx
      obtain ⟨_, _, _, _, _, _, hb⟩ := hf' i (List.mem_range.1 hi)
      exact hb
    · simp at hn
      obtain ⟨b, off, spot⟩ := a
      obtain ⟨A', c', c0, _⟩ := hf' 0 hn
      have hspot : spot = none := by simpa [Addr.add] using World.cell?_spot c0
      subst hspot
      refine ⟨b, off, rfl, fun j x hj => ?_⟩
      have hjn : j < len := by simpa using (List.getElem?_eq_some_iff.1 hj).1
      rw [List.getElem?_map, List.getElem?_range hjn] at hj
      injection hj with hj
      subst hj
      obtain ⟨A1, c1, k0, k1, k2, k3, _⟩ := hf' j hjn
      have hadd : ∀ i, (⟨b, off, none⟩ : Addr).add i = ⟨b, off + i, none⟩ := fun i => by unfold Addr.add; split <;> simp_all
      rw [hadd] at k0 k1 k2
      exact ⟨A1, c1, k0, k1, k2, k3⟩
set_option maxRecDepth 100000 in
/-- the problem among the arguments -/
theorem open_ipW {v : Value} {d : DataW H} {p : List MemPlace} (hv : Value.okWide Try.prog W r b0 25 v) (h : DataW.Trod enc Try.prog W base (fun _ => true) true 25 v d p) :
    ∃ ip : IP, IPV W v ip ∧ ip.okW := by
  obtain ⟨v0, v1, v2, y0, y1, y2, n, rfl, rfl, rfl, t0, t1, t2⟩ := Go.Joins.open_agg3 Try.underlying25 (by kernel_rfl) proCells hv h
  obtain ⟨A, m, c, xs, rfl, hrow, hin, hlen⟩ := i32s_row t0
  obtain ⟨A', c', rows, rfl, r1, r2, r4, r5⟩ := irows_rowW t1
  obtain ⟨z, q, _, wf⟩ := DataW.trod_int Try.underlying5 t2
  injection q with q
  subst q
  have hz := wf8 wf
  obtain ⟨hn', -⟩ := hrow.inj
  rw [wV_len] at hn'
  subst hn'
  refine ⟨⟨xs, rows, z.toNat⟩, ⟨A, c, A', c', ?_, hrow, r1, r2, r5⟩, hin, by show z.toNat ≤ 255; omega, r4⟩
  show Value.agg _ = .agg #[_, _, .int .u8 ((z.toNat : Nat) : Int)]
  rw [show ((z.toNat : Nat) : Int) = z by omega]
end
end Go.Proofs.Ythafabkjidifeaa.Big

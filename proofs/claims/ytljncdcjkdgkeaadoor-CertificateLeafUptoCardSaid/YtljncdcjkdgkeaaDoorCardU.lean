/- Lists of small integers among the arguments, opened. -/
import Derived.Test.YtljncdcjkdgkeaaDoorCardP
import Derived.Test.YtljncdcjkdgkeaaDoorCBT
set_option linter.unusedVariables false
set_option linter.unusedSimpArgs false
namespace Go.Proofs.YtljncdcjkdgkeaaDoor.Big
open Go.ChangeShapes Go.WideShapes Go.ChangeAt Go.RowKit Go.Proofs.YtljncdcjkdgkeaaDoor.Lp

def kV (k : IntKind) (xs : List Int) : List Value := xs.map (Value.int k)
theorem kV_len (k : IntKind) (xs : List Int) : (kV k xs).length = xs.length := by simp [kV]
theorem kV_get {k : IntKind} {xs : List Int} {j : Nat} {x : Int} (h : xs[j]? = some x) : (kV k xs)[j]? = some (.int k x) := by simp [kV, h]
theorem wfi8 {n : Int} (h : (Lit.int .i8 n).wf = true) : -128 ≤ n ∧ n ≤ 127 := (Lit.wf_int_iff' .i8 n).1 h
section
variable {H : Type} {enc : TypeId × Value → H} {W : World} {base : Nat} {r : Reach} {b0 : Nat}
set_option maxRecDepth 100000 in
theorem u8s_row {sp : Nat → Bool} {hd : Bool} {v : Value} {d : DataW H} {p : List MemPlace} (hv : Value.okWide Tryd.prog W r b0 26 v) (h : DataW.Trod enc Tryd.prog W base sp hd 26 v d p) :
    ∃ A n c xs, v = .slice A n c ∧ Lp.Row W (.slice A n c) (kV .u8 xs) ∧ (∀ z ∈ xs, 0 ≤ z ∧ z ≤ 255) := by
  obtain ⟨A, n, c, rfl⟩ := okWide_slice Tryd.underlying26 hv
  obtain ⟨fuel, h⟩ := h
  rcases open_ints Tryd.underlying26 Tryd.underlying5 (by kernel_rfl) h with ⟨h1, _⟩ | ⟨a, len, cap, zs, h1, _, h2, h3, h4, h5, h6, h7⟩
  · have h1 : [Value.slice A n c] = [Value.slice none 0 0] := h1
    injection h1 with h1
    exact ⟨none, 0, 0, [], h1, Row.nil W none 0 (by omega), (fun z hz => by cases hz)⟩
  · have h1 : [Value.slice A n c] = [Value.slice (some a) len cap] := h1
    injection h1 with h1
    injection h1 with e1 e2 e3
    subst e1 e2 e3
    have hzl : n ≤ zs.length := by rw [h4]; split <;> omega
    refine ⟨some a, n, c, zs.take n, rfl, ?_, ?_⟩
    · refine ⟨some a, c, by rw [kV_len, List.length_take, Nat.min_eq_left hzl], by rw [kV_len, List.length_take]; omega, by unfold maxLen at h3; exact h3, fun hn => ?_⟩
      rw [kV_len, List.length_take] at hn
      obtain ⟨b, off, spot⟩ := a
      have hspot : spot = none := by simpa [Addr.add] using World.cell?_spot (h6 0 (by omega))
      subst hspot
      refine ⟨b, off, rfl, fun j u hj => ?_⟩
      have hjl : j < (kV .u8 (zs.take n)).length := (List.getElem?_eq_some_iff.1 hj).1
      rw [kV_len, List.length_take] at hjl
      have hc := h6 j (by omega)
      rw [show (⟨b, off, none⟩ : Addr).add j = ⟨b, off + j, none⟩ by simp [Addr.add]] at hc
      rw [hc]
      have h8 : (zs.take n)[j]? = some (zs.getD j 0) := by
        rw [List.getElem?_take, if_pos (by omega), List.getElem?_eq_getElem (by omega)]
        simp [List.getD, show j < zs.length by omega]
      rw [kV_get h8] at hj
      exact hj
    · intro z hz
      exact wf8 (h7 z (List.mem_of_mem_take hz))
theorem kV_nat {xs : List Int} (h : ∀ z ∈ xs, 0 ≤ z ∧ z ≤ 255) : kV .u8 xs = uV (xs.map Int.toNat) := by
  unfold kV uV
  rw [List.map_map]
  refine List.map_congr_left fun z hz => ?_
  show Value.int .u8 z = Value.int .u8 ((z.toNat : Nat) : Int)
  rw [Int.toNat_of_nonneg (h z hz).1]
theorem nat_8 {xs : List Int} (h : ∀ z ∈ xs, 0 ≤ z ∧ z ≤ 255) : ∀ d ∈ xs.map Int.toNat, d ≤ 255 := fun d hd => by
  obtain ⟨z, hz, rfl⟩ := List.mem_map.1 hd
  have := h z hz
  omega
end
end Go.Proofs.YtljncdcjkdgkeaaDoor.Big

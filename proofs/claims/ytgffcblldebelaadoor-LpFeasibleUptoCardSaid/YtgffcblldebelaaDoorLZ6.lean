/- Walk: the determinant of the reference of LpSmall. -/
import Derived.Test.YtgffcblldebelaaDoorLZ5
set_option linter.unusedVariables false
set_option linter.unusedSimpArgs false
namespace Go.Proofs.YtgffcblldebelaaDoor.Lp
open Go.RowKit Go.Proofs.YtgffcblldebelaaDoor.Big Go.Proofs.YtgffcblldebelaaDoor.Rt

/-- rows of integers -/
def Mat (w : World) (v : Value) (rows : List (List Int)) : Prop := ∃ us, RowE w 56 v us ∧ us.length = rows.length ∧ ∀ (j : Nat) (r : List Int), rows[j]? = some r → ∃ u, us[j]? = some u ∧ RowJ w u r
theorem Mat.fr {P : Nat → Prop} {w w' : World} {v : Value} {rows : List (List Int)} (h : Mat w v rows) (k : Fr P w w') (h1 : ∀ b cs, w.heap[b]? = some (.cells cs 56 (0, 0)) → ¬ P b) (h2 : ∀ b cs, w.heap[b]? = some (.cells cs 2 (0, 0)) → ¬ P b) : Mat w' v rows := by
  obtain ⟨us, g1, g2, g3⟩ := h
  exact ⟨us, g1.fr k h1, g2, fun j r hj => by obtain ⟨u, hu, hr⟩ := g3 j r hj; exact ⟨u, hu, hr.fr k h2⟩⟩
theorem Mat.ext {w w' : World} {v : Value} {rows : List (List Int)} (h : Mat w v rows) (k : Ext w w') : Mat w' v rows := h.fr (P := fun _ => False) (Fr.of k) (fun _ _ _ => id) (fun _ _ _ => id)
theorem Mat.inj {w : World} {A : Option Addr} {n c : Nat} {rows : List (List Int)} (h : Mat w (.slice A n c) rows) : n = rows.length ∧ n ≤ c ∧ c ≤ 9223372036854775807 ∧ (0 < n → ∃ b, A = some ⟨b, 0, none⟩ ∧ ∀ j, j < n → ∃ B d, w.cell? ⟨b, j, none⟩ = some (.slice B (rows.getD j []).length d) ∧ RowJ w (.slice B (rows.getD j []).length d) (rows.getD j [])) := by
  obtain ⟨us, g1, g2, g3⟩ := h
  obtain ⟨e, h1, h2, h3⟩ := RowE.inj g1
  rw [g2] at e h1
  subst e
  refine ⟨rfl, h1, h2, fun hn => ?_⟩
  obtain ⟨b, cs, e, hb, h4, h5⟩ := h3 (by omega)
  refine ⟨b, e, fun j hj => ?_⟩
  obtain ⟨u, hu, hr⟩ := g3 j _ (List.getElem?_eq_getElem hj)
  have e2 : rows.getD j [] = rows[j] := by rw [List.getD_eq_getElem?_getD, List.getElem?_eq_getElem hj]; rfl
  obtain ⟨B, d, rfl⟩ := hr.shape
  rw [e2]
  exact ⟨B, d, h5 j _ hu, hr⟩
/-- rows of the call's own, appended to -/
def OwnMat (w : World) (base : Nat) (v : Value) (m : Nat) (rows : List (List Int)) : Prop := ∃ us, OwnX w base 56 1 v m us ∧ us.length = rows.length ∧ ∀ (j : Nat) (r : List Int), rows[j]? = some r → ∃ u, us[j]? = some u ∧ RowJ w u r
theorem OwnMat.mat {w : World} {base : Nat} {v : Value} {m : Nat} {rows : List (List Int)} (h : OwnMat w base v m rows) : Mat w v rows := by
  obtain ⟨us, g1, g2, g3⟩ := h
  exact ⟨us, g1.rowE, g2, g3⟩
theorem OwnMat.ext {w w' : World} {base : Nat} {v : Value} {m : Nat} {rows : List (List Int)} (h : OwnMat w base v m rows) (k : Ext w w') : OwnMat w' base v m rows := by
  obtain ⟨us, g1, g2, g3⟩ := h
  exact ⟨us, g1.ext k, g2, fun j r hj => by obtain ⟨u, hu, hr⟩ := g3 j r hj; exact ⟨u, hu, hr.ext k⟩⟩
theorem OwnMat.nil (w : World) (base : Nat) : OwnMat w base (.slice none 0 0) 0 [] := ⟨[], OwnX.nil _ _ _ _, rfl, fun j r h => by simp at h⟩
theorem OwnMat.shape {w : World} {base : Nat} {v : Value} {m : Nat} {rows : List (List Int)} (h : OwnMat w base v m rows) : ∃ A c, v = .slice A m c := by
  obtain ⟨us, g1, -⟩ := h; exact g1.shape
theorem typ_ne {w : World} {base k n : Nat} {E F : TypeId} {v : Value} {xs : List Value} (o : OwnX w base E k v n xs) (hE : E ≠ F) : ∀ b cs, w.heap[b]? = some (.cells cs F (0, 0)) → ¬ v.ownBlock = some b := fun b cs hb e => by
  obtain ⟨-, -, cur, hcur⟩ := o.lt e
  rw [hcur] at hb
  injection hb with hb
  injection hb with _ hb
  exact hE hb
theorem OwnMat.push {w w' : World} {base : Nat} {v v' u : Value} {m : Nat} {rows : List (List Int)} {r : List Int} {us : List Value} (o : OwnX w base 56 1 v m us) (hl : us.length = rows.length) (h : ∀ (j : Nat) (r : List Int), rows[j]? = some r → ∃ u, us[j]? = some u ∧ RowJ w u r) (hr : RowJ w u r) (k : Fr (fun g => v.ownBlock = some g) w w') (o' : OwnX w' base 56 1 v' (m + 1) (us ++ [u])) : OwnMat w' base v' (m + 1) (rows ++ [r]) := by
  have hne := typ_ne o (show 56 ≠ 2 by decide)
  refine ⟨us ++ [u], o', by simp [hl], fun j s hj => ?_⟩
  rw [List.getElem?_append] at hj ⊢
  rw [hl]
  split at hj
  · next hlt =>
    rw [if_pos hlt]
    obtain ⟨u', h1, h2⟩ := h j s hj
    exact ⟨u', h1, h2.fr k hne⟩
  · next hlt =>
    rw [if_neg hlt]
    have hj0 : j - rows.length = 0 := by
      have := (List.getElem?_eq_some_iff.1 hj).1
      simp at this; omega
    rw [hj0] at hj ⊢
    have : r = s := by simpa using hj
    subst this
    exact ⟨u, rfl, hr.fr k hne⟩
theorem infoI64 : (Tryd.prog.info? 2).map (fun i => (i.zero, i.size, i.bytes)) = some (some (.int .i64 0), 1, 8) := by kernel_rfl
theorem infoRowI : (Tryd.prog.info? 56).map (fun i => (i.zero, i.size, i.bytes)) = some (some (.slice none 0 0), 1, 24) := by kernel_rfl
theorem zI64 : ∀ u ∈ (Value.int .i64 0).cells.toList, noU u = true := fun u hu => by
  simp [Value.cells] at hu; rw [hu]; rfl
theorem zSl : ∀ u ∈ (Value.slice none 0 0).cells.toList, noU u = true := fun u hu => by
  simp [Value.cells] at hu; rw [hu]; rfl
theorem new1J (w : World) (E : TypeId) (a : Value) : ∀ j y, [a][j]? = some y → (w.alloc (.cells #[a] E)).cell? ⟨w.heap.size, j, none⟩ = some y := by
  intro j y hj
  rw [(Box.new w E #[a]).cell j, ← hj]
  exact List.getElem?_toArray
theorem one1i {z : Int} : ∀ y ∈ [Value.int .i64 z], y.oneCell' = true := fun y hy => by rw [List.mem_singleton.1 hy]; rfl
theorem nou1i {z : Int} : ∀ y ∈ [Value.int .i64 z], noU y = true := fun y hy => by rw [List.mem_singleton.1 hy]; rfl
theorem one1s {A : Option Addr} {n c : Nat} : ∀ y ∈ [Value.slice A n c], y.oneCell' = true := fun y hy => by rw [List.mem_singleton.1 hy]; rfl
theorem nou1s {A : Option Addr} {n c : Nat} : ∀ y ∈ [Value.slice A n c], noU y = true := fun y hy => by rw [List.mem_singleton.1 hy]; rfl
theorem jV_push (xs : List Int) (z : Int) : jV xs ++ [Value.int .i64 z] = jV (xs ++ [z]) := by simp [jV]
/-! plain: the parts of a minor -/
def minorT (t : Nat) (r : List Int) (j : Nat) : List Int := ((List.range t).filter (fun i => i != j)).map (fun i => r.getD i 0)
theorem minorT_step (t : Nat) (r : List Int) (j : Nat) : minorT (t + 1) r j = if t = j then minorT t r j else minorT t r j ++ [r.getD t 0] := by
  unfold minorT
  rw [List.range_succ, List.filter_append, List.map_append]
  by_cases e : t = j
  · rw [if_pos e]; simp [e]
  · rw [if_neg e]; simp [e]
theorem minorR_T (k : Nat) (r : List Int) (j : Nat) : minorR k r j = minorT k r j := rfl
def minorM (n i : Nat) (m : List (List Int)) (j : Nat) : List (List Int) := (List.range i).map fun a => minorR n (m.getD (a + 1) []) j
theorem minorM_step (n i : Nat) (m : List (List Int)) (j : Nat) : minorM n (i + 1) m j = minorM n i m j ++ [minorR n (m.getD (i + 1) []) j] := by
  unfold minorM
  rw [List.range_succ, List.map_append]; rfl
def inC (C z : Int) : Prop := -C ≤ z ∧ z ≤ C
theorem minorR_mem {C : Int} {k : Nat} {r : List Int} {j : Nat} (h : ∀ i, inC C (r.getD i 0)) : ∀ i, inC C ((minorR k r j).getD i 0) := by
  intro i
  unfold minorR
  rw [List.getD_eq_getElem?_getD, List.getElem?_map]
  cases ((List.range k).filter (fun i => i != j))[i]? with
  | none => have := h r.length; unfold inC at this ⊢; rw [List.getD_eq_getElem?_getD, List.getElem?_eq_none (Nat.le_refl _)] at this; exact this
  | some a => exact h a
theorem minorR_len {k : Nat} (r : List Int) {j : Nat} (hj : j < k) : (minorR k r j).length = k - 1 := by
  unfold minorR
  rw [List.length_map]
  have key : ∀ n, ((List.range n).filter (fun i => i != j)).length = if j < n then n - 1 else n := by
    intro n
    induction n with
    | zero => rfl
    | succ n ih =>
      rw [List.range_succ, List.filter_append, List.length_append, ih]
      by_cases e : n = j
      · subst e; simp
      · have : ([n].filter (fun i => i != j)).length = 1 := by simp [e]
        rw [this]
        by_cases h : j < n
        · rw [if_pos h, if_pos (by omega)]; omega
        · rw [if_neg h, if_neg (by omega)]
  rw [key, if_pos hj]
def dB : Nat → Int
  | 0 => 1
  | n + 1 => (n + 1 : Nat) * (60 * dB n)
theorem sgI_cases (j : Nat) : sgI j = 1 ∨ sgI j = -1 := by unfold sgI; split <;> simp
theorem abs_mul {a b A B : Int} (ha : inC A a) (hb : inC B b) (hA : 0 ≤ A) : inC (A * B) (a * b) := by
  unfold inC at *
  have h1 := Int.mul_le_mul_of_nonneg_left (show b ≤ B by omega) hA
  have h2 := Int.mul_le_mul_of_nonneg_left (show -B ≤ b by omega) hA
  have hB : 0 ≤ B := by omega
  rw [Int.mul_neg] at h2
  rcases Int.le_total 0 b with h0 | h0
  · have h3 := Int.mul_le_mul_of_nonneg_right (show a ≤ A by omega) h0
    have h4 := Int.mul_le_mul_of_nonneg_right (show -A ≤ a by omega) h0
    rw [Int.neg_mul] at h4
    omega
  · have h3 := Int.mul_le_mul_of_nonpos_right (show a ≤ A by omega) h0
    have h4 := Int.mul_le_mul_of_nonpos_right (show -A ≤ a by omega) h0
    rw [Int.neg_mul] at h4
    omega
theorem dB_pos (n : Nat) : 0 ≤ dB n := by
  induction n with
  | zero => decide
  | succ n ih => unfold dB; exact Int.mul_nonneg (by omega) (by omega)
theorem sg_in (j : Nat) : inC 1 (sgI j) := by rcases sgI_cases j with e | e <;> rw [e] <;> unfold inC <;> omega
theorem term_in {j : Nat} {a d B : Int} (ha : inC 60 a) (hd : inC B d) : inC (60 * B) (sgI j * a * d) := by
  have := abs_mul (abs_mul (sg_in j) ha (by omega)) hd (by omega)
  rwa [Int.one_mul] at this
theorem detN_in : ∀ (n : Nat) (m : List (List Int)), (∀ i k, inC 60 ((m.getD i []).getD k 0)) → inC (dB n) (detN n m)
  | 0, _, _ => by unfold inC; show -(1 : Int) ≤ 1 ∧ (1 : Int) ≤ 1; omega
  | n + 1, m, h => by
    have := smI_le (n := n + 1) (C := 60 * dB n) (by have := dB_pos n; omega) (f := fun j => sgI j * (m.getD 0 []).getD j 0 * detN n (minor (n + 1) m j)) (fun j hj => term_in (h 0 j) (detN_in n _ fun i k => by
      unfold minor
      have e : ((List.range (n + 1 - 1)).map fun i => minorR (n + 1) (m.getD (i + 1) []) j).getD i [] = (((List.range (n + 1 - 1))[i]?).map fun i => minorR (n + 1) (m.getD (i + 1) []) j).getD [] := by rw [List.getD_eq_getElem?_getD, List.getElem?_map]
      rw [e]
      cases (List.range (n + 1 - 1))[i]? with
      | none => show inC 60 (([] : List Int).getD k 0); unfold inC; simp
      | some a => exact minorR_mem (fun i => h _ i) k))
    exact this
end Go.Proofs.YtgffcblldebelaaDoor.Lp

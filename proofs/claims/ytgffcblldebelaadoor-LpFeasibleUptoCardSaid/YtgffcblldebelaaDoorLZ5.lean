/- Memory of the reference of LpSmall: rows of integers, rows of rows; walk: dot. -/
import Derived.Test.YtgffcblldebelaaDoorLNB
import Derived.Test.YtgffcblldebelaaDoorLZ2
set_option linter.unusedVariables false
set_option linter.unusedSimpArgs false
namespace Go.Proofs.YtgffcblldebelaaDoor.Lp
open Go.RowKit Go.Proofs.YtgffcblldebelaaDoor.Big Go.Proofs.YtgffcblldebelaaDoor.Rt

/-- elements of one cell, a block of their own type, from its start on -/
def RowE (w : World) (E : TypeId) (v : Value) (us : List Value) : Prop :=
  ∃ A c, v = .slice A us.length c ∧ us.length ≤ c ∧ c ≤ 9223372036854775807 ∧ (0 < us.length → ∃ (b : Nat) (cs : Array Value), A = some ⟨b, 0, none⟩ ∧ w.heap[b]? = some (.cells cs E (0, 0)) ∧ us.length ≤ cs.size ∧ ∀ (j : Nat) (u : Value), us[j]? = some u → cs[j]? = some u)
section
variable {w w' : World} {E : TypeId} {v : Value} {us : List Value}
theorem RowE.fr {P : Nat → Prop} (h : RowE w E v us) (k : Fr P w w') (hP : ∀ b cs, w.heap[b]? = some (.cells cs E (0, 0)) → ¬ P b) : RowE w' E v us := by
  obtain ⟨A, c, rfl, h1, h2, h3⟩ := h
  refine ⟨A, c, rfl, h1, h2, fun hn => ?_⟩
  obtain ⟨b, cs, e, hb, h4, h5⟩ := h3 hn
  exact ⟨b, cs, e, k.row (hP b cs hb) hb, h4, h5⟩
theorem RowE.ext (h : RowE w E v us) (k : Ext w w') : RowE w' E v us := h.fr (P := fun _ => False) (Fr.of k) (fun _ _ _ => id)
theorem RowE.row (h : RowE w E v us) : Row w v us := by
  obtain ⟨A, c, rfl, h1, h2, h3⟩ := h
  refine ⟨A, c, rfl, h1, h2, fun hn => ?_⟩
  obtain ⟨b, cs, e, hb, h4, h5⟩ := h3 hn
  exact ⟨b, 0, e, fun j u hj => by rw [Nat.zero_add, cell_of_row w b j cs _ (0, 0) hb]; exact h5 j u hj⟩
theorem RowE.nil (w : World) (E : TypeId) : RowE w E (.slice none 0 0) [] := ⟨none, 0, rfl, Nat.le_refl _, by omega, fun h => absurd h (by simp)⟩
theorem RowE.inj {A : Option Addr} {n c : Nat} (h : RowE w E (.slice A n c) us) : n = us.length ∧ us.length ≤ c ∧ c ≤ 9223372036854775807 ∧ (0 < us.length → ∃ (b : Nat) (cs : Array Value), A = some ⟨b, 0, none⟩ ∧ w.heap[b]? = some (.cells cs E (0, 0)) ∧ us.length ≤ cs.size ∧ ∀ (j : Nat) (u : Value), us[j]? = some u → w.cell? ⟨b, j, none⟩ = some u) := by
  obtain ⟨A', c', e, h1, h2, h3⟩ := h
  injection e with a b c
  subst a b c
  refine ⟨rfl, h1, h2, fun hn => ?_⟩
  obtain ⟨b, cs, e, hb, h4, h5⟩ := h3 hn
  exact ⟨b, cs, e, hb, h4, fun j u hj => by rw [cell_of_row w b j cs _ (0, 0) hb]; exact h5 j u hj⟩
theorem OwnX.rowE {base n : Nat} {xs : List Value} (h : OwnX w base E 1 v n xs) : RowE w E v xs := by
  have hl : xs.length = n := by rw [h.1, Nat.mul_one]
  rcases h.2 with ⟨rfl, rfl⟩ | ⟨g, cap, cur, rfl, _, h5, h6, h7, h8, h9, _⟩
  · have : xs = [] := List.eq_nil_of_length_eq_zero hl
    subst this
    exact RowE.nil w E
  · refine ⟨some ⟨g, 0, none⟩, cap, by rw [hl], by omega, by unfold maxLen at h7; exact h7, fun _ => ⟨g, cur, rfl, h5, by omega, fun j u hj => ?_⟩⟩
    rw [← h9, List.getElem?_take] at hj
    split at hj
    · rw [← Array.getElem?_toList]; exact hj
    · cases hj
end
def jV (xs : List Int) : List Value := xs.map (Value.int .i64)
theorem jV_get {xs : List Int} {j : Nat} {x : Int} (h : xs[j]? = some x) : (jV xs)[j]? = some (.int .i64 x) := by simp [jV, h]
theorem jV_at {xs : List Int} {j : Nat} (h : j < xs.length) : (jV xs)[j]? = some (.int .i64 (xs.getD j 0)) := by
  rw [jV_get (List.getElem?_eq_getElem h), List.getD_eq_getElem?_getD, List.getElem?_eq_getElem h]; rfl
theorem jV_len (xs : List Int) : (jV xs).length = xs.length := by simp [jV]
abbrev RowJ (w : World) (v : Value) (xs : List Int) : Prop := RowE w 2 v (jV xs)
theorem RowJ.shape {w : World} {v : Value} {xs : List Int} (h : RowJ w v xs) : ∃ A c, v = .slice A xs.length c := by
  obtain ⟨A, c, rfl, _⟩ := h; exact ⟨A, c, by rw [jV_len]⟩
theorem RowJ.inj {w : World} {A : Option Addr} {n c : Nat} {xs : List Int} (h : RowJ w (.slice A n c) xs) : n = xs.length ∧ n ≤ c ∧ c ≤ 9223372036854775807 ∧ (0 < n → ∃ b, A = some ⟨b, 0, none⟩ ∧ (∃ cs, w.heap[b]? = some (.cells cs 2 (0, 0)) ∧ n ≤ cs.size) ∧ ∀ j, j < n → w.cell? ⟨b, j, none⟩ = some (.int .i64 (xs.getD j 0))) := by
  obtain ⟨e, h1, h2, h3⟩ := RowE.inj h
  rw [jV_len] at e h1 h3
  subst e
  refine ⟨rfl, h1, h2, fun hn => ?_⟩
  obtain ⟨b, cs, e, hb, h4, h5⟩ := h3 hn
  exact ⟨b, e, ⟨cs, hb, h4⟩, fun j hj => h5 j _ (jV_at hj)⟩
def in60 (z : Int) : Prop := -1152921504606846976 ≤ z ∧ z ≤ 1152921504606846976
theorem smI_le {C : Int} (hC : 0 ≤ C) {n : Nat} {f : Nat → Int} (h : ∀ j, j < n → -C ≤ f j ∧ f j ≤ C) : -(n * C) ≤ smI n f ∧ smI n f ≤ n * C := by
  induction n with
  | zero => show -((0 : Nat) * C : Int) ≤ 0 ∧ 0 ≤ ((0 : Nat) * C : Int); simp
  | succ n ih =>
    have h1 := ih (fun j hj => h j (by omega))
    have h2 := h n (by omega)
    show -(((n + 1 : Nat) : Int) * C) ≤ smI n f + f n ∧ smI n f + f n ≤ ((n + 1 : Nat) : Int) * C
    have e : (((n + 1 : Nat) : Int) * C) = n * C + C := by push_cast; rw [Int.add_mul, Int.one_mul]
    omega
set_option maxHeartbeats 4000000 in
theorem rdot_b (A B : Option Addr) (n c m d : Nat) (xs ys : List Int) (C : Int) (w : World) (ha : RowJ w (.slice A n c) xs) (hb : RowJ w (.slice B m d) ys) (hC : ∀ j, j < n → j < m → -C ≤ xs.getD j 0 * ys.getD j 0 ∧ xs.getD j 0 * ys.getD j 0 ≤ C) (hC0 : 0 ≤ C) (hC2 : C ≤ 1152921504606846976) (hn : n ≤ 4 ∨ m ≤ 4) :
    Calls Tryd.prog 64 #[.slice A n c, .slice B m d] w (ValPost w (.int .i64 (dotI xs ys))) := by
  obtain ⟨e1, h1, h2, h3⟩ := ha.inj
  obtain ⟨e2, g1, g2, g3⟩ := hb.inj
  have HD : Hid (dotI xs ys = smI (min n m) (fun i => xs.getD i 0 * ys.getD i 0)) := Lib.hid (by rw [e1, e2]; rfl)
  have HC := Lib.hid hC
  have HB : Hid (∀ k, k ≤ n → k ≤ m → -4611686018427387904 ≤ smI k (fun i => xs.getD i 0 * ys.getD i 0) ∧ smI k (fun i => xs.getD i 0 * ys.getD i 0) ≤ 4611686018427387904) := Lib.hid (fun k hk hm => by
    have h := smI_le (n := k) hC0 (f := fun i => xs.getD i 0 * ys.getD i 0) (fun j hj => hC j (by omega) (by omega))
    have h4 : (k : Int) * C ≤ 4 * C := Int.mul_le_mul_of_nonneg_right (by omega) hC0
    omega)
  clear e1 e2 hC
  go_enter Tryd.func64, Tryd.ntmps64
  go_wp2_with fail
  go_loopw [5, 6] (fun s i wr => ∃ k : Nat, k ≤ n ∧ k ≤ m ∧ i = .int .i64 k ∧ s = .int .i64 (smI k (fun i => xs.getD i 0 * ys.getD i 0)) ∧ Ext w wr) (fun _ i _ => n - (intOf i).toNat)
  case atStart => exact ⟨0, by omega, by omega, rfl, rfl, Ext.refl w⟩
  case round =>
    obtain ⟨k, hk, hkm, rfl, rfl, hx⟩ := hrel
    by_cases hlt : k < n
    · by_cases hlm : k < m
      · obtain ⟨ba, rfl, -, ca⟩ := h3 (by omega)
        obtain ⟨bb, rfl, -, cb⟩ := g3 (by omega)
        have a0 := hx.cell (ca k hlt)
        have b0 := hx.cell (cb k hlm)
        have hS := HB.out k (by omega) (by omega)
        have hS2 := HB.out (k + 1) (by omega) (by omega)
        have hCC := HC.out k hlt hlm
        have HS : Hid (smI (k + 1) (fun i => xs.getD i 0 * ys.getD i 0) = smI k (fun i => xs.getD i 0 * ys.getD i 0) + xs.getD k 0 * ys.getD k 0) := Lib.hid rfl
        rw [HS.out] at hS2
        obtain ⟨s, hs⟩ : ∃ s, s = smI k (fun i => xs.getD i 0 * ys.getD i 0) := ⟨_, rfl⟩
        obtain ⟨x, hxx⟩ : ∃ s, s = xs.getD k 0 := ⟨_, rfl⟩
        obtain ⟨y, hyy⟩ : ∃ s, s = ys.getD k 0 := ⟨_, rfl⟩
        rw [← hxx] at a0 hCC hS2 HS
        rw [← hyy] at b0 hCC hS2 HS
        rw [← hs] at hS hS2 HS ⊢
        have w1 : IntKind.i64.wrap (x * y) = x * y := IntWalk.i64_in _ (by omega)
        have w2 : IntKind.i64.wrap (s + x * y) = s + x * y := IntWalk.i64_in _ (by omega)
        have i1 : (0 : Int) ≤ (k : Int) := by omega
        have i2 : (k : Int) < (n : Int) := by omega
        have i3 : (k : Int) < (m : Int) := by omega
        clear hs hxx hyy hS hS2 hCC ca cb
        go_wp2_with fail
        go_quiet (fail)
        generalize hWW : World.drewN wr _ = W
        have hX : Ext w W := by rw [← hWW]; exact hx.drewN _
        clear hWW
        go_wp2_with fail
        go_roundw
        case rel => exact ⟨k + 1, by omega, by omega, by go_num, by rw [HS.out], hX⟩
        case measure => simp [intOf]; omega
      · obtain rfl : k = m := by omega
        go_wp2_with fail
        go_ret
        exact ⟨by rw [HD.out, Nat.min_eq_right hk]; rfl, hx⟩
    · obtain rfl : k = n := by omega
      go_wp2_with fail
      go_ret
      exact ⟨by rw [HD.out, Nat.min_eq_left hkm]; rfl, hx⟩
end Go.Proofs.YtgffcblldebelaaDoor.Lp

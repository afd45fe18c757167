/- Plain: the problem that asks for a value (LpUnbounded). -/
import Derived.Test.YtgffcblldebelaaDoorLX6A
import Derived.Test.YtgffcblldebelaaDoorLQ
import Derived.Test.YtgffcblldebelaaDoorLV5
set_option linter.unusedVariables false
set_option linter.unusedSimpArgs false
namespace Go.Proofs.YtgffcblldebelaaDoor.Lp
open Go.RowKit Go.Proofs.YtgffcblldebelaaDoor.Big Go.Proofs.YtgffcblldebelaaDoor.Rt

/-- the problem that asks for a value -/
def PL.want (P : PL) (b : Rat) : PL := ⟨List.replicate P.obj.length 0, P.rows ++ [⟨P.obj, 3, b⟩]⟩
theorem getD_zeros (n j : Nat) : (List.replicate n (0 : Rat)).getD j 0 = 0 := by
  rw [List.getD_eq_getElem?_getD, List.getElem?_replicate]
  split <;> rfl
theorem want_valid {P : PL} {b : Rat} (h : P.valid = true) (hl : P.rows.length < 1000) : (P.want b).valid = true := by
  obtain ⟨h1, h2, h3, h4⟩ := PL.valid_iff.1 h
  refine PL.valid_iff.2 ⟨by show 1 ≤ (List.replicate _ _).length; simpa using h1, by show (List.replicate _ _).length ≤ _; simpa using h2, by show (P.rows ++ [_]).length ≤ _; simp; omega, fun r hr => ?_⟩
  have e : (P.want b).obj.length = P.obj.length := by show (List.replicate _ _).length = _; simp
  rw [e]
  rcases List.mem_append.1 hr with h | h
  · exact h4 r h
  · rw [List.mem_singleton.1 h]; exact ⟨rfl, by show 1 ≤ 3; omega, by show 3 ≤ 3; omega⟩
theorem ask_V {P : PL} {b v : Rat} : (P.want b).V v ↔ v = 0 ∧ ∃ u, P.V u ∧ b ≤ u := by
  have e : (P.want b).obj.length = P.obj.length := by show (List.replicate _ _).length = _; simp
  have e0 : ∀ x, dotL P.obj.length (P.want b).obj x = 0 := fun x => by
    unfold dotL
    exact sm_zero' (fun j _ => by rw [show (P.want b).obj.getD j 0 = 0 from getD_zeros _ _]; exact Rat.zero_mul _)
  unfold PL.V
  rw [e]
  constructor
  · rintro ⟨x, ⟨h1, h2⟩, h3⟩
    rw [e0] at h3
    have hl := h2 ⟨P.obj, 3, b⟩ (List.mem_append_right _ (List.mem_singleton.2 rfl))
    exact ⟨h3.symm, _, ⟨x, ⟨h1, fun r hr => h2 r (List.mem_append_left _ hr)⟩, rfl⟩, hl.2.2 rfl⟩
  · rintro ⟨rfl, u, ⟨x, ⟨h1, h2⟩, h3⟩, hu⟩
    refine ⟨x, ⟨h1, fun r hr => ?_⟩, e0 x⟩
    rcases List.mem_append.1 hr with h | h
    · exact h2 r h
    · rw [List.mem_singleton.1 h]
      have hu : b ≤ dotL P.obj.length P.obj x := by rw [h3]; exact hu
      exact ⟨fun e => (by cases e), fun e => (by cases e), fun _ => hu⟩
theorem want_has {P : PL} {b u : Rat} (h : (P.want b).valid = true) (hu : P.V u) (hb : b ≤ u) : (P.want b).err = 0 := by
  rcases PL.is h with ⟨e, -⟩ | ⟨-, -, h2⟩ | ⟨-, -, h2⟩
  · exact e
  · exact absurd (ask_V.2 ⟨rfl, u, hu, hb⟩) (h2 0)
  · obtain ⟨v, h3, h4⟩ := h2 1
    obtain ⟨rfl, -⟩ := ask_V.1 h3
    exact absurd h4 (by decide)
theorem want_not {P : PL} {b : Rat} (h : (P.want b).valid = true) (hn : ∀ u, P.V u → u < b) : (P.want b).err = 17 := by
  have key : ∀ v, ¬ (P.want b).V v := fun v hv => by
    obtain ⟨-, u, h1, h2⟩ := ask_V.1 hv
    have := hn u h1
    grind
  rcases PL.is h with ⟨-, h1, -⟩ | ⟨e, -⟩ | ⟨-, -, h2⟩
  · exact absurd h1 (key _)
  · exact e
  · obtain ⟨v, h3, -⟩ := h2 1
    exact absurd h3 (key _)
theorem want_unb {P : PL} {b : Rat} (hv : P.valid = true) (hl : P.rows.length < 1000) (h : P.err = 18) : (P.want b).err = 0 := by
  rcases PL.is hv with ⟨e, -⟩ | ⟨e, -⟩ | ⟨-, -, h2⟩
  · rw [h] at e; cases e
  · rw [h] at e; cases e
  · obtain ⟨v, h3, h4⟩ := h2 b
    exact want_has (want_valid hv hl) h3 h4
theorem want_opt {P : PL} (hv : P.valid = true) (hl : P.rows.length < 1000) (h : P.err = 0) : (P.want P.val).err = 0 := by
  rcases PL.is hv with ⟨-, h1, -⟩ | ⟨e, -⟩ | ⟨e, -⟩
  · exact want_has (want_valid hv hl) h1 Rat.le_refl
  · rw [h] at e; cases e
  · rw [h] at e; cases e
theorem want_more {P : PL} {b : Rat} (hv : P.valid = true) (hl : P.rows.length < 1000) (h : P.err = 0) (hb : P.val < b) : (P.want b).err = 17 := by
  rcases PL.is hv with ⟨-, -, h1⟩ | ⟨e, -⟩ | ⟨e, -⟩
  · exact want_not (want_valid hv hl) (fun u hu => by have := h1 u hu; grind)
  · rw [h] at e; cases e
  · rw [h] at e; cases e
set_option maxRecDepth 100000 in
theorem want_bnd {ip : IP} (hok : ip.ok) (hn : ip.pl.toP.n ≤ 8) (hm : ip.pl.toP.m ≤ 8) (hv : ip.pl.valid = true) {b : Rat} (hb : QB 1300003 b) : Bnd (ip.pl.want b).toP 134217728 := by
  have hv' := want_valid (b := b) hv (by have : ip.pl.rows.length ≤ 8 := hm; omega)
  have hN : (ip.pl.want b).toP.n = ip.pl.toP.n := by show (List.replicate _ _).length = _; rw [List.length_replicate]; rfl
  have hM : (ip.pl.want b).toP.m = ip.pl.toP.m + 1 := by show (ip.pl.rows ++ [(⟨ip.pl.obj, 3, b⟩ : RL)]).length = _; rw [List.length_append]; rfl
  have hrow : ∀ i, i < ip.pl.toP.m → (ip.pl.want b).rows.getD i RL.zero = ip.pl.rows.getD i RL.zero := fun i hi => by
    show (ip.pl.rows ++ [_]).getD i RL.zero = _
    rw [List.getD_eq_getElem?_getD, List.getElem?_append_left hi, List.getD_eq_getElem?_getD]
  have hlast : (ip.pl.want b).rows.getD ip.pl.toP.m RL.zero = ⟨ip.pl.obj, 3, b⟩ := by
    show (ip.pl.rows ++ [_]).getD ip.pl.rows.length RL.zero = _
    rw [List.getD_eq_getElem?_getD, List.getElem?_append_right (Nat.le_refl _), Nat.sub_self]; rfl
  have hg : grow 8 2 ≤ 152917 := by decide
  have hK : bK3 9 8 2 1300003 2 ≤ 134217728 := by unfold bK3 bK2; generalize grow 8 2 = g at hg; omega
  have hK2 := bK3_mono (m := (ip.pl.want b).toP.m) (m' := 9) (k := 8) (k' := 8) (h := 2) (hr := 1300003) (hr' := 1300003) (hd := 2) (by omega) (Nat.le_refl _) (Nat.le_refl _)
  have hK3 := Nat.le_trans hK2 hK
  clear hg hK hK2
  refine Bnd.up (Bnd.of (PL.vrel hv') 8 2 1300003 2 (.inl (by omega)) (by omega) (by omega) (by omega) hK3 (fun j hj => ?_) (fun i hi j hj => ?_) (fun i hi => ?_)) hK3 (Nat.le_refl _)
  · rw [show (ip.pl.want b).toP.obj j = 0 from getD_zeros _ _]; exact QB_zero (by omega)
  · show QB 2 (((ip.pl.want b).rows.getD i RL.zero).coef.getD j 0)
    by_cases h : i < ip.pl.toP.m
    · rw [hrow i h]; exact IP.coef_b hok h j
    · rw [show i = ip.pl.toP.m by omega, hlast]; exact IP.obj_b hok j
  · show QB 1300003 ((ip.pl.want b).rows.getD i RL.zero).right
    by_cases h : i < ip.pl.toP.m
    · rw [hrow i h]; exact QB_mono (by omega) (IP.right_b hok h)
    · rw [show i = ip.pl.toP.m by omega, hlast]; exact hb
end Go.Proofs.YtgffcblldebelaaDoor.Lp

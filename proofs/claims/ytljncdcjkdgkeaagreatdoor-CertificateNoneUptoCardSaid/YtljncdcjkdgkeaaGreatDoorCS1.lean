/- Walk: law37's small. -/
import Derived.Test.YtljncdcjkdgkeaaGreatDoorCVA
set_option linter.unusedVariables false
set_option linter.unusedSimpArgs false
namespace Go.Proofs.YtljncdcjkdgkeaaGreatDoor.Lp
open Go.RowKit Go.Proofs.YtljncdcjkdgkeaaGreatDoor.Big Go.Proofs.YtljncdcjkdgkeaaGreatDoor.Rt

def shB (p : Prob) : Nat → Bool
  | 0 => true
  | i + 1 => shB p i && decide (p.len i ≤ 8)
theorem shB_iff {p : Prob} {n : Nat} : shB p n = true ↔ ∀ i, i < n → p.len i ≤ 8 := by
  induction n with
  | zero => exact ⟨fun _ i hi => absurd hi (by omega), fun _ => rfl⟩
  | succ n ih =>
    show (shB p n && decide (p.len n ≤ 8)) = true ↔ _
    rw [Bool.and_eq_true, ih, decide_eq_true_eq]
    constructor
    · rintro ⟨a, b⟩ i hi
      by_cases e : i = n
      · subst e; exact b
      · exact a i (by omega)
    · intro h; exact ⟨fun i hi => h i (by omega), h n (by omega)⟩
def smallB (p : Prob) : Bool := decide (p.m ≤ 8) && (decide (p.n ≤ 6) && shB p p.m)
set_option maxHeartbeats 8000000 in
set_option maxRecDepth 100000 in
theorem small_b (v : Value) (p : Prob) (w : World) (hv : ProbV w v p) :
    Calls Tryz.prog 15 #[v] w (ValPost w (.int .i64 (if smallB p then 1 else 0))) := by
  obtain ⟨Ao, co, Ar, cr, rfl, hob, hmc, hcr, hrows⟩ := hv
  have hoc := hob.1
  have hoc2 := hob.2.1
  obtain ⟨F, hF⟩ : ∃ F, F = smallB p := ⟨_, rfl⟩
  rw [← hF]
  obtain ⟨R, hR⟩ : ∃ R : Int, R = if F then 1 else 0 := ⟨_, rfl⟩
  have HR0 : Hid (F = false → R = 0) := Lib.hid (fun h => by rw [hR, h]; rfl)
  have HR1 : Hid (F = true → R = 1) := Lib.hid (fun h => by rw [hR, h]; rfl)
  rw [← hR]
  clear hR
  obtain ⟨n, hn⟩ : ∃ n, n = p.n := ⟨_, rfl⟩
  obtain ⟨m, hm⟩ : ∃ n, n = p.m := ⟨_, rfl⟩
  have HF : Hid (F = (decide (m ≤ 8) && (decide (n ≤ 6) && shB p m))) := Lib.hid (by rw [hF, hn, hm]; rfl)
  rw [← hn] at hoc
  rw [← hm] at hmc hrows
  rw [← hn, ← hm]
  have HROW := Lib.hid hrows
  clear hn hm hF hob hrows
  have PB := Box.new w 41 #[.slice Ao n co, .slice Ar m cr]
  have hE0 : Ext w (w.alloc (.cells #[.slice Ao n co, .slice Ar m cr] 41)) := (Ext.refl w).alloc _
  go_enter Tryz.func15, Tryz.ntmps15
  go_upto_region 1 with fail
  generalize (w.alloc (.cells #[.slice Ao n co, .slice Ar m cr] 41)) = V at *
  have c0 := PB.c0
  have c1 := PB.c1
  by_cases h1 : m ≤ 8
  case neg =>
    have e1 : decide ((8 : Int) < (m : Int)) = true := by simp; omega
    have HE : Hid (F = false) := Lib.hid (by rw [HF.out, decide_eq_false h1]; rfl)
    clear h1
    go_wp2_with fail
    go_ret
    exact ⟨by rw [HR0.out HE.out]; rfl, hE0⟩
  case pos =>
  have e1 : decide ((8 : Int) < (m : Int)) = false := by simp; omega
  have HF2 : Hid (F = (decide (n ≤ 6) && shB p m)) := Lib.hid (by rw [HF.out, decide_eq_true h1]; rfl)
  by_cases h2 : n ≤ 6
  case neg =>
    have e2 : decide ((6 : Int) < (n : Int)) = true := by simp; omega
    have HE : Hid (F = false) := Lib.hid (by rw [HF2.out, decide_eq_false h2]; rfl)
    clear h1 h2
    go_wp2_with fail
    go_ret
    exact ⟨by rw [HR0.out HE.out]; rfl, hE0⟩
  case pos =>
  have e2 : decide ((6 : Int) < (n : Int)) = false := by simp; omega
  have HF3 : Hid (F = shB p m) := Lib.hid (by rw [HF2.out, decide_eq_true h2]; rfl)
  clear h2 HF HF2
  go_upto_region 3 with fail
  clear e1 e2
  go_wp2_with fail
  go_loopw [3] (fun i wr => ∃ j : Nat, j ≤ m ∧ i = .int .i64 j ∧ Hid (shB p j = true) ∧ wr = V) (fun i _ => m - (intOf i).toNat)
  case atStart => exact ⟨0, by omega, rfl, Lib.hid rfl, rfl⟩
  case round =>
    obtain ⟨j, hj, rfl, HJ, rfl⟩ := hrel
    by_cases hlt : j < m
    · obtain ⟨br, rfl, hrow⟩ := HROW.out (by omega)
      obtain ⟨Ac, cc, bx, A, d, e, by', A', d', e', g0, g1, g2, g3, g4, g5, r1, r2, r3⟩ := hrow j hlt
      have g0 := hE0.cell g0
      have hcc := r1.1
      have hcc2 := r1.2.1
      obtain ⟨l, hl⟩ : ∃ l, l = p.len j := ⟨_, rfl⟩
      have i1 : (0 : Int) ≤ (j : Int) := by omega
      have i2 : (j : Int) < (m : Int) := by omega
      rw [← hl] at g0 hcc
      clear g1 g2 g3 g4 g5 r1 r2 r3 hrow
      by_cases h3 : l ≤ 8
      · have e3 : decide ((8 : Int) < (l : Int)) = false := by simp; omega
        have HN1 : Hid (shB p (j + 1) = true) := Lib.hid (by show (shB p j && decide (p.len j ≤ 8)) = true; rw [HJ.out, ← hl, decide_eq_true h3]; rfl)
        clear h3 hl
        go_wp2_with fail
        go_roundw
        case rel => exact ⟨j + 1, by omega, by go_num, HN1, trivial⟩
        case measure => simp [intOf]; omega
      · have e3 : decide ((8 : Int) < (l : Int)) = true := by simp; omega
        have HE : Hid (F = false) := Lib.hid (by
          rw [HF3.out]
          cases e : shB p m with
          | false => rfl
          | true => exact absurd (hl ▸ shB_iff.1 e j hlt) h3)
        clear h3 hl
        go_wp2_with fail
        go_ret
        exact ⟨by rw [HR0.out HE.out]; rfl, hE0⟩
    · obtain rfl : j = m := by omega
      have HE : Hid (F = true) := Lib.hid (by rw [HF3.out, HJ.out])
      go_wp2_with fail
      go_ret
      exact ⟨by rw [HR1.out HE.out]; rfl, hE0⟩
end Go.Proofs.YtljncdcjkdgkeaaGreatDoor.Lp

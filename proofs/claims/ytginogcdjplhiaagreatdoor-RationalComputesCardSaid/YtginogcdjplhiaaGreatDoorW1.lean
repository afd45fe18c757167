/- Walks: compare, trim. -/
import Derived.Test.YtginogcdjplhiaaGreatDoorProg
import Derived.Test.YtginogcdjplhiaaGreatDoorMem
import Derived.WalkLawsBesides
import Derived.Deep.QuietTactic
import Derived.BigQuiet
set_option linter.unusedVariables false
set_option linter.unusedSimpArgs false
namespace Go.Proofs.YtginogcdjplhiaaGreatDoor.Big
open Go.RowKit

set_option maxHeartbeats 400000 in
theorem compare_ne (A1 A2 : Option Addr) (n1 n2 c1 c2 : Nat) (w : World) (h : n1 ≠ n2) (h1 : n1 ≤ 4398046511104) (h2 : n2 ≤ 4398046511104) :
    Calls Tryz.prog 61 #[.slice A1 n1 c1, .slice A2 n2 c2] w fun e w' => e = .returned (.int .i64 (if n1 < n2 then -1 else 1)) ∧ w = w' := by
  by_cases hlt : n1 < n2
  · go_enter Tryz.func61, Tryz.ntmps61
    go_wp2
    go_ret
    exact ⟨by simp [hlt], rfl⟩
  · go_enter Tryz.func61, Tryz.ntmps61
    go_wp2
    go_ret
    exact ⟨by simp [hlt], rfl⟩

set_option maxHeartbeats 1000000 in
theorem compare_eq (A1 A2 : Option Addr) (n c1 c2 X Y : Nat) (w : World) (hx : Dig w (.slice A1 n c1) n X) (hy : Dig w (.slice A2 n c2) n Y) :
    Calls Tryz.prog 61 #[.slice A1 n c1, .slice A2 n c2] w fun e w' => e = .returned (.int .i64 (cmpI X Y)) ∧ ∃ k, w' = w.drewN k := by
  obtain ⟨A1', c1', e1, hn1, hc1, hX, hx⟩ := hx
  obtain ⟨A2', c2', e2, hn2, hc2, hY, hy⟩ := hy
  obtain ⟨rfl, -, rfl⟩ : A1 = A1' ∧ n = n ∧ c1 = c1' := by injection e1 with a b c; exact ⟨a, rfl, c⟩
  obtain ⟨rfl, -, rfl⟩ : A2 = A2' ∧ n = n ∧ c2 = c2' := by injection e2 with a b c; exact ⟨a, rfl, c⟩
  clear e1 e2
  go_enter Tryz.func61, Tryz.ntmps61
  go_wp2
  go_loopw [19] (fun i wr => ∃ k d : Nat, k ≤ n ∧ i = .int .i64 k ∧ wr = w.drewN d ∧ X / pw (n - k) = Y / pw (n - k)) (fun i _ => n - (intOf i).toNat)
  case atStart => exact ⟨0, 0, Nat.zero_le _, rfl, rfl, by simp [Nat.div_eq_of_lt hX, Nat.div_eq_of_lt hY]⟩
  case round =>
    obtain ⟨k, d, hk, rfl, rfl, hd⟩ := hrel
    by_cases hlt : k < n
    · obtain ⟨b1, o1, rfl, hcx⟩ := hx (by omega)
      obtain ⟨b2, o2, rfl, hcy⟩ := hy (by omega)
      have hcx := hcx (n - 1 - k) (by omega)
      have hcy := hcy (n - 1 - k) (by omega)
      have HD := Lib.hid hd; clear hd
      clear hx hy hX hY
      rcases Nat.lt_trichotomy (dgt X (n - 1 - k)) (dgt Y (n - 1 - k)) with hd | hd | hd
      · have hne : ((dgt X (n - 1 - k) : Int) != (dgt Y (n - 1 - k) : Int)) = true := by rw [bne_iff_ne]; omega
        have hfin : cmpI X Y = -1 := cmp_lt (n := n) hk (by omega) HD.out hd
        have HF := Lib.hid hfin; clear hfin
        go_wp2
        go_quiet (fail)
        go_wp2
        go_quiet (fail)
        go_wp2
        go_ret
        exact ⟨by rw [HF.out]; rfl, by simp only [World.drewN_drewN]; exact ⟨_, rfl⟩⟩
      · have hne : ((dgt X (n - 1 - k) : Int) != (dgt Y (n - 1 - k) : Int)) = false := by rw [bne_eq_false_iff_eq, hd]
        have HE := Lib.hid hd; clear hd
        go_wp2
        go_quiet (fail)
        go_wp2
        go_roundw
        case rel => exact ⟨k + 1, _, by omega, by go_num, rfl, cmp_step hlt HD.out HE.out⟩
        case measure => simp [intOf]; omega
      · have hne : ((dgt X (n - 1 - k) : Int) != (dgt Y (n - 1 - k) : Int)) = true := by rw [bne_iff_ne]; omega
        have hfin : cmpI X Y = 1 := cmp_gt (n := n) hk (by omega) HD.out hd
        have HF := Lib.hid hfin; clear hfin
        go_wp2
        go_quiet (fail)
        go_wp2
        go_quiet (fail)
        go_wp2
        go_ret
        exact ⟨by rw [HF.out]; rfl, by simp only [World.drewN_drewN]; exact ⟨_, rfl⟩⟩
    · have hkn : k = n := by omega
      subst hkn
      have hfin : cmpI X Y = 0 := by
        simp only [Nat.sub_self, pw_zero, Nat.div_one] at hd
        subst hd; simp [cmpI]
      have HF := Lib.hid hfin; clear hfin hd
      go_wp2
      go_ret
      exact ⟨by rw [HF.out]; rfl, _, rfl⟩

/-- .. and where the result lies -/
def TrimPost2 (w : World) (A : Option Addr) (c V : Nat) (e : Ending) (w' : World) : Prop := ∃ v n, e = .returned v ∧ Dig w v n V ∧ Trm n V ∧ w = w' ∧ (v = .slice none 0 0 ∨ ∃ k, v = .slice A k c)

set_option maxHeartbeats 1000000 in
theorem trim_any2 (A : Option Addr) (n c V : Nat) (w : World) (h : Dig w (.slice A n c) n V) :
    Calls Tryz.prog 69 #[.slice A n c] w (TrimPost2 w A c V) := by
  obtain ⟨-, hn, hc, hV, hx⟩ := h.inj
  go_enter Tryz.func69, Tryz.ntmps69
  go_wp2
  go_loop [3] (fun i => ∃ k : Nat, k ≤ n ∧ i = .int .i64 k ∧ V < pw k) (fun i => (intOf i).toNat)
  case atStart => exact ⟨n, Nat.le_refl _, rfl, hV⟩
  case round =>
    obtain ⟨k, hk, rfl, hVk⟩ := hrel
    clear hV
    have HV := Lib.hid hVk; clear hVk
    by_cases h0 : 0 < k
    · obtain ⟨b, off, rfl, hcx⟩ := hx (by omega)
      have hck := hcx (k - 1) (by omega)
      have HX := Lib.hid hcx
      clear hx hcx
      by_cases hd : dgt V (k - 1) = 0
      · have h1 : ((dgt V (k - 1) : Int) == 0) = true := by rw [hd]; rfl
        have HD := Lib.hid hd; clear hd
        go_wp2
        go_round
        case rel => exact ⟨k - 1, by omega, by go_num, lt_of_dgt_zero (by rw [show k - 1 + 1 = k by omega]; exact HV.out) HD.out⟩
        case measure => simp [intOf]; omega
      · have h1 : ((dgt V (k - 1) : Int) == 0) = false := by simp; omega
        go_wp2
        go_ret
        exact ⟨_, k, rfl, Dig.cut HX.out hk hn hc HV.out, .inr (le_of_dgt hd), rfl, .inr ⟨k, rfl⟩⟩
    · have hk0 : k = 0 := by omega
      subst hk0
      go_wp2
      go_ret
      have h0 : V = 0 := by have := HV.out; simp [pw_zero] at this; exact this
      subst h0
      exact ⟨_, 0, rfl, Dig.nil w, .inl rfl, rfl, .inl rfl⟩

theorem trim_any (A : Option Addr) (n c V : Nat) (w : World) (h : Dig w (.slice A n c) n V) :
    Calls Tryz.prog 69 #[.slice A n c] w (TrimPost w V) :=
  (trim_any2 A n c V w h).mono fun _ _ ⟨v, n, h1, h2, h3, h4, _⟩ => ⟨v, n, h1, h2, h3, h4⟩

end Go.Proofs.YtginogcdjplhiaaGreatDoor.Big

/- Walks: divideDigit. -/
import Derived.Test.YtginogcdjplhiaaGreatDoorVal2
import Derived.Test.YtginogcdjplhiaaGreatDoorW1
set_option linter.unusedVariables false
set_option linter.unusedSimpArgs false
namespace Go.Proofs.YtginogcdjplhiaaGreatDoor.Big
open Go.BigFrame
open Go.RowKit

/-- the divisor and the window of the rest, as the walk finds them -/
structure DigitPre (w : World) (b N off n P D b2 o2 : Nat) (E : TypeId) (f : Nat → Nat) : Prop where
  arr : Arr w b N E f
  fit : off + n + 1 ≤ N
  pre : DPre P D n
  hf : ∀ p, p ≤ n → f (off + p) = dgt P p
  ne : b2 ≠ b
  cells : ∀ j, j < n → w.cell? ⟨b2, o2 + j, none⟩ = some (.int .u32 (dgt D j : Int))
def DigitPost (w : World) (b N off n P D : Nat) (E : TypeId) (f : Nat → Nat) (e : Ending) (w' : World) : Prop :=
  ∃ f', e = .returned (.int .u32 (P / D : Nat)) ∧ Arr w' b N E f' ∧ (∀ p, p < off ∨ off + n < p → f' p = f p) ∧ (∀ p, p ≤ n → f' (off + p) = dgt (P % D) p) ∧ Upd b w w'

/-- the guess times the divisor is being taken away: k places are done; c and bo are carried -/
def SubI (w wr : World) (b N off n : Nat) (E : TypeId) (f : Nat → Nat) (P D W g k c bo : Nat) : Prop :=
  ∃ f', Arr wr b N E f' ∧ (∀ p, p < off ∨ off + n < p → f' p = f p) ∧ (∀ p, p < k → f' (off + p) = dgt W p) ∧ (∀ p, k ≤ p → p ≤ n → f' (off + p) = dgt P p) ∧
    P % pw k + pw k * (c + bo) = g * (D % pw k) + W % pw k ∧ Upd b w wr
theorem SubI.start {w : World} {b N off n : Nat} {E : TypeId} {f : Nat → Nat} {P D W g : Nat} (h : Arr w b N E f) (hf : ∀ p, p ≤ n → f (off + p) = dgt P p) (d : Nat) : SubI w (w.drewN d) b N off n E f P D W g 0 0 0 :=
  ⟨f, h, fun _ _ => rfl, fun p hp => absurd hp (by omega), fun p _ hp => hf p hp, by simp [pw_zero, Nat.mod_one], (Upd.refl _ _).drewN d⟩

section
variable {w wr : World} {b N off n : Nat} {E : TypeId} {f : Nat → Nat} {P D W g k c bo : Nat}
theorem SubI.drewN (h : SubI w wr b N off n E f P D W g k c bo) (d : Nat) : SubI w (wr.drewN d) b N off n E f P D W g k c bo := by
  obtain ⟨f', h1, h2, h3, h4, h5, h6⟩ := h
  exact ⟨f', h1, h2, h3, h4, h5, h6.drewN d⟩
theorem SubI.cell (h : SubI w wr b N off n E f P D W g k c bo) (hN : off + n + 1 ≤ N) {p : Nat} (hk : k ≤ p) (hp : p ≤ n) : wr.cell? ⟨b, off + p, none⟩ = some (.int .u32 (dgt P p : Int)) := by
  obtain ⟨f', h1, h2, h3, h4, h5, h6⟩ := h
  rw [h1.cell (by omega), h4 p hk hp]
theorem SubI.frozen (h : SubI w wr b N off n E f P D W g k c bo) (p : Nat) : wr.frozen? ⟨b, p, none⟩ = false := by
  obtain ⟨f', h1, _⟩ := h; exact h1.frozen p
theorem SubI.other (h : SubI w wr b N off n E f P D W g k c bo) {p : Addr} {v : Value} (hc : w.cell? p = some v) (hb : p.block ≠ b) : wr.cell? p = some v := by
  obtain ⟨f', h1, h2, h3, h4, h5, h6⟩ := h; exact h6.cell hc hb
theorem SubI.step {z c' bo' e : Nat} {ee : Int} (h : SubI w wr b N off n E f P D W g k c bo) (hk : k < n) (hW : P + z * pw (n + 1) = g * D + W)
    (he : dgt P k + 4294967296 * (c' + bo') = g * dgt D k + (c + bo) + e) (heb : e < 4294967296) (hee : ee = (e : Int)) :
    SubI w (wr.setCell ⟨b, off + k, none⟩ (.int .u32 ee)) b N off n E f P D W g (k + 1) c' bo' := by
  obtain ⟨f', h1, h2, h3, h4, h5, h6⟩ := h
  obtain ⟨r1, r2⟩ := sub_step (Nat.le_of_lt hk) hW h5 he heb
  refine ⟨_, h1.setI (off + k) ee e hee, fun p hp => ?_, fun p hp => ?_, fun p hp hp2 => ?_, r2, h6.set _ _⟩
  · rw [if_neg (by omega)]; exact h2 p hp
  · by_cases hpk : p = k
    · subst hpk; simp [r1]
    · rw [if_neg (by omega)]; exact h3 p (by omega)
  · rw [if_neg (by omega)]; exact h4 p (by omega) hp2
end
/-- what the code does at one place, in numbers of 64 bits -/
theorem sub_num (p t bo : Nat) (hp : p < 4294967296) (hbo : bo ≤ 1) (T : Int) (hT : T = (t : Int)) :
    ∃ e bo' : Nat, IntKind.u64.wrap (IntKind.u64.wrap ((p : Int) - T % 4294967296) - (bo : Int)) / 9223372036854775808 = (bo' : Int) ∧
      IntKind.u64.wrap (IntKind.u64.wrap ((p : Int) - T % 4294967296) - (bo : Int)) % 4294967296 = (e : Int) ∧ bo' ≤ 1 ∧ e < 4294967296 ∧
      p + 4294967296 * (t / 4294967296 + bo') = t + bo + e := by
  subst hT
  rw [IntKind.wrap_u64, IntKind.wrap_u64]
  by_cases h : t % 4294967296 + bo ≤ p
  · exact ⟨p - t % 4294967296 - bo, 0, by omega, by omega, by omega, by omega, by omega⟩
  · exact ⟨p + 4294967296 - t % 4294967296 - bo, 1, by omega, by omega, by omega, by omega, by omega⟩
theorem fin_num0 {pn c bo wn : Nat} (h : wn + (c + bo) = pn + 4294967296 * 0) (hw : wn = 0) (hpn : pn < 4294967296) :
    IntKind.u64.wrap (IntKind.u64.wrap ((pn : Int) - (c : Int)) - (bo : Int)) = 0 := by
  rw [IntKind.wrap_u64, IntKind.wrap_u64]; omega
theorem fin_num1 {pn c bo wn : Nat} (h : wn + (c + bo) = pn + 4294967296 * 1) (hw : wn < 4294967296) (hpn : pn < 4294967296) :
    ∃ dd : Nat, IntKind.u64.wrap (IntKind.u64.wrap ((pn : Int) - (c : Int)) - (bo : Int)) = (dd : Int) ∧ (dd : Int) / 9223372036854775808 = 1 ∧ (dd : Int) % 4294967296 = (wn : Int) := by
  refine ⟨18446744073709551616 + wn - 4294967296, ?_, by omega, by omega⟩
  rw [IntKind.wrap_u64, IntKind.wrap_u64]; omega
/-- the divisor is being added back -/
def AddI (w wr : World) (b N off n : Nat) (E : TypeId) (f : Nat → Nat) (D W k : Nat) : Prop :=
  ∃ f', Arr wr b N E f' ∧ (∀ p, p < off ∨ off + n < p → f' p = f p) ∧ (∀ p, p < k → f' (off + p) = dgt (W + D) p) ∧ (∀ p, k ≤ p → p ≤ n → f' (off + p) = dgt W p) ∧ Upd b w wr
section
variable {w wr : World} {b N off n : Nat} {E : TypeId} {f : Nat → Nat} {P D W g k c bo : Nat}
theorem SubI.last {z : Nat} (h : SubI w wr b N off n E f P D W g n c bo) (hP : P < pw (n + 1)) (hD : D < pw n) (hWl : W < pw (n + 1)) (hW : P + z * pw (n + 1) = g * D + W) : dgt W n + (c + bo) = dgt P n + 4294967296 * z := by
  obtain ⟨f', h1, h2, h3, h4, h5, h6⟩ := h; exact sub_last hP hD hWl hW h5
theorem SubI.fin {ee : Int} (h : SubI w wr b N off n E f P D W g n c bo) (hee : ee = (dgt W n : Nat)) : AddI w (wr.setCell ⟨b, off + n, none⟩ (.int .u32 ee)) b N off n E f D W 0 := by
  obtain ⟨f', h1, h2, h3, h4, h5, h6⟩ := h
  refine ⟨_, h1.setI (off + n) ee _ hee, fun p hp => ?_, fun p hp => absurd hp (by omega), fun p _ hp => ?_, h6.set _ _⟩
  · rw [if_neg (by omega)]; exact h2 p hp
  · by_cases hpk : p = n
    · subst hpk; simp
    · rw [if_neg (by omega)]; exact h3 p (by omega)
theorem AddI.drewN (h : AddI w wr b N off n E f D W k) (d : Nat) : AddI w (wr.drewN d) b N off n E f D W k := by
  obtain ⟨f', h1, h2, h3, h4, h6⟩ := h
  exact ⟨f', h1, h2, h3, h4, h6.drewN d⟩
theorem AddI.cell (h : AddI w wr b N off n E f D W k) (hN : off + n + 1 ≤ N) {p : Nat} (hk : k ≤ p) (hp : p ≤ n) : wr.cell? ⟨b, off + p, none⟩ = some (.int .u32 (dgt W p : Int)) := by
  obtain ⟨f', h1, h2, h3, h4, h6⟩ := h
  rw [h1.cell (by omega), h4 p hk hp]
theorem AddI.frozen (h : AddI w wr b N off n E f D W k) (p : Nat) : wr.frozen? ⟨b, p, none⟩ = false := by
  obtain ⟨f', h1, _⟩ := h; exact h1.frozen p
theorem AddI.other (h : AddI w wr b N off n E f D W k) {p : Addr} {v : Value} (hc : w.cell? p = some v) (hb : p.block ≠ b) : wr.cell? p = some v := by
  obtain ⟨f', h1, h2, h3, h4, h6⟩ := h; exact h6.cell hc hb
theorem AddI.step {ee : Int} (h : AddI w wr b N off n E f D W k) (hk : k ≤ n) (hee : ee = (dgt (W + D) k : Nat)) : AddI w (wr.setCell ⟨b, off + k, none⟩ (.int .u32 ee)) b N off n E f D W (k + 1) := by
  obtain ⟨f', h1, h2, h3, h4, h6⟩ := h
  refine ⟨_, h1.setI (off + k) ee _ hee, fun p hp => ?_, fun p hp => ?_, fun p hp hp2 => ?_, h6.set _ _⟩
  · rw [if_neg (by omega)]; exact h2 p hp
  · by_cases hpk : p = k
    · subst hpk; simp
    · rw [if_neg (by omega)]; exact h3 p (by omega)
  · rw [if_neg (by omega)]; exact h4 p (by omega) hp2
theorem AddI.post0 (h : AddI w wr b N off n E f D W 0) (hW : W = P % D) (hg : g = P / D) : DigitPost w b N off n P D E f (.returned (.int .u32 (g : Int))) wr := by
  obtain ⟨f', h1, h2, h3, h4, h6⟩ := h
  exact ⟨f', by rw [hg], h1, h2, fun p hp => by rw [h4 p (Nat.zero_le _) hp, hW], h6⟩
theorem AddI.post1 (h : AddI w wr b N off n E f D W (n + 1)) (hW : W + D = P % D + pw (n + 1)) (hg : g = P / D + 1) {u : Int} (hu : u = (g : Int) - 1) : DigitPost w b N off n P D E f (.returned (.int .u32 u)) wr := by
  obtain ⟨f', h1, h2, h3, h4, h6⟩ := h
  refine ⟨f', by rw [hu, hg]; congr 2; omega, h1, h2, fun p hp => ?_, h6⟩
  rw [h3 p (by omega), hW]
  refine dgt_congr ?_
  obtain ⟨k, hk⟩ : ∃ k, n + 1 = p + 1 + k := ⟨n - p, by omega⟩
  rw [hk, pw_add, Nat.add_mul_mod_self_left]
end

set_option maxHeartbeats 2000000 in
set_option maxRecDepth 100000 in
theorem divideDigit_any (b N off n c c2 P D b2 o2 : Nat) (E : TypeId) (f : Nat → Nat) (w : World) (h : DigitPre w b N off n P D b2 o2 E f) (hN : N ≤ 4398046511104) :
    Calls Tryz.prog 83 #[.slice (some ⟨b, off, none⟩) (n + 1) c, .slice (some ⟨b2, o2, none⟩) n c2] w (DigitPost w b N off n P D E f) := by
  obtain ⟨harr, hfit, hpre, hf, hne, hcd⟩ := h
  have hn2 := hpre.n2
  have htop := hpre.top
  have cn : w.cell? ⟨b, off + n, none⟩ = some (.int .u32 (dgt P n : Int)) := by rw [harr.cell (by omega), hf n (by omega)]
  have cn1 : w.cell? ⟨b, off + (n - 1), none⟩ = some (.int .u32 (dgt P (n - 1) : Int)) := by rw [harr.cell (by omega), hf (n - 1) (by omega)]
  have cn2 : w.cell? ⟨b, off + (n - 2), none⟩ = some (.int .u32 (dgt P (n - 2) : Int)) := by rw [harr.cell (by omega), hf (n - 2) (by omega)]
  have d1 := hcd (n - 1) (by omega)
  have d2 := hcd (n - 2) (by omega)
  have bn := dgt_lt P n
  have bn1 := dgt_lt P (n - 1)
  have bn2 := dgt_lt P (n - 2)
  have bd1 := dgt_lt D (n - 1)
  have bd2 := dgt_lt D (n - 2)
  have hor := or32 (dgt P n) (dgt P (n - 1)) (by omega) bn1
  have HF := Lib.hid hf
  have HC := Lib.hid hcd
  have HA := Lib.hid harr
  clear hf hcd harr
  obtain ⟨hstart, hst⟩ := GI.start hpre
  have HS := Lib.hid hstart
  have hsl : (dgt P n * 4294967296 + dgt P (n - 1)) % dgt D (n - 1) < 4294967296 := Nat.lt_trans (Nat.mod_lt _ (by omega)) bd1
  have HST := Lib.hid hst
  have HSL := Lib.hid hsl
  clear hstart hst hsl
  go_enter Tryz.func83, Tryz.ntmps83
  go_wp2
  go_quiet (fail)
  go_wp2
  go_loopw [7, 8] (fun gs ls wr => ∃ g l d : Nat, gs = .int .u64 g ∧ ls = .int .u64 l ∧ wr = w.drewN d ∧ g ≤ 4294967297 ∧ l ≤ 8589934592 ∧ Hid (GI P D n g l)) (fun gs _ _ => (intOf gs).toNat)
  case atStart => exact ⟨_, _, nq, by simp, by simp, rfl, HST.out, Nat.le_of_lt (Nat.lt_of_lt_of_le HSL.out (by omega)), HS⟩
  case round =>
    obtain ⟨g, l, d, rfl, rfl, rfl, hg, hl, HG⟩ := hrel
    by_cases hexit : 4294967296 ≤ l ∨ (g < 4294967296 ∧ g * dgt D (n - 2) ≤ l * 4294967296 + dgt P (n - 2))
    · obtain ⟨hgB, hq1, hq2⟩ := GI.out hpre HG.out hexit
      obtain ⟨z, W, hW, hWl, hcase⟩ := left_over hpre.hP hpre.hD hpre.pos hq1 hq2
      have hsub0 : SubI w (w.drewN d) b N off n E f P D W g 0 0 0 := SubI.start HA.out HF.out d
      have HQ1 := Lib.hid hq1
      have HQ2 := Lib.hid hq2
      have HW := Lib.hid hW
      have HWL := Lib.hid hWl
      have HCASE := Lib.hid hcase
      have HSUB := Lib.hid hsub0
      clear hq1 hq2 hW hWl hcase hsub0
      rcases (show 4294967296 ≤ l ∨ (l < 4294967296 ∧ g * dgt D (n - 2) ≤ l * 4294967296 + dgt P (n - 2)) from by
        rcases hexit with hx | ⟨hx1, hx2⟩
        · exact .inl hx
        · rcases Nat.lt_or_ge l 4294967296 with h1 | h1
          · exact .inr ⟨h1, hx2⟩
          · exact .inl h1) with hx | ⟨hx1, hx2⟩
      have e1 : decide ((l : Int) < 4294967296) = false := by simp; omega
      clear hx hexit
      go_wp2
      go_quiet (fail)
      go_wp2
      rotate_left
      have e1 : decide ((l : Int) < 4294967296) = true := by simp; omega
      have e2 : decide ((4294967296 : Int) ≤ (g : Int)) = false := by simp; omega
      have hmul0 : (0 : Int) ≤ (g : Int) * (dgt D (n - 2) : Int) := by have := Int.natCast_nonneg (g * dgt D (n - 2)); simpa using this
      have hmulI : (g : Int) * (dgt D (n - 2) : Int) ≤ 18446744069414584320 := by
        have hmul : g * dgt D (n - 2) ≤ 4294967295 * 4294967296 := Nat.mul_le_mul (by omega) (Nat.le_of_lt bd2)
        have := Int.ofNat_le.2 hmul; simpa using this
      have hor2 := or32 l (dgt P (n - 2)) (by omega) bn2
      have e3 : decide ((l : Int) * 4294967296 + (dgt P (n - 2) : Int) < (g : Int) * (dgt D (n - 2) : Int)) = false := by
        have := Int.ofNat_le.2 hx2; simpa using this
      clear hx2 hexit
      go_wp2
      go_quiet (fail)
      go_wp2
      clear e1 e2 e3 hor2 hmul0 hmulI
      rotate_left
      all_goals
        go_loopw [9, 10, 85] (fun cy bo i wr => ∃ k c bb : Nat, k ≤ n ∧ i = .int .i64 k ∧ cy = .int .u64 c ∧ bo = .int .u64 bb ∧ c < 4294967296 ∧ bb ≤ 1 ∧ SubI w wr b N off n E f P D W g k c bb) (fun _ _ i _ => n - (intOf i).toNat)
        case atStart => exact ⟨0, 0, 0, by omega, rfl, rfl, rfl, by omega, by omega, HSUB.out.drewN _⟩
        case round =>
          clear cn cn1 cn2 d1 d2 bn bn1 bn2 bd1 bd2 hor HSUB
          obtain ⟨k, c, bb, hk, rfl, rfl, rfl, hc, hbb, hsub⟩ := hrel
          have hfr := hsub.frozen (off + k)
          have hck := hsub.cell hfit (Nat.le_refl k) hk
          have hbk := dgt_lt P k
          by_cases hlt : k < n
          · have hdk := hsub.other (HC.out k hlt) hne
            have hbd := dgt_lt D k
            have hmul0 : (0 : Int) ≤ (g : Int) * (dgt D k : Int) := by have := Int.natCast_nonneg (g * dgt D k); simpa using this
            have hmulI : (g : Int) * (dgt D k : Int) + (c : Int) < 18446744073709551616 := by
              have hmul : g * dgt D k ≤ 4294967295 * 4294967295 := Nat.mul_le_mul (by omega) (by omega)
              have hm2 : g * dgt D k + c < 18446744073709551616 := by omega
              have := Int.ofNat_lt.2 hm2; simpa using this
            go_wp2
            go_roundw
            case rel =>
              obtain ⟨e, bo', q1, q2, q3, q4, q5⟩ := sub_num (dgt P k) (g * dgt D k + c) bb hbk hbb ((g : Int) * (dgt D k : Int) + (c : Int)) (by simp)
              refine ⟨k + 1, (g * dgt D k + c) / 4294967296, bo', by omega, by go_num, by simp, ret_int q1, by rw [Nat.div_lt_iff_lt_mul (by omega)]; omega, q3, hsub.step hlt HW.out (by rw [q5]; omega) q4 q2⟩
            case measure => simp [intOf]; omega
          · obtain rfl : k = n := by omega
            have hlast := hsub.last hpre.hP hpre.hD HWL.out HW.out
            rcases HCASE.out with ⟨hz, hgq, hWq⟩ | ⟨hz, hgq, hWq⟩
            · have hw0 : dgt W k = 0 := by
                rw [hWq]; exact dgt_zero_of_lt (Nat.lt_trans (Nat.mod_lt _ hpre.pos) hpre.hD)
              have e4 := fin_num0 (by rw [hz] at hlast; exact hlast) hw0 hbk
              have HFIN := Lib.hid (hsub.fin (ee := 0) (by rw [hw0]; rfl))
              have HPOST := Lib.hid (HFIN.out.post0 hWq hgq)
              clear hz hgq hWq hw0 hlast
              go_wp2
              go_ret
              exact HPOST.out
            · obtain ⟨dd, e4, e5, e6⟩ := fin_num1 (by rw [hz] at hlast; exact hlast) (dgt_lt W k) hbk
              have HFIN := Lib.hid (hsub.fin (ee := (dgt W k : Nat)) rfl)
              have HGQ := Lib.hid hgq
              have HWQ := Lib.hid hWq
              clear hz hgq hWq hlast
              go_wp2
              clear hsub hfr hck e4 e5 e6
              go_loopw [9, 138] (fun cy i wr => ∃ m : Nat, m ≤ k ∧ i = .int .i64 m ∧ cy = .int .u64 (sumc W D m : Nat) ∧ AddI w wr b N off k E f D W m) (fun _ i _ => k - (intOf i).toNat)
              case atStart => exact ⟨0, by omega, rfl, by rw [sumc_zero]; rfl, HFIN.out⟩
              case round =>
                clear HFIN
                obtain ⟨m, hm, rfl, rfl, hadd⟩ := hrel
                have hfr := hadd.frozen (off + m)
                have hck := hadd.cell hfit (Nat.le_refl m) hm
                have hbw := dgt_lt W m
                have hbc := sumc_le W D m
                by_cases hlt : m < k
                · have hdk := hadd.other (HC.out m hlt) hne
                  have hbd := dgt_lt D m
                  go_wp2
                  go_quiet (fail)
                  go_wp2
                  go_roundw
                  case rel => exact ⟨m + 1, by omega, by go_num, ret_int (by rw [sumc_succ]; simp), (hadd.drewN _).step hm (by rw [sum_dgt]; simp)⟩
                  case measure => simp [intOf]; omega
                · obtain rfl : m = k := by omega
                  have hg1 : 1 ≤ g := by rw [HGQ.out]; exact Nat.le_add_left _ _
                  have hst := hadd.step hm (ee := (dgt (W + D) m : Nat)) rfl
                  have HPOST := Lib.hid (hst.post1 HWQ.out HGQ.out (u := (g : Int) - 1) rfl)
                  have hs : IntKind.u32.wrap ((dgt W m : Int) + (sumc W D m : Int)) = (dgt (W + D) m : Nat) := by
                    rw [sum_dgt, dgt_zero_of_lt hpre.hD, IntKind.wrap_u32]; simp
                  clear hst
                  go_wp2
                  go_ret
                  exact HPOST.out
    · have hlB : l < 4294967296 := by omega
      have e1 : decide ((l : Int) < 4294967296) = true := by simp; omega
      by_cases hgB : 4294967296 ≤ g
      · have e2 : decide ((4294967296 : Int) ≤ (g : Int)) = true := by simp; omega
        obtain ⟨hgi, hg1⟩ := GI.dec hpre HG.out (.inl hgB)
        have HGI := Lib.hid hgi
        clear hgi hexit
        go_wp2
        go_quiet (fail)
        go_wp2
        go_roundw
        case rel => exact ⟨g - 1, l + dgt D (n - 1), _, by go_num, by go_num, rfl, by omega, by omega, HGI⟩
        case measure => simp [intOf]; omega
      · have e2 : decide ((4294967296 : Int) ≤ (g : Int)) = false := by simp; omega
        have hm : l * 4294967296 + dgt P (n - 2) < g * dgt D (n - 2) := Nat.lt_of_not_le fun h => hexit (.inr ⟨by omega, h⟩)
        obtain ⟨hgi, hg1⟩ := GI.dec hpre HG.out (.inr hm)
        have HGI := Lib.hid hgi
        have hmul0 : (0 : Int) ≤ (g : Int) * (dgt D (n - 2) : Int) := by have := Int.natCast_nonneg (g * dgt D (n - 2)); simpa using this
        have hmulI : (g : Int) * (dgt D (n - 2) : Int) ≤ 18446744069414584320 := by
          have hmul : g * dgt D (n - 2) ≤ 4294967295 * 4294967296 := Nat.mul_le_mul (by omega) (Nat.le_of_lt bd2)
          have := Int.ofNat_le.2 hmul; simpa using this
        have hor2 := or32 l (dgt P (n - 2)) (by omega) bn2
        have e3 : decide ((l : Int) * 4294967296 + (dgt P (n - 2) : Int) < (g : Int) * (dgt D (n - 2) : Int)) = true := by
          have := Int.ofNat_lt.2 hm; simpa using this
        clear hgi hexit hm
        go_wp2
        go_quiet (fail)
        go_wp2
        go_roundw
        case rel => exact ⟨g - 1, l + dgt D (n - 1), _, by go_num, by go_num, rfl, by omega, by omega, HGI⟩
        case measure => simp [intOf]; omega

end Go.Proofs.YtginogcdjplhiaaGreatDoor.Big

/- Walk: Number of the reference. -/
import Derived.Test.YtnbmmgeoglfbdaaDoorSLaws
import Derived.Test.YtnbmmgeoglfbdaaDoorLSJoinsA
import Derived.Lib.SlBytesConst
set_option linter.unusedVariables false
set_option linter.unusedSimpArgs false
namespace Go.Proofs.YtnbmmgeoglfbdaaDoor.Sc
open Go.RowKit Go.Proofs.YtnbmmgeoglfbdaaDoor.Big
open Go.Lib (itoa decDigits)

/-- what the loop of Number has found: the digits X of N, n is still to be written -/
structure NumI (N : Nat) (n : Int) (X : BL) : Prop where
  first : X = [] → n.natAbs = N
  next : X ≠ [] → decDigits N = (if n = 0 then [] else decDigits n.natAbs) ++ X
theorem NumI.step {N : Nat} {n : Int} {X : BL} (h : NumI N n X) (hn : n ≠ 0 ∨ X = []) : NumI N (n.tdiv 10) (UInt8.ofNat (48 + n.natAbs % 10) :: X) := by
  refine ⟨fun e => (by cases e), fun _ => ?_⟩
  have hd : (n.tdiv 10).natAbs = n.natAbs / 10 := by rw [Int.natAbs_tdiv]; rfl
  have key : decDigits N = decDigits n.natAbs ++ X := by
    by_cases hX : X = []
    · subst hX; rw [h.first rfl, List.append_nil]
    · rw [h.next hX, if_neg (by rcases hn with hn | hn; exact hn; exact absurd hn hX)]
  rw [key]
  have hz : n.tdiv 10 = 0 ↔ n.natAbs < 10 := by
    rw [← Int.natAbs_eq_zero, hd]; omega
  by_cases h10 : n.natAbs < 10
  · rw [if_pos (hz.2 h10), decDigits, dif_pos h10, Nat.mod_eq_of_lt h10]; rfl
  · rw [if_neg (fun e => h10 (hz.1 e)), decDigits, dif_neg h10, hd]; simp
theorem digit_abs (n : Int) : (n.tmod 10 < 0 → 0 - n.tmod 10 = ((n.natAbs % 10 : Nat) : Int)) ∧ (¬ n.tmod 10 < 0 → n.tmod 10 = ((n.natAbs % 10 : Nat) : Int)) := by
  have h := Int.natAbs_tmod n 10
  have h2 : (10 : Int).natAbs = 10 := rfl
  rw [h2] at h
  constructor <;> intro hh <;> omega
theorem tdiv_abs (k : Int) : (k.tdiv 10).natAbs = k.natAbs / 10 := by rw [Int.natAbs_tdiv]; rfl
theorem conv_one (w : World) (d : Nat) (hd : d < 10) : (convert 60 9 (.slice (some ⟨w.heap.size, 0, none⟩) 1 1)).run Tryd.prog (w.alloc (.cells #[.int .u8 (48 + (d : Int))] 5)) = .ok (.string ⟨#[UInt8.ofNat (48 + d)]⟩) (w.alloc (.cells #[.int .u8 (48 + (d : Int))] 5)) := by
  refine run_convert_bytes_back (P := Tryd.prog) _ 60 9 5 ⟨w.heap.size, 0, none⟩ 1 [UInt8.ofNat (48 + d)] Tryd.underlying60 Tryd.underlying5 Tryd.underlying9 (fun j hj => ?_)
  match j, hj with
  | 0, _ =>
    rw [Lib.add_plain, World.cell?_alloc_new]
    have e : (48 + (d : Int)) = (((UInt8.ofNat (48 + d)).toNat : Nat) : Int) := by rw [dig_toNat d hd]; omega
    rw [e]; rfl
def sz0 : Value → Nat | .string q => if q.size = 0 then 1 else 0 | _ => 0
theorem ds_facts (k : Int) : ∃ d : Nat, d < 10 ∧ d = k.natAbs % 10 ∧ ((k.tmod 10 < 0 ∧ 0 - k.tmod 10 = (d : Int) ∧ -(k.tmod 10) = (d : Int)) ∨ (0 ≤ k.tmod 10 ∧ k.tmod 10 = (d : Int))) := by
  have h := digit_abs k
  refine ⟨k.natAbs % 10, by omega, rfl, ?_⟩
  by_cases hh : k.tmod 10 < 0
  · have := h.1 hh
    exact .inl ⟨hh, this, by omega⟩
  · exact .inr ⟨by omega, h.2 hh⟩
theorem cat_one (c : UInt8) (X : BL) : (⟨#[c]⟩ : ByteArray) ++ str X = str (c :: X) := str_append [c] X
theorem num_len {N : Nat} {k : Int} {X : BL} (hN : N < 18446744073709551616) (h : NumI N k X) : X.length ≤ 20 := by
  by_cases hX : X = []
  · rw [hX]; simp
  · have h1 := congrArg List.length (h.next hX)
    rw [Lib.decDigits_length, List.length_append] at h1
    have := Lib.nDigits_le20 N hN
    omega
theorem meas {k : Int} {ch : UInt8} {X : BL} (hk : k ≠ 0) : 2 * (intOf (.int .i64 (k.tdiv 10))).natAbs + sz0 (.string (str (ch :: X))) < 2 * (intOf (.int .i64 k)).natAbs + sz0 (.string (str X)) := by
  have h1 := tdiv_abs k
  have h2 : sz0 (.string (str (ch :: X))) = 0 := by simp [sz0, str_size]
  rw [h2]
  show 2 * (k.tdiv 10).natAbs + 0 < 2 * k.natAbs + _
  rw [h1]; omega
theorem num_end {n : Int} {X : BL} (h : decDigits n.natAbs = (if (0 : Int) = 0 then [] else decDigits (0 : Int).natAbs) ++ X) : itoa n = (if n < 0 then [45] else []) ++ X := by
  rw [if_pos rfl, List.nil_append] at h
  unfold itoa
  split
  · rw [h]; rfl
  · rw [← h, show n.toNat = n.natAbs by omega]; rfl
set_option maxHeartbeats 4000000 in
set_option maxRecDepth 100000 in
theorem Number_any (n : Int) (w : World) (hn : inI n) : Calls Tryd.prog 18 #[.int .i64 n] w (fun e w' => e = .returned (.string (str (itoa n))) ∧ Ext w w') := by
  obtain ⟨S, hS⟩ : ∃ S, S = str (itoa n) := ⟨_, rfl⟩
  rw [← hS]
  have HS := Lib.hid hS
  obtain ⟨h1, h2⟩ := hn
  clear hS
  by_cases hneg : n < 0
  all_goals
    go_enter Tryd.func18, Tryd.ntmps18
    go_wp2_with fail
    go_loopw [0, 4, 5] (fun nv sv dv wr => ∃ (k : Int) (X : BL), nv = .int .i64 k ∧ sv = .string (str X) ∧ -9223372036854775808 ≤ k ∧ k ≤ 9223372036854775807 ∧ Hid (NumI n.natAbs k X) ∧ Ext w wr) (fun nv sv _ _ => 2 * (intOf nv).natAbs + sz0 sv)
    case atStart => exact ⟨n, [], rfl, rfl, h1, h2, Lib.hid ⟨fun _ => rfl, fun h => absurd rfl h⟩, Ext.refl w⟩
    case round =>
      obtain ⟨k, X, rfl, rfl, hk1, hk2, HI, hx⟩ := hrel
      have hXl := num_len (by omega) HI.out
      by_cases hk0 : k = 0
      · by_cases hX : X = []
        · -- the number 0
          have HST := Lib.hid (HI.out.step (.inr hX))
          subst hk0 hX
          have hcv := conv_one wr 0 (by omega)
          rw [show (48 + ((0 : Nat) : Int)) = 48 from rfl, show UInt8.ofNat (48 + 0) = 48 from rfl] at hcv
          clear HI hXl
          rw [show str [] = (⟨#[]⟩ : ByteArray) from rfl]
          go_wp2_with fail
          exact ⟨⟨0, [48], rfl, rfl, by omega, by omega, HST, hx.alloc _⟩, by decide⟩
        · -- the end
          have HN := Lib.hid (HI.out.next hX)
          subst hk0
          have e1 : ((str X).toList == []) = false := by
            rw [Lib.toList_data, str_list]; simpa using hX
          have e2 : (str X).toList ≠ [] := by rw [Lib.toList_data, str_list]; exact hX
          have hsz : ¬ 9223372036854775807 < 1 + X.length := by omega
          have hss : (str X).size = X.length := rfl
          have HF := Lib.hid (num_end HN.out)
          clear HI hX
          go_wp2_with fail
          go_ret
          rw [HS.out, HF.out]
          first
          | (rw [if_pos hneg]; exact ⟨by rw [cat_one]; rfl, hx⟩)
          | (rw [if_neg (by omega)]; exact ⟨congrArg (fun s => Ending.returned (.string s)) (str_append [] X), hx⟩)
      · obtain ⟨d, hd10, hdd, hdc⟩ := ds_facts k
        have HST := Lib.hid (HI.out.step (.inl hk0))
        rw [← hdd] at HST
        have hqa := tdiv_abs k
        have hcv := conv_one wr d hd10
        obtain ⟨ch, hch⟩ : ∃ ch, ch = UInt8.ofNat (48 + d) := ⟨_, rfl⟩
        rw [← hch] at hcv HST
        have hsz : ¬ 9223372036854775807 < 1 + X.length := by omega
        have hss : (str X).size = X.length := rfl
        have e1 : (k == 0) = false := by simpa using hk0
        have e2 : (k != 0) = true := by simpa using hk0
        have HQA := Lib.hid hqa
        clear hdd HI hXl hqa hch
        have r1 : -9 ≤ k.tmod 10 := by omega
        have r2 : k.tmod 10 ≤ 9 := by omega
        rcases hdc with ⟨c1, c2, c3⟩ | ⟨c1, c2⟩
        · rw [show (48 + (d : Int)) = 48 + -k.tmod 10 by omega] at hcv
          clear c2 c3
          go_wp2_with fail
          exact ⟨⟨k.tdiv 10, ch :: X, rfl, by rw [cat_one], by have := HQA.out; omega, by have := HQA.out; omega, HST, hx.alloc _⟩, by rw [cat_one]; exact meas hk0⟩
        · rw [show (48 + (d : Int)) = 48 + k.tmod 10 by omega] at hcv
          clear c2
          go_wp2_with fail
          exact ⟨⟨k.tdiv 10, ch :: X, rfl, by rw [cat_one], by have := HQA.out; omega, by have := HQA.out; omega, HST, hx.alloc _⟩, by rw [cat_one]; exact meas hk0⟩
end Go.Proofs.YtnbmmgeoglfbdaaDoor.Sc

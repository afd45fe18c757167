/- Walks: the lexer's first, Name. -/
import Derived.Test.YtnbmmgeoglfbdaaDoorSLex
set_option linter.unusedVariables false
set_option linter.unusedSimpArgs false
namespace Go.Proofs.YtnbmmgeoglfbdaaDoor.Sc
open Go.RowKit Go.Proofs.YtnbmmgeoglfbdaaDoor.Big

/-- the signs of the lexer lie in memory -/
def SignsOK (w : World) : Prop := ∃ cs t fr, w.heap[(2 : Nat)]? = some (.cells cs t fr) ∧ cs.size = 28 ∧ ∀ k, k < 28 → ∃ s, cs[k]? = some (.string s)
theorem SignsOK.ext {w w' : World} (h : SignsOK w) (k : Ext w w') : SignsOK w' := by
  obtain ⟨cs, t, fr, h1, h2⟩ := h
  refine ⟨cs, t, fr, (Below.block k _ ?_).trans h1, h2⟩
  rcases Nat.lt_or_ge (2 : Nat) w.heap.size with h' | h'
  · exact h'
  · rw [Array.getElem?_eq_none h'] at h1; cases h1
theorem index_sign (cs : Array Value) (k : Nat) (v : Value) (hk : k < 28) (hv : cs[k]? = some v) (w : World) : (Instr.index 99 (.agg cs) (.int .i64 k)).run Tryd.prog w = .ok v w := by
  have h1 : (k : Int) < 28 := by omega
  simp [Instr.index, asIntOf, run_underlying Tryd.underlying99, part, Tryd.isAgg9, Tryd.sizeOf9, h1, hk, hv, go_sem]

def First (w : World) (l : BL) (e : Ending) (w' : World) : Prop := ∃ (k n : Int), e = .returned (.tuple #[.int .u8 k, .int .i64 n]) ∧ ((k == 1) && decide (n = l.length)) = isWord l ∧ Ext w w'
set_option maxHeartbeats 2000000 in
set_option maxRecDepth 100000 in
theorem first_any (s : ByteArray) (w : World) (hs : 1 ≤ s.size) (hs2 : s.size ≤ 1000000) (hg : SignsOK w) : Calls Tryd.prog 56 #[.string s] w (First w s.data.toList) := by
  have hmf : ∀ (fn : Fn) (first cap : Array Value) (w : World), (Instr.makeFunc fn first cap).run Tryd.prog w = .ok (.func fn first cap) w := fun _ _ _ _ => rfl
  obtain ⟨l, hl⟩ : ∃ l, l = s.data.toList := ⟨_, rfl⟩
  have hll : l.length = s.size := by rw [hl]; simp
  obtain ⟨c, hc⟩ : ∃ c, c = s[0]'hs := ⟨_, rfl⟩
  have hlc : l = c :: l.drop 1 := by
    have h0 : l[0]? = some c := by rw [hl, hc, List.getElem?_eq_getElem (by simpa using (show 0 < s.size by omega))]; rfl
    cases l with
    | nil => cases h0
    | cons x r => injection h0 with h0; rw [h0]; rfl
  have HW : Hid (isWord l = (isLet c && (l.drop 1).all isInn)) := Lib.hid (by rw [hlc]; rfl)
  have HL := Lib.hid hl
  have HLL := Lib.hid hll
  have HC := Lib.hid hc
  rw [← hl]
  clear hl hll hc hlc
  obtain ⟨d, hd⟩ : ∃ d, d = isLet c := ⟨_, rfl⟩
  have HD : Hid (isLet (s[0]'hs) = d) := Lib.hid (by rw [hd, HC.out])
  rw [← hd] at HW
  clear hd HC
  have B1 := Box.new w 9 #[.string s]
  have hE : Ext w (w.alloc (.cells #[.string s] 9)) := (Ext.refl w).alloc _
  have hg1 := hg.ext hE
  have hb0 := B1.c0
  obtain ⟨cs, tt, fr, hg2, hg3, hg4⟩ := hg1
  have HG4 := Lib.hid hg4
  have HG3 := Lib.hid hg3
  clear hg4 hg3
  have his : (Tryd.prog.info? 99).map (·.size) = some cs.size := by rw [HG3.out]; kernel_rfl
  have HIS := Lib.hid his
  clear his
  cases d
  case true =>
    go_enter Tryd.func56, Tryd.ntmps56
    go_wp2_with fail
    refine (isLetter_any _ _).mono ?_
    rintro e w' ⟨rfl, rfl⟩
    rw [HD.out]
    go_wp2_with fail
    refine (count_inner s w.heap.size _ hs hs2 hb0).mono ?_
    rintro e w' ⟨n, rfl, hn, rfl⟩
    have HN := Lib.hid hn
    clear hn
    go_wp2_with fail
    go_ret2
    exact ⟨1, n, rfl, by rw [HW.out, HL.out, ← HN.out]; simp; omega, hE⟩
  case false =>
    have HW2 : Hid (isWord l = false) := Lib.hid (by rw [HW.out]; rfl)
    clear HW
    go_enter Tryd.func56, Tryd.ntmps56
    go_wp2_with fail
    refine (isLetter_any _ _).mono ?_
    rintro e w' ⟨rfl, rfl⟩
    rw [HD.out]
    go_wp2_with fail
    refine (isDigit_some _ _).mono ?_
    rintro e w' ⟨d, rfl, rfl⟩
    cases d
    case true =>
      go_wp2_with fail
      refine (count_digit s w.heap.size _ hs hs2 hb0).mono ?_
      rintro e w' ⟨n, rfl, rfl⟩
      go_wp2_with fail
      go_ret2
      exact ⟨2, n, rfl, by rw [HW2.out]; rfl, hE⟩
    case false =>
      go_wp2_with fail
      refine (isSpace_any _ _).mono ?_
      rintro e w' ⟨d, rfl, rfl⟩
      cases d
      case true =>
        go_wp2_with fail
        refine (count_space s w.heap.size _ hs hs2 hb0).mono ?_
        rintro e w' ⟨n, rfl, rfl⟩
        go_wp2_with fail
        go_ret2
        exact ⟨4, n, rfl, by rw [HW2.out]; rfl, hE⟩
      case false =>
        by_cases h35 : (((s[0]'hs).toNat : Int) == 35) = true
        · go_wp2_with fail
          refine (count_line s w.heap.size _ hs hs2 hb0).mono ?_
          rintro e w' ⟨n, rfl, rfl⟩
          go_wp2_with fail
          go_ret2
          exact ⟨5, n, rfl, by rw [HW2.out]; rfl, hE⟩
        · have h35' : (((s[0]'hs).toNat : Int) == 35) = false := by simpa using h35
          clear h35
          go_wp2_with (with_reducible refine wpList_load_row rfl _ _ rfl 2 rfl tt cs fr _ hg2 Tryd.underlying99 rfl HIS.out ?_)
          go_loopw [32] (fun i wr => ∃ k : Nat, k ≤ 28 ∧ i = .int .i64 k ∧ Ext (w.alloc (.cells #[.string s] 9)) wr) (fun i _ => 28 - (intOf i).toNat)
          case atStart => exact ⟨0, by omega, rfl, Ext.refl _⟩
          case round =>
            obtain ⟨k, hk, rfl, hx⟩ := hrel
            have hb1 := (B1.ext hx).c0
            by_cases hlt : k < 28
            · obtain ⟨sg, hsg⟩ := HG4.out k hlt
              have hi := index_sign cs k _ hlt hsg
              clear hsg
              go_wp2_with fail
              refine (Tryd.strings_HasPrefix s sg _).mono ?_
              rintro e w' ⟨rfl, rfl⟩
              obtain ⟨d, hd⟩ : ∃ d, d = Lib.hasPrefix s.data.toList sg.data.toList := ⟨_, rfl⟩
              rw [← hd]
              clear hd
              cases d
              · go_wp2_with fail
                go_roundw
                case rel => exact ⟨k + 1, by omega, by go_num, hx⟩
                case measure => simp [intOf]; omega
              · go_wp2_with fail
                go_ret2
                exact ⟨3, sg.size, rfl, by rw [HW2.out]; rfl, hE.trans hx⟩
            · go_wp2_with fail
              go_ret2
              exact ⟨0, 0, rfl, by rw [HW2.out]; rfl, hE.trans hx⟩

set_option maxHeartbeats 2000000 in
set_option maxRecDepth 100000 in
theorem Keyword_any (s : ByteArray) (w : World) : Calls Tryd.prog 55 #[.string s] w (Same w (.bool (isKey s.data.toList))) := by
  obtain ⟨K, hK⟩ : ∃ K, K = isKey s.data.toList := ⟨_, rfl⟩
  rw [← hK]
  rw [← Lib.toList_data] at hK
  have HK := Lib.hid hK
  clear hK
  go_enter Tryd.func55, Tryd.ntmps55
  go_wp2_with fail
  all_goals go_ret
  all_goals refine ⟨?_, rfl⟩
  all_goals congr 2
  all_goals rw [HK.out]
  all_goals clear HK
  all_goals unfold isKey keywords
  all_goals simp only [List.contains_eq_mem, decide_eq_true_eq, decide_eq_false_iff_not, List.mem_cons, List.not_mem_nil, or_false, beq_iff_eq, beq_eq_false_iff_ne, ne_eq, eq_comm (a := true), eq_comm (a := false)] at *
  all_goals simp_all
set_option maxHeartbeats 2000000 in
set_option maxRecDepth 100000 in
theorem Name_any (s : ByteArray) (w : World) (hg : SignsOK w) (hs63 : s.size ≤ 9223372036854775807) : Calls Tryd.prog 44 #[.string s] w (fun e w' => e = .returned (.bool (isName s.data.toList)) ∧ Ext w w') := by
  obtain ⟨l, hl⟩ : ∃ l, l = s.data.toList := ⟨_, rfl⟩
  have hll : l.length = s.size := by rw [hl]; simp
  obtain ⟨N, hN⟩ : ∃ N, N = isName l := ⟨_, rfl⟩
  obtain ⟨k, hk⟩ : ∃ k, k = isKey l := ⟨_, rfl⟩
  obtain ⟨wd, hwd⟩ : ∃ wd, wd = isWord l := ⟨_, rfl⟩
  have HN : Hid (N = (wd && decide (l.length ≤ 12) && !k)) := Lib.hid (by rw [hN, hk, hwd]; rfl)
  have HK := Lib.hid hk
  have HL := Lib.hid hl
  have HLL := Lib.hid hll
  have HWD := Lib.hid hwd
  rw [← hl, ← hN]
  clear hN hk hll hwd hl
  by_cases h0 : s.size = 0
  · have he : s.toList = [] := by rw [Lib.toList_data]; exact List.eq_nil_of_length_eq_zero (by simpa using h0)
    have HF : Hid (N = false) := Lib.hid (by rw [HN.out, HWD.out, HL.out, ← Lib.toList_data, he]; rfl)
    clear h0
    go_enter Tryd.func44, Tryd.ntmps44
    go_wp2_with fail
    go_ret
    exact ⟨by rw [HF.out]; rfl, Ext.refl _⟩
  · have he0 : ¬ s.toList = [] := by
      intro h; rw [Lib.toList_data] at h; have h2 : s.data.toList.length = s.size := (Lib.size_eq s).symm; rw [h] at h2; exact h0 h2.symm
    have he : s.toList.isEmpty = false := by rw [← Bool.not_eq_true, List.isEmpty_iff]; exact he0
    by_cases h12 : 12 < s.size
    · have HF : Hid (N = false) := Lib.hid (by
        have h : decide (s.size ≤ 12) = false := by simp; omega
        rw [HN.out, HLL.out, h]; simp)
      go_enter Tryd.func44, Tryd.ntmps44
      go_wp2_with fail
      go_ret
      exact ⟨by rw [HF.out]; rfl, Ext.refl _⟩
    · cases k
      case true =>
        have HF : Hid (N = false) := Lib.hid (by rw [HN.out]; simp)
        go_enter Tryd.func44, Tryd.ntmps44
        go_wp2_with fail
        refine (Keyword_any _ _).mono ?_
        rintro e w' ⟨rfl, rfl⟩
        rw [← HL.out, ← HK.out]
        go_wp2_with fail
        go_ret
        exact ⟨by rw [HF.out]; rfl, Ext.refl _⟩
      case false =>
        go_enter Tryd.func44, Tryd.ntmps44
        go_wp2_with fail
        refine (Keyword_any _ _).mono ?_
        rintro e w' ⟨rfl, rfl⟩
        rw [← HL.out, ← HK.out]
        go_wp2_with fail
        refine (first_any s _ (by omega) (by omega) hg).mono ?_
        rintro e w' ⟨a, n, rfl, hn, hx⟩
        rw [← HL.out] at hn
        have HR : Hid (N = ((a == 1) && (n == (s.size : Int)))) := Lib.hid (by
          rw [HN.out, HWD.out, ← hn, HLL.out]
          have : decide (s.size ≤ 12) = true := by simp; omega
          rw [this]
          simp only [Bool.and_true, Bool.not_false]
          congr 1)
        clear hn
        by_cases ha : (a == 1) = true
        · have HR2 : Hid (N = (n == (s.size : Int))) := Lib.hid (by rw [HR.out, ha]; rfl)
          clear HR
          go_wp2_with fail
          go_ret
          exact ⟨by rw [HR2.out]; rfl, hx⟩
        · have ha' : (a == 1) = false := by simpa using ha
          have HR2 : Hid (N = false) := Lib.hid (by rw [HR.out, ha']; rfl)
          clear HR ha
          go_wp2_with fail
          go_ret
          exact ⟨by rw [HR2.out]; rfl, hx⟩
end Go.Proofs.YtnbmmgeoglfbdaaDoor.Sc

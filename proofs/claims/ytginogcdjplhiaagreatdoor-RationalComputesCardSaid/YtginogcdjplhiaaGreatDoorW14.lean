/- Walks: Parse. -/
import Derived.Test.YtginogcdjplhiaaGreatDoorW13
import Derived.Lib.IndexBytes
set_option linter.unusedVariables false
set_option linter.unusedSimpArgs false
namespace Go.Proofs.YtginogcdjplhiaaGreatDoor.Big
open Go.RowKit

/-- the number that decimal digits write -/
def valD (l : List UInt8) : Nat := l.foldl (fun a c => a * 10 + (c.toNat - 48)) 0
def parseZ (l : List UInt8) : Int := sgn (negd l) (valD (rest l))
theorem foldl_valD (l : List UInt8) : ∀ a, l.foldl (fun a c => a * 10 + (c.toNat - 48)) a = a * 10 ^ l.length + valD l := by
  unfold valD
  induction l with
  | nil => intro a; simp
  | cons c l ih =>
    intro a
    simp only [List.foldl_cons, List.length_cons]
    rw [ih, ih (0 * 10 + (c.toNat - 48)), Nat.pow_succ, Nat.zero_mul, Nat.zero_add, Nat.add_mul, Nat.mul_assoc, Nat.mul_comm 10, Nat.add_assoc]
theorem valD_append (l m : List UInt8) : valD (l ++ m) = valD l * 10 ^ m.length + valD m := by
  conv => lhs; unfold valD
  rw [List.foldl_append, foldl_valD]
  rfl
theorem valD_one (c : UInt8) : valD [c] = c.toNat - 48 := by simp [valD]
theorem digs_append (l m : List UInt8) : digs (l ++ m) = (digs l && digs m) := by unfold digs; exact List.all_append
theorem valD_lt {l : List UInt8} (h : digs l = true) : valD l < 10 ^ l.length := by
  induction l with
  | nil => simp [valD]
  | cons c l ih =>
    have h' : digs ([c] ++ l) = true := h
    rw [digs_append, Bool.and_eq_true] at h'
    have h1 := ih h'.2
    have h2 : valD (c :: l) = valD [c] * 10 ^ l.length + valD l := valD_append [c] l
    rw [h2, valD_one, List.length_cons, Nat.pow_succ]
    have h3 : c.toNat - 48 ≤ 9 := by
      have := h'.1; unfold digs at this; simp [UInt8.le_iff_toNat_le] at this; omega
    have h4 : (c.toNat - 48) * 10 ^ l.length ≤ 9 * 10 ^ l.length := Nat.mul_le_mul_right _ h3
    omega
theorem ten_le_pw (k : Nat) : 10 ^ k ≤ pw k := Nat.pow_le_pow_left (by omega) k

def strLen : Value → Nat | .string q => q.size | _ => 0
theorem digs_get {l : List UInt8} (h : digs l = true) {j : Nat} (hj : j < l.length) : 48 ≤ l[j].toNat ∧ l[j].toNat ≤ 57 := by
  unfold digs at h
  rw [List.all_eq_true] at h
  have := h _ (List.getElem_mem hj)
  simp [UInt8.le_iff_toNat_le] at this
  exact this
theorem digs_drop {l : List UInt8} (h : digs l = true) (k : Nat) : digs (l.drop k) = true := by
  have : digs (l.take k ++ l.drop k) = true := by rw [List.take_append_drop]; exact h
  rw [digs_append, Bool.and_eq_true] at this; exact this.2
theorem digs_take {l : List UInt8} (h : digs l = true) (k : Nat) : digs (l.take k) = true := by
  have : digs (l.take k ++ l.drop k) = true := by rw [List.take_append_drop]; exact h
  rw [digs_append, Bool.and_eq_true] at this; exact this.1
theorem valD_succ {l : List UInt8} {j : Nat} (hj : j < l.length) : valD (l.take (j + 1)) = valD (l.take j) * 10 + (l[j].toNat - 48) := by
  rw [List.take_succ_eq_append_getElem hj, valD_append, valD_one]; rfl

def zeroAgg : Value := .agg #[.bool false, .slice none 0 0]
def ErrPost (w : World) (n : Int) (e : Ending) (w' : World) : Prop := e = .returned (.tuple #[zeroAgg, .int .i64 n]) ∧ Ext w w'
def OkPost (w : World) (z : Int) (e : Ending) (w' : World) : Prop := ∃ v, e = .returned (.tuple #[v, .int .i64 0]) ∧ BigV w' v z ∧ Ext w w'

set_option maxHeartbeats 1000000 in
theorem Parse_full (s : ByteArray) (w : World) (hs : 4096 < s.size) (hs2 : s.size ≤ 1099511627776) : Calls Tryz.prog 55 #[.string s] w (ErrPost w 5) := by
  go_enter Tryz.func55, Tryz.ntmps55
  go_wp2_with fail
  refine bodyPost_ret (v := .tuple #[.agg #[.bool false, .slice none 0 0], .int .i64 5]) (by simp [results, Tryz.results55, go_sem]) rfl ?_
  exact ⟨rfl, (Ext.refl w).alloc _⟩

set_option maxHeartbeats 1000000 in
theorem Parse_form (s : ByteArray) (w : World) (hs : s.size ≤ 4096) (h : isDec s.data.toList = false) : Calls Tryz.prog 55 #[.string s] w (ErrPost w 3) := by
  have H := Lib.hid h
  clear h
  go_enter Tryz.func55, Tryz.ntmps55
  go_wp2_with fail
  refine (isDecimal_any _ _ (by omega)).mono ?_
  rintro e w' ⟨rfl, rfl⟩
  rw [H.out]
  go_wp2_with fail
  refine bodyPost_ret (v := .tuple #[.agg #[.bool false, .slice none 0 0], .int .i64 3]) (by simp [results, Tryz.results55, go_sem]) rfl ?_
  exact ⟨rfl, (Ext.refl w).alloc _⟩

set_option maxHeartbeats 2000000 in
theorem Parse_ok (s : ByteArray) (w : World) (hs : s.size ≤ 4096) (h : isDec s.data.toList = true) : Calls Tryz.prog 55 #[.string s] w (OkPost w (parseZ s.data.toList)) := by
  have H := Lib.hid h
  have hd : digs (rest s.data.toList) = true := by unfold isDec at h; simp at h; exact h.1.2
  have hsz := cutS_size s
  obtain ⟨r, hr⟩ : ∃ r, r = cutS s := ⟨_, rfl⟩
  obtain ⟨l, hl⟩ : ∃ l, l = rest s.data.toList := ⟨_, rfl⟩
  have hrl : r.data.toList = l := by rw [hl, hr, cutS_list]
  obtain ⟨ng, hng⟩ : ∃ ng, ng = negd s.data.toList := ⟨_, rfl⟩
  obtain ⟨Z, hZ⟩ : ∃ Z, Z = parseZ s.data.toList := ⟨_, rfl⟩
  have hZ2 : sgn ng (valD l) = Z := by rw [hZ, hng, hl]; rfl
  rw [← hZ]
  rw [← hr] at hsz
  rw [← hl] at hd
  have hlen : l.length = r.size := by rw [← hrl]; simp
  have HR := Lib.hid hr
  have HN := Lib.hid hng
  have HZ := Lib.hid hZ2
  have HDG := Lib.hid hd
  have HRL := Lib.hid hrl
  have hl4 : l.length ≤ 4096 := by omega
  have HLEN := Lib.hid hlen
  clear h hr hl hng hZ hZ2 hd hrl hlen
  go_enter Tryz.func55, Tryz.ntmps55
  go_wp2_with fail
  refine (isDecimal_any _ _ (by omega)).mono ?_
  rintro e w' ⟨rfl, rfl⟩
  rw [H.out]
  go_wp2_with fail
  refine (cut_any _ _).mono ?_
  rintro e w' ⟨rfl, rfl⟩
  rw [← HR.out, ← HN.out]
  go_wp2_with fail
  have B0 := Box.new w 26 #[.bool false, .slice none 0 0]
  have hE0 : Ext w (w.alloc (.cells #[.bool false, .slice none 0 0] 26)) := (Ext.refl w).alloc _
  generalize w.alloc (.cells #[.bool false, .slice none 0 0] 26) = W0 at *
  go_loopw [4, 6] (fun rs ds wr => ∃ (q : ByteArray) (k n c : Nat) (A : Option Addr), rs = .string q ∧ ds = .slice A n c ∧ k ≤ l.length ∧ q.size = l.length - k ∧ Hid (q.data.toList = l.drop k) ∧ Dig wr (.slice A n c) n (valD (l.take k)) ∧ Trm n (valD (l.take k)) ∧ Ext W0 wr)
    (fun rs _ _ => strLen rs)
  case atStart => exact ⟨r, 0, 0, 0, none, rfl, rfl, by omega, by have := HLEN.out; omega, Lib.hid (by rw [HRL.out]; rfl), Dig.nil _, .inl rfl, Ext.refl _⟩
  case round =>
    obtain ⟨q, k, n, c, A, rfl, rfl, hk, hq, HQ, hdig, htrm, hext⟩ := hrel
    have hqs : q.size ≤ 4096 := by omega
    have HQS := Lib.hid hq
    clear hq
    by_cases h0 : 0 < q.size
    · by_cases hz : q.size % 9 = 0
      · have e1 : (((q.size : Int) % 9) == 0) = true := by simp; omega
        have hs9 : 9 ≤ q.size := by omega
        go_wp2_with fail
        clear e1 hz
        go_loop [8, 9, 33] (fun v sc i => ∃ j : Nat, j ≤ 9 ∧ i = .int .i64 j ∧ (∃ V : Nat, v = .int .u64 V ∧ V < 1000000000 ∧ Hid (V = valD (q.data.toList.take j))) ∧ (∃ T : Nat, sc = .int .u64 T ∧ T ≤ 1000000000 ∧ Hid (T = 10 ^ j))) (fun _ _ i => (9) - (intOf i).toNat)
        case atStart => exact ⟨0, by omega, rfl, ⟨0, rfl, by omega, Lib.hid (by simp [valD])⟩, ⟨1, rfl, by omega, Lib.hid rfl⟩⟩
        case round =>
          obtain ⟨j, hj, rfl, ⟨V, rfl, hV, HV⟩, ⟨T, rfl, hT, HT⟩⟩ := hrel
          have hql : q.data.toList.length = q.size := by simp
          have HQL := Lib.hid hql
          clear hql
          have hdq : digs q.data.toList = true := by rw [HQ.out]; exact digs_drop HDG.out k
          by_cases hlt : j < 9
          · have hjq : j < q.size := by omega
            obtain ⟨hc1, hc2⟩ := digs_get hdq (j := j) (by rw [HQL.out]; exact hjq)
            have eg : q.data.toList[j]'(by rw [HQL.out]; exact hjq) = q[j]'hjq := rfl
            have hVn : valD (q.data.toList.take (j + 1)) = V * 10 + ((q[j]'hjq).toNat - 48) := by rw [valD_succ (by rw [HQL.out]; exact hjq), ← HV.out, eg]
            rw [eg] at hc1 hc2
            have hV2 : V * 10 + ((q[j]'hjq).toNat - 48) < 1000000000 := by
              rw [← hVn]
              refine Nat.lt_of_lt_of_le (valD_lt (digs_take hdq (j + 1))) ?_
              rw [List.length_take]
              exact Nat.le_trans (Nat.pow_le_pow_right (by omega) (Nat.min_le_left _ _)) (Nat.pow_le_pow_right (n := 10) (j := 9) (by omega) (by omega))
            have hT2 : T * 10 ≤ 1000000000 := by
              rw [HT.out, ← Nat.pow_succ]
              exact Nat.pow_le_pow_right (n := 10) (j := 9) (by omega) (by omega)
            have HVN := Lib.hid hVn
            clear hVn eg hdq
            go_wp2_with fail
            go_round
            case rel => exact ⟨j + 1, by omega, by go_num, ⟨V * 10 + ((q[j]'hjq).toNat - 48), by go_num, hV2, Lib.hid HVN.out.symm⟩, ⟨T * 10, by go_num, hT2, Lib.hid (by rw [HT.out, Nat.pow_succ])⟩⟩
            case measure => simp [intOf]; omega
          · have hj2 : j = 9 := by omega
            have HJ := Lib.hid hj2
            have hVT : V < T := by
              rw [HV.out, HT.out]
              refine Nat.lt_of_lt_of_le (valD_lt (digs_take hdq j)) (Nat.pow_le_pow_right (by omega) ?_)
              rw [List.length_take]; exact Nat.min_le_left _ _
            have hnk : n ≤ k := htrm.le (Nat.lt_of_lt_of_le (valD_lt (digs_take HDG.out k)) (Nat.le_trans (Nat.pow_le_pow_right (by omega) (by rw [List.length_take]; exact Nat.min_le_left _ _)) (ten_le_pw k)))
            clear hj2 hdq
            go_wp2_with fail
            refine (scaled_any _ _ _ _ _ _ hdig (by omega) (by omega) hVT (by omega)).mono ?_
            rintro e w2 ⟨v2, n2, rfl, hd2, ht2, hx2⟩
            have hd2' := hd2
            obtain ⟨A2, c2, rfl, _⟩ := hd2'
            have hval : valD (l.take (k + (9))) = valD (l.take k) * T + V := by
              rw [List.take_add, valD_append, ← HQ.out, List.length_take, HQL.out, Nat.min_eq_left (by omega), HT.out, HV.out, HJ.out]
            rw [← hval] at hd2 ht2
            have HVAL := Lib.hid hval
            clear hval
            go_wp2_with fail
            go_roundw
            case rel =>
              have hqs2 := HQS.out
              refine ⟨_, k + (9), n2, c2, A2, rfl, rfl, by omega, by simp; omega, Lib.hid ?_, hd2, ht2, hext.trans hx2⟩
              rw [Lib.extract_to_end, HQ.out, List.drop_drop]
            case measure => simp [strLen]; omega
      · have e1 : (((q.size : Int) % 9) == 0) = false := by simp; omega
        have hs9 : q.size % 9 ≤ 8 := by omega
        have hs8 : 1 ≤ q.size % 9 := by omega
        have hs7 : q.size % 9 ≤ q.size := Nat.mod_le _ _
        clear hz
        go_wp2_with fail
        clear e1
        go_loop [8, 9, 33] (fun v sc i => ∃ j : Nat, j ≤ q.size % 9 ∧ i = .int .i64 j ∧ (∃ V : Nat, v = .int .u64 V ∧ V < 1000000000 ∧ Hid (V = valD (q.data.toList.take j))) ∧ (∃ T : Nat, sc = .int .u64 T ∧ T ≤ 1000000000 ∧ Hid (T = 10 ^ j))) (fun _ _ i => (q.size % 9) - (intOf i).toNat)
        case atStart => exact ⟨0, by omega, rfl, ⟨0, rfl, by omega, Lib.hid (by simp [valD])⟩, ⟨1, rfl, by omega, Lib.hid rfl⟩⟩
        case round =>
          obtain ⟨j, hj, rfl, ⟨V, rfl, hV, HV⟩, ⟨T, rfl, hT, HT⟩⟩ := hrel
          have hql : q.data.toList.length = q.size := by simp
          have HQL := Lib.hid hql
          clear hql
          have hdq : digs q.data.toList = true := by rw [HQ.out]; exact digs_drop HDG.out k
          by_cases hlt : j < q.size % 9
          · have hjq : j < q.size := by omega
            obtain ⟨hc1, hc2⟩ := digs_get hdq (j := j) (by rw [HQL.out]; exact hjq)
            have eg : q.data.toList[j]'(by rw [HQL.out]; exact hjq) = q[j]'hjq := rfl
            have hVn : valD (q.data.toList.take (j + 1)) = V * 10 + ((q[j]'hjq).toNat - 48) := by rw [valD_succ (by rw [HQL.out]; exact hjq), ← HV.out, eg]
            rw [eg] at hc1 hc2
            have hV2 : V * 10 + ((q[j]'hjq).toNat - 48) < 1000000000 := by
              rw [← hVn]
              refine Nat.lt_of_lt_of_le (valD_lt (digs_take hdq (j + 1))) ?_
              rw [List.length_take]
              exact Nat.le_trans (Nat.pow_le_pow_right (by omega) (Nat.min_le_left _ _)) (Nat.pow_le_pow_right (n := 10) (j := 9) (by omega) (by omega))
            have hT2 : T * 10 ≤ 1000000000 := by
              rw [HT.out, ← Nat.pow_succ]
              exact Nat.pow_le_pow_right (n := 10) (j := 9) (by omega) (by omega)
            have HVN := Lib.hid hVn
            clear hVn eg hdq
            go_wp2_with fail
            go_round
            case rel => exact ⟨j + 1, by omega, by go_num, ⟨V * 10 + ((q[j]'hjq).toNat - 48), by go_num, hV2, Lib.hid HVN.out.symm⟩, ⟨T * 10, by go_num, hT2, Lib.hid (by rw [HT.out, Nat.pow_succ])⟩⟩
            case measure => simp [intOf]; omega
          · have hj2 : j = q.size % 9 := by omega
            have HJ := Lib.hid hj2
            have hVT : V < T := by
              rw [HV.out, HT.out]
              refine Nat.lt_of_lt_of_le (valD_lt (digs_take hdq j)) (Nat.pow_le_pow_right (by omega) ?_)
              rw [List.length_take]; exact Nat.min_le_left _ _
            have hnk : n ≤ k := htrm.le (Nat.lt_of_lt_of_le (valD_lt (digs_take HDG.out k)) (Nat.le_trans (Nat.pow_le_pow_right (by omega) (by rw [List.length_take]; exact Nat.min_le_left _ _)) (ten_le_pw k)))
            clear hj2 hdq
            go_wp2_with fail
            refine (scaled_any _ _ _ _ _ _ hdig (by omega) (by omega) hVT (by omega)).mono ?_
            rintro e w2 ⟨v2, n2, rfl, hd2, ht2, hx2⟩
            have hd2' := hd2
            obtain ⟨A2, c2, rfl, _⟩ := hd2'
            have hval : valD (l.take (k + (q.size % 9))) = valD (l.take k) * T + V := by
              rw [List.take_add, valD_append, ← HQ.out, List.length_take, HQL.out, Nat.min_eq_left (by omega), HT.out, HV.out, HJ.out]
            rw [← hval] at hd2 ht2
            have HVAL := Lib.hid hval
            clear hval
            go_wp2_with fail
            go_roundw
            case rel =>
              have hqs2 := HQS.out
              refine ⟨_, k + (q.size % 9), n2, c2, A2, rfl, rfl, by omega, by simp; omega, Lib.hid ?_, hd2, ht2, hext.trans hx2⟩
              rw [Lib.extract_to_end, HQ.out, List.drop_drop]
            case measure => simp [strLen]; omega
    · have hkl : k = l.length := by have := HQS.out; omega
      have hval : valD (l.take k) = valD l := by rw [hkl, List.take_length]
      rw [hval] at hdig htrm
      clear hkl hval
      go_wp2_with fail
      refine (signed_any _ _ _ _ _ hdig).mono ?_
      rintro e w2 ⟨v2, rfl, hb2, hxB⟩
      rw [HZ.out] at hb2
      obtain ⟨A3, n3, c3, rfl, hd3, ht3⟩ := hb2.form
      have b2 := (B0.ext hext).ext hxB
      have q0 := b2.c0
      have q1 := b2.c1
      have f0 := b2.frozen 0
      have f1 := b2.frozen 1
      go_wp2_with fail
      obtain ⟨p1, p2, p3⟩ := hb2.put b2
      refine bodyPost_ret (v := .tuple #[.agg #[.bool (decide (Z < 0)), .slice A3 n3 c3], .int .i64 0]) (by simp [results, Tryz.results55, go_sem, p2, p3]) rfl ?_
      exact ⟨_, rfl, p1, (((hE0.trans hext).trans hxB).set (by simp) _).set (by simp) _⟩

end Go.Proofs.YtginogcdjplhiaaGreatDoor.Big

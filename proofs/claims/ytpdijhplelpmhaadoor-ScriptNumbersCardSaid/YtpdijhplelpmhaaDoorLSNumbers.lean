/- Walk: the law ScriptNumbers. -/
import Derived.Test.YtpdijhplelpmhaaDoorSRNum
import Derived.Test.YtpdijhplelpmhaaDoorLSFull
set_option linter.unusedVariables false
set_option linter.unusedSimpArgs false
namespace Go.Proofs.YtpdijhplelpmhaaDoor.Sc
open Go.RowKit Go.Proofs.YtpdijhplelpmhaaDoor.Big
open Go.Lib (itoa decDigits)

def RUN : BL := [114, 117, 110, 32]
theorem run_form (n : Int) : formatL [⟨8, [], [n], []⟩] = RUN ++ itoa n ++ [10] := by
  unfold formatL formatC lineC numT
  simp [fN, fT, word, words, RUN]
theorem run_good {n : Int} (hn : inI n) : Good [⟨8, [], [n], []⟩] := fun c hc => by
  simp only [List.mem_singleton] at hc; subst hc
  exact ⟨rfl, fun v hv => by simp at hv; subst hv; exact hn⟩
theorem numsL_none {fs : List BL} {f : BL} (hf : f ∈ fs) (h : num f = none) : numsL fs = none := by
  cases e : numsL fs with
  | none => rfl
  | some ns =>
    exfalso
    obtain ⟨h1, h2⟩ := numsL_inv e
    rw [h1, List.mem_map] at hf
    obtain ⟨v, hv, rfl⟩ := hf
    rw [num_itoa (h2 v hv)] at h; cases h
theorem run_bad {X : BL} (h10 : (10 : UInt8) ∉ X) {f : BL} (hf : f ∈ parts 32 X) (hn : num f = none) : parse (RUN ++ X ++ [10]) = .err 1 3 := by
  have hcut : cutB 10 (RUN ++ X ++ [10]) = some (RUN ++ X, []) := by
    refine cutB_some ?_
    rw [List.mem_append]
    rintro (h | h)
    · revert h; decide
    · exact h10 h
  have hhead : headL (RUN ++ X) = ([114, 117, 110], parts 32 X) := by
    unfold headL
    rw [show RUN ++ X = [114, 117, 110] ++ 32 :: X from rfl, cutB_some (by decide)]
  have hfirst : firstL (RUN ++ X) = none := by
    unfold firstL
    rw [hhead]
    simp only []
    rw [show findW [114, 117, 110] words 0 = some 7 from rfl]
    simp only []
    unfold bodyL
    rw [show namePart 7 (parts 32 X) = some ([], parts 32 X) from rfl]
    simp only []
    rw [numsL_none hf hn]
  refine parse_step_err (by simp [RUN]) ?_
  unfold step
  rw [hcut]
  simp only []
  rw [hfirst]
theorem parts_self {X : BL} (h : (32 : UInt8) ∉ X) : X ∈ parts 32 X := by rw [parts_none h]; simp
theorem num_no {X : BL} (h : ∀ v, X ≠ itoa v) : num X = none := by
  cases e : num X with
  | none => rfl
  | some v => exact absurd (num_some e).1 (h v)
theorem dec_zero : ∀ (u : Nat) (r : BL), decDigits u = 48 :: r → u = 0 ∧ r = [] := by
  intro u
  induction u using Nat.strongRecOn with
  | _ u ih =>
    intro r h
    by_cases hu : u < 10
    · rw [decDigits, dif_pos hu] at h
      injection h with h1 h2
      have := congrArg UInt8.toNat h1
      rw [dig_toNat u hu] at this
      exact ⟨by simp at this; omega, h2.symm⟩
    · rw [decDigits, dif_neg hu] at h
      cases e : decDigits (u / 10) with
      | nil => exact absurd e (dec_ne _)
      | cons c r' =>
        rw [e, List.cons_append] at h
        injection h with h1 h2
        subst h1
        have := (ih (u / 10) (by omega) r' e).1
        omega
theorem num_lead (n : Int) : num (48 :: itoa n) = none := num_no fun v h => by
  have hne := itoa_ne n
  generalize itoa n = T at h hne
  unfold itoa at h
  split at h
  · injection h with h1 _; revert h1; decide
  · exact hne (dec_zero _ _ h.symm).2
theorem num_plus (n : Int) : num (43 :: itoa n) = none := num_no fun v h => by
  have := itoa_mem v 43 (by rw [← h]; simp)
  revert this; decide
theorem num_minus0 (r : BL) : num (45 :: 48 :: r) = none := num_no fun v h => by
  unfold itoa at h
  split at h
  · injection h with _ h2
    have := (dec_zero _ _ h2.symm).1
    omega
  · have := dec_dig _ 45 (by rw [← h]; simp)
    revert this; decide
theorem num_char {X : BL} {c : UInt8} (hc : c ∈ X) (h1 : c ≠ 45) (h2 : c.toNat < 48 ∨ 57 < c.toNat) : num X = none := num_no fun v h => itoa_no v c h1 h2 (by rw [← h]; exact hc)
theorem num_nil : num [] = none := num_no fun v h => itoa_ne v h.symm
theorem repeatL_add (l : BL) (a b : Nat) : Lib.repeatL l (a + b) = Lib.repeatL l a ++ Lib.repeatL l b := by
  induction a with
  | zero => rw [Nat.zero_add]; rfl
  | succ a ih =>
    rw [show a + 1 + b = (a + b) + 1 by omega]
    show l ++ Lib.repeatL l (a + b) = (l ++ Lib.repeatL l a) ++ Lib.repeatL l b
    rw [ih, List.append_assoc]
theorem num_nines (k : Nat) : num (Lib.repeatL [57] (20 + k)) = none := by
  cases e : num (Lib.repeatL [57] (20 + k)) with
  | none => rfl
  | some v =>
    exfalso
    obtain ⟨h1, h2, h3⟩ := num_some e
    have hr : Lib.repeatL [57] (20 + k) = Lib.repeatL [57] 20 ++ Lib.repeatL [57] k := repeatL_add _ _ _
    unfold itoa at h1
    split at h1
    · rw [hr] at h1
      injection h1 with h1 _; revert h1; decide
    · have h4 := parse_dec v.toNat (by omega)
      rw [← h1, hr, parseUint10_append] at h4
      rw [show Lib.parseUint10 0 (Lib.repeatL [57] 20) = .range from by decide] at h4
      cases h4
/-- what is bad -/
def Bad (X : BL) : Prop := (10 : UInt8) ∉ X ∧ ∃ f ∈ parts 32 X, num f = none
theorem bad_of {X : BL} (h10 : (10 : UInt8) ∉ X) (h32 : (32 : UInt8) ∉ X) (h : num X = none) : Bad X := ⟨h10, X, parts_self h32, h⟩
theorem itoa_no' (n : Int) {c : UInt8} (h : c = 10 ∨ c = 32) : c ∉ itoa n := by rcases h with rfl | rfl <;> first | exact itoa_no10 n | exact itoa_no32 n
/-- the nine spellings -/
def spell (n : Int) (lead : Nat) : List BL := [48 :: itoa n, 43 :: itoa n, [45, 48] ++ Lib.trimPrefix (itoa n) [45], itoa n ++ [32], 32 :: itoa n, itoa n ++ [46], [45] ++ Lib.repeatL [45] (lead % 3) ++ [120], Lib.repeatL [57] (20 + lead % 30), []]
theorem trim_sub (l p : BL) {c : UInt8} (h : c ∉ l) : c ∉ Lib.trimPrefix l p := by
  unfold Lib.trimPrefix
  split
  · exact fun hm => h (List.mem_of_mem_drop hm)
  · exact h
theorem rep_mem {l : BL} {c : UInt8} : ∀ {k}, c ∈ Lib.repeatL l k → c ∈ l
  | 0, h => by cases h
  | k + 1, h => by
    have h : c ∈ l ++ Lib.repeatL l k := h
    rw [List.mem_append] at h
    rcases h with h | h
    · exact h
    · exact rep_mem h
theorem rep_no {l : BL} {c : UInt8} (h : c ∉ l) (k : Nat) : c ∉ Lib.repeatL l k := fun hm => h (rep_mem hm)
theorem spell_bad (n : Int) (lead : Nat) : ∀ X ∈ spell n lead, Bad X := by
  intro X hX
  unfold spell at hX
  simp only [List.mem_cons, List.not_mem_nil, or_false] at hX
  have a10 := itoa_no10 n
  have a32 := itoa_no32 n
  have t10 := trim_sub (itoa n) [45] a10
  have t32 := trim_sub (itoa n) [45] a32
  rcases hX with rfl | rfl | rfl | rfl | rfl | rfl | rfl | rfl | rfl
  · exact bad_of (by simp [a10]) (by simp [a32]) (num_lead n)
  · exact bad_of (by simp [a10]) (by simp [a32]) (num_plus n)
  · exact bad_of (by simp [t10]) (by simp [t32]) (num_minus0 _)
  · refine ⟨by simp [a10], [], ?_, num_nil⟩
    rw [parts_some a32]; simp [parts]
  · refine ⟨by simp [a10], [], ?_, num_nil⟩
    simp [parts]
  · exact bad_of (by simp [a10]) (by simp [a32]) (num_char (c := 46) (by simp) (by decide) (.inl (by decide)))
  · have r10 := rep_no (l := [45]) (c := 10) (by decide) (lead % 3)
    have r32 := rep_no (l := [45]) (c := 32) (by decide) (lead % 3)
    exact bad_of (by simp [r10]) (by simp [r32]) (num_char (c := 120) (by simp) (by decide) (.inr (by decide)))
  · exact bad_of (rep_no (by decide) _) (rep_no (by decide) _) (num_nines _)
  · exact ⟨by simp, [], by simp [parts], num_nil⟩
theorem spell_len {n : Int} (hn : inI n) (lead : Nat) : ∀ X ∈ spell n lead, X.length ≤ 60 := by
  intro X hX
  have h1 := Lib.itoa_length_le n hn.1 hn.2
  have h2 : (Lib.trimPrefix (itoa n) [45]).length ≤ (itoa n).length := by unfold Lib.trimPrefix; split <;> simp
  unfold spell at hX
  simp only [List.mem_cons, List.not_mem_nil, or_false] at hX
  rcases hX with rfl | rfl | rfl | rfl | rfl | rfl | rfl | rfl | rfl <;> simp [Lib.repeatL_length] <;> omega
theorem cat_run (X : BL) : (⟨#[114, 117, 110, 32]⟩ : ByteArray) ++ str X ++ ⟨#[10]⟩ = str (RUN ++ X ++ [10]) := by
  rw [show (⟨#[114, 117, 110, 32]⟩ : ByteArray) = str RUN from rfl, show (⟨#[10]⟩ : ByteArray) = str [10] from rfl, str_append, str_append]
theorem row_alloc (w : World) (E : TypeId) (cs : Array Value) (vs : List Value) (h : cs.toList = vs) (hn : vs.length ≤ 9223372036854775807) : Row (w.alloc (.cells cs E)) (.slice (some ⟨w.heap.size, 0, none⟩) vs.length vs.length) vs := by
  refine ⟨_, vs.length, rfl, Nat.le_refl _, hn, fun _ => ⟨_, 0, rfl, fun j u hj => ?_⟩⟩
  rw [Nat.zero_add, World.cell?_alloc_new, ← hj, ← h]
  simp
set_option maxHeartbeats 4000000 in
set_option maxRecDepth 100000 in
theorem numbers_law (n : Int) (m : Nat) (w : World) (hn : inI n) (hm : m ≤ 255) (he : Env w) (hf : FormatsOK w) : Calls Tryd.prog 10 #[.int .i64 n, .int .u8 m] w (BoolPost w true) := by
  obtain ⟨T, hT⟩ : ∃ T, T = itoa n := ⟨_, rfl⟩
  obtain ⟨Sp, hSp⟩ : ∃ Sp, Sp = spell n m := ⟨_, rfl⟩
  have HSp := Lib.hid hSp
  have HT := Lib.hid hT
  have hTl : T.length ≤ 21 := by rw [hT]; exact Lib.itoa_length_le n hn.1 hn.2
  obtain ⟨n1, n2⟩ := hn
  clear hT hSp
  go_enter Tryd.func10, Tryd.ntmps10
  go_wp2_with fail
  refine (awake_any _ he hf).mono ?_
  rintro e w1 ⟨rfl, hx1⟩
  go_wp2_with fail
  refine (Number_any n _ ⟨n1, n2⟩).mono ?_
  rintro e w2 ⟨rfl, hx2⟩
  rw [← HT.out]
  have hX2 := hx1.trans hx2
  have hs1 : ¬ 9223372036854775807 < 4 + T.length := by omega
  have hs2 : ¬ 9223372036854775807 < 4 + T.length + 1 := by omega
  have hss : (str T).size = T.length := rfl
  go_wp2_with fail
  rw [cat_run]
  refine (Parse_fmt _ [⟨8, [], [n], []⟩] _ (by rw [run_form, HT.out]) (run_good ⟨n1, n2⟩) (by simp) (he.ext hX2) (hf.ext hX2)).mono ?_
  rintro e w3 ⟨⟨A, k, c, rfl, hv⟩, hx3⟩
  obtain ⟨b, off, A', n', c', rfl, p0, p1, p2, p3, p4⟩ := hv.at_ (k := 0) (by simp)
  have hk : k = 1 := hv.inj.1
  have hcap : 1 ≤ c := hv.inj.2.1
  subst hk
  have hq4 : Row w3 (.slice A' n' c') (iV [n]) := p4
  have t2 : w3.cell? ⟨b, off + 2, none⟩ = some (.slice A' n' c') := p2
  have hX3 := hX2.trans hx3
  clear p0 p1 p2 p3 p4 hv
  go_wp2_with fail
  have hE1 : Ext w3 (w3.alloc (.cells #[.int .i64 n] 3)) := (Ext.refl w3).alloc _
  have hrw : Row (w3.alloc (.cells #[.int .i64 n] 3)) (.slice (some ⟨w3.heap.size, 0, none⟩) 1 1) (iV [n]) := by
    refine ⟨_, 1, rfl, by simp, by omega, fun _ => ⟨_, 0, rfl, fun j u hj => ?_⟩⟩
    rw [Nat.zero_add, World.cell?_alloc_new]
    match j, hj with
    | 0, hj => simpa [iV] using hj
    | j + 1, hj => simp [iV] at hj
  refine (EqInts_any A' _ n' c' 1 1 [n] [n] _ (hq4.ext hE1) hrw).mono ?_
  rintro e w4 ⟨rfl, hx4⟩
  have hX4 := (hX3.trans hE1).trans hx4
  clear t2 hE1 hrw hq4
  rw [show decide ([n] = [n]) = true from by simp]
  have hs3 : ¬ 9223372036854775807 < 1 + T.length := by omega
  have hs4 : ¬ 9223372036854775807 < T.length + 1 := by omega
  obtain ⟨D, hD⟩ : ∃ D, D = Lib.trimPrefix T [45] := ⟨_, rfl⟩
  have hDl : D.length ≤ 21 := by rw [hD]; unfold Lib.trimPrefix; split <;> first | (simp; omega) | omega
  have HD := Lib.hid hD
  obtain ⟨R1, hR1⟩ : ∃ R1, R1 = Lib.repeatL [45] (m % 3) := ⟨_, rfl⟩
  have hR1l : R1.length ≤ 3 := by rw [hR1, Lib.repeatL_length]; simp; omega
  have HR1 := Lib.hid hR1
  obtain ⟨R2, hR2⟩ : ∃ R2, R2 = Lib.repeatL [57] (20 + m % 30) := ⟨_, rfl⟩
  have HR2 := Lib.hid hR2
  clear hD hR1 hR2
  go_wp2_with fail
  refine (Tryd.strings_TrimPrefix (str T) ⟨#[45]⟩ _).mono ?_
  rintro e w5 ⟨rfl, rfl⟩
  rw [show (⟨(Lib.trimPrefix (str T).data.toList (⟨#[45]⟩ : ByteArray).data.toList).toArray⟩ : ByteArray) = str D from by rw [HD.out, str_list]; rfl]
  have hs5 : ¬ 9223372036854775807 < 2 + D.length := by omega
  have hss5 : (str D).size = D.length := rfl
  go_wp2_with fail
  refine (repeat_any _ _ (m % 3) _ (by omega) (by omega) (by decide)).mono ?_
  rintro e w6 ⟨rfl, hx6⟩
  rw [show Lib.repeatL (ByteArray.mk #[45]).data.toList (m % 3) = R1 from HR1.out.symm]
  have hX6 := hX4.trans hx6
  have hs6 : ¬ 9223372036854775807 < 1 + R1.length := by omega
  have hs7 : ¬ 9223372036854775807 < 1 + R1.length + 1 := by omega
  have hss6 : (str R1).size = R1.length := rfl
  go_wp2_with fail
  refine (repeat_any _ _ (20 + m % 30) _ (by omega) (by omega) (by decide)).mono ?_
  rintro e w7 ⟨rfl, hx7⟩
  rw [show Lib.repeatL (ByteArray.mk #[57]).data.toList (20 + m % 30) = R2 from HR2.out.symm]
  have hX7 := hX6.trans hx7
  clear hX2 hx3 hX3 hx4 hX4 hx6 hX6 hx7 hx1 hx2
  go_wp2_with fail
  have hcs : (#[.string ((⟨#[48]⟩ : ByteArray) ++ str T), .string ((⟨#[43]⟩ : ByteArray) ++ str T), .string ((⟨#[45, 48]⟩ : ByteArray) ++ str D), .string (str T ++ ⟨#[32]⟩), .string ((⟨#[32]⟩ : ByteArray) ++ str T), .string (str T ++ ⟨#[46]⟩), .string ((⟨#[45]⟩ : ByteArray) ++ str R1 ++ ⟨#[120]⟩), .string (str R2), .string ⟨#[]⟩] : Array Value).toList = sV Sp := by
    rw [show Sp = [48 :: T, 43 :: T, [45, 48] ++ D, T ++ [32], 32 :: T, T ++ [46], [45] ++ R1 ++ [120], R2, []] from by rw [HSp.out, spell, ← HT.out, ← HD.out, ← HR1.out, ← HR2.out]]
    have a1 : (⟨#[48]⟩ : ByteArray) ++ str T = str (48 :: T) := str_append [48] T
    have a2 : (⟨#[43]⟩ : ByteArray) ++ str T = str (43 :: T) := str_append [43] T
    have a3 : (⟨#[45, 48]⟩ : ByteArray) ++ str D = str ([45, 48] ++ D) := str_append [45, 48] D
    have a4 : str T ++ (⟨#[32]⟩ : ByteArray) = str (T ++ [32]) := str_append T [32]
    have a5 : (⟨#[32]⟩ : ByteArray) ++ str T = str (32 :: T) := str_append [32] T
    have a6 : str T ++ (⟨#[46]⟩ : ByteArray) = str (T ++ [46]) := str_append T [46]
    have a7 : (⟨#[45]⟩ : ByteArray) ++ str R1 ++ ⟨#[120]⟩ = str ([45] ++ R1 ++ [120]) := by
      rw [show (⟨#[45]⟩ : ByteArray) = str [45] from rfl, show (⟨#[120]⟩ : ByteArray) = str [120] from rfl, str_append, str_append]
    rw [a1, a2, a3, a4, a5, a6, a7]; rfl
  have hlen : Sp.length = 9 := by rw [HSp.out]; rfl
  have hrow := row_alloc w7 9 _ _ hcs (by rw [sV_len, hlen]; omega)
  rw [sV_len, hlen] at hrow
  have hxW : Ext w7 (w7.alloc (.cells #[.string ((⟨#[48]⟩ : ByteArray) ++ str T), .string ((⟨#[43]⟩ : ByteArray) ++ str T), .string ((⟨#[45, 48]⟩ : ByteArray) ++ str D), .string (str T ++ ⟨#[32]⟩), .string ((⟨#[32]⟩ : ByteArray) ++ str T), .string (str T ++ ⟨#[46]⟩), .string ((⟨#[45]⟩ : ByteArray) ++ str R1 ++ ⟨#[120]⟩), .string (str R2), .string ⟨#[]⟩] 9)) := (Ext.refl w7).alloc _
  generalize (w7.alloc (.cells #[.string ((⟨#[48]⟩ : ByteArray) ++ str T), .string ((⟨#[43]⟩ : ByteArray) ++ str T), .string ((⟨#[45, 48]⟩ : ByteArray) ++ str D), .string (str T ++ ⟨#[32]⟩), .string ((⟨#[32]⟩ : ByteArray) ++ str T), .string (str T ++ ⟨#[46]⟩), .string ((⟨#[45]⟩ : ByteArray) ++ str R1 ++ ⟨#[120]⟩), .string (str R2), .string ⟨#[]⟩] 9)) = W at *
  have hXW := hX7.trans hxW
  obtain ⟨b0, hb0⟩ : ∃ b0, b0 = w7.heap.size := ⟨_, rfl⟩
  rw [← hb0] at hrow ⊢
  have HL := Lib.hid hlen
  clear hcs hxW hX7 hb0 hlen hs1 hs2 hs3 hs4 hs5 hs6 hs7 hss hss5 hss6
  go_loopw [69] (fun i wr => ∃ k : Nat, k ≤ 9 ∧ i = .int .i64 k ∧ Ext W wr) (fun i _ => 9 - (intOf i).toNat)
  case atStart => exact ⟨0, by omega, rfl, Ext.refl _⟩
  case round =>
    obtain ⟨k, hk, rfl, hx⟩ := hrel
    by_cases hlt : k < 9
    · obtain ⟨X, hX⟩ : ∃ X, Sp[k]? = some X := ⟨Sp[k]'(by rw [HL.out]; exact hlt), by simp⟩
      have hmem : X ∈ spell n m := by rw [← HSp.out]; exact List.mem_of_getElem? hX
      have hbad := spell_bad n m X hmem
      have hXl := spell_len ⟨n1, n2⟩ m X hmem
      obtain ⟨h10, f, hf1, hf2⟩ := hbad
      have HP := Lib.hid (run_bad h10 hf1 hf2)
      have hcell : wr.cell? ⟨b0, k, none⟩ = some (.string (str X)) := by
        obtain ⟨_, _, _, hc⟩ := (hrow.ext hx).inj
        obtain ⟨b', off', e', hc⟩ := hc (by rw [sV_len, HL.out]; omega)
        injection e' with e'
        injection e' with e1 e2
        subst e1 e2
        have := hc k _ (sV_get hX)
        rwa [Nat.zero_add] at this
      have hs1 : ¬ 9223372036854775807 < 4 + X.length := by omega
      have hs2 : ¬ 9223372036854775807 < 4 + X.length + 1 := by omega
      have hss : (str X).size = X.length := rfl
      have hE := hXW.trans hx
      clear hX hmem h10 hf1 hf2
      go_wp2_with fail
      rw [cat_run]
      refine (Parse_err _ 1 3 _ (by rw [str_size]; simp [RUN]; omega) (he.ext hE) (hf.ext hE) (by rw [str_list]; exact HP.out)).mono ?_
      rintro e w8 ⟨rfl, hx8⟩
      go_wp2_with fail
      go_roundw
      case rel => exact ⟨k + 1, by omega, by go_num, hx.trans hx8⟩
      case measure => simp [intOf]; omega
    · obtain rfl : k = 9 := by omega
      go_wp2_with fail
      go_ret
      exact ⟨rfl, hXW.trans hx⟩
end Go.Proofs.YtpdijhplelpmhaaDoor.Sc

/- Strings in plain Lean (cut, split, decimal forms); walks: Cut, Split, decimal. What the cards of the laws that decode need: what is read of package variables. Walk: Decode of no text and of a text that is too long. Walk: the rational numbers' Parse. Decoding in plain Lean; walk: leaf of a decoder. Decoding in plain Lean; walk: node of a decoder. Walk: Decode. Decoding what was encoded, in plain Lean. The text of a rational number is read as that number. Decoding gives the encoded tree. -/
import Derived.Lib.AtoiAllCases
import Derived.Lib.ItoaMem
import Derived.Lib.ItoaLen
import Derived.Lib.IndexBytes
import Derived.Lib.IndexMore
import Derived.Lib.SplitLaws
import Derived.Test.YtljncdcjkdgkeaaGreatDoorKCardU
import Derived.Lay
import Derived.Stop.LaidErr
import Derived.Deep.DeepWitnessRowRef
import Derived.Test.YtljncdcjkdgkeaaGreatDoorKLN2
import Derived.Test.YtljncdcjkdgkeaaGreatDoorKW17
set_option linter.unusedVariables false
set_option linter.unusedSimpArgs false
namespace Go.Proofs.YtljncdcjkdgkeaaGreatDoor.Dc
open Go.RowKit Go.Proofs.YtljncdcjkdgkeaaGreatDoor.Big Go.Proofs.YtljncdcjkdgkeaaGreatDoor.Lp
open Go.Lib (itoa decDigits)
abbrev BL := List UInt8
/-- a list of bytes as a string -/
def str (l : BL) : ByteArray := ⟨l.toArray⟩
theorem str_list (l : BL) : (str l).data.toList = l := by simp [str]
theorem str_size (l : BL) : (str l).size = l.length := rfl
theorem str_of (s : ByteArray) : str s.data.toList = s := by cases s; simp [str]
def sV (xs : List BL) : List Value := xs.map fun s => Value.string (str s)
theorem sV_get {xs : List BL} {j : Nat} {x : BL} (h : xs[j]? = some x) : (sV xs)[j]? = some (.string (str x)) := by simp [sV, h]
theorem sV_len (xs : List BL) : (sV xs).length = xs.length := by simp [sV]
/-- the list ahead of the first c, and the list behind it -/
def cutB (c : UInt8) : BL → Option (BL × BL)
  | [] => none
  | x :: r => if x = c then some ([], r) else (cutB c r).map fun p => (x :: p.1, p.2)
/-- the parts between c's -/
def parts (c : UInt8) : BL → List BL
  | [] => [[]]
  | x :: r => if x = c then [] :: parts c r else match parts c r with | [] => [[x]] | p :: ps => (x :: p) :: ps
theorem cutB_none {c : UInt8} : ∀ {l : BL}, c ∉ l → cutB c l = none
  | [], _ => rfl
  | x :: r, h => by
    simp only [List.mem_cons, not_or] at h
    unfold cutB
    rw [if_neg (fun e => h.1 e.symm), cutB_none h.2]; rfl
theorem cutB_some {c : UInt8} : ∀ {a : BL} {b : BL}, c ∉ a → cutB c (a ++ c :: b) = some (a, b)
  | [], b, _ => by simp [cutB]
  | x :: r, b, h => by
    simp only [List.mem_cons, not_or] at h
    rw [List.cons_append]
    unfold cutB
    rw [if_neg (fun e => h.1 e.symm), cutB_some h.2]; rfl
theorem cutB_spec {c : UInt8} : ∀ {l a b : BL}, cutB c l = some (a, b) → l = a ++ c :: b ∧ c ∉ a
  | [], a, b, h => by cases h
  | x :: r, a, b, h => by
    unfold cutB at h
    split at h
    · next e => injection h with h; injection h with h1 h2; subst h1 h2 e; simp
    · next e =>
      cases hr : cutB c r with
      | none => rw [hr] at h; cases h
      | some p =>
        obtain ⟨p1, p2⟩ := p
        rw [hr] at h
        injection h with h; injection h with h1 h2
        obtain ⟨h3, h4⟩ := cutB_spec hr
        subst h1 h2
        refine ⟨by rw [h3]; rfl, ?_⟩
        simp only [List.mem_cons, not_or]
        exact ⟨fun e' => e e'.symm, h4⟩
theorem cutB_none_iff {c : UInt8} {l : BL} : cutB c l = none ↔ c ∉ l := by
  refine ⟨fun h hm => ?_, cutB_none⟩
  obtain ⟨a, b, rfl, hn⟩ : ∃ a b, l = a ++ c :: b ∧ c ∉ a := by
    clear h
    induction l with
    | nil => cases hm
    | cons x r ih =>
      by_cases e : x = c
      · exact ⟨[], r, by rw [e]; rfl, by simp⟩
      · obtain ⟨a, b, h1, h2⟩ := ih (by simpa [Ne.symm e] using hm)
        refine ⟨x :: a, b, by rw [h1]; rfl, ?_⟩
        simp only [List.mem_cons, not_or]
        exact ⟨Ne.symm e, h2⟩
  rw [cutB_some hn] at h; cases h
theorem indexByte_eq (c : UInt8) : ∀ (l : BL), Lib.indexByte l c = match cutB c l with | some (a, _) => (a.length : Int) | none => -1
  | [] => rfl
  | x :: r => by
    unfold Lib.indexByte cutB
    by_cases e : x = c
    · simp [e]
    · simp only [e, if_false, beq_iff_eq]
      rw [indexByte_eq c r]
      cases cutB c r with
      | none => simp
      | some p => simp <;> omega
theorem cut_eq (l : BL) (c : UInt8) : Lib.cut l [c] = match cutB c l with | some (a, b) => (a, b, true) | none => (l, [], false) := by
  unfold Lib.cut
  rw [Lib.index_one, indexByte_eq]
  cases h : cutB c l with
  | none => simp
  | some p =>
    obtain ⟨a, b⟩ := p
    obtain ⟨h1, _⟩ := cutB_spec h
    simp only [Int.natCast_nonneg, if_true, Int.toNat_natCast, List.length_singleton]
    subst h1
    rw [List.take_left, show a ++ c :: b = (a ++ [c]) ++ b by simp, show a.length + 1 = (a ++ [c]).length by simp, List.drop_left]
theorem parts_ne (c : UInt8) : ∀ l, parts c l ≠ []
  | [] => by simp [parts]
  | x :: r => by
    unfold parts
    split
    · simp
    · split <;> simp
theorem parts_none {c : UInt8} : ∀ {l : BL}, c ∉ l → parts c l = [l]
  | [], _ => rfl
  | x :: r, h => by
    simp only [List.mem_cons, not_or] at h
    unfold parts
    rw [if_neg (fun e => h.1 e.symm), parts_none h.2]
theorem parts_some {c : UInt8} : ∀ {a b : BL}, c ∉ a → parts c (a ++ c :: b) = a :: parts c b
  | [], b, _ => by simp [parts]
  | x :: r, b, h => by
    simp only [List.mem_cons, not_or] at h
    rw [List.cons_append]
    conv => lhs; unfold parts
    rw [if_neg (fun e => h.1 e.symm), parts_some h.2]
/-- numbers -/
def inI (v : Int) : Prop := -9223372036854775808 ≤ v ∧ v ≤ 9223372036854775807
def num (l : BL) : Option Int := match Lib.atoiAll l with | .ok v => if itoa v = l then some v else none | _ => none
theorem parseUint10_append : ∀ (l m : BL) (acc : Nat), Lib.parseUint10 acc (l ++ m) = match Lib.parseUint10 acc l with | .ok a => Lib.parseUint10 a m | .syntax => .syntax | .range => .range
  | [], m, acc => rfl
  | c :: r, m, acc => by
    rw [List.cons_append]
    simp only [Lib.parseUint10]
    by_cases h1 : 48 ≤ c.toNat ∧ c.toNat ≤ 57
    · by_cases h2 : 1844674407370955162 ≤ acc
      · simp only [h1, h2, if_true, and_self]
      · by_cases h3 : 18446744073709551616 ≤ acc * 10 + (c.toNat - 48)
        · simp only [h1, h2, h3, if_true, and_self, if_false]
        · simp only [h1, h2, h3, if_true, and_self, if_false]
          exact parseUint10_append r m _
    · simp only [h1, if_false]
theorem dig_toNat (k : Nat) (h : k < 10) : (UInt8.ofNat (48 + k)).toNat = 48 + k := by
  simp [UInt8.toNat_ofNat']; omega
theorem parse_dec (u : Nat) (h : u < 18446744073709551616) : Lib.parseUint10 0 (decDigits u) = .ok u := by
  induction u using Nat.strongRecOn with
  | _ u ih =>
    by_cases hu : u < 10
    · rw [decDigits, dif_pos hu]
      simp only [Lib.parseUint10, dig_toNat u hu]
      rw [if_pos (by omega), if_neg (by omega), if_neg (by omega)]
      congr 1; omega
    · rw [decDigits, dif_neg hu, parseUint10_append, ih (u / 10) (by omega) (by omega)]
      have := dig_toNat (u % 10) (by omega)
      simp only [Lib.parseUint10, this]
      rw [if_pos (by omega), if_neg (by omega), if_neg (by omega)]
      congr 1; omega
theorem dec_ne (u : Nat) : decDigits u ≠ [] := by rw [decDigits]; split <;> simp
theorem dec_dig (u : Nat) : ∀ c ∈ decDigits u, 48 ≤ c.toNat ∧ c.toNat ≤ 57 := by
  induction u using Nat.strongRecOn with
  | _ u ih =>
    intro c hc
    by_cases hu : u < 10
    · rw [decDigits, dif_pos hu] at hc
      simp only [List.mem_singleton] at hc
      subst hc; rw [dig_toNat u hu]; omega
    · rw [decDigits, dif_neg hu] at hc
      simp only [List.mem_append, List.mem_singleton] at hc
      rcases hc with hc | hc
      · exact ih (u / 10) (by omega) c hc
      · subst hc; rw [dig_toNat _ (by omega)]; omega
theorem itoa_mem (v : Int) : ∀ c ∈ itoa v, c = 45 ∨ (48 ≤ c.toNat ∧ c.toNat ≤ 57) := by
  intro c hc
  unfold itoa at hc
  split at hc
  · simp only [List.mem_cons] at hc
    rcases hc with hc | hc
    · exact .inl hc
    · exact .inr (dec_dig _ c hc)
  · exact .inr (dec_dig _ c hc)
theorem itoa_no (v : Int) (c : UInt8) (h1 : c ≠ 45) (h2 : c.toNat < 48 ∨ 57 < c.toNat) : c ∉ itoa v := by
  intro hc
  rcases itoa_mem v c hc with h | h
  · exact h1 h
  · omega
theorem dec_parse : ∀ u, decDigits u ≠ [] ∧ (∀ c r, decDigits u = c :: r → c.toNat ≠ 43 ∧ c.toNat ≠ 45) := fun u => ⟨dec_ne u, fun c r h => by
  have := dec_dig u c (by rw [h]; simp)
  omega⟩
theorem atoi_itoa {v : Int} (h : inI v) : Lib.atoiAll (itoa v) = .ok v := by
  obtain ⟨h1, h2⟩ := h
  unfold itoa
  split
  · next hn =>
    unfold Lib.atoiAll
    simp only []
    have e : (45 : UInt8).toNat = 45 := rfl
    rw [e]
    simp only [or_true, if_true, Lib.parseMag, dec_ne, if_false, parse_dec _ (show v.natAbs < 18446744073709551616 by omega)]
    rw [if_neg (by simp), if_neg (by omega)]
    congr 1; omega
  · next hn =>
    obtain ⟨hne, hc⟩ := dec_parse v.toNat
    cases hd : decDigits v.toNat with
    | nil => exact absurd hd hne
    | cons c r =>
      obtain ⟨c1, c2⟩ := hc c r hd
      unfold Lib.atoiAll
      simp only [c1, c2, or_self, if_false, Lib.parseMag]
      rw [if_neg (by simp), ← hd, parse_dec _ (show v.toNat < 18446744073709551616 by omega)]
      simp only []
      rw [if_neg (by omega), if_neg (by simp)]
      congr 1; omega
theorem num_itoa {v : Int} (h : inI v) : num (itoa v) = some v := by unfold num; rw [atoi_itoa h]; simp
theorem index_cut (c : UInt8) (l : BL) : Lib.index l [c] = match cutB c l with | some (a, _) => (a.length : Int) | none => -1 := by
  rw [Lib.index_one, indexByte_eq] <;> (cases cutB c l <;> rfl)
theorem splitK_parts (c : UInt8) : ∀ (N : Nat) (l : BL), l.length = N → Lib.splitK [c] 0 (Lib.count l [c]) l = parts c l := by
  intro N
  induction N using Nat.strongRecOn with
  | _ N ih =>
    intro l hl
    have hi := index_cut c l
    cases h : cutB c l with
    | none =>
      rw [h] at hi
      rw [Lib.count_miss hi, parts_none (cutB_none_iff.1 h)]
      rfl
    | some p =>
      obtain ⟨a, b⟩ := p
      rw [h] at hi
      obtain ⟨rfl, ha⟩ := cutB_spec h
      have hd : (a ++ c :: b).drop (a.length + 1) = b := by
        rw [show a ++ c :: b = (a ++ [c]) ++ b by simp, show a.length + 1 = (a ++ [c]).length by simp, List.drop_left]
      rw [Lib.count_hit (by simp) hi, parts_some ha]
      have hd2 : (a ++ c :: b).drop (a.length + [c].length) = b := hd
      rw [hd2, Nat.add_comm, Lib.splitK, hi]
      rw [if_neg (by simp <;> omega)]
      simp only [Int.toNat_natCast, Nat.add_zero, List.take_left]
      rw [hd2, ih b.length (by rw [← hl]; simp; omega) b rfl]
theorem splitB_parts (s : ByteArray) (c : UInt8) : (Lib.splitB ⟨#[c]⟩ 0 (Lib.countB s ⟨#[c]⟩) s).map Value.string = sV (parts c s.data.toList) := by
  have h1 := Lib.splitB_data ⟨#[c]⟩ 0 (Lib.countB s ⟨#[c]⟩) s
  have h2 : Lib.splitK (⟨#[c]⟩ : ByteArray).data.toList 0 (Lib.countB s ⟨#[c]⟩) s.data.toList = parts c s.data.toList := splitK_parts c _ s.data.toList rfl
  rw [h2] at h1
  rw [← h1]
  unfold sV
  rw [List.map_map]
  apply List.map_congr_left
  intro x _
  simp [str_of]
theorem parts_len (c : UInt8) : ∀ l, (parts c l).length ≤ l.length + 1
  | [] => by simp [parts]
  | x :: r => by
    have h := parts_len c r
    conv => lhs; unfold parts
    split
    · simp; omega
    · split
      · simp
      · next e => rw [e] at h; simp at h ⊢; omega
theorem parts_mem_len (c : UInt8) : ∀ l, ∀ x ∈ parts c l, x.length ≤ l.length
  | [], x, h => by simp [parts] at h; subst h; simp
  | y :: r, x, h => by
    have ih := parts_mem_len c r
    unfold parts at h
    split at h
    · simp only [List.mem_cons] at h
      rcases h with rfl | h
      · simp
      · have := ih x h; simp; omega
    · split at h
      · simp only [List.mem_singleton] at h; subst h; simp
      · next p ps e =>
        rw [e] at ih
        simp only [List.mem_cons] at h
        rcases h with rfl | h
        · have := ih p (by simp); simp; omega
        · have := ih x (by simp [h]); simp; omega
theorem Ext.bytesC (w : World) (e : TypeId) (s : ByteArray) : Ext w (Lib.bytesWorld w e s) := by
  unfold Lib.bytesWorld
  refine ⟨rfl, rfl, rfl, by simp [World.freeze], fun k hk => ?_⟩
  have h1 : k ≠ w.heap.size := by omega
  simp [World.freeze, World.alloc, Array.getElem?_modify, Ne.symm h1, Array.getElem?_push, h1]
  rfl
/-- what decoding reads of package variables -/
structure Env (w : World) : Prop where
  mx : ∃ m : Int, w.cell? ⟨1, 0, none⟩ = some (.int .i64 m)
  tab : Lib.TabIs Tryz.prog w "internal/strconv.uint64pow10" .u64 Lib.pow10Tab
  er : ∃ tp p, w.var? Tryz.prog "strconv.ErrRange" = some #[.iface tp p]
  es : ∃ tp p, w.var? Tryz.prog "strconv.ErrSyntax" = some #[.iface tp p]
theorem var_ext {w w' : World} {n : String} {cs : Array Value} (h : w.var? Tryz.prog n = some cs) (k : Ext w w') : w'.var? Tryz.prog n = some cs := by
  unfold World.var? at h ⊢
  cases hg : Tryz.prog.globalNamed n with
  | none => rw [hg] at h; cases h
  | some g =>
    rw [hg] at h
    simp only [Option.bind_some] at h ⊢
    have hlt : g < w.heap.size := by
      rcases Nat.lt_or_ge g w.heap.size with h' | h'
      · exact h'
      · rw [Array.getElem?_eq_none h'] at h; cases h
    rw [Below.block k g hlt]; exact h
theorem Env.ext {w w' : World} (h : Env w) (k : Ext w w') : Env w' := by
  obtain ⟨⟨m, h1⟩, h2, ⟨tp, p, h4⟩, ⟨tp', p', h5⟩⟩ := h
  exact ⟨⟨m, k.cell h1⟩, var_ext h2 k, ⟨tp, p, var_ext h4 k⟩, ⟨tp', p', var_ext h5 k⟩⟩
theorem Itoa_any (n : Int) (w : World) (hn : inI n) (he : Env w) : Calls Tryz.prog 36 #[.int .i64 n] w (fun e w' => e = .returned (.string (str (Lib.itoa n))) ∧ Ext w w') := by
  refine (Tryz.strconv_Itoa n hn.1 hn.2 w he.tab).mono ?_
  rintro e w' ⟨rfl, k, os, rfl⟩
  exact ⟨rfl, ((Ext.refl w).drewN k).trans (Ext.growC _ os)⟩
def NumPost (w : World) (o : Option Int) (e : Ending) (w' : World) : Prop := (∃ v b, e = .returned (.tuple #[.int .i64 v, .bool b]) ∧ b = o.isSome ∧ (∀ u, o = some u → v = u)) ∧ Ext w w'
set_option maxHeartbeats 1000000 in
set_option maxRecDepth 100000 in
theorem decimal_any (s : ByteArray) (w : World) (hs : s.size ≤ 1099511627776) (he : Env w) : Calls Tryz.prog 75 #[.string s] w (NumPost w (num s.data.toList)) := by
  obtain ⟨o, ho⟩ : ∃ o, o = num s.data.toList := ⟨_, rfl⟩
  have HO := Lib.hid ho
  rw [← ho]
  clear ho
  cases ha : Lib.atoiAll s.data.toList with
  | ok v =>
    have hv := Lib.atoiAll_bounds ha
    have HO2 : Hid (o = if Lib.itoa v = s.data.toList then some v else none) := Lib.hid (by rw [HO.out]; unfold num; rw [ha])
    have HA := Lib.hid ha
    obtain ⟨t, ht⟩ : ∃ t, t = str (Lib.itoa v) := ⟨_, rfl⟩
    have HT := Lib.hid ht
    have htl : t.toList = Lib.itoa v := by rw [ht, Lib.toList_data, str_list]
    have HTL := Lib.hid htl
    clear ha HO ht htl
    go_enter Tryz.func75, Tryz.ntmps75
    go_wp2_with fail
    refine (Tryz.strconv_Atoi_ok s (by omega) v HA.out _).mono ?_
    rintro e w1 ⟨rfl, hw1⟩
    have hx1 : Ext w w1 := by
      rcases hw1 with rfl | ⟨t, rfl⟩
      · exact Ext.refl _
      · exact Ext.bytesC _ _ _
    clear hw1
    go_wp2_with fail
    refine (Itoa_any v _ hv (he.ext hx1)).mono ?_
    rintro e w2 ⟨rfl, hx2⟩
    rw [← HT.out]
    by_cases hq : t.toList = s.toList
    · have hq' : (t.toList == s.toList) = true := by simp [hq]
      have HF : Hid (o = some v) := Lib.hid (by rw [HO2.out, if_pos (by rw [← HTL.out, hq, Lib.toList_data])])
      clear hq HO2
      go_wp2_with fail
      go_ret2
      exact ⟨⟨v, true, rfl, by rw [HF.out]; rfl, fun u h => by rw [HF.out] at h; injection h⟩, hx1.trans hx2⟩
    · have hq' : (t.toList == s.toList) = false := by simp [hq]
      have HF : Hid (o = none) := Lib.hid (by rw [HO2.out, if_neg (by rw [← HTL.out]; rw [Lib.toList_data s] at hq; exact hq)])
      clear hq HO2
      go_wp2_with fail
      go_ret2
      exact ⟨⟨_, false, rfl, by rw [HF.out]; rfl, fun u h => by rw [HF.out] at h; cases h⟩, hx1.trans hx2⟩
  | «syntax» =>
    have HF : Hid (o = none) := Lib.hid (by rw [HO.out]; unfold num; rw [ha])
    have HA := Lib.hid ha
    obtain ⟨tp, p, hvar⟩ := he.es
    have HV := Lib.hid hvar
    clear ha HO hvar
    go_enter Tryz.func75, Tryz.ntmps75
    go_wp2_with fail
    refine (Tryz.strconv_Atoi_syntax_var s (by omega) HA.out tp p _ HV.out).mono ?_
    rintro e w1 ⟨N, rfl, _, _, hx1⟩
    go_wp2_with fail
    go_ret2
    exact ⟨⟨_, false, rfl, by rw [HF.out]; rfl, fun u h => by rw [HF.out] at h; cases h⟩, hx1⟩
  | range =>
    have HF : Hid (o = none) := Lib.hid (by rw [HO.out]; unfold num; rw [ha])
    have HA := Lib.hid ha
    obtain ⟨tp, p, hvar⟩ := he.er
    have HV := Lib.hid hvar
    clear ha HO hvar
    go_enter Tryz.func75, Tryz.ntmps75
    go_wp2_with fail
    refine (Tryz.strconv_Atoi_range_var s (by omega) HA.out tp p _ HV.out).mono ?_
    rintro e w1 ⟨N, rfl, _, _, hx1⟩
    go_wp2_with fail
    go_ret2
    exact ⟨⟨_, false, rfl, by rw [HF.out]; rfl, fun u h => by rw [HF.out] at h; cases h⟩, hx1⟩
def RowPost (w : World) (vs : List Value) (e : Ending) (w' : World) : Prop := (∃ v, e = .returned v ∧ Row w' v vs) ∧ Ext w w'
theorem Split_any (s : ByteArray) (c : UInt8) (w : World) (hs : s.size < 4294967281) (he : Env w) : Calls Tryz.prog 73 #[.string s, .string ⟨#[c]⟩] w (RowPost w (sV (parts c s.data.toList))) := by
  obtain ⟨m, hm⟩ := he.mx
  refine (Tryz.strings_Split s ⟨#[c]⟩ m w hs hm (Nat.le_refl _)).mono ?_
  rintro e w' ⟨rfl, rfl⟩
  refine ⟨⟨_, rfl, ?_⟩, (Ext.refl w).alloc _⟩
  have hlen : (sV (parts c s.data.toList)).length = Lib.countB s ⟨#[c]⟩ + 1 := by
    rw [← splitB_parts, List.length_map]
    exact Lib.splitB_all ⟨#[c]⟩ (Nat.le_refl _) 0 _ s rfl
  rw [← splitB_parts] at hlen ⊢
  have hc := Lib.countB_le ⟨#[c]⟩ (Nat.le_refl _) s.size s (Nat.le_refl _)
  refine ⟨_, _, by rw [hlen], by rw [hlen]; exact Nat.le_refl _, by omega, fun _ => ⟨_, 0, rfl, fun j u hj => ?_⟩⟩
  rw [Nat.zero_add, World.cell?_alloc_new]
  simpa using hj

/-- strings.Cut at one byte -/
def CutPost (w : World) (l : BL) (c : UInt8) (e : Ending) (w' : World) : Prop :=
  (∃ a b : BL, ∃ f : Bool, e = .returned (.tuple #[.string (str a), .string (str b), .bool f]) ∧ (f = true → cutB c l = some (a, b)) ∧ (f = false → cutB c l = none ∧ a = l ∧ b = [])) ∧ Ext w w'
theorem Cut_any (s : ByteArray) (c : UInt8) (w : World) (hs : s.size < 4294967281) (he : Env w) : Calls Tryz.prog 72 #[.string s, .string ⟨#[c]⟩] w (CutPost w s.data.toList c) := by
  obtain ⟨m, hm⟩ := he.mx
  refine (Tryz.strings_Cut s ⟨#[c]⟩ m w hs hm).mono ?_
  rintro e w' ⟨rfl, n, rfl⟩
  refine ⟨?_, (Ext.refl w).drewN n⟩
  have hc := cut_eq s.data.toList c
  have e1 : (⟨#[c]⟩ : ByteArray).data.toList = [c] := rfl
  rw [e1, hc]
  cases h : cutB c s.data.toList with
  | none => exact ⟨_, _, false, rfl, fun h => (by cases h), fun _ => ⟨rfl, rfl, rfl⟩⟩
  | some p => exact ⟨p.1, p.2, true, rfl, fun _ => rfl, fun h => (by cases h)⟩
end Go.Proofs.YtljncdcjkdgkeaaGreatDoor.Dc
namespace Go.Proofs.YtljncdcjkdgkeaaGreatDoor.Dc
open Go.ChangeShapes Go.WideShapes Go.ChangeAt Go.RowKit Go.Proofs.YtljncdcjkdgkeaaGreatDoor.Big Go.Proofs.YtljncdcjkdgkeaaGreatDoor.Lp
theorem cellsStr : Tryz.prog.cellsOf 9 = 1 := by kernel_rfl
theorem laidER : laidAll.filter (fun x => x.1 == "strconv.ErrRange") = [("strconv.ErrRange", Rows.laid_strconv_ErrRange)] := by kernel_rfl
theorem laidES : laidAll.filter (fun x => x.1 == "strconv.ErrSyntax") = [("strconv.ErrSyntax", Rows.laid_strconv_ErrSyntax)] := by kernel_rfl
theorem laidHead {W : World} (h : laidMet Tryz.prog laidAll W) {n : String} {d : DataW Unit} (hf : laidAll.filter (fun x => x.1 == n) = [(n, d)]) : laidMet Tryz.prog [(n, d)] W := by
  have h1 := h.filter (fun x => x.1 == n)
  rw [hf] at h1; exact h1
theorem gER : Tryz.prog.globalNamed "strconv.ErrRange" = some 3 := by kernel_rfl
theorem gERType : (Tryz.prog.globals[(3 : Nat)]?).map (·.type) = some 92 := by kernel_rfl
theorem gES : Tryz.prog.globalNamed "strconv.ErrSyntax" = some 2 := by kernel_rfl
theorem gESType : (Tryz.prog.globals[(2 : Nat)]?).map (·.type) = some 92 := by kernel_rfl
theorem starES : "*" ++ "errors.errorString" = "*errors.errorString" := by decide
theorem rowES (u : TypeId) (h : Tryz.prog.typeName? 3 u = some "*errors.errorString") : u = 249 :=
  typeName_ptr_named (nm := "errors.errorString") (by rw [starES]; kernel_rfl) (by kernel_rfl) (by decide) u (by rw [starES]; exact h)
theorem cellsES : Tryz.prog.cellsOf 251 = 1 := by kernel_rfl
theorem errRange_of {W : World} (h : laidMet Tryz.prog laidAll W) : ∃ tp p, W.var? Tryz.prog "strconv.ErrRange" = some #[.iface tp p] := by
  obtain ⟨a1, s1, hv1, _⟩ := laid_sentinel (laidHead h laidER) gER gERType Tryz.underlying92 rowES Tryz.underlying249 Tryz.underlying251 rfl rfl Tryz.underlying9 cellsES cellsStr
  exact ⟨_, _, hv1⟩
theorem errSyntax_of {W : World} (h : laidMet Tryz.prog laidAll W) : ∃ tp p, W.var? Tryz.prog "strconv.ErrSyntax" = some #[.iface tp p] := by
  obtain ⟨a1, s1, hv1, _⟩ := laid_sentinel (laidHead h laidES) gES gESType Tryz.underlying92 rowES Tryz.underlying249 Tryz.underlying251 rfl rfl Tryz.underlying9 cellsES cellsStr
  exact ⟨_, _, hv1⟩
theorem mx_of_shaped {W : World} (h : W.ShapedOpen Tryz.prog) : ∃ m : Int, W.cell? ⟨1, 0, none⟩ = some (.int .i64 m) := by
  obtain ⟨m, hm⟩ := Tryz.laysM219.s1_3 W h
  exact ⟨m, hm⟩
theorem env_of {W : World} (h : laidMet Tryz.prog laidAll W) (hs : W.ShapedOpen Tryz.prog) : Env W := ⟨mx_of_shaped hs, tab_of_laid h, errRange_of h, errSyntax_of h⟩
end Go.Proofs.YtljncdcjkdgkeaaGreatDoor.Dc
namespace Go.Proofs.YtljncdcjkdgkeaaGreatDoor.Lp
open Go.RowKit Go.Proofs.YtljncdcjkdgkeaaGreatDoor.Big Go.Proofs.YtljncdcjkdgkeaaGreatDoor.Rt

/-- the library's variable internal/bytealg.MaxLen holds a number -/
def MxC (w : World) : Prop := ∃ m : Int, w.cell? ⟨1, 0, none⟩ = some (.int .i64 m)
theorem MxC.later {w w' : World} (h : MxC w) (k : Ext w w') : MxC w' := by
  obtain ⟨m, hm⟩ := h
  exact ⟨m, k.cell hm⟩
theorem cut_none : Lib.cut ([] : List UInt8) [10] = ([], [], false) := by decide
set_option maxRecDepth 100000 in
theorem node_none (db : Nat) (lev : Int) (w : World) (hD : Box w db 100 #[.string ⟨#[]⟩, .int .i64 0]) (hm : MxC w) :
    Calls Tryz.prog 40 #[.pointer (some ⟨db, 0, none⟩), .int .i64 lev] w (fun e w' => e = .returned (.pointer none) ∧ Box w' db 100 #[.string ⟨#[]⟩, .int .i64 4] ∧ ∀ a, Ext a w → a.heap.size ≤ db → Ext a w') := by
  obtain ⟨m, hm⟩ := hm
  have c0 := hD.c0
  have hcut := Tryz.strings_Cut ⟨#[]⟩ ⟨#[10]⟩ m w (by decide) hm
  rw [show (⟨#[]⟩ : ByteArray).data.toList = [] from rfl, show (⟨#[10]⟩ : ByteArray).data.toList = [10] from rfl, cut_none] at hcut
  go_enter Tryz.func40, Tryz.ntmps40
  go_wp2_with fail
  refine hcut.mono ?_
  rintro e w1 ⟨rfl, nd, rfl⟩
  have hD1 : Box (w.drewN nd) db 100 #[.string ⟨#[]⟩, .int .i64 0] := hD.ext ((Ext.refl w).drewN nd)
  have c1 := hD1.c1
  have z1 := hD1.frozen 1
  clear c0
  go_wp2_with fail
  go_ret
  exact ⟨rfl, hD1.set 1 (.int .i64 4), fun a ha hs => ((ha.drewN nd).set (p := ⟨db, 1, none⟩) hs _)⟩
set_option maxRecDepth 100000 in
theorem decode_none (w : World) (hm : MxC w) : Calls Tryz.prog 13 #[.string ⟨#[]⟩] w (fun e w' => e = .returned (.tuple #[.pointer none, .int .i64 4]) ∧ Ext w w') := by
  go_enter Tryz.func13, Tryz.ntmps13
  go_upto_region 6 with fail
  have DB := Box.new w 100 #[.string ⟨#[]⟩, .int .i64 0]
  have hE : Ext w (w.alloc (.cells #[.string ⟨#[]⟩, .int .i64 0] 100)) := (Ext.refl w).alloc _
  generalize (w.alloc (.cells #[.string ⟨#[]⟩, .int .i64 0] 100)) = V at *
  obtain ⟨db, hdb⟩ : ∃ x, x = w.heap.size := ⟨_, rfl⟩
  rw [← hdb] at DB ⊢
  have hdw : w.heap.size ≤ db := by omega
  clear hdb
  go_wp2_with fail
  refine (node_none db 0 _ DB (hm.later hE)).mono ?_
  rintro e w1 ⟨rfl, DB1, hx⟩
  have hE1 := hx w hE hdw
  have c1 := DB1.c1
  clear DB hx
  go_upto_region 8 with fail
  go_region
  all_goals (
    go_wp2_with fail
    refine bodyPost_ret (v := .tuple #[.pointer none, .int .i64 4]) (by simp [results, Tryz.results13, go_sem]) rfl ?_
    exact ⟨rfl, by first | exact hE1.drew | exact hE1⟩)
theorem decode_long (s : ByteArray) (w : World) (hs : 65536 < s.size) : Calls Tryz.prog 13 #[.string s] w (fun e w' => e = .returned (.tuple #[.pointer none, .int .i64 5]) ∧ Ext w w') := by
  have h1 : decide ((65536 : Int) < (s.size : Int)) = true := by simp; omega
  go_enter Tryz.func13, Tryz.ntmps13
  go_wp2_with fail
  refine bodyPost_ret (v := .tuple #[.pointer none, .int .i64 5]) (by simp [results, Tryz.results13, go_sem]) rfl ?_
  exact ⟨rfl, Ext.refl w⟩
end Go.Proofs.YtljncdcjkdgkeaaGreatDoor.Lp
namespace Go.Proofs.YtljncdcjkdgkeaaGreatDoor.Rt
open Go.RowKit Go.Proofs.YtljncdcjkdgkeaaGreatDoor.Big

/-- the library's variable internal/bytealg.MaxLen holds a number -/
def MxOK (w : World) : Prop := ∃ m : Int, w.cell? ⟨1, 0, none⟩ = some (.int .i64 m)
theorem MxOK.ext {w w' : World} (h : MxOK w) (k : Ext w w') : MxOK w' := by
  obtain ⟨m, hm⟩ := h; exact ⟨m, k.cell hm⟩
theorem cut_sizes (l : List UInt8) : (Lib.cut l [47]).1.length ≤ l.length ∧ (Lib.cut l [47]).2.1.length ≤ l.length := by
  rcases cut_cases l with ⟨_, e⟩ | ⟨a, b, _, hl, e⟩
  · rw [e]; simp
  · rw [e, hl]; simp; omega

theorem cmpZ_zero' {x y : Int} : cmpZ x y = 0 ↔ x = y := by
  unfold cmpZ
  split
  · exact ⟨fun h => by omega, fun h => by omega⟩
  · split
    · exact ⟨fun h => by omega, fun h => by omega⟩
    · exact ⟨fun h => by omega, fun h => by omega⟩

set_option maxHeartbeats 2000000 in
theorem RatParse_full (s : ByteArray) (w : World) (hs : 4096 < s.size) : Calls Tryz.prog 103 #[.string s] w (MakeZero w 5) := by
  have B2 := Box.new w 58 #[.bool false, .slice none 0 0, .bool false, .slice none 0 0]
  have hE0 : Ext w (w.alloc (.cells #[.bool false, .slice none 0 0, .bool false, .slice none 0 0] 58)) := (Ext.refl w).alloc _
  have e1 : decide ((4096 : Int) < s.size) = true := by simp; omega
  have pc0 := B2.c0
  have pc1 := B2.c1
  have pc2 := B2.c2
  have pc3 := B2.c3
  go_enter Tryz.func103, Tryz.ntmps103
  go_wp2_with fail
  refine bodyPost_ret (v := .tuple #[.agg #[.bool false, .slice none 0 0, .bool false, .slice none 0 0], .int .i64 5]) (by simp [results, Tryz.results103, go_sem]) rfl ?_
  exact ⟨rfl, hE0⟩

def RParPost (s : ByteArray) (k : Nat) (w : World) (e : Ending) (w' : World) : Prop :=
  (isRat s.data.toList = true → MakePost w (parseQ s.data.toList) k e w') ∧ (isRat s.data.toList = false → MakeZero w 3 e w')

set_option maxRecDepth 100000 in
set_option maxHeartbeats 8000000 in
theorem RatParse_any (s : ByteArray) (k : Nat) (w : World) (hs : s.size ≤ 4096) (hsk : s.size ≤ k) (hk2 : 2 ≤ k) (hk : k ≤ 1099511627776) (hmx : MxOK w) : Calls Tryz.prog 103 #[.string s] w (RParPost s k w) := by
  obtain ⟨l, hl⟩ : ∃ l, l = s.data.toList := ⟨_, rfl⟩
  have hll : l.length = s.size := by rw [hl]; rfl
  obtain ⟨z1, z2⟩ := cut_sizes l
  unfold RParPost
  rw [← hl]
  obtain ⟨fb, hfb⟩ : ∃ b, b = (Lib.cut l [47]).2.2 := ⟨_, rfl⟩
  obtain ⟨la, hla⟩ : ∃ b, b = (Lib.cut l [47]).1 := ⟨_, rfl⟩
  obtain ⟨lb, hlb⟩ : ∃ b, b = (Lib.cut l [47]).2.1 := ⟨_, rfl⟩
  have hR : isRat l = if fb then isDec la && isDec lb && decide (1 < parseZ lb) && decide (Nat.gcd (parseZ la).natAbs (parseZ lb).natAbs = 1) else isDec la := by unfold isRat; rw [← hfb, ← hla, ← hlb]
  have hQ : parseQ l = Rat.divInt (parseZ la) (if fb then parseZ lb else 1) := by unfold parseQ; rw [← hfb, ← hla, ← hlb]
  rw [← hla] at z1
  rw [← hlb] at z2
  obtain ⟨sa, hsa⟩ : ∃ b : ByteArray, b = ⟨la.toArray⟩ := ⟨_, rfl⟩
  obtain ⟨sb, hsb⟩ : ∃ b : ByteArray, b = ⟨lb.toArray⟩ := ⟨_, rfl⟩
  have ea : sa.data.toList = la := by rw [hsa]
  have eb : sb.data.toList = lb := by rw [hsb]
  have na : sa.size ≤ s.size := by rw [← hll]; have : sa.size = la.length := by rw [hsa]; rfl
                                   omega
  have nb : sb.size ≤ s.size := by rw [← hll]; have : sb.size = lb.length := by rw [hsb]; rfl
                                   omega
  have HCUT : Hid (∀ w', MxOK w' → Calls Tryz.prog 72 #[.string s, .string ⟨#[47]⟩] w' (fun e w'' => e = .returned (.tuple #[.string sa, .string sb, .bool fb]) ∧ Ext w' w'')) := Lib.hid (by
    rintro w' ⟨m, hm⟩
    refine (Tryz.strings_Cut s ⟨#[47]⟩ m w' (by omega) hm).mono ?_
    rintro e w'' ⟨rfl, n, rfl⟩
    refine ⟨?_, Ext.drewN_self _ _⟩
    rw [hsa, hsb, hla, hlb, hfb, hl])
  obtain ⟨R, hRR⟩ : ∃ R, R = isRat l := ⟨_, rfl⟩
  obtain ⟨q, hqq⟩ : ∃ q, q = parseQ l := ⟨_, rfl⟩
  rw [← hRR, ← hqq]
  rw [← hRR, ← ea, ← eb] at hR
  rw [← hqq, ← ea, ← eb] at hQ
  have HR := Lib.hid hR
  have HQ := Lib.hid hQ
  have B2 := Box.new w 58 #[.bool false, .slice none 0 0, .bool false, .slice none 0 0]
  have hE0 : Ext w (w.alloc (.cells #[.bool false, .slice none 0 0, .bool false, .slice none 0 0] 58)) := (Ext.refl w).alloc _
  have e1 : decide ((4096 : Int) < s.size) = false := by simp; omega
  have hmx := hmx.ext hE0
  clear hR hQ hRR hqq hsa hsb ea eb hla hlb hfb hl z1 z2 hll
  go_enter Tryz.func103, Tryz.ntmps103
  go_wp2_with fail
  refine (HCUT.out _ hmx).mono ?_
  rintro e w1 ⟨rfl, hx1⟩
  have hE1 := hE0.trans hx1
  have B2 := B2.ext hx1
  go_wp2_with fail
  refine (Parse_any sa _ (by omega)).mono ?_
  rintro e w2 ⟨v2, X, rfl, hX, hXv, -, hx2⟩
  obtain ⟨da, hda⟩ : ∃ b, b = isDec sa.data.toList := ⟨_, rfl⟩
  obtain ⟨es, hes⟩ : ∃ es : Int, es = (if isDec sa.data.toList = true then 0 else 3) := ⟨_, rfl⟩
  rw [← hes]
  rw [← hda] at hes hXv
  have hde : (es != 0) = !da := by rw [hes]; cases da <;> rfl
  have HDA := Lib.hid hda
  have HXV := Lib.hid hXv
  clear hes hda hXv
  obtain ⟨p3, A3, n3, c3, rfl⟩ := hX.shape
  go_upto_region 5 with fail
  have hx3 : Ext w2 (w2.alloc (.cells #[.bool p3, .slice A3 n3 c3] 56)) := (Ext.refl w2).alloc _
  have B7 := Box.new w2 56 #[.bool p3, .slice A3 n3 c3]
  have hX := hX.ext hx3
  have hE3 := (hE1.trans hx2).trans hx3
  have B2 := (B2.ext hx2).ext hx3
  generalize (w2.alloc (.cells #[.bool p3, .slice A3 n3 c3] 56)) = W at *
  clear hx1 hx2 hx3 hE0 hE1 hmx
  cases da
  case false =>
    have hRf : R = false := by
      have h1 := HDA.out
      have h2 := HR.out
      rw [← h1] at h2
      rw [h2]; cases fb <;> rfl
    have HRf := Lib.hid hRf
    clear hRf
    have q0 := B2.c0
    have q1 := B2.c1
    have q2 := B2.c2
    have q3 := B2.c3
    have f0 := B2.frozen 0
    have f1 := B2.frozen 1
    have f2 := B2.frozen 2
    have f3 := B2.frozen 3
    go_wp2_with fail
    obtain ⟨pp, pb⟩ := RatV.put (RatV.zero W) B2
    have pc0 := pb.c0
    have pc1 := pb.c1
    have pc2 := pb.c2
    have pc3 := pb.c3
    refine bodyPost_ret (v := .tuple #[.agg #[.bool false, .slice none 0 0, .bool false, .slice none 0 0], .int .i64 3]) (by simp [results, Tryz.results103, go_sem, pc0, pc1, pc2, pc3]) rfl ?_
    exact ⟨fun h => absurd (h.symm.trans HRf.out) (by decide), fun _ => ⟨rfl, (((hE3.set (by simp) _).set (by simp) _).set (by simp) _).set (by simp) _⟩⟩
  have hXs := HXV.out rfl
  have bX : B k X := by rw [hXs]; exact parse_boundK (by omega) HDA.out.symm
  have HX := Lib.hid hXs
  clear hXs
  cases fb
  case false =>
    have hRt : R = true := by rw [HR.out]; exact HDA.out.symm
    have hq : q = Rat.divInt X 1 := by rw [HQ.out, HX.out]; rfl
    have HQ1 := Lib.hid hq
    have HRt := Lib.hid hRt
    clear hq hRt
    have hXB : BigB W _ X k := ⟨hX, bX⟩
    have HD0 : Hid ((1 : Int) ≠ 0) := Lib.hid (by decide)
    have ks := KE.start (R := [w.heap.size]) hE3 (by simp)
    have hb7 : w2.heap.size ∉ [w.heap.size] := by
      have h1 := B2.lt
      simp
      intro h
      have h2 := B7
      rw [h] at h2
      unfold Box at h2 B2
      rw [B2] at h2
      simp at h2
    have k70 : ∀ w', KE [w.heap.size] w W w' → w'.cell? ⟨w2.heap.size, 0, none⟩ = some (.bool p3) := fun w' h => (h.bx B7 hb7).c0
    have k71 : ∀ w', KE [w.heap.size] w W w' → w'.cell? ⟨w2.heap.size, 1, none⟩ = some (.slice A3 n3 c3) := fun w' h => (h.bx B7 hb7).c1
    go_upto_region 8 with fail
    go_region_held3 (fun w' => KE [w.heap.size] w W w') ((repeat (first | assumption | apply KE.drew | apply KE.drewN | apply KE.alloc | (refine KE.set ?_ (by simp) _) | (refine KE.step ?_ (by assumption))))) (first
        | (go_at_call 90; (with_reducible refine (Gcd_b _ _ _ _ _ _ _ (BigB.ext (by assumption) (by repeat (first | (with_reducible exact Ext.refl _) | (with_reducible apply Ext.drew) | (with_reducible apply Ext.drewN) | (with_reducible refine Ext.trans ?_ (by assumption))))) (BigB.ext (by assumption) (by repeat (first | (with_reducible exact Ext.refl _) | (with_reducible apply Ext.drew) | (with_reducible apply Ext.drewN) | (with_reducible refine Ext.trans ?_ (by assumption))))) (by first | omega | decide)).mono ?_); rintro e wk ⟨vk, rfl, hbk, hxk⟩; (obtain ⟨pk, Ak, nk, ck, rfl⟩ := hbk.1.shape))
        | (go_at_call 46; (with_reducible refine (Of_b _ _ (by first | assumption | decide) (by first | assumption | decide)).mono ?_); rintro e wk ⟨vk, rfl, hbk, hxk⟩; (obtain ⟨pk, Ak, nk, ck, rfl⟩ := hbk.1.shape))
        | (go_at_call 60; (with_reducible refine (red_b _ _ _ _ _ _ _ (BigB.ext (by assumption) (by repeat (first | (with_reducible exact Ext.refl _) | (with_reducible apply Ext.drew) | (with_reducible apply Ext.drewN) | (with_reducible refine Ext.trans ?_ (by assumption))))) (BigB.ext (by assumption) (by repeat (first | (with_reducible exact Ext.refl _) | (with_reducible apply Ext.drew) | (with_reducible apply Ext.drewN) | (with_reducible refine Ext.trans ?_ (by assumption))))) (by omega) HD0.out).mono ?_); rintro e wk ⟨vk, rfl, hbk, hxk⟩; (obtain ⟨pk, Ak, nk, ck, pk', Ak', nk', ck', rfl⟩ := hbk.1.shape); (have b2 := Box.ext B2 (show Ext W wk by repeat (first | (with_reducible exact Ext.refl _) | (with_reducible apply Ext.drew) | (with_reducible apply Ext.drewN) | (with_reducible refine Ext.trans ?_ (by assumption))))); have q0 := b2.c0; have q1 := b2.c1; have q2 := b2.c2; have q3 := b2.c3; have f0 := b2.frozen 0; have f1 := b2.frozen 1; have f2 := b2.frozen 2; have f3 := b2.frozen 3)
      )
    all_goals (rw [← HQ1.out] at hbk)
    all_goals go_wp2_with fail
    all_goals (
      obtain ⟨pp, pb⟩ := RatV.put hbk.1 b2
      have pc0 := pb.c0
      have pc1 := pb.c1
      have pc2 := pb.c2
      have pc3 := pb.c3
      refine bodyPost_ret (v := .tuple #[.agg #[.bool pk, .slice Ak nk ck, .bool pk', .slice Ak' nk' ck'], .int .i64 0]) (by simp [results, Tryz.results103, go_sem, pc0, pc1, pc2, pc3]) rfl ?_
      exact ⟨fun _ => ⟨_, rfl, ⟨pp, QB_mono (by omega) hbk.2⟩, KE.ext (R := [w.heap.size]) (W0 := W) (by assumption)⟩, fun h => absurd (h.symm.trans HRt.out) (by decide)⟩)
  go_wp2_with fail
  refine (Of_b 1 _ (by decide) (by decide)).mono ?_
  rintro e w4 ⟨v4, rfl, h4, hx4⟩
  obtain ⟨p4, A4, n4, c4, rfl⟩ := h4.1.shape
  go_upto_region 10 with fail
  have hx5 : Ext w4 (w4.alloc (.cells #[.bool p4, .slice A4 n4 c4] 56)) := (Ext.refl w4).alloc _
  have B9 := Box.new w4 56 #[.bool p4, .slice A4 n4 c4]
  have hx45 := hx4.trans hx5
  have hX := hX.ext hx45
  have h1 := h4.ext hx5
  have B7 := B7.ext hx45
  have B2 := B2.ext hx45
  have hE5 := hE3.trans hx45
  generalize (w4.alloc (.cells #[.bool p4, .slice A4 n4 c4] 56)) = W5 at *
  clear hx4 hx5 hx45 h4 hE3
  go_wp2_with fail
  refine (Parse_any sb _ (by omega)).mono ?_
  rintro e w6 ⟨v6, Y, rfl, hY, hYv, -, hx6⟩
  obtain ⟨db, hdb⟩ : ∃ b, b = isDec sb.data.toList := ⟨_, rfl⟩
  obtain ⟨et, het⟩ : ∃ es : Int, es = (if isDec sb.data.toList = true then 0 else 3) := ⟨_, rfl⟩
  rw [← het]
  rw [← hdb] at het hYv
  have hdte : (et != 0) = !db := by rw [het]; cases db <;> rfl
  have HDB := Lib.hid hdb
  have HYV := Lib.hid hYv
  clear het hdb hYv
  obtain ⟨p6, A6, n6, c6, rfl⟩ := hY.shape
  go_upto_region 11 with fail
  have hx7 : Ext w6 (w6.alloc (.cells #[.bool p6, .slice A6 n6 c6] 56)) := (Ext.refl w6).alloc _
  have B10 := Box.new w6 56 #[.bool p6, .slice A6 n6 c6]
  have hx67 := hx6.trans hx7
  have hX := hX.ext hx67
  have hY := hY.ext hx7
  have h1 := h1.ext hx67
  have B7 := B7.ext hx67
  have B9 := B9.ext hx67
  have B2 := B2.ext hx67
  have hE7 := hE5.trans hx67
  generalize (w6.alloc (.cells #[.bool p6, .slice A6 n6 c6] 56)) = W7 at *
  clear hx6 hx7 hx67 hE5
  cases db
  case false =>
    have hRf : R = false := by
      have h1 := HDB.out
      have h2 := HR.out
      rw [← h1] at h2
      rw [h2]; cases isDec sa.data.toList <;> rfl
    have HRf := Lib.hid hRf
    clear hRf
    have q0 := B2.c0
    have q1 := B2.c1
    have q2 := B2.c2
    have q3 := B2.c3
    have f0 := B2.frozen 0
    have f1 := B2.frozen 1
    have f2 := B2.frozen 2
    have f3 := B2.frozen 3
    go_region
    all_goals (go_wp2_with fail)
    all_goals (
      obtain ⟨pp, pb⟩ := RatV.put (RatV.zero W7) B2
      have pc0 := pb.c0
      have pc1 := pb.c1
      have pc2 := pb.c2
      have pc3 := pb.c3
      refine bodyPost_ret (v := .tuple #[.agg #[.bool false, .slice none 0 0, .bool false, .slice none 0 0], .int .i64 3]) (by simp [results, Tryz.results103, go_sem, pc0, pc1, pc2, pc3]) rfl ?_
      exact ⟨fun h => absurd (h.symm.trans HRf.out) (by decide), fun _ => ⟨rfl, Ext.drew ((((hE7.set (by simp) _).set (by simp) _).set (by simp) _).set (by simp) _)⟩⟩)
  have hYs := HYV.out rfl
  have bY : B k Y := by rw [hYs]; exact parse_boundK (by omega) HDB.out.symm
  have HY := Lib.hid hYs
  have hRR : R = (decide (1 < Y) && decide (Nat.gcd X.natAbs Y.natAbs = 1)) := by
    rw [HR.out, ← HDA.out, ← HDB.out, ← HX.out, ← HY.out]; rfl
  have HRR := Lib.hid hRR
  clear hYs hRR
  by_cases hy1 : 1 < Y
  case neg =>
    have e3 : decide (cmpZ Y 1 ≤ 0) = true := by
      unfold cmpZ; split <;> (try split) <;> simp <;> omega
    have hRf : R = false := by rw [HRR.out]; simp [hy1]
    have HRf := Lib.hid hRf
    clear hRf hy1
    have h1V := h1.1
    have k9 := B9.c0
    have k9' := B9.c1
    have k10 := B10.c0
    have k10' := B10.c1
    go_region_with (first
      | (go_at_call 45; (with_reducible refine (Cmp_any _ _ _ _ _ (hY.ext (by repeat (first | (with_reducible exact Ext.refl _) | (with_reducible apply Ext.drew) | (with_reducible apply Ext.drewN)))) (h1V.ext (by repeat (first | (with_reducible exact Ext.refl _) | (with_reducible apply Ext.drew) | (with_reducible apply Ext.drewN))))).mono ?_); rintro e w8 ⟨rfl, hx8⟩))
    all_goals (have B2 := B2.drew.ext hx8)
    all_goals (have hE8 := hE7.drew.trans hx8)
    all_goals (clear k9 k9' k10 k10')
    all_goals (
      have q0 := B2.c0
      have q1 := B2.c1
      have q2 := B2.c2
      have q3 := B2.c3
      have f0 := B2.frozen 0
      have f1 := B2.frozen 1
      have f2 := B2.frozen 2
      have f3 := B2.frozen 3
      go_wp2_with fail
      obtain ⟨pp, pb⟩ := RatV.put (RatV.zero w8) B2
      have pc0 := pb.c0
      have pc1 := pb.c1
      have pc2 := pb.c2
      have pc3 := pb.c3
      refine bodyPost_ret (v := .tuple #[.agg #[.bool false, .slice none 0 0, .bool false, .slice none 0 0], .int .i64 3]) (by simp [results, Tryz.results103, go_sem, pc0, pc1, pc2, pc3]) rfl ?_
      exact ⟨fun h => absurd (h.symm.trans HRf.out) (by decide), fun _ => ⟨rfl, (((hE8.set (by simp) _).set (by simp) _).set (by simp) _).set (by simp) _⟩⟩)
  case pos =>
    have e3 : decide (cmpZ Y 1 ≤ 0) = false := by
      unfold cmpZ; split <;> (try split) <;> simp <;> omega
    have hYB : BigB W7 _ Y k := ⟨hY, bY⟩
    have hXB : BigB W7 _ X k := ⟨hX, bX⟩
    have k90 : ∀ w', Later W7 w' → w'.cell? ⟨w4.heap.size, 0, none⟩ = some (.bool p4) := fun w' h => (B9.ext h).c0
    have k91 : ∀ w', Later W7 w' → w'.cell? ⟨w4.heap.size, 1, none⟩ = some (.slice A4 n4 c4) := fun w' h => (B9.ext h).c1
    have k100 : ∀ w', Later W7 w' → w'.cell? ⟨w6.heap.size, 0, none⟩ = some (.bool p6) := fun w' h => (B10.ext h).c0
    have k101 : ∀ w', Later W7 w' → w'.cell? ⟨w6.heap.size, 1, none⟩ = some (.slice A6 n6 c6) := fun w' h => (B10.ext h).c1
    have k70 : ∀ w', Later W7 w' → w'.cell? ⟨w2.heap.size, 0, none⟩ = some (.bool p3) := fun w' h => (B7.ext h).c0
    have k71 : ∀ w', Later W7 w' → w'.cell? ⟨w2.heap.size, 1, none⟩ = some (.slice A3 n3 c3) := fun w' h => (B7.ext h).c1
    have hS0 := Later.refl W7
    have HY1 := Lib.hid hy1
    clear hy1
    by_cases hg : Nat.gcd X.natAbs Y.natAbs = 1
    · have e4 : (cmpZ ((Nat.gcd X.natAbs Y.natAbs : Nat) : Int) 1 != 0) = false := by rw [hg]; rfl
      have hRt : R = true := by rw [HRR.out, Bool.and_eq_true]; exact ⟨decide_eq_true HY1.out, decide_eq_true hg⟩
      have hq : q = Rat.divInt X Y := by rw [HQ.out, HX.out, HY.out]; rfl
      have HQ1 := Lib.hid hq
      have HRt := Lib.hid hRt
      have HG := Lib.hid hg
      clear hRt hq hg
      go_region_held3 (fun w' => Later W7 w') ((repeat (first | assumption | apply Later.drew | apply Later.drewN | apply Later.alloc | (refine Later.step ?_ (by assumption))))) (first
          | (go_at_call 90; (with_reducible refine (Gcd_b _ _ _ _ _ _ _ (BigB.ext (by assumption) (by repeat (first | (with_reducible exact Ext.refl _) | (with_reducible apply Ext.drew) | (with_reducible apply Ext.drewN) | (with_reducible refine Ext.trans ?_ (by assumption))))) (BigB.ext (by assumption) (by repeat (first | (with_reducible exact Ext.refl _) | (with_reducible apply Ext.drew) | (with_reducible apply Ext.drewN) | (with_reducible refine Ext.trans ?_ (by assumption))))) (by first | omega | decide)).mono ?_); rintro e wk ⟨vk, rfl, hbk, hxk⟩; (obtain ⟨pk, Ak, nk, ck, rfl⟩ := hbk.1.shape))
          | (go_at_call 46; (with_reducible refine (Of_b _ _ (by first | assumption | decide) (by first | assumption | decide)).mono ?_); rintro e wk ⟨vk, rfl, hbk, hxk⟩; (obtain ⟨pk, Ak, nk, ck, rfl⟩ := hbk.1.shape))
          | (go_at_call 44; (with_reducible refine (RatDen_b _ _ _ _ (RatB.ext (by assumption) (by repeat (first | (with_reducible exact Ext.refl _) | (with_reducible apply Ext.drew) | (with_reducible apply Ext.drewN) | (with_reducible refine Ext.trans ?_ (by assumption)))))).mono ?_); rintro e wk ⟨vk, rfl, hbk, hxk⟩; (obtain ⟨pk, Ak, nk, ck, rfl⟩ := hbk.1.shape))
          | (go_at_call 63; (with_reducible refine (Mul_b _ _ _ _ _ _ _ (BigB.ext (by assumption) (by repeat (first | (with_reducible exact Ext.refl _) | (with_reducible apply Ext.drew) | (with_reducible apply Ext.drewN) | (with_reducible refine Ext.trans ?_ (by assumption))))) (BigB.ext (by assumption) (by repeat (first | (with_reducible exact Ext.refl _) | (with_reducible apply Ext.drew) | (with_reducible apply Ext.drewN) | (with_reducible refine Ext.trans ?_ (by assumption))))) (by omega)).mono ?_); rintro e wk ⟨vk, rfl, hbk, hxk⟩; (obtain ⟨pk, Ak, nk, ck, rfl⟩ := hbk.1.shape))
          | (go_at_call 80; (with_reducible refine (Add_b _ _ _ _ _ _ _ (BigB.ext (by assumption) (by repeat (first | (with_reducible exact Ext.refl _) | (with_reducible apply Ext.drew) | (with_reducible apply Ext.drewN) | (with_reducible refine Ext.trans ?_ (by assumption))))) (BigB.ext (by assumption) (by repeat (first | (with_reducible exact Ext.refl _) | (with_reducible apply Ext.drew) | (with_reducible apply Ext.drewN) | (with_reducible refine Ext.trans ?_ (by assumption))))) (by omega)).mono ?_); rintro e wk ⟨vk, rfl, hbk, hxk⟩; (obtain ⟨pk, Ak, nk, ck, rfl⟩ := hbk.1.shape))
          | (go_at_call 45; (with_reducible refine (Cmp_b _ _ _ _ _ _ _ (BigB.ext (by assumption) (by repeat (first | (with_reducible exact Ext.refl _) | (with_reducible apply Ext.drew) | (with_reducible apply Ext.drewN) | (with_reducible refine Ext.trans ?_ (by assumption))))) (BigB.ext (by assumption) (by repeat (first | (with_reducible exact Ext.refl _) | (with_reducible apply Ext.drew) | (with_reducible apply Ext.drewN) | (with_reducible refine Ext.trans ?_ (by assumption)))))).mono ?_); rintro e wk ⟨rfl, hxk⟩)
          | (go_at_call 89; (with_reducible refine (Neg_b _ _ _ _ (BigB.ext (by assumption) (by repeat (first | (with_reducible exact Ext.refl _) | (with_reducible apply Ext.drew) | (with_reducible apply Ext.drewN) | (with_reducible refine Ext.trans ?_ (by assumption)))))).mono ?_); rintro e wk ⟨vk, rfl, hbk, hxk⟩; (obtain ⟨pk, Ak, nk, ck, rfl⟩ := hbk.1.shape))
        )
      all_goals go_upto_region 13 with fail
      all_goals go_wp2_with fail
      all_goals (have hXc : Ext W7 _ := (show Later W7 _ by assumption))
      all_goals (
        refine (red_b _ _ _ _ _ _ _ (hXB.ext hXc) (hYB.ext hXc) (by omega) (by have := HY1.out; omega)).mono ?_
        rintro e w9 ⟨v9, rfl, h9, hx9⟩
        obtain ⟨pk, Ak, nk, ck, pk', Ak', nk', ck', rfl⟩ := h9.1.shape
        have B2 := B2.ext (hXc.trans hx9)
        have hE9 := (hE7.trans hXc).trans hx9
        rw [← HQ1.out] at h9
        clear k90 k91 k100 k101 k70 k71
        have q0 := B2.c0
        have q1 := B2.c1
        have q2 := B2.c2
        have q3 := B2.c3
        have f0 := B2.frozen 0
        have f1 := B2.frozen 1
        have f2 := B2.frozen 2
        have f3 := B2.frozen 3
        go_wp2_with fail
        obtain ⟨pp, pb⟩ := RatV.put h9.1 B2
        have pc0 := pb.c0
        have pc1 := pb.c1
        have pc2 := pb.c2
        have pc3 := pb.c3
        refine bodyPost_ret (v := .tuple #[.agg #[.bool pk, .slice Ak nk ck, .bool pk', .slice Ak' nk' ck'], .int .i64 0]) (by simp [results, Tryz.results103, go_sem, pc0, pc1, pc2, pc3]) rfl ?_
        exact ⟨fun _ => ⟨_, rfl, ⟨pp, QB_mono (by omega) h9.2⟩, (((hE9.set (by simp) _).set (by simp) _).set (by simp) _).set (by simp) _⟩, fun h => absurd (h.symm.trans HRt.out) (by decide)⟩)
    · have e4 : (cmpZ ((Nat.gcd X.natAbs Y.natAbs : Nat) : Int) 1 != 0) = true := by
        have := mt cmpZ_zero'.1 (show ¬ ((Nat.gcd X.natAbs Y.natAbs : Nat) : Int) = 1 by omega)
        simpa using this
      have hRf : R = false := by rw [HRR.out, decide_eq_false hg, Bool.and_false]
      have HRf := Lib.hid hRf
      clear hRf hg
      go_region_held3 (fun w' => Later W7 w') ((repeat (first | assumption | apply Later.drew | apply Later.drewN | apply Later.alloc | (refine Later.step ?_ (by assumption))))) (first
          | (go_at_call 90; (with_reducible refine (Gcd_b _ _ _ _ _ _ _ (BigB.ext (by assumption) (by repeat (first | (with_reducible exact Ext.refl _) | (with_reducible apply Ext.drew) | (with_reducible apply Ext.drewN) | (with_reducible refine Ext.trans ?_ (by assumption))))) (BigB.ext (by assumption) (by repeat (first | (with_reducible exact Ext.refl _) | (with_reducible apply Ext.drew) | (with_reducible apply Ext.drewN) | (with_reducible refine Ext.trans ?_ (by assumption))))) (by first | omega | decide)).mono ?_); rintro e wk ⟨vk, rfl, hbk, hxk⟩; (obtain ⟨pk, Ak, nk, ck, rfl⟩ := hbk.1.shape))
          | (go_at_call 46; (with_reducible refine (Of_b _ _ (by first | assumption | decide) (by first | assumption | decide)).mono ?_); rintro e wk ⟨vk, rfl, hbk, hxk⟩; (obtain ⟨pk, Ak, nk, ck, rfl⟩ := hbk.1.shape))
          | (go_at_call 44; (with_reducible refine (RatDen_b _ _ _ _ (RatB.ext (by assumption) (by repeat (first | (with_reducible exact Ext.refl _) | (with_reducible apply Ext.drew) | (with_reducible apply Ext.drewN) | (with_reducible refine Ext.trans ?_ (by assumption)))))).mono ?_); rintro e wk ⟨vk, rfl, hbk, hxk⟩; (obtain ⟨pk, Ak, nk, ck, rfl⟩ := hbk.1.shape))
          | (go_at_call 63; (with_reducible refine (Mul_b _ _ _ _ _ _ _ (BigB.ext (by assumption) (by repeat (first | (with_reducible exact Ext.refl _) | (with_reducible apply Ext.drew) | (with_reducible apply Ext.drewN) | (with_reducible refine Ext.trans ?_ (by assumption))))) (BigB.ext (by assumption) (by repeat (first | (with_reducible exact Ext.refl _) | (with_reducible apply Ext.drew) | (with_reducible apply Ext.drewN) | (with_reducible refine Ext.trans ?_ (by assumption))))) (by omega)).mono ?_); rintro e wk ⟨vk, rfl, hbk, hxk⟩; (obtain ⟨pk, Ak, nk, ck, rfl⟩ := hbk.1.shape))
          | (go_at_call 80; (with_reducible refine (Add_b _ _ _ _ _ _ _ (BigB.ext (by assumption) (by repeat (first | (with_reducible exact Ext.refl _) | (with_reducible apply Ext.drew) | (with_reducible apply Ext.drewN) | (with_reducible refine Ext.trans ?_ (by assumption))))) (BigB.ext (by assumption) (by repeat (first | (with_reducible exact Ext.refl _) | (with_reducible apply Ext.drew) | (with_reducible apply Ext.drewN) | (with_reducible refine Ext.trans ?_ (by assumption))))) (by omega)).mono ?_); rintro e wk ⟨vk, rfl, hbk, hxk⟩; (obtain ⟨pk, Ak, nk, ck, rfl⟩ := hbk.1.shape))
          | (go_at_call 45; (with_reducible refine (Cmp_b _ _ _ _ _ _ _ (BigB.ext (by assumption) (by repeat (first | (with_reducible exact Ext.refl _) | (with_reducible apply Ext.drew) | (with_reducible apply Ext.drewN) | (with_reducible refine Ext.trans ?_ (by assumption))))) (BigB.ext (by assumption) (by repeat (first | (with_reducible exact Ext.refl _) | (with_reducible apply Ext.drew) | (with_reducible apply Ext.drewN) | (with_reducible refine Ext.trans ?_ (by assumption)))))).mono ?_); rintro e wk ⟨rfl, hxk⟩)
          | (go_at_call 89; (with_reducible refine (Neg_b _ _ _ _ (BigB.ext (by assumption) (by repeat (first | (with_reducible exact Ext.refl _) | (with_reducible apply Ext.drew) | (with_reducible apply Ext.drewN) | (with_reducible refine Ext.trans ?_ (by assumption)))))).mono ?_); rintro e wk ⟨vk, rfl, hbk, hxk⟩; (obtain ⟨pk, Ak, nk, ck, rfl⟩ := hbk.1.shape))
        )
      all_goals go_upto_region 12 with fail
      all_goals (have hXc : Ext W7 _ := (show Later W7 _ by assumption))
      all_goals (
        have B2 := B2.ext hXc
        have hE9 := hE7.trans hXc
        clear k90 k91 k100 k101 k70 k71
        have q0 := B2.c0
        have q1 := B2.c1
        have q2 := B2.c2
        have q3 := B2.c3
        have f0 := B2.frozen 0
        have f1 := B2.frozen 1
        have f2 := B2.frozen 2
        have f3 := B2.frozen 3
        go_wp2_with fail
        obtain ⟨pp, pb⟩ := RatV.put (RatV.zero _) B2
        have pc0 := pb.c0
        have pc1 := pb.c1
        have pc2 := pb.c2
        have pc3 := pb.c3
        refine bodyPost_ret (v := .tuple #[.agg #[.bool false, .slice none 0 0, .bool false, .slice none 0 0], .int .i64 3]) (by simp [results, Tryz.results103, go_sem, pc0, pc1, pc2, pc3]) rfl ?_
        exact ⟨fun h => absurd (h.symm.trans HRf.out) (by decide), fun _ => ⟨rfl, (((hE9.set (by simp) _).set (by simp) _).set (by simp) _).set (by simp) _⟩⟩)
end Go.Proofs.YtljncdcjkdgkeaaGreatDoor.Rt
namespace Go.Proofs.YtljncdcjkdgkeaaGreatDoor.Dc
open Go.RowKit Go.Proofs.YtljncdcjkdgkeaaGreatDoor.Big Go.Proofs.YtljncdcjkdgkeaaGreatDoor.Lp Go.Proofs.YtljncdcjkdgkeaaGreatDoor.Rt

def emptyB : BL := [101, 109, 112, 116, 121]
def boundB : BL := [98, 111, 117, 110, 100]
def okW (l : BL) : Bool := decide (l.length ≤ 4096) && isRat l
def yW (ws : List BL) (j : Nat) : Rat := parseQ (ws.getD j [])
def lfT : List BL → Option CT
  | [] => none
  | w0 :: ws => if w0 = emptyB ∨ w0 = boundB then (if ws.all okW then some (.node (-1) 0 (w0 == emptyB) ws.length (yW ws) .nil .nil) else none) else none
def LeafPost (w : World) (db : Nat) (S : ByteArray) (r : Option CT) (e : Ending) (w' : World) : Prop :=
  Fr (fun k => k = db) w w' ∧ match r with
  | some t => ∃ A, e = .returned (.pointer A) ∧ TreeI w' t A w.heap.size w'.heap.size ∧ Box w' db 100 #[.string S, .int .i64 0]
  | none => e = .returned (.pointer none) ∧ Box w' db 100 #[.string S, .int .i64 3]
def ParsedPost (s : ByteArray) (k : Nat) (w : World) (e : Ending) (w' : World) : Prop :=
  ∃ v X, e = .returned (.tuple #[v, .int .i64 (if isRat s.data.toList = true then 0 else 3)]) ∧ RatB w' v X k ∧ (isRat s.data.toList = true → X = parseQ s.data.toList) ∧ Ext w w'
theorem RatParse_b (s : ByteArray) (k : Nat) (w : World) (hs : s.size ≤ 4096) (hsk : s.size ≤ k) (hk2 : 2 ≤ k) (hk : k ≤ 1099511627776) (hmx : MxOK w) : Calls Tryz.prog 103 #[.string s] w (ParsedPost s k w) := by
  refine (RatParse_any s k w hs hsk hk2 hk hmx).mono ?_
  rintro e w' ⟨h1, h2⟩
  cases h : isRat s.data.toList with
  | true =>
    obtain ⟨v, rfl, hv, hx⟩ := h1 h
    exact ⟨v, _, by rw [h]; rfl, hv, fun _ => rfl, hx⟩
  | false =>
    obtain ⟨rfl, hx⟩ := h2 h
    exact ⟨zeroRat, 0, by rw [h]; rfl, ⟨RatV.zero _, QB_zero (by omega)⟩, fun h' => absurd (h.symm.trans h') (by decide), hx⟩

/-- a word of a leaf -/
theorem word_b (l : BL) (w : World) (he : Env w) :
    Calls Tryz.prog 103 #[.string (str l)] w (fun e w' => ∃ v X E, e = .returned (.tuple #[v, .int .i64 E]) ∧ RatB w' v X 4096 ∧ (okW l = true → E = 0 ∧ X = parseQ l) ∧ (okW l = false → E ≠ 0) ∧ Ext w w') := by
  by_cases hs : l.length ≤ 4096
  · refine (RatParse_b (str l) 4096 w hs hs (by decide) (by decide) he.mx).mono ?_
    rintro e w' ⟨v, X, rfl, hb, hX, hx⟩
    rw [str_list] at hX
    refine ⟨v, X, _, rfl, hb, fun h => ?_, fun h => ?_, hx⟩
    · have hR : isRat l = true := by unfold okW at h; rw [Bool.and_eq_true] at h; exact h.2
      rw [str_list, if_pos hR]
      exact ⟨rfl, hX hR⟩
    · have hR : ¬ isRat l = true := by
        intro hR
        unfold okW at h
        rw [hR, decide_eq_true hs] at h
        cases h
      rw [str_list, if_neg hR]
      decide
  · refine (RatParse_full (str l) w (show 4096 < l.length by omega)).mono ?_
    rintro e w' ⟨rfl, hx⟩
    refine ⟨zeroRat, 0, 5, rfl, ⟨RatV.zero _, QB_zero (by omega)⟩, fun h => ?_, fun _ => by decide, hx⟩
    unfold okW at h
    rw [Bool.and_eq_true] at h
    exact absurd (of_decide_eq_true h.1) hs
set_option maxHeartbeats 1000000 in
set_option maxRecDepth 100000 in
theorem leaf_b (db : Nat) (S : ByteArray) (v : Value) (w0 : BL) (ws : List BL) (w : World) (hD : Box w db 100 #[.string S, .int .i64 0]) (hv : Row w v (sV (w0 :: ws))) (hn9 : ws.length ≤ 1048576) (he : Env w) :
    Calls Tryz.prog 74 #[.pointer (some ⟨db, 0, none⟩), v] w (LeafPost w db S (lfT (w0 :: ws))) := by
  obtain ⟨A, c, rfl, h1, h2, h3⟩ := hv
  obtain ⟨b, off, rfl, hrow⟩ := h3 (by simp [sV])
  have e0 := hrow 0 (.string (str w0)) rfl
  rw [Nat.add_zero] at e0
  obtain ⟨N, hN⟩ : ∃ N, N = ws.length := ⟨_, rfl⟩
  have hlen : (sV (w0 :: ws)).length = N + 1 := by rw [sV_len, hN]; rfl
  rw [hlen] at h1 ⊢
  have i1 : (0 : Int) < ((N + 1 : Nat) : Int) := by omega
  go_enter Tryz.func74, Tryz.ntmps74
  go_upto_region 2 with fail
  have hsl : (str w0).toList = w0 := by rw [Lib.toList_data, str_list]
  rw [hsl]
  obtain ⟨em, hem⟩ : ∃ em, em = (w0 == emptyB) := ⟨_, rfl⟩
  rw [show (w0 == [101, 109, 112, 116, 121]) = em from hem.symm]
  have TB := Box.new w 79 (NodeC (-1) 0 none none em none 0 0)
  have hE : Ext w (w.alloc (.cells (NodeC (-1) 0 none none em none 0 0) 79)) := (Ext.refl w).alloc _
  unfold NodeC at TB hE
  generalize (w.alloc (.cells #[.int .i64 (-1), .int .i64 0, .pointer none, .pointer none, .bool em, .slice none 0 0] 79)) = U at *
  obtain ⟨tb, htb⟩ : ∃ z, z = w.heap.size := ⟨_, rfl⟩
  rw [← htb] at TB ⊢
  have hwt : w.heap.size ≤ tb := by omega
  have hdt : db < tb := by have := hD.lt; omega
  clear htb
  have e0 := hE.cell e0
  have hD1 := hD.ext hE
  have d1 := hD1.c1
  have z1 := hD1.frozen 1
  have t4 : U.cell? ⟨tb, 4, none⟩ = some (.bool em) := TB.cell 4
  obtain ⟨B, hB⟩ : ∃ B, B = (!em && (w0 != boundB)) := ⟨_, rfl⟩
  have HB := Lib.hid hB
  have HEM := Lib.hid hem
  have HN := Lib.hid hN
  have HROW := Lib.hid hrow
  clear hB hem hN h3 hrow hlen
  go_cut [26] (fun v wx => v = .bool B ∧ wx = U)
  case first =>
    cases em with
    | true =>
      have HF : Hid (B = false) := Lib.hid (by rw [HB.out]; rfl)
      go_wp2_with fail
      go_meet
      exact ⟨by rw [HF.out], rfl⟩
    | false =>
      have HF : Hid (B = (w0 != boundB)) := Lib.hid (by rw [HB.out]; rfl)
      go_wp2_with fail
      go_meet
      exact ⟨by rw [HF.out]; rfl, rfl⟩
  case rest =>
  rename_i hK
  obtain ⟨rfl, hwx⟩ := hcut
  refine hK _ _ ?_
  clear hK
  subst hwx
  clear t4 hsl
  cases B with
  | true =>
    have HL : Hid (lfT (w0 :: ws) = none) := Lib.hid (by
      have h := HB.out
      have h2 := HEM.out
      simp at h
      rw [h.1] at h2
      show (if w0 = emptyB ∨ w0 = boundB then _ else none) = none
      rw [if_neg (fun e => e.elim (fun e => by rw [e] at h2; exact absurd h2 (by decide)) h.2)])
    go_wp2_with fail
    go_ret
    rw [HL.out]
    exact ⟨(Fr.of (P := fun k => k = db) hE).set (p := ⟨db, 1, none⟩) rfl (fun z => by rw [d1]; intro e; cases e) _, rfl, hD1.set 1 _⟩
  | false =>
    have HL : Hid (lfT (w0 :: ws) = if ws.all okW then some (.node (-1) 0 em N (yW ws) .nil .nil) else none) := Lib.hid (by
      have h := HB.out
      have h2 := HEM.out
      show (if w0 = emptyB ∨ w0 = boundB then (if ws.all okW then some (CT.node (-1) 0 (w0 == emptyB) ws.length (yW ws) CT.nil CT.nil) else none) else none) = _
      rw [if_pos (by
        cases em with
        | true => exact .inl (by simpa using h2.symm)
        | false => exact .inr (by simpa using h.symm)), HN.out, HEM.out])
    clear e0
    go_upto_region 5 with fail
    go_cut [31, 32, 33] (fun v31 v32 v33 wx => ∃ A' : Option Addr, v31 = .slice A' N (c - 1) ∧ v32 = .int .i64 N ∧ v33 = .int .i64 0 ∧ (0 < N → A' = some ⟨b, off + 1, none⟩) ∧ wx = wc)
    case first =>
      go_wp2_with fail
      case inl =>
        obtain rfl : c = 1 := by omega
        go_meet
        exact ⟨_, rfl, rfl, rfl, fun h => absurd h (by omega), rfl⟩
      case inr =>
        go_meet
        exact ⟨_, rfl, rfl, rfl, fun _ => rfl, rfl⟩
    case rest =>
    rename_i hK
    obtain ⟨A', rfl, rfl, rfl, hA', hwx⟩ := hcut
    refine hK _ _ ?_
    clear hK
    subst hwx
    have hwords : Hid (∀ j, j < N → w.cell? ⟨b, off + 1 + j, none⟩ = some (.string (str (ws.getD j [])))) := Lib.hid (fun j hj => by
      have hj2 : j < ws.length := by rw [← HN.out]; exact hj
      have h := HROW.out (j + 1) (.string (str (ws.getD j []))) (by
        show (sV ws)[j]? = _
        rw [List.getD_eq_getElem?_getD, List.getElem?_eq_getElem hj2]
        exact sV_get (List.getElem?_eq_getElem hj2))
      rwa [show off + 1 + j = off + (j + 1) by omega])
    obtain ⟨ir, ii, iz0, iz1, iz2⟩ := info_parts infoRat
    have hL9 : N ≤ 1099511627776 := by rw [HN.out]; omega
    clear d1 z1 hD1 HROW
    go_wp2_with fail
    go_loopw [33] (fun i wr => ∃ (k : Nat) (A : Option Addr) (c : Nat), k ≤ N ∧ i = .int .i64 k ∧ Hid (∀ j, j < k → okW (ws.getD j []) = true) ∧ OwnQ wr tb (.slice A k c) k (yW ws) ∧ Box wr tb 79 (NodeC (-1) 0 none none em A k c) ∧ Ext w wr) (fun i _ => N - (intOf i).toNat)
    case atStart => exact ⟨0, _, _, by omega, rfl, Lib.hid (fun j hj => absurd hj (by omega)), OwnQ.nil _ _ _, TB, hE⟩
    case round =>
    clear TB hE
    obtain ⟨k, A1, c1, hk, rfl, HO, hO, TB, hx⟩ := hrel
    by_cases hlt : k < N
    case neg =>
      obtain rfl : k = N := by omega
      have hall : ws.all okW = true := List.all_eq_true.2 (fun x hx => by
        obtain ⟨j, hj⟩ := List.getElem?_of_mem hx
        have hj2 : j < ws.length := by
          rcases Nat.lt_or_ge j ws.length with h | h
          · exact h
          · rw [List.getElem?_eq_none h] at hj; cases hj
        have := HO.out j (by rw [HN.out]; exact hj2)
        rw [List.getD_eq_getElem?_getD, hj] at this
        exact this)
      rw [hall] at HL
      go_wp2_with fail
      go_ret
      rw [HL.out]
      exact ⟨Fr.of hx, _, rfl, ⟨tb, none, none, A1, c1, _, _, rfl, hwt, TB.lt, TB, (hO.rats.inI (Nat.le_refl _)).up hwt (Nat.le_refl _), ⟨rfl, Nat.le_refl _⟩, ⟨rfl, Nat.le_refl _⟩⟩, hD.ext hx⟩
    case pos =>
      have i1 : (0 : Int) ≤ (k : Int) := by omega
      have i2 : (k : Int) < (N : Int) := by omega
      obtain rfl := hA' (by omega)
      have e5 := hx.cell (hwords.out k hlt)
      obtain ⟨l, hl⟩ : ∃ l, l = ws.getD k [] := ⟨_, rfl⟩
      rw [← hl] at e5
      have HLL := Lib.hid hl
      clear hl
      go_wp2_with fail
      refine (word_b l _ (he.ext hx)).mono ?_
      rintro e w4 ⟨v4, X, E, rfl, hb4, hok1, hok2, hx4⟩
      obtain ⟨pk, Ak, nk, ck, pk', Ak', nk', ck', rfl⟩ := hb4.1.shape
      go_upto_region 9 with fail
      have RB := Box.new w4 58 #[.bool pk, .slice Ak nk ck, .bool pk', .slice Ak' nk' ck']
      have hx5 := (hx.trans hx4).alloc (.cells #[.bool pk, .slice Ak nk ck, .bool pk', .slice Ak' nk' ck'] 58)
      have hO4 := hO.ext hx4
      have hO5 := hO4.ext ((Ext.refl w4).alloc (.cells #[.bool pk, .slice Ak nk ck, .bool pk', .slice Ak' nk' ck'] 58))
      have TB5 := (TB.ext hx4).ext ((Ext.refl w4).alloc (.cells #[.bool pk, .slice Ak nk ck, .bool pk', .slice Ak' nk' ck'] 58))
      have hb5 := hb4.1.ext ((Ext.refl w4).alloc (.cells #[.bool pk, .slice Ak nk ck, .bool pk', .slice Ak' nk' ck'] 58))
      generalize (w4.alloc (.cells #[.bool pk, .slice Ak nk ck, .bool pk', .slice Ak' nk' ck'] 58)) = W5 at *
      obtain ⟨rb, hrb⟩ : ∃ z, z = w4.heap.size := ⟨_, rfl⟩
      have hNR : ¬ (Value.slice A1 k c1).ownBlock = some rb := fun e => by
        obtain ⟨xs, o, -⟩ := hO4
        obtain ⟨-, -, cur, hcur⟩ := o.lt e
        rw [hrb, Array.getElem?_eq_none (Nat.le_refl _)] at hcur
        cases hcur
      have hrt : rb ≠ tb := by have := (TB.ext hx4).lt; omega
      rw [← hrb] at RB ⊢
      clear hrb TB hO hO4 e5
      cases hw : okW l with
      | false =>
        have hE0 : (E != 0) = true := by simpa using hok2 hw
        have hD5 := hD.ext hx5
        have d1 := hD5.c1
        have z1 := hD5.frozen 1
        have hall : ws.all okW = false := by
          rw [Bool.eq_false_iff]
          intro h
          have := List.all_eq_true.1 h l (by rw [HLL.out, List.getD_eq_getElem?_getD, List.getElem?_eq_getElem (by rw [← HN.out]; exact hlt)]; exact List.getElem_mem _)
          rw [hw] at this; cases this
        rw [hall] at HL
        clear hw
        go_wp2_with fail
        go_ret
        rw [HL.out]
        exact ⟨(Fr.of (P := fun k => k = db) hx5).set (p := ⟨db, 1, none⟩) rfl (fun z => by rw [d1]; intro e; cases e) _, rfl, hD5.set 1 _⟩
      | true =>
        obtain ⟨rfl, hX⟩ := hok1 hw
        have hyX : X = yW ws k := by rw [hX, HLL.out]; rfl
        rw [hyX] at hb5
        have HO2 : Hid (∀ j, j < k + 1 → okW (ws.getD j []) = true) := Lib.hid (fun j hj => by
          rcases (show j < k ∨ j = k by omega) with h | rfl
          · exact HO.out j h
          · rw [← HLL.out]; exact hw)
        have t5 : W5.cell? ⟨tb, 5, none⟩ = some (.slice A1 k c1) := TB5.cell 5
        have hNT : ¬ (Value.slice A1 k c1).ownBlock = some tb := fun e => by
          obtain ⟨xs, o, -⟩ := hO5
          obtain ⟨-, -, cur, hcur⟩ := o.lt e
          exact row_ne TB5 hcur (by decide) rfl
        have kr : ∀ i x, W5.cell? ⟨rb, i, none⟩ = some x → ∀ w', Fr (fun g => (Value.slice A1 k c1).ownBlock = some g ∨ g = tb) W5 w' → w'.cell? ⟨rb, i, none⟩ = some x := fun i x h w' hf => hf.cell (fun e => e.elim hNR hrt) h
        have kr0 := kr 0 _ RB.c0
        have kr1 := kr 1 _ RB.c1
        have kr2 := kr 2 _ RB.c2
        have kr3 := kr 3 _ RB.c3
        have ks := Fr.refl (fun g => (Value.slice A1 k c1).ownBlock = some g ∨ g = tb) W5
        clear hb4 hok1 hok2 hX hyX hw kr
        go_upto_region 12 with fail
        refine wp_region_held_drew (S := fun w' => Fr (fun g => (Value.slice A1 k c1).ownBlock = some g ∨ g = tb) W5 w') (by kernel_rfl) ?_ (fun hHeld => ?_)
        · (try dsimp only); (repeat (first | assumption | apply Fr.drew | apply Fr.drewN | apply Fr.alloc | (refine Fr.step ?_ (by assumption)) | (refine Fr.trans ?_ (by assumption))))
        have hyZ : Ext W5 W5.drew := (Ext.refl W5).drew
        generalize W5.drew = Z at *
        have u2 : Z.cell? ⟨tb, 5, none⟩ = some (.slice A1 k c1) := hyZ.cell t5
        have hza := hyZ.alloc (.cells #[.bool pk, .slice Ak nk ck, .bool pk', .slice Ak' nk' ck'] 58)
        have u3 := hza.cell t5
        refine wpAnyH_take (i := 0) (oi := { dst := some 47, op := Op.move (Operand.tmp 5), type := 25, pos := "text.go:116", after := #[], guard := none }) (v := ?_) rfl (by kernel_rfl) (by kernel_rfl) (by kernel_rfl) (fun _ _ _ h => h) (Or.inl ⟨by rfl, ?_⟩) (by assumption) ?_
        rotate_left
        · intro w hSw; (try dsimp only at hSw); go_simp; try (with_reducible rfl)
        try simp only [Act.put, List.setIfInBounds_toArray, List.set_cons_zero, List.set_cons_succ]
        refine wpAnyH_take (i := 1) (oi := { dst := some 48, op := Op.move (Operand.tmp 5), type := 25, pos := "text.go:116", after := #[], guard := none }) (v := ?_) rfl (by kernel_rfl) (by kernel_rfl) (by kernel_rfl) (fun _ _ _ h => h) (Or.inl ⟨by rfl, ?_⟩) (by assumption) ?_
        rotate_left
        · intro w hSw; (try dsimp only at hSw); go_simp; try (with_reducible rfl)
        try simp only [Act.put, List.setIfInBounds_toArray, List.set_cons_zero, List.set_cons_succ]
        refine wpAnyH_take (i := 2) (oi := { dst := some 49, op := Op.nilCheck (Operand.tmp 48), type := 0, pos := "text.go:116", after := #[{ on := 1, ground := Ground.data }], guard := none }) (v := ?_) rfl (by kernel_rfl) (by kernel_rfl) (by kernel_rfl) (fun _ _ _ h => h) (Or.inl ⟨by rfl, ?_⟩) (by assumption) ?_
        rotate_left
        · intro w hSw; (try dsimp only at hSw); go_simp; try (with_reducible rfl)
        try simp only [Act.put, List.setIfInBounds_toArray, List.set_cons_zero, List.set_cons_succ]
        refine wpAnyH_take (i := 3) (oi := { dst := some 50, op := Op.fieldAddr 79 (Operand.tmp 49) 5, type := 0, pos := "text.go:116", after := #[{ on := 2, ground := Ground.data }], guard := none }) (v := ?_) rfl (by kernel_rfl) (by kernel_rfl) (by kernel_rfl) (fun _ _ _ h => h) (Or.inl ⟨by rfl, ?_⟩) (by assumption) ?_
        rotate_left
        · intro w hSw; (try dsimp only at hSw); go_simp; try (with_reducible rfl)
        try simp only [Act.put, List.setIfInBounds_toArray, List.set_cons_zero, List.set_cons_succ]
        refine wpAnyH_take (i := 5) (oi := { dst := some 52, op := Op.load 58 (Operand.tmp 8), type := 58, pos := "text.go:116", after := #[], guard := none }) (v := ?_) rfl (by kernel_rfl) (by kernel_rfl) (by kernel_rfl) (fun _ _ _ h => h) (Or.inl ⟨by rfl, ?_⟩) (by assumption) ?_
        rotate_left
        · intro w hSw; (try dsimp only at hSw); go_simp; try (with_reducible rfl)
        try simp only [Act.put, List.setIfInBounds_toArray, List.set_cons_zero, List.set_cons_succ]
        refine wpAnyH_ready (rs := [4, 6]) (by kernel_rfl) (by simp) ?_
        refine AllReadyH.cons (o := { dst := some 51, op := Op.load 38 (Operand.tmp 50), type := 38, pos := "text.go:116", after := #[{ on := 3, ground := Ground.data }], guard := none }) rfl (fun K hK => ?_) ?_
        · go_simp
          try (go_wp2_with fail)
          refine hK.out _ _ ?_ (fun hHeld => ?_)
          · (try dsimp only); (repeat (first | assumption | apply Fr.drew | apply Fr.drewN | apply Fr.alloc | (refine Fr.step ?_ (by assumption)) | (refine Fr.trans ?_ (by assumption))))
          clear hK K
          try simp only [Act.put, List.setIfInBounds_toArray, List.set_cons_zero, List.set_cons_succ]
          refine wpAnyH_ready (rs := [6]) (by kernel_rfl) (by simp) ?_
          refine AllReadyH.cons (o := { dst := some 53, op := Op.buildSlice 38 1 #[(0, Operand.tmp 52)], type := 38, pos := "text.go:116", after := #[{ on := 5, ground := Ground.data }], guard := none }) rfl (fun K hK => ?_) ?_
          · go_simp
            try (go_wp2_with fail)
            refine hK.out _ _ ?_ (fun hHeld => ?_)
            · (try dsimp only); (repeat (first | assumption | apply Fr.drew | apply Fr.drewN | apply Fr.alloc | (refine Fr.step ?_ (by assumption)) | (refine Fr.trans ?_ (by assumption))))
            clear hK K
            try simp only [Act.put, List.setIfInBounds_toArray, List.set_cons_zero, List.set_cons_succ]
            refine wpAnyH_ready (rs := [7]) (by kernel_rfl) (by simp) ?_
            refine AllReadyH.cons (o := { dst := some 54, op := Op.call { callee := Callee.builtin Builtin.append, args := #[Operand.tmp 51, Operand.tmp 53], argTypes := #[38, 38] }, type := 38, pos := "text.go:116", after := #[{ on := 4, ground := Ground.data }, { on := 6, ground := Ground.data }], guard := none }) rfl (fun K hK => ?_) ?_
            · skip
              first
                | ((obtain ⟨xs, oX, rX⟩ := hO5.ext hza); (refine step_pushX rfl (.tmp 51) (.tmp 53) 38 rfl tb 58 ir _ 4 64 Tryz.underlying38 ii iz0 iz1 iz2 rfl zR _ k xs rfl oX Z.heap.size [.bool pk, .slice Ak nk ck, .bool pk', .slice Ak' nk' ck'] 1 rfl rfl (new4 Z 58 _ _ _ _) one4 nou4 (by omega) (by decide) (by have := hza.size; have := TB5.lt; omega) ?_); intro v6 y6 o6 r6 s6; (have tb6 := boxR (TB5.ext hza) oX r6 (by decide)); (have c6 : y6.cell? ⟨tb, 5, none⟩ = some (.slice A1 k c1) := tb6.cell 5); (have z6 := tb6.frozen 5); (obtain ⟨A6, d6, rfl⟩ := o6.shape); (have hS6 : Fr (fun g => (Value.slice A1 k c1).ownBlock = some g ∨ g = tb) W5 y6 := (Fr.of hza).trans (r6.weak (fun _ h => .inl h))); (have hS7 : Fr (fun g => (Value.slice A1 k c1).ownBlock = some g ∨ g = tb) W5 (y6.setCell ⟨tb, 5, none⟩ (.slice A6 (k + 1) d6)) := hS6.set (p := ⟨tb, 5, none⟩) (.inr rfl) (fun z => by rw [c6]; intro e; cases e) _))
              try (go_wp2_with fail)
              refine hK.out _ _ ?_ (fun hHeld => ?_)
              · (try dsimp only); (repeat (first | assumption | apply Fr.drew | apply Fr.drewN | apply Fr.alloc | (refine Fr.step ?_ (by assumption)) | (refine Fr.trans ?_ (by assumption))))
              clear hK K
              try simp only [Act.put, List.setIfInBounds_toArray, List.set_cons_zero, List.set_cons_succ]
              refine wpAnyH_take (i := 8) (oi := { dst := some 55, op := Op.nilCheck (Operand.tmp 47), type := 0, pos := "text.go:116", after := #[{ on := 0, ground := Ground.data }, { on := 0, ground := Ground.phase }, { on := 1, ground := Ground.phase }, { on := 2, ground := Ground.phase }, { on := 3, ground := Ground.phase }, { on := 4, ground := Ground.phase }, { on := 5, ground := Ground.phase }, { on := 6, ground := Ground.phase }, { on := 7, ground := Ground.phase }], guard := none }) (v := ?_) rfl (by kernel_rfl) (by kernel_rfl) (by kernel_rfl) (fun _ _ _ h => h) (Or.inl ⟨by rfl, ?_⟩) (by assumption) ?_
              rotate_left
              · intro w hSw; (try dsimp only at hSw); go_simp; try (with_reducible rfl)
              try simp only [Act.put, List.setIfInBounds_toArray, List.set_cons_zero, List.set_cons_succ]
              refine wpAnyH_take (i := 9) (oi := { dst := some 56, op := Op.fieldAddr 79 (Operand.tmp 55) 5, type := 0, pos := "text.go:116", after := #[{ on := 8, ground := Ground.data }, { on := 0, ground := Ground.phase }, { on := 1, ground := Ground.phase }, { on := 2, ground := Ground.phase }, { on := 3, ground := Ground.phase }, { on := 4, ground := Ground.phase }, { on := 5, ground := Ground.phase }, { on := 6, ground := Ground.phase }, { on := 7, ground := Ground.phase }], guard := none }) (v := ?_) rfl (by kernel_rfl) (by kernel_rfl) (by kernel_rfl) (fun _ _ _ h => h) (Or.inl ⟨by rfl, ?_⟩) (by assumption) ?_
              rotate_left
              · intro w hSw; (try dsimp only at hSw); go_simp; try (with_reducible rfl)
              try simp only [Act.put, List.setIfInBounds_toArray, List.set_cons_zero, List.set_cons_succ]
              refine wpAnyH_ready (rs := [10]) (by kernel_rfl) (by simp) ?_
              refine AllReadyH.cons (o := { dst := none, op := Op.store 38 (Operand.tmp 56) (Operand.tmp 54), type := 0, pos := "text.go:116", after := #[{ on := 9, ground := Ground.data }, { on := 7, ground := Ground.data }, { on := 7, ground := Ground.chain }, { on := 0, ground := Ground.phase }, { on := 1, ground := Ground.phase }, { on := 2, ground := Ground.phase }, { on := 3, ground := Ground.phase }, { on := 4, ground := Ground.phase }, { on := 5, ground := Ground.phase }, { on := 6, ground := Ground.phase }, { on := 7, ground := Ground.phase }], guard := none }) rfl (fun K hK => ?_) ?_
              · go_simp
                try (go_wp2_with fail)
                refine hK.out _ _ ?_ (fun hHeld => ?_)
                · (try dsimp only); (repeat (first | assumption | apply Fr.drew | apply Fr.drewN | apply Fr.alloc | (refine Fr.step ?_ (by assumption)) | (refine Fr.trans ?_ (by assumption))))
                clear hK K
                try simp only [Act.put, List.setIfInBounds_toArray, List.set_cons_zero, List.set_cons_succ]
                refine wpAnyH_done (by kernel_rfl) ?_ _
                have hbp := hb5.ext hza
                have hOM : OwnQ y6 tb (.slice A6 (k + 1) d6) (k + 1) (yW ws) := ⟨_, o6, At.push oX.1 rX r6 hbp⟩
                have hOF : OwnQ (y6.setCell ⟨tb, 5, none⟩ (.slice A6 (k + 1) d6)) tb (.slice A6 (k + 1) d6) (k + 1) (yW ws) := hOM.fr ((Fr.refl (fun g => g = tb) y6).set (p := ⟨tb, 5, none⟩) rfl (fun z => by rw [c6]; intro e; cases e) _) (fun g hg e => by obtain ⟨-, -, cur, hcur⟩ := o6.lt hg; exact row_ne tb6 hcur (by decide) e.symm)
                have hBF : Box _ tb 79 (NodeC (-1) 0 none none em A6 (k + 1) d6) := tb6.set 5 (.slice A6 (k + 1) d6)
                have hXF : Ext w (y6.setCell ⟨tb, 5, none⟩ (.slice A6 (k + 1) d6)) := (r6.ext (hx5.trans hza) (fun g hg => by have := (oX.lt hg).1; omega)).set (p := ⟨tb, 5, none⟩) hwt _
                have hDF : Box (y6.setCell ⟨tb, 5, none⟩ (.slice A6 (k + 1) d6)) db 100 #[.string S, .int .i64 0] := hD.ext hXF
                clear hOM
                go_wp2_with fail
                go_roundw
                case rel => exact ⟨k + 1, _, _, by omega, by go_num, HO2, hOF, hBF, hXF⟩
                case measure => simp [intOf]; omega
              exact AllReadyH.nil
            exact AllReadyH.nil
          exact AllReadyH.nil
        refine AllReadyH.cons (o := { dst := some 53, op := Op.buildSlice 38 1 #[(0, Operand.tmp 52)], type := 38, pos := "text.go:116", after := #[{ on := 5, ground := Ground.data }], guard := none }) rfl (fun K hK => ?_) ?_
        · go_simp
          try (go_wp2_with fail)
          refine hK.out _ _ ?_ (fun hHeld => ?_)
          · (try dsimp only); (repeat (first | assumption | apply Fr.drew | apply Fr.drewN | apply Fr.alloc | (refine Fr.step ?_ (by assumption)) | (refine Fr.trans ?_ (by assumption))))
          clear hK K
          try simp only [Act.put, List.setIfInBounds_toArray, List.set_cons_zero, List.set_cons_succ]
          refine wpAnyH_ready (rs := [4]) (by kernel_rfl) (by simp) ?_
          refine AllReadyH.cons (o := { dst := some 51, op := Op.load 38 (Operand.tmp 50), type := 38, pos := "text.go:116", after := #[{ on := 3, ground := Ground.data }], guard := none }) rfl (fun K hK => ?_) ?_
          · go_simp
            try (go_wp2_with fail)
            refine hK.out _ _ ?_ (fun hHeld => ?_)
            · (try dsimp only); (repeat (first | assumption | apply Fr.drew | apply Fr.drewN | apply Fr.alloc | (refine Fr.step ?_ (by assumption)) | (refine Fr.trans ?_ (by assumption))))
            clear hK K
            try simp only [Act.put, List.setIfInBounds_toArray, List.set_cons_zero, List.set_cons_succ]
            refine wpAnyH_ready (rs := [7]) (by kernel_rfl) (by simp) ?_
            refine AllReadyH.cons (o := { dst := some 54, op := Op.call { callee := Callee.builtin Builtin.append, args := #[Operand.tmp 51, Operand.tmp 53], argTypes := #[38, 38] }, type := 38, pos := "text.go:116", after := #[{ on := 4, ground := Ground.data }, { on := 6, ground := Ground.data }], guard := none }) rfl (fun K hK => ?_) ?_
            · skip
              first
                | ((obtain ⟨xs, oX, rX⟩ := hO5.ext hza); (refine step_pushX rfl (.tmp 51) (.tmp 53) 38 rfl tb 58 ir _ 4 64 Tryz.underlying38 ii iz0 iz1 iz2 rfl zR _ k xs rfl oX Z.heap.size [.bool pk, .slice Ak nk ck, .bool pk', .slice Ak' nk' ck'] 1 rfl rfl (new4 Z 58 _ _ _ _) one4 nou4 (by omega) (by decide) (by have := hza.size; have := TB5.lt; omega) ?_); intro v6 y6 o6 r6 s6; (have tb6 := boxR (TB5.ext hza) oX r6 (by decide)); (have c6 : y6.cell? ⟨tb, 5, none⟩ = some (.slice A1 k c1) := tb6.cell 5); (have z6 := tb6.frozen 5); (obtain ⟨A6, d6, rfl⟩ := o6.shape); (have hS6 : Fr (fun g => (Value.slice A1 k c1).ownBlock = some g ∨ g = tb) W5 y6 := (Fr.of hza).trans (r6.weak (fun _ h => .inl h))); (have hS7 : Fr (fun g => (Value.slice A1 k c1).ownBlock = some g ∨ g = tb) W5 (y6.setCell ⟨tb, 5, none⟩ (.slice A6 (k + 1) d6)) := hS6.set (p := ⟨tb, 5, none⟩) (.inr rfl) (fun z => by rw [c6]; intro e; cases e) _))
              try (go_wp2_with fail)
              refine hK.out _ _ ?_ (fun hHeld => ?_)
              · (try dsimp only); (repeat (first | assumption | apply Fr.drew | apply Fr.drewN | apply Fr.alloc | (refine Fr.step ?_ (by assumption)) | (refine Fr.trans ?_ (by assumption))))
              clear hK K
              try simp only [Act.put, List.setIfInBounds_toArray, List.set_cons_zero, List.set_cons_succ]
              refine wpAnyH_take (i := 8) (oi := { dst := some 55, op := Op.nilCheck (Operand.tmp 47), type := 0, pos := "text.go:116", after := #[{ on := 0, ground := Ground.data }, { on := 0, ground := Ground.phase }, { on := 1, ground := Ground.phase }, { on := 2, ground := Ground.phase }, { on := 3, ground := Ground.phase }, { on := 4, ground := Ground.phase }, { on := 5, ground := Ground.phase }, { on := 6, ground := Ground.phase }, { on := 7, ground := Ground.phase }], guard := none }) (v := ?_) rfl (by kernel_rfl) (by kernel_rfl) (by kernel_rfl) (fun _ _ _ h => h) (Or.inl ⟨by rfl, ?_⟩) (by assumption) ?_
              rotate_left
              · intro w hSw; (try dsimp only at hSw); go_simp; try (with_reducible rfl)
              try simp only [Act.put, List.setIfInBounds_toArray, List.set_cons_zero, List.set_cons_succ]
              refine wpAnyH_take (i := 9) (oi := { dst := some 56, op := Op.fieldAddr 79 (Operand.tmp 55) 5, type := 0, pos := "text.go:116", after := #[{ on := 8, ground := Ground.data }, { on := 0, ground := Ground.phase }, { on := 1, ground := Ground.phase }, { on := 2, ground := Ground.phase }, { on := 3, ground := Ground.phase }, { on := 4, ground := Ground.phase }, { on := 5, ground := Ground.phase }, { on := 6, ground := Ground.phase }, { on := 7, ground := Ground.phase }], guard := none }) (v := ?_) rfl (by kernel_rfl) (by kernel_rfl) (by kernel_rfl) (fun _ _ _ h => h) (Or.inl ⟨by rfl, ?_⟩) (by assumption) ?_
              rotate_left
              · intro w hSw; (try dsimp only at hSw); go_simp; try (with_reducible rfl)
              try simp only [Act.put, List.setIfInBounds_toArray, List.set_cons_zero, List.set_cons_succ]
              refine wpAnyH_ready (rs := [10]) (by kernel_rfl) (by simp) ?_
              refine AllReadyH.cons (o := { dst := none, op := Op.store 38 (Operand.tmp 56) (Operand.tmp 54), type := 0, pos := "text.go:116", after := #[{ on := 9, ground := Ground.data }, { on := 7, ground := Ground.data }, { on := 7, ground := Ground.chain }, { on := 0, ground := Ground.phase }, { on := 1, ground := Ground.phase }, { on := 2, ground := Ground.phase }, { on := 3, ground := Ground.phase }, { on := 4, ground := Ground.phase }, { on := 5, ground := Ground.phase }, { on := 6, ground := Ground.phase }, { on := 7, ground := Ground.phase }], guard := none }) rfl (fun K hK => ?_) ?_
              · go_simp
                try (go_wp2_with fail)
                refine hK.out _ _ ?_ (fun hHeld => ?_)
                · (try dsimp only); (repeat (first | assumption | apply Fr.drew | apply Fr.drewN | apply Fr.alloc | (refine Fr.step ?_ (by assumption)) | (refine Fr.trans ?_ (by assumption))))
                clear hK K
                try simp only [Act.put, List.setIfInBounds_toArray, List.set_cons_zero, List.set_cons_succ]
                refine wpAnyH_done (by kernel_rfl) ?_ _
                have hbp := hb5.ext hza
                have hOM : OwnQ y6 tb (.slice A6 (k + 1) d6) (k + 1) (yW ws) := ⟨_, o6, At.push oX.1 rX r6 hbp⟩
                have hOF : OwnQ (y6.setCell ⟨tb, 5, none⟩ (.slice A6 (k + 1) d6)) tb (.slice A6 (k + 1) d6) (k + 1) (yW ws) := hOM.fr ((Fr.refl (fun g => g = tb) y6).set (p := ⟨tb, 5, none⟩) rfl (fun z => by rw [c6]; intro e; cases e) _) (fun g hg e => by obtain ⟨-, -, cur, hcur⟩ := o6.lt hg; exact row_ne tb6 hcur (by decide) e.symm)
                have hBF : Box _ tb 79 (NodeC (-1) 0 none none em A6 (k + 1) d6) := tb6.set 5 (.slice A6 (k + 1) d6)
                have hXF : Ext w (y6.setCell ⟨tb, 5, none⟩ (.slice A6 (k + 1) d6)) := (r6.ext (hx5.trans hza) (fun g hg => by have := (oX.lt hg).1; omega)).set (p := ⟨tb, 5, none⟩) hwt _
                have hDF : Box (y6.setCell ⟨tb, 5, none⟩ (.slice A6 (k + 1) d6)) db 100 #[.string S, .int .i64 0] := hD.ext hXF
                clear hOM
                go_wp2_with fail
                go_roundw
                case rel => exact ⟨k + 1, _, _, by omega, by go_num, HO2, hOF, hBF, hXF⟩
                case measure => simp [intOf]; omega
              exact AllReadyH.nil
            exact AllReadyH.nil
          exact AllReadyH.nil
        exact AllReadyH.nil
end Go.Proofs.YtljncdcjkdgkeaaGreatDoor.Dc
namespace Go.Proofs.YtljncdcjkdgkeaaGreatDoor.Dc
open Go.RowKit Go.Proofs.YtljncdcjkdgkeaaGreatDoor.Big Go.Proofs.YtljncdcjkdgkeaaGreatDoor.Lp Go.Proofs.YtljncdcjkdgkeaaGreatDoor.Rt

def splB : BL := [115, 112, 108, 105, 116]
/-- a line: a split, or a leaf; and the lines behind it -/
def hdL (l : BL) : Except Int ((BL × List BL) × BL) := match cutB 10 l with
  | none => .error 4
  | some (a, b) => match parts 32 a with
    | [] => .error 3
    | w0 :: ws => .ok ((w0, ws), b)
def spl (ws : List BL) : Option (Int × Int) := match ws with
  | [x, y] => match num x, num y with
    | some v, some fl => if 0 ≤ v ∧ v ≤ 9999 then some (v, fl) else none
    | _, _ => none
  | _ => none
def dN : Nat → BL → Except Int (CT × BL)
  | f, l => match hdL l with
    | .error e => .error e
    | .ok ((w0, ws), b) =>
      if w0 = splB then (match f, spl ws with
        | f + 1, some (v, fl) => match dN f b with
          | .error e => .error e
          | .ok (x, r) => match dN f r with
            | .error e => .error e
            | .ok (y, r') => .ok (.node v fl false 0 (fun _ => 0) x y, r')
        | _, _ => .error 3)
      else match lfT (w0 :: ws) with
        | some t => .ok (t, b)
        | none => .error 3
def NodePost (w : World) (db : Nat) (r : Except Int (CT × BL)) (e : Ending) (w' : World) : Prop :=
  Fr (fun k => k = db) w w' ∧ match r with
  | .ok (t, rest) => ∃ A, e = .returned (.pointer A) ∧ TreeI w' t A w.heap.size w'.heap.size ∧ Box w' db 100 #[.string (str rest), .int .i64 0]
  | .error c => c ≠ 0 ∧ e = .returned (.pointer none) ∧ ∃ s, Box w' db 100 #[.string s, .int .i64 c]
theorem dN_err {f : Nat} {l : BL} {c : Int} (h : hdL l = .error c) : dN f l = .error c := by rw [dN, h]
theorem dN_leaf {f : Nat} {l w0 b : BL} {ws : List BL} (h : hdL l = .ok ((w0, ws), b)) (hw : ¬ w0 = splB) : dN f l = match lfT (w0 :: ws) with | some t => .ok (t, b) | none => .error 3 := by
  rw [dN, h]; show (if w0 = splB then _ else _) = _; rw [if_neg hw]
theorem dN_zero {l b : BL} {ws : List BL} (h : hdL l = .ok ((splB, ws), b)) : dN 0 l = .error 3 := by
  rw [dN, h]; show (if splB = splB then _ else _) = _; rw [if_pos rfl]
theorem dN_bad {f : Nat} {l b : BL} {ws : List BL} (h : hdL l = .ok ((splB, ws), b)) (hs : spl ws = none) : dN f l = .error 3 := by
  rw [dN, h]; show (if splB = splB then _ else _) = _; rw [if_pos rfl, hs]
  cases f <;> rfl
theorem dN_in {f : Nat} {l b : BL} {ws : List BL} {v fl : Int} (h : hdL l = .ok ((splB, ws), b)) (hs : spl ws = some (v, fl)) : dN (f + 1) l = match dN f b with
    | .error e => .error e
    | .ok (x, r) => match dN f r with
      | .error e => .error e
      | .ok (y, r') => .ok (.node v fl false 0 (fun _ => 0) x y, r') := by
  rw [dN, h]; show (if splB = splB then _ else _) = _; rw [if_pos rfl, hs]
theorem cutB_len {c : UInt8} {l a b : BL} (h : cutB c l = some (a, b)) : a.length ≤ l.length ∧ b.length ≤ l.length := by
  obtain ⟨rfl, -⟩ := cutB_spec h
  simp <;> omega
theorem hdL_len {l w0 b : BL} {ws : List BL} (h : hdL l = .ok ((w0, ws), b)) : b.length ≤ l.length := by
  unfold hdL at h
  split at h
  · cases h
  · next a b' hc =>
    split at h
    · cases h
    · injection h with h
      injection h with h1 h2
      subst h2
      exact (cutB_len hc).2
theorem dN_len : ∀ (f : Nat) (l : BL) (t : CT) (r : BL), dN f l = .ok (t, r) → r.length ≤ l.length := by
  intro f
  induction f with
  | zero =>
    intro l t r h
    cases hh : hdL l with
    | error e => rw [dN_err hh] at h; cases h
    | ok p =>
      obtain ⟨⟨w0, ws⟩, b⟩ := p
      have hb := hdL_len hh
      by_cases hw : w0 = splB
      · subst hw
        rw [dN_zero hh] at h; cases h
      · rw [dN_leaf hh hw] at h
        split at h
        · injection h with h; injection h with _ h; subst h; exact hb
        · cases h
  | succ f ih =>
    intro l t r h
    cases hh : hdL l with
    | error e => rw [dN_err hh] at h; cases h
    | ok p =>
      obtain ⟨⟨w0, ws⟩, b⟩ := p
      have hb := hdL_len hh
      by_cases hw : w0 = splB
      · subst hw
        cases hs : spl ws with
        | none => rw [dN_bad hh hs] at h; cases h
        | some q =>
          obtain ⟨v, fl⟩ := q
          rw [dN_in hh hs] at h
          cases ha : dN f b with
          | error e => rw [ha] at h; cases h
          | ok p =>
            obtain ⟨x, r1⟩ := p
            rw [ha] at h
            dsimp only at h
            cases hb' : dN f r1 with
            | error e => rw [hb'] at h; cases h
            | ok p =>
              obtain ⟨y, r2⟩ := p
              rw [hb'] at h
              injection h with h
              injection h with _ h
              subst h
              have h1 := ih _ _ _ ha
              have h2 := ih _ _ _ hb'
              omega
      · rw [dN_leaf hh hw] at h
        split at h
        · injection h with h; injection h with _ h; subst h; exact hb
        · cases h
set_option maxHeartbeats 1000000 in
set_option maxRecDepth 100000 in
theorem node_b : ∀ (f : Nat) (l : BL) (db : Nat) (w0 w : World), f ≤ 200 → l.length ≤ 1048576 → Ext w0 w → w0.heap.size ≤ db → Env w0 → Box w db 100 #[.string (str l), .int .i64 0] →
    Calls Tryz.prog 40 #[.pointer (some ⟨db, 0, none⟩), .int .i64 ((200 - f : Nat) : Int)] w (NodePost w db (dN f l)) := by
  intro f
  induction f using Nat.strongRecOn with
  | _ f ih =>
  intro l db w0 w hf hl hE0 hdb he hD
  obtain ⟨R, hR⟩ : ∃ R, R = dN f l := ⟨_, rfl⟩
  rw [← hR]
  have HR := Lib.hid hR
  clear hR
  obtain ⟨lev, hlev⟩ : ∃ k, k = 200 - f := ⟨_, rfl⟩
  rw [← hlev]
  have HLV := Lib.hid hlev
  clear hlev
  have c0 := hD.c0
  go_enter Tryz.func40, Tryz.ntmps40
  go_wp2_with fail
  refine (Cut_any (str l) 10 w (by rw [str_size]; omega) (he.ext hE0)).mono ?_
  rintro e w1 ⟨⟨a, b, fd, rfl, hc1, hc2⟩, hx1⟩
  rw [str_list] at hc1 hc2
  have hD1 := hD.ext hx1
  have d0 := hD1.c0
  have d1 := hD1.c1
  have z0 := hD1.frozen 0
  have z1 := hD1.frozen 1
  clear c0
  cases fd with
  | false =>
    have HF : Hid (R = .error 4) := Lib.hid (by rw [HR.out]; exact dN_err (by unfold hdL; rw [(hc2 rfl).1]))
    clear hc1 hc2
    go_wp2_with fail
    go_ret
    rw [HF.out]
    exact ⟨(Fr.of (P := fun k => k = db) hx1).set (p := ⟨db, 1, none⟩) rfl (fun z => by rw [d1]; intro e; cases e) _, by decide, rfl, _, hD1.set 1 _⟩
  | true =>
  have hcut := hc1 rfl
  clear hc1 hc2
  obtain ⟨hal, hbl⟩ := cutB_len hcut
  go_upto_region 6 with fail
  have hD2 : Box (w1.setCell ⟨db, 0, none⟩ (.string (str b))) db 100 #[.string (str b), .int .i64 0] := hD1.set 0 _
  have k2 : Fr (fun k => k = db) w (w1.setCell ⟨db, 0, none⟩ (.string (str b))) := (Fr.of (P := fun k => k = db) hx1).set (p := ⟨db, 0, none⟩) rfl (fun z => by rw [d0]; intro e; cases e) _
  generalize (w1.setCell ⟨db, 0, none⟩ (.string (str b))) = W2 at *
  have hE2 : Ext w0 W2 := k2.ext hE0 (fun k hk => by rw [hk]; exact hdb)
  clear d0 d1 z0 z1 hD1 hx1 hD
  go_wp2_with fail
  refine (Split_any (str a) 32 W2 (by rw [str_size]; omega) (he.ext hE2)).mono ?_
  rintro e w3 ⟨⟨v, rfl, hrow⟩, hx3⟩
  rw [str_list] at hrow
  obtain ⟨w0', ws, hp⟩ : ∃ w0' ws, parts 32 a = w0' :: ws := by
    cases h : parts 32 a with
    | nil => exact absurd h (parts_ne _ _)
    | cons x y => exact ⟨x, y, rfl⟩
  rw [hp] at hrow
  have hhd : hdL l = .ok ((w0', ws), b) := by unfold hdL; rw [hcut]; show (match parts 32 a with | [] => _ | w0 :: ws => _) = _; rw [hp]
  have hwl : ws.length ≤ 1048576 := by
    have := parts_len 32 a
    rw [hp] at this
    simp at this
    omega
  have hwm : ∀ x ∈ ws, x.length ≤ 1048576 := fun x hx => by
    have := parts_mem_len 32 a x (by rw [hp]; exact List.mem_cons_of_mem _ hx)
    omega
  have HHD := Lib.hid hhd
  have HWM := Lib.hid hwm
  have hE3 := hE2.trans hx3
  have k3 := k2.step hx3
  have hD3 := hD2.ext hx3
  clear hp hhd hwm hcut hal hD2 hx3 hE2 k2
  have hrow0 := hrow
  obtain ⟨A, c, rfl, h1, h2, h3⟩ := hrow
  obtain ⟨bw, off, rfl, hcell⟩ := h3 (by simp [sV])
  have e0 := hcell 0 (.string (str w0')) rfl
  rw [Nat.add_zero] at e0
  obtain ⟨N, hN⟩ : ∃ N, N = ws.length := ⟨_, rfl⟩
  have hlen : (sV (w0' :: ws)).length = N + 1 := by rw [sV_len, hN]; rfl
  rw [hlen] at h1 hrow0 ⊢
  have i1 : (0 : Int) < ((N + 1 : Nat) : Int) := by omega
  have hsl : (str w0').toList = w0' := by rw [Lib.toList_data, str_list]
  have HN := Lib.hid hN
  have HC := Lib.hid hcell
  clear h3 hcell hlen hN
  by_cases hsp : w0' = splB
  case neg =>
    have e9 : (w0' == [115, 112, 108, 105, 116]) = false := by simpa [splB] using hsp
    have HF : Hid (R = match lfT (w0' :: ws) with | some t => .ok (t, b) | none => .error 3) := Lib.hid (by rw [HR.out]; exact dN_leaf HHD.out hsp)
    clear hsp
    go_wp2_with fail
    refine (leaf_b db (str b) _ w0' ws _ hD3 hrow0 hwl (he.ext hE3)).mono ?_
    rintro e w4 ⟨k4, hpost⟩
    obtain ⟨L, hL⟩ : ∃ L, L = lfT (w0' :: ws) := ⟨_, rfl⟩
    rw [← hL] at hpost HF
    have hsz := k3.size
    clear hL e9
    cases L with
    | none =>
      obtain ⟨rfl, hD4⟩ := hpost
      go_wp2_with fail
      go_ret
      rw [HF.out]
      exact ⟨k3.trans k4, by decide, rfl, _, hD4⟩
    | some t =>
      obtain ⟨A4, rfl, hT, hD4⟩ := hpost
      go_wp2_with fail
      go_ret
      rw [HF.out]
      exact ⟨k3.trans k4, _, rfl, hT.up hsz (Nat.le_refl _), hD4⟩
  case pos =>
  subst hsp
  have e9 : (splB == [115, 112, 108, 105, 116]) = true := by decide
  have d1 := hD3.c1
  have z1 := hD3.frozen 1
  have fail3 : ∀ (W : World), Ext w3 W → R = .error 3 → NodePost w db R (.returned (.pointer none)) (W.setCell ⟨db, 1, none⟩ (.int .i64 3)) := fun W hW hR => by
    have hD9 := hD3.ext hW
    rw [hR]
    exact ⟨(k3.step hW).set (p := ⟨db, 1, none⟩) rfl (fun z => by rw [hD9.c1]; intro e; cases e) _, by decide, rfl, _, hD9.set 1 _⟩
  have HFAIL := Lib.hid fail3
  clear fail3
  by_cases hN2 : N = 2
  case neg =>
    have e3 : ¬ ((N : Int) + 1 = 3) := by omega
    have e1 : (((N : Int) + 1) == 3) = false := by rw [beq_eq_false_iff_ne]; exact e3
    have e2 : (((N : Int) + 1) != 3) = true := by rw [bne, e1]; rfl
    have HF : Hid (R = .error 3) := Lib.hid (by
      rw [HR.out]
      refine dN_bad HHD.out ?_
      have hl2 : ws.length ≠ 2 := by rw [← HN.out]; exact hN2
      unfold spl
      split
      · exact absurd rfl hl2
      · rfl)
    clear hN2
    go_wp2_with fail
    go_ret
    exact HFAIL.out _ (Ext.refl _) HF.out
  case pos =>
  subst hN2
  by_cases hf0 : f = 0
  case pos =>
    have e3 : ¬ (lev : Int) < 200 := by have := HLV.out; omega
    have e2 : decide ((200 : Int) ≤ (lev : Int)) = true := by simp; omega
    have HF : Hid (R = .error 3) := Lib.hid (by rw [HR.out, hf0]; exact dN_zero HHD.out)
    clear hf0
    go_wp2_with fail
    go_ret
    exact HFAIL.out _ (Ext.refl _) HF.out
  case neg =>
  obtain ⟨g, hg⟩ : ∃ g, f = g + 1 := ⟨f - 1, by omega⟩
  have e2' : (lev : Int) < 200 := by have := HLV.out; omega
  have e2 : decide ((200 : Int) ≤ (lev : Int)) = false := by simp; omega
  obtain ⟨x, y, hxy⟩ : ∃ x y, ws = [x, y] := by
    have := HN.out
    match ws, this with
    | [x, y], _ => exact ⟨x, y, rfl⟩
  have e3 := HC.out 1 (.string (str x)) (by rw [hxy]; rfl)
  have e4 := HC.out 2 (.string (str y)) (by rw [hxy]; rfl)
  have hx9 : x.length ≤ 1048576 := HWM.out x (by rw [hxy]; simp)
  have hy9 : y.length ≤ 1048576 := HWM.out y (by rw [hxy]; simp)
  have HXY := Lib.hid hxy
  have HG := Lib.hid hg
  have IH := Lib.hid ih
  clear hxy hg hf0 ih hrow0
  go_wp2_with fail
  refine (decimal_any (str x) _ (by rw [str_size]; omega) (he.ext hE3)).mono ?_
  rintro e w4 ⟨⟨v, bv, rfl, hbv, hv⟩, hx4⟩
  rw [str_list] at hbv hv
  have HBV := Lib.hid hbv
  have HV := Lib.hid hv
  clear hbv hv
  have e4 := hx4.cell e4
  clear e3 e0 e9
  go_wp2_with fail
  refine (decimal_any (str y) _ (by rw [str_size]; omega) (he.ext (hE3.trans hx4))).mono ?_
  rintro e w5 ⟨⟨fl, bf, rfl, hbf, hfl⟩, hx5⟩
  rw [str_list] at hbf hfl
  have HBF := Lib.hid hbf
  have HFL := Lib.hid hfl
  clear hbf hfl
  have hx35 := hx4.trans hx5
  clear e4 hx4 hx5
  have hspl : spl [x, y] = match num x, num y with
    | some v, some fl => if 0 ≤ v ∧ v ≤ 9999 then some (v, fl) else none
    | _, _ => none := rfl
  have hD5 := hD3.ext hx35
  have d1 := hD5.c1
  have z1 := hD5.frozen 1
  by_cases hgood : (bv = true ∧ bf = true) ∧ 0 ≤ v ∧ v ≤ 9999
  case neg =>
    have HF : Hid (R = .error 3) := Lib.hid (by
      rw [HR.out]
      refine dN_bad HHD.out ?_
      rw [HXY.out, hspl]
      have hbv := HBV.out
      have hbf := HBF.out
      have hv := HV.out
      cases hnx : num x with
      | none => rfl
      | some v' =>
        cases hny : num y with
        | none => rfl
        | some fl' =>
          have e1 := hv _ hnx
          rw [hnx] at hbv
          rw [hny] at hbf
          show (if 0 ≤ v' ∧ v' ≤ 9999 then _ else none) = none
          rw [if_neg (by rw [← e1]; intro h; exact hgood ⟨⟨hbv, hbf⟩, h⟩)])
    clear hspl HV HFL HBV HBF
    cases bv with
    | false =>
      go_wp2_with fail
      go_ret
      exact HFAIL.out _ hx35 HF.out
    | true =>
      cases bf with
      | false =>
        go_wp2_with fail
        go_ret
        exact HFAIL.out _ hx35 HF.out
      | true =>
        by_cases hv0 : v < 0
        · have u1 : decide (v < 0) = true := decide_eq_true hv0
          go_wp2_with fail
          go_ret
          exact HFAIL.out _ hx35 HF.out
        · have u1 : decide (v < 0) = false := decide_eq_false hv0
          have hv9 : (9999 : Int) < v := by
            by_cases h : (9999 : Int) < v
            · exact h
            · exact absurd ⟨⟨rfl, rfl⟩, by omega, by omega⟩ hgood
          have u2 : decide ((9999 : Int) < v) = true := decide_eq_true hv9
          go_wp2_with fail
          go_ret
          exact HFAIL.out _ hx35 HF.out
  case pos =>
  obtain ⟨⟨rfl, rfl⟩, hv0, hv9⟩ := hgood
  have hsp2 : spl ws = some (v, fl) := by
    rw [HXY.out, hspl]
    have hbv := HBV.out
    have hbf := HBF.out
    have hv := HV.out
    have hfl := HFL.out
    cases hnx : num x with
    | none => rw [hnx] at hbv; cases hbv
    | some v' =>
      cases hny : num y with
      | none => rw [hny] at hbf; cases hbf
      | some fl' =>
        have e1 := hv _ hnx
        have e2 := hfl _ hny
        show (if 0 ≤ v' ∧ v' ≤ 9999 then _ else none) = _
        rw [← e1, ← e2, if_pos ⟨hv0, hv9⟩]
  have hRin := dN_in (f := g) HHD.out hsp2
  rw [← HG.out, ← HR.out] at hRin
  have HRI := Lib.hid hRin
  have u1 : decide (v < 0) = false := decide_eq_false (by omega)
  have u2 : decide ((9999 : Int) < v) = false := decide_eq_false (by omega)
  have k5 := k3.step hx35
  have hE5 := hE3.trans hx35
  clear hspl HV HFL HBV HBF hsp2 hRin k3 hE3 hD3 hv0 hv9
  go_upto_region 18 with fail
  have TB := Box.new w5 79 (NodeC v fl none none false none 0 0)
  have hET : Ext w5 (w5.alloc (.cells (NodeC v fl none none false none 0 0) 79)) := (Ext.refl w5).alloc _
  unfold NodeC at TB hET
  have hsz : (w5.alloc (.cells #[.int .i64 v, .int .i64 fl, .pointer none, .pointer none, .bool false, .slice none 0 0] 79)).heap.size = w5.heap.size + 1 := by simp
  generalize (w5.alloc (.cells #[.int .i64 v, .int .i64 fl, .pointer none, .pointer none, .bool false, .slice none 0 0] 79)) = U at *
  obtain ⟨tb, htb⟩ : ∃ z, z = w5.heap.size := ⟨_, rfl⟩
  rw [← htb] at TB hsz ⊢
  have hDU := hD5.ext hET
  have kU := k5.step hET
  have hEU := hE5.trans hET
  have hwt : w.heap.size ≤ tb := by rw [htb]; exact k5.size
  have hdt : db < tb := by rw [htb]; exact hD5.lt
  clear htb d1 z1 hD5 hET k5 hE5 hx35 u1 u2
  have hc1 := IH.out g (by have := HG.out; omega) b db w0 U (by have := HG.out; omega) (by omega) hEU hdb he hDU
  rw [show ((200 - g : Nat) : Int) = (lev : Int) + 1 by have := HLV.out; have := HG.out; omega] at hc1
  obtain ⟨RA, hRA⟩ : ∃ r, r = dN g b := ⟨_, rfl⟩
  rw [← hRA] at hc1
  have HRA := Lib.hid hRA
  clear hRA
  have rl : IntKind.i64.wrap ((lev : Int) + 1) = (lev : Int) + 1 := IntWalk.i64_in _ (by omega)
  go_wp2_with fail
  refine hc1.mono ?_
  clear hc1
  rintro e w6 ⟨k6, hpost⟩
  have hbt : ¬ tb = db := by omega
  have TB6 := k6.box TB hbt
  have z2 := TB6.frozen 2
  have c2 : w6.cell? ⟨tb, 2, none⟩ = some (.pointer none) := TB6.cell 2
  cases RA with
  | error cc =>
    obtain ⟨hcc, rfl, s, hD6⟩ := hpost
    have HF : Hid (R = .error cc) := Lib.hid (by rw [HRI.out, ← HRA.out])
    go_upto_region 19 with fail
    have k7 : Fr (fun k => k = db) w (w6.setCell ⟨tb, 2, none⟩ (.pointer none)) := (kU.trans k6).setN (p := ⟨tb, 2, none⟩) hwt _
    have hD7 := hD6.far (p := ⟨tb, 2, none⟩) (by show db ≠ tb; omega) (.pointer none)
    generalize (w6.setCell ⟨tb, 2, none⟩ (.pointer none)) = W7 at *
    have d1 := hD7.c1
    have e6 : (cc == 0) = false := by rw [beq_eq_false_iff_ne]; exact hcc
    have e7 : (cc != 0) = true := by rw [bne, e6]; rfl
    clear z2 c2
    go_wp2_with fail
    go_ret
    rw [HF.out]
    exact ⟨k7, hcc, rfl, _, hD7⟩
  | ok q =>
  obtain ⟨xt, r⟩ := q
  obtain ⟨A6, rfl, hT6, hD6⟩ := hpost
  have hrl := dN_len g b xt r HRA.out.symm
  have HRI2 : Hid (R = match dN g r with | .error e => .error e | .ok (y, r') => .ok (.node v fl false 0 (fun _ => 0) xt y, r')) := Lib.hid (by rw [HRI.out, ← HRA.out])
  have hU6 : U.heap.size ≤ w6.heap.size := k6.size
  go_upto_region 19 with fail
  have k7 : Fr (fun k => k = db) w (w6.setCell ⟨tb, 2, none⟩ (.pointer A6)) := (kU.trans k6).setN (p := ⟨tb, 2, none⟩) hwt _
  have k67 : Fr (fun k => k = tb) w6 (w6.setCell ⟨tb, 2, none⟩ (.pointer A6)) := (Fr.refl (fun k => k = tb) w6).set (p := ⟨tb, 2, none⟩) rfl (fun z => by rw [c2]; intro e; cases e) _
  have hD7 := hD6.far (p := ⟨tb, 2, none⟩) (by show db ≠ tb; omega) (.pointer A6)
  have TB7 : Box (w6.setCell ⟨tb, 2, none⟩ (.pointer A6)) tb 79 (NodeC v fl A6 none false none 0 0) := TB6.set 2 (.pointer A6)
  have hT7 := hT6.fr k67 (fun k h1 h2 => by omega)
  have hs7 := k67.size
  clear k67 hT6 hD6 TB6 z2 c2
  generalize (w6.setCell ⟨tb, 2, none⟩ (.pointer A6)) = W7 at *
  have hE7 : Ext w0 W7 := k7.ext hE0 (fun k hk => by rw [hk]; exact hdb)
  have hT7 := hT7.up (Nat.le_refl _) hs7
  have d1 := hD7.c1
  have hc2 := IH.out g (by have := HG.out; omega) r db w0 W7 (by have := HG.out; omega) (by omega) hE7 hdb he hD7
  rw [show ((200 - g : Nat) : Int) = (lev : Int) + 1 by have := HLV.out; have := HG.out; omega] at hc2
  obtain ⟨RB, hRB⟩ : ∃ x, x = dN g r := ⟨_, rfl⟩
  rw [← hRB] at hc2
  have HRB := Lib.hid hRB
  clear hRB
  go_wp2_with fail
  refine hc2.mono ?_
  clear hc2 d1
  rintro e w8 ⟨k8, hpost⟩
  have TB8 := k8.box TB7 hbt
  have hT8 := hT7.fr k8 (fun k h1 h2 => by omega)
  have z3 := TB8.frozen 3
  have c3 : w8.cell? ⟨tb, 3, none⟩ = some (.pointer none) := TB8.cell 3
  have hs8 := k8.size
  cases RB with
  | error cc =>
    obtain ⟨hcc, rfl, s, hD8⟩ := hpost
    have HF : Hid (R = .error cc) := Lib.hid (by rw [HRI2.out, ← HRB.out])
    go_upto_region 22 with fail
    have k9 : Fr (fun k => k = db) w (w8.setCell ⟨tb, 3, none⟩ (.pointer none)) := (k7.trans k8).setN (p := ⟨tb, 3, none⟩) hwt _
    have hD9 := hD8.far (p := ⟨tb, 3, none⟩) (by show db ≠ tb; omega) (.pointer none)
    generalize (w8.setCell ⟨tb, 3, none⟩ (.pointer none)) = W9 at *
    have d1 := hD9.c1
    have e6 : (cc == 0) = false := by rw [beq_eq_false_iff_ne]; exact hcc
    have e7 : (cc != 0) = true := by rw [bne, e6]; rfl
    clear z3 c3
    go_wp2_with fail
    go_ret
    rw [HF.out]
    exact ⟨k9, hcc, rfl, _, hD9⟩
  | ok q =>
  obtain ⟨yt, r'⟩ := q
  obtain ⟨A8, rfl, hY8, hD8⟩ := hpost
  have HF : Hid (R = .ok (.node v fl false 0 (fun _ => 0) xt yt, r')) := Lib.hid (by rw [HRI2.out, ← HRB.out])
  go_upto_region 22 with fail
  have k9 : Fr (fun k => k = db) w (w8.setCell ⟨tb, 3, none⟩ (.pointer A8)) := (k7.trans k8).setN (p := ⟨tb, 3, none⟩) hwt _
  have k89 : Fr (fun k => k = tb) w8 (w8.setCell ⟨tb, 3, none⟩ (.pointer A8)) := (Fr.refl (fun k => k = tb) w8).set (p := ⟨tb, 3, none⟩) rfl (fun z => by rw [c3]; intro e; cases e) _
  have hD9 := hD8.far (p := ⟨tb, 3, none⟩) (by show db ≠ tb; omega) (.pointer A8)
  have TB9 : Box (w8.setCell ⟨tb, 3, none⟩ (.pointer A8)) tb 79 (NodeC v fl A6 A8 false none 0 0) := TB8.set 3 (.pointer A8)
  have hT9 := hT8.fr k89 (fun k h1 h2 => by omega)
  have hY9 := hY8.fr k89 (fun k h1 h2 => by omega)
  have hs9 := k89.size
  clear k89 hT8 hY8 hD8 TB8 z3 c3
  generalize (w8.setCell ⟨tb, 3, none⟩ (.pointer A8)) = W9 at *
  have d1 := hD9.c1
  go_wp2_with fail
  go_ret
  rw [HF.out]
  exact ⟨k9, _, rfl, ⟨tb, A6, A8, none, 0, _, _, rfl, hwt, (by omega), TB9, ⟨⟨Nat.le_refl _, by decide, fun h => absurd h (by omega)⟩, fun h => absurd h (by omega)⟩, hT9, hY9.up (Nat.le_refl _) hs9⟩, hD9⟩
end Go.Proofs.YtljncdcjkdgkeaaGreatDoor.Dc
namespace Go.Proofs.YtljncdcjkdgkeaaGreatDoor.Dc
open Go.RowKit Go.Proofs.YtljncdcjkdgkeaaGreatDoor.Big Go.Proofs.YtljncdcjkdgkeaaGreatDoor.Lp Go.Proofs.YtljncdcjkdgkeaaGreatDoor.Rt

def decP (l : BL) : Except Int CT := if 65536 < l.length then .error 5 else if l ≠ [] ∧ Lib.hasSuffix l [10] = false then .error 3 else match dN 200 l with
  | .error e => .error e
  | .ok (t, r) => if r = [] then .ok t else .error 3
def DecPost (w : World) (r : Except Int CT) (e : Ending) (w' : World) : Prop := Ext w w' ∧ match r with
  | .ok t => ∃ A, e = .returned (.tuple #[.pointer A, .int .i64 0]) ∧ TreeI w' t A w.heap.size w'.heap.size
  | .error c => e = .returned (.tuple #[.pointer none, .int .i64 c])
set_option maxHeartbeats 1000000 in
set_option maxRecDepth 100000 in
theorem Decode_b (l : BL) (w : World) (he : Env w) : Calls Tryz.prog 13 #[.string (str l)] w (DecPost w (decP l)) := by
  by_cases h0 : 65536 < l.length
  · refine (decode_long (str l) w h0).mono ?_
    rintro e w' ⟨rfl, hx⟩
    exact ⟨hx, by rw [show decP l = .error 5 from if_pos h0]⟩
  by_cases hnil : l = []
  · subst hnil
    refine (decode_none w he.mx).mono ?_
    rintro e w' ⟨rfl, hx⟩
    exact ⟨hx, by rw [show decP [] = .error 4 from by unfold decP; rw [if_neg h0, if_neg (fun h => h.1 rfl), dN_err (show hdL [] = .error 4 from rfl)]]⟩
  have hsz : (str l).size = l.length := str_size l
  have hsl : (str l).toList = l := by rw [Lib.toList_data, str_list]
  have h1 : decide ((65536 : Int) < (l.length : Int)) = false := by simp; omega
  have h2 : (l == []) = false := by simpa using hnil
  have h3 : l.isEmpty = false := by simpa using hnil
  obtain ⟨F, hF⟩ : ∃ F, F = Lib.hasSuffix l [10] := ⟨_, rfl⟩
  have HF := Lib.hid hF
  have HNIL := Lib.hid hnil
  have HH0 := Lib.hid h0
  have hsuf := Tryz.strings_HasSuffix (str l) ⟨#[10]⟩ w (by rw [hsz]; omega)
  rw [str_list, show (⟨#[10]⟩ : ByteArray).data.toList = [10] from rfl, ← hF] at hsuf
  clear hF hnil h0
  go_enter Tryz.func13, Tryz.ntmps13
  go_wp2_with fail
  refine hsuf.mono ?_
  clear hsuf
  rintro e w1 ⟨rfl, rfl⟩
  cases F with
  | false =>
    have HR : Hid (decP l = .error 3) := Lib.hid (by unfold decP; rw [if_neg HH0.out, if_pos ⟨HNIL.out, HF.out.symm⟩])
    go_wp2_with fail
    refine bodyPost_ret (v := .tuple #[.pointer none, .int .i64 3]) (by simp [results, Tryz.results13, go_sem]) rfl ?_
    exact ⟨Ext.refl _, by rw [HR.out]⟩
  | true =>
  have HR : Hid (decP l = match dN 200 l with | .error e => .error e | .ok (t, r) => if r = [] then .ok t else .error 3) := Lib.hid (by unfold decP; rw [if_neg HH0.out, if_neg (fun h => by rw [← HF.out] at h; exact absurd h.2 (by decide))])
  go_upto_region 6 with fail
  have DB := Box.new w1 100 #[.string (str l), .int .i64 0]
  have hE : Ext w1 (w1.alloc (.cells #[.string (str l), .int .i64 0] 100)) := (Ext.refl w1).alloc _
  have hsV : (w1.alloc (.cells #[.string (str l), .int .i64 0] 100)).heap.size = w1.heap.size + 1 := by simp
  generalize (w1.alloc (.cells #[.string (str l), .int .i64 0] 100)) = V at *
  obtain ⟨db, hdb⟩ : ∃ x, x = w1.heap.size := ⟨_, rfl⟩
  rw [← hdb] at DB ⊢
  have hdw : w1.heap.size ≤ db := by omega
  clear hdb
  have hnb := node_b 200 l db w1 V (by omega) (by have := HH0.out; omega) hE hdw he DB
  rw [show ((200 - 200 : Nat) : Int) = 0 from rfl] at hnb
  obtain ⟨RA, hRA⟩ : ∃ r, r = dN 200 l := ⟨_, rfl⟩
  rw [← hRA] at hnb
  have HRA := Lib.hid hRA
  clear hRA h1 h2 h3 hsl hsz
  go_wp2_with fail
  refine hnb.mono ?_
  clear hnb
  rintro e w2 ⟨k2, hpost⟩
  have hE2 : Ext w1 w2 := k2.ext hE (fun k hk => by rw [hk]; exact hdw)
  cases RA with
  | error c =>
    obtain ⟨hc, rfl, s, DB2⟩ := hpost
    have HQ : Hid (decP l = .error c) := Lib.hid (by rw [HR.out, ← HRA.out])
    have c0 := DB2.c0
    have c1 := DB2.c1
    have e6 : (c == 0) = false := by rw [beq_eq_false_iff_ne]; exact hc
    have e7 : (c != 0) = true := by rw [bne, e6]; rfl
    go_upto_region 8 with fail
    go_region
    all_goals (
      go_wp2_with fail
      refine bodyPost_ret (v := .tuple #[.pointer none, .int .i64 c]) (by simp [results, Tryz.results13, go_sem]) rfl ?_
      exact ⟨by first | exact hE2.drew | exact hE2, by rw [HQ.out]⟩)
  | ok q =>
    obtain ⟨t, r⟩ := q
    obtain ⟨A, rfl, hT, DB2⟩ := hpost
    have hT2 := hT.up (b' := w1.heap.size) (by omega) (Nat.le_refl _)
    have c0 := DB2.c0
    have c1 := DB2.c1
    have hrl : (str r).toList = r := by rw [Lib.toList_data, str_list]
    by_cases hr : r = []
    · have HQ : Hid (decP l = .ok t) := Lib.hid (by rw [HR.out, ← HRA.out]; exact if_pos hr)
      have e6 : (r == []) = true := by simpa using hr
      have e7 : r.isEmpty = true := by simpa using hr
      clear hr
      go_wp2_with fail
      refine bodyPost_ret (v := .tuple #[.pointer A, .int .i64 0]) (by simp [results, Tryz.results13, go_sem]) rfl ?_
      exact ⟨hE2, by rw [HQ.out]; exact ⟨A, rfl, hT2⟩⟩
    · have HQ : Hid (decP l = .error 3) := Lib.hid (by rw [HR.out, ← HRA.out]; exact if_neg hr)
      have e6 : (r == []) = false := by simpa using hr
      have e7 : r.isEmpty = false := by simpa using hr
      clear hr
      go_wp2_with fail
      refine bodyPost_ret (v := .tuple #[.pointer none, .int .i64 3]) (by simp [results, Tryz.results13, go_sem]) rfl ?_
      exact ⟨hE2, by rw [HQ.out]⟩
end Go.Proofs.YtljncdcjkdgkeaaGreatDoor.Dc
namespace Go.Proofs.YtljncdcjkdgkeaaGreatDoor.Dc
open Go.RowKit Go.Proofs.YtljncdcjkdgkeaaGreatDoor.Big Go.Proofs.YtljncdcjkdgkeaaGreatDoor.Lp Go.Proofs.YtljncdcjkdgkeaaGreatDoor.Rt
open Go.Lib (itoa)

theorem parts_snoc {c : UInt8} {b : BL} (hb : c ∉ b) : ∀ (a : BL), parts c (a ++ c :: b) = parts c a ++ [b]
  | [] => by
    rw [List.nil_append, show parts c (c :: b) = [] :: parts c b from by conv => lhs; unfold parts; rw [if_pos rfl], parts_none hb]
    rfl
  | x :: r => by
    have ih := parts_snoc hb r
    rw [List.cons_append]
    conv => lhs; unfold parts
    conv => rhs; unfold parts
    by_cases h : x = c
    · rw [if_pos h, if_pos h, ih]; rfl
    · rw [if_neg h, if_neg h, ih]
      cases hp : parts c r with
      | nil => exact absurd hp (parts_ne _ _)
      | cons p ps => rfl
theorem ratText_no (q : Rat) (c : UInt8) (h1 : c ≠ 45) (h2 : c ≠ 47) (h3 : c.toNat < 48 ∨ 57 < c.toNat) : c ∉ ratText q := by
  unfold ratText
  split
  · exact itoa_no _ c h1 h3
  · simp only [List.mem_append, List.mem_cons, not_or]
    exact ⟨itoa_no _ c h1 h3, h2, itoa_no _ c h1 h3⟩
theorem parts_words {w0 : BL} (h : (32 : UInt8) ∉ w0) (y : Nat → Rat) (n : Nat) : parts 32 (w0 ++ numsT y n) = w0 :: (List.range n).map (fun j => ratText (y j)) := by
  induction n with
  | zero => show parts 32 (w0 ++ []) = _; rw [List.append_nil, parts_none h]; rfl
  | succ n ih =>
    show parts 32 (w0 ++ (numsT y n ++ (32 :: ratText (y n)))) = _
    rw [← List.append_assoc, parts_snoc (ratText_no _ 32 (by decide) (by decide) (by decide)), ih, List.range_succ, List.map_append]
    rfl
theorem leafW_no (em : Bool) (c : UInt8) (h : c = 10 ∨ c = 32) : c ∉ leafW em := by
  rcases h with rfl | rfl <;> cases em <;> decide
theorem numsT_no (y : Nat → Rat) (n : Nat) : (10 : UInt8) ∉ numsT y n := by
  induction n with
  | zero => simp [numsT]
  | succ n ih =>
    show (10 : UInt8) ∉ numsT y n ++ (32 :: ratText (y n))
    simp only [List.mem_append, List.mem_cons, not_or]
    exact ⟨ih, by decide, ratText_no _ 10 (by decide) (by decide) (by decide)⟩
theorem hdL_leaf (em : Bool) (y : Nat → Rat) (n : Nat) (b : BL) : hdL (leafT em y n ++ b) = .ok ((leafW em, (List.range n).map (fun j => ratText (y j))), b) := by
  unfold hdL leafT
  rw [show leafW em ++ numsT y n ++ [10] ++ b = (leafW em ++ numsT y n) ++ 10 :: b by simp, cutB_some (by
    simp only [List.mem_append, not_or]
    exact ⟨leafW_no em 10 (.inl rfl), numsT_no y n⟩)]
  show (match parts 32 (leafW em ++ numsT y n) with | [] => _ | w0 :: ws => _) = _
  rw [parts_words (leafW_no em 32 (.inr rfl))]
theorem hdL_in (vr fl : Int) (b : BL) : hdL (inT vr fl ++ b) = .ok ((splB, [itoa vr, itoa fl]), b) := by
  have n10 : ∀ z : Int, (10 : UInt8) ∉ itoa z := fun z => itoa_no z 10 (by decide) (by decide)
  have n32 : ∀ z : Int, (32 : UInt8) ∉ itoa z := fun z => itoa_no z 32 (by decide) (by decide)
  unfold hdL inT
  rw [show ([115, 112, 108, 105, 116, 32] ++ (itoa vr ++ (32 :: (itoa fl ++ [10])))) ++ b = (splB ++ 32 :: (itoa vr ++ 32 :: itoa fl)) ++ 10 :: b by simp [splB], cutB_some (by
    simp only [List.mem_append, List.mem_cons, not_or]
    exact ⟨by decide, by decide, n10 vr, by decide, n10 fl⟩)]
  show (match parts 32 (splB ++ 32 :: (itoa vr ++ 32 :: itoa fl)) with | [] => (.error 3 : Except Int ((BL × List BL) × BL)) | w0 :: ws => .ok ((w0, ws), b)) = _
  rw [parts_some (by decide), parts_some (n32 vr), parts_none (n32 fl)]
end Go.Proofs.YtljncdcjkdgkeaaGreatDoor.Dc
namespace Go.Proofs.YtljncdcjkdgkeaaGreatDoor.Dc
open Go.RowKit Go.Proofs.YtljncdcjkdgkeaaGreatDoor.Big Go.Proofs.YtljncdcjkdgkeaaGreatDoor.Lp Go.Proofs.YtljncdcjkdgkeaaGreatDoor.Rt
open Go.Lib (itoa)

theorem dec_head : ∀ (u : Nat), 0 < u → (Lib.decDigits u).head? ≠ some 48 := by
  intro u
  induction u using Nat.strongRecOn with
  | _ u ih =>
  intro hu h
  by_cases hs : u < 10
  · rw [Lib.decDigits, dif_pos hs] at h
    have h2 := congrArg (fun o => o.map UInt8.toNat) h
    simp at h2
    omega
  · rw [Lib.decDigits, dif_neg hs] at h
    have hne := dec_ne (u / 10)
    cases hc : Lib.decDigits (u / 10) with
    | nil => exact hne hc
    | cons x r =>
      rw [hc] at h
      exact ih (u / 10) (by omega) (by omega) (by rw [hc]; exact h)
theorem dec_of_itoa (z : Int) : isDec (itoa z) = true := by
  have key : ∀ (u : Nat), (if (Lib.decDigits u).head? = some 48 then (Lib.decDigits u == [48]) else true) = true := fun u => by
    by_cases hu : u = 0
    · subst hu; decide +kernel
    · rw [if_neg (dec_head u (by omega))]
  rw [isDec_eq]
  rcases Int.lt_or_le z 0 with h | h
  · obtain ⟨u, rfl⟩ : ∃ u : Nat, z = -(u : Int) := ⟨z.natAbs, by omega⟩
    rw [Lib.itoa_neg u (by omega)]
    have h1 : negd (45 :: Lib.decDigits u) = true := by simp [negd, Lib.hasPrefix, List.isPrefixOf]
    have h2 : rest (45 :: Lib.decDigits u) = Lib.decDigits u := by unfold rest Lib.trimPrefix; unfold negd at h1; rw [h1]; rfl
    rw [h2, digs_dec, if_neg (dec_head u (by omega))]
    simp [dec_ne u]
  · obtain ⟨u, rfl⟩ : ∃ u : Nat, z = (u : Int) := ⟨z.natAbs, by omega⟩
    rw [Lib.itoa_nonneg u]
    have h1 := digs_neg (digs_dec u)
    have hk := key u
    rw [rest_pos h1, digs_dec, h1]
    simp only [Bool.not_false, Bool.and_true]
    rw [hk]
    simp [dec_ne u]
theorem rat_text (q : Rat) : isRat (ratText q) = true ∧ parseQ (ratText q) = q := by
  have hq := Rat.num_divInt_den q
  by_cases hd : q.den = 1
  · have e : ratText q = itoa q.num := by unfold ratText; rw [if_pos hd]
    rw [e]
    rcases cut_cases (itoa q.num) with ⟨_, hc⟩ | ⟨a, b, _, hl, _⟩
    · refine ⟨by unfold isRat; rw [hc]; exact dec_of_itoa _, ?_⟩
      unfold parseQ
      rw [hc]
      show Rat.divInt (parseZ (itoa q.num)) 1 = q
      rw [parse_itoa]
      rw [hd] at hq
      exact hq
    · exact absurd (by rw [hl]; simp) (itoa_slash q.num)
  · have e : ratText q = itoa q.num ++ 47 :: itoa (q.den : Int) := by unfold ratText; rw [if_neg hd]
    rw [e]
    rcases cut_cases (itoa q.num ++ 47 :: itoa (q.den : Int)) with ⟨hn, _⟩ | ⟨a, b, ha, hl, hc⟩
    · exact absurd (by simp) hn
    · obtain ⟨k1, k2⟩ := split_uniq (itoa_slash _) ha hl
      rw [← k1, ← k2] at hc
      have h1 : (1 : Int) < (q.den : Int) := by have := q.den_pos; omega
      refine ⟨?_, ?_⟩
      · unfold isRat
        rw [hc]
        simp only [if_true, dec_of_itoa, parse_itoa, Bool.true_and, Bool.and_eq_true, decide_eq_true_eq]
        exact ⟨h1, by simpa using q.reduced⟩
      · unfold parseQ
        rw [hc]
        show Rat.divInt (parseZ (itoa q.num)) (parseZ (itoa (q.den : Int))) = q
        rw [parse_itoa, parse_itoa]
        exact hq
end Go.Proofs.YtljncdcjkdgkeaaGreatDoor.Dc
namespace Go.Proofs.YtljncdcjkdgkeaaGreatDoor.Dc
open Go.RowKit Go.Proofs.YtljncdcjkdgkeaaGreatDoor.Big Go.Proofs.YtljncdcjkdgkeaaGreatDoor.Lp Go.Proofs.YtljncdcjkdgkeaaGreatDoor.Rt
open Go.Lib (itoa)

/-- equal trees, multipliers compared where there are any -/
def eqT : CT → CT → Prop
  | .nil, .nil => True
  | .node v f e n y a b, .node v' f' e' n' y' a' b' => v = v' ∧ f = f' ∧ e = e' ∧ n = n' ∧ (∀ j, j < n → y j = y' j) ∧ eqT a a' ∧ eqT b b'
  | _, _ => False
theorem yW_text (y : Nat → Rat) {n j : Nat} (h : j < n) : yW ((List.range n).map (fun j => ratText (y j))) j = y j := by
  unfold yW
  rw [List.getD_eq_getElem?_getD, List.getElem?_map, List.getElem?_range h]
  exact (rat_text (y j)).2
theorem lfT_leaf (em : Bool) (y : Nat → Rat) (n : Nat) (hl : ∀ j, j < n → (ratText (y j)).length ≤ 4096) :
    lfT (leafW em :: (List.range n).map (fun j => ratText (y j))) = some (.node (-1) 0 em n (yW ((List.range n).map (fun j => ratText (y j)))) .nil .nil) := by
  have hall : ((List.range n).map (fun j => ratText (y j))).all okW = true := List.all_eq_true.2 (fun x hx => by
    obtain ⟨j, hj, rfl⟩ := List.mem_map.1 hx
    unfold okW
    rw [(rat_text (y j)).1, decide_eq_true (hl j (List.mem_range.1 hj))]
    rfl)
  show (if leafW em = emptyB ∨ leafW em = boundB then (if ((List.range n).map (fun j => ratText (y j))).all okW then some (CT.node (-1) 0 (leafW em == emptyB) ((List.range n).map (fun j => ratText (y j))).length (yW ((List.range n).map (fun j => ratText (y j)))) CT.nil CT.nil) else none) else none) = _
  rw [if_pos (by cases em <;> decide), hall, if_pos rfl, List.length_map, List.length_range]
  cases em <;> rfl
theorem leafW_spl (em : Bool) : ¬ leafW em = splB := by cases em <;> decide
theorem dN_tree : ∀ (t : CT), t.wf = true → t.okY 2 → ∀ (f : Nat), t.dep ≤ f + 1 → ∀ (r : BL), ∃ t', dN f (treeT t ++ r) = .ok (t', r) ∧ eqT t t' := by
  intro t
  induction t with
  | nil => intro h; cases h
  | node vr fl em n y a b iha ihb =>
    intro hw hok f hd r
    obtain ⟨hf, -, hy, hoa, hob⟩ := hok
    by_cases hv : vr = -1
    · subst hv
      have hw' : (decide (fl = 0) && (a.isNil && b.isNil)) = true := hw
      simp only [Bool.and_eq_true, decide_eq_true_eq] at hw'
      obtain ⟨rfl, ha, hb⟩ := hw'
      have ha' : a = .nil := by cases a with | nil => rfl | node => cases ha
      have hb' : b = .nil := by cases b with | nil => rfl | node => cases hb
      subst ha' hb'
      have e : treeT (.node (-1) 0 em n y .nil .nil) = leafT em y n := rfl
      rw [e, dN_leaf (hdL_leaf em y n r) (leafW_spl em), lfT_leaf em y n (fun j hj => by have := ratText_len (k := 2) (by decide) (hy j hj); omega)]
      exact ⟨_, rfl, rfl, rfl, rfl, rfl, fun j hj => (yW_text y hj).symm, trivial, trivial⟩
    · have hw' : (decide (0 ≤ vr) && (decide (vr ≤ 9999) && (!em && (decide (n = 0) && (a.wf && b.wf))))) = true := by
        have : (if vr = -1 then decide (fl = 0) && (a.isNil && b.isNil) else decide (0 ≤ vr) && (decide (vr ≤ 9999) && (!em && (decide (n = 0) && (a.wf && b.wf))))) = true := hw
        rwa [if_neg hv] at this
      simp only [Bool.and_eq_true, decide_eq_true_eq, Bool.not_eq_true'] at hw'
      obtain ⟨h0, h9, rfl, rfl, hwa, hwb⟩ := hw'
      have hd' : 1 + max a.dep b.dep ≤ f + 1 := hd
      have hda : 1 ≤ a.dep := by cases a with | nil => cases hwa | node => show 1 ≤ 1 + _; omega
      obtain ⟨g, rfl⟩ : ∃ g, f = g + 1 := ⟨f - 1, by omega⟩
      have e : treeT (.node vr fl false 0 y a b) = inT vr fl ++ (treeT a ++ treeT b) := if_pos h0
      have hs : spl [itoa vr, itoa fl] = some (vr, fl) := by
        obtain ⟨f1, f2⟩ := fit_iff.1 hf
        show (match num (itoa vr), num (itoa fl) with | some v, some fl => if 0 ≤ v ∧ v ≤ 9999 then some (v, fl) else none | _, _ => none) = _
        rw [num_itoa ⟨by omega, by omega⟩, num_itoa ⟨f1, f2⟩]
        exact if_pos ⟨h0, h9⟩
      obtain ⟨a', ea, qa⟩ := iha hwa hoa g (by omega) (treeT b ++ r)
      obtain ⟨b', eb, qb⟩ := ihb hwb hob g (by omega) r
      rw [e, show inT vr fl ++ (treeT a ++ treeT b) ++ r = inT vr fl ++ (treeT a ++ (treeT b ++ r)) by simp, dN_in (hdL_in vr fl _) hs, ea]
      dsimp only
      rw [eb]
      exact ⟨_, rfl, rfl, rfl, rfl, rfl, fun j hj => absurd hj (by omega), qa, qb⟩
end Go.Proofs.YtljncdcjkdgkeaaGreatDoor.Dc

/- The first lines of an encoded tree end too early. What Decode answers to cut texts. Plain: the nodes of the reference, and the text of a tree. Walk: Decimal of the reference. Memory: rows of texts, lists of the reference's nodes. Walk: Text of the reference. -/
import Derived.Test.YtljncdcjkdgkeaaGreatDoorKCDB
import Derived.Lib.IndexBytes
import Derived.Lib.IndexMore
import Derived.Lib.SplitLaws
import Derived.Lib.ItoaLen
import Derived.Deep.DeepCutAuto
set_option linter.unusedVariables false
set_option linter.unusedSimpArgs false
namespace Go.Proofs.YtljncdcjkdgkeaaGreatDoor.Dc
open Go.RowKit Go.Proofs.YtljncdcjkdgkeaaGreatDoor.Big Go.Proofs.YtljncdcjkdgkeaaGreatDoor.Lp Go.Proofs.YtljncdcjkdgkeaaGreatDoor.Rt
open Go.Lib (itoa)

/-- whole lines -/
def whole (p : BL) : Prop := p = [] ∨ p.getLast? = some 10
theorem whole_tail {a b : BL} (h : whole (a ++ b)) : whole b := by
  by_cases hb : b = []
  · exact .inl hb
  · rcases h with h | h
    · exact absurd (List.append_eq_nil_iff.1 h).2 hb
    · refine .inr ?_
      rw [List.getLast?_append] at h
      cases hg : b.getLast? with
      | none => exact absurd (List.getLast?_eq_none_iff.1 hg) hb
      | some x => rw [hg] at h; simpa using h
/-- a prefix of whole lines is empty, or holds the first line -/
theorem first_line {x p q s : BL} (hx : (10 : UInt8) ∉ x) (he : p ++ q = x ++ 10 :: s) (hp : whole p) : p = [] ∨ ∃ p', p = x ++ 10 :: p' ∧ p' ++ q = s := by
  rcases List.append_eq_append_iff.1 he with ⟨r, h1, h2⟩ | ⟨r, h1, h2⟩
  · left
    rcases hp with hp | hp
    · exact hp
    · exfalso
      apply hx
      rw [h1]
      exact List.mem_append_left _ (List.mem_of_getLast? hp)
  · cases r with
    | nil =>
      rcases hp with hp | hp
      · exact .inl hp
      · exfalso
        apply hx
        rw [List.append_nil] at h1
        rw [← h1]
        exact List.mem_of_getLast? hp
    | cons c r =>
      rw [List.cons_append] at h2
      injection h2 with h3 h4
      exact .inr ⟨r, by rw [h1, ← h3], h4.symm⟩
theorem dN_pre : ∀ (t : CT), t.wf = true → t.okY 2 → ∀ (f : Nat), t.dep ≤ f + 1 → ∀ (p q : BL), p ++ q = treeT t → q ≠ [] → whole p → dN f p = .error 4 := by
  have nilE : ∀ f, dN f [] = .error 4 := fun f => dN_err rfl
  intro t
  induction t with
  | nil => intro h; cases h
  | node vr fl em n y a b iha ihb =>
    intro hw hok f hd p q he hq hp
    obtain ⟨hf, -, hy, hoa, hob⟩ := hok
    by_cases hv : vr = -1
    · subst hv
      have e : treeT (.node (-1) fl em n y a b) = (leafW em ++ numsT y n) ++ 10 :: [] := rfl
      rw [e] at he
      rcases first_line (by simp only [List.mem_append, not_or]; exact ⟨leafW_no em 10 (.inl rfl), numsT_no y n⟩) he hp with h | ⟨p', h1, h2⟩
      · rw [h]; exact nilE f
      · exact absurd (List.append_eq_nil_iff.1 h2).2 hq
    · have hw' : (decide (0 ≤ vr) && (decide (vr ≤ 9999) && (!em && (decide (n = 0) && (a.wf && b.wf))))) = true := by
        have : (if vr = -1 then decide (fl = 0) && (a.isNil && b.isNil) else decide (0 ≤ vr) && (decide (vr ≤ 9999) && (!em && (decide (n = 0) && (a.wf && b.wf))))) = true := hw
        rwa [if_neg hv] at this
      simp only [Bool.and_eq_true, decide_eq_true_eq, Bool.not_eq_true'] at hw'
      obtain ⟨h0, h9, rfl, rfl, hwa, hwb⟩ := hw'
      have hd' : 1 + max a.dep b.dep ≤ f + 1 := hd
      have hda : 1 ≤ a.dep := by cases a with | nil => cases hwa | node => show 1 ≤ 1 + _; omega
      obtain ⟨g, rfl⟩ : ∃ g, f = g + 1 := ⟨f - 1, by omega⟩
      have n10 : ∀ z : Int, (10 : UInt8) ∉ itoa z := fun z => itoa_no z 10 (by decide) (by decide)
      have e : treeT (.node vr fl false 0 y a b) = (splB ++ 32 :: (itoa vr ++ 32 :: itoa fl)) ++ 10 :: (treeT a ++ treeT b) := by
        show (if 0 ≤ vr then inT vr fl ++ (treeT a ++ treeT b) else leafT false y 0) = _
        rw [if_pos h0]
        simp [inT, splB]
      have hs : spl [itoa vr, itoa fl] = some (vr, fl) := by
        obtain ⟨f1, f2⟩ := fit_iff.1 hf
        show (match num (itoa vr), num (itoa fl) with | some v, some fl => if 0 ≤ v ∧ v ≤ 9999 then some (v, fl) else none | _, _ => none) = _
        rw [num_itoa ⟨by omega, by omega⟩, num_itoa ⟨f1, f2⟩]
        exact if_pos ⟨h0, h9⟩
      rw [e] at he
      rcases first_line (by simp only [List.mem_append, List.mem_cons, not_or]; exact ⟨by decide, by decide, n10 vr, by decide, n10 fl⟩) he hp with h | ⟨p', h1, h2⟩
      · rw [h]; exact nilE _
      · have hp' : whole p' := by
          rw [h1, show (splB ++ 32 :: (itoa vr ++ 32 :: itoa fl)) ++ 10 :: p' = ((splB ++ 32 :: (itoa vr ++ 32 :: itoa fl)) ++ [10]) ++ p' by simp] at hp
          exact whole_tail hp
        have hpe : p = inT vr fl ++ p' := by rw [h1]; simp [inT, splB]
        rw [hpe, dN_in (hdL_in vr fl _) hs]
        rcases List.append_eq_append_iff.1 h2 with ⟨r, k1, k2⟩ | ⟨r, k1, k2⟩
        · by_cases hr : r = []
          · subst hr
            rw [List.append_nil] at k1
            obtain ⟨a', ea, -⟩ := dN_tree a hwa hoa g (by omega) []
            rw [List.append_nil, k1] at ea
            rw [ea]
            dsimp only
            rw [nilE]
          · rw [iha hwa hoa g (by omega) p' r k1.symm hr hp']
        · obtain ⟨a', ea, -⟩ := dN_tree a hwa hoa g (by omega) r
          rw [k1] at hp' ⊢
          rw [ea]
          dsimp only
          rw [ihb hwb hob g (by omega) r q k2.symm hq (whole_tail hp')]
end Go.Proofs.YtljncdcjkdgkeaaGreatDoor.Dc
namespace Go.Proofs.YtljncdcjkdgkeaaGreatDoor.Dc
open Go.RowKit Go.Proofs.YtljncdcjkdgkeaaGreatDoor.Big Go.Proofs.YtljncdcjkdgkeaaGreatDoor.Lp Go.Proofs.YtljncdcjkdgkeaaGreatDoor.Rt
open Go.Lib (itoa)

theorem suffix_one {l : BL} {c : UInt8} : Lib.hasSuffix l [c] = true ↔ l.getLast? = some c := by
  unfold Lib.hasSuffix
  rw [List.isSuffixOf_iff_suffix]
  constructor
  · rintro ⟨t, rfl⟩; simp
  · intro h
    rcases List.eq_nil_or_concat l with rfl | ⟨t, x, rfl⟩
    · cases h
    · simp at h
      exact ⟨t, by simp [h]⟩
theorem leaf_last (em : Bool) (y : Nat → Rat) (n : Nat) : ∃ u x, leafT em y n = u ++ [x, 10] ∧ x ≠ 10 := by
  have h : leafW em ++ numsT y n ≠ [] := by cases em <;> simp [leafW]
  rcases List.eq_nil_or_concat (leafW em ++ numsT y n) with h0 | ⟨u, x, hu⟩
  · exact absurd h0 h
  · refine ⟨u, x, by unfold leafT; rw [hu]; simp, fun hx => ?_⟩
    have hn : (10 : UInt8) ∉ leafW em ++ numsT y n := by
      simp only [List.mem_append, not_or]
      exact ⟨leafW_no em 10 (.inl rfl), numsT_no y n⟩
    exact hn (by rw [hu, hx]; simp)
theorem treeT_last : ∀ (t : CT), t.wf = true → ∃ u x, treeT t = u ++ [x, 10] ∧ x ≠ 10 := by
  intro t
  induction t with
  | nil => intro h; cases h
  | node vr fl em n y a b iha ihb =>
    intro hw
    by_cases hv : vr = -1
    · subst hv; exact leaf_last em y n
    · have hw' : (decide (0 ≤ vr) && (decide (vr ≤ 9999) && (!em && (decide (n = 0) && (a.wf && b.wf))))) = true := by
        have : (if vr = -1 then decide (fl = 0) && (a.isNil && b.isNil) else decide (0 ≤ vr) && (decide (vr ≤ 9999) && (!em && (decide (n = 0) && (a.wf && b.wf))))) = true := hw
        rwa [if_neg hv] at this
      simp only [Bool.and_eq_true, decide_eq_true_eq, Bool.not_eq_true'] at hw'
      obtain ⟨h0, h9, rfl, rfl, hwa, hwb⟩ := hw'
      obtain ⟨u, x, hu, hx⟩ := ihb hwb
      refine ⟨inT vr fl ++ (treeT a ++ u), x, ?_, hx⟩
      show (if 0 ≤ vr then inT vr fl ++ (treeT a ++ treeT b) else leafT false y 0) = _
      rw [if_pos h0, hu]; simp
theorem decP_ok {t : CT} (hw : t.wf = true) (hok : t.okY 2) (hd : t.dep ≤ 201) (hl : (treeT t).length ≤ 65536) : ∃ t', decP (treeT t) = .ok t' ∧ eqT t t' := by
  obtain ⟨u, x, hu, -⟩ := treeT_last t hw
  obtain ⟨t', e, q⟩ := dN_tree t hw hok 200 hd []
  rw [List.append_nil] at e
  refine ⟨t', ?_, q⟩
  unfold decP
  rw [if_neg (by omega), if_neg (fun h => by rw [suffix_one.2 (by rw [hu]; simp)] at h; exact absurd h.2 (by decide)), e]
  exact if_pos rfl
theorem decP_pre {t : CT} (hw : t.wf = true) (hok : t.okY 2) (hd : t.dep ≤ 201) (hl : (treeT t).length ≤ 65536) {p q : BL} (he : p ++ q = treeT t) (hq : q ≠ []) (hp : whole p) : decP p = .error 4 := by
  have hpl : p.length ≤ (treeT t).length := by rw [← he, List.length_append]; omega
  unfold decP
  rw [if_neg (by omega), if_neg (fun h => by
    rcases hp with hp | hp
    · exact h.1 hp
    · rw [suffix_one.2 hp] at h; exact absurd h.2 (by decide)), dN_pre t hw hok 200 hd p q he hq hp]
theorem decP_more {t : CT} (hw : t.wf = true) (hok : t.okY 2) (hd : t.dep ≤ 201) {r : BL} (hr : r.getLast? = some 10) (hl : (treeT t ++ r).length ≤ 65536) : decP (treeT t ++ r) = .error 3 := by
  obtain ⟨t', e, -⟩ := dN_tree t hw hok 200 hd r
  have hr0 : r ≠ [] := fun h => by rw [h] at hr; cases hr
  unfold decP
  rw [if_neg (by omega), if_neg (fun h => by rw [suffix_one.2 (by rw [List.getLast?_append, hr]; rfl)] at h; exact absurd h.2 (by decide)), e]
  exact if_neg hr0
theorem decP_less {t : CT} (hw : t.wf = true) (hl : (treeT t).length ≤ 65536) : decP ((treeT t).take ((treeT t).length - 1)) = .error 3 := by
  obtain ⟨u, x, hu, hx⟩ := treeT_last t hw
  have e : (treeT t).take ((treeT t).length - 1) = u ++ [x] := by
    rw [hu, show (u ++ [x, 10]).length - 1 = (u ++ [x]).length by simp, show u ++ [x, 10] = (u ++ [x]) ++ [10] by simp, List.take_left]
  rw [e]
  have hl2 : (u ++ [x]).length ≤ 65536 := by rw [hu] at hl; simp at hl ⊢; omega
  unfold decP
  rw [if_neg (by omega), if_pos ⟨by simp, by
    rw [Bool.eq_false_iff]
    intro h
    rw [suffix_one] at h
    simp at h
    exact hx h⟩]
end Go.Proofs.YtljncdcjkdgkeaaGreatDoor.Dc
namespace Go.Proofs.YtljncdcjkdgkeaaGreatDoor.Dc
open Go.RowKit Go.Proofs.YtljncdcjkdgkeaaGreatDoor.Big Go.Proofs.YtljncdcjkdgkeaaGreatDoor.Lp Go.Proofs.YtljncdcjkdgkeaaGreatDoor.Rt
open Go.Lib (itoa)

/-- a node of the reference -/
structure RN where
  vr : Int
  fl : Int
  em : Bool
  ys : List BL
/-- the nodes of a tree in pre-order -/
def flat : CT → List RN
  | .nil => []
  | .node vr fl em n y a b => ⟨vr, fl, em, (List.range n).map (fun j => ratText (y j))⟩ :: (if vr = -1 then [] else flat a ++ flat b)
def wordsT (l : List BL) : BL := (l.map (fun x => 32 :: x)).flatten
def lineT (x : RN) : BL := if 0 ≤ x.vr then inT x.vr x.fl else leafW x.em ++ wordsT x.ys ++ [10]
def rnT (l : List RN) : BL := (l.map lineT).flatten
theorem wordsT_snoc (l : List BL) (x : BL) : wordsT (l ++ [x]) = wordsT l ++ 32 :: x := by simp [wordsT]
theorem rnT_snoc (l : List RN) (x : RN) : rnT (l ++ [x]) = rnT l ++ lineT x := by simp [rnT]
theorem rnT_append (l m : List RN) : rnT (l ++ m) = rnT l ++ rnT m := by simp [rnT]
theorem wordsT_nums (y : Nat → Rat) (n : Nat) : wordsT ((List.range n).map (fun j => ratText (y j))) = numsT y n := by
  induction n with
  | zero => rfl
  | succ n ih =>
    rw [List.range_succ, List.map_append, List.map_singleton, wordsT_snoc, ih]
    rfl
theorem flat_text : ∀ (t : CT), t.wf = true → rnT (flat t) = treeT t := by
  intro t
  induction t with
  | nil => intro h; cases h
  | node vr fl em n y a b iha ihb =>
    intro hw
    by_cases hv : vr = -1
    · subst hv
      show rnT [⟨-1, fl, em, _⟩] = leafT em y n
      have e : rnT [⟨-1, fl, em, (List.range n).map (fun j => ratText (y j))⟩] = leafW em ++ wordsT ((List.range n).map (fun j => ratText (y j))) ++ [10] := by simp [rnT, lineT]
      rw [e, wordsT_nums]
      rfl
    · have hw' : (decide (0 ≤ vr) && (decide (vr ≤ 9999) && (!em && (decide (n = 0) && (a.wf && b.wf))))) = true := by
        have : (if vr = -1 then decide (fl = 0) && (a.isNil && b.isNil) else decide (0 ≤ vr) && (decide (vr ≤ 9999) && (!em && (decide (n = 0) && (a.wf && b.wf))))) = true := hw
        rwa [if_neg hv] at this
      simp only [Bool.and_eq_true, decide_eq_true_eq, Bool.not_eq_true'] at hw'
      obtain ⟨h0, h9, rfl, rfl, hwa, hwb⟩ := hw'
      have e1 : flat (.node vr fl false 0 y a b) = [⟨vr, fl, false, []⟩] ++ (flat a ++ flat b) := by
        show ⟨vr, fl, false, []⟩ :: (if vr = -1 then [] else flat a ++ flat b) = _
        rw [if_neg hv]; rfl
      have e2 : treeT (.node vr fl false 0 y a b) = inT vr fl ++ (treeT a ++ treeT b) := if_pos h0
      have e3 : rnT [⟨vr, fl, false, []⟩] = inT vr fl := by simp [rnT, lineT, h0]
      rw [e1, e2, rnT_append, rnT_append, iha hwa, ihb hwb, e3]
theorem flat_len (t : CT) : (flat t).length ≤ t.size := by
  induction t with
  | nil => exact Nat.le_refl _
  | node vr fl em n y a b iha ihb =>
    have e : (CT.node vr fl em n y a b).size = 1 + a.size + b.size := rfl
    rw [e]
    show (if vr = -1 then [] else flat a ++ flat b).length + 1 ≤ _
    split
    · simp; omega
    · rw [List.length_append]; omega
end Go.Proofs.YtljncdcjkdgkeaaGreatDoor.Dc
namespace Go.Proofs.YtljncdcjkdgkeaaGreatDoor.Dc
open Go.RowKit Go.Proofs.YtljncdcjkdgkeaaGreatDoor.Big Go.Proofs.YtljncdcjkdgkeaaGreatDoor.Lp Go.Proofs.YtljncdcjkdgkeaaGreatDoor.Rt
open Go.Lib (itoa decDigits)

theorem str_append (a b : BL) : str a ++ str b = str (a ++ b) := by
  apply ByteArray.ext
  simp [str]
theorem digC (k : Nat) (hk : k < 10) : (⟨#[48, 49, 50, 51, 52, 53, 54, 55, 56, 57]⟩ : ByteArray).extract k (k + 1) = str [UInt8.ofNat (48 + k)] := by
  rcases (by omega : k = 0 ∨ k = 1 ∨ k = 2 ∨ k = 3 ∨ k = 4 ∨ k = 5 ∨ k = 6 ∨ k = 7 ∨ k = 8 ∨ k = 9) with rfl | rfl | rfl | rfl | rfl | rfl | rfl | rfl | rfl | rfl <;> rfl
theorem itoa_one {k : Nat} (h : k < 10) : itoa (k : Int) = [UInt8.ofNat (48 + k)] := by
  rw [Lib.itoa_nonneg, decDigits, dif_pos h]
theorem itoa_neg1 {k : Nat} (h0 : 0 < k) (h : k < 10) : itoa (-(k : Int)) = [45, UInt8.ofNat (48 + k)] := by
  rw [Lib.itoa_neg k h0, decDigits, dif_pos h]
theorem itoa_step {n : Int} (h : 10 ≤ n.natAbs) : itoa n = itoa (n.tdiv 10) ++ [UInt8.ofNat (48 + n.natAbs % 10)] := by
  rcases Int.lt_or_le n 0 with h0 | h0
  · obtain ⟨u, rfl⟩ : ∃ u : Nat, n = -(u : Int) := ⟨n.natAbs, by omega⟩
    have e : (-(u : Int)).tdiv 10 = -((u / 10 : Nat) : Int) := by rw [Int.neg_tdiv]; congr 1
    have hu : 10 ≤ u := by omega
    rw [e, Lib.itoa_neg u (by omega), Lib.itoa_neg (u / 10) (by omega), decDigits, dif_neg (by omega), show (-(u : Int)).natAbs = u by omega]
    rfl
  · obtain ⟨u, rfl⟩ : ∃ u : Nat, n = (u : Int) := ⟨n.natAbs, by omega⟩
    have e : (u : Int).tdiv 10 = ((u / 10 : Nat) : Int) := rfl
    rw [e, Lib.itoa_nonneg, Lib.itoa_nonneg, decDigits, dif_neg (by omega)]
    rfl
theorem digit_abs (n : Int) : (n < 0 → n.tmod 10 = -((n.natAbs % 10 : Nat) : Int)) ∧ (0 ≤ n → n.tmod 10 = ((n.natAbs % 10 : Nat) : Int)) := by
  constructor
  · intro h
    obtain ⟨u, rfl⟩ : ∃ u : Nat, n = -(u : Int) := ⟨n.natAbs, by omega⟩
    rw [Int.neg_tmod, show (-(u : Int)).natAbs = u by omega]
    rfl
  · intro h
    obtain ⟨u, rfl⟩ : ∃ u : Nat, n = (u : Int) := ⟨n.natAbs, by omega⟩
    rfl
theorem tdiv_abs (k : Int) : (k.tdiv 10).natAbs = k.natAbs / 10 := by rw [Int.natAbs_tdiv]; rfl
theorem itoa_lenI {n : Int} (h : inI n) : (itoa n).length ≤ 31 := Nat.le_trans (Lib.itoa_length_le n h.1 h.2) (by decide)
set_option maxHeartbeats 1000000 in
set_option maxRecDepth 100000 in
theorem Decimal_b : ∀ (N : Nat) (n : Int) (w : World), n.natAbs = N → inI n → Calls Tryz.prog 64 #[.int .i64 n] w (fun e w' => e = .returned (.string (str (itoa n))) ∧ w' = w) := by
  intro N
  induction N using Nat.strongRecOn with
  | _ N ih =>
  intro n w hN hn
  obtain ⟨h1, h2⟩ := hn
  obtain ⟨d, hd⟩ : ∃ d, d = n.natAbs % 10 := ⟨_, rfl⟩
  have hd10 : d < 10 := by omega
  obtain ⟨dn, dp⟩ := digit_abs n
  rw [← hd] at dn dp
  obtain ⟨D, hDD⟩ : ∃ D, D = str [UInt8.ofNat (48 + d)] := ⟨_, rfl⟩
  have hx := digC d hd10
  rw [← hDD] at hx
  have hsd : D.size = 1 := by rw [hDD]; rfl
  obtain ⟨S, hS⟩ : ∃ S, S = str (itoa n) := ⟨_, rfl⟩
  rw [← hS]
  obtain ⟨q, hqq⟩ : ∃ q, q = n.tdiv 10 := ⟨_, rfl⟩
  have hqa : q.natAbs = n.natAbs / 10 := by rw [hqq]; exact tdiv_abs n
  have hqi : inI q := by unfold inI; omega
  have HST : Hid (10 ≤ n.natAbs → str (itoa q) ++ D = S) := Lib.hid (fun h => by rw [hS, itoa_step h, hDD, hd, hqq, str_append])
  have HPOS : Hid (0 ≤ n → n < 10 → D = S) := Lib.hid (fun h1 h2 => by
    obtain ⟨u, rfl⟩ : ∃ u : Nat, n = (u : Int) := ⟨n.natAbs, by omega⟩
    rw [hS, itoa_one (by omega), hDD]
    congr 3; omega)
  have HNEG : Hid (n < 0 → -10 < n → (⟨#[45]⟩ : ByteArray) ++ D = S) := Lib.hid (fun h1 h2 => by
    obtain ⟨u, rfl⟩ : ∃ u : Nat, n = -(u : Int) := ⟨n.natAbs, by omega⟩
    rw [hS, itoa_neg1 (by omega) (by omega), hDD]
    have e : (-(u : Int)).natAbs % 10 = u := by omega
    rw [hd, e]
    exact str_append [45] [UInt8.ofNat (48 + u)])
  have IH : Hid (10 ≤ n.natAbs → ∀ w, Calls Tryz.prog 64 #[.int .i64 q] w (fun e w' => e = .returned (.string (str (itoa q))) ∧ w' = w)) := Lib.hid (fun h w => ih q.natAbs (by omega) q w rfl hqi)
  have hlq := itoa_lenI hqi
  have r3 : IntKind.i64.wrap (n.tdiv 10) = q := by rw [← hqq]; exact IntWalk.i64_in _ ⟨by have := hqi.1; omega, by have := hqi.2; omega⟩
  obtain ⟨Q, hQ⟩ : ∃ Q, Q = str (itoa q) := ⟨_, rfl⟩
  have hsq : Q.size ≤ 31 := by rw [hQ]; exact hlq
  rw [← hQ] at HST IH
  have hcat : ¬ 9223372036854775807 < Q.size + 1 := by omega
  clear hqq hDD hd hN hS hQ hlq hqa hqi
  have i0 : (0 : Int) ≤ (d : Int) := by omega
  have i1 : (d : Int) ≤ (d : Int) + 1 := by omega
  have i2 : (d : Int) + 1 ≤ 10 := by omega
  have r1 : IntKind.i64.wrap ((d : Int) + 1) = (d : Int) + 1 := IntWalk.i64_in _ (by omega)
  have r2 : IntKind.i64.wrap (d : Int) = (d : Int) := IntWalk.i64_in _ (by omega)
  by_cases hneg : n < 0
  · have hdn := dn hneg
    clear dn dp
    by_cases hs : -10 < n
    · have hs' : decide (-10 < n) = true := decide_eq_true hs
      have HF := Lib.hid (HNEG.out hneg hs)
      clear HNEG HPOS HST IH
      go_enter Tryz.func64, Tryz.ntmps64
      go_wp2_with fail
      go_ret
      rw [HF.out]
      exact ⟨rfl, rfl⟩
    · have hs' : decide (-10 < n) = false := decide_eq_false hs
      have HF := Lib.hid (HST.out (by omega))
      have HI := IH.out (by omega)
      clear HNEG HPOS HST IH
      go_enter Tryz.func64, Tryz.ntmps64
      go_wp2_with fail
      refine (HI _).mono ?_
      rintro e w' ⟨rfl, rfl⟩
      go_wp2_with fail
      go_ret
      rw [HF.out]
      exact ⟨rfl, rfl⟩
  · have hdn := dp (by omega)
    clear dn dp
    by_cases hs : n < 10
    · have hs' : decide (n < 10) = true := decide_eq_true hs
      have HF := Lib.hid (HPOS.out (by omega) hs)
      clear HNEG HPOS HST IH
      go_enter Tryz.func64, Tryz.ntmps64
      go_wp2_with fail
      go_ret
      rw [HF.out]
      exact ⟨rfl, rfl⟩
    · have hs' : decide (n < 10) = false := decide_eq_false hs
      have HF := Lib.hid (HST.out (by omega))
      have HI := IH.out (by omega)
      clear HNEG HPOS HST IH
      go_enter Tryz.func64, Tryz.ntmps64
      go_wp2_with fail
      refine (HI _).mono ?_
      rintro e w' ⟨rfl, rfl⟩
      go_wp2_with fail
      go_ret
      rw [HF.out]
      exact ⟨rfl, rfl⟩
theorem extract_drop (t : BL) (a b : Nat) : (str t).extract a b = str ((t.drop a).take (b - a)) := by
  have h1 := Lib.extract_toList (str t) a b
  rw [str_list] at h1
  rw [← h1, Lib.toList_data, str_of]
theorem extract_take (t : BL) (k : Nat) : (str t).extract 0 k = str (t.take k) := by rw [extract_drop]; simp
theorem str_get {t : BL} {k : Nat} {c : UInt8} (hc : t[k]? = some c) (h : k < (str t).size) : (str t)[k]'h = c := by
  have h' : k < t.length := h
  rw [List.getElem?_eq_getElem h'] at hc
  have e : (str t)[k]'h = t[k]'h' := by simp [str, ByteArray.getElem_eq_getElem_data]
  exact e.trans (Option.some.inj hc)
end Go.Proofs.YtljncdcjkdgkeaaGreatDoor.Dc
namespace Go.Proofs.YtljncdcjkdgkeaaGreatDoor.Dc
open Go.RowKit Go.Proofs.YtljncdcjkdgkeaaGreatDoor.Big Go.Proofs.YtljncdcjkdgkeaaGreatDoor.Lp Go.Proofs.YtljncdcjkdgkeaaGreatDoor.Rt

theorem infoNode : (Tryz.prog.info? 127).map (fun i => (i.zero, i.size, i.bytes)) = some (some (.agg #[.int .i64 0, .int .i64 0, .bool false, .slice none 0 0, .int .i64 0, .int .i64 0]), 6, 64) := by kernel_rfl
theorem zNode : ∀ u ∈ (Value.agg #[.int .i64 0, .int .i64 0, .bool false, .slice none 0 0, .int .i64 0, .int .i64 0]).cells.toList, noU u = true := fun u hu => by
  simp [Value.cells] at hu
  rcases hu with rfl | rfl | rfl | rfl <;> rfl
theorem infoStr : (Tryz.prog.info? 9).map (fun i => (i.zero, i.size, i.bytes)) = some (some (.string ⟨#[]⟩), 1, 16) := by kernel_rfl
theorem zStr : ∀ u ∈ (Value.string ⟨#[]⟩).cells.toList, noU u = true := fun u hu => by
  have : u = .string ⟨#[]⟩ := by simpa [Value.cells] using hu
  rw [this]; rfl
theorem sV_snoc (P : List BL) (q : BL) : sV (P ++ [q]) = sV P ++ [.string (str q)] := by simp [sV]
/-- a row of texts -/
def RowS (w : World) (v : Value) (ys : List BL) : Prop := ∃ A c, v = .slice A ys.length c ∧ ys.length ≤ c ∧ c ≤ 9223372036854775807 ∧ (0 < ys.length → ∃ b, A = some ⟨b, 0, none⟩ ∧ (∃ cur, w.heap[b]? = some (.cells cur 9 (0, 0))) ∧ ∀ j x, ys[j]? = some x → w.cell? ⟨b, j, none⟩ = some (.string (str x)))
section
variable {w w' : World} {v : Value} {ys : List BL} {base n : Nat}
theorem RowS.fr {P : Nat → Prop} (h : RowS w v ys) (k : Fr P w w') (hP : ∀ b cur, w.heap[b]? = some (.cells cur 9 (0, 0)) → ¬ P b) : RowS w' v ys := by
  obtain ⟨A, c, e, g1, g2, h⟩ := h
  refine ⟨A, c, e, g1, g2, fun h0 => ?_⟩
  obtain ⟨b, e, ⟨cur, hc⟩, hx⟩ := h h0
  exact ⟨b, e, ⟨cur, k.row (hP b cur hc) hc⟩, fun j x hj => k.cell (hP b cur hc) (hx j x hj)⟩
theorem RowS.ext (h : RowS w v ys) (k : Ext w w') : RowS w' v ys := h.fr (P := fun _ => False) (Fr.of k) (fun _ _ _ => id)
theorem RowS.of_own (o : OwnX w base 9 1 v ys.length (sV ys)) : RowS w v ys := by
  have hcc : ∃ A c, v = .slice A ys.length c ∧ ys.length ≤ c ∧ c ≤ 9223372036854775807 := by
    rcases o.2 with ⟨hv, h0⟩ | ⟨g, cap, cur, hv, -, -, h6, h7, -⟩
    · exact ⟨none, 0, by rw [hv, h0], by omega, by omega⟩
    · exact ⟨_, cap, hv, h6, by unfold maxLen at h7; exact h7⟩
  obtain ⟨A, c, rfl, g1, g2⟩ := hcc
  refine ⟨A, c, rfl, g1, g2, fun h0 => ?_⟩
  obtain ⟨g, cap, e, -, -, -, -, ⟨cur, hc, -⟩, -, hx⟩ := o.cells h0
  injection e with e _ _
  exact ⟨g, e, ⟨cur, hc⟩, fun j x hj => hx j _ (sV_get hj)⟩
end
/-- the nodes whose cells g gives -/
def NodZ (w : World) (g : Nat → Option Value) (l : List RN) : Prop :=
  ∀ i x, l[i]? = some x → ∃ v, g (i * 6) = some (.int .i64 x.vr) ∧ g (i * 6 + 1) = some (.int .i64 x.fl) ∧ g (i * 6 + 2) = some (.bool x.em) ∧ g (i * 6 + 3) = some v ∧ g (i * 6 + 4) = some (.int .i64 0) ∧ g (i * 6 + 5) = some (.int .i64 0) ∧ RowS w v x.ys
/-- nodes in a row of the call's own -/
def NodX (w : World) (base : Nat) (v : Value) (l : List RN) : Prop := ∃ xs, OwnX w base 127 6 v l.length xs ∧ NodZ w (fun i => xs[i]?) l
/-- nodes, wherever they lie -/
def NodV (w : World) (v : Value) (l : List RN) : Prop := ∃ A c, v = .slice A l.length c ∧ (0 < l.length → ∃ b, A = some ⟨b, 0, none⟩ ∧ NodZ w (fun i => w.cell? ⟨b, i, none⟩) l)
section
variable {w w' : World} {v : Value} {l : List RN} {base : Nat}
theorem NodZ.fr {P : Nat → Prop} {g : Nat → Option Value} (h : NodZ w g l) (k : Fr P w w') (hP : ∀ b cur, w.heap[b]? = some (.cells cur 9 (0, 0)) → ¬ P b) : NodZ w' g l := by
  intro i x hx
  obtain ⟨v, h0, h1, h2, h3, h4, h5, h6⟩ := h i x hx
  exact ⟨v, h0, h1, h2, h3, h4, h5, h6.fr k hP⟩
theorem NodX.ext (h : NodX w base v l) (k : Ext w w') : NodX w' base v l := by
  obtain ⟨xs, o, h⟩ := h
  exact ⟨xs, o.ext k, h.fr (P := fun _ => False) (Fr.of k) (fun _ _ _ => id)⟩
theorem NodX.nil (w : World) (base : Nat) : NodX w base (.slice none 0 0) [] := ⟨[], OwnX.nil _ _ _ _, fun i x h => by cases h⟩
theorem NodX.shape (h : NodX w base v l) : ∃ A c, v = .slice A l.length c := by
  obtain ⟨xs, o, -⟩ := h
  exact o.shape
theorem NodX.val (h : NodX w base v l) : NodV w v l := by
  obtain ⟨xs, o, hz⟩ := h
  obtain ⟨A, c, rfl⟩ := o.shape
  refine ⟨A, c, rfl, fun h0 => ?_⟩
  obtain ⟨g, cap, e, -, -, -, -, -, -, hx⟩ := o.cells h0
  injection e with e _ _
  refine ⟨g, e, fun i x hi => ?_⟩
  obtain ⟨y, h0, h1, h2, h3, h4, h5, h6⟩ := hz i x hi
  exact ⟨y, hx _ _ h0, hx _ _ h1, hx _ _ h2, hx _ _ h3, hx _ _ h4, hx _ _ h5, h6⟩
theorem NodV.ext (h : NodV w v l) (k : Ext w w') : NodV w' v l := by
  obtain ⟨A, c, e, h⟩ := h
  refine ⟨A, c, e, fun h0 => ?_⟩
  obtain ⟨b, e, hz⟩ := h h0
  refine ⟨b, e, fun i x hi => ?_⟩
  obtain ⟨y, h0, h1, h2, h3, h4, h5, h6⟩ := hz i x hi
  exact ⟨y, k.cell h0, k.cell h1, k.cell h2, k.cell h3, k.cell h4, k.cell h5, h6.ext k⟩
end
def cell6 (x : RN) (v : Value) : List Value := [.int .i64 x.vr, .int .i64 x.fl, .bool x.em, v, .int .i64 0, .int .i64 0]
/-- a node is appended -/
theorem NodX.push {w W w' : World} {base : Nat} {v v' : Value} {l : List RN} {x : RN} {y : Value} {xs : List Value} (o : OwnX w base 127 6 v l.length xs) (hz : NodZ W (fun i => xs[i]?) l) (hy : RowS W y x.ys) (hW : Ext w W)
    (o' : OwnX w' base 127 6 v' (l.length + 1) (xs ++ cell6 x y)) (hF : Fr (fun g => v.ownBlock = some g) W w') : NodX w' base v' (l ++ [x]) := by
  have hP : ∀ b cur, W.heap[b]? = some (.cells cur 9 (0, 0)) → ¬ v.ownBlock = some b := fun b cur hc hb => by
    obtain ⟨-, -, cur', hc'⟩ := (o.ext hW).lt hb
    rw [hc] at hc'
    injection hc' with hc'
    injection hc' with _ e _
    exact absurd e (by decide)
  have hlen : xs.length = l.length * 6 := o.1
  refine ⟨xs ++ cell6 x y, by rw [List.length_append]; exact o', fun i z hi => ?_⟩
  rcases Nat.lt_or_ge i l.length with h | h
  · rw [List.getElem?_append_left h] at hi
    obtain ⟨u, h0, h1, h2, h3, h4, h5, h6⟩ := hz i z hi
    refine ⟨u, ?_, ?_, ?_, ?_, ?_, ?_, h6.fr hF hP⟩
    all_goals (dsimp only; rw [List.getElem?_append_left (by omega)]; assumption)
  · have hi' := hi
    rw [List.getElem?_append_right h] at hi'
    have e : i = l.length := by
      have := (List.getElem?_eq_some_iff.1 hi).1
      rw [List.length_append, List.length_singleton] at this
      omega
    subst e
    rw [Nat.sub_self] at hi'
    injection hi' with hi'
    subst hi'
    refine ⟨y, ?_, ?_, ?_, ?_, ?_, ?_, hy.fr hF hP⟩
    all_goals (dsimp only; rw [List.getElem?_append_right (by omega), hlen]; first | (rw [Nat.sub_self]; rfl) | (rw [Nat.add_sub_cancel_left]; rfl))
end Go.Proofs.YtljncdcjkdgkeaaGreatDoor.Dc
namespace Go.Proofs.YtljncdcjkdgkeaaGreatDoor.Dc
open Go.RowKit Go.Proofs.YtljncdcjkdgkeaaGreatDoor.Big Go.Proofs.YtljncdcjkdgkeaaGreatDoor.Lp Go.Proofs.YtljncdcjkdgkeaaGreatDoor.Rt
open Go.Lib (itoa decDigits)

theorem rnT_take {l : List RN} {k : Nat} {x : RN} (h : l[k]? = some x) : rnT (l.take (k + 1)) = rnT (l.take k) ++ lineT x := by
  rw [List.take_add_one, h, Option.toList_some, rnT_snoc]
theorem wordsT_take {l : List BL} {k : Nat} {x : BL} (h : l[k]? = some x) : wordsT (l.take (k + 1)) = wordsT (l.take k) ++ 32 :: x := by
  rw [List.take_add_one, h, Option.toList_some, wordsT_snoc]
theorem rnT_le (l : List RN) (k : Nat) : (rnT (l.take k)).length ≤ (rnT l).length := by
  have : rnT l = rnT (l.take k) ++ rnT (l.drop k) := by rw [← rnT_append, List.take_append_drop]
  rw [this, List.length_append]; omega
theorem wordsT_append (l m : List BL) : wordsT (l ++ m) = wordsT l ++ wordsT m := by simp [wordsT]
theorem wordsT_le (l : List BL) (k : Nat) : (wordsT (l.take k)).length ≤ (wordsT l).length := by
  have : wordsT l = wordsT (l.take k) ++ wordsT (l.drop k) := by rw [← wordsT_append, List.take_append_drop]
  rw [this, List.length_append]; omega
theorem wordsT_len (l : List BL) : l.length ≤ (wordsT l).length := by
  induction l with
  | nil => exact Nat.zero_le _
  | cons x r ih =>
    have e : wordsT (x :: r) = (32 :: x) ++ wordsT r := by simp [wordsT]
    rw [e, List.length_append, List.length_cons, List.length_cons]; omega
theorem lineT_le {l : List RN} {k : Nat} {x : RN} (h : l[k]? = some x) : (rnT (l.take k)).length + (lineT x).length ≤ (rnT l).length := by
  have := rnT_le l (k + 1)
  rw [rnT_take h, List.length_append] at this
  exact this
theorem split_cat (X : BL) (vr fl : Int) : str X ++ (⟨#[115, 112, 108, 105, 116, 32]⟩ : ByteArray) ++ str (itoa vr) ++ (⟨#[32]⟩ : ByteArray) ++ str (itoa fl) ++ (⟨#[10]⟩ : ByteArray) = str (X ++ inT vr fl) := by
  apply ByteArray.ext
  simp [str, inT]
set_option maxHeartbeats 2000000 in
set_option maxRecDepth 100000 in
theorem RText_t (v : Value) (l : List RN) (w : World) (hv : NodV w v l) (hl : (rnT l).length ≤ 1048576) (hll : l.length ≤ 1048576) (hi : ∀ x ∈ l, inI x.vr ∧ inI x.fl) :
    Calls Tryz.prog 25 #[v] w (fun e w' => e = .returned (.string (str (rnT l))) ∧ Ext w w') := by
  obtain ⟨A, c, rfl, hcell⟩ := hv
  have HCELL := Lib.hid hcell
  have HI := Lib.hid hi
  have HLEN := Lib.hid hl
  clear hcell hi hl
  obtain ⟨N, hN⟩ : ∃ N, N = l.length := ⟨_, rfl⟩
  rw [← hN] at hll ⊢
  have HN := Lib.hid hN
  clear hN
  go_enter Tryz.func25, Tryz.ntmps25
  go_wp2_with fail
  go_loopw [3, 4] (fun sv iv wr => ∃ (k : Nat) (X : BL), k ≤ N ∧ iv = .int .i64 k ∧ sv = .string (str X) ∧ Hid (X = rnT (l.take k)) ∧ Ext w wr) (fun _ iv _ => N - (intOf iv).toNat)
  case atStart => exact ⟨0, [], by omega, rfl, rfl, Lib.hid rfl, Ext.refl w⟩
  case round =>
    obtain ⟨k, X, hk, rfl, rfl, HX, hxr⟩ := hrel
    by_cases hlt : k < N
    · obtain ⟨x, hx⟩ : ∃ x, l[k]? = some x := ⟨_, List.getElem?_eq_getElem (by have := HN.out; omega)⟩
      obtain ⟨b, rfl, hz⟩ := HCELL.out (by have := HN.out; omega)
      obtain ⟨y, c0, c1, c2, c3, c4, c5, hy⟩ := hz k x hx
      have c0 := hxr.cell c0
      have c1 := hxr.cell c1
      have c2 := hxr.cell c2
      have c3 := hxr.cell c3
      have c4 := hxr.cell c4
      have c5 := hxr.cell c5
      have hy := hy.ext hxr
      obtain ⟨Y, yc, rfl, -, -, hyc⟩ := hy
      obtain ⟨M, hM⟩ : ∃ M, M = x.ys.length := ⟨_, rfl⟩
      rw [← hM] at c3
      have i1 : (0 : Int) ≤ (k : Int) := by omega
      have i2 : (k : Int) < (N : Int) := by omega
      obtain ⟨j1, j2⟩ := HI.out x (List.mem_of_getElem? hx)
      have hll := lineT_le hx
      have HL := Lib.hid HLEN.out
      have HXT := Lib.hid (rnT_take hx)
      have HM := Lib.hid hM
      have hXl : X.length + (lineT x).length ≤ 1048576 := by rw [HX.out]; have := HLEN.out; omega
      have HLT : Hid (lineT x = if 0 ≤ x.vr then inT x.vr x.fl else leafW x.em ++ wordsT x.ys ++ [10]) := Lib.hid rfl
      clear hz hx hll hM
      obtain ⟨vr, fl, em, ys⟩ := x
      dsimp only at *
      have NB := Box.new wr 127 #[.int .i64 vr, .int .i64 fl, .bool em, .slice Y M yc, .int .i64 0, .int .i64 0]
      have hxN : Ext wr (wr.alloc (.cells #[.int .i64 vr, .int .i64 fl, .bool em, .slice Y M yc, .int .i64 0, .int .i64 0] 127)) := (Ext.refl wr).alloc _
      go_upto_region 6 with fail
      generalize (wr.alloc (.cells #[.int .i64 vr, .int .i64 fl, .bool em, .slice Y M yc, .int .i64 0, .int .i64 0] 127)) = V at *
      obtain ⟨nb, hnb⟩ : ∃ z, z = wr.heap.size := ⟨_, rfl⟩
      rw [← hnb] at NB ⊢
      clear hnb c0 c1 c2 c3 c4 c5
      have hxV := hxr.trans hxN
      have b0 := NB.c0
      have b1 := NB.c1
      have b2 := NB.c2
      have b3 := NB.c3
      have hsX : (str X).size = X.length := rfl
      by_cases hv0 : 0 ≤ vr
      · as_aux_lemma =>
        have e1 : decide (0 ≤ vr) = true := decide_eq_true hv0
        rw [if_pos hv0] at HLT
        obtain ⟨SA, hSA⟩ : ∃ S, S = str (itoa vr) := ⟨_, rfl⟩
        obtain ⟨SB, hSB⟩ : ∃ S, S = str (itoa fl) := ⟨_, rfl⟩
        have hA : SA.size ≤ 31 := by rw [hSA]; exact itoa_lenI j1
        have hB : SB.size ≤ 31 := by rw [hSB]; exact itoa_lenI j2
        have HD : Hid ((∀ W, Calls Tryz.prog 64 #[.int .i64 vr] W (fun e w' => e = .returned (.string SA) ∧ w' = W)) ∧ ∀ W, Calls Tryz.prog 64 #[.int .i64 fl] W (fun e w' => e = .returned (.string SB) ∧ w' = W)) := Lib.hid ⟨fun W => by rw [hSA]; exact Decimal_b _ vr W rfl j1, fun W => by rw [hSB]; exact Decimal_b _ fl W rfl j2⟩
        have HCAT : Hid (str X ++ (⟨#[115, 112, 108, 105, 116, 32]⟩ : ByteArray) ++ SA ++ (⟨#[32]⟩ : ByteArray) ++ SB ++ (⟨#[10]⟩ : ByteArray) = str (rnT (l.take (k + 1)))) := Lib.hid (by rw [hSA, hSB, split_cat, HXT.out, HLT.out, HX.out])
        have h1 : ¬ 9223372036854775807 < X.length + 6 := by omega
        have h2 : ¬ 9223372036854775807 < X.length + 6 + SA.size := by omega
        have h3 : ¬ 9223372036854775807 < X.length + 6 + SA.size + 1 := by omega
        have h4 : ¬ 9223372036854775807 < X.length + 6 + SA.size + 1 + SB.size := by omega
        have h5 : ¬ 9223372036854775807 < X.length + 6 + SA.size + 1 + SB.size + 1 := by omega
        have kb0 : ∀ w', Later V w' → w'.cell? ⟨nb, 0, none⟩ = some (.int .i64 vr) := fun w' h => (NB.ext h).c0
        have kb1 : ∀ w', Later V w' → w'.cell? ⟨nb, 1, none⟩ = some (.int .i64 fl) := fun w' h => (NB.ext h).c1
        have ks := Later.refl V
        clear hSA hSB hA hB b1 b2 b3 hyc
        go_wp2_with fail
        go_region_held3 (fun w' => Later V w') ((repeat (first | (with_reducible assumption) | (with_reducible apply Later.drew) | (with_reducible apply Later.drewN)))) (first
          | (go_at_call 64; (with_reducible refine (HD.out.1 _).mono ?_); rintro e wk ⟨rfl, rfl⟩)
          | (go_at_call 64; (with_reducible refine (HD.out.2 _).mono ?_); rintro e wk ⟨rfl, rfl⟩))
        all_goals (
          go_wp2_with fail
          exact ⟨⟨k + 1, rnT (l.take (k + 1)), by omega, by go_num, by rw [HCAT.out], Lib.hid rfl, by first | exact hxV.drew | exact hxV⟩, by simp [intOf]; omega⟩)
      · have e1 : decide (0 ≤ vr) = false := decide_eq_false hv0
        rw [if_neg hv0] at HLT
        have hcat0 : X.length + 5 + (wordsT ys).length + 1 ≤ 1048576 := by
          rw [HLT.out] at hXl
          have : (leafW em).length = 5 := by cases em <;> rfl
          simp only [List.length_append, List.length_singleton, this] at hXl
          omega
        clear b1
        go_upto_if 33 with fail
        rename_i hK
        go_cut [3] (fun v wx => v = .string (str (X ++ leafW em)) ∧ wx = V)
        case first =>
          have h1 : ¬ 9223372036854775807 < X.length + 5 := by omega
          cases em with
          | false =>
            go_wp2_with fail
            go_meet
            exact ⟨by rw [← str_append]; rfl, rfl⟩
          | true =>
            go_wp2_with fail
            go_meet
            exact ⟨by rw [← str_append]; rfl, rfl⟩
        case rest =>
          obtain ⟨rfl, hwx⟩ := hcut
          refine hK _ _ ?_
          subst hwx
          clear hK b0 b2 b3
          have hMb : M ≤ 1048576 := by have := wordsT_len ys; rw [HM.out]; omega
          obtain ⟨Z0, hZ0⟩ : ∃ Z, Z = X ++ leafW em := ⟨_, rfl⟩
          have hZl : Z0.length = X.length + 5 := by rw [hZ0, List.length_append]; cases em <;> rfl
          have HZ0 := Lib.hid hZ0
          rw [← hZ0]
          clear hZ0
          go_wp2_with fail
          go_loopw [3, 6] (fun sv iv wi => ∃ (j : Nat) (Z : BL), j ≤ M ∧ iv = .int .i64 j ∧ sv = .string (str Z) ∧ Hid (Z = Z0 ++ wordsT (ys.take j)) ∧ Ext wc wi) (fun _ iv _ => M - (intOf iv).toNat)
          case atStart => exact ⟨0, Z0, by omega, rfl, rfl, Lib.hid (by simp [wordsT]), Ext.refl _⟩
          case round =>
            obtain ⟨j, Z, hj, rfl, rfl, HZ, hxi⟩ := hrel
            have NBi := NB.ext hxi
            have b3 : wr.cell? ⟨nb, 3, none⟩ = some (.slice Y M yc) := NBi.cell 3
            have hsZ : (str Z).size = Z.length := rfl
            by_cases hjl : j < M
            · obtain ⟨yw, hyw⟩ : ∃ y, ys[j]? = some y := ⟨_, List.getElem?_eq_getElem (by have := HM.out; omega)⟩
              obtain ⟨yb, rfl, -, hyx⟩ := hyc (by have := HM.out; omega)
              have y0 := (hxN.trans hxi).cell (hyx j yw hyw)
              have HZ2 : Hid (Z ++ 32 :: yw = Z0 ++ wordsT (ys.take (j + 1))) := Lib.hid (by rw [wordsT_take hyw, HZ.out]; simp)
              have hZ2 : Z.length + 1 + yw.length ≤ 1048576 := by
                have h1 := congrArg List.length HZ2.out
                have h2 := wordsT_le ys (j + 1)
                rw [List.length_append, List.length_append, List.length_cons] at h1
                omega
              have hsw : (str yw).size = yw.length := rfl
              have h1 : ¬ 9223372036854775807 < Z.length + 1 := by omega
              have h2 : ¬ 9223372036854775807 < Z.length + 1 + yw.length := by omega
              have i5 : (0 : Int) ≤ (j : Int) := by omega
              have i6 : (j : Int) < (M : Int) := by omega
              have hcc : str Z ++ (⟨#[32]⟩ : ByteArray) ++ str yw = str (Z ++ 32 :: yw) := by apply ByteArray.ext; simp [str]
              clear hyx hyw HZ
              go_wp2_with fail
              exact ⟨⟨j + 1, Z ++ 32 :: yw, by omega, by go_num, by first | rfl | rw [hcc], HZ2, hxi⟩, by simp [intOf]; omega⟩
            · obtain rfl : j = M := by omega
              have hz := HZ.out
              rw [HM.out, List.take_length] at hz
              have HF : Hid (str Z ++ (⟨#[10]⟩ : ByteArray) = str (rnT (l.take (k + 1)))) := Lib.hid (by
                rw [HXT.out, HLT.out, ← HX.out, hz, HZ0.out]
                apply ByteArray.ext; simp [str])
              have hZ2 : Z.length + 1 ≤ 1048576 := by
                have h1 := congrArg List.length hz
                rw [List.length_append] at h1
                omega
              have h1 : ¬ 9223372036854775807 < Z.length + 1 := by omega
              clear hz HZ
              go_wp2_with fail
              exact ⟨⟨k + 1, rnT (l.take (k + 1)), by omega, by go_num, by rw [HF.out], Lib.hid rfl, hxV.trans hxi⟩, by simp [intOf]; omega⟩
    · obtain rfl : k = N := by omega
      have HF : Hid (str X = str (rnT l)) := Lib.hid (by rw [HX.out, HN.out, List.take_length])
      go_wp2_with fail
      go_ret
      rw [HF.out]
      exact ⟨rfl, hxr⟩
end Go.Proofs.YtljncdcjkdgkeaaGreatDoor.Dc

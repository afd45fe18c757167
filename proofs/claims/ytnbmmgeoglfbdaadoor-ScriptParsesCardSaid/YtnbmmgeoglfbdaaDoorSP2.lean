/- Scripts in plain Lean: commands, their text form, parsing; the two are inverse. -/
import Derived.Test.YtnbmmgeoglfbdaaDoorSP
set_option linter.unusedVariables false
set_option linter.unusedSimpArgs false
namespace Go.Proofs.YtnbmmgeoglfbdaaDoor.Sc
open Go.Proofs.YtnbmmgeoglfbdaaDoor.Big
open Go.Lib (itoa decDigits)

structure Cmd where
  kind : Nat
  name : BL
  nums : List Int
  text : BL
  deriving DecidableEq

def isLet (c : UInt8) : Bool := 97 ≤ c.toNat && c.toNat ≤ 122
def isDig (c : UInt8) : Bool := 48 ≤ c.toNat && c.toNat ≤ 57
def isInn (c : UInt8) : Bool := isLet c || isDig c
def keywords : List BL := [[97, 114, 114, 97, 121], [98, 111, 117, 110, 100], [101, 108, 115, 101], [102, 111, 114], [105, 102], [105, 110], [108, 111, 99, 107], [111, 117, 116], [112, 101, 114, 105, 111, 100], [115, 104, 97, 114, 101, 100], [116, 97, 115, 107], [118, 97, 114], [119, 104, 105, 108, 101]]
def isKey (l : BL) : Bool := keywords.contains l
def isWord : BL → Bool | [] => false | c :: r => isLet c && r.all isInn
def isName (l : BL) : Bool := isWord l && decide (l.length ≤ 12) && !isKey l
def words : List BL := [[115, 111, 117, 114, 99, 101], [109, 97, 99, 104, 105, 110, 101], [99, 111, 109, 112, 105, 108, 101], [97, 110, 97, 108, 121, 122, 101], [97, 100, 109, 105, 116], [97, 114, 114, 105, 118, 101], [105, 110, 112, 117, 116], [114, 117, 110], [116, 114, 97, 99, 101], [97, 117, 100, 105, 116], [115, 104, 111, 119]]
def word (i : Nat) : BL := words.getD i []
def fN (i : Nat) : Bool := i == 5 || i == 10
def fT (i : Nat) : Bool := i == 0
def least (i : Nat) : Nat := if i = 1 then 15 else if i = 6 then 3 else if i = 7 then 1 else 0
def most (i : Nat) : Nat := if i = 1 then 15 else if i = 5 then 1000 else if i = 6 then 3 else if i = 7 then 1 else 0

def namePart (i : Nat) (fs : List BL) : Option (BL × List BL) :=
  if fN i then (match fs with | [] => none | n :: r => if isName n then some (n, r) else none) else some ([], fs)
def numsL : List BL → Option (List Int)
  | [] => some []
  | f :: r => match num f with | none => none | some v => match numsL r with | none => none | some l => some (v :: l)
def tailL (i : Nat) (nm : BL) (ns : List Int) (k : Nat) : Option (Cmd × Nat) := if ns.length < least i ∨ most i < ns.length then none else some (⟨i + 1, nm, ns, []⟩, k)
def bodyL (i : Nat) (fs : List BL) : Option (Cmd × Nat) :=
  match namePart i fs with
  | none => none
  | some (nm, fs) => match numsL fs with
    | none => none
    | some ns => if fT i then (match ns.getLast? with | none => none | some k => if k < 0 then none else tailL i nm ns.dropLast k.toNat) else tailL i nm ns 0
def findW (w : BL) : List BL → Nat → Option Nat
  | [], _ => none
  | x :: r, i => if x = w then some i else findW w r (i + 1)
def headL (line : BL) : BL × List BL := match cutB 32 line with | some (a, b) => (a, parts 32 b) | none => (line, [])
def firstL (line : BL) : Option (Cmd × Nat) := match findW (headL line).1 words 0 with | none => none | some i => bodyL i (headL line).2
def splitL : Nat → BL → Option (BL × BL)
  | 0, r => some ([], r)
  | n + 1, r => match cutB 10 r with | none => none | some (a, b) => (splitL n b).map fun p => (a ++ 10 :: p.1, p.2)
inductive StepR where
  | err (e : Nat)
  | ok (c : Cmd) (k : Nat) (r : BL)
def step (s : BL) : StepR :=
  match cutB 10 s with
  | none => .err 4
  | some (line, rest) => match firstL line with
    | none => .err 3
    | some (c, k) => match splitL k rest with
      | none => .err 4
      | some (t, r) => if 65536 < t.length then .err 3 else .ok { c with text := t } (1 + k) r
inductive Res where
  | err (at_ : Nat) (e : Nat)
  | ok (l : List Cmd)
def Res.cons (c : Cmd) : Res → Res | .err a e => .err a e | .ok l => .ok (c :: l)
def Res.app (cs : List Cmd) : Res → Res | .err a e => .err a e | .ok l => .ok (cs ++ l)
def parseL : Nat → Nat → Nat → BL → Res
  | 0, _, _, _ => .ok []
  | f + 1, n, a, s => if s = [] then .ok [] else if n = 1000 then .err a 5 else match step s with | .err e => .err a e | .ok c k r => (parseL f (n + 1) (a + k) r).cons c
def parse (s : BL) : Res := parseL (s.length + 1) 0 1 s

def nl (l : BL) : Nat := l.count 10
def textOk (l : BL) : Bool := decide (l.length ≤ 65536) && (l.isEmpty || l.getLast? == some 10)
def validC (c : Cmd) : Bool :=
  decide (1 ≤ c.kind) && decide (c.kind ≤ 11) && (if fN (c.kind - 1) then isName c.name else c.name.isEmpty) && decide (least (c.kind - 1) ≤ c.nums.length) && decide (c.nums.length ≤ most (c.kind - 1)) && (if fT (c.kind - 1) then textOk c.text else c.text.isEmpty)
def validL (l : List Cmd) : Bool := decide (l.length ≤ 1000) && l.all validC
def numT (ns : List Int) : BL := ns.flatMap fun n => 32 :: itoa n
def lineC (c : Cmd) : BL := word (c.kind - 1) ++ ((if fN (c.kind - 1) then 32 :: c.name else []) ++ (numT c.nums ++ (if fT (c.kind - 1) then 32 :: itoa (nl c.text) else [])))
def formatC (c : Cmd) : BL := lineC c ++ 10 :: c.text
def formatL (l : List Cmd) : BL := l.flatMap formatC
def NumsIn (c : Cmd) : Prop := ∀ v ∈ c.nums, inI v

/- the words -/
theorem word_no (i : Nat) (hi : i < 11) : (32 : UInt8) ∉ word i ∧ (10 : UInt8) ∉ word i := by
  have : ∀ i : Fin 11, (32 : UInt8) ∉ word i.1 ∧ (10 : UInt8) ∉ word i.1 := by decide
  exact this ⟨i, hi⟩
theorem find_word (i : Nat) (hi : i < 11) : findW (word i) words 0 = some i := by
  have : ∀ i : Fin 11, findW (word i.1) words 0 = some i.1 := by decide
  exact this ⟨i, hi⟩
theorem findW_some {w : BL} : ∀ {l : List BL} {k i : Nat}, findW w l k = some i → k ≤ i ∧ l[i - k]? = some w
  | [], k, i, h => by cases h
  | x :: r, k, i, h => by
    unfold findW at h
    split at h
    · next e => injection h with h; subst h; simp [e]
    · obtain ⟨h1, h2⟩ := findW_some h
      refine ⟨by omega, ?_⟩
      rw [show i - k = (i - (k + 1)) + 1 by omega]
      simpa using h2
theorem find_some {w : BL} {i : Nat} (h : findW w words 0 = some i) : i < 11 ∧ word i = w := by
  obtain ⟨_, h2⟩ := findW_some h
  rw [Nat.sub_zero] at h2
  refine ⟨?_, by simp [word, List.getD, h2]⟩
  have := (List.getElem?_eq_some_iff.1 h2).1
  exact this
/- names -/
theorem isInn_no {c : UInt8} (h : isInn c = true) : c ≠ 32 ∧ c ≠ 10 := by
  constructor
  · intro e; subst e; revert h; decide
  · intro e; subst e; revert h; decide
theorem isWord_no {l : BL} (h : isWord l = true) : (32 : UInt8) ∉ l ∧ (10 : UInt8) ∉ l ∧ l ≠ [] := by
  cases l with
  | nil => cases h
  | cons c r =>
    unfold isWord at h
    rw [Bool.and_eq_true, List.all_eq_true] at h
    have hc : isInn c = true := by unfold isInn; rw [h.1]; rfl
    have key : ∀ x ∈ c :: r, x ≠ 32 ∧ x ≠ 10 := by
      intro x hx
      simp only [List.mem_cons] at hx
      rcases hx with rfl | hx
      · exact isInn_no hc
      · exact isInn_no (h.2 x hx)
    exact ⟨fun hm => (key _ hm).1 rfl, fun hm => (key _ hm).2 rfl, by simp⟩
theorem isName_no {l : BL} (h : isName l = true) : (32 : UInt8) ∉ l ∧ (10 : UInt8) ∉ l ∧ l ≠ [] := by
  unfold isName at h
  simp only [Bool.and_eq_true] at h
  exact isWord_no h.1.1
/-- fields, written one after the other, each behind a space -/
def spaced (fs : List BL) : BL := fs.flatMap fun f => 32 :: f
theorem parts_spaced : ∀ (f : BL) (fs : List BL), (∀ x ∈ f :: fs, (32 : UInt8) ∉ x) → parts 32 (f ++ spaced fs) = f :: fs
  | f, [], h => by simp only [spaced, List.flatMap_nil, List.append_nil]; exact parts_none (h f (by simp))
  | f, g :: fs, h => by
    have e : f ++ spaced (g :: fs) = f ++ 32 :: (g ++ spaced fs) := by simp [spaced]
    rw [e, parts_some (h f (by simp)), parts_spaced g fs (fun x hx => h x (by simp at hx ⊢; exact .inr hx))]
theorem head_line (w : BL) (fs : List BL) (hw : (32 : UInt8) ∉ w) (h : ∀ x ∈ fs, (32 : UInt8) ∉ x) : headL (w ++ spaced fs) = (w, fs) := by
  unfold headL
  cases fs with
  | nil => simp only [spaced, List.flatMap_nil, List.append_nil]; rw [cutB_none hw]
  | cons f fs =>
    have e : w ++ spaced (f :: fs) = w ++ 32 :: (f ++ spaced fs) := by simp [spaced]
    rw [e, cutB_some hw]
    simp only []
    rw [parts_spaced f fs h]
theorem parts_inv : ∀ (l : BL), ∃ f fs, parts 32 l = f :: fs ∧ l = f ++ spaced fs
  | [] => ⟨[], [], rfl, rfl⟩
  | x :: r => by
    obtain ⟨f, fs, h1, h2⟩ := parts_inv r
    by_cases e : x = 32
    · exact ⟨[], f :: fs, by conv => lhs; unfold parts
                             rw [if_pos e, h1], by rw [e, h2]; simp [spaced]⟩
    · refine ⟨x :: f, fs, ?_, by rw [h2]; rfl⟩
      conv => lhs; unfold parts
      rw [if_neg e, h1]
theorem head_inv (l : BL) : ∃ w fs, headL l = (w, fs) ∧ l = w ++ spaced fs := by
  unfold headL
  cases h : cutB 32 l with
  | none => exact ⟨l, [], rfl, by simp [spaced]⟩
  | some p =>
    obtain ⟨a, b⟩ := p
    obtain ⟨h1, _⟩ := cutB_spec h
    obtain ⟨f, fs, h2, h3⟩ := parts_inv b
    exact ⟨a, parts 32 b, rfl, by rw [h1, h2, h3]; simp [spaced]⟩
theorem numsL_map : ∀ {ns : List Int}, (∀ v ∈ ns, inI v) → numsL (ns.map itoa) = some ns
  | [], _ => rfl
  | v :: r, h => by
    simp only [List.map_cons, numsL]
    rw [num_itoa (h v (by simp)), numsL_map (fun x hx => h x (by simp [hx]))]
theorem numsL_inv : ∀ {fs : List BL} {ns : List Int}, numsL fs = some ns → fs = ns.map itoa ∧ ∀ v ∈ ns, inI v
  | [], ns, h => by injection h with h; subst h; simp
  | f :: r, ns, h => by
    unfold numsL at h
    cases hf : num f with
    | none => rw [hf] at h; cases h
    | some v =>
      rw [hf] at h
      cases hr : numsL r with
      | none => rw [hr] at h; cases h
      | some l =>
        rw [hr] at h
        injection h with h; subst h
        obtain ⟨h1, h2⟩ := numsL_inv hr
        obtain ⟨h3, h4⟩ := num_some hf
        refine ⟨by rw [h1, h3]; rfl, ?_⟩
        intro x hx
        simp only [List.mem_cons] at hx
        rcases hx with rfl | hx
        · exact h4
        · exact h2 x hx
theorem numsL_len {fs : List BL} {ns : List Int} (h : numsL fs = some ns) : ns.length = fs.length := by rw [(numsL_inv h).1, List.length_map]
theorem numT_eq (ns : List Int) : numT ns = spaced (ns.map itoa) := by unfold numT spaced; rw [List.flatMap_map]
theorem spaced_append (a b : List BL) : spaced (a ++ b) = spaced a ++ spaced b := by simp [spaced]
/-- the fields of a command -/
def fieldsC (c : Cmd) : List BL := (if fN (c.kind - 1) then [c.name] else []) ++ (c.nums ++ (if fT (c.kind - 1) then [(nl c.text : Int)] else [])).map itoa
theorem lineC_eq (c : Cmd) : lineC c = word (c.kind - 1) ++ spaced (fieldsC c) := by
  unfold lineC fieldsC
  rw [spaced_append, List.map_append, spaced_append, numT_eq]
  congr 1
  congr 1
  · split <;> simp [spaced]
  · congr 1
    split <;> simp [spaced]
theorem itoa_no32 (v : Int) : (32 : UInt8) ∉ itoa v := itoa_no v 32 (by decide) (.inl (by decide))
theorem itoa_no10 (v : Int) : (10 : UInt8) ∉ itoa v := itoa_no v 10 (by decide) (.inl (by decide))
theorem fN_fT (i : Nat) : fN i = true → fT i = false := by unfold fN fT; intro h; simp at h ⊢; omega
theorem nl_le (l : BL) : nl l ≤ l.length := List.count_le_length
section
variable {c : Cmd}
theorem validC_iff : validC c = true ↔ 1 ≤ c.kind ∧ c.kind ≤ 11 ∧ (if fN (c.kind - 1) then isName c.name = true else c.name = []) ∧ least (c.kind - 1) ≤ c.nums.length ∧ c.nums.length ≤ most (c.kind - 1) ∧ (if fT (c.kind - 1) then textOk c.text = true else c.text = []) := by
  unfold validC
  simp only [Bool.and_eq_true, decide_eq_true_eq, and_assoc]
  cases fN (c.kind - 1) <;> cases fT (c.kind - 1) <;> simp
theorem validC_len (h : validC c = true) : c.text.length ≤ 65536 := by
  obtain ⟨_, _, _, _, _, h6⟩ := validC_iff.1 h
  split at h6
  · unfold textOk at h6; simp only [Bool.and_eq_true, decide_eq_true_eq] at h6; exact h6.1
  · rw [h6]; simp
theorem validC_fields (h : validC c = true) : (∀ x ∈ fieldsC c, (32 : UInt8) ∉ x) ∧ (∀ x ∈ fieldsC c, (10 : UInt8) ∉ x) := by
  obtain ⟨_, _, h3, _, _, _⟩ := validC_iff.1 h
  have key : ∀ x ∈ fieldsC c, (32 : UInt8) ∉ x ∧ (10 : UInt8) ∉ x := by
    intro x hx
    unfold fieldsC at hx
    rw [List.mem_append] at hx
    rcases hx with hx | hx
    · split at hx
      · next e =>
        rw [if_pos e] at h3
        simp only [List.mem_singleton] at hx
        subst hx
        obtain ⟨a, b, _⟩ := isName_no h3
        exact ⟨a, b⟩
      · simp at hx
    · rw [List.mem_map] at hx
      obtain ⟨v, _, rfl⟩ := hx
      exact ⟨itoa_no32 v, itoa_no10 v⟩
  exact ⟨fun x hx => (key x hx).1, fun x hx => (key x hx).2⟩
theorem lineC_no (h : validC c = true) : (10 : UInt8) ∉ lineC c := by
  obtain ⟨h1, h2, _⟩ := validC_iff.1 h
  rw [lineC_eq, List.mem_append]
  intro hm
  rcases hm with hm | hm
  · exact (word_no (c.kind - 1) (by omega)).2 hm
  · unfold spaced at hm
    rw [List.mem_flatMap] at hm
    obtain ⟨x, hx, hm⟩ := hm
    simp only [List.mem_cons] at hm
    rcases hm with hm | hm
    · cases hm
    · exact ((validC_fields h)).2 x hx hm
theorem validC_first (h : validC c = true) (hn : NumsIn c) : firstL (lineC c) = some ({ c with text := [] }, nl c.text) := by
  obtain ⟨h1, h2, h3, h4, h5, h6⟩ := validC_iff.1 h
  have hl := (validC_len h)
  have hnl := nl_le c.text
  unfold firstL
  rw [lineC_eq, head_line _ _ (word_no (c.kind - 1) (by omega)).1 (validC_fields h).1]
  simp only []
  rw [find_word (c.kind - 1) (by omega)]
  simp only []
  unfold bodyL
  have hname : namePart (c.kind - 1) (fieldsC c) = some (c.name, (c.nums ++ (if fT (c.kind - 1) then [(nl c.text : Int)] else [])).map itoa) := by
    unfold namePart fieldsC
    by_cases e : fN (c.kind - 1) = true
    · rw [if_pos e] at h3
      simp only [e, if_true, List.singleton_append, h3]
    · rw [if_neg e] at h3
      simp only [e, Bool.false_eq_true, if_false, List.nil_append, h3]
  rw [hname]
  simp only []
  have hnums : numsL ((c.nums ++ (if fT (c.kind - 1) then [(nl c.text : Int)] else [])).map itoa) = some (c.nums ++ (if fT (c.kind - 1) then [(nl c.text : Int)] else [])) := by
    refine numsL_map ?_
    intro v hv
    rw [List.mem_append] at hv
    rcases hv with hv | hv
    · exact hn v hv
    · split at hv
      · simp only [List.mem_singleton] at hv; subst hv; unfold inI; omega
      · simp at hv
  rw [hnums]
  simp only []
  have htail : ∀ k, tailL (c.kind - 1) c.name c.nums k = some ({ c with text := [] }, k) := by
    intro k
    unfold tailL
    rw [if_neg (by omega), show c.kind - 1 + 1 = c.kind by omega]
  by_cases e : fT (c.kind - 1) = true
  · simp only [e, if_true, List.getLast?_append, List.getLast?_singleton, Option.some_or, List.dropLast_concat]
    rw [if_neg (by omega), Int.toNat_natCast, htail]
  · rw [if_neg e] at h6
    simp only [e, Bool.false_eq_true, if_false, List.append_nil, htail, h6]
    rfl
theorem splitL_text : ∀ (t r : BL), t = [] ∨ t.getLast? = some 10 → splitL (nl t) (t ++ r) = some (t, r) := by
  intro t
  generalize hN : t.length = N
  induction N using Nat.strongRecOn generalizing t with
  | _ N ih =>
    intro r h
    rcases h with rfl | h
    · rfl
    · have hm : (10 : UInt8) ∈ t := List.mem_of_getLast? h
      cases hc : cutB 10 t with
      | none => exact absurd hm (cutB_none_iff.1 hc)
      | some p =>
        obtain ⟨a, b⟩ := p
        obtain ⟨rfl, ha⟩ := cutB_spec hc
        have e1 : nl (a ++ 10 :: b) = nl b + 1 := by
          unfold nl
          rw [List.count_append, List.count_eq_zero.2 ha, List.count_cons_self]; omega
        rw [e1, show a ++ 10 :: b ++ r = a ++ 10 :: (b ++ r) by simp]
        unfold splitL
        rw [cutB_some ha]
        simp only []
        have hb : b = [] ∨ b.getLast? = some 10 := by
          cases b with
          | nil => exact .inl rfl
          | cons y ys => right; rw [← h, List.getLast?_append, List.getLast?_cons_cons]; simp [List.getLast?_cons]
        rw [ih b.length (by rw [← hN]; simp; omega) b rfl r hb]
        rfl
theorem splitL_inv : ∀ {n : Nat} {s t r : BL}, splitL n s = some (t, r) → s = t ++ r ∧ n = nl t ∧ (t = [] ∨ t.getLast? = some 10)
  | 0, s, t, r, h => by injection h with h; injection h with h1 h2; subst h1 h2; exact ⟨rfl, rfl, .inl rfl⟩
  | n + 1, s, t, r, h => by
    unfold splitL at h
    cases hc : cutB 10 s with
    | none => rw [hc] at h; cases h
    | some p =>
      obtain ⟨a, b⟩ := p
      rw [hc] at h
      simp only [Option.map_eq_some_iff] at h
      obtain ⟨⟨t', r'⟩, h1, h2⟩ := h
      injection h2 with h2 h3
      obtain ⟨rfl, ha⟩ := cutB_spec hc
      obtain ⟨rfl, h4, h5⟩ := splitL_inv h1
      simp only at h2 h3
      subst h2 h3
      refine ⟨by simp, ?_, .inr ?_⟩
      · unfold nl at h4 ⊢
        rw [List.count_append, List.count_eq_zero.2 ha, List.count_cons_self, h4]; omega
      · rcases h5 with rfl | h5
        · simp
        · rw [List.getLast?_append]
          cases t' with
          | nil => cases h5
          | cons y ys => rw [List.getLast?_cons_cons, h5]; rfl
theorem validC_textEnd (h : validC c = true) : c.text = [] ∨ c.text.getLast? = some 10 := by
  obtain ⟨_, _, _, _, _, h6⟩ := validC_iff.1 h
  split at h6
  · unfold textOk at h6
    simp only [Bool.and_eq_true, decide_eq_true_eq, Bool.or_eq_true, beq_iff_eq, List.isEmpty_iff] at h6
    exact h6.2
  · exact .inl h6
/-- the text form of a command, read -/
theorem step_format (h : validC c = true) (hn : NumsIn c) (r : BL) : step (formatC c ++ r) = .ok c (1 + nl c.text) r := by
  unfold step formatC
  rw [show lineC c ++ 10 :: c.text ++ r = lineC c ++ 10 :: (c.text ++ r) by simp, cutB_some (lineC_no h)]
  simp only []
  rw [validC_first h hn]
  simp only []
  rw [splitL_text _ _ (validC_textEnd h)]
  simp only []
  rw [if_neg (by have := (validC_len h); omega)]
/-- what is read is a text form -/
theorem step_inv {s : BL} {k : Nat} {r : BL} (h : step s = .ok c k r) : s = formatC c ++ r ∧ validC c = true ∧ NumsIn c ∧ k = 1 + nl c.text := by
  unfold step at h
  cases hc : cutB 10 s with
  | none => rw [hc] at h; cases h
  | some p =>
    obtain ⟨line, rest⟩ := p
    rw [hc] at h
    simp only [] at h
    cases hf : firstL line with
    | none => rw [hf] at h; cases h
    | some q =>
      obtain ⟨d, m⟩ := q
      rw [hf] at h
      simp only [] at h
      cases hs : splitL m rest with
      | none => rw [hs] at h; cases h
      | some u =>
        obtain ⟨t, r'⟩ := u
        rw [hs] at h
        simp only [] at h
        split at h
        · cases h
        · next htl =>
          injection h with h1 h2 h3
          subst h1 h2 h3
          obtain ⟨rfl, _⟩ := cutB_spec hc
          obtain ⟨rfl, rfl, hte⟩ := splitL_inv hs
          unfold firstL at hf
          obtain ⟨w, fs, hh, rfl⟩ := head_inv line
          rw [hh] at hf
          simp only [] at hf
          cases hw : findW w words 0 with
          | none => rw [hw] at hf; cases hf
          | some i =>
            rw [hw] at hf
            simp only [] at hf
            obtain ⟨hi, rfl⟩ := find_some hw
            unfold bodyL at hf
            cases hnp : namePart i fs with
            | none => rw [hnp] at hf; cases hf
            | some np =>
              obtain ⟨nm, fs'⟩ := np
              rw [hnp] at hf
              simp only [] at hf
              cases hns : numsL fs' with
              | none => rw [hns] at hf; cases hf
              | some ns =>
                rw [hns] at hf
                simp only [] at hf
                obtain ⟨rfl, hin⟩ := numsL_inv hns
                have hname : fs = (if fN i then [nm] else []) ++ ns.map itoa ∧ (if fN i then isName nm = true else nm = []) := by
                  unfold namePart at hnp
                  by_cases e : fN i = true
                  · simp only [e, if_true] at hnp ⊢
                    cases fs with
                    | nil => cases hnp
                    | cons n r =>
                      simp only [] at hnp
                      split at hnp
                      · next hn => injection hnp with hnp; injection hnp with a b; subst a b; exact ⟨rfl, hn⟩
                      · cases hnp
                  · simp only [e, Bool.false_eq_true, if_false] at hnp ⊢
                    injection hnp with hnp; injection hnp with a b
                    exact ⟨b, a.symm⟩
                obtain ⟨rfl, hname⟩ := hname
                by_cases e : fT i = true
                · simp only [e, if_true] at hf
                  cases hl : ns.getLast? with
                  | none => rw [hl] at hf; cases hf
                  | some v =>
                    rw [hl] at hf
                    simp only [] at hf
                    split at hf
                    · cases hf
                    · next hv =>
                      unfold tailL at hf
                      split at hf
                      · cases hf
                      · next hlm =>
                        injection hf with hf; injection hf with a b
                        subst a
                        have hns2 : ns = ns.dropLast ++ [v] := by
                          rw [List.getLast?_eq_some_iff] at hl
                          obtain ⟨ys, hl⟩ := hl
                          rw [hl]; simp
                        have hvk : v = (nl t : Int) := by omega
                        have hfN : fN i = false := by
                          cases h0 : fN i
                          · rfl
                          · have := fN_fT i h0; rw [e] at this; cases this
                        refine ⟨?_, ?_, ?_, rfl⟩
                        · show _ = lineC ⟨i + 1, nm, ns.dropLast, t⟩ ++ 10 :: t ++ r'
                          rw [lineC_eq]
                          have hfc : fieldsC ⟨i + 1, nm, ns.dropLast, t⟩ = (if fN i then [nm] else []) ++ ns.map itoa := by
                            simp only [fieldsC, Nat.add_sub_cancel, e, if_true]
                            rw [← hvk, ← hns2]
                          rw [hfc]
                          simp
                        · rw [validC_iff]
                          simp only [Nat.add_sub_cancel]
                          refine ⟨by omega, by omega, hname, by omega, by omega, ?_⟩
                          rw [if_pos e]
                          unfold textOk
                          simp only [Bool.and_eq_true, decide_eq_true_eq, Bool.or_eq_true, beq_iff_eq, List.isEmpty_iff]
                          exact ⟨by omega, hte⟩
                        · intro x hx
                          exact hin x (List.dropLast_subset _ hx)
                · simp only [e, Bool.false_eq_true, if_false] at hf
                  unfold tailL at hf
                  split at hf
                  · cases hf
                  · next hlm =>
                    injection hf with hf; injection hf with a b
                    subst a
                    have ht0 : t = [] := by
                      rcases hte with h0 | h0
                      · exact h0
                      · exfalso
                        have : (10 : UInt8) ∈ t := List.mem_of_getLast? h0
                        have := List.count_pos_iff.2 this
                        unfold nl at b; omega
                    subst ht0
                    refine ⟨?_, ?_, fun x hx => hin x hx, rfl⟩
                    · show _ = lineC ⟨i + 1, nm, ns, []⟩ ++ 10 :: [] ++ r'
                      rw [lineC_eq]
                      have hfc : fieldsC ⟨i + 1, nm, ns, []⟩ = (if fN i then [nm] else []) ++ ns.map itoa := by
                        simp only [fieldsC, Nat.add_sub_cancel, e, Bool.false_eq_true, if_false, List.append_nil]
                      rw [hfc]
                      simp
                    · rw [validC_iff]
                      simp only [Nat.add_sub_cancel]
                      refine ⟨by omega, by omega, hname, by omega, by omega, ?_⟩
                      rw [if_neg e]; trivial
end
end Go.Proofs.YtnbmmgeoglfbdaaDoor.Sc

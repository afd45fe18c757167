/- Maps whose keys are pointers: any number of entries. -/
import Derived.Test.YthafabkjidifeaaCM
import Derived.Test.YthafabkjidifeaaMem2
set_option linter.unusedVariables false
set_option linter.unusedSimpArgs false
namespace Go.Proofs.Ythafabkjidifeaa.Big
open Go.RowKit

def keyP (k : Nat) : Value := .pointer (some ⟨k, 0, none⟩)
theorem map_eraseIdx' {α β : Type} (f : α → β) (l : List α) (i : Nat) : (l.eraseIdx i).map f = (l.map f).eraseIdx i := by
  induction l generalizing i with
  | nil => simp
  | cons a l ih => cases i with
    | zero => simp
    | succ i => simp [ih]
/-- block r is a map with these keys and values -/
def PMap (w : World) (r : Nat) (S : List (Nat × Value)) : Prop :=
  ∃ es clock, w.heap[r]? = some (.map es clock) ∧ es.toList.map (fun e => (e.key, e.val)) = S.map fun p => (keyP p.1, p.2)
def CellsB (w : World) (k : Nat) : Prop := ∃ cs E, w.heap[k]? = some (.cells cs E (0, 0))
def pfind (k : Nat) : List (Nat × Value) → Option (Nat × Value)
  | [] => none
  | p :: S => if p.1 = k then some (0, p.2) else (pfind k S).map fun q => (q.1 + 1, q.2)
/-- a world in which block r alone is another map -/
def MapTo (r : Nat) (w w' : World) : Prop := (∃ es c, w.heap[r]? = some (.map es c)) ∧ ∃ es c, w' = mapWorld w r es c
section
variable {P : Program} {w w' : World} {mt kt et pt : TypeId} {r : Nat} {S : List (Nat × Value)} {j : TypeInfo}
theorem MapTo.far (h : MapTo r w w') {k : Nat} (hk : k ≠ r) : w'.heap[k]? = w.heap[k]? := by
  obtain ⟨⟨es, c, h1⟩, es', c', rfl⟩ := h
  exact mapWorld_far h1 es' c' hk
theorem MapTo.size (h : MapTo r w w') : w'.heap.size = w.heap.size := by
  obtain ⟨⟨es, c, h1⟩, es', c', rfl⟩ := h
  simp [mapWorld]
theorem MapTo.ext {a : World} (h : MapTo r w w') (k : Ext a w) (hr : a.heap.size ≤ r) : Ext a w' := by
  have hs := h.size
  have hf := fun i => h.far (k := i)
  obtain ⟨⟨es, c, h1⟩, es', c', rfl⟩ := h
  exact ⟨k.os, k.tape, k.output, by have := k.size; omega, fun i hi => (hf i (by omega)).trans (Below.block k i hi)⟩
theorem MapTo.box (h : MapTo r w w') {b : Nat} {E : TypeId} {cs : Array Value} (hb : Box w b E cs) : Box w' b E cs := by
  have hne : b ≠ r := by
    rintro rfl
    obtain ⟨⟨es, c, h1⟩, -⟩ := h
    unfold Box at hb
    rw [hb] at h1; cases h1
  exact (h.far hne).trans hb
theorem MapTo.cells (h : MapTo r w w') {b : Nat} (hb : CellsB w b) : CellsB w' b := by
  obtain ⟨cs, E, hb⟩ := hb
  exact ⟨cs, E, h.box (E := E) (cs := cs) hb⟩
theorem MapTo.pmap (h : MapTo r w w') {b : Nat} {S : List (Nat × Value)} (hne : b ≠ r) (hb : PMap w b S) : PMap w' b S := by
  obtain ⟨es, c, h1, h2⟩ := hb
  exact ⟨es, c, (h.far hne).trans h1, h2⟩
theorem PMap.lt (h : PMap w r S) : r < w.heap.size := by
  obtain ⟨es, c, h1, -⟩ := h
  rcases Nat.lt_or_ge r w.heap.size with h' | h'
  · exact h'
  · rw [Array.getElem?_eq_none h'] at h1; cases h1
theorem PMap.ext (h : PMap w r S) (k : Ext w w') : PMap w' r S := by
  have hl := h.lt
  obtain ⟨es, c, h1, h2⟩ := h
  exact ⟨es, c, (Below.block k r hl).trans h1, h2⟩
theorem PMap.new (w : World) : PMap (w.alloc (.map #[] 0)) w.heap.size [] := ⟨#[], 0, heap_alloc_new w _, rfl⟩
theorem PMap.nobox (h : PMap w r S) {b : Nat} {E : TypeId} {cs : Array Value} (hb : Box w b E cs) : b ≠ r := by
  rintro rfl
  obtain ⟨es, c, h1, -⟩ := h
  unfold Box at hb
  rw [hb] at h1; cases h1
theorem CellsB.ext {k : Nat} (h : CellsB w k) (x : Ext w w') : CellsB w' k := by
  obtain ⟨cs, E, h1⟩ := h
  exact ⟨cs, E, Box.ext (E := E) (cs := cs) h1 x⟩
theorem run_equal_ptrs (hk : P.underlying kt = some (.pointer pt)) (hj : P.info? pt = some j) (hsz : j.size ≠ 0) {a b : Nat} (ha : CellsB w a) (hb : CellsB w b) : (Op.equal kt (keyP a) (keyP b)).run P w = .ok (decide (b = a)) w := by
  unfold keyP
  by_cases e : b = a
  · subst e
    rw [run_equal_ptr hk hj]; simp
  · obtain ⟨ca, ta, ha⟩ := ha
    obtain ⟨cb, tb, hb⟩ := hb
    have hne : (⟨a, 0, none⟩ : Addr) ≠ ⟨b, 0, none⟩ := fun h => e (by injection h with h; exact h.symm)
    have h : ∀ d : Nat, (Op.equalIn (d + 1) kt (.pointer (some ⟨a, 0, none⟩)) (.pointer (some ⟨b, 0, none⟩))).run P w = .ok false w := fun d => by
      simp [Op.equalIn, run_underlying hk, sizeOf, typeInfo, hj, hsz, run_sameAddr_other w hne ha hb]
    simp [Op.equal, Op.maxDepth, h 9999, e]
theorem run_findAsking_p (hk : P.underlying kt = some (.pointer pt)) (hj : P.info? pt = some j) (hsz : j.size ≠ 0) (k : Nat) (hkB : CellsB w k) (es : List MapEntry) (S : List (Nat × Value)) (i : Nat) (h : es.map (fun e => (e.key, e.val)) = S.map fun p => (keyP p.1, p.2)) (hS : ∀ p ∈ S, CellsB w p.1) :
    (Instr.findAsking kt (keyP k) es i).run P w = .ok ((pfind k S).map fun q => (i + q.1, q.2)) w := by
  induction es generalizing S i with
  | nil =>
    cases S with
    | nil => simp [Instr.findAsking, pfind]
    | cons p S => simp at h
  | cons e es ih =>
    cases S with
    | nil => simp at h
    | cons p S =>
      simp only [List.map_cons, List.cons.injEq, Prod.mk.injEq] at h
      obtain ⟨⟨h1, h2⟩, h3⟩ := h
      have he := run_equal_ptrs (P := P) (w := w) hk hj hsz hkB (hS p (by simp))
      have hi := ih S (i + 1) h3 (fun q hq => hS q (by simp [hq]))
      unfold pfind
      by_cases e1 : p.1 = k
      · rw [e1] at he h1
        simp only [decide_true] at he
        simp [Instr.findAsking, h1, h2, he, e1]
      · rw [decide_eq_false e1] at he
        rw [if_neg e1]
        simp only [Instr.findAsking, h1, Sem.run_bind, he, Result.andThen, Bool.false_eq_true, if_false, hi]
        congr 1
        cases pfind k S with
        | none => rfl
        | some q => simp; omega
theorem run_findKey_p (hk : P.underlying kt = some (.pointer pt)) (hj : P.info? pt = some j) (hsz : j.size ≠ 0) (k : Nat) (hkB : CellsB w k) (es : List MapEntry) (S : List (Nat × Value)) (h : es.map (fun e => (e.key, e.val)) = S.map fun p => (keyP p.1, p.2)) (hS : ∀ p ∈ S, CellsB w p.1) :
    (Instr.findKey kt (keyP k) es).run P w = .ok (pfind k S) w := by
  cases es with
  | nil =>
    cases S with
    | nil => exact run_findKey_empty hk _
    | cons p S => simp at h
  | cons e es =>
    cases S with
    | nil => simp at h
    | cons p S =>
      have hf := run_findAsking_p hk hj hsz k hkB (e :: es) (p :: S) 0 h hS
      have he : e.key = keyP p.1 := by
        simp only [List.map_cons, List.cons.injEq, Prod.mk.injEq] at h
        exact h.1.1
      have hn : Instr.findNow (.pointer pt) (keyP k) (e :: es) 0 = none := by
        simp [Instr.findNow, he, keyP, Instr.sameNow]
      simp only [Nat.zero_add] at hf
      have hid : ((pfind k (p :: S)).map fun q => (q.1, q.2)) = pfind k (p :: S) := by cases pfind k (p :: S) <;> rfl
      rw [hid] at hf
      simp only [Instr.findKey, Sem.run_bind, run_underlying hk, Result.andThen, hn]
      exact hf
theorem run_lookup_p {z : Value} (hm : P.underlying mt = some (.map kt et)) (hk : P.underlying kt = some (.pointer pt)) (hj : P.info? pt = some j) (hsz : j.size ≠ 0) (hb : PMap w r S) (hS : ∀ p ∈ S, CellsB w p.1) (k : Nat) (hkB : CellsB w k) (hz : (zeroValue et).run P w = .ok z w) :
    (∀ ok, (Instr.lookup mt (.map (some r)) (.pointer (some ⟨k, 0, none⟩)) ok).run P w = .ok (match pfind k S with | some q => (if ok then .tuple #[q.2, .bool true] else q.2) | none => (if ok then .tuple #[z, .bool false] else z)) w) := by
  intro ok
  obtain ⟨es, c, h1, h2⟩ := hb
  have hf := run_findKey_p hk hj hsz k hkB es.toList S h2 hS
  unfold keyP at hf
  cases e : pfind k S with
  | none =>
    rw [e] at hf
    cases ok <;> simp [Instr.lookup, run_underlying hm, Result.andThen, MapKept.run_getObj_map h1, run_checkKey_ptr (n := 9999) hk, hf, hz]
  | some q =>
    rw [e] at hf
    cases ok <;> simp [Instr.lookup, run_underlying hm, Result.andThen, MapKept.run_getObj_map h1, run_checkKey_ptr (n := 9999) hk, hf]
theorem pfind_none_iff {k : Nat} {S : List (Nat × Value)} : pfind k S = none ↔ ∀ p ∈ S, p.1 ≠ k := by
  induction S with
  | nil => simp [pfind]
  | cons p S ih =>
    unfold pfind
    by_cases e : p.1 = k
    · simp [e]
    · simp [e, ih]
/-- a key that is not there -/
theorem run_update_new (hm : P.underlying mt = some (.map kt et)) (hk : P.underlying kt = some (.pointer pt)) (hj : P.info? pt = some j) (hsz : j.size ≠ 0) (hb : PMap w r S) (hS : ∀ p ∈ S, CellsB w p.1) (k : Nat) (hkB : CellsB w k) (hno : ∀ p ∈ S, p.1 ≠ k) (v : Value) :
    ∃ w', (Instr.mapUpdate mt (.map (some r)) (.pointer (some ⟨k, 0, none⟩)) v).run P w = .ok () w' ∧ PMap w' r (S ++ [(k, v)]) ∧ MapTo r w w' := by
  obtain ⟨es, c, h1, h2⟩ := hb
  have hf := run_findKey_p hk hj hsz k hkB es.toList S h2 hS
  rw [pfind_none_iff.2 hno] at hf
  unfold keyP at hf
  refine ⟨mapWorld w r (es.push { key := keyP k, val := v, born := c }) (c + 1), ?_, ⟨_, _, mapWorld_map h1 _ _, ?_⟩, ⟨⟨es, c, h1⟩, _, _, rfl⟩⟩
  · simp [Instr.mapUpdate, run_underlying hm, Result.andThen, MapKept.run_getObj_map h1, run_checkKey_ptr (n := 9999) hk, hf, MapKept.run_setObj_map _ h1, mapWorld, keyP]
  · simp [h2]
/-- a key that is there: the last one -/
theorem run_update_at (hm : P.underlying mt = some (.map kt et)) (hk : P.underlying kt = some (.pointer pt)) (hj : P.info? pt = some j) (hsz : j.size ≠ 0) (k : Nat) (A B : List (Nat × Value)) (v0 : Value) (hb : PMap w r (A ++ (k, v0) :: B)) (hS : ∀ p ∈ A ++ (k, v0) :: B, CellsB w p.1) (hno : ∀ p ∈ A, p.1 ≠ k) (v : Value) :
    ∃ w', (Instr.mapUpdate mt (.map (some r)) (.pointer (some ⟨k, 0, none⟩)) v).run P w = .ok () w' ∧ PMap w' r (A ++ (k, v) :: B) ∧ MapTo r w w' := by
  obtain ⟨es, c, h1, h2⟩ := hb
  have hf := run_findKey_p hk hj hsz k (hS (k, v0) (by simp)) es.toList _ h2 hS
  have hp : pfind k (A ++ (k, v0) :: B) = some (A.length, v0) := by
    clear hS h2 hf
    induction A with
    | nil => simp [pfind]
    | cons p A ih =>
      have h0 : p.1 ≠ k := hno p (by simp)
      simp [pfind, h0, ih (fun q hq => hno q (by simp [hq]))]
  rw [hp] at hf
  unfold keyP at hf
  have hat : es[A.length]? = some { key := keyP k, val := v0, born := ((es[A.length]?).map (·.born)).getD 0 } := by
    have h3 : (es.toList.map (fun e => (e.key, e.val)))[A.length]? = some (keyP k, v0) := by rw [h2]; simp
    rw [List.getElem?_map, Array.getElem?_toList] at h3
    cases e : es[A.length]? with
    | none => rw [e] at h3; cases h3
    | some x =>
      rw [e] at h3
      simp only [Option.map_some, Option.some.injEq, Prod.mk.injEq] at h3
      simp [← h3.1, ← h3.2]
  have hs : (Instr.keyThatStays (keyP k) (.pointer (some ⟨k, 0, none⟩))).run P w = .ok (.pointer (some ⟨k, 0, none⟩)) w := by
    simp [Instr.keyThatStays, Instr.sameBits, keyP]
  have hkey : ((es[A.length]?).map (·.key)).getD (.pointer (some ⟨k, 0, none⟩)) = keyP k := by rw [hat]; rfl
  refine ⟨mapWorld w r (es.modify A.length fun e => { e with key := .pointer (some ⟨k, 0, none⟩), val := v }) c, ?_, ⟨_, _, mapWorld_map h1 _ _, ?_⟩, ⟨⟨es, c, h1⟩, _, _, rfl⟩⟩
  · simp [Instr.mapUpdate, run_underlying hm, Result.andThen, MapKept.run_getObj_map h1, run_checkKey_ptr (n := 9999) hk, hf, hkey, hs, MapKept.run_setObj_map _ h1, mapWorld]
  · apply List.ext_getElem?
    intro i
    have h3 := congrArg (fun l : List (Value × Value) => l[i]?) h2
    simp only [List.getElem?_map, Array.getElem?_toList] at h3
    simp only [List.getElem?_map, Array.getElem?_toList, Array.getElem?_modify]
    by_cases e : A.length = i
    · subst e
      rw [if_pos rfl, hat]
      simp [keyP]
    · rw [if_neg e]
      have hg : (A ++ (k, v0) :: B)[i]? = (A ++ (k, v) :: B)[i]? := by
        rcases Nat.lt_or_ge i A.length with hl | hg
        · rw [List.getElem?_append_left hl, List.getElem?_append_left hl]
        · rw [List.getElem?_append_right hg, List.getElem?_append_right hg]
          obtain ⟨d, hd⟩ : ∃ d, i - A.length = d + 1 := ⟨i - A.length - 1, by omega⟩
          rw [hd]; rfl
      rw [← hg]
      cases e2 : es[i]? with
      | none => rw [e2] at h3; simpa using h3
      | some x => rw [e2] at h3; simpa using h3
theorem run_delete_last {ty kt' : TypeId} (hm : P.underlying mt = some (.map kt et)) (hk : P.underlying kt = some (.pointer pt)) (hj : P.info? pt = some j) (hsz : j.size ≠ 0) (k : Nat) (v0 : Value) (hb : PMap w r (S ++ [(k, v0)])) (hS : ∀ p ∈ S ++ [(k, v0)], CellsB w p.1) (hno : ∀ p ∈ S, p.1 ≠ k) :
    ∃ w', (Builtin.delete_ #[mt, kt'] ty #[.map (some r), .pointer (some ⟨k, 0, none⟩)]).run P w = .ok (.tuple #[]) w' ∧ PMap w' r S ∧ MapTo r w w' := by
  obtain ⟨es, c, h1, h2⟩ := hb
  have hf := run_findKey_p hk hj hsz k (hS (k, v0) (by simp)) es.toList _ h2 hS
  have hp : pfind k (S ++ [(k, v0)]) = some (S.length, v0) := by
    clear hS h2 hf
    induction S with
    | nil => simp [pfind]
    | cons p A ih =>
      have h0 : p.1 ≠ k := hno p (by simp)
      simp [pfind, h0, ih (fun q hq => hno q (by simp [hq]))]
  rw [hp] at hf
  unfold keyP at hf
  have hlen : es.size = S.length + 1 := by
    have := congrArg List.length h2
    simpa using this
  refine ⟨mapWorld w r (es.eraseIdxIfInBounds S.length) c, ?_, ⟨_, _, mapWorld_map h1 _ _, ?_⟩, ⟨⟨es, c, h1⟩, _, _, rfl⟩⟩
  · simp [Builtin.delete_, run_underlying hm, Result.andThen, MapKept.run_getObj_map h1, run_checkKey_ptr (n := 9999) hk, hf, MapKept.run_setObj_map _ h1, mapWorld]
  · have e : (es.eraseIdxIfInBounds S.length).toList = es.toList.eraseIdx S.length := by simp
    rw [e]
    have h3 := congrArg (fun l : List (Value × Value) => l.eraseIdx S.length) h2
    simp only [List.map_append, List.map_cons, List.map_nil] at h3
    rw [List.eraseIdx_append_of_length_le (by simp)] at h3
    simp only [List.length_map, Nat.sub_self, List.eraseIdx_cons_zero, List.append_nil] at h3
    rw [← h3, map_eraseIdx']
end
end Go.Proofs.Ythafabkjidifeaa.Big

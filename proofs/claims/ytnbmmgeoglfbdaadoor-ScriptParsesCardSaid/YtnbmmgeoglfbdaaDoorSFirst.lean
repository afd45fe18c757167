/- Walks: Split at one byte; first of the script. -/
import Derived.Test.YtnbmmgeoglfbdaaDoorSNum
import Derived.Lib.SplitLaws
set_option linter.unusedVariables false
set_option linter.unusedSimpArgs false
namespace Go.Proofs.YtnbmmgeoglfbdaaDoor.Sc
open Go.RowKit Go.Proofs.YtnbmmgeoglfbdaaDoor.Big

theorem index_cut (c : UInt8) (l : BL) : Lib.index l [c] = match cutB c l with | some (a, _) => (a.length : Int) | none => -1 := by
  rw [Lib.index_one, indexByte_eq]; cases cutB c l <;> rfl
theorem splitK_parts (c : UInt8) : ∀ (N : Nat) (l : BL), l.length = N → Lib.splitK [c] 0 (Lib.count l [c]) l = parts c l := by
  intro N
  induction N using Nat.strongRecOn with
  | _ N ih =>
    intro l hl
    have hi := index_cut c l
    cases h : cutB c l with
    | none =>
      rw [h] at hi
      rw [Lib.count_miss hi, parts_none (cutB_none_iff.1 h)]
      rfl
    | some p =>
      obtain ⟨a, b⟩ := p
      rw [h] at hi
      obtain ⟨rfl, ha⟩ := cutB_spec h
      have hd : (a ++ c :: b).drop (a.length + 1) = b := by
        rw [show a ++ c :: b = (a ++ [c]) ++ b by simp, show a.length + 1 = (a ++ [c]).length by simp, List.drop_left]
      rw [Lib.count_hit (by simp) hi, parts_some ha]
      have hd2 : (a ++ c :: b).drop (a.length + [c].length) = b := hd
      rw [hd2, Nat.add_comm, Lib.splitK, hi]
      rw [if_neg (by simp <;> omega)]
      simp only [Int.toNat_natCast, Nat.add_zero, List.take_left]
      rw [hd2, ih b.length (by rw [← hl]; simp; omega) b rfl]
theorem splitB_parts (s : ByteArray) (c : UInt8) : (Lib.splitB ⟨#[c]⟩ 0 (Lib.countB s ⟨#[c]⟩) s).map Value.string = sV (parts c s.data.toList) := by
  have h1 := Lib.splitB_data ⟨#[c]⟩ 0 (Lib.countB s ⟨#[c]⟩) s
  have h2 : Lib.splitK (⟨#[c]⟩ : ByteArray).data.toList 0 (Lib.countB s ⟨#[c]⟩) s.data.toList = parts c s.data.toList := splitK_parts c _ s.data.toList rfl
  rw [h2] at h1
  rw [← h1]
  unfold sV
  rw [List.map_map]
  apply List.map_congr_left
  intro x _
  simp [str_of]
theorem parts_len (c : UInt8) : ∀ l, (parts c l).length ≤ l.length + 1
  | [] => by simp [parts]
  | x :: r => by
    have h := parts_len c r
    conv => lhs; unfold parts
    split
    · simp; omega
    · split
      · simp
      · next e => rw [e] at h; simp at h ⊢; omega
theorem parts_mem_len (c : UInt8) : ∀ l, ∀ x ∈ parts c l, x.length ≤ l.length
  | [], x, h => by simp [parts] at h; subst h; simp
  | y :: r, x, h => by
    have ih := parts_mem_len c r
    unfold parts at h
    split at h
    · simp only [List.mem_cons] at h
      rcases h with rfl | h
      · simp
      · have := ih x h; simp; omega
    · split at h
      · simp only [List.mem_singleton] at h; subst h; simp
      · next p ps e =>
        rw [e] at ih
        simp only [List.mem_cons] at h
        rcases h with rfl | h
        · have := ih p (by simp); simp; omega
        · have := ih x (by simp [h]); simp; omega
def RowPost (w : World) (vs : List Value) (e : Ending) (w' : World) : Prop := (∃ v, e = .returned v ∧ Row w' v vs) ∧ Ext w w'
theorem Split_any (s : ByteArray) (c : UInt8) (w : World) (hs : s.size < 4294967281) (he : Env w) : Calls Tryd.prog 43 #[.string s, .string ⟨#[c]⟩] w (RowPost w (sV (parts c s.data.toList))) := by
  obtain ⟨m, hm⟩ := he.mx
  refine (Tryd.strings_Split s ⟨#[c]⟩ m w hs hm (Nat.le_refl _)).mono ?_
  rintro e w' ⟨rfl, rfl⟩
  refine ⟨⟨_, rfl, ?_⟩, (Ext.refl w).alloc _⟩
  have hlen : (sV (parts c s.data.toList)).length = Lib.countB s ⟨#[c]⟩ + 1 := by
    rw [← splitB_parts, List.length_map]
    exact Lib.splitB_all ⟨#[c]⟩ (Nat.le_refl _) 0 _ s rfl
  rw [← splitB_parts] at hlen ⊢
  have hc := Lib.countB_le ⟨#[c]⟩ (Nat.le_refl _) s.size s (Nat.le_refl _)
  refine ⟨_, _, by rw [hlen], by rw [hlen]; exact Nat.le_refl _, by omega, fun _ => ⟨_, 0, rfl, fun j u hj => ?_⟩⟩
  rw [Nat.zero_add, World.cell?_alloc_new]
  simpa using hj

/-- the formats of the script lie in memory -/
def fmtV (i : Nat) : Array Value := #[.string (str (word i)), .bool (fN i), .int .i64 (least i : Nat), .int .i64 (most i : Nat), .bool (fT i)]
def FormatsOK (w : World) : Prop := ∃ cs t fr, w.heap[(0 : Nat)]? = some (.cells cs t fr) ∧ cs.size = 55 ∧ ∀ k, k < 11 → cs.extract (k * 5) (k * 5 + 5) = fmtV k
theorem FormatsOK.ext {w w' : World} (h : FormatsOK w) (k : Ext w w') : FormatsOK w' := by
  obtain ⟨cs, t, fr, h1, h2⟩ := h
  refine ⟨cs, t, fr, (Below.block k _ ?_).trans h1, h2⟩
  rcases Nat.lt_or_ge (0 : Nat) w.heap.size with h' | h'
  · exact h'
  · rw [Array.getElem?_eq_none h'] at h1; cases h1
theorem index_fmt (cs : Array Value) (k : Nat) (hk : k < 11) (hv : cs.extract (k * 5) (k * 5 + 5) = fmtV k) (w : World) : (Instr.index 65 (.agg cs) (.int .i64 k)).run Tryd.prog w = .ok (.agg #[.string (str (word k)), .bool (fN k), .int .i64 (least k : Nat), .int .i64 (most k : Nat), .bool (fT k)]) w := by
  show _ = Result.ok (Value.agg (fmtV k)) w
  have h1 : (k : Int) < 11 := by omega
  simp [Instr.index, asIntOf, run_underlying Tryd.underlying65, part, Tryd.isAgg64, Tryd.sizeOf64, h1, hk, hv, go_sem]
end Go.Proofs.YtnbmmgeoglfbdaaDoor.Sc

/- Walks: a strings.Builder that is written (after the library's own walks, at this program's copyCheck). -/
import Derived.Test.YtljncdcjkdgkeaaGreatDoorShelf
import Derived.Test.YtljncdcjkdgkeaaGreatDoorT6
import Derived.Lib.AppendStr
import Derived.Shelf.Strings.Builder1
set_option linter.unusedVariables false
set_option linter.unusedSimpArgs false
namespace Go.Proofs.YtljncdcjkdgkeaaGreatDoor.Bld
open Go.RowKit Go.Lib Go.Proofs.YtljncdcjkdgkeaaGreatDoor.Big
abbrev BL := List UInt8

section
theorem sizeB : (Tryz.prog.info? 88).map (·.size) = some 2 := by kernel_rfl

set_option maxHeartbeats 1000000 in
set_option maxRecDepth 100000 in
theorem copyCheck_used (b : Nat) (w : World) (h0 : w.cell? ⟨b, 0, none⟩ = some (.pointer (some ⟨b, 0, none⟩))) :
    Calls Tryz.prog 68 #[.pointer (some ⟨b, 0, none⟩)] w fun e w' => e = .returned (.tuple #[]) ∧ w' = w := by
  obtain ⟨j, hj, _⟩ := Option.map_eq_some_iff.1 sizeB
  go_enter Tryz.func68, Tryz.ntmps68
  go_wp2_with fail
  rw [Lib.run_neq_ptr_same w _ Tryz.underlying86 hj]
  go_wp2_with fail
  go_end0
  exact ⟨rfl, rfl⟩

set_option maxHeartbeats 1000000 in
set_option maxRecDepth 100000 in
theorem copyCheck_fresh (b : Nat) (w : World) (h0 : w.cell? ⟨b, 0, none⟩ = some (.pointer none)) (hsh : w.shape? b = some (88, 2)) (hfz : w.frozen? ⟨b, 0, none⟩ = false) :
    Calls Tryz.prog 68 #[.pointer (some ⟨b, 0, none⟩)] w fun e w' => e = .returned (.tuple #[]) ∧ w' = w.setCell ⟨b, 0, none⟩ (.pointer (some ⟨b, 0, none⟩)) := by
  obtain ⟨j, hj, hjs⟩ := Option.map_eq_some_iff.1 sizeB
  go_enter Tryz.func68, Tryz.ntmps68
  go_wp2_with fail
  rw [Lib.run_to_unsafe w ⟨b, 0, none⟩ Tryz.underlying86 Tryz.underlying160 hj (by rw [hjs]; decide) hsh (Nat.zero_lt_succ 1)]
  simp only [Result.andThen]
  rw [Oper.upon_value]
  go_wp2_with fail
  rw [run_callFunc_extern Tryz.func95 (by kernel_rfl) (by kernel_rfl) (by kernel_rfl) (e := Extern.AbiNoEscape.same) (by kernel_rfl)]
  rw [Lib.run_noEscape]
  simp only [Result.andThen]
  rw [Oper.upon_value]
  go_wp2_with fail
  rw [Lib.run_from_unsafe w ⟨b, 0, none⟩ Tryz.underlying160 Tryz.underlying86 hj hsh (by kernel_rfl)]
  simp only [Result.andThen]
  rw [Oper.upon_value]
  go_wp2_with fail
  go_end0
  exact ⟨rfl, rfl⟩

theorem copyCheck_any (B b : Nat) (bs : List Value) (w : World) (h : Lib.IsBuilder 88 5 B b bs w) :
    Calls Tryz.prog 68 #[.pointer (some ⟨b, 0, none⟩)] w fun e w' => e = .returned (.tuple #[]) ∧ (Lib.BuilderAt 88 5 B b (.pointer (some ⟨b, 0, none⟩)) bs w' ∧ Below B w w' ∧ (∀ k, k ≠ b → w'.heap[k]? = w.heap[k]?) ∧ w'.heap.size = w.heap.size) := by
  rcases h with h | h
  · refine (copyCheck_fresh b w h.cell0 h.shape h.frozen0).mono ?_
    rintro e w' ⟨rfl, rfl⟩
    exact ⟨rfl, h.used _, (Below.refl B w).setCell (p := ⟨b, 0, none⟩) h.1 _, fun k hk => Below.heap_setCell w ⟨b, 0, none⟩ _ k hk, by simp [World.setCell]⟩
  · refine (copyCheck_used b w h.cell0).mono ?_
    rintro e w' ⟨rfl, rfl⟩
    exact ⟨rfl, h, Below.refl B _, fun _ _ => rfl, rfl⟩
theorem infoByte : (Tryz.prog.info? 5).map (fun i => (i.zero, i.size, i.bytes)) = some (some (.int .u8 0), 1, 1) := by kernel_rfl

set_option maxHeartbeats 2000000 in
set_option maxRecDepth 100000 in
theorem WriteString_any (B b : Nat) (bs : List Value) (s : ByteArray) (w : World) (h : Lib.IsBuilder 88 5 B b bs w) (hlen : bs.length + s.size ≤ 140737488355328) (hBw : B ≤ w.heap.size) :
    Calls Tryz.prog 35 #[.pointer (some ⟨b, 0, none⟩), .string s] w fun e w' => e = .returned (.tuple #[.int .i64 s.size, .nilIface]) ∧ (Lib.BuilderAt 88 5 B b (.pointer (some ⟨b, 0, none⟩)) (bs ++ Lib.strCells s) w' ∧ Below B w w' ∧ w.heap.size ≤ w'.heap.size ∧ (∀ k E cs, k ≠ b → E ≠ 5 → Box w k E cs → Box w' k E cs)) := by
  obtain ⟨i0, hi, hz0, hz1, hz2⟩ := info_parts infoByte
  go_enter Tryz.func35, Tryz.ntmps35
  go_wp2_with fail
  refine (copyCheck_any B b bs _ h).mono ?_
  rintro e w1 ⟨rfl, h1, hb1, hkeep1, hsz1⟩
  have HK1 := Lib.hid hkeep1
  clear hkeep1
  obtain ⟨hB, v, hbk, hown, hne⟩ := h1
  have c0 : w1.cell? ⟨b, 0, none⟩ = some (.pointer (some ⟨b, 0, none⟩)) := by rw [Lib.cell_of_heap hbk]; rfl
  have c1 : w1.cell? ⟨b, 1, none⟩ = some v := by rw [Lib.cell_of_heap hbk]; rfl
  go_wp2_with (at_builtin; refine Lib.wpList_append_own_string _ rfl _ _ 44 9 rfl B 5 i0 Tryz.underlying44 Tryz.underlying9 hi hz0 hz1 hz2 _ _ _ rfl hown s rfl ?c3 ?c4 ?c5 ?_)
  case c3 => unfold maxLen; omega
  case c4 => omega
  case c5 => have := hb1.size; omega
  intro v' w2 hown' hgrow _
  have hlt : b < w1.heap.size := by
    rcases Nat.lt_or_ge b w1.heap.size with h' | h'
    · exact h'
    · simp [Array.getElem?_eq_none h'] at hbk
  have hb2 : w2.heap[b]? = some (.cells #[.pointer (some ⟨b, 0, none⟩), v] 88 (0, 0)) := by
    rw [hgrow.block b hlt (fun e => hne e.symm)]
    exact hbk
  have d0 : w2.cell? ⟨b, 0, none⟩ = some (.pointer (some ⟨b, 0, none⟩)) := by rw [Lib.cell_of_heap hb2]; rfl
  have d1 : w2.cell? ⟨b, 1, none⟩ = some v := by rw [Lib.cell_of_heap hb2]; rfl
  have f1 : w2.frozen? ⟨b, 1, none⟩ = false := Lib.frozen_of_heap hb2 1
  obtain ⟨ao, n', cap, rfl⟩ : ∃ ao n' cap, v' = .slice ao n' cap := by
    rcases hown'.2 with ⟨hv, _⟩ | ⟨g, cap, cur, hv, _⟩
    · exact ⟨_, _, _, hv⟩
    · exact ⟨_, _, _, hv⟩
  go_wp2_with fail
  go_ret2
  refine ⟨rfl, ?_, ?_, ?_, ?_⟩
  · exact Lib.BuilderAt.put (T := 88) (e := 5) hB hb2 (bs' := bs ++ Lib.strCells s) (by simpa [Lib.strCells_length] using hown') (by decide)
  · exact (hb1.grown hgrow (by have := hb1.size; omega) (fun k hk => (hown.lt k hk).1)).setCell (p := ⟨b, 1, none⟩) hB _
  · have := hgrow.size; simp [World.setCell]; omega
  · intro k E cs hkb hE hbox
    have hbox1 : Box w1 k E cs := (HK1.out k hkb).trans hbox
    have hrow : some k ≠ v.ownBlock := by
      intro e
      rcases hown.2 with ⟨hv, _⟩ | ⟨g, cap, cur, hv, _, hg, _⟩
      · rw [hv] at e; cases e
      · rw [hv] at e
        injection e with e
        subst e
        unfold Box at hbox1
        rw [hg] at hbox1
        injection hbox1 with hbox1
        injection hbox1 with _ h2
        exact hE h2.symm
    have hbox2 : Box w2 k E cs := (hgrow.block k hbox1.lt hrow).trans hbox1
    exact hbox2.far (p := ⟨b, 1, none⟩) hkb _
end
theorem byteCells_append (a b : List UInt8) : Lib.byteCells (a ++ b) = Lib.byteCells a ++ Lib.byteCells b := by simp [Lib.byteCells]
theorem byteCells_len (l : List UInt8) : (Lib.byteCells l).length = l.length := by simp [Lib.byteCells]
/-- a builder in block b that holds the bytes X -/
def IsB (B b : Nat) (X : BL) (w : World) : Prop := Lib.IsBuilder 88 5 B b (Lib.byteCells X) w
theorem IsB.ext {B b : Nat} {X : BL} {w w' : World} (h : IsB B b X w) (k : Ext w w') : IsB B b X w' := by
  have key : ∀ p, Lib.BuilderAt 88 5 B b p (Lib.byteCells X) w → Lib.BuilderAt 88 5 B b p (Lib.byteCells X) w' := by
    rintro p ⟨h1, v, h2, h3, h4⟩
    exact ⟨h1, v, (Below.block k b (Box.lt (w := w) (E := 88) h2)).trans h2, ownsRow_ext h3 k, h4⟩
  exact h.imp (key _) (key _)
theorem IsB.fresh (w : World) : IsB w.heap.size w.heap.size [] (w.alloc (.cells #[.pointer none, .slice none 0 0] 88)) := Lib.fresh_isBuilder 88 5 w
def WrPost (B b : Nat) (X : BL) (w : World) (e : Ending) (w' : World) : Prop := (∃ n, e = .returned (.tuple #[.int .i64 n, .nilIface])) ∧ IsB B b X w' ∧ Below B w w' ∧ w.heap.size ≤ w'.heap.size ∧ (∀ k E cs, k ≠ b → E ≠ 5 → Box w k E cs → Box w' k E cs)
theorem Write_any (B b : Nat) (X : BL) (s : ByteArray) (w : World) (h : IsB B b X w) (hlen : X.length + s.size ≤ 140737488355328) (hB : B ≤ w.heap.size) : Calls Tryz.prog 35 #[.pointer (some ⟨b, 0, none⟩), .string s] w (WrPost B b (X ++ s.data.toList) w) := by
  refine (WriteString_any B b _ s w h (by rw [byteCells_len]; exact hlen) hB).mono ?_
  rintro e w' ⟨rfl, h1, h2, h3, h4⟩
  refine ⟨⟨_, rfl⟩, ?_, h2, h3, h4⟩
  show Lib.IsBuilder _ _ _ _ _ _
  rw [byteCells_append]
  exact .inr h1
end Go.Proofs.YtljncdcjkdgkeaaGreatDoor.Bld

/- Walks: wellFormed and fits, at a leaf. -/
import Derived.Test.YtljncdcjkdgkeaaGreatDoorCM
import Derived.Test.YtljncdcjkdgkeaaGreatDoorINC
import Derived.Test.YtljncdcjkdgkeaaGreatDoorLN3
import Derived.BigQuiet
set_option linter.unusedVariables false
set_option linter.unusedSimpArgs false
namespace Go.Proofs.YtljncdcjkdgkeaaGreatDoor.Lp
open Go.RowKit Go.Proofs.YtljncdcjkdgkeaaGreatDoor.Big Go.Proofs.YtljncdcjkdgkeaaGreatDoor.Rt

theorem Ext.map {a w : World} {r : Nat} (h : Ext a w) (hr : a.heap.size ≤ r) (es : Array MapEntry) (c : Nat) : Ext a (mapWorld w r es c) :=
  ⟨h.os, h.tape, h.output, by have := h.size; simpa [mapWorld] using this, fun k hk => by
    have hne : k ≠ r := by omega
    have := Below.block h k hk
    rw [← this]
    simp [mapWorld, Ne.symm hne]⟩
theorem zero_int (w : World) : (zeroValue 3).run Tryz.prog w = .ok (.int .i64 0) w := by kernel_rfl
theorem zero_bool (w : World) : (zeroValue 4).run Tryz.prog w = .ok (.bool false) w := by kernel_rfl
theorem infoNode : (Tryz.prog.info? 79).map (·.size) = some 6 := by kernel_rfl
theorem Box.mapW {w : World} {b r : Nat} {E : TypeId} {cs : Array Value} {es0 : Array MapEntry} {c0 : Nat} (h : Box w b E cs) (hr : w.heap[r]? = some (.map es0 c0)) (es : Array MapEntry) (c : Nat) : Box (mapWorld w r es c) b E cs := by
  have hne : b ≠ r := fun e => by
    subst e
    unfold Box at h
    rw [hr] at h
    injection h with h
    cases h
  exact (mapWorld_far hr es c hne).trans h
set_option maxHeartbeats 4000000 in
set_option maxRecDepth 100000 in
theorem height_leaf (tb hb fb mb : Nat) (fl lev : Int) (em : Bool) (A : Option Addr) (n c ck : Nat) (v : Value) (w : World) (hT : Box w tb 79 (NodeC (-1) fl none none em A n c)) (hH : Box w hb 131 #[.map (some mb)]) (hM : w.heap[mb]? = some (.map #[] ck)) (hl : lev ≤ 200) :
    Calls Tryz.prog 67 #[.pointer (some ⟨tb, 0, none⟩), .int .i64 lev, .pointer (some ⟨hb, 0, none⟩), v] w (fun e w' => e = .returned (.int .i64 (if fl = 0 then 0 else -1)) ∧ ∀ a, Ext a w → a.heap.size ≤ mb → Ext a w') := by
  obtain ⟨j, hj, -⟩ := Option.map_eq_some_iff.1 infoNode
  have e1 : decide ((200 : Int) < lev) = false := by simp; omega
  have h1 := run_lookup_empty (P := Tryz.prog) (mt := 131) Tryz.underlying131 Tryz.underlying25 hM (zero_int w) (some ⟨tb, 0, none⟩)
  have h2 := run_update_empty (P := Tryz.prog) (mt := 131) Tryz.underlying131 Tryz.underlying25 hM (some ⟨tb, 0, none⟩) (.int .i64 (-1))
  obtain ⟨w1, hw1⟩ : ∃ x, x = mapWorld w mb #[{ key := .pointer (some ⟨tb, 0, none⟩), val := .int .i64 (-1), born := ck }] (ck + 1) := ⟨_, rfl⟩
  have hM1 : w1.heap[mb]? = some (.map #[{ key := .pointer (some ⟨tb, 0, none⟩), val := .int .i64 (-1), born := ck }] (ck + 1)) := by rw [hw1]; exact mapWorld_map hM _ _
  have hT1 : Box w1 tb 79 (NodeC (-1) fl none none em A n c) := by rw [hw1]; exact Box.mapW hT hM _ _
  have hH1 : Box w1 hb 131 #[.map (some mb)] := by rw [hw1]; exact Box.mapW hH hM _ _
  have hx1 : ∀ a, Ext a w → a.heap.size ≤ mb → Ext a w1 := fun a ha hr => by rw [hw1]; exact Ext.map ha hr _ _
  rw [← hw1] at h2
  have h3 := run_update_one (P := Tryz.prog) (mt := 131) Tryz.underlying131 Tryz.underlying25 hj ⟨tb, 0, none⟩ (.int .i64 (-1)) (.int .i64 0) ck hM1
  obtain ⟨w2, hw2⟩ : ∃ x, x = mapWorld w1 mb #[{ key := .pointer (some ⟨tb, 0, none⟩), val := .int .i64 0, born := ck }] (ck + 1) := ⟨_, rfl⟩
  have hM2 : w2.heap[mb]? = some (.map #[{ key := .pointer (some ⟨tb, 0, none⟩), val := .int .i64 0, born := ck }] (ck + 1)) := by rw [hw2]; exact mapWorld_map hM1 _ _
  have hH2 : Box w2 hb 131 #[.map (some mb)] := by rw [hw2]; exact Box.mapW hH1 hM1 _ _
  have hx2 : ∀ a, Ext a w1 → a.heap.size ≤ mb → Ext a w2 := fun a ha hr => by rw [hw2]; exact Ext.map ha hr _ _
  rw [← hw2] at h3
  have h4 := run_lookup_one (P := Tryz.prog) (mt := 131) Tryz.underlying131 Tryz.underlying25 hj ⟨tb, 0, none⟩ (.int .i64 0) ck hM2
  have h5 := run_lookup_one (P := Tryz.prog) (mt := 131) Tryz.underlying131 Tryz.underlying25 hj ⟨tb, 0, none⟩ (.int .i64 (-1)) ck hM1
  have c0 := hH.c0
  have c1 := hH1.c0
  have c2 := hH2.c0
  have t0 : w1.cell? ⟨tb, 0, none⟩ = some (.int .i64 (-1)) := hT1.cell 0
  have t1 : w1.cell? ⟨tb, 1, none⟩ = some (.int .i64 fl) := hT1.cell 1
  have t2 : w1.cell? ⟨tb, 2, none⟩ = some (.pointer none) := hT1.cell 2
  have t3 : w1.cell? ⟨tb, 3, none⟩ = some (.pointer none) := hT1.cell 3
  clear hw1 hw2
  by_cases hf : fl = 0
  · subst hf
    go_enter Tryz.func67, Tryz.ntmps67
    go_wp2_with fail
    go_ret
    exact ⟨rfl, fun a ha hr => hx2 a (hx1 a ha hr) hr⟩
  · have e2 : (fl == 0) = false := by simpa using hf
    go_enter Tryz.func67, Tryz.ntmps67
    go_wp2_with fail
    go_ret
    exact ⟨rfl, fun a ha hr => hx1 a ha hr⟩
theorem ck_place (w : World) (e : Bool) (a : Option Addr) (z : Int) : (Instr.checkKey e 10000 143 (.agg #[.pointer a, .int .i64 z])).run Tryz.prog w = .ok () w := by kernel_rfl
set_option maxHeartbeats 4000000 in
set_option maxRecDepth 100000 in
theorem visit_leaf (tb sb pb mb : Nat) (fl lev : Int) (em : Bool) (A : Option Addr) (n c ck : Nat) (Ao Ar : Option Addr) (no co m cr : Nat) (v : Value) (w : World) (hT : Box w tb 79 (NodeC (-1) fl none none em A n c)) (hS : Box w sb 140 #[.map (some mb)]) (hM : w.heap[mb]? = some (.map #[] ck)) (hP : Box w pb 41 #[.slice Ao no co, .slice Ar m cr]) (h0 : 0 ≤ lev) (h1 : lev ≤ 1000) (hm : m ≤ 9000000000000000000) :
    Calls Tryz.prog 76 #[.pointer (some ⟨tb, 0, none⟩), .int .i64 lev, .pointer (some ⟨sb, 0, none⟩), .pointer (some ⟨pb, 0, none⟩), v] w (fun e w' => e = .returned (.bool ((n : Int) == (m : Int) + lev)) ∧ ∀ a, Ext a w → a.heap.size ≤ mb → Ext a w') := by
  obtain ⟨W, hW⟩ : ∃ x, x = w.alloc (.cells #[.pointer (some ⟨tb, 0, none⟩), .int .i64 lev] 143) := ⟨_, rfl⟩
  have hE : Ext w W := by rw [hW]; exact (Ext.refl w).alloc _
  have hB : Box W w.heap.size 143 #[.pointer (some ⟨tb, 0, none⟩), .int .i64 lev] := by rw [hW]; exact Box.new _ _ _
  have hmb : mb < w.heap.size := by
    rcases Nat.lt_or_ge mb w.heap.size with h' | h'
    · exact h'
    · rw [Array.getElem?_eq_none h'] at hM; cases hM
  have hM0 : W.heap[mb]? = some (.map #[] ck) := (Below.block hE mb hmb).trans hM
  have e1 := run_lookup_emptyK (P := Tryz.prog) (mt := 140) Tryz.underlying140 Tryz.underlying143 (ck_place W true (some ⟨tb, 0, none⟩) lev) hM0 (zero_bool W)
  have e2 := run_update_emptyK (P := Tryz.prog) (mt := 140) Tryz.underlying140 Tryz.underlying143 (ck_place W false (some ⟨tb, 0, none⟩) lev) hM0 (.bool true)
  obtain ⟨w1, hw1⟩ : ∃ x, x = mapWorld W mb #[{ key := .agg #[.pointer (some ⟨tb, 0, none⟩), .int .i64 lev], val := .bool true, born := ck }] (ck + 1) := ⟨_, rfl⟩
  have hT1 : Box w1 tb 79 (NodeC (-1) fl none none em A n c) := by rw [hw1]; exact Box.mapW (hT.ext hE) hM0 _ _
  have hP1 : Box w1 pb 41 #[.slice Ao no co, .slice Ar m cr] := by rw [hw1]; exact Box.mapW (hP.ext hE) hM0 _ _
  have hx1 : ∀ a, Ext a w → a.heap.size ≤ mb → Ext a w1 := fun a ha hr => by rw [hw1]; exact Ext.map (ha.trans hE) hr _ _
  rw [← hw1] at e2
  have c0 := (hS.ext hE).c0
  have b0 := hB.c0
  have b1 := hB.c1
  have t0 : w1.cell? ⟨tb, 0, none⟩ = some (.int .i64 (-1)) := hT1.cell 0
  have t5 : w1.cell? ⟨tb, 5, none⟩ = some (.slice A n c) := hT1.cell 5
  have p1 := hP1.c1
  have r1 : IntKind.i64.wrap ((m : Int) + lev) = (m : Int) + lev := IntWalk.i64_in _ (by omega)
  clear hw1
  go_enter Tryz.func76, Tryz.ntmps76
  go_upto_region 2 with fail
  simp only [← hW]
  clear hW
  go_upto_region 6 with fail
  go_quiet (fail)
  go_wp2_with fail
  go_ret
  exact ⟨rfl, fun a ha hr => (by repeat (first | exact hx1 a ha hr | apply Ext.drewN | apply Ext.drew))⟩
end Go.Proofs.YtljncdcjkdgkeaaGreatDoor.Lp

/- Walks: wellFormed, fits: their bodies, at a leaf. -/
import Derived.Test.YtljncdcjkdgkeaaGreatDoorCW1
import Derived.Laws.EntriesVeiled
set_option linter.unusedVariables false
set_option linter.unusedSimpArgs false
namespace Go.Proofs.YtljncdcjkdgkeaaGreatDoor.Lp
open Go.RowKit Go.Proofs.YtljncdcjkdgkeaaGreatDoor.Big Go.Proofs.YtljncdcjkdgkeaaGreatDoor.Rt

/-- a map, the box of the map, the box of a function that is not there yet -/
theorem boxesM (w : World) (E F : TypeId) : ∃ V, V = (((w.alloc (.map #[] 0)).alloc (.cells #[.map (some w.heap.size)] E)).alloc (.cells #[.nilFunc] F)) ∧ V.heap[w.heap.size]? = some (.map #[] 0) ∧ Box V (w.heap.size + 1) E #[.map (some w.heap.size)] ∧ Box V (w.heap.size + 1 + 1) F #[.nilFunc] ∧ Ext w V := by
  have s1 : (w.alloc (.map #[] 0)).heap.size = w.heap.size + 1 := by simp
  have s2 : ((w.alloc (.map #[] 0)).alloc (.cells #[.map (some w.heap.size)] E)).heap.size = w.heap.size + 1 + 1 := by simp
  refine ⟨_, rfl, ?_, ?_, ?_, (((Ext.refl w).alloc _).alloc _).alloc _⟩
  · have h0 : (w.alloc (.map #[] 0)).heap[w.heap.size]? = some (.map #[] 0) := heap_alloc_new w _
    have h1 := (Below.block ((((Ext.refl (w.alloc (.map #[] 0))).alloc (.cells #[.map (some w.heap.size)] E)).alloc (.cells #[.nilFunc] F))) w.heap.size (by rw [s1]; omega))
    exact h1.trans h0
  · have := (Box.new (w.alloc (.map #[] 0)) E #[.map (some w.heap.size)]).alloc (.cells #[.nilFunc] F)
    rwa [s1] at this
  · have := Box.new ((w.alloc (.map #[] 0)).alloc (.cells #[.map (some w.heap.size)] E)) F #[.nilFunc]
    rwa [s2] at this
set_option maxHeartbeats 4000000 in
set_option maxRecDepth 100000 in
theorem wellFormed_leaf (tb : Nat) (fl : Int) (em : Bool) (A : Option Addr) (n c : Nat) (w : World) (hT : Box w tb 79 (NodeC (-1) fl none none em A n c)) :
    Calls Tryz.prog 32 #[.pointer (some ⟨tb, 0, none⟩)] w (fun e w' => e = .returned (.bool (decide (fl = 0))) ∧ Ext w w') := by
  have hmm := @run_makeMap Tryz.prog
  obtain ⟨V, hV, hM, hB, hF, hE⟩ := boxesM w 131 132
  go_enter Tryz.func32, Tryz.ntmps32
  go_upto_region 3 with fail
  simp only [← hV]
  clear hV hmm
  obtain ⟨mb, hmb⟩ : ∃ x, x = w.heap.size := ⟨_, rfl⟩
  obtain ⟨hb, hhb⟩ : ∃ x, x = w.heap.size + 1 := ⟨_, rfl⟩
  obtain ⟨fb, hfb⟩ : ∃ x, x = w.heap.size + 1 + 1 := ⟨_, rfl⟩
  rw [← hfb, ← hhb, ← hmb]
  rw [← hfb] at hF
  rw [← hhb] at hB
  rw [← hmb] at hM hB
  have hms : w.heap.size ≤ mb := by omega
  have hfs : w.heap.size ≤ fb := by omega
  have n1 : hb ≠ fb := by omega
  have n2 : mb ≠ fb := by omega
  have hT0 := hT.ext hE
  have n3 : tb ≠ fb := by have := hT.lt; omega
  clear hmb hhb hfb
  have f0 := hF.c0
  have f1 := hF.frozen 0
  obtain ⟨K, hK⟩ : ∃ K : Value, K = .func (.func 67) #[] #[.pointer (some ⟨hb, 0, none⟩), .pointer (some ⟨fb, 0, none⟩)] := ⟨_, rfl⟩
  have hF2 := hF.set 0 K
  have hB2 : Box (V.setCell ⟨fb, 0, none⟩ K) hb 131 #[.map (some mb)] := hB.far (p := ⟨fb, 0, none⟩) n1 K
  have hM2 : (V.setCell ⟨fb, 0, none⟩ K).heap[mb]? = some (.map #[] 0) := (Below.heap_setCell V ⟨fb, 0, none⟩ K mb n2).trans hM
  have hT2 : Box (V.setCell ⟨fb, 0, none⟩ K) tb 79 (NodeC (-1) fl none none em A n c) := hT0.far (p := ⟨fb, 0, none⟩) n3 K
  have hE2 : Ext w (V.setCell ⟨fb, 0, none⟩ K) := hE.set (p := ⟨fb, 0, none⟩) hfs K
  go_upto_region 4 with fail
  rw [← hK]
  generalize (V.setCell ⟨fb, 0, none⟩ K) = V2 at *
  have k0 := hF2.c0
  subst hK
  go_wp2_with fail
  refine (height_leaf tb hb fb mb fl 0 em A n c 0 _ _ hT2 hB2 hM2 (by omega)).mono ?_
  rintro e w3 ⟨rfl, hx3⟩
  have hx := hx3 w hE2 hms
  by_cases hf : fl = 0
  · subst hf
    go_wp2_with fail
    go_ret
    exact ⟨rfl, hx⟩
  · rw [if_neg hf]
    go_wp2_with fail
    go_ret
    exact ⟨by rw [decide_eq_false hf]; rfl, hx⟩
set_option maxHeartbeats 4000000 in
set_option maxRecDepth 100000 in
theorem fits_leaf (tb : Nat) (fl : Int) (em : Bool) (A : Option Addr) (n c : Nat) (Ao Ar : Option Addr) (no co m cr : Nat) (w : World) (hT : Box w tb 79 (NodeC (-1) fl none none em A n c)) (hm : m ≤ 9000000000000000000) :
    Calls Tryz.prog 43 #[.agg #[.slice Ao no co, .slice Ar m cr], .pointer (some ⟨tb, 0, none⟩)] w (fun e w' => e = .returned (.bool (decide (n = m))) ∧ Ext w w') := by
  have hmm := @run_makeMap Tryz.prog
  have hPB := Box.new w 41 #[.slice Ao no co, .slice Ar m cr]
  have hE0 : Ext w (w.alloc (.cells #[.slice Ao no co, .slice Ar m cr] 41)) := (Ext.refl w).alloc _
  go_enter Tryz.func43, Tryz.ntmps43
  go_upto_region 1 with fail
  obtain ⟨pb, hpb⟩ : ∃ x, x = w.heap.size := ⟨_, rfl⟩
  rw [← hpb] at hPB ⊢
  generalize hU : (w.alloc (.cells #[.slice Ao no co, .slice Ar m cr] 41)) = U at *
  have hT := hT.ext hE0
  clear hU hpb
  obtain ⟨V, hV, hM, hB, hF, hE⟩ := boxesM U 140 141
  go_upto_region 3 with fail
  simp only [← hV]
  clear hV hmm
  have n4 : pb < U.heap.size := hPB.lt
  have hPB := hPB.ext hE
  obtain ⟨mb, hmb⟩ : ∃ x, x = U.heap.size := ⟨_, rfl⟩
  obtain ⟨hb, hhb⟩ : ∃ x, x = U.heap.size + 1 := ⟨_, rfl⟩
  obtain ⟨fb, hfb⟩ : ∃ x, x = U.heap.size + 1 + 1 := ⟨_, rfl⟩
  rw [← hfb, ← hhb, ← hmb]
  rw [← hfb] at hF
  rw [← hhb] at hB
  rw [← hmb] at hM hB
  have hms : U.heap.size ≤ mb := by omega
  have hfs : U.heap.size ≤ fb := by omega
  have n1 : hb ≠ fb := by omega
  have n2 : mb ≠ fb := by omega
  have n5 : pb ≠ fb := by omega
  have hT0 := hT.ext hE
  have n3 : tb ≠ fb := by have := hT.lt; omega
  clear hmb hhb hfb
  have f0 := hF.c0
  have f1 := hF.frozen 0
  obtain ⟨K, hK⟩ : ∃ K : Value, K = .func (.func 76) #[] #[.pointer (some ⟨hb, 0, none⟩), .pointer (some ⟨pb, 0, none⟩), .pointer (some ⟨fb, 0, none⟩)] := ⟨_, rfl⟩
  have hF2 := hF.set 0 K
  have hB2 : Box (V.setCell ⟨fb, 0, none⟩ K) hb 140 #[.map (some mb)] := hB.far (p := ⟨fb, 0, none⟩) n1 K
  have hM2 : (V.setCell ⟨fb, 0, none⟩ K).heap[mb]? = some (.map #[] 0) := (Below.heap_setCell V ⟨fb, 0, none⟩ K mb n2).trans hM
  have hT2 : Box (V.setCell ⟨fb, 0, none⟩ K) tb 79 (NodeC (-1) fl none none em A n c) := hT0.far (p := ⟨fb, 0, none⟩) n3 K
  have hP2 : Box (V.setCell ⟨fb, 0, none⟩ K) pb 41 #[.slice Ao no co, .slice Ar m cr] := hPB.far (p := ⟨fb, 0, none⟩) n5 K
  have hE2 : Ext U (V.setCell ⟨fb, 0, none⟩ K) := hE.set (p := ⟨fb, 0, none⟩) hfs K
  go_upto_region 4 with fail
  rw [← hK]
  generalize (V.setCell ⟨fb, 0, none⟩ K) = V2 at *
  have k0 := hF2.c0
  subst hK
  go_wp2_with fail
  refine (visit_leaf tb hb pb mb fl 0 em A n c 0 Ao Ar no co m cr _ _ hT2 hB2 hM2 hP2 (by omega) (by omega) hm).mono ?_
  rintro e w3 ⟨rfl, hx3⟩
  have hx := hE0.trans (hx3 U hE2 hms)
  rw [show ((n : Int) == (m : Int) + 0) = decide (n = m) by rw [Bool.eq_iff_iff]; simp; omega]
  go_wp2_with fail
  go_ret
  exact ⟨rfl, hx⟩
end Go.Proofs.YtljncdcjkdgkeaaGreatDoor.Lp

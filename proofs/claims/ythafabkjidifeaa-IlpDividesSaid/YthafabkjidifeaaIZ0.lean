/- Walk: Size of ilp, of no tree. -/
import Derived.Test.YthafabkjidifeaaIV
import Derived.Test.YthafabkjidifeaaIM
import Derived.Laws.EntriesVeiled
set_option linter.unusedVariables false
set_option linter.unusedSimpArgs false
namespace Go.Proofs.Ythafabkjidifeaa.Lp
open Go.RowKit Go.Proofs.Ythafabkjidifeaa.Big Go.Proofs.Ythafabkjidifeaa.Rt

/-- two maps in boxes, and the box of a function that is not there yet -/
theorem boxesS (w : World) (E0 E1 F : TypeId) : ∃ V, V = (((((w.alloc (.map #[] 0)).alloc (.cells #[.map (some w.heap.size)] E0)).alloc (.map #[] 0)).alloc (.cells #[.map (some (w.heap.size + 1 + 1))] E1)).alloc (.cells #[.nilFunc] F)) ∧
    PMap V w.heap.size [] ∧ Box V (w.heap.size + 1) E0 #[.map (some w.heap.size)] ∧ PMap V (w.heap.size + 1 + 1) [] ∧ Box V (w.heap.size + 1 + 1 + 1) E1 #[.map (some (w.heap.size + 1 + 1))] ∧ Box V (w.heap.size + 1 + 1 + 1 + 1) F #[.nilFunc] ∧ Ext w V := by
  have s1 : (w.alloc (.map #[] 0)).heap.size = w.heap.size + 1 := by simp
  have s2 : ((w.alloc (.map #[] 0)).alloc (.cells #[.map (some w.heap.size)] E0)).heap.size = w.heap.size + 1 + 1 := by simp
  have s3 : (((w.alloc (.map #[] 0)).alloc (.cells #[.map (some w.heap.size)] E0)).alloc (.map #[] 0)).heap.size = w.heap.size + 1 + 1 + 1 := by simp
  have s4 : ((((w.alloc (.map #[] 0)).alloc (.cells #[.map (some w.heap.size)] E0)).alloc (.map #[] 0)).alloc (.cells #[.map (some (w.heap.size + 1 + 1))] E1)).heap.size = w.heap.size + 1 + 1 + 1 + 1 := by simp
  refine ⟨_, rfl, ?_, ?_, ?_, ?_, ?_, (((((Ext.refl w).alloc _).alloc _).alloc _).alloc _).alloc _⟩
  · exact (PMap.new w).ext (((((Ext.refl _).alloc _).alloc _).alloc _).alloc _)
  · have := (Box.new (w.alloc (.map #[] 0)) E0 #[.map (some w.heap.size)]).ext ((((Ext.refl _).alloc (.map #[] 0)).alloc (.cells #[.map (some (w.heap.size + 1 + 1))] E1)).alloc (.cells #[.nilFunc] F))
    rwa [s1] at this
  · have := (PMap.new ((w.alloc (.map #[] 0)).alloc (.cells #[.map (some w.heap.size)] E0))).ext (((Ext.refl _).alloc (.cells #[.map (some (w.heap.size + 1 + 1))] E1)).alloc (.cells #[.nilFunc] F))
    rwa [s2] at this
  · have := (Box.new (((w.alloc (.map #[] 0)).alloc (.cells #[.map (some w.heap.size)] E0)).alloc (.map #[] 0)) E1 #[.map (some (w.heap.size + 1 + 1))]).alloc (.cells #[.nilFunc] F)
    rwa [s3] at this
  · have := Box.new ((((w.alloc (.map #[] 0)).alloc (.cells #[.map (some w.heap.size)] E0)).alloc (.map #[] 0)).alloc (.cells #[.map (some (w.heap.size + 1 + 1))] E1)) F #[.nilFunc]
    rwa [s4] at this
set_option maxHeartbeats 4000000 in
theorem size_nil1 (v1 v2 v3 : Value) (w : World) : Calls Try.prog 39 #[.pointer none, v1, v2, v3] w (fun e w' => e = .returned (.int .i64 0) ∧ w' = w) := by
  have hn : ∀ W, (binOp BinOp.eql 30 (.pointer none) (.pointer none)).run Try.prog W = .ok (.bool true) W := fun _ => by kernel_rfl
  go_enter Try.func39, Try.ntmps39
  go_wp2_with fail
  go_ret
  exact ⟨rfl, rfl⟩
set_option maxHeartbeats 4000000 in
set_option maxRecDepth 100000 in
theorem size_nil (w : World) : Calls Try.prog 19 #[.pointer none] w (ValPost w (.int .i64 0)) := by
  have hmm := @run_makeMap Try.prog
  have hmf : ∀ (fn : Fn) (first cap : Array Value) (w : World), (Instr.makeFunc fn first cap).run Try.prog w = .ok (.func fn first cap) w := fun _ _ _ _ => rfl
  obtain ⟨V, hV, hM0, hB0, hM1, hB1, hF, hE⟩ := boxesS w 92 93 48
  go_enter Try.func19, Try.ntmps19
  go_upto_region 4 with fail
  simp only [← hV]
  clear hV hmm
  obtain ⟨fb, hfb⟩ : ∃ x, x = w.heap.size + 1 + 1 + 1 + 1 := ⟨_, rfl⟩
  rw [← hfb] at hF ⊢
  have hfs : w.heap.size ≤ fb := by omega
  clear hfb
  have f0 := hF.c0
  have f1 := hF.frozen 0
  obtain ⟨K, hK⟩ : ∃ K : Value, K = .func (.func 39) #[] #[.pointer (some ⟨w.heap.size + 1 + 1 + 1, 0, none⟩), .pointer (some ⟨w.heap.size + 1, 0, none⟩), .pointer (some ⟨fb, 0, none⟩)] := ⟨_, rfl⟩
  have hF2 := hF.set 0 K
  have hE2 : Ext w (V.setCell ⟨fb, 0, none⟩ K) := hE.set (p := ⟨fb, 0, none⟩) hfs K
  go_upto_region 5 with fail
  rw [← hK]
  generalize (V.setCell ⟨fb, 0, none⟩ K) = V2 at *
  have k0 := hF2.c0
  subst hK
  go_wp2_with fail
  refine (size_nil1 _ _ _ _).mono ?_
  rintro e w3 ⟨rfl, rfl⟩
  go_wp2_with fail
  go_ret
  exact ⟨rfl, hE2⟩
end Go.Proofs.Ythafabkjidifeaa.Lp

/- Walks: the deferred function of Solve. -/
import Derived.Test.YthafabkjidifeaaMem2
import Derived.Test.YthafabkjidifeaaProg
import Derived.Test.YthafabkjidifeaaINC
import Derived.Defers
import Derived.Recover
import Derived.WalkLawsBesides
import Derived.Deep.QuietTactic
import Derived.BigQuiet
import Derived.Deep.Cut
set_option linter.unusedVariables false
set_option linter.unusedSimpArgs false
namespace Go.Proofs.Ythafabkjidifeaa.Lp
open Go.RowKit Go.Proofs.Ythafabkjidifeaa.Big

theorem catch_idle (p q : Addr) (w : World) : CallsD Try.prog 35 #[.pointer (some p), .pointer (some q)] .returning w fun e u' w' => e = .returned (.tuple #[]) ∧ u' = .returning ∧ w' = w := by
  have hnil : ∀ w : World, (binOp BinOp.neq 20 .nilIface .nilIface).run Try.prog w = .ok (.bool false) w := fun _ => by kernel_rfl
  refine callsD_of_wpS Try.func35 rfl fun c₀ cs hu => ?_
  apply wpS_seq
  apply wpS_region
  simp [wpOpsS, go_sem, recoverD, hu, Try.ntmps35, Exit.thenS]
  apply wpS_seq
  apply wpS_region
  simp [wpOpsS, go_sem, Exit.thenS, hnil]
  refine wpS_cond (t := false) (by simp [Act.eval, Array.replicate]) ?_
  simp only [Bool.false_eq_true, if_false]
  refine wpS_of_wp (wp_skip ?_)
  cases c₀
  simp_all [bodyPostS, results, Try.results35, Exit.thenS]
set_option maxRecDepth 100000 in
set_option maxHeartbeats 4000000 in
theorem catch_fail (rb eb : Nat) (c : Int) (older : List PanicEntry) (w : World) (x0 x1 x2 y0 : Value) (hR : Box w rb 32 #[x0, x1, x2]) (hE : Box w eb 33 #[y0]) (hne : rb ≠ eb) : CallsD Try.prog 35 #[.pointer (some ⟨rb, 0, none⟩), .pointer (some ⟨eb, 0, none⟩)] (.panicking ({ v := .iface 84 (.agg #[.int .i64 c]), recovered := false } :: older)) w fun e u' w' => e = .returned (.tuple #[]) ∧ u' = .panicking ({ v := .iface 84 (.agg #[.int .i64 c]), recovered := true } :: older) ∧
    Box w' rb 32 #[.int .i64 0, .slice none 0 0, .pointer none] ∧ Box w' eb 33 #[.int .i64 c] ∧ ∀ a, Ext a w → a.heap.size ≤ rb → a.heap.size ≤ eb → Ext a w' := by
  have hneq : ∀ w : World, (binOp BinOp.neq 20 (.iface 84 (.agg #[.int .i64 c])) .nilIface).run Try.prog w = .ok (.bool true) w := fun _ => by kernel_rfl
  have r0 := hR.c0
  have r1 := hR.c1
  have r2 : w.cell? ⟨rb, 2, none⟩ = some x2 := hR.cell 2
  have z0 := hR.frozen 0
  have z1 := hR.frozen 1
  have z2 := hR.frozen 2
  have e0 := hE.c0
  have e1 := hE.frozen 0
  refine callsD_of_wpS Try.func35 rfl fun c₀ cs hu => ?_
  apply wpS_seq
  apply wpS_region
  simp [wpOpsS, go_sem, recoverD, hu, Try.ntmps35, Exit.thenS]
  apply wpS_seq
  apply wpS_region
  simp [wpOpsS, go_sem, Exit.thenS, hneq]
  refine wpS_cond (t := true) (by simp [Act.eval, Array.replicate]) ?_
  simp only [if_true]
  refine wpS_of_wp ?_
  clear hu hneq
  show Code.wp _ _ _ { tmps := #[Value.pointer (some { block := rb, off := 0 }), Value.pointer (some { block := eb, off := 0 }), .iface 84 (.agg #[.int .i64 c]), undef, undef, .iface 84 (.agg #[.int .i64 c]), .iface 84 (.agg #[.int .i64 c]), .bool true, undef, undef, undef, undef, undef, undef, undef, undef, undef], defers := [] } _
  go_upto_region 3 with fail
  have hR1 := ((((hR.set 0 (.int .i64 0)).set 1 (.slice none 0 0)).set 2 (.pointer none)).far (p := ⟨eb, 0, none⟩) hne (.int .i64 3))
  have hE1 := ((((hE.far (p := ⟨rb, 0, none⟩) (Ne.symm hne) (.int .i64 0)).far (p := ⟨rb, 1, none⟩) (Ne.symm hne) (.slice none 0 0)).far (p := ⟨rb, 2, none⟩) (Ne.symm hne) (.pointer none)).set 0 (.int .i64 3))
  have hx1 : ∀ a, Ext a w → a.heap.size ≤ rb → a.heap.size ≤ eb → Ext a ((((w.setCell ⟨rb, 0, none⟩ (.int .i64 0)).setCell ⟨rb, 1, none⟩ (.slice none 0 0)).setCell ⟨rb, 2, none⟩ (.pointer none)).setCell ⟨eb, 0, none⟩ (.int .i64 3)) := fun a ha h1 h2 => (((ha.set (p := ⟨rb, 0, none⟩) h1 _).set (p := ⟨rb, 1, none⟩) h1 _).set (p := ⟨rb, 2, none⟩) h1 _).set (p := ⟨eb, 0, none⟩) h2 _
  generalize ((((w.setCell ⟨rb, 0, none⟩ (.int .i64 0)).setCell ⟨rb, 1, none⟩ (.slice none 0 0)).setCell ⟨rb, 2, none⟩ (.pointer none)).setCell ⟨eb, 0, none⟩ (.int .i64 3)) = w1 at *
  clear r0 r1 r2 z0 z1 z2 e0 e1 hR hE
  have hta : ∀ w : World, (Instr.typeAssert (.iface 84 (.agg #[.int .i64 c])) 20 84 true).run Try.prog w = .ok (.tuple #[.agg #[.int .i64 c], .bool true]) w := fun _ => by kernel_rfl
  go_upto_region 4 with fail
  have hF2 := Box.new w1 84 #[.int .i64 c]
  have hR2 := hR1.alloc (.cells #[.int .i64 c] 84)
  have hE2 := hE1.alloc (.cells #[.int .i64 c] 84)
  have hx2 : ∀ a, Ext a w → a.heap.size ≤ rb → a.heap.size ≤ eb → Ext a (w1.alloc (.cells #[.int .i64 c] 84)) := fun a ha h1 h2 => (hx1 a ha h1 h2).alloc _
  generalize (w1.alloc (.cells #[.int .i64 c] 84)) = w2 at *
  have q0 := hF2.c0
  have e0 := hE2.c0
  have e1 := hE2.frozen 0
  clear hta
  go_wp2_with fail
  simp [bodyPostS, results, Try.results35]
  exact ⟨hR2.far (p := ⟨eb, 0, none⟩) hne _, hE2.set 0 _, fun a ha h1 h2 => (hx2 a ha h1 h2).set (p := ⟨eb, 0, none⟩) h2 _⟩
end Go.Proofs.Ythafabkjidifeaa.Lp

/- Walk: wellFormed of no tree. -/
import Derived.Test.YtljncdcjkdgkeaaGreatDoorCW2
set_option linter.unusedVariables false
set_option linter.unusedSimpArgs false
namespace Go.Proofs.YtljncdcjkdgkeaaGreatDoor.Lp
open Go.RowKit Go.Proofs.YtljncdcjkdgkeaaGreatDoor.Big Go.Proofs.YtljncdcjkdgkeaaGreatDoor.Rt

theorem height_nil (lev : Int) (h v : Value) (w : World) : Calls Tryz.prog 67 #[.pointer none, .int .i64 lev, h, v] w (fun e w' => e = .returned (.int .i64 (-1)) ∧ Ext w w') := by
  go_enter Tryz.func67, Tryz.ntmps67
  go_wp2_with fail
  go_ret
  exact ⟨rfl, Ext.refl w⟩
set_option maxHeartbeats 4000000 in
set_option maxRecDepth 100000 in
theorem wellFormed_nil (w : World) : Calls Tryz.prog 32 #[.pointer none] w (fun e w' => e = .returned (.bool false) ∧ Ext w w') := by
  have hmm := @run_makeMap Tryz.prog
  obtain ⟨V, hV, hM, hB, hF, hE⟩ := boxesM w 131 132
  go_enter Tryz.func32, Tryz.ntmps32
  go_upto_region 3 with fail
  simp only [← hV]
  clear hV hmm
  obtain ⟨mb, hmb⟩ : ∃ x, x = w.heap.size := ⟨_, rfl⟩
  obtain ⟨hb, hhb⟩ : ∃ x, x = w.heap.size + 1 := ⟨_, rfl⟩
  obtain ⟨fb, hfb⟩ : ∃ x, x = w.heap.size + 1 + 1 := ⟨_, rfl⟩
  rw [← hfb, ← hhb]
  rw [← hfb] at hF
  rw [← hhb] at hB
  rw [← hmb] at hM hB
  have hfs : w.heap.size ≤ fb := by omega
  clear hmb hhb hfb
  have f0 := hF.c0
  have f1 := hF.frozen 0
  obtain ⟨K, hK⟩ : ∃ K : Value, K = .func (.func 67) #[] #[.pointer (some ⟨hb, 0, none⟩), .pointer (some ⟨fb, 0, none⟩)] := ⟨_, rfl⟩
  have hF2 := hF.set 0 K
  have hE2 : Ext w (V.setCell ⟨fb, 0, none⟩ K) := hE.set (p := ⟨fb, 0, none⟩) hfs K
  go_upto_region 4 with fail
  rw [← hK]
  generalize (V.setCell ⟨fb, 0, none⟩ K) = V2 at *
  have k0 := hF2.c0
  subst hK
  go_wp2_with fail
  refine (height_nil 0 _ _ _).mono ?_
  rintro e w3 ⟨rfl, hx3⟩
  go_wp2_with fail
  go_ret
  exact ⟨rfl, hE2.trans hx3⟩
end Go.Proofs.YtljncdcjkdgkeaaGreatDoor.Lp

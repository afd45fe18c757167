/- Walk: Decode of no text and of a text that is too long. -/
import Derived.Test.YtljncdcjkdgkeaaGreatDoorCEN
set_option linter.unusedVariables false
set_option linter.unusedSimpArgs false
namespace Go.Proofs.YtljncdcjkdgkeaaGreatDoor.Lp
open Go.RowKit Go.Proofs.YtljncdcjkdgkeaaGreatDoor.Big Go.Proofs.YtljncdcjkdgkeaaGreatDoor.Rt

/-- the library's variable internal/bytealg.MaxLen holds a number -/
def MxC (w : World) : Prop := ∃ m : Int, w.cell? ⟨1, 0, none⟩ = some (.int .i64 m)
theorem MxC.later {w w' : World} (h : MxC w) (k : Ext w w') : MxC w' := by
  obtain ⟨m, hm⟩ := h
  exact ⟨m, k.cell hm⟩
theorem cut_none : Lib.cut ([] : List UInt8) [10] = ([], [], false) := by decide
set_option maxRecDepth 100000 in
theorem node_none (db : Nat) (lev : Int) (w : World) (hD : Box w db 100 #[.string ⟨#[]⟩, .int .i64 0]) (hm : MxC w) :
    Calls Tryz.prog 40 #[.pointer (some ⟨db, 0, none⟩), .int .i64 lev] w (fun e w' => e = .returned (.pointer none) ∧ Box w' db 100 #[.string ⟨#[]⟩, .int .i64 4] ∧ ∀ a, Ext a w → a.heap.size ≤ db → Ext a w') := by
  obtain ⟨m, hm⟩ := hm
  have c0 := hD.c0
  have hcut := Tryz.strings_Cut ⟨#[]⟩ ⟨#[10]⟩ m w (by decide) hm
  rw [show (⟨#[]⟩ : ByteArray).data.toList = [] from rfl, show (⟨#[10]⟩ : ByteArray).data.toList = [10] from rfl, cut_none] at hcut
  go_enter Tryz.func40, Tryz.ntmps40
  go_wp2_with fail
  refine hcut.mono ?_
  rintro e w1 ⟨rfl, nd, rfl⟩
  have hD1 : Box (w.drewN nd) db 100 #[.string ⟨#[]⟩, .int .i64 0] := hD.ext ((Ext.refl w).drewN nd)
  have c1 := hD1.c1
  have z1 := hD1.frozen 1
  clear c0
  go_wp2_with fail
  go_ret
  exact ⟨rfl, hD1.set 1 (.int .i64 4), fun a ha hs => ((ha.drewN nd).set (p := ⟨db, 1, none⟩) hs _)⟩
set_option maxRecDepth 100000 in
theorem decode_none (w : World) (hm : MxC w) : Calls Tryz.prog 13 #[.string ⟨#[]⟩] w (fun e w' => e = .returned (.tuple #[.pointer none, .int .i64 4]) ∧ Ext w w') := by
  go_enter Tryz.func13, Tryz.ntmps13
  go_upto_region 6 with fail
  have DB := Box.new w 100 #[.string ⟨#[]⟩, .int .i64 0]
  have hE : Ext w (w.alloc (.cells #[.string ⟨#[]⟩, .int .i64 0] 100)) := (Ext.refl w).alloc _
  generalize (w.alloc (.cells #[.string ⟨#[]⟩, .int .i64 0] 100)) = V at *
  obtain ⟨db, hdb⟩ : ∃ x, x = w.heap.size := ⟨_, rfl⟩
  rw [← hdb] at DB ⊢
  have hdw : w.heap.size ≤ db := by omega
  clear hdb
  go_wp2_with fail
  refine (node_none db 0 _ DB (hm.later hE)).mono ?_
  rintro e w1 ⟨rfl, DB1, hx⟩
  have hE1 := hx w hE hdw
  have c1 := DB1.c1
  clear DB hx
  go_upto_region 8 with fail
  go_region
  all_goals (
    go_wp2_with fail
    refine bodyPost_ret (v := .tuple #[.pointer none, .int .i64 4]) (by simp [results, Tryz.results13, go_sem]) rfl ?_
    exact ⟨rfl, by first | exact hE1.drew | exact hE1⟩)
theorem decode_long (s : ByteArray) (w : World) (hs : 65536 < s.size) : Calls Tryz.prog 13 #[.string s] w (fun e w' => e = .returned (.tuple #[.pointer none, .int .i64 5]) ∧ Ext w w') := by
  have h1 : decide ((65536 : Int) < (s.size : Int)) = true := by simp; omega
  go_enter Tryz.func13, Tryz.ntmps13
  go_wp2_with fail
  refine bodyPost_ret (v := .tuple #[.pointer none, .int .i64 5]) (by simp [results, Tryz.results13, go_sem]) rfl ?_
  exact ⟨rfl, Ext.refl w⟩
end Go.Proofs.YtljncdcjkdgkeaaGreatDoor.Lp

/- Cells of rows written; lists of numbers made inside a region that draws. -/
import Derived.BigRegion
import Derived.Deep.MidRow
import Derived.Test.YtljncdcjkdgkeaaGreatDoorYCardU
set_option linter.unusedVariables false
set_option linter.unusedSimpArgs false
namespace Go.Proofs.YtljncdcjkdgkeaaGreatDoor.Lp
open Go.RowKit Go.Proofs.YtljncdcjkdgkeaaGreatDoor.Big Go.Proofs.YtljncdcjkdgkeaaGreatDoor.Rt
def set6 (w : World) (b o : Nat) (v0 v1 v2 v3 v4 v5 : Value) : World :=
 (((((w.setCell ⟨b, o, none⟩ v0).setCell ⟨b, o + 1, none⟩ v1).setCell ⟨b, o + 2, none⟩ v2).setCell ⟨b, o + 3, none⟩ v3).setCell ⟨b, o + 4, none⟩ v4).setCell ⟨b, o + 5, none⟩ v5
section
variable {w w' : World} {b o : Nat} {v0 v1 v2 v3 v4 v5 : Value}
theorem set6_fr (h0 : ∀ z, w.cell? ⟨b, o, none⟩ ≠ some (.int .u32 z)) (h1 : ∀ z, w.cell? ⟨b, o + 1, none⟩ ≠ some (.int .u32 z)) (h2 : ∀ z, w.cell? ⟨b, o + 2, none⟩ ≠ some (.int .u32 z))
 (h3 : ∀ z, w.cell? ⟨b, o + 3, none⟩ ≠ some (.int .u32 z)) (h4 : ∀ z, w.cell? ⟨b, o + 4, none⟩ ≠ some (.int .u32 z)) (h5 : ∀ z, w.cell? ⟨b, o + 5, none⟩ ≠ some (.int .u32 z)) : Fr (fun k => k = b) w (set6 w b o v0 v1 v2 v3 v4 v5) := by
 have key : ∀ (W : World) (i i' : Nat) (u : Value), i ≠ i' → (W.setCell ⟨b, i, none⟩ u).cell? ⟨b, i', none⟩ = W.cell? ⟨b, i', none⟩ := fun W i i' u hne => World.cell?_setCell_other _ _ _ _ (fun e => hne (by injection e))
 unfold set6
 refine Fr.set (Fr.set (Fr.set (Fr.set (Fr.set (Fr.set (Fr.refl (fun k => k = b) w) (p := ⟨b, o, none⟩) rfl h0 _) (p := ⟨b, o + 1, none⟩) rfl ?_ _) (p := ⟨b, o + 2, none⟩) rfl ?_ _) (p := ⟨b, o + 3, none⟩) rfl ?_ _) (p := ⟨b, o + 4, none⟩) rfl ?_ _) (p := ⟨b, o + 5, none⟩) rfl ?_ _
 ·intro z; rw [key _ _ _ _ (by omega)]; exact h1 z
 ·intro z; rw [key _ _ _ _ (by omega), key _ _ _ _ (by omega)]; exact h2 z
 ·intro z; rw [key _ _ _ _ (by omega), key _ _ _ _ (by omega), key _ _ _ _ (by omega)]; exact h3 z
 ·intro z; rw [key _ _ _ _ (by omega), key _ _ _ _ (by omega), key _ _ _ _ (by omega), key _ _ _ _ (by omega)]; exact h4 z
 ·intro z; rw [key _ _ _ _ (by omega), key _ _ _ _ (by omega), key _ _ _ _ (by omega), key _ _ _ _ (by omega), key _ _ _ _ (by omega)]; exact h5 z
end
theorem box_ne {w : World} {b : Nat} {E : TypeId} {cs : Array Value} (B : Box w b E cs) (hE : E ≠ 58) : ∀ b' n' f, RowR w b' n' f → ¬ b' = b := fun b' n' f hb e => by
 obtain ⟨cs', hcs⟩ := hb.cells
 exact qb8 B hcs hE e.symm
def qdu (n : Nat) : Array Value := madeCells (Value.agg #[.bool false, .slice none 0 0, .bool false, .slice none 0 0]).cells (n * 4)
theorem qee (n : Nat) (hn : n ≤ 1099511627776) (w : World) : (Instr.makeSlice 38 (.int .i64 (n : Int)) (.int .i64 (n : Int))).run Tryz.prog w = .ok (.slice (some ⟨w.heap.size, 0, none⟩) n n) (w.alloc (.cells (qdu n) 58)) := by
 obtain ⟨i0, hi, hz0, hz1, hz2⟩ := info_parts qde
 have h := run_make (P := Tryz.prog) w 38 58 i0 _ Tryz.underlying38 hi hz0 .i64 .i64 n n (by omega) (Int.le_refl _) (by rw [hz2]; omega) (by omega)
 simp only [Int.toNat_natCast] at h
 rw [hz1] at h
 exact h
theorem qdj {w : World} {b n : Nat} (h : w.heap[b]? = some (.cells (qdu n) 58 (0, 0))) : RowR w b n (fun _ => 0) := by
 refine ⟨_, h, ?_, fun j hj => ?_⟩
 ·unfold qdu; rw [size_madeCells]; exact Nat.le_refl _
 have key : ∀ i, i < 4 → (qdu n)[j * 4 + i]? = (#[Value.bool false, .slice none 0 0, .bool false, .slice none 0 0] : Array Value)[i]? := by
  intro i hi
  have h1 : (j * 4 + i) % 4 = i := by omega
  have h2 : j * 4 + i < n * 4 := by omega
  simp [qdu, madeCells, Value.cells, h2, h1]
  rcases (show i = 0 ∨ i = 1 ∨ i = 2 ∨ i = 3 by omega) with rfl | rfl | rfl | rfl <;> rfl
 exact ⟨_, _, _, _, _, _, _, _, key 0 (by omega), key 1 (by omega), key 2 (by omega), key 3 (by omega), RatV.zero w⟩
theorem q9s {w w' : World} {E0 E1 : TypeId} {c0 c1 : Array Value} (h : Ext ((w.alloc (.cells c0 E0)).alloc (.cells c1 E1)).drew w') : Box w' w.heap.size E0 c0 := ((Box.new w E0 c0).alloc _).drew.ext h
theorem qju {w w' : World} {E0 E1 : TypeId} {c0 c1 : Array Value} (h : Ext ((w.alloc (.cells c0 E0)).alloc (.cells c1 E1)).drew w') : Box w' (w.heap.size + 1) E1 c1 := by
 have := (Box.new (w.alloc (.cells c0 E0)) E1 c1).drew.ext h
 simpa using this
theorem qqh {w : World} {ops : Array Oper} {o : Oper} {a : Act} {K : Act → World → Prop} {Q : Exit → Act → World → Prop} {Z : Prop}
 (hg : o.guard = none) (x y : Operand) (ho : o.op = .store 75 x y) (b off : Nat) (v0 v1 v2 v3 v4 v5 : Value) (hx : a.eval x = .pointer (some ⟨b, off, none⟩)) (hy : a.eval y = .agg #[v0, v1, v2, v3, v4, v5])
 (ht : w.there b off 6) (h1 : (#[v0, v1, v2, v3, v4, v5] : Array Value).all (·.oneCell') = true) (h : K (a.put o.dst undef) (set6 w b off v0 v1 v2 v3 v4 v5)) :
 if Region.wanted o (yielded ops a.tmps) = true then Oper.wp Tryz.prog o a w K Q else Z := by
 have hw : Region.wanted o (yielded ops a.tmps) = true := by simp [Region.wanted, hg]
 rw [if_pos hw]
 exact wp_store_mid 75 x y ho b off #[v0, v1, v2, v3, v4, v5] hx hy ht (by kernel_rfl) h1 h
theorem there6 {w : World} {b : Nat} {E : TypeId} {a0 a1 a2 a3 a4 a5 : Value} (h : Box w b E #[a0, a1, a2, a3, a4, a5]) : w.there b 0 6 := by
 intro j hj
 rw [Nat.zero_add, h.cell j]
 exact ⟨by rcases (show j = 0 ∨ j = 1 ∨ j = 2 ∨ j = 3 ∨ j = 4 ∨ j = 5 by omega) with rfl | rfl | rfl | rfl | rfl | rfl <;> rfl, h.frozen j⟩
theorem Box.new2 (w : World) (o : Obj) (E : TypeId) (cs : Array Value) : Box ((w.alloc o).alloc (.cells cs E)) (w.heap.size + 1) E cs := by
 have := Box.new (w.alloc o) E cs
 simpa using this
theorem later6 {w0 w : World} {b : Nat} (h : Ext w0 w) (hb : w0.heap.size ≤ b) (v0 v1 v2 v3 v4 v5 : Value) : Ext w0 (set6 w b 0 v0 v1 v2 v3 v4 v5) :=
 (((((h.set (p := ⟨b, 0, none⟩) hb v0).set (p := ⟨b, 0 + 1, none⟩) hb v1).set (p := ⟨b, 0 + 2, none⟩) hb v2).set (p := ⟨b, 0 + 3, none⟩) hb v3).set (p := ⟨b, 0 + 4, none⟩) hb v4).set (p := ⟨b, 0 + 5, none⟩) hb v5
theorem qhu {w0 w : World} {b : Nat} (h : Later w0 w) (hb : w0.heap.size ≤ b) (v0 v1 v2 v3 v4 v5 : Value) : Later w0 (set6 w b 0 v0 v1 v2 v3 v4 v5) := later6 h hb v0 v1 v2 v3 v4 v5
theorem qyz {wc W : World} {rb bc n : Nat} {p p' : Bool} {A A' : Option Addr} {m c m' c' : Nat} {q : Rat} {kq : Nat} {v0 v1 : Value} (hB : Box W rb 75 #[.slice none 0 0, .int .u8 0, .bool false, .slice none 0 0, .bool false, .slice none 0 0]) (hZ : Box W bc 58 (qdu n))
 (hv : RatB W (.agg #[.bool p, .slice A m c, .bool p', .slice A' m' c']) q kq) (hS : Ext wc W) (h1 : wc.heap.size ≤ rb) (h2 : wc.heap.size ≤ bc) :
 Box (set6 W rb 0 v0 v1 (.bool p) (.slice A m c) (.bool p') (.slice A' m' c')) rb 75 #[v0, v1, .bool p, .slice A m c, .bool p', .slice A' m' c'] ∧ RowR (set6 W rb 0 v0 v1 (.bool p) (.slice A m c) (.bool p') (.slice A' m' c')) bc n (fun _ => 0) ∧
  RatB (set6 W rb 0 v0 v1 (.bool p) (.slice A m c) (.bool p') (.slice A' m' c')) (.agg #[.bool p, .slice A m c, .bool p', .slice A' m' c']) q kq ∧ (wc.heap.size ≤ bc ∧ wc.heap.size ≤ rb) ∧ Ext wc (set6 W rb 0 v0 v1 (.bool p) (.slice A m c) (.bool p') (.slice A' m' c')) := by
 have hF : Fr (fun k => k = rb) W (set6 W rb 0 v0 v1 (.bool p) (.slice A m c) (.bool p') (.slice A' m' c')) := by
  refine set6_fr ?_ ?_ ?_ ?_ ?_ ?_ <;> intro z <;> rw [hB.cell] <;> intro e <;> cases e
 have hne : ¬ bc = rb := qb8 hZ hB (by decide)
 exact ⟨(((((hB.set 0 _).set 1 _).set 2 _).set 3 _).set 4 _).set 5 _, (qdj hZ).fr hF hne, hF.ratB hv, ⟨h2, h1⟩, later6 hS h1 _ _ _ _ _ _⟩
end Go.Proofs.YtljncdcjkdgkeaaGreatDoor.Lp

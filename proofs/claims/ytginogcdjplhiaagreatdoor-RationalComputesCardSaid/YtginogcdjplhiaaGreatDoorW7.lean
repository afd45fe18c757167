/- Walks: the methods of an integer. -/
import Derived.Test.YtginogcdjplhiaaGreatDoorW2
import Derived.Test.YtginogcdjplhiaaGreatDoorW4
import Derived.Test.YtginogcdjplhiaaGreatDoorW6
import Derived.Test.YtginogcdjplhiaaGreatDoorShelf
import Derived.Test.YtginogcdjplhiaaGreatDoorMem2
set_option linter.unusedVariables false
set_option linter.unusedSimpArgs false
namespace Go.Proofs.YtginogcdjplhiaaGreatDoor.Big
open Go.RowKit

theorem noInt_two (a b : Value) (ha : notInt a = true) (hb : notInt b = true) : ∀ (i : Nat) (k : IntKind) (z : Int), (#[a, b] : Array Value)[i]? ≠ some (.int k z) := by
  intro i k z h
  match i, h with
  | 0, h => simp at h; subst h; cases ha
  | 1, h => simp at h; subst h; cases hb
  | i + 2, h => simp at h
theorem Dig.swap {w : World} {cs cs' : Array Value} {E E' : TypeId} {v : Value} {n V : Nat} (h : Dig (w.alloc (.cells cs E)) v n V) (hcs : ∀ (i : Nat) (k : IntKind) (z : Int), cs[i]? ≠ some (.int k z)) : Dig (w.alloc (.cells cs' E')) v n V := by
  obtain ⟨A, c, rfl, h1, h2, h3, h4⟩ := h
  refine ⟨A, c, rfl, h1, h2, h3, fun hn => ?_⟩
  obtain ⟨b, off, rfl, hc⟩ := h4 hn
  refine ⟨b, off, rfl, fun j hj => ?_⟩
  have hcj := hc j hj
  have hlt : b < (w.alloc (.cells cs E)).heap.size := World.block_lt_of_cell? _ _ hcj
  have hsz : (w.alloc (.cells cs E)).heap.size = w.heap.size + 1 := by simp
  rcases Nat.lt_or_ge b w.heap.size with hb | hb
  · rw [World.cell?_alloc_lt _ _ _ hb] at hcj ⊢; exact hcj
  · exfalso
    obtain rfl : b = w.heap.size := by omega
    rw [cell_of_row _ _ _ _ _ _ (heap_alloc_new w _)] at hcj
    exact hcs _ _ _ hcj

set_option maxHeartbeats 1000000 in
theorem signed_any (neg : Bool) (x : Value) (n V : Nat) (w : World) (hx : Dig w x n V) :
    Calls Tryz.prog 59 #[.bool neg, x] w (BigPost w (sgn neg V)) := by
  have hx' := hx
  obtain ⟨A1, c1, rfl, h1, h2, hX, _⟩ := hx'
  go_enter Tryz.func59, Tryz.ntmps59
  go_wp2_with fail
  refine (trim_any _ _ _ _ _ (hx.ext ((Ext.refl w).alloc _))).mono ?_
  rintro e w' ⟨v, n', rfl, hd, ht, rfl⟩
  have hd' := hd
  obtain ⟨A2, c2, rfl, h3, h4, hV, hcells⟩ := hd'
  have hpos := ht.pos_iff hV
  have HPOS := Lib.hid hpos
  clear hpos
  cases neg
  · go_wp2_with fail
    refine bodyPost_ret (v := .agg #[.bool false, .slice A2 n' c2]) (by simp [results, Tryz.results59, go_sem]) rfl ?_
    exact ⟨_, rfl, ⟨.slice A2 n' c2, n', by rw [sgn_neg]; rfl, by rw [sgn_natAbs]; exact hd.swap (noInt_two _ _ rfl rfl), by rw [sgn_natAbs]; exact ht⟩, (Ext.refl w).alloc _⟩
  · go_wp2_with fail
    refine bodyPost_ret (v := .agg #[.bool (decide (0 < n')), .slice A2 n' c2]) (by simp [results, Tryz.results59, go_sem]) rfl ?_
    exact ⟨_, rfl, ⟨.slice A2 n' c2, n', by rw [sgn_neg]; simp [HPOS.out], by rw [sgn_natAbs]; exact hd.swap (noInt_two _ _ rfl rfl), by rw [sgn_natAbs]; exact ht⟩, (Ext.refl w).alloc _⟩

end Go.Proofs.YtginogcdjplhiaaGreatDoor.Big

/- Walks: plain$1 (wide) and little$1 (in) of the law package. -/
import Derived.Test.YtgffcblldebelaaDoorLZE
set_option linter.unusedVariables false
set_option linter.unusedSimpArgs false
namespace Go.Proofs.YtgffcblldebelaaDoor.Lp
open Go.RowKit Go.Proofs.YtgffcblldebelaaDoor.Big Go.Proofs.YtgffcblldebelaaDoor.Rt

def WidePost (w : World) (l : List Int) (e : Ending) (w' : World) : Prop := ∃ A c, e = .returned (.slice A l.length c) ∧ RowJ w' (.slice A l.length c) l ∧ Ext w w'
set_option maxHeartbeats 1000000 in
set_option maxRecDepth 100000 in
theorem wide_b (A : Option Addr) (n c : Nat) (l : List Int) (w : World) (h : Row w (.slice A n c) (wV l)) (hb : l.length ≤ 1048576) (hl : ∀ x ∈ l, in32 x) :
    Calls Tryd.prog 58 #[.slice A n c] w (WidePost w l) := by
  obtain ⟨hn, hc, -, hrow⟩ := h.inj
  rw [wV_len] at hn hc hrow
  subst hn
  have HL := Lib.hid hl
  have HROW := Lib.hid hrow
  clear hl hrow h
  obtain ⟨N, hN⟩ : ∃ N, N = l.length := ⟨_, rfl⟩
  rw [← hN] at hc hb HROW ⊢
  have HN := Lib.hid hN
  clear hN
  obtain ⟨i0, ii, iz0, iz1, iz2⟩ := info_parts infoI64
  go_enter Tryd.func58, Tryd.ntmps58
  go_wp2_with fail
  go_loopw [3, 8] (fun v i wr => ∃ k : Nat, k ≤ N ∧ i = .int .i64 k ∧ OwnX wr w.heap.size 2 1 v k (jV (l.take k)) ∧ Ext w wr) (fun _ i _ => N - (intOf i).toNat)
  case atStart => exact ⟨0, by omega, rfl, OwnX.nil _ _ _ _, Ext.refl w⟩
  case round =>
    obtain ⟨k, hk, rfl, hO, hx⟩ := hrel
    by_cases hlt : k < N
    · obtain ⟨b, off, rfl, hcell⟩ := HROW.out (by omega)
      obtain ⟨x, hxk⟩ : ∃ x, l[k]? = some x := ⟨_, List.getElem?_eq_getElem (by have := HN.out; omega)⟩
      have e0 := hx.cell (hcell k _ (wV_get hxk))
      have hx32 : in32 x := HL.out x (List.mem_of_getElem? hxk)
      have HXK := Lib.hid hxk
      obtain ⟨hx1, hx2⟩ := hx32
      clear hcell hxk
      obtain ⟨A1, c1, rfl⟩ := hO.shape
      have hO1 := hO.ext ((Ext.refl wr).alloc (.cells #[.int .i64 x] 2))
      have hX1 := hx.alloc (.cells #[.int .i64 x] 2)
      have hN1 := new1J wr 2 (.int .i64 x)
      have hsz := hX1.size
      go_upto_region 6 with (at_builtin; refine wpList_pushX rfl (.tmp 12) (.tmp 15) 56 rfl w.heap.size 2 i0 (.int .i64 0) 1 8 Tryd.underlying56 ii iz0 iz1 iz2 rfl zI64 _ k (jV (l.take k)) rfl hO1 wr.heap.size [.int .i64 x] 1 rfl rfl hN1 one1i nou1i (by omega) (by decide) hsz ?_; intro v2 w2 o2 r2 s2)
      have hX2 := r2.ext hX1 (fun g hg => (hO1.lt hg).1)
      obtain ⟨A2, c2, rfl⟩ := o2.shape
      clear hO1 hX1 hN1 hsz r2 s2 e0
      go_wp2_with fail
      go_roundw
      case rel => exact ⟨k + 1, by omega, by go_num, by rw [take_succ' _ HXK.out, ← jV_push]; exact o2, hX2⟩
      case measure => simp [intOf]; omega
    · obtain rfl : k = N := by omega
      obtain ⟨A1, c1, rfl⟩ := hO.shape
      go_wp2_with fail
      go_ret
      refine ⟨A1, c1, by rw [HN.out]; rfl, ?_, hx⟩
      rw [List.take_of_length_le (by rw [HN.out]; exact Nat.le_refl _)] at hO
      rw [← HN.out]
      exact hO.rowE
def InPost (w : World) (x : Int) (e : Ending) (w' : World) : Prop := e = .returned (.bool (decide (-60 ≤ x) && decide (x ≤ 60))) ∧ w' = w
set_option maxHeartbeats 1000000 in
set_option maxRecDepth 100000 in
theorem in_b (x : Int) (w : World) (h1 : in32 x) : Calls Tryd.prog 56 #[.int .i32 x] w (InPost w x) := by
  go_enter Tryd.func56, Tryd.ntmps56
  by_cases ha : -60 ≤ x
  · by_cases hb : x ≤ 60
    · go_wp2_with fail
      go_ret
      exact ⟨by simp [ha, hb], rfl⟩
    · go_wp2_with fail
      go_ret
      exact ⟨by simp [ha, hb], rfl⟩
  · go_wp2_with fail
    go_ret
    exact ⟨by rw [decide_eq_false (by omega)]; rfl, rfl⟩
end Go.Proofs.YtgffcblldebelaaDoor.Lp

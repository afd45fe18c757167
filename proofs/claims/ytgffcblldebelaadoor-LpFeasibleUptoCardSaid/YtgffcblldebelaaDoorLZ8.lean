/- Walk: next of the reference of LpSmall. -/
import Derived.Test.YtgffcblldebelaaDoorLZ7
set_option linter.unusedVariables false
set_option linter.unusedSimpArgs false
namespace Go.Proofs.YtgffcblldebelaaDoor.Lp
open Go.RowKit Go.Proofs.YtgffcblldebelaaDoor.Big Go.Proofs.YtgffcblldebelaaDoor.Rt

/-- a list of indices in a block -/
def PickV (w : World) (pb n : Nat) (f : Nat → Nat) : Prop := ∃ cs : Array Value, w.heap[pb]? = some (.cells cs 3 (0, 0)) ∧ n ≤ cs.size ∧ ∀ j, j < n → cs[j]? = some (.int .i64 ((f j : Nat) : Int))
section
variable {w w' : World} {pb n : Nat} {f g : Nat → Nat}
theorem PickV.cell (h : PickV w pb n f) {j : Nat} (hj : j < n) : w.cell? ⟨pb, j, none⟩ = some (.int .i64 ((f j : Nat) : Int)) := by
  obtain ⟨cs, h1, h2, h3⟩ := h
  rw [cell_of_row w pb j cs _ (0, 0) h1]; exact h3 j hj
theorem PickV.frozen (h : PickV w pb n f) (j : Nat) : w.frozen? ⟨pb, j, none⟩ = false := by
  obtain ⟨cs, h1, _⟩ := h; simp [World.frozen?, h1]
theorem PickV.congr (h : PickV w pb n f) (e : ∀ j, j < n → f j = g j) : PickV w pb n g := by
  obtain ⟨cs, h1, h2, h3⟩ := h
  exact ⟨cs, h1, h2, fun j hj => by rw [← e j hj]; exact h3 j hj⟩
theorem PickV.fr {P : Nat → Prop} (h : PickV w pb n f) (k : Fr P w w') (hp : ¬ P pb) : PickV w' pb n f := by
  obtain ⟨cs, h1, h2, h3⟩ := h
  exact ⟨cs, k.row hp h1, h2, h3⟩
theorem PickV.ext (h : PickV w pb n f) (k : Ext w w') : PickV w' pb n f := h.fr (P := fun _ => False) (Fr.of k) id
theorem PickV.lt (h : PickV w pb n f) : pb < w.heap.size := by
  obtain ⟨cs, h1, _⟩ := h
  exact Box.lt (E := 3) (cs := cs) h1
theorem PickV.set (h : PickV w pb n f) {j : Nat} (hj : j < n) (x : Nat) : PickV (w.setCell ⟨pb, j, none⟩ (.int .i64 (x : Int))) pb n (fun i => if i = j then x else f i) ∧ Fr (fun k => k = pb) w (w.setCell ⟨pb, j, none⟩ (.int .i64 (x : Int))) := by
  have hF : Fr (fun k => k = pb) w (w.setCell ⟨pb, j, none⟩ (.int .i64 (x : Int))) := (Fr.refl (fun k => k = pb) w).set (p := ⟨pb, j, none⟩) rfl (fun z => by rw [h.cell hj]; intro e; cases e) _
  refine ⟨?_, hF⟩
  obtain ⟨cs, h1, h2, h3⟩ := h
  refine ⟨cs.setIfInBounds j (.int .i64 (x : Int)), by simp [World.setCell, Array.getElem?_modify, h1], by simpa using h2, fun i hi => ?_⟩
  show _ = some (Value.int .i64 (((if i = j then x else f i : Nat)) : Int))
  by_cases e : i = j
  · subst e
    rw [if_pos rfl, Array.getElem?_setIfInBounds_self_of_lt (by omega)]
  · rw [if_neg e, Array.getElem?_setIfInBounds_ne (by omega)]; exact h3 i hi
end
theorem nextAt_step (pick : List Nat) (limit i : Nat) : nextAt pick limit (i + 1) = if pick.getD i 0 + pick.length < limit + i then some (pick.take i ++ (List.range (pick.length - i)).map (fun k => pick.getD i 0 + 1 + k)) else nextAt pick limit i := rfl
theorem next_get {pick : List Nat} {i : Nat} (hi : i < pick.length) (j : Nat) (hj : j < pick.length) : (pick.take i ++ (List.range (pick.length - i)).map (fun k => pick.getD i 0 + 1 + k)).getD j 0 = if j < i then pick.getD j 0 else pick.getD i 0 + 1 + (j - i) := by
  have hl : (pick.take i).length = i := by rw [List.length_take]; omega
  rw [List.getD_eq_getElem?_getD]
  by_cases h : j < i
  · rw [if_pos h, List.getElem?_append_left (by omega), List.getElem?_take, if_pos h]; rfl
  · rw [if_neg h, List.getElem?_append_right (by omega), hl, List.getElem?_map, List.getElem?_range (by omega)]; rfl
/-- what next leaves -/
def NextPost (w : World) (pb : Nat) (pick : List Nat) (limit : Nat) (e : Ending) (w' : World) : Prop :=
  (e = .returned (.bool false) ∧ nextP pick limit = none ∧ Ext w w') ∨ ∃ q, e = .returned (.bool true) ∧ nextP pick limit = some q ∧ q.length = pick.length ∧ PickV w' pb pick.length (fun j => q.getD j 0) ∧ Fr (fun k => k = pb) w w'
set_option maxHeartbeats 4000000 in
set_option maxRecDepth 100000 in
theorem rnext_b (pb c limit : Nat) (pick : List Nat) (w : World) (h : PickV w pb pick.length (fun j => pick.getD j 0)) (hc : pick.length ≤ c) (hc2 : c ≤ 9223372036854775807) (hn : pick.length ≤ 8) (hl : limit ≤ 100) (hb : ∀ j, j < pick.length → pick.getD j 0 ≤ 100) :
    Calls Tryd.prog 81 #[.slice (some ⟨pb, 0, none⟩) pick.length c, .int .i64 (limit : Int)] w (NextPost w pb pick limit) := by
  obtain ⟨n, hnn⟩ : ∃ n, n = pick.length := ⟨_, rfl⟩
  rw [← hnn] at h hc hn hb ⊢
  have HN := Lib.hid hnn
  have HB := Lib.hid hb
  clear hnn hb
  go_enter Tryd.func81, Tryd.ntmps81
  go_wp2_with fail
  go_loopw [6] (fun i wr => ∃ t : Nat, t ≤ n ∧ i = .int .i64 ((t : Int) - 1) ∧ Hid (nextP pick limit = nextAt pick limit t) ∧ Ext w wr) (fun i _ => (intOf i + 1).toNat)
  case atStart => exact ⟨n, by omega, rfl, Lib.hid (by unfold nextP; rw [HN.out]), Ext.refl w⟩
  case round =>
    obtain ⟨t, ht, rfl, HT, hx⟩ := hrel
    rcases Nat.eq_zero_or_pos t with rfl | hpos
    · go_wp2_with fail
      go_ret
      exact .inl ⟨rfl, HT.out, hx⟩
    · obtain ⟨i, rfl⟩ : ∃ i, t = i + 1 := ⟨t - 1, by omega⟩
      have e0 : (((i + 1 : Nat) : Int) - 1) = (i : Int) := by omega
      rw [e0]
      have hP := h.ext hx
      have c0 := hP.cell (j := i) (by omega)
      have hbi := HB.out i (by omega)
      obtain ⟨x, hxx⟩ : ∃ x, x = pick.getD i 0 := ⟨_, rfl⟩
      have HX := Lib.hid hxx
      rw [← hxx] at c0 hbi
      clear hxx
      have i1 : (0 : Int) ≤ (i : Int) := by omega
      have i2 : (i : Int) < (n : Int) := by omega
      by_cases hlt : x + n < limit + i
      · have hcd : (x : Int) < (limit : Int) - (n : Int) + (i : Int) := by omega
        have z0 := hP.frozen i
        have HQ : Hid (nextP pick limit = some (pick.take i ++ (List.range (pick.length - i)).map (fun k => pick.getD i 0 + 1 + k))) := Lib.hid (by rw [HT.out, nextAt_step, if_pos (by rw [← HX.out, ← HN.out]; exact hlt)])
        obtain ⟨s1, s2⟩ := hP.set (j := i) (by omega) (x + 1)
        have hS1 := Lib.hid s1
        have hS2 := Lib.hid s2
        clear s1 s2
        go_upto_region 7 with fail
        have ex : ((x + 1 : Nat) : Int) = (x : Int) + 1 := by omega
        rw [ex] at hS1 hS2
        have hP1 := hS1.out
        have hF1 := (Fr.of hx).trans hS2.out
        generalize (wr.setCell ⟨pb, i, none⟩ (.int .i64 ((x : Int) + 1))) = W1 at *
        clear hS1 hS2 c0 z0 ex
        go_wp2_with fail
        go_loopw [7] (fun kv wr => ∃ l : Nat, i ≤ l ∧ l < n ∧ kv = .int .i64 ((l : Int) + 1) ∧ PickV wr pb n (fun j => if j < l + 1 then (if j < i then pick.getD j 0 else x + 1 + (j - i)) else pick.getD j 0) ∧ Fr (fun k => k = pb) w wr) (fun kv _ => n - (intOf kv).toNat)
        case atStart =>
          refine ⟨i, by omega, by omega, rfl, hP1.congr (fun j hj => ?_), hF1⟩
          by_cases e : j = i
          · subst e; rw [if_pos rfl, if_pos (by omega), if_neg (by omega)]; omega
          · rw [if_neg e]
            by_cases h2 : j < i + 1
            · rw [if_pos h2, if_pos (by omega)]
            · rw [if_neg h2]
        case round =>
          obtain ⟨l, hl1, hl2, rfl, hPr, hFr⟩ := hrel
          by_cases hl3 : l + 1 < n
          · have d0 := hPr.cell (j := l) (by omega)
            replace d0 : wr.cell? ⟨pb, l, none⟩ = some (.int .i64 ((x + 1 + (l - i) : Nat) : Int)) := by
              rw [d0, if_pos (by omega), if_neg (by omega)]
            obtain ⟨y, hy⟩ : ∃ y, y = x + 1 + (l - i) := ⟨_, rfl⟩
            rw [← hy] at d0
            have HY := Lib.hid hy
            have hyb : y ≤ 200 := by omega
            have z1 := hPr.frozen (l + 1)
            have d1 := hPr.cell (j := l + 1) hl3
            obtain ⟨s1, s2⟩ := hPr.set (j := l + 1) hl3 (y + 1)
            have ey : ((y + 1 : Nat) : Int) = (y : Int) + 1 := by omega
            rw [ey] at s1 s2
            have hS1 := Lib.hid s1
            have hS2 := Lib.hid s2
            have k1 : (0 : Int) ≤ (l : Int) + 1 := by omega
            have k2 : (l : Int) + 1 < (n : Int) := by omega
            have k3 : (0 : Int) ≤ (l : Int) := by omega
            have k4 : (l : Int) < (n : Int) := by omega
            clear s1 s2 hy ey
            go_wp2_with fail
            go_roundw
            case rel =>
              refine ⟨l + 1, by omega, by omega, by go_num, hS1.out.congr (fun j hj => ?_), hFr.trans hS2.out⟩
              by_cases e : j = l + 1
              · subst e; rw [if_pos rfl, if_pos (by omega), if_neg (by omega), HY.out]; omega
              · rw [if_neg e]
                by_cases h2 : j < l + 1
                · rw [if_pos h2, if_pos (show j < l + 1 + 1 by omega)]
                · rw [if_neg h2, if_neg (show ¬ j < l + 1 + 1 by omega)]
            case measure => simp [intOf]; omega
          · obtain rfl : n = l + 1 := by omega
            go_wp2_with fail
            go_ret
            refine .inr ⟨_, rfl, HQ.out, ?_, ?_, hFr⟩
            · rw [List.length_append, List.length_take, List.length_map, List.length_range]; omega
            · have hg := fun j hj => next_get (pick := pick) (i := i) (by rw [← HN.out]; omega) j hj
              rw [← HN.out] at hg ⊢
              refine hPr.congr (fun j hj => ?_)
              rw [if_pos hj, hg j hj, HX.out]
      · have hcd : ¬ (x : Int) < (limit : Int) - (n : Int) + (i : Int) := by omega
        go_wp2_with fail
        go_roundw
        case rel =>
          refine ⟨i, by omega, ?_, Lib.hid ?_, hx⟩
          · first | rfl | go_num
          · have h1 := HX.out
            have h2 := HN.out
            have hneg : ¬ (pick.getD i 0 + pick.length < limit + i) := by omega
            rw [HT.out, nextAt_step, if_neg hneg]
        case measure => simp [intOf]
end Go.Proofs.YtgffcblldebelaaDoor.Lp

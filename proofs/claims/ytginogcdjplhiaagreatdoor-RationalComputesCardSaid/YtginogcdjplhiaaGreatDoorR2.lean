/- The reference's numbers: number, add, sub walked. -/
import Derived.Test.YtginogcdjplhiaaGreatDoorR1
import Derived.Test.YtginogcdjplhiaaGreatDoorW17
set_option linter.unusedVariables false
set_option linter.unusedSimpArgs false
namespace Go.Proofs.YtginogcdjplhiaaGreatDoor.Ten
open Go.RowKit Go.Proofs.YtginogcdjplhiaaGreatDoor.Big

theorem infoInt : (Tryz.prog.info? 3).map (fun i => (i.zero, i.size, i.bytes)) = some (some (.int .i64 0), 1, 8) := by kernel_rfl
def ints (l : List Nat) : List Value := l.map fun (x : Nat) => Value.int .i64 (x : Int)
/-- the first k digits of V -/
def dgs (V k : Nat) : List Nat := (List.range k).map (dg V)
theorem dgs_len (V k : Nat) : (dgs V k).length = k := by simp [dgs]
theorem dgs_succ (V k : Nat) : dgs V (k + 1) = dgs V k ++ [dg V k] := by simp [dgs, List.range_succ]
theorem Ten.of_row {w : World} {base : Nat} {v : Value} {n V : Nat} (h : w.ownsRow base 3 1 v n (ints (dgs V n))) (hV : V < pt n) : Ten w v n V := by
  have hc := fun (g : Nat) (hg : v.ownBlock = some g) => h.cells hg
  rcases h.2 with ⟨rfl, rfl⟩ | ⟨g, cap, cur, rfl, hb, hg, h1, h2, h3, h4⟩
  · exact ⟨none, 0, rfl, Nat.le_refl _, by omega, hV, fun h => absurd h (by omega)⟩
  · refine ⟨_, cap, rfl, h1, by unfold maxLen at h2; omega, hV, fun hn => ⟨g, 0, cur, _, rfl, hg, fun j hj => ?_⟩⟩
    have := hc g rfl j (.int .i64 (dg V j : Int)) (by unfold ints dgs; rw [List.getElem?_map, List.getElem?_map, List.getElem?_range hj]; rfl)
    rwa [Lib.add_plain] at this

def TenPost (w : World) (V : Nat) (e : Ending) (w' : World) : Prop := ∃ v n, e = .returned v ∧ Ten w' v n V ∧ Ext w w'

theorem sumc_zero_lt {X Y k : Nat} (h : sumc X Y k = 0) (hX : X < pt k) (hY : Y < pt k) : X + Y < pt k := by
  unfold sumc at h
  rw [mod_self hX, mod_self hY] at h
  exact (Nat.div_eq_zero_iff_lt (pt_pos k)).1 h
theorem sumc_end {X Y n m k : Nat} (hX : X < pt n) (hY : Y < pt m) (h : max n m < k) : sumc X Y k = 0 := by
  have h1 := pt_mono (show n ≤ k - 1 by omega)
  have h2 := pt_mono (show m ≤ k - 1 by omega)
  have h3 : pt k = pt (k - 1) * 10 := by rw [← pt_succ]; congr 1; omega
  unfold sumc
  rw [mod_self (by omega), mod_self (by omega)]
  exact Nat.div_eq_of_lt (by omega)
set_option maxRecDepth 100000 in
set_option maxHeartbeats 2000000 in
theorem add_any (A1 A2 : Option Addr) (n m c1 c2 X Y : Nat) (w : World) (hx : Ten w (.slice A1 n c1) n X) (hy : Ten w (.slice A2 m c2) m Y) (hn : n ≤ 1099511627776) (hm : m ≤ 1099511627776) :
    Calls Tryz.prog 65 #[.slice A1 n c1, .slice A2 m c2] w (TenPost w (X + Y)) := by
  obtain ⟨-, -, -, hX, -⟩ := hx.inj
  obtain ⟨-, -, -, hY, -⟩ := hy.inj
  obtain ⟨i0, hi, hz0, hz1, hz2⟩ := info_parts infoInt
  go_enter Tryz.func65, Tryz.ntmps65
  go_wp2_with fail
  go_loopw [5, 6, 7] (fun o cy i wr => ∃ k : Nat, k ≤ max n m + 1 ∧ i = .int .i64 k ∧ cy = .int .i64 (sumc X Y k : Nat) ∧ wr.ownsRow w.heap.size 3 1 o k (ints (dgs (X + Y) k)) ∧ Ext w wr) (fun _ _ i _ => max n m + 1 - (intOf i).toNat)
  case atStart => exact ⟨0, by omega, rfl, by rw [sumc_zero]; rfl, World.ownsRow_nil _ _ _ _, Ext.refl _⟩
  case round =>
    obtain ⟨k, hk, rfl, rfl, hown, hext⟩ := hrel
    have hcy := sumc_le X Y k
    by_cases h1 : k < n
    · have hkm : k ≤ max n m := by omega
      obtain ⟨a, ha⟩ : ∃ a, a = dg X k := ⟨_, rfl⟩
      obtain ⟨b, hb⟩ : ∃ a, a = dg Y k := ⟨_, rfl⟩
      obtain ⟨cc, hcc⟩ : ∃ a, a = sumc X Y k := ⟨_, rfl⟩
      have cx := digit_any A1 n c1 X k wr (hx.ext hext) (by omega)
      have cy := digit_any A2 m c2 Y k wr (hy.ext hext) (by omega)
      rw [← ha] at cx
      rw [← hb] at cy
      rw [← hcc]
      have ha9 : a < 10 := by rw [ha]; exact dg_lt _ _
      have hb9 : b < 10 := by rw [hb]; exact dg_lt _ _
      have hc9 : cc ≤ 1 := by rw [hcc]; exact hcy
      have e1 : decide ((k : Int) < (n : Int)) = true := by simp; omega
      have e2 : True := trivial
      have e3 : True := trivial
      have hs1 : sumc X Y (k + 1) = (a + b + cc) / 10 := by rw [sumc_succ, ha, hb, hcc]
      have hs2 : dg (X + Y) k = (a + b + cc) % 10 := by rw [sum_dg, ha, hb, hcc]
      have HS1 := Lib.hid hs1
      have HS2 := Lib.hid hs2
      clear hs1 hs2 ha hb hcc hcy
      go_wp2_with fail
      refine cx.mono ?_
      rintro e w' ⟨rfl, rfl⟩
      go_wp2_with fail
      refine cy.mono ?_
      rintro e w' ⟨rfl, rfl⟩
      clear cx cy
      go_wp2_with (at_builtin; refine wpList_append_own _ rfl _ _ 31 rfl w.heap.size 3 i0 (.int .i64 0) 1 8 Tryz.underlying31 hi hz0 hz1 hz2 rfl (by decide) _ _ _ rfl (hown.alloc _) ⟨wr.heap.size, 0, none⟩ 1 1 [.int .i64 (((a + b + cc) % 10 : Nat) : Int)] rfl rfl ?c1 ?c2 ?c3 ?c4 ?c5 ?_)
      case c1 =>
        intro j u hj
        match j, hj with
        | 0, hj => simp at hj; subst hj; simp [Addr.add]
      case c2 => intro u hu; simp at hu; subst hu; rfl
      case c3 => unfold maxLen; omega
      case c4 => omega
      case c5 => have := Ext.size hext; simp; omega
      intro v' w3 hown' hgrow _
      have hE3 : Ext w w3 := Below.grown (Ext.alloc hext _) hgrow (by have := Ext.size hext; simp; omega) (fun k hk => (World.ownsRow.lt hown k hk).1)
      clear hown hgrow
      go_wp2_with fail
      go_roundw
      case measure => simp [intOf]; omega
      case rel => exact ⟨k + 1, by omega, by go_num, by rw [HS1.out]; go_num, by rw [dgs_succ, HS2.out]; simpa [ints] using hown', hE3⟩
    · by_cases h2 : k < m
      · have hkm : k ≤ max n m := by omega
        obtain ⟨a, ha⟩ : ∃ a, a = dg X k := ⟨_, rfl⟩
        obtain ⟨b, hb⟩ : ∃ a, a = dg Y k := ⟨_, rfl⟩
        obtain ⟨cc, hcc⟩ : ∃ a, a = sumc X Y k := ⟨_, rfl⟩
        have cx := digit_any A1 n c1 X k wr (hx.ext hext) (by omega)
        have cy := digit_any A2 m c2 Y k wr (hy.ext hext) (by omega)
        rw [← ha] at cx
        rw [← hb] at cy
        rw [← hcc]
        have ha9 : a < 10 := by rw [ha]; exact dg_lt _ _
        have hb9 : b < 10 := by rw [hb]; exact dg_lt _ _
        have hc9 : cc ≤ 1 := by rw [hcc]; exact hcy
        have e1 : decide ((k : Int) < (n : Int)) = false := by simp; omega
        have e2 : decide ((k : Int) < (m : Int)) = true := by simp; omega
        have e3 : True := trivial
        have hs1 : sumc X Y (k + 1) = (a + b + cc) / 10 := by rw [sumc_succ, ha, hb, hcc]
        have hs2 : dg (X + Y) k = (a + b + cc) % 10 := by rw [sum_dg, ha, hb, hcc]
        have HS1 := Lib.hid hs1
        have HS2 := Lib.hid hs2
        clear hs1 hs2 ha hb hcc hcy
        go_wp2_with fail
        refine cx.mono ?_
        rintro e w' ⟨rfl, rfl⟩
        go_wp2_with fail
        refine cy.mono ?_
        rintro e w' ⟨rfl, rfl⟩
        clear cx cy
        go_wp2_with (at_builtin; refine wpList_append_own _ rfl _ _ 31 rfl w.heap.size 3 i0 (.int .i64 0) 1 8 Tryz.underlying31 hi hz0 hz1 hz2 rfl (by decide) _ _ _ rfl (hown.alloc _) ⟨wr.heap.size, 0, none⟩ 1 1 [.int .i64 (((a + b + cc) % 10 : Nat) : Int)] rfl rfl ?c1 ?c2 ?c3 ?c4 ?c5 ?_)
        case c1 =>
          intro j u hj
          match j, hj with
          | 0, hj => simp at hj; subst hj; simp [Addr.add]
        case c2 => intro u hu; simp at hu; subst hu; rfl
        case c3 => unfold maxLen; omega
        case c4 => omega
        case c5 => have := Ext.size hext; simp; omega
        intro v' w3 hown' hgrow _
        have hE3 : Ext w w3 := Below.grown (Ext.alloc hext _) hgrow (by have := Ext.size hext; simp; omega) (fun k hk => (World.ownsRow.lt hown k hk).1)
        clear hown hgrow
        go_wp2_with fail
        go_roundw
        case measure => simp [intOf]; omega
        case rel => exact ⟨k + 1, by omega, by go_num, by rw [HS1.out]; go_num, by rw [dgs_succ, HS2.out]; simpa [ints] using hown', hE3⟩
      · by_cases h3 : sumc X Y k = 0
        · have hlt : X + Y < pt k := sumc_zero_lt h3 (Nat.lt_of_lt_of_le hX (pt_mono (by omega))) (Nat.lt_of_lt_of_le hY (pt_mono (by omega)))
          have hT := Ten.of_row hown hlt
          rw [h3]
          clear hown hcy h3
          go_wp2_with fail
          go_ret
          exact ⟨_, k, rfl, hT, hext⟩
        · have hkm : k ≤ max n m := by
            rcases Nat.lt_or_ge (max n m) k with h | h
            · exact absurd (sumc_end hX hY h) h3
            · exact h
          have h4 : sumc X Y k = 1 := by omega
          obtain ⟨a, ha⟩ : ∃ a, a = dg X k := ⟨_, rfl⟩
          obtain ⟨b, hb⟩ : ∃ a, a = dg Y k := ⟨_, rfl⟩
          obtain ⟨cc, hcc⟩ : ∃ a, a = sumc X Y k := ⟨_, rfl⟩
          have cx := digit_any A1 n c1 X k wr (hx.ext hext) (by omega)
          have cy := digit_any A2 m c2 Y k wr (hy.ext hext) (by omega)
          rw [← ha] at cx
          rw [← hb] at cy
          rw [← hcc]
          have ha9 : a < 10 := by rw [ha]; exact dg_lt _ _
          have hb9 : b < 10 := by rw [hb]; exact dg_lt _ _
          have hc9 : cc ≤ 1 := by rw [hcc]; exact hcy
          have e1 : decide ((k : Int) < (n : Int)) = false := by simp; omega
          have e2 : decide ((k : Int) < (m : Int)) = false := by simp; omega
          have e3 : 0 < cc := by omega
          have hs1 : sumc X Y (k + 1) = (a + b + cc) / 10 := by rw [sumc_succ, ha, hb, hcc]
          have hs2 : dg (X + Y) k = (a + b + cc) % 10 := by rw [sum_dg, ha, hb, hcc]
          have HS1 := Lib.hid hs1
          have HS2 := Lib.hid hs2
          clear hs1 hs2 ha hb hcc hcy
          go_wp2_with fail
          refine cx.mono ?_
          rintro e w' ⟨rfl, rfl⟩
          go_wp2_with fail
          refine cy.mono ?_
          rintro e w' ⟨rfl, rfl⟩
          clear cx cy
          go_wp2_with (at_builtin; refine wpList_append_own _ rfl _ _ 31 rfl w.heap.size 3 i0 (.int .i64 0) 1 8 Tryz.underlying31 hi hz0 hz1 hz2 rfl (by decide) _ _ _ rfl (hown.alloc _) ⟨wr.heap.size, 0, none⟩ 1 1 [.int .i64 (((a + b + cc) % 10 : Nat) : Int)] rfl rfl ?c1 ?c2 ?c3 ?c4 ?c5 ?_)
          case c1 =>
            intro j u hj
            match j, hj with
            | 0, hj => simp at hj; subst hj; simp [Addr.add]
          case c2 => intro u hu; simp at hu; subst hu; rfl
          case c3 => unfold maxLen; omega
          case c4 => omega
          case c5 => have := Ext.size hext; simp; omega
          intro v' w3 hown' hgrow _
          have hE3 : Ext w w3 := Below.grown (Ext.alloc hext _) hgrow (by have := Ext.size hext; simp; omega) (fun k hk => (World.ownsRow.lt hown k hk).1)
          clear hown hgrow
          go_wp2_with fail
          go_roundw
          case measure => simp [intOf]; omega
          case rel => exact ⟨k + 1, by omega, by go_num, by rw [HS1.out]; go_num, by rw [dgs_succ, HS2.out]; simpa [ints] using hown', hE3⟩

theorem Ten.mono_lt {w : World} {v : Value} {n V : Nat} (h : Ten w v n V) : V < pt n := by obtain ⟨_, _, _, _, _, h, _⟩ := h; exact h

set_option maxRecDepth 100000 in
set_option maxHeartbeats 2000000 in
theorem sub_any (A1 A2 : Option Addr) (n m c1 c2 X Y : Nat) (w : World) (hx : Ten w (.slice A1 n c1) n X) (hy : Ten w (.slice A2 m c2) m Y) (hn : n ≤ 1099511627776) (hle : Y ≤ X) :
    Calls Tryz.prog 67 #[.slice A1 n c1, .slice A2 m c2] w (fun e w' => ∃ v, e = .returned v ∧ Ten w' v n (X - Y) ∧ Ext w w') := by
  obtain ⟨-, -, -, hX, -⟩ := hx.inj
  obtain ⟨i0, hi, hz0, hz1, hz2⟩ := info_parts infoInt
  go_enter Tryz.func67, Tryz.ntmps67
  go_wp2_with fail
  go_loopw [5, 6, 7] (fun o bo i wr => ∃ k : Nat, k ≤ n ∧ i = .int .i64 k ∧ bo = .int .i64 (difc X Y k : Nat) ∧ wr.ownsRow w.heap.size 3 1 o k (ints (dgs (X - Y) k)) ∧ Ext w wr) (fun _ _ i _ => n - (intOf i).toNat)
  case atStart => exact ⟨0, by omega, rfl, by rw [difc_zero]; rfl, World.ownsRow_nil _ _ _ _, Ext.refl _⟩
  case round =>
    obtain ⟨k, hk, rfl, rfl, hown, hext⟩ := hrel
    by_cases h1 : k < n
    · obtain ⟨a, ha⟩ : ∃ a, a = dg X k := ⟨_, rfl⟩
      obtain ⟨b, hb⟩ : ∃ a, a = dg Y k := ⟨_, rfl⟩
      obtain ⟨cc, hcc⟩ : ∃ a, a = difc X Y k := ⟨_, rfl⟩
      have cx := digit_any A1 n c1 X k wr (hx.ext hext) (by omega)
      have cy := digit_any A2 m c2 Y k wr (hy.ext hext) (by omega)
      have hs := dif_step X Y k hle
      rw [← ha] at cx
      rw [← hb] at cy
      rw [← ha, ← hb, ← hcc] at hs
      rw [← hcc]
      have ha9 : a < 10 := by rw [ha]; exact dg_lt _ _
      have hb9 : b < 10 := by rw [hb]; exact dg_lt _ _
      have hc9 : cc ≤ 1 := by rw [hcc]; exact difc_le _ _ _
      clear ha hb hcc
      by_cases hneg : a < b + cc
      · obtain ⟨s1, s2⟩ := hs.1 hneg
        have S1 := Lib.hid s1
        have S2 := Lib.hid s2
        clear hs s1 s2
        obtain ⟨D, hD⟩ : ∃ D : Nat, D = a + 10 - (b + cc) := ⟨_, rfl⟩
        have hD9 : D < 10 := by omega
        have e1 : decide ((a : Int) - (b : Int) - (cc : Int) < 0) = true := by simp; omega
        have e2 : (a : Int) - (b : Int) - (cc : Int) + 10 = (D : Int) := by omega
        have HD := Lib.hid hD
        clear hD
        go_wp2_with fail
        refine cx.mono ?_
        rintro e w' ⟨rfl, rfl⟩
        go_wp2_with fail
        refine cy.mono ?_
        rintro e w' ⟨rfl, rfl⟩
        clear cx cy
        go_wp2_with (at_builtin; refine wpList_append_own _ rfl _ _ 31 rfl w.heap.size 3 i0 (.int .i64 0) 1 8 Tryz.underlying31 hi hz0 hz1 hz2 rfl (by decide) _ _ _ rfl (hown.alloc _) ⟨wr.heap.size, 0, none⟩ 1 1 [.int .i64 ((D : Nat) : Int)] rfl rfl ?c1 ?c2 ?c3 ?c4 ?c5 ?_)
        case c1 =>
          intro j u hj
          match j, hj with
          | 0, hj => simp at hj; subst hj; simp [Addr.add]
        case c2 => intro u hu; simp at hu; subst hu; rfl
        case c3 => unfold maxLen; omega
        case c4 => omega
        case c5 => have := Ext.size hext; simp; omega
        intro v' w3 hown' hgrow _
        have hE3 : Ext w w3 := Below.grown (Ext.alloc hext _) hgrow (by have := Ext.size hext; simp; omega) (fun k hk => (World.ownsRow.lt hown k hk).1)
        clear hown hgrow
        go_wp2_with fail
        go_roundw
        case measure => simp [intOf]; omega
        case rel => exact ⟨k + 1, by omega, by go_num, by rw [S1.out]; rfl, by rw [dgs_succ]; have h5 := HD.out; have h6 := S2.out; rw [show dg (X - Y) k = D by omega]; simpa [ints] using hown', hE3⟩
      · obtain ⟨s1, s2⟩ := hs.2 (by omega)
        have S1 := Lib.hid s1
        have S2 := Lib.hid s2
        clear hs s1 s2
        obtain ⟨D, hD⟩ : ∃ D : Nat, D = a - (b + cc) := ⟨_, rfl⟩
        have hD9 : D < 10 := by omega
        have e1 : (a : Int) - (b : Int) - (cc : Int) = (D : Int) := by omega
        have HD := Lib.hid hD
        clear hD
        go_wp2_with fail
        refine cx.mono ?_
        rintro e w' ⟨rfl, rfl⟩
        go_wp2_with fail
        refine cy.mono ?_
        rintro e w' ⟨rfl, rfl⟩
        clear cx cy
        go_wp2_with (at_builtin; refine wpList_append_own _ rfl _ _ 31 rfl w.heap.size 3 i0 (.int .i64 0) 1 8 Tryz.underlying31 hi hz0 hz1 hz2 rfl (by decide) _ _ _ rfl (hown.alloc _) ⟨wr.heap.size, 0, none⟩ 1 1 [.int .i64 ((D : Nat) : Int)] rfl rfl ?c1 ?c2 ?c3 ?c4 ?c5 ?_)
        case c1 =>
          intro j u hj
          match j, hj with
          | 0, hj => simp at hj; subst hj; simp [Addr.add]
        case c2 => intro u hu; simp at hu; subst hu; rfl
        case c3 => unfold maxLen; omega
        case c4 => omega
        case c5 => have := Ext.size hext; simp; omega
        intro v' w3 hown' hgrow _
        have hE3 : Ext w w3 := Below.grown (Ext.alloc hext _) hgrow (by have := Ext.size hext; simp; omega) (fun k hk => (World.ownsRow.lt hown k hk).1)
        clear hown hgrow
        go_wp2_with fail
        go_roundw
        case measure => simp [intOf]; omega
        case rel => exact ⟨k + 1, by omega, by go_num, by rw [S1.out]; rfl, by rw [dgs_succ]; have h5 := HD.out; have h6 := S2.out; rw [show dg (X - Y) k = D by omega]; simpa [ints] using hown', hE3⟩
    · obtain rfl : k = n := by omega
      have hT := Ten.of_row hown (show X - Y < pt k by omega)
      clear hown
      go_wp2_with fail
      go_ret
      exact ⟨_, rfl, hT, hext⟩
end Go.Proofs.YtginogcdjplhiaaGreatDoor.Ten

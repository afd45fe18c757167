/- The reference's numbers in memory: decimal digits, least digit first; digit, trim, compare walked. -/
import Derived.Test.YtginogcdjplhiaaGreatDoorR0
import Derived.Test.YtginogcdjplhiaaGreatDoorW1
import Derived.Test.YtginogcdjplhiaaGreatDoorMem2
import Derived.Lib.ItoaMem
set_option linter.unusedVariables false
set_option linter.unusedSimpArgs false
namespace Go.Proofs.YtginogcdjplhiaaGreatDoor.Ten
open Go.RowKit Go.Proofs.YtginogcdjplhiaaGreatDoor.Big

theorem pt_ten (k : Nat) : pt k = 10 ^ k := rfl
/-- the slice value v, of length n, holds the decimal digits of V -/
def Ten (w : World) (v : Value) (n V : Nat) : Prop :=
  ∃ A c, v = .slice A n c ∧ n ≤ c ∧ c ≤ 9223372036854775807 ∧ V < pt n ∧
    (0 < n → ∃ b off cs fz, A = some ⟨b, off, none⟩ ∧ w.heap[b]? = some (.cells cs 3 fz) ∧ ∀ j, j < n → w.cell? ⟨b, off + j, none⟩ = some (.int .i64 (dg V j : Int)))
theorem heap_lt {w : World} {b : Nat} {o : Obj} (h : w.heap[b]? = some o) : b < w.heap.size := by
  rcases Nat.lt_or_ge b w.heap.size with hlt | hge
  · exact hlt
  · rw [Array.getElem?_eq_none hge] at h; cases h
theorem Ten.ext {w w' : World} {v : Value} {n V : Nat} (h : Ten w v n V) (k : Ext w w') : Ten w' v n V := by
  obtain ⟨A, c, rfl, h1, h2, h3, h4⟩ := h
  refine ⟨A, c, rfl, h1, h2, h3, fun hn => ?_⟩
  obtain ⟨b, off, cs, fz, rfl, hb, hc⟩ := h4 hn
  exact ⟨b, off, cs, fz, rfl, (Below.block k b (heap_lt hb)).trans hb, fun j hj => k.cell (hc j hj)⟩
theorem Ten.nil (w : World) : Ten w (.slice none 0 0) 0 0 := ⟨none, 0, rfl, by omega, by omega, by simp [pt_zero], fun h => absurd h (by omega)⟩
theorem Ten.inj {w : World} {A : Option Addr} {n m c V : Nat} (h : Ten w (.slice A m c) n V) : m = n ∧ n ≤ c ∧ c ≤ 9223372036854775807 ∧ V < pt n ∧
    (0 < n → ∃ b off cs fz, A = some ⟨b, off, none⟩ ∧ w.heap[b]? = some (.cells cs 3 fz) ∧ ∀ j, j < n → w.cell? ⟨b, off + j, none⟩ = some (.int .i64 (dg V j : Int))) := by
  obtain ⟨A', c', e1, h1, h2, h3, h4⟩ := h
  injection e1 with a b c
  subst a b c
  exact ⟨rfl, h1, h2, h3, h4⟩
theorem Ten.form {w : World} {v : Value} {n V : Nat} (h : Ten w v n V) : ∃ A c, v = .slice A n c := by obtain ⟨A, c, rfl, _⟩ := h; exact ⟨A, c, rfl⟩
/-- a box of another type is no row of digits -/
theorem Ten.far {w : World} {b : Nat} {E : TypeId} {cs : Array Value} {v : Value} {n V : Nat} (h : Ten w v n V) (hb : Box w b E cs) (hE : E ≠ 3) (i : Nat) (u : Value) : Ten (w.setCell ⟨b, i, none⟩ u) v n V := by
  obtain ⟨A, c, rfl, h1, h2, h3, h4⟩ := h
  refine ⟨A, c, rfl, h1, h2, h3, fun hn => ?_⟩
  obtain ⟨b', off, cs', fz, rfl, hb', hc⟩ := h4 hn
  have hne : b' ≠ b := by
    rintro rfl
    have h5 := hb'.symm.trans hb
    injection h5 with h6
    injection h6 with _ h7 _
    exact hE h7.symm
  have hh : (w.setCell ⟨b, i, none⟩ u).heap[b']? = w.heap[b']? := Below.heap_setCell w ⟨b, i, none⟩ u b' hne
  exact ⟨b', off, cs', fz, rfl, hh.trans hb', fun j hj => (World.cell?_of_block hh).trans (hc j hj)⟩
/-- trimmed: no leading zero -/
def TrT (n V : Nat) : Prop := n = 0 ∨ pt (n - 1) ≤ V
theorem TrT.pos_iff {n V : Nat} (h : TrT n V) (hV : V < pt n) : 0 < n ↔ 0 < V := by
  rcases h with rfl | h
  · simp [pt_zero] at hV; omega
  · have := pt_pos (n - 1)
    constructor
    · intro _; omega
    · intro h0
      rcases Nat.eq_zero_or_pos n with h1 | h1
      · subst h1; simp [pt_zero] at hV; omega
      · exact h1
theorem TrT.le {n L V : Nat} (h : TrT n V) (hV : V < pt L) : n ≤ L := by
  rcases h with rfl | h
  · omega
  · exact le_of_pt h hV

theorem digit_any (A : Option Addr) (n c V i : Nat) (w : World) (h : Ten w (.slice A n c) n V) (hi : i ≤ 9223372036854775807) :
    Calls Tryz.prog 62 #[.slice A n c, .int .i64 i] w (fun e w' => e = .returned (.int .i64 (dg V i : Int)) ∧ w = w') := by
  obtain ⟨-, hn, hc, hV, hx⟩ := h.inj
  by_cases hlt : i < n
  · obtain ⟨b, off, cs, fz, rfl, -, hcx⟩ := hx (by omega)
    have hcx := hcx i hlt
    clear hx
    go_enter Tryz.func62, Tryz.ntmps62
    go_wp2
    go_ret
    exact ⟨rfl, rfl⟩
  · have h0 : dg V i = 0 := dg_zero_of_lt (Nat.lt_of_lt_of_le hV (pt_mono (by omega)))
    rw [h0]
    clear hx h0 hV
    go_enter Tryz.func62, Tryz.ntmps62
    go_wp2
    go_ret
    exact ⟨rfl, rfl⟩

def TTrim (w : World) (V : Nat) (e : Ending) (w' : World) : Prop := ∃ v n, e = .returned v ∧ Ten w v n V ∧ TrT n V ∧ w = w'
def TTrim2 (w : World) (A : Option Addr) (c V : Nat) (e : Ending) (w' : World) : Prop := ∃ n, e = .returned (.slice A n c) ∧ Ten w (.slice A n c) n V ∧ TrT n V ∧ w = w'
set_option maxHeartbeats 1000000 in
theorem trim_any2 (A : Option Addr) (n c V : Nat) (w : World) (h : Ten w (.slice A n c) n V) :
    Calls Tryz.prog 76 #[.slice A n c] w (TTrim2 w A c V) := by
  obtain ⟨-, hn, hc, hV, hx⟩ := h.inj
  go_enter Tryz.func76, Tryz.ntmps76
  go_wp2
  go_loop [0] (fun l => ∃ k : Nat, k ≤ n ∧ l = .slice A k c ∧ V < pt k) (fun l => match l with | .slice _ k _ => k | _ => 0)
  case atStart => exact ⟨n, Nat.le_refl _, rfl, hV⟩
  case round =>
    obtain ⟨k, hk, rfl, hVk⟩ := hrel
    clear hV
    have HV := Lib.hid hVk; clear hVk
    by_cases h0 : 0 < k
    · obtain ⟨b, off, cs, fz, rfl, hhb, hcx⟩ := hx (by omega)
      have hck := hcx (k - 1) (by omega)
      have HX := Lib.hid hcx
      have HB := Lib.hid hhb
      clear hx hcx hhb
      by_cases hd : dg V (k - 1) = 0
      · have h1 : ((dg V (k - 1) : Int) == 0) = true := by rw [hd]; rfl
        have HD := Lib.hid hd; clear hd
        go_wp2
        go_round
        case rel => exact ⟨k - 1, by omega, by go_num, lt_of_dg_zero (by rw [show k - 1 + 1 = k by omega]; exact HV.out) HD.out⟩
        case measure => simp; omega
      · have h1 : ((dg V (k - 1) : Int) == 0) = false := by simp; omega
        go_wp2
        go_ret
        exact ⟨k, rfl, ⟨_, c, rfl, by omega, hc, HV.out, fun _ => ⟨b, off, cs, fz, rfl, HB.out, fun j hj => HX.out j (by omega)⟩⟩, .inr (le_of_dg hd), rfl⟩
    · have hk0 : k = 0 := by omega
      subst hk0
      go_wp2
      go_ret
      have h0 : V = 0 := by have := HV.out; simp [pt_zero] at this; exact this
      subst h0
      exact ⟨0, rfl, ⟨_, c, rfl, by omega, hc, HV.out, fun h => absurd h (by omega)⟩, .inl rfl, rfl⟩
theorem trim_any (A : Option Addr) (n c V : Nat) (w : World) (h : Ten w (.slice A n c) n V) :
    Calls Tryz.prog 76 #[.slice A n c] w (TTrim w V) :=
  (trim_any2 A n c V w h).mono fun _ _ ⟨k, h1, h2, h3, h4⟩ => ⟨_, k, h1, h2, h3, h4⟩

theorem tcmp_lt {k X Y : Nat} (hd : X / pt (k + 1) = Y / pt (k + 1)) (h : dg X k < dg Y k) : cmpI X Y = -1 := by
  have := lt_of_top hd h
  simp [cmpI, this]
theorem tcmp_gt {k X Y : Nat} (hd : X / pt (k + 1) = Y / pt (k + 1)) (h : dg Y k < dg X k) : cmpI X Y = 1 := by
  have := lt_of_top hd.symm h
  unfold cmpI
  rw [if_neg (by omega), if_pos this]

set_option maxHeartbeats 2000000 in
theorem compare_lt (A1 A2 : Option Addr) (n m c1 c2 X Y : Nat) (w : World) (hx : Ten w (.slice A1 n c1) n X) (hy : Ten w (.slice A2 m c2) m Y) (hR : n < m) :
    Calls Tryz.prog 66 #[.slice A1 n c1, .slice A2 m c2] w (fun e w' => e = .returned (.int .i64 (cmpI X Y)) ∧ w = w') := by
  have i1 := hx.inj
  have i2 := hy.inj
  have hn : n ≤ 9223372036854775807 := by omega
  have hm : m ≤ 9223372036854775807 := by omega
  have hXb : X < pt m := Nat.lt_of_lt_of_le i1.2.2.2.1 (pt_mono (by omega))
  have hYb : Y < pt m := Nat.lt_of_lt_of_le i2.2.2.2.1 (pt_mono (by omega))
  clear i1 i2
  go_enter Tryz.func66, Tryz.ntmps66
  go_wp2
  go_loop [5] (fun i => ∃ k : Nat, k ≤ m ∧ i = .int .i64 ((k : Int) - 1) ∧ X / pt k = Y / pt k) (fun i => (intOf i + 1).toNat)
  case atStart => exact ⟨m, Nat.le_refl _, by go_num, by rw [Nat.div_eq_of_lt hXb, Nat.div_eq_of_lt hYb]⟩
  case round =>
    obtain ⟨k, hk, rfl, hd⟩ := hrel
    have HD := Lib.hid hd; clear hd hXb hYb
    rcases Nat.eq_zero_or_pos k with hk0 | hk0
    · subst hk0
      have hfin : cmpI X Y = 0 := by
        have hd := HD.out
        simp only [pt_zero, Nat.div_one] at hd
        subst hd; simp [cmpI]
      have HF := Lib.hid hfin; clear hfin
      go_wp2
      go_ret
      exact ⟨by rw [HF.out]; rfl, rfl⟩
    · obtain ⟨j, rfl⟩ : ∃ j, k = j + 1 := ⟨k - 1, by omega⟩
      have ej : ((j + 1 : Nat) : Int) - 1 = (j : Int) := by omega
      rw [ej]
      have cx := digit_any A1 n c1 X j w hx (by omega)
      have cy := digit_any A2 m c2 Y j w hy (by omega)
      obtain ⟨a, ha⟩ : ∃ a, a = dg X j := ⟨_, rfl⟩
      obtain ⟨b, hb⟩ : ∃ a, a = dg Y j := ⟨_, rfl⟩
      rw [← ha] at cx
      rw [← hb] at cy
      have ha9 : a < 10 := by rw [ha]; exact dg_lt _ _
      have hb9 : b < 10 := by rw [hb]; exact dg_lt _ _
      rcases Nat.lt_trichotomy a b with h | h | h
      · have hfin : cmpI X Y = -1 := tcmp_lt HD.out (by rw [← ha, ← hb]; exact h)
        have hne : ((a : Int) != (b : Int)) = true := by rw [bne_iff_ne]; omega
        have HF := Lib.hid hfin
        clear hfin ha hb HD
        go_wp2_with fail
        refine cx.mono ?_
        rintro e w' ⟨rfl, rfl⟩
        go_wp2_with fail
        refine cy.mono ?_
        rintro e w' ⟨rfl, rfl⟩
        go_wp2_with fail
        refine cx.mono ?_
        rintro e w' ⟨rfl, rfl⟩
        go_wp2_with fail
        refine cy.mono ?_
        rintro e w' ⟨rfl, rfl⟩
        go_wp2_with fail
        go_ret
        exact ⟨by rw [HF.out]; rfl, rfl⟩
      · have hs : X / pt j = Y / pt j := div_of_top HD.out (by rw [← ha, ← hb]; exact h)
        have hne : ((a : Int) != (b : Int)) = false := by rw [bne_eq_false_iff_eq, h]
        have HS := Lib.hid hs
        clear hs ha hb HD h
        go_wp2_with fail
        refine cx.mono ?_
        rintro e w' ⟨rfl, rfl⟩
        go_wp2_with fail
        refine cy.mono ?_
        rintro e w' ⟨rfl, rfl⟩
        go_wp2_with fail
        go_round
        case rel => exact ⟨j, by omega, by go_num, HS.out⟩
        case measure => simp [intOf]
      · have hfin : cmpI X Y = 1 := tcmp_gt HD.out (by rw [← ha, ← hb]; exact h)
        have hne : ((a : Int) != (b : Int)) = true := by rw [bne_iff_ne]; omega
        have HF := Lib.hid hfin
        clear hfin ha hb HD
        go_wp2_with fail
        refine cx.mono ?_
        rintro e w' ⟨rfl, rfl⟩
        go_wp2_with fail
        refine cy.mono ?_
        rintro e w' ⟨rfl, rfl⟩
        go_wp2_with fail
        refine cx.mono ?_
        rintro e w' ⟨rfl, rfl⟩
        go_wp2_with fail
        refine cy.mono ?_
        rintro e w' ⟨rfl, rfl⟩
        go_wp2_with fail
        go_ret
        exact ⟨by rw [HF.out]; rfl, rfl⟩
set_option maxHeartbeats 2000000 in
theorem compare_ge (A1 A2 : Option Addr) (n m c1 c2 X Y : Nat) (w : World) (hx : Ten w (.slice A1 n c1) n X) (hy : Ten w (.slice A2 m c2) m Y) (hR : m ≤ n) :
    Calls Tryz.prog 66 #[.slice A1 n c1, .slice A2 m c2] w (fun e w' => e = .returned (.int .i64 (cmpI X Y)) ∧ w = w') := by
  have i1 := hx.inj
  have i2 := hy.inj
  have hn : n ≤ 9223372036854775807 := by omega
  have hm : m ≤ 9223372036854775807 := by omega
  have hXb : X < pt n := Nat.lt_of_lt_of_le i1.2.2.2.1 (pt_mono (by omega))
  have hYb : Y < pt n := Nat.lt_of_lt_of_le i2.2.2.2.1 (pt_mono (by omega))
  clear i1 i2
  go_enter Tryz.func66, Tryz.ntmps66
  go_wp2
  go_loop [5] (fun i => ∃ k : Nat, k ≤ n ∧ i = .int .i64 ((k : Int) - 1) ∧ X / pt k = Y / pt k) (fun i => (intOf i + 1).toNat)
  case atStart => exact ⟨n, Nat.le_refl _, by go_num, by rw [Nat.div_eq_of_lt hXb, Nat.div_eq_of_lt hYb]⟩
  case round =>
    obtain ⟨k, hk, rfl, hd⟩ := hrel
    have HD := Lib.hid hd; clear hd hXb hYb
    rcases Nat.eq_zero_or_pos k with hk0 | hk0
    · subst hk0
      have hfin : cmpI X Y = 0 := by
        have hd := HD.out
        simp only [pt_zero, Nat.div_one] at hd
        subst hd; simp [cmpI]
      have HF := Lib.hid hfin; clear hfin
      go_wp2
      go_ret
      exact ⟨by rw [HF.out]; rfl, rfl⟩
    · obtain ⟨j, rfl⟩ : ∃ j, k = j + 1 := ⟨k - 1, by omega⟩
      have ej : ((j + 1 : Nat) : Int) - 1 = (j : Int) := by omega
      rw [ej]
      have cx := digit_any A1 n c1 X j w hx (by omega)
      have cy := digit_any A2 m c2 Y j w hy (by omega)
      obtain ⟨a, ha⟩ : ∃ a, a = dg X j := ⟨_, rfl⟩
      obtain ⟨b, hb⟩ : ∃ a, a = dg Y j := ⟨_, rfl⟩
      rw [← ha] at cx
      rw [← hb] at cy
      have ha9 : a < 10 := by rw [ha]; exact dg_lt _ _
      have hb9 : b < 10 := by rw [hb]; exact dg_lt _ _
      rcases Nat.lt_trichotomy a b with h | h | h
      · have hfin : cmpI X Y = -1 := tcmp_lt HD.out (by rw [← ha, ← hb]; exact h)
        have hne : ((a : Int) != (b : Int)) = true := by rw [bne_iff_ne]; omega
        have HF := Lib.hid hfin
        clear hfin ha hb HD
        go_wp2_with fail
        refine cx.mono ?_
        rintro e w' ⟨rfl, rfl⟩
        go_wp2_with fail
        refine cy.mono ?_
        rintro e w' ⟨rfl, rfl⟩
        go_wp2_with fail
        refine cx.mono ?_
        rintro e w' ⟨rfl, rfl⟩
        go_wp2_with fail
        refine cy.mono ?_
        rintro e w' ⟨rfl, rfl⟩
        go_wp2_with fail
        go_ret
        exact ⟨by rw [HF.out]; rfl, rfl⟩
      · have hs : X / pt j = Y / pt j := div_of_top HD.out (by rw [← ha, ← hb]; exact h)
        have hne : ((a : Int) != (b : Int)) = false := by rw [bne_eq_false_iff_eq, h]
        have HS := Lib.hid hs
        clear hs ha hb HD h
        go_wp2_with fail
        refine cx.mono ?_
        rintro e w' ⟨rfl, rfl⟩
        go_wp2_with fail
        refine cy.mono ?_
        rintro e w' ⟨rfl, rfl⟩
        go_wp2_with fail
        go_round
        case rel => exact ⟨j, by omega, by go_num, HS.out⟩
        case measure => simp [intOf]
      · have hfin : cmpI X Y = 1 := tcmp_gt HD.out (by rw [← ha, ← hb]; exact h)
        have hne : ((a : Int) != (b : Int)) = true := by rw [bne_iff_ne]; omega
        have HF := Lib.hid hfin
        clear hfin ha hb HD
        go_wp2_with fail
        refine cx.mono ?_
        rintro e w' ⟨rfl, rfl⟩
        go_wp2_with fail
        refine cy.mono ?_
        rintro e w' ⟨rfl, rfl⟩
        go_wp2_with fail
        refine cx.mono ?_
        rintro e w' ⟨rfl, rfl⟩
        go_wp2_with fail
        refine cy.mono ?_
        rintro e w' ⟨rfl, rfl⟩
        go_wp2_with fail
        go_ret
        exact ⟨by rw [HF.out]; rfl, rfl⟩
theorem compare_any (A1 A2 : Option Addr) (n m c1 c2 X Y : Nat) (w : World) (hx : Ten w (.slice A1 n c1) n X) (hy : Ten w (.slice A2 m c2) m Y) :
    Calls Tryz.prog 66 #[.slice A1 n c1, .slice A2 m c2] w (fun e w' => e = .returned (.int .i64 (cmpI X Y)) ∧ w = w') := by
  rcases Nat.lt_or_ge n m with h | h
  · exact compare_lt A1 A2 n m c1 c2 X Y w hx hy h
  · exact compare_ge A1 A2 n m c1 c2 X Y w hx hy h
end Go.Proofs.YtginogcdjplhiaaGreatDoor.Ten

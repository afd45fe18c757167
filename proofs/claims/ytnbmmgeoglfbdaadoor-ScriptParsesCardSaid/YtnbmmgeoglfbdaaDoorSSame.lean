/- Walks: same, small, lines of the laws (two lists of commands held against one another). -/
import Derived.Test.YtnbmmgeoglfbdaaDoorSCmds
import Derived.Test.YtnbmmgeoglfbdaaDoorSFormat
set_option linter.unusedVariables false
set_option linter.unusedSimpArgs false
namespace Go.Proofs.YtnbmmgeoglfbdaaDoor.Sc
open Go.RowKit Go.Proofs.YtnbmmgeoglfbdaaDoor.Big

theorem EqInts_any (A B : Option Addr) (n c m d : Nat) (xs ys : List Int) (w : World) (hx : Row w (.slice A n c) (iV xs)) (hy : Row w (.slice B m d) (iV ys)) :
    Calls Tryd.prog 20 #[.slice A n c, .slice B m d] w (BoolPost w (decide (xs = ys))) := by
  obtain ⟨h0, h1, h2, h3⟩ := hx.inj
  obtain ⟨k0, k1, k2, k3⟩ := hy.inj
  rw [iV_len] at h0 h1 h3 k0 k1 k3
  subst h0 k0
  by_cases hl : xs.length = ys.length
  · by_cases h00 : xs.length = 0
    · have e1 : xs = [] := List.eq_nil_of_length_eq_zero h00
      have e2 : ys = [] := List.eq_nil_of_length_eq_zero (by omega)
      subst e1 e2
      refine (Tryd.slices_Equal_int_empty A B c 0 d w (by omega)).mono ?_
      rintro e w' ⟨rfl, rfl⟩
      exact ⟨by simp, Ext.refl _⟩
    · obtain ⟨b1, o1, rfl, hc1⟩ := h3 (by omega)
      obtain ⟨b2, o2, rfl, hc2⟩ := k3 (by omega)
      refine (Tryd.slices_Equal_int b1 o1 xs.length c b2 o2 ys.length d xs ys w (Nat.le_refl _) (Nat.le_refl _) (by omega) (by omega) (fun j hj => ?_) (fun j hj => ?_)).mono ?_
      · exact hc1 j _ (iV_get (by rw [List.getElem?_eq_getElem hj]; simp [List.getD, hj]))
      · exact hc2 j _ (iV_get (by rw [List.getElem?_eq_getElem hj]; simp [List.getD, hj]))
      · rintro e w' ⟨rfl, q, rfl⟩
        refine ⟨?_, (Ext.refl w).drewN q⟩
        rw [List.take_length, List.take_length]
        congr 2
        rw [Bool.eq_iff_iff]; simp
  · refine (Tryd.slices_Equal_int_lens A B xs.length c ys.length d w hl).mono ?_
    rintro e w' ⟨rfl, rfl⟩
    refine ⟨?_, Ext.refl _⟩
    rw [decide_eq_false (fun e => hl (by rw [e]))]
theorem str_eq_iff (a b : BL) : ((str a).toList == (str b).toList) = decide (a = b) := by
  rw [Lib.toList_data, Lib.toList_data, str_list, str_list, Bool.eq_iff_iff]; simp
theorem CmdsV.at_ {w : World} {A : Option Addr} {n c : Nat} {l : List Cmd} (h : CmdsV w (.slice A n c) l) {k : Nat} (hk : k < l.length) : ∃ b off A' n' c', A = some ⟨b, off, none⟩ ∧ w.cell? ⟨b, off + k * 4, none⟩ = some (.int .u8 (l[k].kind : Int)) ∧
    w.cell? ⟨b, off + k * 4 + 1, none⟩ = some (.string (str l[k].name)) ∧ w.cell? ⟨b, off + k * 4 + 2, none⟩ = some (.slice A' n' c') ∧ w.cell? ⟨b, off + k * 4 + 3, none⟩ = some (.string (str l[k].text)) ∧ Row w (.slice A' n' c') (iV l[k].nums) := by
  obtain ⟨_, _, _, h3⟩ := h.inj
  obtain ⟨b, off, rfl, hc⟩ := h3 (by omega)
  obtain ⟨A', n', c', g0, g1, g2, g3, g4⟩ := hc k l[k] (List.getElem?_eq_getElem hk)
  exact ⟨b, off, A', n', c', rfl, g0, g1, g2, g3, g4⟩
/-- how much a list of commands holds -/
def bulk (l : List Cmd) : Nat := (l.map fun c => c.text.length + c.name.length + 8 * c.nums.length).sum
theorem bulk_take {l : List Cmd} {k : Nat} (hk : k < l.length) : bulk (l.take (k + 1)) = bulk (l.take k) + (l[k].text.length + l[k].name.length + 8 * l[k].nums.length) := by
  unfold bulk
  rw [List.take_succ_eq_append_getElem hk, List.map_append, List.sum_append]
  simp only [List.map_cons, List.map_nil, List.sum_cons, List.sum_nil, Nat.add_zero]
def smallB (l : List Cmd) : Bool := decide (l.length ≤ 40) && decide (bulk l ≤ 6000)
def Mild (l : List Cmd) : Prop := ∀ c ∈ l, c.kind ≤ 255 ∧ c.name.length ≤ 140737488355328 ∧ c.nums.length ≤ 140737488355328 ∧ c.text.length ≤ 140737488355328
theorem Mild.kinds {l : List Cmd} (h : Mild l) : Kinds l := fun c hc => by
  obtain ⟨a, b, c, d⟩ := h c hc
  exact ⟨a, by omega, by omega⟩
theorem bulk_le {l : List Cmd} (h : Mild l) : ∀ k, k ≤ l.length → bulk (l.take k) ≤ k * 1407374883553280 := by
  intro k
  induction k with
  | zero => intro _; simp [bulk]
  | succ k ih =>
    intro hk
    have := ih (by omega)
    have hb := bulk_take (l := l) (k := k) (by omega)
    obtain ⟨_, b, c, d⟩ := h l[k] (List.getElem_mem _)
    omega
set_option maxHeartbeats 2000000 in
set_option maxRecDepth 100000 in
theorem small_any (A : Option Addr) (n c : Nat) (l : List Cmd) (w : World) (h : CmdsV w (.slice A n c) l) (hm : Mild l) : Calls Tryd.prog 10 #[.slice A n c] w (BoolPost w (smallB l)) := by
  obtain ⟨h0, h1, h2, h3⟩ := h.inj
  subst h0
  obtain ⟨V, hV⟩ : ∃ V, V = smallB l := ⟨_, rfl⟩
  have HV := Lib.hid hV
  rw [← hV]
  have H3 := Lib.hid h3
  have HM := Lib.hid hm
  clear hV h3 hm
  by_cases hbig : 40 < l.length
  · have HF : Hid (V = false) := Lib.hid (by rw [HV.out]; unfold smallB; rw [decide_eq_false (by omega)]; rfl)
    clear HV
    go_enter Tryd.func10, Tryd.ntmps10
    go_wp2_with fail
    go_loopw [3, 8] (fun v i wr => ∃ (k : Nat) (z : Int), k ≤ l.length ∧ i = .int .i64 k ∧ v = .int .i64 z ∧ Ext w wr) (fun _ i _ => l.length - (intOf i).toNat)
    case atStart => exact ⟨0, 0, by omega, rfl, rfl, Ext.refl _⟩
    case round =>
      obtain ⟨k, z, hk, rfl, rfl, hx⟩ := hrel
      by_cases hlt : k < l.length
      · obtain ⟨b, off, rfl, hc⟩ := H3.out (by omega)
        obtain ⟨A', n', c', g0, g1, g2, g3, g4⟩ := hc k l[k] (List.getElem?_eq_getElem hlt)
        obtain ⟨m0, m1, m2, m3⟩ := HM.out l[k] (List.getElem_mem hlt)
        obtain ⟨x, hxd⟩ : ∃ x, x = l[k] := ⟨_, rfl⟩
        rw [← hxd] at g0 g1 g3 g4 m1 m2 m3
        have hn' := g4.inj.1
        rw [iV_len] at hn'
        subst hn'
        have s1 : (str x.name).size = x.name.length := rfl
        have s2 : (str x.text).size = x.text.length := rfl
        have e0 := hx.cell g0
        have e1 := hx.cell g1
        have e2 := hx.cell g2
        have e3 := hx.cell g3
        clear hxd hc g0 g1 g2 g3 g4 m0
        go_wp2_with fail
        go_roundw
        case rel => exact ⟨k + 1, _, by omega, by go_num, rfl, hx.alloc _⟩
        case measure => simp [intOf]; omega
      · obtain rfl : k = l.length := by omega
        go_wp2_with fail
        go_ret
        exact ⟨by rw [HF.out]; rfl, hx⟩
  · have HB := Lib.hid (bulk_le HM.out)
    have hll : l.length ≤ 40 := by omega
    have HV2 : Hid (V = decide (bulk l ≤ 6000)) := Lib.hid (by rw [HV.out]; unfold smallB; rw [decide_eq_true hll]; rfl)
    clear HV
    go_enter Tryd.func10, Tryd.ntmps10
    go_wp2_with fail
    go_loopw [3, 8] (fun v i wr => ∃ (k z : Nat), k ≤ l.length ∧ i = .int .i64 k ∧ v = .int .i64 z ∧ z ≤ k * 1407374883553280 ∧ Hid (z = bulk (l.take k)) ∧ Ext w wr) (fun _ i _ => l.length - (intOf i).toNat)
    case atStart => exact ⟨0, 0, by omega, rfl, rfl, by omega, Lib.hid (by simp [bulk]), Ext.refl _⟩
    case round =>
      obtain ⟨k, z, hk, rfl, rfl, hz, HZ, hx⟩ := hrel
      by_cases hlt : k < l.length
      · obtain ⟨b, off, rfl, hc⟩ := H3.out (by omega)
        obtain ⟨A', n', c', g0, g1, g2, g3, g4⟩ := hc k l[k] (List.getElem?_eq_getElem hlt)
        obtain ⟨m0, m1, m2, m3⟩ := HM.out l[k] (List.getElem_mem hlt)
        have hbt := bulk_take hlt
        obtain ⟨x, hxd⟩ : ∃ x, x = l[k] := ⟨_, rfl⟩
        rw [← hxd] at g0 g1 g3 g4 m1 m2 m3 hbt
        have hn' := g4.inj.1
        rw [iV_len] at hn'
        subst hn'
        have s1 : (str x.name).size = x.name.length := rfl
        have s2 : (str x.text).size = x.text.length := rfl
        have HZN : Hid (z + (x.text.length + x.name.length + 8 * x.nums.length) = bulk (l.take (k + 1))) := Lib.hid (by rw [hbt, HZ.out])
        have e0 := hx.cell g0
        have e1 := hx.cell g1
        have e2 := hx.cell g2
        have e3 := hx.cell g3
        clear hxd hc g0 g1 g2 g3 g4 m0 hbt
        go_wp2_with fail
        go_roundw
        case rel => exact ⟨k + 1, z + (x.text.length + x.name.length + 8 * x.nums.length), by omega, by go_num, by go_num, by omega, HZN, hx.alloc _⟩
        case measure => simp [intOf]; omega
      · obtain rfl : k = l.length := by omega
        have HF : Hid (V = decide (z ≤ 6000)) := Lib.hid (by rw [HV2.out, HZ.out, List.take_length])
        clear HV2 HZ
        go_wp2_with fail
        go_ret
        exact ⟨by rw [HF.out]; simp; omega, hx⟩
end Go.Proofs.YtnbmmgeoglfbdaaDoor.Sc

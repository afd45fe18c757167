/- Walks: same, small, lines of the laws (two lists of commands held against one another). -/
import Derived.Test.YtpdijhplelpmhaaDoorSCmds
import Derived.Test.YtpdijhplelpmhaaDoorSFormat
set_option linter.unusedVariables false
set_option linter.unusedSimpArgs false
namespace Go.Proofs.YtpdijhplelpmhaaDoor.Sc
open Go.RowKit Go.Proofs.YtpdijhplelpmhaaDoor.Big

theorem EqInts_any (A B : Option Addr) (n c m d : Nat) (xs ys : List Int) (w : World) (hx : Row w (.slice A n c) (iV xs)) (hy : Row w (.slice B m d) (iV ys)) :
    Calls Tryd.prog 29 #[.slice A n c, .slice B m d] w (BoolPost w (decide (xs = ys))) := by
  obtain ⟨h0, h1, h2, h3⟩ := hx.inj
  obtain ⟨k0, k1, k2, k3⟩ := hy.inj
  rw [iV_len] at h0 h1 h3 k0 k1 k3
  subst h0 k0
  by_cases hl : xs.length = ys.length
  · by_cases h00 : xs.length = 0
    · have e1 : xs = [] := List.eq_nil_of_length_eq_zero h00
      have e2 : ys = [] := List.eq_nil_of_length_eq_zero (by omega)
      subst e1 e2
      refine (Tryd.slices_Equal_int_empty A B c 0 d w (by omega)).mono ?_
      rintro e w' ⟨rfl, rfl⟩
      exact ⟨by simp, Ext.refl _⟩
    · obtain ⟨b1, o1, rfl, hc1⟩ := h3 (by omega)
      obtain ⟨b2, o2, rfl, hc2⟩ := k3 (by omega)
      refine (Tryd.slices_Equal_int b1 o1 xs.length c b2 o2 ys.length d xs ys w (Nat.le_refl _) (Nat.le_refl _) (by omega) (by omega) (fun j hj => ?_) (fun j hj => ?_)).mono ?_
      · exact hc1 j _ (iV_get (by rw [List.getElem?_eq_getElem hj]; simp [List.getD, hj]))
      · exact hc2 j _ (iV_get (by rw [List.getElem?_eq_getElem hj]; simp [List.getD, hj]))
      · rintro e w' ⟨rfl, q, rfl⟩
        refine ⟨?_, (Ext.refl w).drewN q⟩
        rw [List.take_length, List.take_length]
        congr 2
        rw [Bool.eq_iff_iff]; simp
  · refine (Tryd.slices_Equal_int_lens A B xs.length c ys.length d w hl).mono ?_
    rintro e w' ⟨rfl, rfl⟩
    refine ⟨?_, Ext.refl _⟩
    rw [decide_eq_false (fun e => hl (by rw [e]))]
theorem str_eq_iff (a b : BL) : ((str a).toList == (str b).toList) = decide (a = b) := by
  rw [Lib.toList_data, Lib.toList_data, str_list, str_list, Bool.eq_iff_iff]; simp
set_option maxHeartbeats 2000000 in
set_option maxRecDepth 100000 in
theorem same1_any (x y : Cmd) (A B : Option Addr) (n c m d : Nat) (w : World) (hx : Row w (.slice A n c) (iV x.nums)) (hy : Row w (.slice B m d) (iV y.nums)) :
    Calls Tryd.prog 54 #[.agg #[.int .u8 (x.kind : Int), .string (str x.name), .slice A n c, .string (str x.text)], .agg #[.int .u8 (y.kind : Int), .string (str y.name), .slice B m d, .string (str y.text)]] w (BoolPost w (decide (x = y))) := by
  obtain ⟨V, hV⟩ : ∃ V, V = decide (x = y) := ⟨_, rfl⟩
  rw [← hV]
  have hV2 : V = (decide (x.kind = y.kind) && decide (x.name = y.name) && decide (x.text = y.text) && decide (x.nums = y.nums)) := by
    rw [hV, Bool.eq_iff_iff]
    cases x; cases y
    simp only [Bool.and_eq_true, decide_eq_true_eq, Cmd.mk.injEq]
    constructor
    · rintro ⟨a, b, c, d⟩; exact ⟨⟨⟨a, b⟩, d⟩, c⟩
    · rintro ⟨⟨⟨a, b⟩, d⟩, c⟩; exact ⟨a, b, c, d⟩
  have HV := Lib.hid hV2
  clear hV hV2
  obtain ⟨X, hX⟩ : ∃ X, X = x.kind := ⟨_, rfl⟩
  obtain ⟨Y, hY⟩ : ∃ Y, Y = y.kind := ⟨_, rfl⟩
  obtain ⟨b1, hb1⟩ : ∃ b, b = decide (X = Y) := ⟨_, rfl⟩
  obtain ⟨b2, hb2⟩ : ∃ b, b = decide (x.name = y.name) := ⟨_, rfl⟩
  obtain ⟨b3, hb3⟩ : ∃ b, b = decide (x.text = y.text) := ⟨_, rfl⟩
  have e2 : ((str x.name).toList == (str y.name).toList) = b2 := by rw [str_eq_iff, hb2]
  have e3 : ((str x.text).toList == (str y.text).toList) = b3 := by rw [str_eq_iff, hb3]
  have e1 : ((X : Int) == (Y : Int)) = b1 := by rw [hb1, Bool.eq_iff_iff]; simp; omega
  rw [← hX, ← hY]
  rw [← hX, ← hY, ← hb1, ← hb2, ← hb3] at HV
  obtain ⟨nx, hnx⟩ : ∃ s, s = str x.name := ⟨_, rfl⟩
  obtain ⟨ny, hny⟩ : ∃ s, s = str y.name := ⟨_, rfl⟩
  obtain ⟨tx, htx⟩ : ∃ s, s = str x.text := ⟨_, rfl⟩
  obtain ⟨ty, hty⟩ : ∃ s, s = str y.text := ⟨_, rfl⟩
  rw [← hnx, ← hny] at e2
  rw [← htx, ← hty] at e3
  rw [← hnx, ← hny, ← htx, ← hty]
  clear hX hY hb1 hb2 hb3 hnx hny htx hty
  obtain ⟨B0, B1, hE⟩ := boxesT2 w 42 42 #[.int .u8 (X : Int), .string nx, .slice A n c, .string tx] #[.int .u8 (Y : Int), .string ny, .slice B m d, .string ty]
  cases b1 with
  | false =>
    have HF : Hid (V = false) := Lib.hid (by rw [HV.out]; rfl)
    go_enter Tryd.func54, Tryd.ntmps54
    go_wp2_with fail
    go_ret
    exact ⟨by rw [HF.out]; rfl, hE⟩
  | true =>
    cases b2 with
    | false =>
      have HF : Hid (V = false) := Lib.hid (by rw [HV.out]; rfl)
      go_enter Tryd.func54, Tryd.ntmps54
      go_wp2_with fail
      go_ret
      exact ⟨by rw [HF.out]; rfl, hE⟩
    | true =>
      cases b3 with
      | false =>
        have HF : Hid (V = false) := Lib.hid (by rw [HV.out]; rfl)
        go_enter Tryd.func54, Tryd.ntmps54
        go_wp2_with fail
        go_ret
        exact ⟨by rw [HF.out]; rfl, hE⟩
      | true =>
        have HF : Hid (V = decide (x.nums = y.nums)) := Lib.hid (by rw [HV.out]; simp)
        have hx2 := hx.ext hE
        have hy2 := hy.ext hE
        clear HV
        go_enter Tryd.func54, Tryd.ntmps54
        go_wp2_with fail
        refine (EqInts_any A B n c m d x.nums y.nums _ hx2 hy2).mono ?_
        rintro e w2 ⟨rfl, hx3⟩
        rw [← HF.out]
        go_wp2_with fail
        go_ret
        exact ⟨rfl, hE.trans hx3⟩
theorem CmdsV.at_ {w : World} {A : Option Addr} {n c : Nat} {l : List Cmd} (h : CmdsV w (.slice A n c) l) {k : Nat} (hk : k < l.length) : ∃ b off A' n' c', A = some ⟨b, off, none⟩ ∧ w.cell? ⟨b, off + k * 4, none⟩ = some (.int .u8 (l[k].kind : Int)) ∧
    w.cell? ⟨b, off + k * 4 + 1, none⟩ = some (.string (str l[k].name)) ∧ w.cell? ⟨b, off + k * 4 + 2, none⟩ = some (.slice A' n' c') ∧ w.cell? ⟨b, off + k * 4 + 3, none⟩ = some (.string (str l[k].text)) ∧ Row w (.slice A' n' c') (iV l[k].nums) := by
  obtain ⟨_, _, _, h3⟩ := h.inj
  obtain ⟨b, off, rfl, hc⟩ := h3 (by omega)
  obtain ⟨A', n', c', g0, g1, g2, g3, g4⟩ := hc k l[k] (List.getElem?_eq_getElem hk)
  exact ⟨b, off, A', n', c', rfl, g0, g1, g2, g3, g4⟩
set_option maxHeartbeats 2000000 in
set_option maxRecDepth 100000 in
theorem EqFunc_any (A B : Option Addr) (n c m d : Nat) (xs ys : List Cmd) (w : World) (hx : CmdsV w (.slice A n c) xs) (hy : CmdsV w (.slice B m d) ys) :
    Calls Tryd.prog 53 #[.slice A n c, .slice B m d, .func (.func 54) #[] #[]] w (BoolPost w (decide (xs = ys))) := by
  have hx0 := hx.inj.1
  have hy0 := hy.inj.1
  have hxl := Nat.le_trans hx.inj.2.1 hx.inj.2.2.1
  subst hx0 hy0
  obtain ⟨V, hV⟩ : ∃ V, V = decide (xs = ys) := ⟨_, rfl⟩
  have HV := Lib.hid hV
  rw [← hV]
  clear hV
  by_cases hl : xs.length = ys.length
  · have hl2 : ((xs.length : Int) == (ys.length : Int)) = true := by simp; omega
    have HL := Lib.hid hl
    rw [← hl] at hy hl2 ⊢
    have hl3 : ((xs.length : Int) == (xs.length : Int)) = true := by simp
    clear hl hl2
    go_enter Tryd.func53, Tryd.ntmps53
    go_wp2_with fail
    go_loopw [17] (fun i wr => ∃ k : Nat, k ≤ xs.length ∧ i = .int .i64 k ∧ Hid (xs.take k = ys.take k) ∧ Ext w wr) (fun i _ => xs.length - (intOf i).toNat)
    case atStart => exact ⟨0, by omega, rfl, Lib.hid (by simp), Ext.refl _⟩
    case round =>
      obtain ⟨k, hk, rfl, HK, hE⟩ := hrel
      by_cases hlt : k < xs.length
      · have hlt2 : k < ys.length := by have := HL.out; omega
        obtain ⟨b1, o1, A1, n1, c1, rfl, p0, p1, p2, p3, p4⟩ := (hx.ext hE).at_ hlt
        obtain ⟨b2, o2, A2, n2, c2, rfl, q0, q1, q2, q3, q4⟩ := (hy.ext hE).at_ hlt2
        obtain ⟨x, hxd⟩ : ∃ x, x = xs[k] := ⟨_, rfl⟩
        obtain ⟨y, hyd⟩ : ∃ y, y = ys[k] := ⟨_, rfl⟩
        rw [← hxd] at p0 p1 p3 p4
        rw [← hyd] at q0 q1 q3 q4
        obtain ⟨vb, hvb⟩ : ∃ b, b = decide (x = y) := ⟨_, rfl⟩
        have HT : Hid (vb = true → xs.take (k + 1) = ys.take (k + 1)) := Lib.hid (fun h => by
          rw [List.take_succ_eq_append_getElem hlt, List.take_succ_eq_append_getElem hlt2, HK.out, ← hxd, ← hyd]
          rw [h] at hvb
          rw [of_decide_eq_true hvb.symm])
        have HF : Hid (vb = false → V = false) := Lib.hid (fun h => by
          rw [HV.out, decide_eq_false]
          intro e
          rw [h] at hvb
          apply of_decide_eq_false hvb.symm
          rw [hxd, hyd]
          simp only [e])
        have HVB := Lib.hid hvb
        clear hvb
        have hE1 : Ext wr (wr.alloc (.cells #[.int .u8 (x.kind : Int), .string (str x.name), .slice A1 n1 c1, .string (str x.text)] 42)) := (Ext.refl wr).alloc _
        have q0 := hE1.cell q0
        have q1 := hE1.cell q1
        have q2 := hE1.cell q2
        have q3 := hE1.cell q3
        have hE2 : Ext wr ((wr.alloc (.cells #[.int .u8 (x.kind : Int), .string (str x.name), .slice A1 n1 c1, .string (str x.text)] 42)).alloc (.cells #[.int .u8 (y.kind : Int), .string (str y.name), .slice A2 n2 c2, .string (str y.text)] 42)) := hE1.alloc _
        have p5 : Row wr (.slice A1 n1 c1) (iV x.nums) := p4
        have q5 : Row wr (.slice A2 n2 c2) (iV y.nums) := q4
        clear hxd hyd p4 q4
        go_wp2_with fail
        refine (same1_any x y A1 A2 n1 c1 n2 c2 _ (p5.ext hE2) (q5.ext hE2)).mono ?_
        rintro e w2 ⟨rfl, hx2⟩
        rw [← HVB.out]
        have hE3 := (hE.trans hE2).trans hx2
        clear p0 p1 p2 p3 q0 q1 q2 q3 hE1 hE2 hx2 p5 q5
        cases vb with
        | false =>
          have HF2 := Lib.hid (HF.out rfl)
          clear HF HT
          go_wp2_with fail
          go_ret
          exact ⟨by rw [HF2.out]; rfl, hE3⟩
        | true =>
          have HT2 := Lib.hid (HT.out rfl)
          clear HF HT
          go_wp2_with fail
          go_roundw
          case rel => exact ⟨k + 1, by omega, by go_num, HT2, hE3⟩
          case measure => simp [intOf]; omega
      · obtain rfl : k = xs.length := by omega
        have HF : Hid (V = true) := Lib.hid (by
          rw [HV.out, decide_eq_true]
          have h1 := HK.out
          rw [List.take_length, HL.out, List.take_length] at h1
          exact h1)
        clear HK
        go_wp2_with fail
        go_ret
        exact ⟨by rw [HF.out]; rfl, hE⟩
  · have hl2 : ((xs.length : Int) == (ys.length : Int)) = false := by simp; omega
    have HF : Hid (V = false) := Lib.hid (by rw [HV.out, decide_eq_false]; intro e; exact hl (by rw [e]))
    clear hl
    go_enter Tryd.func53, Tryd.ntmps53
    go_wp2_with fail
    go_ret
    exact ⟨by rw [HF.out]; rfl, Ext.refl _⟩
theorem same_any (A B : Option Addr) (n c m d : Nat) (xs ys : List Cmd) (w : World) (hx : CmdsV w (.slice A n c) xs) (hy : CmdsV w (.slice B m d) ys) :
    Calls Tryd.prog 27 #[.slice A n c, .slice B m d] w (BoolPost w (decide (xs = ys))) := by
  obtain ⟨V, hV⟩ : ∃ V, V = decide (xs = ys) := ⟨_, rfl⟩
  have HV := Lib.hid hV
  rw [← hV]
  clear hV
  go_enter Tryd.func27, Tryd.ntmps27
  go_wp2_with fail
  refine (EqFunc_any A B n c m d xs ys _ hx hy).mono ?_
  rintro e w2 ⟨rfl, hE⟩
  rw [← HV.out]
  go_wp2_with fail
  go_ret
  exact ⟨rfl, hE⟩
/-- how much a list of commands holds -/
def bulk (l : List Cmd) : Nat := (l.map fun c => c.text.length + c.name.length + 8 * c.nums.length).sum
theorem bulk_take {l : List Cmd} {k : Nat} (hk : k < l.length) : bulk (l.take (k + 1)) = bulk (l.take k) + (l[k].text.length + l[k].name.length + 8 * l[k].nums.length) := by
  unfold bulk
  rw [List.take_succ_eq_append_getElem hk, List.map_append, List.sum_append]
  simp only [List.map_cons, List.map_nil, List.sum_cons, List.sum_nil, Nat.add_zero]
def smallB (l : List Cmd) : Bool := decide (l.length ≤ 40) && decide (bulk l ≤ 6000)
def Mild (l : List Cmd) : Prop := ∀ c ∈ l, c.kind ≤ 255 ∧ c.name.length ≤ 140737488355328 ∧ c.nums.length ≤ 140737488355328 ∧ c.text.length ≤ 140737488355328
theorem Mild.kinds {l : List Cmd} (h : Mild l) : Kinds l := fun c hc => by
  obtain ⟨a, b, c, d⟩ := h c hc
  exact ⟨a, by omega, by omega⟩
theorem bulk_le {l : List Cmd} (h : Mild l) : ∀ k, k ≤ l.length → bulk (l.take k) ≤ k * 1407374883553280 := by
  intro k
  induction k with
  | zero => intro _; simp [bulk]
  | succ k ih =>
    intro hk
    have := ih (by omega)
    have hb := bulk_take (l := l) (k := k) (by omega)
    obtain ⟨_, b, c, d⟩ := h l[k] (List.getElem_mem _)
    omega
set_option maxHeartbeats 2000000 in
set_option maxRecDepth 100000 in
theorem small_any (A : Option Addr) (n c : Nat) (l : List Cmd) (w : World) (h : CmdsV w (.slice A n c) l) (hm : Mild l) : Calls Tryd.prog 17 #[.slice A n c] w (BoolPost w (smallB l)) := by
  obtain ⟨h0, h1, h2, h3⟩ := h.inj
  subst h0
  obtain ⟨V, hV⟩ : ∃ V, V = smallB l := ⟨_, rfl⟩
  have HV := Lib.hid hV
  rw [← hV]
  have H3 := Lib.hid h3
  have HM := Lib.hid hm
  clear hV h3 hm
  by_cases hbig : 40 < l.length
  · have HF : Hid (V = false) := Lib.hid (by rw [HV.out]; unfold smallB; rw [decide_eq_false (by omega)]; rfl)
    clear HV
    go_enter Tryd.func17, Tryd.ntmps17
    go_wp2_with fail
    go_loopw [3, 8] (fun v i wr => ∃ (k : Nat) (z : Int), k ≤ l.length ∧ i = .int .i64 k ∧ v = .int .i64 z ∧ Ext w wr) (fun _ i _ => l.length - (intOf i).toNat)
    case atStart => exact ⟨0, 0, by omega, rfl, rfl, Ext.refl _⟩
    case round =>
      obtain ⟨k, z, hk, rfl, rfl, hx⟩ := hrel
      by_cases hlt : k < l.length
      · obtain ⟨b, off, rfl, hc⟩ := H3.out (by omega)
        obtain ⟨A', n', c', g0, g1, g2, g3, g4⟩ := hc k l[k] (List.getElem?_eq_getElem hlt)
        obtain ⟨m0, m1, m2, m3⟩ := HM.out l[k] (List.getElem_mem hlt)
        obtain ⟨x, hxd⟩ : ∃ x, x = l[k] := ⟨_, rfl⟩
        rw [← hxd] at g0 g1 g3 g4 m1 m2 m3
        have hn' := g4.inj.1
        rw [iV_len] at hn'
        subst hn'
        have s1 : (str x.name).size = x.name.length := rfl
        have s2 : (str x.text).size = x.text.length := rfl
        have e0 := hx.cell g0
        have e1 := hx.cell g1
        have e2 := hx.cell g2
        have e3 := hx.cell g3
        clear hxd hc g0 g1 g2 g3 g4 m0
        go_wp2_with fail
        go_roundw
        case rel => exact ⟨k + 1, _, by omega, by go_num, rfl, hx.alloc _⟩
        case measure => simp [intOf]; omega
      · obtain rfl : k = l.length := by omega
        go_wp2_with fail
        go_ret
        exact ⟨by rw [HF.out]; rfl, hx⟩
  · have HB := Lib.hid (bulk_le HM.out)
    have hll : l.length ≤ 40 := by omega
    have HV2 : Hid (V = decide (bulk l ≤ 6000)) := Lib.hid (by rw [HV.out]; unfold smallB; rw [decide_eq_true hll]; rfl)
    clear HV
    go_enter Tryd.func17, Tryd.ntmps17
    go_wp2_with fail
    go_loopw [3, 8] (fun v i wr => ∃ (k z : Nat), k ≤ l.length ∧ i = .int .i64 k ∧ v = .int .i64 z ∧ z ≤ k * 1407374883553280 ∧ Hid (z = bulk (l.take k)) ∧ Ext w wr) (fun _ i _ => l.length - (intOf i).toNat)
    case atStart => exact ⟨0, 0, by omega, rfl, rfl, by omega, Lib.hid (by simp [bulk]), Ext.refl _⟩
    case round =>
      obtain ⟨k, z, hk, rfl, rfl, hz, HZ, hx⟩ := hrel
      by_cases hlt : k < l.length
      · obtain ⟨b, off, rfl, hc⟩ := H3.out (by omega)
        obtain ⟨A', n', c', g0, g1, g2, g3, g4⟩ := hc k l[k] (List.getElem?_eq_getElem hlt)
        obtain ⟨m0, m1, m2, m3⟩ := HM.out l[k] (List.getElem_mem hlt)
        have hbt := bulk_take hlt
        obtain ⟨x, hxd⟩ : ∃ x, x = l[k] := ⟨_, rfl⟩
        rw [← hxd] at g0 g1 g3 g4 m1 m2 m3 hbt
        have hn' := g4.inj.1
        rw [iV_len] at hn'
        subst hn'
        have s1 : (str x.name).size = x.name.length := rfl
        have s2 : (str x.text).size = x.text.length := rfl
        have HZN : Hid (z + (x.text.length + x.name.length + 8 * x.nums.length) = bulk (l.take (k + 1))) := Lib.hid (by rw [hbt, HZ.out])
        have e0 := hx.cell g0
        have e1 := hx.cell g1
        have e2 := hx.cell g2
        have e3 := hx.cell g3
        clear hxd hc g0 g1 g2 g3 g4 m0 hbt
        go_wp2_with fail
        go_roundw
        case rel => exact ⟨k + 1, z + (x.text.length + x.name.length + 8 * x.nums.length), by omega, by go_num, by go_num, by omega, HZN, hx.alloc _⟩
        case measure => simp [intOf]; omega
      · obtain rfl : k = l.length := by omega
        have HF : Hid (V = decide (z ≤ 6000)) := Lib.hid (by rw [HV2.out, HZ.out, List.take_length])
        clear HV2 HZ
        go_wp2_with fail
        go_ret
        exact ⟨by rw [HF.out]; simp; omega, hx⟩
end Go.Proofs.YtpdijhplelpmhaaDoor.Sc

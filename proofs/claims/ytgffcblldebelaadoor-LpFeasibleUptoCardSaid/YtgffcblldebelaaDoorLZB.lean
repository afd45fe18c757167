/- Walk: planes of the reference of LpSmall. -/
import Derived.Test.YtgffcblldebelaaDoorLZA
set_option linter.unusedVariables false
set_option linter.unusedSimpArgs false
namespace Go.Proofs.YtgffcblldebelaaDoor.Lp
open Go.RowKit Go.Proofs.YtgffcblldebelaaDoor.Big Go.Proofs.YtgffcblldebelaaDoor.Rt

def PlanesPost (w : World) (p : RP) (e : Ending) (w' : World) : Prop := ∃ A a B b, e = .returned (.tuple #[.slice A (p.rows.length + p.obj.length) a, .slice B (p.rows.length + p.obj.length) b]) ∧ Mat w' (.slice A (p.rows.length + p.obj.length) a) p.left ∧ RowJ w' (.slice B (p.rows.length + p.obj.length) b) p.rhs ∧ Ext w w'
set_option maxHeartbeats 4000000 in
set_option maxRecDepth 100000 in
theorem rplanes_b (v : Value) (p : RP) (w : World) (h : RPV w v p) (hn : p.obj.length ≤ 8) (hm8 : p.rows.length ≤ 8) (hl : ∀ r ∈ p.rows, r.coef.length = p.obj.length) (hn0 : 0 < p.obj.length) : Calls Tryd.prog 79 #[v] w (PlanesPost w p) := by
  have HL := Lib.hid hl
  obtain ⟨Ao, co, Ar, cr, rfl, hO, hcr, hcr2, hrows⟩ := h
  obtain ⟨n, hnn⟩ : ∃ n, n = p.obj.length := ⟨_, rfl⟩
  obtain ⟨m, hm⟩ : ∃ m, m = p.rows.length := ⟨_, rfl⟩
  have HP : Hid (∀ e w', PlanesPost w p e w' ↔ ∃ A a B b, e = .returned (.tuple #[.slice A (m + n) a, .slice B (m + n) b]) ∧ Mat w' (.slice A (m + n) a) p.left ∧ RowJ w' (.slice B (m + n) b) p.rhs ∧ Ext w w') := Lib.hid (fun e w' => by rw [hm, hnn]; exact Iff.rfl)
  rw [← hm] at hcr hrows hm8 ⊢
  rw [← hnn] at hn hn0 ⊢
  have HN := Lib.hid hnn
  have HM := Lib.hid hm
  have HROWS := Lib.hid hrows
  clear hnn hm hrows hl hO
  obtain ⟨i0, ii, iz0, iz1, iz2⟩ := info_parts infoI64
  obtain ⟨r0, ri, rz0, rz1, rz2⟩ := info_parts infoRowI
  have PB := Box.new w 59 #[.slice Ao n co, .slice Ar m cr]
  have hE : Ext w (w.alloc (.cells #[.slice Ao n co, .slice Ar m cr] 59)) := (Ext.refl w).alloc _
  go_enter Tryd.func79, Tryd.ntmps79
  go_upto_region 1 with fail
  generalize (w.alloc (.cells #[.slice Ao n co, .slice Ar m cr] 59)) = V at *
  obtain ⟨pb, hpb⟩ : ∃ x, x = w.heap.size := ⟨_, rfl⟩
  rw [← hpb] at PB ⊢
  clear hpb
  have p0 := PB.c0
  have p1 := PB.c1
  go_wp2_with fail
  clear p0 p1
  have hpV := PB.lt
  go_loopw [5, 6, 7] (fun lv rv i wr => ∃ k : Nat, k ≤ m ∧ i = .int .i64 k ∧ OwnX wr V.heap.size 2 1 rv k (jV (p.rhs.take k)) ∧ OwnMatA wr V.heap.size lv k (p.left.take k) rv.ownBlock ∧ Ext V wr) (fun _ _ i _ => m - (intOf i).toNat)
  case atStart => exact ⟨0, by omega, rfl, OwnX.nil _ _ _ _, OwnMatA.nil _ _ _, Ext.refl V⟩
  case round =>
    obtain ⟨k, hk, rfl, hR, hLm, hX⟩ := hrel
    have PB1 := PB.ext hX
    by_cases hlt : k < m
    · obtain ⟨rb, cs, rfl, hrb, hrx⟩ := HROWS.out (by omega)
      obtain ⟨r, hr⟩ : ∃ r, p.rows[k]? = some r := ⟨_, List.getElem?_eq_getElem (by have := HM.out; omega)⟩
      obtain ⟨B, bd, h0, h1, h2, hrow⟩ := hrx k r hr
      have hrl := HL.out r (List.mem_of_getElem? hr)
      have HLA := Lib.hid (left_at p hr)
      have HRA := Lib.hid (rhs_at p hr)
      obtain ⟨cl, hcl⟩ : ∃ x, x = r.coef.length := ⟨_, rfl⟩
      have hcl0 : 0 < r.coef.length := by rw [hrl, ← HN.out]; exact hn0
      rw [← hcl] at h0 hrow
      have hcell : ∀ i u, cs[i]? = some u → w.cell? ⟨rb, i, none⟩ = some u := fun i u hu => by rw [cell_of_row w rb i cs _ (0, 0) hrb]; exact hu
      have c0 := (hE.trans hX).cell (hcell _ _ h0)
      obtain ⟨rt, hrt⟩ : ∃ x, x = r.right := ⟨_, rfl⟩
      rw [← hrt] at h2
      have HRT := Lib.hid hrt
      have d2 := hcell _ _ h2
      have p1 := PB1.c1
      have i1 : (0 : Int) ≤ (k : Int) := by omega
      have i2 : (k : Int) < (m : Int) := by omega
      obtain ⟨us, o1, o2, o3⟩ := hLm
      obtain ⟨AR, cR, rfl⟩ := hR.shape
      obtain ⟨AM, cM, rfl⟩ := o1.shape
      have hza : Ext wr (wr.alloc (.cells #[.slice B cl bd] 56)) := (Ext.refl wr).alloc _
      have o1' := o1.ext hza
      have hX1 := hX.trans hza
      have hN1 := new1J wr 56 (.slice B cl bd)
      have hsz := hX1.size
      have hRz := hR.ext hza
      have hrowz := (hrow.ext (hE.trans hX)).ext hza
      have hbo : ∀ b, (Value.slice B cl bd).ownBlock = some b → b < V.heap.size := fun b hb => by
        obtain ⟨b', e', hlt'⟩ := RowJ.blk hrow hcl0
        rw [hb] at e'
        injection e' with e'
        have := hE.size
        omega
      have hcl' := Lib.hid hcl
      clear hrt hcl h0 h1 h2 hcell hrx hR
      go_upto_region 8 with (at_builtin; refine wpList_pushX rfl (.tmp 20) (.tmp 27) 126 rfl V.heap.size 56 r0 (.slice none 0 0) 1 24 Tryd.underlying126 ri rz0 rz1 rz2 rfl zSl _ k us rfl o1' wr.heap.size [.slice B cl bd] 1 rfl rfl hN1 one1s nou1s (by omega) (by decide) hsz ?_; intro v4 w4 o4 r4 s4)
      have hX4 := r4.ext hX1 (fun g hg => (o1'.lt hg).1)
      have hapart := own_apart o1' hRz (by decide)
      have hP := OwnMatA.push (g := (Value.slice AR k cR).ownBlock) o1' o2 (fun i r hi => by obtain ⟨a0, u, hu, hr, ha⟩ := o3 i r hi; exact ⟨a0, u, hu, hr.ext hza, ha⟩) hrowz hcl0 (fun b hb e => by have := (hRz.lt e).1; have := hbo b hb; omega) r4 o4
      have hR4 := hRz.fr r4 (fun g hg e => hapart g e hg)
      have PB4 := PB.ext hX4
      have c2 := (hE.trans hX4).cell d2
      obtain ⟨A4, c4, rfl⟩ := o4.shape
      clear p1 c0 d2 hN1 hsz o1 o1' hX1 hza hRz hrowz PB1 r4 s4
      have p1 := PB4.c1
      have hzb : Ext w4 (w4.alloc (.cells #[.int .i64 rt] 2)) := (Ext.refl w4).alloc _
      have hR5 := hR4.ext hzb
      have o5 := o4.ext hzb
      have hP5 := hP.ext hzb
      have hX5 := hX4.trans hzb
      have hN1 := new1J w4 2 (.int .i64 rt)
      have hsz := hX5.size
      have hap5 := own_apart o5 hR5 (by decide)
      go_upto_region 6 with (at_builtin; refine wpList_pushX rfl (.tmp 29) (.tmp 36) 56 rfl V.heap.size 2 i0 (.int .i64 0) 1 8 Tryd.underlying56 ii iz0 iz1 iz2 rfl zI64 _ k (jV (p.rhs.take k)) rfl hR5 w4.heap.size [.int .i64 rt] 1 rfl rfl hN1 one1i nou1i (by omega) (by decide) hsz ?_; intro v6 w6 o6 r6 s6)
      have hX6 := r6.ext hX5 (fun g hg => (hR5.lt hg).1)
      have hP6 := hP5.other hap5 r6 s6
      obtain ⟨A6, c6, rfl⟩ := o6.shape
      clear p1 c2 hN1 hsz hR5 o5 hP5 hX5 hap5 r6 s6 hR4 hP o4 hX4 PB4 hzb
      go_wp2_with fail
      go_roundw
      case rel => exact ⟨k + 1, by omega, by go_num, by rw [take_succ' _ HRA.out, ← jV_push, ← HRT.out]; exact o6, by rw [take_succ' _ HLA.out]; exact hP6, hX6⟩
      case measure => simp [intOf]; omega
    · obtain rfl : k = m := by omega
      have p1 := PB1.c1
      go_wp2_with fail
      clear p1
      go_loopw [5, 6, 8] (fun lv rv i wr => ∃ j : Nat, j ≤ n ∧ i = .int .i64 j ∧ OwnX wr V.heap.size 2 1 rv (k + j) (jV (p.rhs.take (k + j))) ∧ OwnMatA wr V.heap.size lv (k + j) (p.left.take (k + j)) rv.ownBlock ∧ Ext V wr) (fun _ _ i _ => n - (intOf i).toNat)
      case atStart => exact ⟨0, by omega, rfl, hR, hLm, hX⟩
      case round =>
        clear hR hLm hX PB1
        obtain ⟨j, hj, rfl, hR, hLm, hX⟩ := hrel
        by_cases hlt2 : j < n
        · have HLA : Hid (p.left[k + j]? = some (unitI n j)) := Lib.hid (by have := left_unit' p (j := j) (by rw [← HN.out]; exact hlt2); rw [← HM.out, ← HN.out] at this; exact this)
          have HRA : Hid (p.rhs[k + j]? = some 0) := Lib.hid (by have := rhs_unit' p (j := j) (by rw [← HN.out]; exact hlt2); rw [← HM.out] at this; exact this)
          go_upto_region 13 with (at_make; refine wpList_makeK .i64 8 _ rfl _ _ 56 rfl 2 Tryd.underlying56 infoI64 (by decide) _ _ rfl rfl n rfl rfl (by omega) ?_; intro w3 hA3 hx3)
          have hA3 : ArrI w3 wr.heap.size n (fun _ => 0) := hA3
          obtain ⟨ub, hub⟩ : ∃ x, x = wr.heap.size := ⟨_, rfl⟩
          rw [← hub] at hA3 ⊢
          have hbw : V.heap.size ≤ ub := by rw [hub]; exact hX.size
          obtain ⟨AR, cR, rfl⟩ := hR.shape
          obtain ⟨us, o1, o2, o3⟩ := hLm
          obtain ⟨AM, cM, rfl⟩ := o1.shape
          have hRne : (Value.slice AR (k + j) cR).ownBlock ≠ some ub := fun e => by have := (hR.lt e).2.1; omega
          have hLne : (Value.slice AM (k + j) cM).ownBlock ≠ some ub := fun e => by have := (o1.lt e).2.1; omega
          have hR3 := hR.ext hx3
          have hX3 := hX.trans hx3
          obtain ⟨s1, s2⟩ := hA3.set hlt2 1
          have z0 := hA3.frozen j
          have c0 := hA3.cell hlt2
          have i1 : (0 : Int) ≤ (j : Int) := by omega
          have i2 : (j : Int) < (n : Int) := by omega
          have hS1 := Lib.hid s1
          have hS2 := Lib.hid s2
          have HUB := Lib.hid hub
          clear s1 s2 hub hA3 hR hX
          go_upto_region 14 with fail
          have hA4 := hS1.out
          have hF4 := hS2.out
          generalize (w3.setCell ⟨ub, j, none⟩ (.int .i64 1)) = w4 at *
          clear hS1 hS2 z0 c0
          have hR4 := hR3.fr hF4 (fun g hg e => hRne (by rw [hg, e]))
          have hX4 := hF4.ext hX3 (fun b hb => by rw [hb]; exact hbw)
          have o14 := (o1.ext hx3).fr hF4 (fun g hg e => hLne (by rw [hg, e]))
          have o34 : ∀ (i : Nat) (r : List Int), (p.left.take (k + j))[i]? = some r → 0 < r.length ∧ ∃ u, us[i]? = some u ∧ RowJ w4 u r ∧ ∀ b, u.ownBlock = some b → (Value.slice AR (k + j) cR).ownBlock ≠ some b := fun i r hi => by
            obtain ⟨a0, u, hu, hr, ha⟩ := o3 i r hi
            refine ⟨a0, u, hu, (hr.ext hx3).fr1 hF4 (fun b hb e => ?_), ha⟩
            obtain ⟨b', e', hlt'⟩ := RowJ.blk hr a0
            rw [hb] at e'
            injection e' with e'
            have := HUB.out
            omega
          have hrow4 : RowJ w4 (.slice (some ⟨ub, 0, none⟩) n n) (unitI n j) := hA4.rowJ (unitI_len n j) (fun l hl => unitI_get hl) (by omega)
          have hlt4 := hA4.lt
          clear o1 o3 hF4 hx3 hX3 hA4
          have hza : Ext w4 (w4.alloc (.cells #[.slice (some ⟨ub, 0, none⟩) n n] 56)) := (Ext.refl w4).alloc _
          have o1' := o14.ext hza
          have hX5 := hX4.trans hza
          have hN1 := new1J w4 56 (.slice (some ⟨ub, 0, none⟩) n n)
          have hsz := hX5.size
          have hRz := hR4.ext hza
          have hapart := own_apart o1' hRz (by decide)
          go_upto_region 15 with (at_builtin; refine wpList_pushX rfl (.tmp 48) (.tmp 50) 126 rfl V.heap.size 56 r0 (.slice none 0 0) 1 24 Tryd.underlying126 ri rz0 rz1 rz2 rfl zSl _ (k + j) us rfl o1' w4.heap.size [.slice (some ⟨ub, 0, none⟩) n n] 1 rfl rfl hN1 one1s nou1s (by omega) (by decide) hsz ?_; intro v5 w5 o5 r5 s5)
          have hX6 := r5.ext hX5 (fun g hg => (o1'.lt hg).1)
          have hP := OwnMatA.push (g := (Value.slice AR (k + j) cR).ownBlock) o1' o2 (fun i r hi => by obtain ⟨a0, u, hu, hr, ha⟩ := o34 i r hi; exact ⟨a0, u, hu, hr.ext hza, ha⟩) (hrow4.ext hza) (by rw [unitI_len]; exact hn0) (fun b hb e => by
            have hb' : some ub = some b := hb
            injection hb' with hb'
            subst hb'
            exact hRne e) r5 o5
          have hR6 := hRz.fr r5 (fun g hg e => hapart g e hg)
          obtain ⟨A5, c5, rfl⟩ := o5.shape
          clear hN1 hsz o1' hX5 hza hRz r5 s5 hapart o14 o34 hR4 hX4 hrow4
          have hzb : Ext w5 (w5.alloc (.cells #[.int .i64 0] 2)) := (Ext.refl w5).alloc _
          have hR7 := hR6.ext hzb
          have o7 := o5.ext hzb
          have hP7 := hP.ext hzb
          have hX7 := hX6.trans hzb
          have hN1 := new1J w5 2 (.int .i64 0)
          have hsz := hX7.size
          have hap7 := own_apart o7 hR7 (by decide)
          go_upto_region 11 with (at_builtin; refine wpList_pushX rfl (.tmp 52) (.tmp 53) 56 rfl V.heap.size 2 i0 (.int .i64 0) 1 8 Tryd.underlying56 ii iz0 iz1 iz2 rfl zI64 _ (k + j) (jV (p.rhs.take (k + j))) rfl hR7 w5.heap.size [.int .i64 0] 1 rfl rfl hN1 one1i nou1i (by omega) (by decide) hsz ?_; intro v8 w8 o8 r8 s8)
          have hX8 := r8.ext hX7 (fun g hg => (hR7.lt hg).1)
          have hP8 := hP7.other hap7 r8 s8
          obtain ⟨A8, c8, rfl⟩ := o8.shape
          clear hN1 hsz hR7 o7 hP7 hX7 hap7 r8 s8 hR6 hP o5 hX6 hzb
          go_wp2_with fail
          go_roundw
          case rel => exact ⟨j + 1, by omega, by go_num, by rw [show k + (j + 1) = (k + j) + 1 by omega, take_succ' _ HRA.out, ← jV_push]; exact o8, by rw [show k + (j + 1) = (k + j) + 1 by omega, take_succ' _ HLA.out]; exact hP8, hX8⟩
          case measure => simp [intOf]; omega
        · obtain rfl : j = n := by omega
          obtain ⟨AR, cR, rfl⟩ := hR.shape
          obtain ⟨AM, cM, rfl⟩ := hLm.shape
          go_wp2_with fail
          refine bodyPost_ret (v := .tuple #[.slice AM (k + j) cM, .slice AR (k + j) cR]) (by simp [results, Tryd.results79, go_sem]) rfl ?_
          refine (HP.out _ _).2 ⟨_, _, _, _, rfl, ?_, ?_, hE.trans hX⟩
          · have := hLm.mat
            rwa [List.take_of_length_le (by rw [left_length, ← HM.out, ← HN.out]; omega)] at this
          · have := hR.rowE
            rwa [List.take_of_length_le (by rw [rhs_length, ← HM.out, ← HN.out]; omega)] at this
end Go.Proofs.YtgffcblldebelaaDoor.Lp

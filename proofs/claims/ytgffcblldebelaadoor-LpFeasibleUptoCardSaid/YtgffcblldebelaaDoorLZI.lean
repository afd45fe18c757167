/- Walk: little of the law package. -/
import Derived.Test.YtgffcblldebelaaDoorLZG
import Derived.Test.YtgffcblldebelaaDoorLWA
set_option linter.unusedVariables false
set_option linter.unusedSimpArgs false
namespace Go.Proofs.YtgffcblldebelaaDoor.Lp
open Go.RowKit Go.Proofs.YtgffcblldebelaaDoor.Big Go.Proofs.YtgffcblldebelaaDoor.Rt

def inB (x : Int) : Bool := decide (-60 ≤ x) && decide (x ≤ 60)
def rowB (r : IRow) : Bool := inB r.right && r.coef.all inB
def headB (p : IP) : Bool := decide (p.den % 6 = 0) && decide (1 ≤ p.obj.length) && decide (p.obj.length ≤ 3) && decide (p.rows.length ≤ 4) && validB p.pl.toP
def littleB (p : IP) : Bool := headB p && p.obj.all inB && p.rows.all rowB
theorem all_take_no {α : Type} {f : α → Bool} {l : List α} {k : Nat} {x : α} (h : l[k]? = some x) (hf : f x = false) : l.all f = false := by
  cases e : l.all f with
  | false => rfl
  | true => rw [List.all_eq_true.1 e x (List.mem_of_getElem? h)] at hf; cases hf
theorem infoI32 : (Tryd.prog.info? 21).map (fun i => (i.zero, i.size, i.bytes)) = some (some (.int .i32 0), 1, 4) := by kernel_rfl
theorem zI32 : ∀ u ∈ (Value.int .i32 0).cells.toList, noU u = true := fun u hu => by
  simp [Value.cells] at hu; rw [hu]; rfl
theorem OwnX.one (w : World) (E : TypeId) (x : Value) (hx : noU x = true) : OwnX (w.alloc (.cells #[x] E)) w.heap.size E 1 (.slice (some ⟨w.heap.size, 0, none⟩) 1 1) 1 [x] :=
  ⟨rfl, .inr ⟨w.heap.size, 1, #[x], rfl, Nat.le_refl _, Box.new w E #[x], Nat.le_refl _, by decide, rfl, rfl, fun u hu => by rw [List.mem_singleton.1 hu]; exact hx⟩⟩
set_option maxHeartbeats 1000000 in
set_option maxRecDepth 100000 in
theorem little_b (v : Value) (ip : IP) (w : World) (h : IPV w v ip) (hok : ip.ok) : Calls Tryd.prog 24 #[v] w (ValPost w (.bool (littleB ip))) := by
  have h0 := h
  obtain ⟨Ao, co, Ar, cr, rfl, ho, hmc, -, hrows⟩ := h0
  obtain ⟨n, hn⟩ : ∃ n, n = ip.obj.length := ⟨_, rfl⟩
  obtain ⟨m, hm⟩ : ∃ n, n = ip.rows.length := ⟨_, rfl⟩
  obtain ⟨d, hd⟩ : ∃ n, n = ip.den := ⟨_, rfl⟩
  have hb1 := hok.2.1
  have hb2 := hok.2.2.1
  have hb3 := hok.2.2.2.1
  obtain ⟨L, hL⟩ : ∃ L, L = littleB ip := ⟨_, rfl⟩
  rw [← hL]
  have HLT : Hid (L = (decide (d % 6 = 0) && decide (1 ≤ n) && decide (n ≤ 3) && decide (m ≤ 4) && validB ip.pl.toP && ip.obj.all inB && ip.rows.all rowB)) := Lib.hid (by rw [hL, hn, hm, hd]; rfl)
  rw [← hn] at ho h hb1
  rw [← hm] at hmc hrows h hb2
  rw [← hd] at h hb3
  rw [← hn, ← hm, ← hd]
  have HN := Lib.hid hn
  have HM := Lib.hid hm
  have HROW := Lib.hid hrows
  have HOK := Lib.hid hok
  clear hn hm hd hrows hok hL
  have B := Box.new w 25 #[.slice Ao n co, .slice Ar m cr, .int .u8 (d : Int)]
  have hE0 : Ext w (w.alloc (.cells #[.slice Ao n co, .slice Ar m cr, .int .u8 (d : Int)] 25)) := (Ext.refl w).alloc _
  go_enter Tryd.func24, Tryd.ntmps24
  go_upto_region 1 with fail
  generalize (w.alloc (.cells #[.slice Ao n co, .slice Ar m cr, .int .u8 (d : Int)] 25)) = V at *
  obtain ⟨pb, hpb⟩ : ∃ x, x = w.heap.size := ⟨_, rfl⟩
  rw [← hpb] at B ⊢
  clear hpb
  have c0 := B.c0
  have c1 := B.c1
  have c2 := B.c2
  by_cases hd6 : d % 6 = 0
  · have e6 : (d : Int) % 6 = 0 := by omega
    by_cases h1 : 1 ≤ n
    · by_cases h3 : n ≤ 3
      · by_cases h4 : m ≤ 4
        · have HV : Hid (L = (validB ip.pl.toP && ip.obj.all inB && ip.rows.all rowB)) := Lib.hid (by rw [HLT.out, decide_eq_true hd6, decide_eq_true h1, decide_eq_true h3, decide_eq_true h4]; rfl)
          clear HLT
          have g1 : decide ((n : Int) < 1) = false := by simp; omega
          have g3 : decide ((3 : Int) < (n : Int)) = false := by simp; omega
          have g4 : decide ((4 : Int) < (m : Int)) = false := by simp; omega
          clear hd6 h1 h3 h4
          go_wp2_with fail
          refine (Make_b _ ip _ (h.ext hE0) HOK.out).mono ?_
          rintro e w3 ⟨v3, a, rfl, hM, hx3⟩
          have hP := hM.prob
          have hv3 := hM.val
          subst hv3
          have hE := hE0.trans hx3
          replace B := B.ext hx3
          clear c0 c1 c2 hx3 hM hE0
          go_wp2_with fail
          refine (Valid_b _ _ _ hP).mono ?_
          rintro e w4 ⟨rfl, hx4⟩
          replace hE := hE.trans hx4
          replace B := B.ext hx4
          clear hP hx4
          obtain ⟨F, hF⟩ : ∃ F, F = validB ip.pl.toP := ⟨_, rfl⟩
          rw [← hF] at HV ⊢
          have HVA := Lib.hid hF
          clear hF
          cases F with
          | false =>
            go_wp2_with fail
            go_ret
            exact ⟨by rw [HV.out]; rfl, hE⟩
          | true =>
            have HV2 : Hid (L = (ip.obj.all inB && ip.rows.all rowB)) := Lib.hid (by rw [HV.out]; rfl)
            clear HV
            have c0 := B.c0
            go_wp2_with fail
            clear c0
            go_loopw [41] (fun i wr => ∃ k : Nat, k ≤ n ∧ i = .int .i64 k ∧ (ip.obj.take k).all inB = true ∧ Ext w4 wr) (fun i _ => n - (intOf i).toNat)
            case atStart => exact ⟨0, by omega, rfl, rfl, Ext.refl w4⟩
            case round =>
              obtain ⟨k, hk, rfl, hT, hx⟩ := hrel
              have HT := Lib.hid hT
              clear hT
              by_cases hlt : k < n
              · obtain ⟨A, cA, hA, hcA, hcA2, hrow⟩ := ho
                injection hA with hA1 hA2 hA3
                subst hA1 hA3
                rw [wV_len] at hrow
                obtain ⟨b, off, rfl, hcell⟩ := hrow (by rw [← HN.out]; omega)
                obtain ⟨x, hxk⟩ : ∃ x, ip.obj[k]? = some x := ⟨_, List.getElem?_eq_getElem (by have := HN.out; omega)⟩
                have e0 := (hE.trans hx).cell (hcell k _ (wV_get hxk))
                have hx32 : in32 x := HOK.out.1 x (List.mem_of_getElem? hxk)
                have HXK := Lib.hid hxk
                clear hxk hcell hrow hA2 hcA
                go_wp2_with fail
                refine (in_b x _ hx32).mono ?_
                rintro e w5 ⟨rfl, rfl⟩
                obtain ⟨I, hI⟩ : ∃ F, F = (decide (-60 ≤ x) && decide (x ≤ 60)) := ⟨_, rfl⟩
                rw [← hI]
                have HI : Hid (I = inB x) := Lib.hid hI
                clear hI
                cases I with
                | false =>
                  go_wp2_with fail
                  go_ret
                  exact ⟨by rw [HV2.out, all_take_no HXK.out HI.out.symm]; rfl, hE.trans hx⟩
                | true =>
                  go_wp2_with fail
                  go_roundw
                  case rel => exact ⟨k + 1, by omega, by go_num, by rw [take_succ' _ HXK.out, List.all_append, HT.out, List.all_cons, ← HI.out]; rfl, hx⟩
                  case measure => simp [intOf]; omega
              · obtain rfl : k = n := by omega
                have HV3 : Hid (L = ip.rows.all rowB) := Lib.hid (by rw [HV2.out, show ip.obj.all inB = true from (by have := HT.out; rwa [List.take_of_length_le (by rw [HN.out]; exact Nat.le_refl _)] at this)]; rfl)
                clear HT HV2
                have c1 := (B.ext hx).c1
                have HLN : Hid (∀ (i : Nat) (r : IRow), ip.rows[i]? = some r → 0 < r.coef.length) := Lib.hid (fun i r hr => by
                  have hv := validB_iff.1 HVA.out.symm
                  have hm : i < ip.pl.toP.m := by rw [IP.pm]; exact (List.getElem?_eq_some_iff.1 hr).1
                  have e1 : ip.pl.toP.len i = r.coef.length := by show (ip.pl.rows.getD i RL.zero).coef.length = _; rw [IP.row hr]; simp [IRow.rl]
                  have := (hv.2.2.2 i hm).1
                  have := hv.1
                  omega)
                obtain ⟨i0, ii, iz0, iz1, iz2⟩ := info_parts infoI32
                go_wp2_with fail
                clear c1
                go_loopw [53] (fun i wr => ∃ k : Nat, k ≤ m ∧ i = .int .i64 k ∧ (ip.rows.take k).all rowB = true ∧ Ext w4 wr) (fun i _ => m - (intOf i).toNat)
                case atStart => exact ⟨0, by omega, rfl, rfl, hx⟩
                case round =>
                  clear hx
                  obtain ⟨q, hq, rfl, hT, hx⟩ := hrel
                  have HT := Lib.hid hT
                  clear hT
                  by_cases hlt2 : q < m
                  · obtain ⟨b, off, rfl, hrow⟩ := HROW.out (by omega)
                    obtain ⟨r, hr⟩ : ∃ r, ip.rows[q]? = some r := ⟨_, List.getElem?_eq_getElem (by have := HM.out; omega)⟩
                    obtain ⟨Ac, cc, g0, g1, g2, hrw⟩ := (hrow q r hr).ext (hE.trans hx)
                    obtain ⟨q1, q2, q3, q4⟩ := HOK.out.2.2.2.2 r (List.mem_of_getElem? hr)
                    have hl0 := HLN.out q r hr
                    have HR := Lib.hid hr
                    have HQ1 : Hid (∀ x ∈ r.right :: r.coef, in32 x) := Lib.hid (fun x hx => by
                      rcases List.mem_cons.1 hx with rfl | hx
                      · exact q2
                      · exact q1 x hx)
                    clear hr hrow q1
                    obtain ⟨l, hl⟩ : ∃ l, l = r.coef.length := ⟨_, rfl⟩
                    obtain ⟨rel, hrl⟩ : ∃ l, l = r.rel := ⟨_, rfl⟩
                    obtain ⟨rt, hrt⟩ : ∃ l, l = r.right := ⟨_, rfl⟩
                    rw [← hl] at g0 hrw q4 hl0
                    rw [← hrl] at g1
                    rw [← hrt] at g2
                    have HL := Lib.hid hl
                    have HL3 := Lib.hid hrt
                    clear hl hrl hrt q2 q3
                    go_upto_region 13 with fail
                    have B5 := Box.new wr 72 #[.slice Ac l cc, .int .u8 (rel : Int), .int .i32 rt]
                    have hEx : Ext wr (wr.alloc (.cells #[.slice Ac l cc, .int .u8 (rel : Int), .int .i32 rt] 72)) := (Ext.refl wr).alloc _
                    generalize (wr.alloc (.cells #[.slice Ac l cc, .int .u8 (rel : Int), .int .i32 rt] 72)) = X at *
                    obtain ⟨rb, hrb⟩ : ∃ z, z = wr.heap.size := ⟨_, rfl⟩
                    rw [← hrb] at B5 ⊢
                    clear hrb g0 g1 g2
                    have hxX := hx.trans hEx
                    have hrwX := hrw.ext hEx
                    clear hEx hrw
                    have hze : Ext X (X.alloc (.cells #[.int .i32 rt] 21)) := (Ext.refl X).alloc _
                    have oe := OwnX.one X 21 (.int .i32 rt) rfl
                    obtain ⟨hn1, -, -, hrow⟩ := hrwX.inj
                    rw [wV_len] at hrow
                    obtain ⟨sb, so, rfl, hcell⟩ := hrow (by rw [← HL.out]; exact hl0)
                    have hnw : ∀ (j : Nat) (y : Value), (wV r.coef)[j]? = some y → (X.alloc (.cells #[.int .i32 rt] 21)).cell? ((⟨sb, so, none⟩ : Addr).add j) = some y := fun j y hj => by
                      rw [Lib.add_plain]
                      exact hze.cell (hcell j y hj)
                    have hone : ∀ y ∈ wV r.coef, y.oneCell' = true := fun y hy => by unfold wV at hy; obtain ⟨u, -, rfl⟩ := List.mem_map.1 hy; rfl
                    have hnou : ∀ y ∈ wV r.coef, noU y = true := fun y hy => by unfold wV at hy; obtain ⟨u, -, rfl⟩ := List.mem_map.1 hy; rfl
                    have hnl : (wV r.coef).length = l * 1 := by rw [wV_len, HL.out, Nat.mul_one]
                    have hsz := hze.size
                    have m0 := B5.c0
                    have m2 := B5.c2
                    have m0' := hze.cell m0
                    clear hn1 hrow hcell hrwX
                    obtain ⟨N, hN⟩ : ∃ N, N = 1 + l := ⟨_, rfl⟩
                    have hN1 : N ≤ 1048577 := by omega
                    have HN1 := Lib.hid hN
                    clear hN
                    go_upto_region 14 with (at_builtin; go_loud (refine wpList_pushN rfl (.tmp 59) (.tmp 61) 22 rfl X.heap.size 21 i0 (.int .i32 0) 1 4 Tryd.underlying22 ii iz0 iz1 iz2 rfl zI32 _ 1 [.int .i32 rt] rfl oe ⟨sb, so, none⟩ l (wV r.coef) cc rfl hl0 hnl hnw hone hnou (by omega) (by decide) hsz ?_; intro v6 w6 o5 r6 s6; have o6 : OwnX w6 X.heap.size 21 1 v6 N ([.int .i32 rt] ++ wV r.coef) := (by rw [HN1.out]; exact o5); clear o5; have hrE : RowE w6 21 v6 (wV (rt :: r.coef)) := o6.rowE; obtain ⟨A6, c6, rfl⟩ := o6.shape))
                    have hX6 := r6.ext hze (fun g hg => (oe.lt hg).1)
                    have HNL : Hid (N = (rt :: r.coef).length) := Lib.hid (by rw [HN1.out, List.length_cons, ← HL.out]; omega)
                    obtain ⟨-, -, -, hrow6⟩ := hrE.inj
                    obtain ⟨g6, cs6, rfl, -, -, hcell6⟩ := hrow6 (by rw [wV_len, List.length_cons]; omega)
                    have HC6 := Lib.hid hcell6
                    have hxY := hxX.trans hX6
                    clear o6 r6 s6 hze oe hrE hrow6 hcell6 hsz m0' m0 m2 hnl hnou hone hnw
                    go_wp2_with fail
                    go_loopw [64] (fun i wq => ∃ j : Nat, j ≤ N ∧ i = .int .i64 j ∧ ((rt :: r.coef).take j).all inB = true ∧ Ext w6 wq) (fun i _ => N - (intOf i).toNat)
                    case atStart => exact ⟨0, by omega, rfl, rfl, Ext.refl w6⟩
                    case round =>
                      obtain ⟨j, hj, rfl, hT3, hy⟩ := hrel
                      have HT3 := Lib.hid hT3
                      clear hT3
                      by_cases hlt3 : j < N
                      · obtain ⟨x, hxk⟩ : ∃ x, (rt :: r.coef)[j]? = some x := ⟨_, List.getElem?_eq_getElem (by have := HNL.out; omega)⟩
                        have e0 := hy.cell (HC6.out j _ (wV_get hxk))
                        have hx32 : in32 x := HQ1.out x (by rw [← HL3.out]; exact List.mem_of_getElem? hxk)
                        have HXK := Lib.hid hxk
                        clear hxk
                        go_wp2_with fail
                        refine (in_b x _ hx32).mono ?_
                        rintro e w7 ⟨rfl, rfl⟩
                        obtain ⟨I, hI⟩ : ∃ F, F = (decide (-60 ≤ x) && decide (x ≤ 60)) := ⟨_, rfl⟩
                        rw [← hI]
                        have HI : Hid (I = inB x) := Lib.hid hI
                        clear hI
                        cases I with
                        | false =>
                          have HRB : Hid (rowB r = false) := Lib.hid (by have := all_take_no HXK.out HI.out.symm; rw [HL3.out] at this; exact this)
                          go_wp2_with fail
                          go_ret
                          exact ⟨by rw [HV3.out, all_take_no HR.out HRB.out]; rfl, hE.trans (hxY.trans hy)⟩
                        | true =>
                          go_wp2_with fail
                          go_roundw
                          case rel => exact ⟨j + 1, by omega, by go_num, by rw [take_succ' _ HXK.out, List.all_append, HT3.out, List.all_cons, ← HI.out]; rfl, hy⟩
                          case measure => simp [intOf]; omega
                      · obtain rfl : j = N := by omega
                        have HRB : Hid (rowB r = true) := Lib.hid (by have := HT3.out; rw [List.take_of_length_le (by rw [HNL.out]; exact Nat.le_refl _), HL3.out] at this; exact this)
                        go_wp2_with fail
                        go_roundw
                        case rel => exact ⟨q + 1, by omega, by go_num, by rw [take_succ' _ HR.out, List.all_append, HT.out, List.all_cons, HRB.out]; rfl, hxY.trans hy⟩
                        case measure => simp [intOf]; omega
                  · obtain rfl : q = m := by omega
                    have HV4 : Hid (L = true) := Lib.hid (by rw [HV3.out]; have := HT.out; rwa [List.take_of_length_le (by rw [HM.out]; exact Nat.le_refl _)] at this)
                    go_wp2_with fail
                    go_ret
                    exact ⟨by rw [HV4.out]; rfl, hE.trans hx⟩
        · go_wp2_with fail
          go_ret
          exact ⟨by rw [HLT.out, decide_eq_false h4]; simp, hE0⟩
      · go_wp2_with fail
        go_ret
        exact ⟨by rw [HLT.out, decide_eq_false h3]; simp, hE0⟩
    · go_wp2_with fail
      go_ret
      exact ⟨by rw [HLT.out, decide_eq_false h1]; simp, hE0⟩
  · have e6 : ¬ (d : Int) % 6 = 0 := by omega
    go_wp2_with fail
    go_ret
    exact ⟨by rw [HLT.out, decide_eq_false hd6]; simp, hE0⟩
end Go.Proofs.YtgffcblldebelaaDoor.Lp

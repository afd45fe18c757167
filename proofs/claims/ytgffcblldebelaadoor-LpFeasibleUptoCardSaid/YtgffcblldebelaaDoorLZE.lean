/- Walk: Best of the reference of LpSmall: the loop. -/
import Derived.Test.YtgffcblldebelaaDoorLZD
set_option linter.unusedVariables false
set_option linter.unusedSimpArgs false
namespace Go.Proofs.YtgffcblldebelaaDoor.Lp
open Go.RowKit Go.Proofs.YtgffcblldebelaaDoor.Big Go.Proofs.YtgffcblldebelaaDoor.Rt

theorem Prog.mem {p : RP} {N f : Nat} {q : List Nat} {s : Int × Int × Bool} (h : Prog p N f q s) (hf : 0 < f) : q ∈ p.all := by
  obtain ⟨l0, h1, h2, h3⟩ := h
  obtain ⟨k, rfl⟩ : ∃ k, f = k + 1 := ⟨f - 1, by omega⟩
  rw [h1, picksF_step]
  exact List.mem_append_right _ List.mem_cons_self
theorem Prog.done {p : RP} {N f : Nat} {q : List Nat} {s : Int × Int × Bool} (h : Prog p N (f + 1) q s) (hn : nextP q N = none) : p.step s q = p.best p.all := by
  obtain ⟨l0, h1, h2, h3⟩ := h
  rw [picksF_step, hn] at h1
  unfold RP.best
  rw [h1, List.foldl_append, ← h3]; rfl
theorem Prog.next {p : RP} {N f : Nat} {q r : List Nat} {s : Int × Int × Bool} (h : Prog p N (f + 1) q s) (hn : nextP q N = some r) (hl : p.all.length < 60) : 0 < f ∧ Prog p N f r (p.step s q) := by
  obtain ⟨l0, h1, h2, h3⟩ := h
  rw [picksF_step, hn] at h1
  refine ⟨?_, l0 ++ [q], by rw [h1]; simp, by simp; omega, by rw [List.foldl_append, ← h3]; rfl⟩
  rcases Nat.eq_zero_or_pos f with h0 | h0
  · subst h0
    rw [h1] at hl
    simp at hl; omega
  · exact h0
set_option maxHeartbeats 4000000 in
set_option maxRecDepth 100000 in
theorem rbest_b (v : Value) (p : RP) (w : World) (h : RPV w v p) (hok : p.ok 5) (hs : p.Sm) : Calls Tryd.prog 57 #[v] w (BestPost w p) := by
  have h0 := h
  obtain ⟨Ao, co, Ar, cr, rfl, -, -, -, -⟩ := h0
  obtain ⟨n, hn⟩ : ∃ n, n = p.obj.length := ⟨_, rfl⟩
  obtain ⟨m, hm⟩ : ∃ n, n = p.rows.length := ⟨_, rfl⟩
  have hn1 : 1 ≤ n := by rw [hn]; exact hok.n1
  have hn3 : n ≤ 3 := by rw [hn]; exact hok.n3
  have hm5 : m ≤ 5 := by rw [hm]; exact hok.m5
  rw [← hn, ← hm] at h ⊢
  obtain ⟨N, hN⟩ : ∃ N, N = m + n := ⟨_, rfl⟩
  have HALL : Hid (p.all = picks n N) := Lib.hid (by rw [hN, hn, hm]; rfl)
  have HLEN : Hid (p.all.length < 60) := Lib.hid (by rw [HALL.out]; exact picks_len hn1 hn3 (by omega) (by omega))
  have HOK := Lib.hid hok
  have HS := Lib.hid hs
  have HL := Lib.hid (left_length p)
  have HN : Hid (p.rows.length + p.obj.length = N ∧ p.obj.length = n) := Lib.hid (by rw [hN, hn, hm]; exact ⟨rfl, rfl⟩)
  have hN8 : N ≤ 8 := by omega
  have hnN : n ≤ N := by omega
  clear hn hm hN hok hs
  have PB := Box.new w 59 #[.slice Ao n co, .slice Ar m cr]
  have hE : Ext w (w.alloc (.cells #[.slice Ao n co, .slice Ar m cr] 59)) := (Ext.refl w).alloc _
  go_enter Tryd.func57, Tryd.ntmps57
  go_upto_region 1 with fail
  generalize (w.alloc (.cells #[.slice Ao n co, .slice Ar m cr] 59)) = V at *
  obtain ⟨pb, hpb⟩ : ∃ x, x = w.heap.size := ⟨_, rfl⟩
  rw [← hpb] at PB ⊢
  clear hpb
  have p0 := PB.c0
  have p1 := PB.c1
  go_wp2_with fail
  refine (rplanes_b _ p _ (h.ext hE) (by rw [HN.out.2]; omega) (by have := HOK.out.m5; omega) (fun r hr => (HOK.out.row r hr).1) (by rw [HN.out.2]; omega)).mono ?_
  rintro e w1 ⟨A, a, B, b, rfl, hMat, hRow, hx1⟩
  rw [HN.out.1] at hMat hRow ⊢
  have hE1 := hE.trans hx1
  have PB1 := PB.ext hx1
  clear p0 p1 PB hE hx1
  have p0 := PB1.c0
  go_upto_region 4 with (at_make; refine wpList_makeK .i64 8 _ rfl _ _ 74 rfl 3 Tryd.underlying74 infoInt (by decide) _ _ rfl rfl n rfl rfl (by omega) ?_; intro w2 hK2 hx2)
  have hK2 := PickV.ofK hK2
  obtain ⟨kb, hkbe⟩ : ∃ x, x = w1.heap.size := ⟨_, rfl⟩
  rw [← hkbe] at hK2 ⊢
  have hkb : w1.heap.size ≤ kb := by omega
  clear hkbe p0
  go_wp2_with fail
  go_loopw [9] (fun i wr => ∃ j : Nat, j ≤ n ∧ i = .int .i64 j ∧ PickV wr kb n (fun l => if l < j then l else 0) ∧ Ext w1 wr) (fun i _ => n - (intOf i).toNat)
  case atStart => exact ⟨0, by omega, rfl, hK2.congr (fun l _ => by rw [if_neg (by omega)]), hx2⟩
  case round =>
    obtain ⟨j, hj, rfl, hPk, hX⟩ := hrel
    clear hK2 hx2
    by_cases hlt : j < n
    · obtain ⟨t1, t2⟩ := hPk.set hlt j
      have z0 := hPk.frozen j
      have c0 := hPk.cell hlt
      have i1 : (0 : Int) ≤ (j : Int) := by omega
      have i2 : (j : Int) < (n : Int) := by omega
      have hS1 := Lib.hid t1
      have hS2 := Lib.hid t2
      clear t1 t2
      go_wp2_with fail
      go_roundw
      case rel =>
        refine ⟨j + 1, by omega, by go_num, hS1.out.congr (fun l hl => ?_), hS2.out.ext hX (fun b hb => by rw [hb]; exact hkb)⟩
        by_cases e : l = j
        · subst e; rw [if_pos rfl, if_pos (by omega)]
        · rw [if_neg e]
          by_cases h2 : l < j
          · rw [if_pos h2, if_pos (by omega)]
          · rw [if_neg h2, if_neg (by omega)]
      case measure => simp [intOf]; omega
    · obtain rfl : j = n := by omega
      have hPk0 : PickV wr kb j (fun l => (List.range j).getD l 0) := hPk.congr (fun l hl => by rw [if_pos hl, List.getD_eq_getElem?_getD, List.getElem?_range hl]; rfl)
      have hPR0 : Hid (Prog p N 60 (List.range j) (0, 1, false)) := Lib.hid ⟨[], by rw [HALL.out]; rfl, rfl, rfl⟩
      go_wp2_with fail
      clear hPk
      go_loopg [10, 11, 12, 13] 60 (fun k vv vd vf vm wr => ∃ s : Int × Int × Bool, (inC 240000000 s.1 ∧ 0 ≤ s.2.1 ∧ s.2.1 ≤ 1296000) ∧ vv = .int .i64 s.1 ∧ vd = .int .i64 s.2.1 ∧ vf = .bool s.2.2 ∧ ((vm = .bool true ∧ ∃ q : List Nat, 0 < k ∧ Hid (Prog p N k q s) ∧ PickV wr kb j (fun l => q.getD l 0)) ∨ (vm = .bool false ∧ Hid (s = p.best p.all))) ∧ Ext w1 wr)
      case atStart => exact ⟨(0, 1, false), ⟨by unfold inC; show -240000000 ≤ (0 : Int) ∧ (0 : Int) ≤ 240000000; omega, by show (0 : Int) ≤ 1; omega, by show (1 : Int) ≤ 1296000; omega⟩, rfl, rfl, rfl, .inl ⟨rfl, _, by omega, hPR0, hPk0⟩, hX⟩
      case round =>
        clear hPk0 hPR0 hX
        obtain ⟨⟨sv, sd, sf⟩, hsb, rfl, rfl, rfl, hm, hX⟩ := hrel
        simp only at hsb
        show Code.wp _ _ _ _ _
        rcases hm with ⟨rfl, q, hk0, HPR, hPk⟩ | ⟨rfl, HB⟩
        · have hqm := Prog.mem HPR.out hk0
          have HME := Lib.hid (RP.meet_in HOK.out (by omega) HS.out hqm)
          have hpm := picks_mem hn1 hn3 hnN hN8 (by rw [← HALL.out]; exact hqm)
          have HQL : Hid (q.length = j) := Lib.hid hpm.1
          have HQI : Hid (∀ i, i < j → q.getD i 0 < N) := Lib.hid (fun i hi => hpm.2 _ (by rw [List.getD_eq_getElem?_getD, List.getElem?_eq_getElem (by rw [hpm.1]; exact hi)]; exact List.getElem_mem _))
          obtain ⟨f, rfl⟩ : ∃ f, gk = f + 1 := ⟨gk - 1, by omega⟩
          clear hpm hqm
          have p0 := hX.cell PB1.c0
          have p1 := hX.cell PB1.c1
          have hPq : PickV wr kb q.length (fun l => q.getD l 0) := by rw [HQL.out]; exact hPk
          have hmeet := rmeet_b A B N a b kb j p.left p.rhs q _ (hMat.ext hX) (RowE.ext hRow hX) hPq (by rw [HQL.out]; omega) (by omega) (by rw [HQL.out]; omega) (by rw [HQL.out]; omega) (fun i hi => HQI.out i (by rw [← HQL.out]; exact hi)) (fun i hi => by rw [HQL.out, ← HN.out.2]; exact RP.left_len HOK.out (by rw [HN.out.1]; exact hi)) (RP.left_in HS.out) (RP.rhs_in HS.out)
          rw [HQL.out] at hmeet
          have HMT := Lib.hid hmeet
          clear hmeet hPq
          go_wp2_with fail
          refine HMT.out.mono ?_
          rintro e w3 ⟨xb, rfl, hXr, hx3⟩
          rw [HQL.out] at hXr ⊢
          clear HMT
          have HSB2 := Lib.hid (RP.step_in HS.out (s := (sv, sd, sf)) (q := q) (C := 0) HME.out.1 HME.out.2.1 HME.out.2.2 hsb)
          have hME := HME.out
          obtain ⟨dA, hdA⟩ : ∃ x, x = meetA p.left q := ⟨_, rfl⟩
          obtain ⟨xs, hxs⟩ : ∃ x, x = meetX p.left p.rhs q := ⟨_, rfl⟩
          rw [← hxs] at hXr hME
          rw [← hdA] at hME ⊢
          have HST : Hid (p.step (sv, sd, sf) q = if 0 < dA ∧ p.feas xs dA = true then (if sf = false ∨ sv * dA < dotI p.obj xs * sd then (dotI p.obj xs, dA, true) else (sv, sd, sf)) else (sv, sd, sf)) := Lib.hid (by rw [hdA, hxs]; rfl)
          have p0 := (hX.trans hx3).cell PB1.c0
          have p1 := (hX.trans hx3).cell PB1.c1
          have hRP3 := ((h.ext hE1).ext (hX.trans hx3))
          have hdb := hME.1
          unfold inC at hdb
          clear hdA hxs
          by_cases hd : 0 < dA
          · go_wp2_with fail
            refine (rfeas_b _ p _ j j xs dA _ hRP3 HS.out hXr hME.2.1 ⟨by omega, by omega⟩ (by omega)).mono ?_
            rintro e w4 ⟨rfl, hx4⟩
            obtain ⟨F, hF⟩ : ∃ F, F = p.feas xs dA := ⟨_, rfl⟩
            rw [← hF] at HST ⊢
            clear hF p0 p1
            have hx34 := hx3.trans hx4
            cases F with
            | false =>
              have hS : p.step (sv, sd, sf) q = (sv, sd, sf) := by rw [HST.out, if_neg (fun h => by cases h.2)]
              have HSS := Lib.hid hS
              clear hS
              have hXt := hX.trans hx34
              have hPt := hPk.ext hx34
              have hnext := rnext_b kb j N q _ (by rw [HQL.out]; exact hPt) (by rw [HQL.out]; omega) (by omega) (by rw [HQL.out]; omega) (by omega) (fun l hl => by have := HQI.out l (by rw [← HQL.out]; exact hl); omega)
              rw [HQL.out] at hnext
              have HNT := Lib.hid hnext
              clear hnext
              go_wp2_with fail
              refine HNT.out.mono ?_
              clear HNT
              rintro e w7 (⟨rfl, hnx, hx7⟩ | ⟨r, rfl, hnx, hrl, hPr, hFr⟩)
              · have HNX := Lib.hid hnx
                clear hnx
                go_wp2_with fail
                go_roundg f
                case measure => omega
                case rel => exact ⟨(sv, sd, sf), by rw [← HSS.out]; exact HSB2.out, rfl, rfl, rfl, .inr ⟨rfl, Lib.hid ((HSS.out).symm.trans (Prog.done HPR.out HNX.out))⟩, hXt.trans hx7⟩
              · have HNX := Lib.hid hnx
                have hPR2 := Prog.next HPR.out HNX.out HLEN.out
                have HPR2 := Lib.hid hPR2
                have hPr' : PickV w7 kb j (fun l => r.getD l 0) := by rw [HQL.out] at hPr; exact hPr
                clear hnx hPR2 hPr
                go_wp2_with fail
                go_roundg f
                case measure => omega
                case rel => exact ⟨(sv, sd, sf), by rw [← HSS.out]; exact HSB2.out, rfl, rfl, rfl, .inl ⟨rfl, r, HPR2.out.1, Lib.hid (by rw [← HSS.out]; exact HPR2.out.2), hPr'⟩, hFr.ext hXt (fun b hb => by rw [hb]; exact hkb)⟩
            | true =>
              have p0 := (hX.trans hx34).cell PB1.c0
              have p1 := (hX.trans hx34).cell PB1.c1
              go_wp2_with fail
              refine (rvalue_b _ p _ j j xs _ (hRP3.ext hx4) HS.out (RowE.ext hXr hx4) hME.2.1 (by omega)).mono ?_
              rintro e w5 ⟨rfl, hx5⟩
              have hx35 := hx34.trans hx5
              obtain ⟨V, hV⟩ : ∃ V, V = dotI p.obj xs := ⟨_, rfl⟩
              rw [← hV] at HST ⊢
              have hVb : inC 240000000 V := by
                rw [hV]
                unfold dotI
                have h5 := smI_le (n := min p.obj.length xs.length) (C := 60 * 1296000) (by omega) (f := fun i => p.obj.getD i 0 * xs.getD i 0) (fun l _ => abs_mul (HS.out.obj l) (hME.2.1 l) (by omega))
                have h7 : ((min p.obj.length xs.length : Nat) : Int) ≤ 3 := by have := hME.2.2; omega
                have h8 := Int.mul_le_mul_of_nonneg_right h7 (show (0 : Int) ≤ 60 * 1296000 by omega)
                unfold inC; omega
              clear hV p0 p1
              cases sf with
              | false =>
                have hS : p.step (sv, sd, false) q = (V, dA, true) := by rw [HST.out, if_pos ⟨hd, by first | rfl | trivial⟩, if_pos (.inl rfl)]
                clear hVb
                have HSS := Lib.hid hS
                clear hS
                have hXt := hX.trans hx35
                have hPt := hPk.ext hx35
                have hnext := rnext_b kb j N q _ (by rw [HQL.out]; exact hPt) (by rw [HQL.out]; omega) (by omega) (by rw [HQL.out]; omega) (by omega) (fun l hl => by have := HQI.out l (by rw [← HQL.out]; exact hl); omega)
                rw [HQL.out] at hnext
                have HNT := Lib.hid hnext
                clear hnext
                go_wp2_with fail
                refine HNT.out.mono ?_
                clear HNT
                rintro e w7 (⟨rfl, hnx, hx7⟩ | ⟨r, rfl, hnx, hrl, hPr, hFr⟩)
                · have HNX := Lib.hid hnx
                  clear hnx
                  go_wp2_with fail
                  go_roundg f
                  case measure => omega
                  case rel => exact ⟨(V, dA, true), by rw [← HSS.out]; exact HSB2.out, rfl, rfl, rfl, .inr ⟨rfl, Lib.hid ((HSS.out).symm.trans (Prog.done HPR.out HNX.out))⟩, hXt.trans hx7⟩
                · have HNX := Lib.hid hnx
                  have hPR2 := Prog.next HPR.out HNX.out HLEN.out
                  have HPR2 := Lib.hid hPR2
                  have hPr' : PickV w7 kb j (fun l => r.getD l 0) := by rw [HQL.out] at hPr; exact hPr
                  clear hnx hPR2 hPr
                  go_wp2_with fail
                  go_roundg f
                  case measure => omega
                  case rel => exact ⟨(V, dA, true), by rw [← HSS.out]; exact HSB2.out, rfl, rfl, rfl, .inl ⟨rfl, r, HPR2.out.1, Lib.hid (by rw [← HSS.out]; exact HPR2.out.2), hPr'⟩, hFr.ext hXt (fun b hb => by rw [hb]; exact hkb)⟩
              | true =>
                have hm1 := abs_mul hVb (show inC 1296000 sd by unfold inC; omega) (by omega)
                have hm2 := abs_mul hsb.1 (show inC 1296000 dA by unfold inC; omega) (by omega)
                unfold inC at hm1 hm2
                have u1 : IntKind.i64.wrap (V * sd) = V * sd := IntWalk.i64_in _ (by omega)
                have u2 : IntKind.i64.wrap (sv * dA) = sv * dA := IntWalk.i64_in _ (by omega)
                by_cases hlt : sv * dA < V * sd
                · have hS : p.step (sv, sd, true) q = (V, dA, true) := by rw [HST.out, if_pos ⟨hd, by first | rfl | trivial⟩, if_pos (.inr hlt)]
                  clear hVb hm1 hm2
                  have HSS := Lib.hid hS
                  clear hS
                  have hXt := hX.trans hx35
                  have hPt := hPk.ext hx35
                  have hnext := rnext_b kb j N q _ (by rw [HQL.out]; exact hPt) (by rw [HQL.out]; omega) (by omega) (by rw [HQL.out]; omega) (by omega) (fun l hl => by have := HQI.out l (by rw [← HQL.out]; exact hl); omega)
                  rw [HQL.out] at hnext
                  have HNT := Lib.hid hnext
                  clear hnext
                  go_wp2_with fail
                  refine HNT.out.mono ?_
                  clear HNT
                  rintro e w7 (⟨rfl, hnx, hx7⟩ | ⟨r, rfl, hnx, hrl, hPr, hFr⟩)
                  · have HNX := Lib.hid hnx
                    clear hnx
                    go_wp2_with fail
                    go_roundg f
                    case measure => omega
                    case rel => exact ⟨(V, dA, true), by rw [← HSS.out]; exact HSB2.out, rfl, rfl, rfl, .inr ⟨rfl, Lib.hid ((HSS.out).symm.trans (Prog.done HPR.out HNX.out))⟩, hXt.trans hx7⟩
                  · have HNX := Lib.hid hnx
                    have hPR2 := Prog.next HPR.out HNX.out HLEN.out
                    have HPR2 := Lib.hid hPR2
                    have hPr' : PickV w7 kb j (fun l => r.getD l 0) := by rw [HQL.out] at hPr; exact hPr
                    clear hnx hPR2 hPr
                    go_wp2_with fail
                    go_roundg f
                    case measure => omega
                    case rel => exact ⟨(V, dA, true), by rw [← HSS.out]; exact HSB2.out, rfl, rfl, rfl, .inl ⟨rfl, r, HPR2.out.1, Lib.hid (by rw [← HSS.out]; exact HPR2.out.2), hPr'⟩, hFr.ext hXt (fun b hb => by rw [hb]; exact hkb)⟩
                · have hS : p.step (sv, sd, true) q = (sv, sd, true) := by rw [HST.out, if_pos ⟨hd, by first | rfl | trivial⟩, if_neg (fun h => by rcases h with h | h; cases h; exact hlt h)]
                  clear hVb hm1 hm2
                  have HSS := Lib.hid hS
                  clear hS
                  have hXt := hX.trans hx35
                  have hPt := hPk.ext hx35
                  have hnext := rnext_b kb j N q _ (by rw [HQL.out]; exact hPt) (by rw [HQL.out]; omega) (by omega) (by rw [HQL.out]; omega) (by omega) (fun l hl => by have := HQI.out l (by rw [← HQL.out]; exact hl); omega)
                  rw [HQL.out] at hnext
                  have HNT := Lib.hid hnext
                  clear hnext
                  go_wp2_with fail
                  refine HNT.out.mono ?_
                  clear HNT
                  rintro e w7 (⟨rfl, hnx, hx7⟩ | ⟨r, rfl, hnx, hrl, hPr, hFr⟩)
                  · have HNX := Lib.hid hnx
                    clear hnx
                    go_wp2_with fail
                    go_roundg f
                    case measure => omega
                    case rel => exact ⟨(sv, sd, true), by rw [← HSS.out]; exact HSB2.out, rfl, rfl, rfl, .inr ⟨rfl, Lib.hid ((HSS.out).symm.trans (Prog.done HPR.out HNX.out))⟩, hXt.trans hx7⟩
                  · have HNX := Lib.hid hnx
                    have hPR2 := Prog.next HPR.out HNX.out HLEN.out
                    have HPR2 := Lib.hid hPR2
                    have hPr' : PickV w7 kb j (fun l => r.getD l 0) := by rw [HQL.out] at hPr; exact hPr
                    clear hnx hPR2 hPr
                    go_wp2_with fail
                    go_roundg f
                    case measure => omega
                    case rel => exact ⟨(sv, sd, true), by rw [← HSS.out]; exact HSB2.out, rfl, rfl, rfl, .inl ⟨rfl, r, HPR2.out.1, Lib.hid (by rw [← HSS.out]; exact HPR2.out.2), hPr'⟩, hFr.ext hXt (fun b hb => by rw [hb]; exact hkb)⟩
          · have hS : p.step (sv, sd, sf) q = (sv, sd, sf) := by rw [HST.out, if_neg (fun h => hd h.1)]
            have HSS := Lib.hid hS
            clear hS
            have hXt := hX.trans hx3
            have hPt := hPk.ext hx3
            have hnext := rnext_b kb j N q _ (by rw [HQL.out]; exact hPt) (by rw [HQL.out]; omega) (by omega) (by rw [HQL.out]; omega) (by omega) (fun l hl => by have := HQI.out l (by rw [← HQL.out]; exact hl); omega)
            rw [HQL.out] at hnext
            have HNT := Lib.hid hnext
            clear hnext
            go_wp2_with fail
            refine HNT.out.mono ?_
            clear HNT
            rintro e w7 (⟨rfl, hnx, hx7⟩ | ⟨r, rfl, hnx, hrl, hPr, hFr⟩)
            · have HNX := Lib.hid hnx
              clear hnx
              go_wp2_with fail
              go_roundg f
              case measure => omega
              case rel => exact ⟨(sv, sd, sf), by rw [← HSS.out]; exact HSB2.out, rfl, rfl, rfl, .inr ⟨rfl, Lib.hid ((HSS.out).symm.trans (Prog.done HPR.out HNX.out))⟩, hXt.trans hx7⟩
            · have HNX := Lib.hid hnx
              have hPR2 := Prog.next HPR.out HNX.out HLEN.out
              have HPR2 := Lib.hid hPR2
              have hPr' : PickV w7 kb j (fun l => r.getD l 0) := by rw [HQL.out] at hPr; exact hPr
              clear hnx hPR2 hPr
              go_wp2_with fail
              go_roundg f
              case measure => omega
              case rel => exact ⟨(sv, sd, sf), by rw [← HSS.out]; exact HSB2.out, rfl, rfl, rfl, .inl ⟨rfl, r, HPR2.out.1, Lib.hid (by rw [← HSS.out]; exact HPR2.out.2), hPr'⟩, hFr.ext hXt (fun b hb => by rw [hb]; exact hkb)⟩
        · go_wp2_with fail
          refine bodyPost_ret (v := .tuple #[.int .i64 sv, .int .i64 sd, .bool sf]) (by simp [results, Tryd.results57, go_sem]) rfl ?_
          exact ⟨by rw [← HB.out], hE1.trans hX⟩
end Go.Proofs.YtgffcblldebelaaDoor.Lp

/- Walks: rats and whole of the laws of ilp. Plain: what a search answers, by the linear program's answer. -/
import Derived.Test.YthafabkjidifeaaIAW
import Derived.Test.YthafabkjidifeaaIAP
set_option linter.unusedVariables false
set_option linter.unusedSimpArgs false
namespace Go.Proofs.Ythafabkjidifeaa.Lp
open Go.RowKit Go.Proofs.Ythafabkjidifeaa.Big Go.Proofs.Ythafabkjidifeaa.Rt

set_option maxHeartbeats 1000000 in
set_option maxRecDepth 100000 in
theorem rats_b (g n : Nat) (x : Nat → Int) (w : World) (h : Pts w g n x) (hf : ∀ j, j < n → fit (x j) = true) (hn : n ≤ 1048576) :
    Calls Try.prog 30 #[.slice (some ⟨g, 0, none⟩) n n] w (NumsPost w n (fun j => ((x j : Int) : Rat))) := by
  have HF := Lib.hid hf
  clear hf
  obtain ⟨i0, ii, iz0, iz1, iz2⟩ := info_parts infoRat
  go_enter Try.func30, Try.ntmps30
  go_wp2_with fail
  go_loopw [3, 8] (fun v i wr => ∃ k : Nat, k ≤ n ∧ i = .int .i64 k ∧ OwnQ wr w.heap.size v k (fun j => ((x j : Int) : Rat)) ∧ Ext w wr) (fun _ i _ => n - (intOf i).toNat)
  case atStart => exact ⟨0, by omega, rfl, OwnQ.nil _ _ _, Ext.refl w⟩
  case round =>
    obtain ⟨k, hk, rfl, hO, hx⟩ := hrel
    by_cases hlt : k < n
    · have e0 := (h.ext hx).cell hlt
      obtain ⟨v1, v2⟩ := fit_iff.1 (HF.out k hlt)
      have i1 : (0 : Int) ≤ (k : Int) := by omega
      have i2 : (k : Int) < (n : Int) := by omega
      obtain ⟨A1, c1, rfl⟩ := hO.shape
      go_wp2_with fail
      refine (RatOf_b (x k) _ v1 v2).mono ?_
      rintro e w1 ⟨v1, rfl, hb1, hx1⟩
      obtain ⟨p1, B1, m1, d1, p1', B1', m1', d1', rfl⟩ := hb1.1.shape
      have hO1 := (hO.ext hx1).ext ((Ext.refl w1).alloc (.cells #[.bool p1, .slice B1 m1 d1, .bool p1', .slice B1' m1' d1'] 59))
      have hX1 := (hx.trans hx1).alloc (.cells #[.bool p1, .slice B1 m1 d1, .bool p1', .slice B1' m1' d1'] 59)
      have hb2 := hb1.1.ext ((Ext.refl w1).alloc (.cells #[.bool p1, .slice B1 m1 d1, .bool p1', .slice B1' m1' d1'] 59))
      have hN4 := new4 w1 59 (.bool p1) (.slice B1 m1 d1) (.bool p1') (.slice B1' m1' d1')
      obtain ⟨xs, o0, a0⟩ := hO1
      have hsz := hX1.size
      clear e0
      go_upto_region 6 with (at_builtin; go_loud (refine wpList_pushX rfl _ _ 36 rfl w.heap.size 59 i0 _ 4 64 Try.underlying36 ii iz0 iz1 iz2 rfl zR _ k xs rfl o0 w1.heap.size [.bool p1, .slice B1 m1 d1, .bool p1', .slice B1' m1' d1'] 1 rfl rfl hN4 one4 nou4 (by omega) (by decide) hsz ?_); intro v2 w2 o2 r2 s2)
      have hX2 := r2.ext hX1 (fun g hg => (o0.lt hg).1)
      have a2 := At.push o0.1 a0 r2 hb2
      obtain ⟨A2, c2, rfl⟩ := o2.shape
      go_wp2_with fail
      go_roundw
      case rel => first | exact ⟨k + 1, by omega, by go_num, ⟨_, o2, a2⟩, hX2⟩ | ((repeat (apply Exists.intro (α := Value))); exact ⟨⟨k + 1, by omega, by go_num, ⟨_, o2, a2⟩, hX2⟩, rfl⟩)
      case measure => simp [intOf]; omega
    · obtain rfl : k = n := by omega
      obtain ⟨A1, c1, rfl⟩ := hO.shape
      go_wp2_with fail
      go_ret
      exact ⟨A1, c1, rfl, hO.rats, hx⟩
theorem ProbV.frQ {w w' : World} {nb : Nat} {E : TypeId} {x0 : Value} {A : Option Addr} {n c : Nat} {cs : List Value} {v : Value} {p : Prob} (h : ProbV w v p) (r : Fr (fun k => k = nb) w w') (hE : E ≠ 59) (hs : Box w nb E (x0 :: .slice A n c :: cs).toArray) : ProbV w' v p := by
  obtain ⟨Ao, co, Ar, cr, rfl, h1, h2, h3, h4⟩ := h
  refine ⟨Ao, co, Ar, cr, rfl, h1.fr r (box_row hs hE), h2, h3, fun hm => ?_⟩
  obtain ⟨br, e, hr⟩ := h4 hm
  have hne : ¬ (br = nb) := by
    rintro rfl
    obtain ⟨Ac, cc, x, A, d, e', y, A', d', e'', -, g1, -⟩ := hr 0 hm
    have c0 := hs.c1
    rw [Nat.zero_mul] at g1
    rw [g1] at c0
    cases c0
  refine ⟨br, e, fun i hi => ?_⟩
  obtain ⟨Ac, cc, x, A, d, e', y, A', d', e'', g0, g1, g2, g3, g4, g5, k1, k2, k3⟩ := hr i hi
  exact ⟨Ac, cc, x, A, d, e', y, A', d', e'', r.cell hne g0, r.cell hne g1, r.cell hne g2, r.cell hne g3, r.cell hne g4, r.cell hne g5, k1.fr r (box_row hs hE), k2, r.rat k3⟩
/-- a problem without its denominator -/
def IP.nod (p : IP) : IP := ⟨p.obj, p.rows, 0⟩
theorem IP.nod_ok {p : IP} (h : p.ok) : p.nod.ok := ⟨h.1, h.2.1, h.2.2.1, by show 0 ≤ 255; omega, h.2.2.2.2⟩
theorem IPV.nod {w : World} {Ao Ar : Option Addr} {n m co cr : Nat} {d : Int} {p : IP} (h : IPV w (.agg #[.slice Ao n co, .slice Ar m cr, .int .u8 d]) p) : n = p.obj.length ∧ m = p.rows.length ∧ p.obj.length ≤ co ∧ p.rows.length ≤ cr ∧ co ≤ 9223372036854775807 ∧ cr ≤ 9223372036854775807 ∧ IPV w (.agg #[.slice Ao n co, .slice Ar m cr, .int .u8 0]) p.nod := by
  obtain ⟨Ao', co', Ar', cr', e, h1, h2, h3, h4⟩ := h
  injection e with e
  have e := congrArg Array.toList e
  simp only [List.cons.injEq, Value.slice.injEq, and_true] at e
  obtain ⟨⟨rfl, rfl, rfl⟩, ⟨rfl, rfl, rfl⟩, -⟩ := e
  obtain ⟨-, k1, k2, -⟩ := h1.inj
  rw [wV_len] at k1
  exact ⟨rfl, rfl, k1, h2, k2, h3, Ao, co, Ar, cr, rfl, h1, h2, h3, h4⟩
def WhPost (p : IP) (w : World) (e : Ending) (w' : World) : Prop :=
  ∃ Ao no co Ar mo cr ok, e = .returned (.tuple #[.agg #[.slice Ao no co, .slice Ar mo cr], .bool ok]) ∧ Ext w w' ∧ (ok = true → p.obj.length ≤ 6 ∧ p.rows.length ≤ 8 ∧ validB p.nod.pl.toP = true ∧ no = p.nod.pl.toP.n ∧ mo = p.nod.pl.toP.m ∧ ProbV w' (.agg #[.slice Ao no co, .slice Ar mo cr]) p.nod.pl.toP)
set_option maxHeartbeats 2000000 in
set_option maxRecDepth 100000 in
theorem whole_i (v : Value) (p : IP) (w : World) (hv : IPV w v p) (hok : p.ok) : Calls Try.prog 18 #[v] w (WhPost p w) := by
  obtain ⟨Ao, co, Ar, cr, rfl, -⟩ := id hv
  obtain ⟨-, -, a1, a2, a3, a4, hv0⟩ := hv.nod
  obtain ⟨n, hn⟩ : ∃ n, n = p.obj.length := ⟨_, rfl⟩
  obtain ⟨m, hm⟩ : ∃ n, n = p.rows.length := ⟨_, rfl⟩
  obtain ⟨d, hd⟩ : ∃ d : Int, d = (p.den : Int) := ⟨_, rfl⟩
  rw [← hn] at a1 hv0
  rw [← hm] at a2 hv0
  rw [← hn, ← hm, ← hd]
  have HN := Lib.hid hn
  have HM := Lib.hid hm
  clear hn hm hd hv
  have B1 := Box.new w 25 #[.slice Ao n co, .slice Ar m cr, .int .u8 d]
  have B2 := Box.new (w.alloc (.cells #[.slice Ao n co, .slice Ar m cr, .int .u8 d] 25)) 39 #[.slice none 0 0, .slice none 0 0]
  have B1 := B1.alloc (.cells #[.slice none 0 0, .slice none 0 0] 39)
  have hE0 : Ext w ((w.alloc (.cells #[.slice Ao n co, .slice Ar m cr, .int .u8 d] 25)).alloc (.cells #[.slice none 0 0, .slice none 0 0] 39)) := ((Ext.refl w).alloc _).alloc _
  rw [show (w.alloc (.cells #[.slice Ao n co, .slice Ar m cr, .int .u8 d] 25)).heap.size = w.heap.size + 1 by simp] at B2
  go_enter Try.func18, Try.ntmps18
  go_upto_region 1 with fail
  generalize ((w.alloc (.cells #[.slice Ao n co, .slice Ar m cr, .int .u8 d] 25)).alloc (.cells #[.slice none 0 0, .slice none 0 0] 39)) = V at *
  obtain ⟨qb, hqb⟩ : ∃ x, x = w.heap.size + 1 := ⟨_, rfl⟩
  obtain ⟨pb, hpb⟩ : ∃ x, x = w.heap.size := ⟨_, rfl⟩
  rw [← hqb] at B2 ⊢
  rw [← hpb] at B1 ⊢
  have hne : qb ≠ pb := by omega
  have hwq : w.heap.size ≤ qb := by omega
  have hwp : w.heap.size ≤ pb := by omega
  clear hqb hpb
  have z2 := B1.cell 2
  have y2 := B1.frozen 2
  go_upto_region 2 with fail
  have B1 := B1.set 2 (.int .u8 0)
  have B2 := B2.far (p := ⟨pb, 2, none⟩) hne (.int .u8 0)
  have hE1 := hE0.set (p := ⟨pb, 2, none⟩) hwp (.int .u8 0)
  generalize (V.setCell ⟨pb, 2, none⟩ (.int .u8 0)) = V1 at *
  clear z2 y2 hE0
  have c0 : V1.cell? ⟨pb, 0, none⟩ = some (.slice Ao n co) := B1.cell 0
  have c1 : V1.cell? ⟨pb, 1, none⟩ = some (.slice Ar m cr) := B1.cell 1
  have c2 : V1.cell? ⟨pb, 2, none⟩ = some (.int .u8 0) := B1.cell 2
  have z0 := B2.c0
  have z1 := B2.c1
  have y0 := B2.frozen 0
  have y1 := B2.frozen 1
  by_cases hbig : 6 < n ∨ 8 < m
  · have hend : ∀ W, Ext w W → ∀ Ao no co Ar mo cr, WhPost p w (.returned (.tuple #[.agg #[.slice Ao no co, .slice Ar mo cr], .bool false])) W := fun W hW Ao no co Ar mo cr => ⟨Ao, no, co, Ar, mo, cr, false, rfl, hW, fun h => by cases h⟩
    have B3 := (B2.set 0 (.slice none 0 0)).set 1 (.slice none 0 0)
    have hE3 := (hE1.set (p := ⟨qb, 0, none⟩) hwq (.slice none 0 0)).set (p := ⟨qb, 1, none⟩) hwq (.slice none 0 0)
    have r0 := B3.c0
    have r1 := B3.c1
    rcases Nat.lt_or_ge 6 n with h6 | h6
    · have e1 : decide ((6 : Int) < (n : Int)) = true := by simp; omega
      clear hbig h6
      go_wp2_with fail
      refine bodyPost_ret (v := .tuple #[.agg #[.slice none 0 0, .slice none 0 0], .bool false]) (by simp [results, Try.results18, go_sem, r0, r1]) rfl ?_
      exact hend _ hE3 _ _ _ _ _ _
    · have e1 : decide ((6 : Int) < (n : Int)) = false := by simp; omega
      have e2 : decide ((8 : Int) < (m : Int)) = true := by simp; omega
      clear hbig h6
      go_wp2_with fail
      refine bodyPost_ret (v := .tuple #[.agg #[.slice none 0 0, .slice none 0 0], .bool false]) (by simp [results, Try.results18, go_sem, r0, r1]) rfl ?_
      exact hend _ hE3 _ _ _ _ _ _
  · have e1 : decide ((6 : Int) < (n : Int)) = false := by simp; omega
    have e2 : decide ((8 : Int) < (m : Int)) = false := by simp; omega
    have hn6 : n ≤ 6 := by omega
    have hm8 : m ≤ 8 := by omega
    go_upto_region 4 with fail
    clear e1 e2 hbig
    go_wp2_with fail
    refine (Make_b _ p.nod _ (hv0.ext hE1) (IP.nod_ok hok)).mono ?_
    rintro e w2 ⟨v2, a, rfl, hM, hx2⟩
    have hP := hM.prob
    have hvv := hM.val
    obtain ⟨k1, k2⟩ := hM.cap
    have k3 := hM.obj.1
    have k4 := hM.obj.2.1
    clear hM
    obtain ⟨N, hN⟩ : ∃ n, n = p.nod.pl.toP.n := ⟨_, rfl⟩
    obtain ⟨M, hMM⟩ : ∃ n, n = p.nod.pl.toP.m := ⟨_, rfl⟩
    obtain ⟨Ao1, hAo1⟩ : ∃ x, x = a.Ao := ⟨_, rfl⟩
    obtain ⟨co1, hco1⟩ : ∃ x, x = a.co := ⟨_, rfl⟩
    obtain ⟨Ar1, hAr1⟩ : ∃ x, x = a.Ar := ⟨_, rfl⟩
    obtain ⟨cr1, hcr1⟩ : ∃ x, x = a.cr := ⟨_, rfl⟩
    rw [← hAo1, ← hco1, ← hAr1, ← hcr1, ← hN, ← hMM] at hvv
    have HNN := Lib.hid hN
    have HMM := Lib.hid hMM
    clear hAo1 hco1 hAr1 hcr1 hN hMM k1 k2 k3 k4
    subst hvv
    have B2 := B2.ext hx2
    have hE2 := hE1.trans hx2
    clear c0 c1 c2 z0 z1 y0 y1
    go_upto_region 5 with fail
    have QB := Box.new w2 39 #[.slice Ao1 N co1, .slice Ar1 M cr1]
    have hx3 : Ext w2 (w2.alloc (.cells #[.slice Ao1 N co1, .slice Ar1 M cr1] 39)) := (Ext.refl w2).alloc _
    generalize (w2.alloc (.cells #[.slice Ao1 N co1, .slice Ar1 M cr1] 39)) = V3 at *
    obtain ⟨mb, hmb⟩ : ∃ x, x = w2.heap.size := ⟨_, rfl⟩
    rw [← hmb] at QB ⊢
    clear hmb
    have B2 := B2.ext hx3
    have hP3 := hP.ext hx3
    have hE3 := hE2.trans hx3
    have q0 := QB.c0
    have q1 := QB.c1
    obtain ⟨B, hB⟩ : ∃ B, B = validB p.nod.pl.toP := ⟨_, rfl⟩
    have HB := Lib.hid hB
    clear hB hP hx2 hx3 hE1 hE2
    go_region_law (first
      | (go_simp; go_at_call 24; (with_reducible refine (Valid_b _ p.nod.pl.toP _ (hP3.ext (by repeat (first | (with_reducible exact Ext.refl _) | (with_reducible apply Ext.drew) | (with_reducible apply Ext.drewN))))).mono ?_); rintro e wl ⟨rfl, hxl⟩; rw [← HB.out]; (have hlL : Ext V3 wl := Ext.trans (by repeat (first | (with_reducible exact Ext.refl _) | (with_reducible apply Ext.drew) | (with_reducible apply Ext.drewN))) hxl); (have q0 := hlL.cell q0); (have q1 := hlL.cell q1); (have Bl := B2.ext hlL); (have z0 := Bl.c0); (have z1 := Bl.c1); (have y0 := Bl.frozen 0); (have y1 := Bl.frozen 1)))
    all_goals (
      have B4 := (Bl.set 0 (.slice Ao1 N co1)).set 1 (.slice Ar1 M cr1)
      have hF4 : Fr (fun k => k = qb) wl ((wl.setCell ⟨qb, 0, none⟩ (.slice Ao1 N co1)).setCell ⟨qb, 1, none⟩ (.slice Ar1 M cr1)) := ((Fr.refl (fun k => k = qb) wl).set (p := ⟨qb, 0, none⟩) rfl (fun z => by rw [z0]; intro e; cases e) _).set (p := ⟨qb, 1, none⟩) rfl (fun z => by rw [(Bl.set 0 _).cell 1]; intro e; cases e) _
      have hE4 := ((hE3.trans hlL).set (p := ⟨qb, 0, none⟩) hwq (.slice Ao1 N co1)).set (p := ⟨qb, 1, none⟩) hwq (.slice Ar1 M cr1)
      have hP4 := (hP3.ext hlL).frQ hF4 (by decide) Bl
      have r0 := B4.c0
      have r1 := B4.c1
      clear q0 q1 z0 z1 y0 y1
      go_wp2_with fail
      refine bodyPost_ret (v := .tuple #[.agg #[.slice Ao1 N co1, .slice Ar1 M cr1], .bool B]) (by simp [results, Try.results18, go_sem, r0, r1]) rfl ?_
      exact ⟨Ao1, N, co1, Ar1, M, cr1, B, rfl, hE4, fun h => ⟨by rw [← HN.out]; exact hn6, by rw [← HM.out]; exact hm8, by rw [← HB.out]; exact h, HNN.out, HMM.out, hP4⟩⟩)
end Go.Proofs.Ythafabkjidifeaa.Lp

namespace Go.Proofs.Ythafabkjidifeaa.Lp
open Go.RowKit Go.Proofs.Ythafabkjidifeaa.Big Go.Proofs.Ythafabkjidifeaa.Rt

theorem nodeF_err {L k : Nat} {p : Prob} {s : BS} {c : Int} (h : nodeF L k p s = .error c) : c = 13 ∨ c = 18 ∨ c = 2 := by
  induction k generalizing p s with
  | zero =>
    have h : (Except.error 13 : Except Int (BT × BS)) = .error c := h
    injection h with h
    exact .inl h.symm
  | succ k ih =>
    by_cases hL : L ≤ s.solved
    · rw [nodeF_full hL] at h
      injection h with h
      exact .inl h.symm
    · cases es : p.sol with
      | inf y => rw [nodeF_inf hL es] at h; cases h
      | unb =>
        rw [nodeF_unb hL es] at h
        injection h with h
        exact .inr (.inl h.symm)
      | opt z x y =>
        cases hc : s.cut z with
        | true => rw [nodeF_cut hL es hc] at h; cases h
        | false =>
          cases hf : fracV x p.n with
          | none =>
            cases hb : (fitsV x p.n && fit z.floor) with
            | false =>
              rw [nodeF_unfit hL es hc hf hb] at h
              injection h with h
              exact .inr (.inr h.symm)
            | true =>
              rw [Bool.and_eq_true] at hb
              rw [nodeF_best hL es hc hf hb.1 hb.2] at h
              cases h
          | some v =>
            cases hb : fit (x v).floor with
            | false =>
              rw [nodeF_big hL es hc hf hb] at h
              injection h with h
              exact .inr (.inr h.symm)
            | true =>
              cases h1 : nodeF L k (p.side v (x v).floor false) s.tick with
              | error c1 =>
                rw [nodeF_low hL es hc hf hb h1] at h
                injection h with h
                subst h
                exact ih h1
              | ok q1 =>
                obtain ⟨lo, s1⟩ := q1
                cases h2 : nodeF L k (p.side v (x v).floor true) s1 with
                | error c2 =>
                  rw [nodeF_high hL es hc hf hb h1 h2] at h
                  injection h with h
                  subst h
                  exact ih h2
                | ok q2 =>
                  obtain ⟨hi, s2⟩ := q2
                  rw [nodeF_both hL es hc hf hb h1 h2] at h
                  cases h
theorem solveR_eq {L : Nat} {p : Prob} (hv : validB p = true) (hi : intB p = true) : solveR L p = resR (solveF L p) := by unfold solveR; rw [if_pos ⟨hv, hi⟩]
theorem solveR_inf {L : Nat} {p : Prob} {y : Nat → Rat} (hL : 0 < L) (hv : validB p = true) (hi : intB p = true) (h : p.sol = .inf y) : solveR L p = .fail 17 := by
  rw [solveR_eq hv hi]
  have : solveF L p = .ok (.leaf true p.m y, BS.tick ⟨0, none⟩) := nodeF_inf (by show ¬ L ≤ 0; omega) h
  rw [this]
  exact resR_none rfl
theorem solveR_unb {L : Nat} {p : Prob} (hL : 0 < L) (hv : validB p = true) (hi : intB p = true) (h : p.sol = .unb) : solveR L p = .fail 18 := by
  rw [solveR_eq hv hi]
  have : solveF L p = .error 18 := nodeF_unb (by show ¬ L ≤ 0; omega) h
  rw [this]
  rfl
theorem solveR_fail {L : Nat} {p : Prob} {c : Int} (h : solveR L p = .fail c) : c = 3 ∨ c = 13 ∨ c = 18 ∨ c = 2 ∨ c = 17 := by
  unfold solveR at h
  split at h
  · cases hr : solveF L p with
    | error e =>
      rw [hr] at h
      have h : SRes.fail e = .fail c := h
      injection h with h
      subst h
      rcases nodeF_err hr with h | h | h <;> simp [h]
    | ok q =>
      obtain ⟨t, s⟩ := q
      rw [hr] at h
      cases hb : s.best with
      | none =>
        rw [resR_none hb] at h
        injection h with h
        simp [← h]
      | some q =>
        obtain ⟨v, x⟩ := q
        rw [resR_some hb] at h
        cases h
  · injection h with h
    exact .inl h.symm
/-- a search that finds a point -/
structure Found (L : Nat) (p : Prob) (v : Int) (x : Nat → Int) (t : BT) : Prop where
  feas : p.FeasI x
  obj : p.objI x = (v : Rat)
  fitv : fit v = true
  fitx : ∀ j, j < p.n → fit (x j) = true
  best : ∀ u, p.FeasI u → p.objI u ≤ (v : Rat)
  tree : t.Ok p (some v)
  eq : ∃ s, solveF L p = .ok (t, s) ∧ s.best = some (v, x)
  sol : ∃ z a y, p.sol = .opt z a y ∧ (v : Rat) ≤ z
theorem solveR_done {L : Nat} {p : Prob} {v : Int} {x : Nat → Int} {t : BT} (hL : 0 < L) (h : solveR L p = .done v x t) : Found L p v x t := by
  have hvi : validB p = true ∧ intB p = true := by
    unfold solveR at h
    split at h
    · next hc => exact hc
    · cases h
  have hv := (validB_iff.1 hvi.1).vrel
  have ho := intObj_of hvi.2
  have h0 := h
  rw [solveR_eq hvi.1 hvi.2] at h
  cases hr : solveF L p with
  | error e => rw [hr] at h; cases h
  | ok q =>
    obtain ⟨t', s⟩ := q
    rw [hr] at h
    cases hb : s.best with
    | none => rw [resR_none hb] at h; cases h
    | some q =>
      obtain ⟨v', x'⟩ := q
      rw [resR_some hb] at h
      injection h with e1 e2 e3
      subst e1 e2 e3
      obtain ⟨g1, g2, g3⟩ := solveF_best hv ho hr
      obtain ⟨a1, a2, a3, a4, a5⟩ := g2 _ _ hb
      refine ⟨a1, a2, a3, a4, a5, ?_, ⟨s, hr, hb⟩, ?_⟩
      · unfold BS.val at g1
        rw [hb] at g1
        exact g1
      · cases es : p.sol with
        | inf y => rw [solveR_inf hL hvi.1 hvi.2 es] at h0; cases h0
        | unb => rw [solveR_unb hL hvi.1 hvi.2 es] at h0; cases h0
        | opt z a y =>
          refine ⟨z, a, y, rfl, ?_⟩
          have hI := Prob.is hv
          rw [es] at hI
          rcases hI with ⟨-, -, h⟩ | ⟨h, -⟩ | ⟨h, -⟩
          · exact h _ ⟨_, a1, a2⟩
          · cases h
          · cases h
theorem den_int (z : Int) : (z : Rat).den = 1 := rfl
theorem IP.int {ip : IP} (hd : ip.den = 0) : intB ip.pl.toP = true := by
  have hq : ∀ (l : List Int) j, ((l.map (qn · ip.den)).getD j 0).den = 1 := fun l j => by
    rw [hd]
    rw [List.getD_eq_getElem?_getD, List.getElem?_map]
    cases l[j]? with
    | none => rfl
    | some a => show (qn a 0).den = 1; rw [qn_int]; rfl
  unfold intB
  rw [Bool.and_eq_true]
  refine ⟨intL_iff.2 fun j hj => hq _ _, intR_iff.2 fun i hi => ?_⟩
  obtain ⟨r, h1, h2⟩ := IP.row_some hi
  have e1 : ip.pl.toP.right i = qn r.right ip.den := by show (ip.pl.rows.getD i RL.zero).right = _; rw [h2]; rfl
  refine ⟨by rw [e1, hd, qn_int]; rfl, fun j hj => ?_⟩
  show ((ip.pl.rows.getD i RL.zero).coef.getD j 0).den = 1
  rw [h2]
  exact hq _ _
end Go.Proofs.Ythafabkjidifeaa.Lp

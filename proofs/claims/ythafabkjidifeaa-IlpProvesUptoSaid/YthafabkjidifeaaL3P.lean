/- Walks: rats and whole of the laws of ilp. Plain: what a search answers, by the linear program's answer. Walk: Size of ilp. The law IlpProves, walked. -/
import Derived.Test.YthafabkjidifeaaIAW
import Derived.Test.YthafabkjidifeaaIAP
import Derived.Test.YthafabkjidifeaaIZ0
import Derived.Test.YthafabkjidifeaaIQ2
set_option linter.unusedVariables false
set_option linter.unusedSimpArgs false
namespace Go.Proofs.Ythafabkjidifeaa.Lp
open Go.RowKit Go.Proofs.Ythafabkjidifeaa.Big Go.Proofs.Ythafabkjidifeaa.Rt

set_option maxHeartbeats 1000000 in
set_option maxRecDepth 100000 in
theorem rats_b (g n : Nat) (x : Nat → Int) (w : World) (h : Pts w g n x) (hf : ∀ j, j < n → fit (x j) = true) (hn : n ≤ 1048576) :
    Calls Try.prog 30 #[.slice (some ⟨g, 0, none⟩) n n] w (NumsPost w n (fun j => ((x j : Int) : Rat))) := by
  have HF := Lib.hid hf
  clear hf
  obtain ⟨i0, ii, iz0, iz1, iz2⟩ := info_parts infoRat
  go_enter Try.func30, Try.ntmps30
  go_wp2_with fail
  go_loopw [3, 8] (fun v i wr => ∃ k : Nat, k ≤ n ∧ i = .int .i64 k ∧ OwnQ wr w.heap.size v k (fun j => ((x j : Int) : Rat)) ∧ Ext w wr) (fun _ i _ => n - (intOf i).toNat)
  case atStart => exact ⟨0, by omega, rfl, OwnQ.nil _ _ _, Ext.refl w⟩
  case round =>
    obtain ⟨k, hk, rfl, hO, hx⟩ := hrel
    by_cases hlt : k < n
    · have e0 := (h.ext hx).cell hlt
      obtain ⟨v1, v2⟩ := fit_iff.1 (HF.out k hlt)
      have i1 : (0 : Int) ≤ (k : Int) := by omega
      have i2 : (k : Int) < (n : Int) := by omega
      obtain ⟨A1, c1, rfl⟩ := hO.shape
      go_wp2_with fail
      refine (RatOf_b (x k) _ v1 v2).mono ?_
      rintro e w1 ⟨v1, rfl, hb1, hx1⟩
      obtain ⟨p1, B1, m1, d1, p1', B1', m1', d1', rfl⟩ := hb1.1.shape
      have hO1 := (hO.ext hx1).ext ((Ext.refl w1).alloc (.cells #[.bool p1, .slice B1 m1 d1, .bool p1', .slice B1' m1' d1'] 59))
      have hX1 := (hx.trans hx1).alloc (.cells #[.bool p1, .slice B1 m1 d1, .bool p1', .slice B1' m1' d1'] 59)
      have hb2 := hb1.1.ext ((Ext.refl w1).alloc (.cells #[.bool p1, .slice B1 m1 d1, .bool p1', .slice B1' m1' d1'] 59))
      have hN4 := new4 w1 59 (.bool p1) (.slice B1 m1 d1) (.bool p1') (.slice B1' m1' d1')
      obtain ⟨xs, o0, a0⟩ := hO1
      have hsz := hX1.size
      clear e0
      go_upto_region 6 with (at_builtin; go_loud (refine wpList_pushX rfl _ _ 36 rfl w.heap.size 59 i0 _ 4 64 Try.underlying36 ii iz0 iz1 iz2 rfl zR _ k xs rfl o0 w1.heap.size [.bool p1, .slice B1 m1 d1, .bool p1', .slice B1' m1' d1'] 1 rfl rfl hN4 one4 nou4 (by omega) (by decide) hsz ?_); intro v2 w2 o2 r2 s2)
      have hX2 := r2.ext hX1 (fun g hg => (o0.lt hg).1)
      have a2 := At.push o0.1 a0 r2 hb2
      obtain ⟨A2, c2, rfl⟩ := o2.shape
      go_wp2_with fail
      go_roundw
      case rel => first | exact ⟨k + 1, by omega, by go_num, ⟨_, o2, a2⟩, hX2⟩ | ((repeat (apply Exists.intro (α := Value))); exact ⟨⟨k + 1, by omega, by go_num, ⟨_, o2, a2⟩, hX2⟩, rfl⟩)
      case measure => simp [intOf]; omega
    · obtain rfl : k = n := by omega
      obtain ⟨A1, c1, rfl⟩ := hO.shape
      go_wp2_with fail
      go_ret
      exact ⟨A1, c1, rfl, hO.rats, hx⟩
theorem ProbV.frQ {w w' : World} {nb : Nat} {E : TypeId} {x0 : Value} {A : Option Addr} {n c : Nat} {cs : List Value} {v : Value} {p : Prob} (h : ProbV w v p) (r : Fr (fun k => k = nb) w w') (hE : E ≠ 59) (hs : Box w nb E (x0 :: .slice A n c :: cs).toArray) : ProbV w' v p := by
  obtain ⟨Ao, co, Ar, cr, rfl, h1, h2, h3, h4⟩ := h
  refine ⟨Ao, co, Ar, cr, rfl, h1.fr r (box_row hs hE), h2, h3, fun hm => ?_⟩
  obtain ⟨br, e, hr⟩ := h4 hm
  have hne : ¬ (br = nb) := by
    rintro rfl
    obtain ⟨Ac, cc, x, A, d, e', y, A', d', e'', -, g1, -⟩ := hr 0 hm
    have c0 := hs.c1
    rw [Nat.zero_mul] at g1
    rw [g1] at c0
    cases c0
  refine ⟨br, e, fun i hi => ?_⟩
  obtain ⟨Ac, cc, x, A, d, e', y, A', d', e'', g0, g1, g2, g3, g4, g5, k1, k2, k3⟩ := hr i hi
  exact ⟨Ac, cc, x, A, d, e', y, A', d', e'', r.cell hne g0, r.cell hne g1, r.cell hne g2, r.cell hne g3, r.cell hne g4, r.cell hne g5, k1.fr r (box_row hs hE), k2, r.rat k3⟩
/-- a problem without its denominator -/
def IP.nod (p : IP) : IP := ⟨p.obj, p.rows, 0⟩
theorem IP.nod_ok {p : IP} (h : p.ok) : p.nod.ok := ⟨h.1, h.2.1, h.2.2.1, by show 0 ≤ 255; omega, h.2.2.2.2⟩
theorem IPV.nod {w : World} {Ao Ar : Option Addr} {n m co cr : Nat} {d : Int} {p : IP} (h : IPV w (.agg #[.slice Ao n co, .slice Ar m cr, .int .u8 d]) p) : n = p.obj.length ∧ m = p.rows.length ∧ p.obj.length ≤ co ∧ p.rows.length ≤ cr ∧ co ≤ 9223372036854775807 ∧ cr ≤ 9223372036854775807 ∧ IPV w (.agg #[.slice Ao n co, .slice Ar m cr, .int .u8 0]) p.nod := by
  obtain ⟨Ao', co', Ar', cr', e, h1, h2, h3, h4⟩ := h
  injection e with e
  have e := congrArg Array.toList e
  simp only [List.cons.injEq, Value.slice.injEq, and_true] at e
  obtain ⟨⟨rfl, rfl, rfl⟩, ⟨rfl, rfl, rfl⟩, -⟩ := e
  obtain ⟨-, k1, k2, -⟩ := h1.inj
  rw [wV_len] at k1
  exact ⟨rfl, rfl, k1, h2, k2, h3, Ao, co, Ar, cr, rfl, h1, h2, h3, h4⟩
def WhPost (p : IP) (w : World) (e : Ending) (w' : World) : Prop :=
  ∃ Ao no co Ar mo cr ok, e = .returned (.tuple #[.agg #[.slice Ao no co, .slice Ar mo cr], .bool ok]) ∧ Ext w w' ∧ (ok = true → p.obj.length ≤ 6 ∧ p.rows.length ≤ 8 ∧ validB p.nod.pl.toP = true ∧ no = p.nod.pl.toP.n ∧ mo = p.nod.pl.toP.m ∧ ProbV w' (.agg #[.slice Ao no co, .slice Ar mo cr]) p.nod.pl.toP)
set_option maxHeartbeats 2000000 in
set_option maxRecDepth 100000 in
theorem whole_i (v : Value) (p : IP) (w : World) (hv : IPV w v p) (hok : p.ok) : Calls Try.prog 18 #[v] w (WhPost p w) := by
  obtain ⟨Ao, co, Ar, cr, rfl, -⟩ := id hv
  obtain ⟨-, -, a1, a2, a3, a4, hv0⟩ := hv.nod
  obtain ⟨n, hn⟩ : ∃ n, n = p.obj.length := ⟨_, rfl⟩
  obtain ⟨m, hm⟩ : ∃ n, n = p.rows.length := ⟨_, rfl⟩
  obtain ⟨d, hd⟩ : ∃ d : Int, d = (p.den : Int) := ⟨_, rfl⟩
  rw [← hn] at a1 hv0
  rw [← hm] at a2 hv0
  rw [← hn, ← hm, ← hd]
  have HN := Lib.hid hn
  have HM := Lib.hid hm
  clear hn hm hd hv
  have B1 := Box.new w 25 #[.slice Ao n co, .slice Ar m cr, .int .u8 d]
  have B2 := Box.new (w.alloc (.cells #[.slice Ao n co, .slice Ar m cr, .int .u8 d] 25)) 39 #[.slice none 0 0, .slice none 0 0]
  have B1 := B1.alloc (.cells #[.slice none 0 0, .slice none 0 0] 39)
  have hE0 : Ext w ((w.alloc (.cells #[.slice Ao n co, .slice Ar m cr, .int .u8 d] 25)).alloc (.cells #[.slice none 0 0, .slice none 0 0] 39)) := ((Ext.refl w).alloc _).alloc _
  rw [show (w.alloc (.cells #[.slice Ao n co, .slice Ar m cr, .int .u8 d] 25)).heap.size = w.heap.size + 1 by simp] at B2
  go_enter Try.func18, Try.ntmps18
  go_upto_region 1 with fail
  generalize ((w.alloc (.cells #[.slice Ao n co, .slice Ar m cr, .int .u8 d] 25)).alloc (.cells #[.slice none 0 0, .slice none 0 0] 39)) = V at *
  obtain ⟨qb, hqb⟩ : ∃ x, x = w.heap.size + 1 := ⟨_, rfl⟩
  obtain ⟨pb, hpb⟩ : ∃ x, x = w.heap.size := ⟨_, rfl⟩
  rw [← hqb] at B2 ⊢
  rw [← hpb] at B1 ⊢
  have hne : qb ≠ pb := by omega
  have hwq : w.heap.size ≤ qb := by omega
  have hwp : w.heap.size ≤ pb := by omega
  clear hqb hpb
  have z2 := B1.cell 2
  have y2 := B1.frozen 2
  go_upto_region 2 with fail
  have B1 := B1.set 2 (.int .u8 0)
  have B2 := B2.far (p := ⟨pb, 2, none⟩) hne (.int .u8 0)
  have hE1 := hE0.set (p := ⟨pb, 2, none⟩) hwp (.int .u8 0)
  generalize (V.setCell ⟨pb, 2, none⟩ (.int .u8 0)) = V1 at *
  clear z2 y2 hE0
  have c0 : V1.cell? ⟨pb, 0, none⟩ = some (.slice Ao n co) := B1.cell 0
  have c1 : V1.cell? ⟨pb, 1, none⟩ = some (.slice Ar m cr) := B1.cell 1
  have c2 : V1.cell? ⟨pb, 2, none⟩ = some (.int .u8 0) := B1.cell 2
  have z0 := B2.c0
  have z1 := B2.c1
  have y0 := B2.frozen 0
  have y1 := B2.frozen 1
  by_cases hbig : 6 < n ∨ 8 < m
  · have hend : ∀ W, Ext w W → ∀ Ao no co Ar mo cr, WhPost p w (.returned (.tuple #[.agg #[.slice Ao no co, .slice Ar mo cr], .bool false])) W := fun W hW Ao no co Ar mo cr => ⟨Ao, no, co, Ar, mo, cr, false, rfl, hW, fun h => by cases h⟩
    have B3 := (B2.set 0 (.slice none 0 0)).set 1 (.slice none 0 0)
    have hE3 := (hE1.set (p := ⟨qb, 0, none⟩) hwq (.slice none 0 0)).set (p := ⟨qb, 1, none⟩) hwq (.slice none 0 0)
    have r0 := B3.c0
    have r1 := B3.c1
    rcases Nat.lt_or_ge 6 n with h6 | h6
    · have e1 : decide ((6 : Int) < (n : Int)) = true := by simp; omega
      clear hbig h6
      go_wp2_with fail
      refine bodyPost_ret (v := .tuple #[.agg #[.slice none 0 0, .slice none 0 0], .bool false]) (by simp [results, Try.results18, go_sem, r0, r1]) rfl ?_
      exact hend _ hE3 _ _ _ _ _ _
    · have e1 : decide ((6 : Int) < (n : Int)) = false := by simp; omega
      have e2 : decide ((8 : Int) < (m : Int)) = true := by simp; omega
      clear hbig h6
      go_wp2_with fail
      refine bodyPost_ret (v := .tuple #[.agg #[.slice none 0 0, .slice none 0 0], .bool false]) (by simp [results, Try.results18, go_sem, r0, r1]) rfl ?_
      exact hend _ hE3 _ _ _ _ _ _
  · have e1 : decide ((6 : Int) < (n : Int)) = false := by simp; omega
    have e2 : decide ((8 : Int) < (m : Int)) = false := by simp; omega
    have hn6 : n ≤ 6 := by omega
    have hm8 : m ≤ 8 := by omega
    go_upto_region 4 with fail
    clear e1 e2 hbig
    go_wp2_with fail
    refine (Make_b _ p.nod _ (hv0.ext hE1) (IP.nod_ok hok)).mono ?_
    rintro e w2 ⟨v2, a, rfl, hM, hx2⟩
    have hP := hM.prob
    have hvv := hM.val
    obtain ⟨k1, k2⟩ := hM.cap
    have k3 := hM.obj.1
    have k4 := hM.obj.2.1
    clear hM
    obtain ⟨N, hN⟩ : ∃ n, n = p.nod.pl.toP.n := ⟨_, rfl⟩
    obtain ⟨M, hMM⟩ : ∃ n, n = p.nod.pl.toP.m := ⟨_, rfl⟩
    obtain ⟨Ao1, hAo1⟩ : ∃ x, x = a.Ao := ⟨_, rfl⟩
    obtain ⟨co1, hco1⟩ : ∃ x, x = a.co := ⟨_, rfl⟩
    obtain ⟨Ar1, hAr1⟩ : ∃ x, x = a.Ar := ⟨_, rfl⟩
    obtain ⟨cr1, hcr1⟩ : ∃ x, x = a.cr := ⟨_, rfl⟩
    rw [← hAo1, ← hco1, ← hAr1, ← hcr1, ← hN, ← hMM] at hvv
    have HNN := Lib.hid hN
    have HMM := Lib.hid hMM
    clear hAo1 hco1 hAr1 hcr1 hN hMM k1 k2 k3 k4
    subst hvv
    have B2 := B2.ext hx2
    have hE2 := hE1.trans hx2
    clear c0 c1 c2 z0 z1 y0 y1
    go_upto_region 5 with fail
    have QB := Box.new w2 39 #[.slice Ao1 N co1, .slice Ar1 M cr1]
    have hx3 : Ext w2 (w2.alloc (.cells #[.slice Ao1 N co1, .slice Ar1 M cr1] 39)) := (Ext.refl w2).alloc _
    generalize (w2.alloc (.cells #[.slice Ao1 N co1, .slice Ar1 M cr1] 39)) = V3 at *
    obtain ⟨mb, hmb⟩ : ∃ x, x = w2.heap.size := ⟨_, rfl⟩
    rw [← hmb] at QB ⊢
    clear hmb
    have B2 := B2.ext hx3
    have hP3 := hP.ext hx3
    have hE3 := hE2.trans hx3
    have q0 := QB.c0
    have q1 := QB.c1
    obtain ⟨B, hB⟩ : ∃ B, B = validB p.nod.pl.toP := ⟨_, rfl⟩
    have HB := Lib.hid hB
    clear hB hP hx2 hx3 hE1 hE2
    go_region_law (first
      | (go_simp; go_at_call 24; (with_reducible refine (Valid_b _ p.nod.pl.toP _ (hP3.ext (by repeat (first | (with_reducible exact Ext.refl _) | (with_reducible apply Ext.drew) | (with_reducible apply Ext.drewN))))).mono ?_); rintro e wl ⟨rfl, hxl⟩; rw [← HB.out]; (have hlL : Ext V3 wl := Ext.trans (by repeat (first | (with_reducible exact Ext.refl _) | (with_reducible apply Ext.drew) | (with_reducible apply Ext.drewN))) hxl); (have q0 := hlL.cell q0); (have q1 := hlL.cell q1); (have Bl := B2.ext hlL); (have z0 := Bl.c0); (have z1 := Bl.c1); (have y0 := Bl.frozen 0); (have y1 := Bl.frozen 1)))
    all_goals (
      have B4 := (Bl.set 0 (.slice Ao1 N co1)).set 1 (.slice Ar1 M cr1)
      have hF4 : Fr (fun k => k = qb) wl ((wl.setCell ⟨qb, 0, none⟩ (.slice Ao1 N co1)).setCell ⟨qb, 1, none⟩ (.slice Ar1 M cr1)) := ((Fr.refl (fun k => k = qb) wl).set (p := ⟨qb, 0, none⟩) rfl (fun z => by rw [z0]; intro e; cases e) _).set (p := ⟨qb, 1, none⟩) rfl (fun z => by rw [(Bl.set 0 _).cell 1]; intro e; cases e) _
      have hE4 := ((hE3.trans hlL).set (p := ⟨qb, 0, none⟩) hwq (.slice Ao1 N co1)).set (p := ⟨qb, 1, none⟩) hwq (.slice Ar1 M cr1)
      have hP4 := (hP3.ext hlL).frQ hF4 (by decide) Bl
      have r0 := B4.c0
      have r1 := B4.c1
      clear q0 q1 z0 z1 y0 y1
      go_wp2_with fail
      refine bodyPost_ret (v := .tuple #[.agg #[.slice Ao1 N co1, .slice Ar1 M cr1], .bool B]) (by simp [results, Try.results18, go_sem, r0, r1]) rfl ?_
      exact ⟨Ao1, N, co1, Ar1, M, cr1, B, rfl, hE4, fun h => ⟨by rw [← HN.out]; exact hn6, by rw [← HM.out]; exact hm8, by rw [← HB.out]; exact h, HNN.out, HMM.out, hP4⟩⟩)
end Go.Proofs.Ythafabkjidifeaa.Lp

namespace Go.Proofs.Ythafabkjidifeaa.Lp
open Go.RowKit Go.Proofs.Ythafabkjidifeaa.Big Go.Proofs.Ythafabkjidifeaa.Rt

theorem nodeF_err {L k : Nat} {p : Prob} {s : BS} {c : Int} (h : nodeF L k p s = .error c) : c = 13 ∨ c = 18 ∨ c = 2 := by
  induction k generalizing p s with
  | zero =>
    have h : (Except.error 13 : Except Int (BT × BS)) = .error c := h
    injection h with h
    exact .inl h.symm
  | succ k ih =>
    by_cases hL : L ≤ s.solved
    · rw [nodeF_full hL] at h
      injection h with h
      exact .inl h.symm
    · cases es : p.sol with
      | inf y => rw [nodeF_inf hL es] at h; cases h
      | unb =>
        rw [nodeF_unb hL es] at h
        injection h with h
        exact .inr (.inl h.symm)
      | opt z x y =>
        cases hc : s.cut z with
        | true => rw [nodeF_cut hL es hc] at h; cases h
        | false =>
          cases hf : fracV x p.n with
          | none =>
            cases hb : (fitsV x p.n && fit z.floor) with
            | false =>
              rw [nodeF_unfit hL es hc hf hb] at h
              injection h with h
              exact .inr (.inr h.symm)
            | true =>
              rw [Bool.and_eq_true] at hb
              rw [nodeF_best hL es hc hf hb.1 hb.2] at h
              cases h
          | some v =>
            cases hb : fit (x v).floor with
            | false =>
              rw [nodeF_big hL es hc hf hb] at h
              injection h with h
              exact .inr (.inr h.symm)
            | true =>
              cases h1 : nodeF L k (p.side v (x v).floor false) s.tick with
              | error c1 =>
                rw [nodeF_low hL es hc hf hb h1] at h
                injection h with h
                subst h
                exact ih h1
              | ok q1 =>
                obtain ⟨lo, s1⟩ := q1
                cases h2 : nodeF L k (p.side v (x v).floor true) s1 with
                | error c2 =>
                  rw [nodeF_high hL es hc hf hb h1 h2] at h
                  injection h with h
                  subst h
                  exact ih h2
                | ok q2 =>
                  obtain ⟨hi, s2⟩ := q2
                  rw [nodeF_both hL es hc hf hb h1 h2] at h
                  cases h
theorem solveR_eq {L : Nat} {p : Prob} (hv : validB p = true) (hi : intB p = true) : solveR L p = resR (solveF L p) := by unfold solveR; rw [if_pos ⟨hv, hi⟩]
theorem solveR_inf {L : Nat} {p : Prob} {y : Nat → Rat} (hL : 0 < L) (hv : validB p = true) (hi : intB p = true) (h : p.sol = .inf y) : solveR L p = .fail 17 := by
  rw [solveR_eq hv hi]
  have : solveF L p = .ok (.leaf true p.m y, BS.tick ⟨0, none⟩) := nodeF_inf (by show ¬ L ≤ 0; omega) h
  rw [this]
  exact resR_none rfl
theorem solveR_unb {L : Nat} {p : Prob} (hL : 0 < L) (hv : validB p = true) (hi : intB p = true) (h : p.sol = .unb) : solveR L p = .fail 18 := by
  rw [solveR_eq hv hi]
  have : solveF L p = .error 18 := nodeF_unb (by show ¬ L ≤ 0; omega) h
  rw [this]
  rfl
theorem solveR_fail {L : Nat} {p : Prob} {c : Int} (h : solveR L p = .fail c) : c = 3 ∨ c = 13 ∨ c = 18 ∨ c = 2 ∨ c = 17 := by
  unfold solveR at h
  split at h
  · cases hr : solveF L p with
    | error e =>
      rw [hr] at h
      have h : SRes.fail e = .fail c := h
      injection h with h
      subst h
      rcases nodeF_err hr with h | h | h <;> simp [h]
    | ok q =>
      obtain ⟨t, s⟩ := q
      rw [hr] at h
      cases hb : s.best with
      | none =>
        rw [resR_none hb] at h
        injection h with h
        simp [← h]
      | some q =>
        obtain ⟨v, x⟩ := q
        rw [resR_some hb] at h
        cases h
  · injection h with h
    exact .inl h.symm
/-- a search that finds a point -/
structure Found (L : Nat) (p : Prob) (v : Int) (x : Nat → Int) (t : BT) : Prop where
  feas : p.FeasI x
  obj : p.objI x = (v : Rat)
  fitv : fit v = true
  fitx : ∀ j, j < p.n → fit (x j) = true
  best : ∀ u, p.FeasI u → p.objI u ≤ (v : Rat)
  tree : t.Ok p (some v)
  eq : ∃ s, solveF L p = .ok (t, s) ∧ s.best = some (v, x)
  sol : ∃ z a y, p.sol = .opt z a y ∧ (v : Rat) ≤ z
theorem solveR_done {L : Nat} {p : Prob} {v : Int} {x : Nat → Int} {t : BT} (hL : 0 < L) (h : solveR L p = .done v x t) : Found L p v x t := by
  have hvi : validB p = true ∧ intB p = true := by
    unfold solveR at h
    split at h
    · next hc => exact hc
    · cases h
  have hv := (validB_iff.1 hvi.1).vrel
  have ho := intObj_of hvi.2
  have h0 := h
  rw [solveR_eq hvi.1 hvi.2] at h
  cases hr : solveF L p with
  | error e => rw [hr] at h; cases h
  | ok q =>
    obtain ⟨t', s⟩ := q
    rw [hr] at h
    cases hb : s.best with
    | none => rw [resR_none hb] at h; cases h
    | some q =>
      obtain ⟨v', x'⟩ := q
      rw [resR_some hb] at h
      injection h with e1 e2 e3
      subst e1 e2 e3
      obtain ⟨g1, g2, g3⟩ := solveF_best hv ho hr
      obtain ⟨a1, a2, a3, a4, a5⟩ := g2 _ _ hb
      refine ⟨a1, a2, a3, a4, a5, ?_, ⟨s, hr, hb⟩, ?_⟩
      · unfold BS.val at g1
        rw [hb] at g1
        exact g1
      · cases es : p.sol with
        | inf y => rw [solveR_inf hL hvi.1 hvi.2 es] at h0; cases h0
        | unb => rw [solveR_unb hL hvi.1 hvi.2 es] at h0; cases h0
        | opt z a y =>
          refine ⟨z, a, y, rfl, ?_⟩
          have hI := Prob.is hv
          rw [es] at hI
          rcases hI with ⟨-, -, h⟩ | ⟨h, -⟩ | ⟨h, -⟩
          · exact h _ ⟨_, a1, a2⟩
          · cases h
          · cases h
theorem den_int (z : Int) : (z : Rat).den = 1 := rfl
theorem IP.int {ip : IP} (hd : ip.den = 0) : intB ip.pl.toP = true := by
  have hq : ∀ (l : List Int) j, ((l.map (qn · ip.den)).getD j 0).den = 1 := fun l j => by
    rw [hd]
    rw [List.getD_eq_getElem?_getD, List.getElem?_map]
    cases l[j]? with
    | none => rfl
    | some a => show (qn a 0).den = 1; rw [qn_int]; rfl
  unfold intB
  rw [Bool.and_eq_true]
  refine ⟨intL_iff.2 fun j hj => hq _ _, intR_iff.2 fun i hi => ?_⟩
  obtain ⟨r, h1, h2⟩ := IP.row_some hi
  have e1 : ip.pl.toP.right i = qn r.right ip.den := by show (ip.pl.rows.getD i RL.zero).right = _; rw [h2]; rfl
  refine ⟨by rw [e1, hd, qn_int]; rfl, fun j hj => ?_⟩
  show ((ip.pl.rows.getD i RL.zero).coef.getD j 0).den = 1
  rw [h2]
  exact hq _ _
end Go.Proofs.Ythafabkjidifeaa.Lp

namespace Go.Proofs.Ythafabkjidifeaa.Lp
open Go.RowKit Go.Proofs.Ythafabkjidifeaa.Big Go.Proofs.Ythafabkjidifeaa.Rt

theorem zeroN (w : World) : (zeroValue 3).run Try.prog w = .ok (.int .i64 0) w := by kernel_rfl
theorem zeroB (w : World) : (zeroValue 4).run Try.prog w = .ok (.bool false) w := by kernel_rfl
theorem infoNd : (Try.prog.info? 95).map (·.size) = some 6 := by kernel_rfl
theorem MapTo.fr {r : Nat} {w w' : World} (h : MapTo r w w') {P : Nat → Prop} (hP : P r) : Fr P w w' := by
  have hs := h.size
  have hf := fun i => h.far (k := i)
  obtain ⟨⟨es, c, h1⟩, es', c', rfl⟩ := h
  refine ⟨rfl, rfl, rfl, by omega, fun k hk hne => hf k (fun e => hne (e ▸ hP)), fun b i z hz => ?_⟩
  by_cases e : b = r
  · subst e
    unfold World.cell? at hz
    rw [h1] at hz
    cases hz
  · exact (World.cell?_of_block (a := ⟨b, i, none⟩) (hf b e)).trans hz
theorem Fr.cells {P : Nat → Prop} {w w' : World} (h : Fr P w w') {k : Nat} (hk : CellsB w k) (hn : ¬ P k) : CellsB w' k := by
  obtain ⟨cs, E, h1⟩ := hk
  exact ⟨cs, E, h.row hn h1⟩
theorem PMap_cells {w : World} {r : Nat} {S : List (Nat × Value)} (h : PMap w r S) {k : Nat} (hk : CellsB w k) : k ≠ r := by
  obtain ⟨cs, E, h1⟩ := hk
  exact h.nobox (E := E) (cs := cs) h1
theorem run_delete_all {P : Program} {w : World} {mt kt et pt kt' : TypeId} {r : Nat} {S : List (Nat × Value)} {j : TypeInfo} (hm : P.underlying mt = some (.map kt et)) (hk : P.underlying kt = some (.pointer pt)) (hj : P.info? pt = some j) (hsz : j.size ≠ 0) (k : Nat) (v0 : Value) (hb : PMap w r (S ++ [(k, v0)])) (hS : ∀ p ∈ S ++ [(k, v0)], CellsB w p.1) (hno : ∀ p ∈ S, p.1 ≠ k) :
    ∃ w', (∀ ty : TypeId, (Builtin.delete_ #[mt, kt'] ty #[.map (some r), .pointer (some ⟨k, 0, none⟩)]).run P w = .ok (.tuple #[]) w') ∧ PMap w' r S ∧ MapTo r w w' := by
  obtain ⟨es, c, h1, h2⟩ := hb
  have hf := run_findKey_p hk hj hsz k (hS (k, v0) (by simp)) es.toList _ h2 hS
  have hp : pfind k (S ++ [(k, v0)]) = some (S.length, v0) := by
    clear hS h2 hf
    induction S with
    | nil => simp [pfind]
    | cons p A ih =>
      have h0 : p.1 ≠ k := hno p (by simp)
      simp [pfind, h0, ih (fun q hq => hno q (by simp [hq]))]
  rw [hp] at hf
  unfold keyP at hf
  have hlen : es.size = S.length + 1 := by
    have := congrArg List.length h2
    simpa using this
  refine ⟨mapWorld w r (es.eraseIdxIfInBounds S.length) c, fun ty => ?_, ⟨_, _, mapWorld_map h1 _ _, ?_⟩, ⟨⟨es, c, h1⟩, _, _, rfl⟩⟩
  · simp [Builtin.delete_, run_underlying hm, Result.andThen, MapKept.run_getObj_map h1, run_checkKey_ptr (n := 9999) hk, hf, MapKept.run_setObj_map _ h1, mapWorld]
  · have e : (es.eraseIdxIfInBounds S.length).toList = es.toList.eraseIdx S.length := by simp
    rw [e]
    have h3 := congrArg (fun l : List (Value × Value) => l.eraseIdx S.length) h2
    simp only [List.map_append, List.map_cons, List.map_nil] at h3
    rw [List.eraseIdx_append_of_length_le (by simp)] at h3
    simp only [List.length_map, Nat.sub_self, List.eraseIdx_cons_zero, List.append_nil] at h3
    rw [← h3, map_eraseIdx']
/-- the blocks of the two maps -/
def PS (om sm k : Nat) : Prop := k = om ∨ k = sm
/-- what size leaves -/
def SzPost (om sm : Nat) (So Ss : List (Nat × Value)) (n b h : Nat) (w : World) (e : Ending) (w' : World) : Prop :=
  e = .returned (.int .i64 (n : Int)) ∧ PMap w' om So ∧ (∃ N, PMap w' sm (Ss ++ N) ∧ ∀ p ∈ N, b ≤ p.1 ∧ p.1 < h ∧ CellsB w' p.1) ∧ Fr (PS om sm) w w'
theorem pfind_lt {k : Nat} {S : List (Nat × Value)} (h : ∀ p ∈ S, p.1 < k) : pfind k S = none := pfind_none_iff.2 fun p hp e => by have := h p hp; omega
def szK (ob sx fb : Nat) : Value := .func (.func 39) #[] #[.pointer (some ⟨ob, 0, none⟩), .pointer (some ⟨sx, 0, none⟩), .pointer (some ⟨fb, 0, none⟩)]
set_option maxHeartbeats 600000 in
set_option maxRecDepth 100000 in
theorem size1_step (vr fl : Int) (lo hi : Option Addr) (em : Bool) (A : Option Addr) (m c ob sx fb om sm b h1 h n1 n2 : Nat) (w : World) (So Ss : List (Nat × Value)) (hbh : b < h) (hh1 : h1 ≤ h) (NB : Box w b 95 (NodeC vr fl lo hi em A m c)) (OB : Box w ob 93 #[.map (some om)]) (SB : Box w sx 92 #[.map (some sm)])
    (FB : Box w fb 48 #[szK ob sx fb]) (hO : PMap w om So) (hS : PMap w sm Ss) (hne : om ≠ sm) (hSo : ∀ p ∈ So, p.1 < b ∧ CellsB w p.1) (hSs : ∀ p ∈ Ss, p.1 < b ∧ CellsB w p.1) (hn1 : n1 + n2 ≤ 1000000)
    (H1 : ∀ W, PMap W om (So ++ [(b, .bool true)]) → PMap W sm Ss → Fr (PS om sm) w W → Calls Try.prog 39 #[.pointer lo, .pointer (some ⟨ob, 0, none⟩), .pointer (some ⟨sx, 0, none⟩), .pointer (some ⟨fb, 0, none⟩)] W (SzPost om sm (So ++ [(b, .bool true)]) Ss n1 (b + 1) h1 W))
    (H2 : ∀ W N, PMap W om (So ++ [(b, .bool true)]) → PMap W sm (Ss ++ N) → (∀ p ∈ N, b + 1 ≤ p.1 ∧ p.1 < h1 ∧ CellsB W p.1) → Fr (PS om sm) w W → Calls Try.prog 39 #[.pointer hi, .pointer (some ⟨ob, 0, none⟩), .pointer (some ⟨sx, 0, none⟩), .pointer (some ⟨fb, 0, none⟩)] W (SzPost om sm (So ++ [(b, .bool true)]) (Ss ++ N) n2 (b + 1) h W)) :
    Calls Try.prog 39 #[.pointer (some ⟨b, 0, none⟩), .pointer (some ⟨ob, 0, none⟩), .pointer (some ⟨sx, 0, none⟩), .pointer (some ⟨fb, 0, none⟩)] w (SzPost om sm So Ss (1 + n1 + n2) b h w) := by
  obtain ⟨j, hj, hsz⟩ := Option.map_eq_some_iff.1 infoNd
  have hsz : j.size ≠ 0 := by omega
  have hnl : ∀ W, (binOp BinOp.eql 30 (.pointer (some ⟨b, 0, none⟩)) (.pointer none)).run Try.prog W = .ok (.bool false) W := fun _ => by kernel_rfl
  have hkB : CellsB w b := ⟨_, _, NB⟩
  have hl1 := run_lookup_p (P := Try.prog) (mt := 93) Try.underlying93 Try.underlying30 hj hsz hO (fun p hp => (hSo p hp).2) b hkB (zeroB w) false
  have hl2 := run_lookup_p (P := Try.prog) (mt := 92) Try.underlying92 Try.underlying30 hj hsz hS (fun p hp => (hSs p hp).2) b hkB (zeroN w) true
  rw [pfind_lt (fun p hp => (hSo p hp).1)] at hl1
  rw [pfind_lt (fun p hp => (hSs p hp).1)] at hl2
  simp only [Bool.false_eq_true, if_false, if_true] at hl1 hl2
  obtain ⟨w1, hu1, hO1, hm1⟩ := run_update_new (P := Try.prog) (mt := 93) Try.underlying93 Try.underlying30 hj hsz hO (fun p hp => (hSo p hp).2) b hkB (fun p hp e => by have := (hSo p hp).1; omega) (.bool true)
  have o0 := OB.c0
  have s0 := SB.c0
  have hob1 : ob ≠ om := hO.nobox OB
  have hob2 : ob ≠ sm := hS.nobox OB
  have hsx1 : sx ≠ om := hO.nobox SB
  have hsx2 : sx ≠ sm := hS.nobox SB
  have hfb1 : fb ≠ om := hO.nobox FB
  have hfb2 : fb ≠ sm := hS.nobox FB
  have hnb1 : b ≠ om := hO.nobox NB
  have hnb2 : b ≠ sm := hS.nobox NB
  have OB1 := hm1.box OB
  have SB1 := hm1.box SB
  have FB1 := hm1.box FB
  have NB1 := hm1.box NB
  have hS1 := hm1.pmap (Ne.symm hne) hS
  have hF1 : Fr (PS om sm) w w1 := MapTo.fr hm1 (.inl rfl)
  have HH1 := Lib.hid H1
  have HH2 := Lib.hid H2
  have HSO := Lib.hid hSo
  have HSS := Lib.hid hSs
  clear H1 H2 hSo hSs
  go_enter Try.func39, Try.ntmps39
  go_upto_region 7 with fail
  clear hl1 hl2 hu1 o0 s0 hm1
  have k0 : ∀ w', Fr (PS om sm) w1 w' → w'.cell? ⟨fb, 0, none⟩ = some (.func (.func 39) #[] #[.pointer (some ⟨ob, 0, none⟩), .pointer (some ⟨sx, 0, none⟩), .pointer (some ⟨fb, 0, none⟩)]) := fun w' h => (h.box FB1 (fun e => e.elim hfb1 hfb2)).c0
  have k1 : ∀ w', Fr (PS om sm) w1 w' → w'.cell? ⟨b, 2, none⟩ = some (.pointer lo) := fun w' h => (h.box NB1 (fun e => e.elim hnb1 hnb2)).cell 2
  have k2 : ∀ w', Fr (PS om sm) w1 w' → w'.cell? ⟨b, 3, none⟩ = some (.pointer hi) := fun w' h => (h.box NB1 (fun e => e.elim hnb1 hnb2)).cell 3
  have r1 : IntKind.i64.wrap (1 + (n1 : Int)) = 1 + (n1 : Int) := IntWalk.i64_in _ (by omega)
  have r2 : IntKind.i64.wrap (1 + (n1 : Int) + (n2 : Int)) = 1 + (n1 : Int) + (n2 : Int) := IntWalk.i64_in _ (by omega)
  have ks := Fr.refl (PS om sm) w1
  go_region_held3 (fun w' => Fr (PS om sm) w1 w') ((repeat (first | (with_reducible assumption) | (with_reducible apply Fr.drew) | (with_reducible apply Fr.drewN) | (with_reducible refine Fr.trans ?_ (by with_reducible assumption))))) (first
    | (go_at_call 39; (with_reducible refine (HH1.out _ (hO1.ext (by repeat (first | (with_reducible exact Ext.refl _) | (with_reducible apply Ext.drew) | (with_reducible apply Ext.drewN)))) (hS1.ext (by repeat (first | (with_reducible exact Ext.refl _) | (with_reducible apply Ext.drew) | (with_reducible apply Ext.drewN)))) (hF1.trans (by repeat (first | (with_reducible exact Fr.refl _ _) | (with_reducible apply Fr.drew) | (with_reducible apply Fr.drewN))))).mono ?_); rintro e wk ⟨rfl, hOk, ⟨N1, hSk, hN1⟩, hFk⟩; (have hFk1 : Fr (PS om sm) w1 wk := Fr.trans (by repeat (first | (with_reducible exact Fr.refl _ _) | (with_reducible apply Fr.drew) | (with_reducible apply Fr.drewN))) hFk))
    | (go_at_call 39; (with_reducible refine (HH2.out _ N1 (hOk.ext (by repeat (first | (with_reducible exact Ext.refl _) | (with_reducible apply Ext.drew) | (with_reducible apply Ext.drewN)))) (hSk.ext (by repeat (first | (with_reducible exact Ext.refl _) | (with_reducible apply Ext.drew) | (with_reducible apply Ext.drewN)))) (fun p hp => ⟨(hN1 p hp).1, (hN1 p hp).2.1, (hN1 p hp).2.2.ext (by repeat (first | (with_reducible exact Ext.refl _) | (with_reducible apply Ext.drew) | (with_reducible apply Ext.drewN)))⟩) (hF1.trans (hFk1.trans (by repeat (first | (with_reducible exact Fr.refl _ _) | (with_reducible apply Fr.drew) | (with_reducible apply Fr.drewN)))))).mono ?_); rintro e wm ⟨rfl, hOm, ⟨N2, hSm, hN2⟩, hFm⟩; (have hFm1 : Fr (PS om sm) wk wm := Fr.trans (by repeat (first | (with_reducible exact Fr.refl _ _) | (with_reducible apply Fr.drew) | (with_reducible apply Fr.drewN))) hFm))
    )
  all_goals (
    have hFw : Fr (PS om sm) w wm := hF1.trans (hFk1.trans hFm1)
    have hno : ∀ k, CellsB w k → ¬ PS om sm k := fun k hk e => e.elim (PMap_cells hO hk) (PMap_cells hS hk)
    have hCb : CellsB wm b := Fr.cells hFw hkB (hno b hkB)
    have hN1m : ∀ p ∈ N1, b + 1 ≤ p.1 ∧ p.1 < h1 ∧ CellsB wm p.1 := fun p hp => ⟨(hN1 p hp).1, (hN1 p hp).2.1, Fr.cells hFm1 (hN1 p hp).2.2 (fun e => e.elim (PMap_cells hOk (hN1 p hp).2.2) (PMap_cells hSk (hN1 p hp).2.2))⟩
    obtain ⟨w3, hd, hO3, hm3⟩ := run_delete_all (P := Try.prog) (mt := 93) (kt' := 30) Try.underlying93 Try.underlying30 hj hsz b (.bool true) hOm (fun p hp => by
      rcases List.mem_append.1 hp with h | h
      · exact Fr.cells hFw (HSO.out p h).2 (hno _ (HSO.out p h).2)
      · obtain rfl := List.mem_singleton.1 h
        exact hCb) (fun p hp => by have := (HSO.out p hp).1; omega)
    have hS3 := hm3.pmap (Ne.symm hne) hSm
    obtain ⟨w4, hu4, hS4, hm4⟩ := run_update_new (P := Try.prog) (mt := 92) Try.underlying92 Try.underlying30 hj hsz hS3 (fun p hp => by
      rcases List.mem_append.1 hp with h | h
      · rcases List.mem_append.1 h with h | h
        · exact hm3.cells (Fr.cells hFw (HSS.out p h).2 (hno _ (HSS.out p h).2))
        · exact hm3.cells (hN1m p h).2.2
      · exact hm3.cells (hN2 p h).2.2) b (hm3.cells hCb) (fun p hp => by
      rcases List.mem_append.1 hp with h | h
      · rcases List.mem_append.1 h with h | h
        · have := (HSS.out p h).1; omega
        · have := (hN1m p h).1; omega
      · have := (hN2 p h).1; omega) (.int .i64 (1 + (n1 : Int) + (n2 : Int)))
    have hm4' := hm4
    have o0 := (hFw.box OB (fun e => e.elim hob1 hob2)).c0
    have s0 := (hm3.box (hFw.box SB (fun e => e.elim hsx1 hsx2))).c0
    have hF4 : Fr (PS om sm) w w4 := (hFw.trans (MapTo.fr hm3 (.inl rfl))).trans (MapTo.fr hm4 (.inr rfl))
    have hO4 := hm4.pmap hne hO3
    clear k0 k1 k2 r1 r2
    go_wp2_with fail
    go_ret
    refine ⟨by congr 2, hO4, ⟨N1 ++ N2 ++ [(b, .int .i64 (1 + (n1 : Int) + (n2 : Int)))], by simpa [List.append_assoc] using hS4, fun p hp => ?_⟩, hF4⟩
    rcases List.mem_append.1 hp with h | h
    · rcases List.mem_append.1 h with h | h
      · exact ⟨by have := (hN1m p h).1; omega, by have := (hN1m p h).2.1; omega, hm4.cells (hm3.cells (hN1m p h).2.2)⟩
      · exact ⟨by have := (hN2 p h).1; omega, (hN2 p h).2.1, hm4.cells (hm3.cells (hN2 p h).2.2)⟩
    · obtain rfl := List.mem_singleton.1 h
      exact ⟨Nat.le_refl _, hbh, hm4.cells (hm3.cells hCb)⟩)
theorem size_nilS {om sm b h : Nat} {So Ss : List (Nat × Value)} (v1 v2 v3 : Value) (W : World) (hO : PMap W om So) (hS : PMap W sm Ss) : Calls Try.prog 39 #[.pointer none, v1, v2, v3] W (SzPost om sm So Ss 0 b h W) := by
  refine (size_nil1 v1 v2 v3 W).mono ?_
  rintro e w' ⟨rfl, rfl⟩
  exact ⟨rfl, hO, ⟨[], by simpa using hS, fun p hp => by cases hp⟩, Fr.refl _ _⟩
theorem SzPost.up {om sm n b b' h h' : Nat} {So Ss : List (Nat × Value)} {w : World} {e : Ending} {w' : World} (k : SzPost om sm So Ss n b h w e w') (hb : b' ≤ b) (hh : h ≤ h') : SzPost om sm So Ss n b' h' w e w' := by
  obtain ⟨k1, k2, ⟨N, k3, k4⟩, k5⟩ := k
  exact ⟨k1, k2, ⟨N, k3, fun p hp => ⟨Nat.le_trans hb (k4 p hp).1, Nat.lt_of_lt_of_le (k4 p hp).2.1 hh, (k4 p hp).2.2⟩⟩, k5⟩
theorem size1_b (K : Nat) (t : BT) (ob sx fb om sm b h : Nat) (w : World) (So Ss : List (Nat × Value)) (hT : TreeV K w t b h) (hsz : t.size ≤ 1000000) (OB : Box w ob 93 #[.map (some om)]) (SB : Box w sx 92 #[.map (some sm)])
    (FB : Box w fb 48 #[szK ob sx fb]) (hO : PMap w om So) (hS : PMap w sm Ss) (hne : om ≠ sm) (hSo : ∀ p ∈ So, p.1 < b ∧ CellsB w p.1) (hSs : ∀ p ∈ Ss, p.1 < b ∧ CellsB w p.1) :
    Calls Try.prog 39 #[.pointer (some ⟨b, 0, none⟩), .pointer (some ⟨ob, 0, none⟩), .pointer (some ⟨sx, 0, none⟩), .pointer (some ⟨fb, 0, none⟩)] w (SzPost om sm So Ss t.size b h w) := by
  induction t generalizing b h w So Ss with
  | leaf e m y =>
    obtain ⟨h1, A, c, h2, -⟩ := hT
    exact size1_step (-1) 0 none none e A m c ob sx fb om sm b (b + 1) h 0 0 w So Ss h1 h1 h2 OB SB FB hO hS hne hSo hSs (by omega) (fun W k1 k2 _ => size_nilS _ _ _ W k1 k2) (fun W N k1 k2 _ _ => size_nilS _ _ _ W k1 k2)
  | node v f x z ihx ihz =>
    obtain ⟨bx, hx, bz, g1, g2, g3, g4, g5⟩ := hT
    have l1 := g2.lt
    have l2 := g4.lt
    have hs1 : x.size + z.size + 1 ≤ 1000000 := hsz
    have hbox : ∀ (W : World), Fr (PS om sm) w W → Box W ob 93 #[.map (some om)] ∧ Box W sx 92 #[.map (some sm)] ∧ Box W fb 48 #[szK ob sx fb] := fun W hF =>
      ⟨hF.box OB (fun e => e.elim (hO.nobox OB) (hS.nobox OB)), hF.box SB (fun e => e.elim (hO.nobox SB) (hS.nobox SB)), hF.box FB (fun e => e.elim (hO.nobox FB) (hS.nobox FB))⟩
    have hcell : ∀ (W : World), Fr (PS om sm) w W → ∀ (k : Nat), CellsB w k → CellsB W k := fun W hF k hk => Fr.cells hF hk (fun e => e.elim (PMap_cells hO hk) (PMap_cells hS hk))
    have htree : ∀ (W : World), Fr (PS om sm) w W → ∀ (t : BT) (b h : Nat), TreeV K w t b h → TreeV K W t b h := fun W hF t b h hT => hT.fr hF (fun k cs hc e => e.elim (hO.nobox (E := _) (cs := cs) hc) (hS.nobox (E := _) (cs := cs) hc)) (fun b n f hr e => by
      obtain ⟨cs, hc, -⟩ := hr
      exact e.elim (hO.nobox (E := _) (cs := cs) hc) (hS.nobox (E := _) (cs := cs) hc))
    have hb : CellsB w b := ⟨_, _, g5⟩
    have := size1_step (v : Int) f (some ⟨bx, 0, none⟩) (some ⟨bz, 0, none⟩) false none 0 0 ob sx fb om sm b hx h x.size z.size w So Ss (by omega) (by omega) g5 OB SB FB hO hS hne hSo hSs (by omega)
      (fun W k1 k2 hF => by
        obtain ⟨q1, q2, q3⟩ := hbox W hF
        refine (ihx bx hx W _ _ (htree W hF _ _ _ g2) (by omega) q1 q2 q3 k1 k2 (fun p hp => ?_) (fun p hp => ⟨by have := (hSs p hp).1; omega, hcell W hF _ (hSs p hp).2⟩)).mono (fun _ _ k => k.up (by omega) (Nat.le_refl _))
        rcases List.mem_append.1 hp with hp | hp
        · exact ⟨by have := (hSo p hp).1; omega, hcell W hF _ (hSo p hp).2⟩
        · obtain rfl := List.mem_singleton.1 hp
          exact ⟨g1, hcell W hF _ hb⟩)
      (fun W N k1 k2 k3 hF => by
        obtain ⟨q1, q2, q3⟩ := hbox W hF
        refine (ihz bz h W _ _ (htree W hF _ _ _ g4) (by omega) q1 q2 q3 k1 k2 (fun p hp => ?_) (fun p hp => ?_)).mono (fun _ _ k => k.up (by omega) (Nat.le_refl _))
        · rcases List.mem_append.1 hp with hp | hp
          · exact ⟨by have := (hSo p hp).1; omega, hcell W hF _ (hSo p hp).2⟩
          · obtain rfl := List.mem_singleton.1 hp
            exact ⟨by omega, hcell W hF _ hb⟩
        · rcases List.mem_append.1 hp with hp | hp
          · exact ⟨by have := (hSs p hp).1; omega, hcell W hF _ (hSs p hp).2⟩
          · exact ⟨by have := (k3 p hp).2.1; omega, (k3 p hp).2.2⟩)
    rw [show (BT.node v f x z).size = 1 + x.size + z.size by show x.size + z.size + 1 = _; omega]
    exact this
set_option maxHeartbeats 1000000 in
set_option maxRecDepth 100000 in
theorem size_b (K : Nat) (t : BT) (b h : Nat) (w : World) (hT : TreeV K w t b h) (hsz : t.size ≤ 1000000) : Calls Try.prog 19 #[.pointer (some ⟨b, 0, none⟩)] w (ValPost w (.int .i64 (t.size : Int))) := by
  have hmm := @run_makeMap Try.prog
  have hmf : ∀ (fn : Fn) (first cap : Array Value) (w : World), (Instr.makeFunc fn first cap).run Try.prog w = .ok (.func fn first cap) w := fun _ _ _ _ => rfl
  obtain ⟨V, hV, hM0, hB0, hM1, hB1, hF, hE⟩ := boxesS w 92 93 48
  go_enter Try.func19, Try.ntmps19
  go_upto_region 4 with fail
  simp only [← hV]
  clear hV hmm
  obtain ⟨fb, hfb⟩ : ∃ x, x = w.heap.size + 1 + 1 + 1 + 1 := ⟨_, rfl⟩
  obtain ⟨ob, hob⟩ : ∃ x, x = w.heap.size + 1 + 1 + 1 := ⟨_, rfl⟩
  obtain ⟨om, hom⟩ : ∃ x, x = w.heap.size + 1 + 1 := ⟨_, rfl⟩
  obtain ⟨sx, hsx⟩ : ∃ x, x = w.heap.size + 1 := ⟨_, rfl⟩
  obtain ⟨sm, hsm⟩ : ∃ x, x = w.heap.size := ⟨_, rfl⟩
  rw [← hfb, ← hob, ← hsx]
  rw [← hfb] at hF
  rw [← hob, ← hom] at hB1
  rw [← hom] at hM1
  rw [← hsx, ← hsm] at hB0
  rw [← hsm] at hM0
  have hfs : w.heap.size ≤ fb := by omega
  have hws : w.heap.size ≤ sm := by omega
  have hwo : w.heap.size ≤ om := by omega
  have hne : om ≠ sm := by omega
  have n1 : ob ≠ fb := by omega
  have n2 : sx ≠ fb := by omega
  have n3 : om ≠ fb := by omega
  have n4 : sm ≠ fb := by omega
  clear hfb hob hom hsx hsm
  have f0 := hF.c0
  have f1 := hF.frozen 0
  have hTV := hT.ext hE
  obtain ⟨Kf, hK⟩ : ∃ K : Value, K = szK ob sx fb := ⟨_, rfl⟩
  have hF2 := hF.set 0 Kf
  have hB02 := hB0.far (p := ⟨fb, 0, none⟩) n2 Kf
  have hB12 := hB1.far (p := ⟨fb, 0, none⟩) n1 Kf
  have hE2 : Ext w (V.setCell ⟨fb, 0, none⟩ Kf) := hE.set (p := ⟨fb, 0, none⟩) hfs Kf
  have hT2 := hT.ext hE2
  have hM02 : PMap (V.setCell ⟨fb, 0, none⟩ Kf) sm [] := by
    obtain ⟨es, c, k1, k2⟩ := hM0
    exact ⟨es, c, (Below.heap_setCell V ⟨fb, 0, none⟩ Kf sm n4).trans k1, k2⟩
  have hM12 : PMap (V.setCell ⟨fb, 0, none⟩ Kf) om [] := by
    obtain ⟨es, c, k1, k2⟩ := hM1
    exact ⟨es, c, (Below.heap_setCell V ⟨fb, 0, none⟩ Kf om n3).trans k1, k2⟩
  go_upto_region 5 with fail
  rw [show Value.func (.func 39) #[] #[.pointer (some ⟨ob, 0, none⟩), .pointer (some ⟨sx, 0, none⟩), .pointer (some ⟨fb, 0, none⟩)] = Kf from hK.symm]
  generalize (V.setCell ⟨fb, 0, none⟩ Kf) = V2 at *
  have hF3 : Box V2 fb 48 #[Kf] := hF2
  rw [hK] at hF3
  clear hF2 f0 hK
  have k0 : V2.cell? ⟨fb, 0, none⟩ = some (.func (.func 39) #[] #[.pointer (some ⟨ob, 0, none⟩), .pointer (some ⟨sx, 0, none⟩), .pointer (some ⟨fb, 0, none⟩)]) := hF3.c0
  go_wp2_with fail
  refine (size1_b K t ob sx fb om sm b h _ [] [] hT2 hsz hB12 hB02 hF3 hM12 hM02 hne (fun p hp => by cases hp) (fun p hp => by cases hp)).mono ?_
  rintro e w3 ⟨rfl, -, -, hFF⟩
  have hx := hFF.ext hE2 (fun b hb => hb.elim (fun e => e ▸ hwo) (fun e => e ▸ hws))
  go_wp2_with fail
  go_ret
  exact ⟨rfl, hx⟩
end Go.Proofs.Ythafabkjidifeaa.Lp

namespace Go.Proofs.Ythafabkjidifeaa.Lp
open Go.RowKit Go.Proofs.Ythafabkjidifeaa.Big Go.Proofs.Ythafabkjidifeaa.Rt

theorem TreeV.frL {K lb : Nat} {w w' : World} {t : BT} {b h : Nat} {c : Value} (k : TreeV K w t b h) (r : Fr (PLb lb) w w') (LB : Box w lb 3 #[c]) : TreeV K w' t b h :=
  k.fr r (fun i cs hi e => Box.neE (E := 95) (E' := 3) (b := i) hi LB (by decide) e) (Box.norow (E := 3) LB (by decide))
theorem proves_b (K m0 : Nat) (hK : K ≤ 134217730) (V : Int) (hV : fit V = true) (t : BT) (lb : Nat) (x : Value) (p : Prob) (b h N : Nat) (w : World) (hx : ProbV w x p) (hcan : CanI p 6 68 m0) (hm : p.m + t.size ≤ 68) (hT : TreeV K w t b h) (hOk : t.Ok p (some V)) (LB : Box w lb 3 #[.int .i64 ((N + t.size : Nat) : Int)]) (hN : N + t.size ≤ 1000000) :
    Calls Try.prog 25 #[x, .pointer (some ⟨b, 0, none⟩), .int .i64 V, .pointer (some ⟨lb, 0, none⟩)] w (PvPost lb N w) := by
  induction t generalizing x p b h N w with
  | leaf e m y =>
    obtain ⟨h1, A, c, h2, h3, h4⟩ := hT
    have hN : N + 1 ≤ 1000000 := hN
    cases e with
    | true =>
      obtain ⟨rfl, hR⟩ := hOk
      exact proves_leafT x p V b lb (N + 1) N K m0 A c y w hx hcan h2 h3 h4 hK LB rfl (by omega) hR
    | false =>
      obtain ⟨rfl, z, v, hR, hv, hz⟩ := hOk
      injection hv with hv
      subst hv
      exact proves_leafF x p V b lb (N + 1) N K m0 A c y w hx hcan h2 h3 h4 hK LB rfl (by omega) z hR hz hV
  | node v f a c iha ihc =>
    obtain ⟨bx, hx', bz, g1, g2, g3, g4, g5⟩ := hT
    obtain ⟨hv, hf, oa, oc⟩ := hOk
    have hs : (BT.node v f a c).size = a.size + c.size + 1 := rfl
    have hpa := a.size_pos
    have hpc := c.size_pos
    rw [hs] at hm hN LB
    refine proves_node x p v f V bx bz b lb (N + (a.size + c.size + 1)) (N + c.size + a.size) (N + c.size) N w hx hcan.val hv hf g5 LB (by omega) (by omega) (fun W y hF hLB hP => ?_) (fun W y hF hLB hP => ?_)
    · exact iha y (p.side v f false) bx hx' (N + c.size) W hP (hcan.side (by omega) hf false) (by show p.m + 1 + a.size ≤ 68; omega) (g2.frL hF LB) oa hLB (by omega)
    · exact ihc y (p.side v f true) bz h N W hP (hcan.side (by omega) hf true) (by show p.m + 1 + c.size ≤ 68; omega) (g4.frL hF LB) oc hLB (by omega)
set_option maxHeartbeats 2000000 in
set_option maxRecDepth 100000 in
theorem provesL_any (v : Value) (ip : IP) (w : World) (hv : IPV w v ip) (hok : ip.ok) : Calls Try.prog 7 #[v] w (ValPost w (.bool true)) := by
  obtain ⟨Ai, ni, ci, Aj, nj, cj, dd, rfl⟩ : ∃ A n c A' n' c' d, v = .agg #[.slice A n c, .slice A' n' c', .int .u8 d] := by
    obtain ⟨A, c, A', c', rfl, -⟩ := id hv
    exact ⟨_, _, _, _, _, _, _, rfl⟩
  have B1 := Box.new w 25 #[.slice Ai ni ci, .slice Aj nj cj, .int .u8 dd]
  have hE0 : Ext w (w.alloc (.cells #[.slice Ai ni ci, .slice Aj nj cj, .int .u8 dd] 25)) := (Ext.refl w).alloc _
  go_enter Try.func7, Try.ntmps7
  go_upto_region 1 with fail
  generalize (w.alloc (.cells #[.slice Ai ni ci, .slice Aj nj cj, .int .u8 dd] 25)) = V at *
  obtain ⟨ab, hab⟩ : ∃ x, x = w.heap.size := ⟨_, rfl⟩
  rw [← hab] at B1 ⊢
  clear hab
  go_wp2_with fail
  refine (awake_i _).mono ?_
  rintro e w1 ⟨rfl, hx1⟩
  have hE1 := hE0.trans hx1
  have B1 := B1.ext hx1
  have c0 : w1.cell? ⟨ab, 0, none⟩ = some _ := B1.cell 0
  have c1 : w1.cell? ⟨ab, 1, none⟩ = some _ := B1.cell 1
  have c2 : w1.cell? ⟨ab, 2, none⟩ = some _ := B1.cell 2
  clear hE0 hx1
  go_wp2_with fail
  refine (whole_i _ ip _ (hv.ext hE1) hok).mono ?_
  clear c0 c1 c2
  rintro e w2 ⟨Ao, no, co, Ar, mo, cr, ok, rfl, hx2, hwok⟩
  have hE2 := hE1.trans hx2
  have HWOK := Lib.hid hwok
  clear hE1 hx2 hwok
  go_upto_region 4 with fail
  have PB := Box.new w2 39 #[.slice Ao no co, .slice Ar mo cr]
  have hx3 : Ext w2 (w2.alloc (.cells #[.slice Ao no co, .slice Ar mo cr] 39)) := (Ext.refl w2).alloc _
  generalize (w2.alloc (.cells #[.slice Ao no co, .slice Ar mo cr] 39)) = U at *
  obtain ⟨pb, hpb⟩ : ∃ x, x = w2.heap.size := ⟨_, rfl⟩
  rw [← hpb] at PB ⊢
  clear hpb
  have hE3 := hE2.trans hx3
  cases ok with
  | false =>
    clear HWOK
    go_wp2_with fail
    go_ret
    exact ⟨rfl, hE3⟩
  | true =>
  obtain ⟨hn6, hm8, hval, hno, hmo, hP0⟩ := HWOK.out rfl
  have hP := hP0.ext hx3
  obtain ⟨P, hPP⟩ : ∃ P, P = ip.nod.pl.toP := ⟨_, rfl⟩
  rw [← hPP] at hval hno hmo hP
  have hint : intB P = true := by rw [hPP]; exact IP.int rfl
  have hCan : ∀ M, M ≤ 68 → P.m ≤ M → CanI P 6 M 134217728 := fun M h1 h2 => by
    have hM : bK3 M 6 2 3 2 ≤ bK3 68 6 2 3 2 := bK3_mono h1 (Nat.le_refl _) (Nat.le_refl _)
    have hM2 : bK3 68 6 2 3 2 ≤ 134217728 := by decide
    rw [hPP] at hval h2 ⊢
    exact IP.can (IP.nod_ok hok) (by rw [IP.pn]; exact hn6) h2 (by omega) (by omega) (by omega) hval
  have hPm : P.m ≤ 8 := by rw [hPP, IP.pm]; exact hm8
  have hPn : P.n ≤ 6 := by rw [hPP, IP.pn]; exact hn6
  have HINT := Lib.hid hint
  have HVAL := Lib.hid hval
  have HCAN := Lib.hid hCan
  have HPP := Lib.hid hPP
  obtain ⟨rfl, rfl⟩ : no = P.n ∧ mo = P.m := ⟨hno, hmo⟩
  clear hP0 hx3 HWOK hE2 hint hval hCan hPP hno hmo
  have hS := Solve_i _ P 60 6 68 134217728 60 U hP (by omega) (by omega) (by decide) (fun _ => HCAN.out 68 (by omega) (by omega)) (by omega) (by omega)
  obtain ⟨R, hR⟩ : ∃ R, R = solveR 60 P := ⟨_, rfl⟩
  rw [← hR] at hS
  have p0 := PB.c0
  have p1 := PB.c1
  go_wp2_with fail
  refine hS.mono ?_
  clear hS p0 p1
  cases R with
  | fail c =>
    clear PB
    rintro e w5 ⟨rfl, hx5⟩
    have hc := solveR_fail hR.symm
    have e1 : (c != 0) = true := by
      have : c ≠ 0 := by omega
      simpa using this
    clear hR hc
    go_upto_region 8 with fail
    have hxr : Ext w5 ((w5.alloc (.cells #[.int .i64 0, .slice none 0 0, .pointer none] 32)).alloc (.cells #[.int .i64 100] 3)) := ((Ext.refl w5).alloc _).alloc _
    generalize ((w5.alloc (.cells #[.int .i64 0, .slice none 0 0, .pointer none] 32)).alloc (.cells #[.int .i64 100] 3)) = U2 at *
    have hE6 := (hE3.trans hx5).trans hxr
    clear hx5 hxr hE3 hP
    have ks := Later.refl U2
    refine wp_region_held_drew (S := fun w' => Later U2 w') (by kernel_rfl) ?_ (fun hHeld => ?_)
    · (try dsimp only); (repeat (first | assumption | apply Later.drew | apply Later.drewN | apply Later.alloc | (refine Later.step ?_ (by assumption))))
    refine wpAnyH_take (i := 0) (oi := { dst := some 22, op := Op.move (Operand.tmp 6), type := 33, pos := "law.go:204", after := #[], guard := none }) (v := ?_) rfl (by kernel_rfl) (by kernel_rfl) (by kernel_rfl) (fun _ _ _ h => h) (Or.inl ⟨by rfl, ?_⟩) (by assumption) ?_
    rotate_left
    · intro w hSw; (try dsimp only at hSw); go_simp; try (with_reducible rfl)
    try simp only [Act.put, List.setIfInBounds_toArray, List.set_cons_zero, List.set_cons_succ]
    refine wpAnyH_take (i := 1) (oi := { dst := some 23, op := Op.binOp BinOp.neq 33 (Operand.tmp 22) (Operand.const (Value.int IntKind.i64 0)) 33, type := 4, pos := "law.go:204", after := #[{ on := 0, ground := Ground.data }], guard := none }) (v := ?_) rfl (by kernel_rfl) (by kernel_rfl) (by kernel_rfl) (fun _ _ _ h => h) (Or.inl ⟨by rfl, ?_⟩) (by assumption) ?_
    rotate_left
    · intro w hSw; (try dsimp only at hSw); go_simp; try (with_reducible rfl)
    try simp only [Act.put, List.setIfInBounds_toArray, List.set_cons_zero, List.set_cons_succ]
    refine wpAnyH_take (i := 2) (oi := { dst := some 24, op := Op.move (Operand.tmp 23), type := 4, pos := "law.go:204", after := #[{ on := 1, ground := Ground.data }], guard := none }) (v := ?_) rfl (by kernel_rfl) (by kernel_rfl) (by kernel_rfl) (fun _ _ _ h => h) (Or.inl ⟨by rfl, ?_⟩) (by assumption) ?_
    rotate_left
    · intro w hSw; (try dsimp only at hSw); go_simp; try (with_reducible rfl)
    try simp only [Act.put, List.setIfInBounds_toArray, List.set_cons_zero, List.set_cons_succ]
    refine wpAnyH_take (i := 3) (oi := { dst := some 25, op := Op.load 39 (Operand.tmp 3), type := 39, pos := "law.go:204", after := #[{ on := 2, ground := Ground.guard }], guard := some (2, false) }) (v := undef) rfl (by kernel_rfl) (by kernel_rfl) (by kernel_rfl) (fun _ _ _ h => h) (Or.inr ⟨by rfl, rfl⟩) (by assumption) ?_
    try simp only [Act.put, List.setIfInBounds_toArray, List.set_cons_zero, List.set_cons_succ]
    refine wpAnyH_take (i := 4) (oi := { dst := some 26, op := Op.fieldAddr 32 (Operand.tmp 5) 2, type := 0, pos := "law.go:204", after := #[{ on := 2, ground := Ground.guard }], guard := some (2, false) }) (v := undef) rfl (by kernel_rfl) (by kernel_rfl) (by kernel_rfl) (fun _ _ _ h => h) (Or.inr ⟨by rfl, rfl⟩) (by assumption) ?_
    try simp only [Act.put, List.setIfInBounds_toArray, List.set_cons_zero, List.set_cons_succ]
    refine wpAnyH_take (i := 5) (oi := { dst := some 27, op := Op.load 30 (Operand.tmp 26), type := 30, pos := "law.go:204", after := #[{ on := 4, ground := Ground.data }, { on := 2, ground := Ground.guard }], guard := some (2, false) }) (v := undef) rfl (by kernel_rfl) (by kernel_rfl) (by kernel_rfl) (fun _ _ _ h => h) (Or.inr ⟨by rfl, rfl⟩) (by assumption) ?_
    try simp only [Act.put, List.setIfInBounds_toArray, List.set_cons_zero, List.set_cons_succ]
    refine wpAnyH_take (i := 6) (oi := { dst := some 28, op := Op.fieldAddr 32 (Operand.tmp 5) 0, type := 0, pos := "law.go:204", after := #[{ on := 2, ground := Ground.guard }], guard := some (2, false) }) (v := undef) rfl (by kernel_rfl) (by kernel_rfl) (by kernel_rfl) (fun _ _ _ h => h) (Or.inr ⟨by rfl, rfl⟩) (by assumption) ?_
    try simp only [Act.put, List.setIfInBounds_toArray, List.set_cons_zero, List.set_cons_succ]
    refine wpAnyH_take (i := 7) (oi := { dst := some 29, op := Op.load 3 (Operand.tmp 28), type := 3, pos := "law.go:204", after := #[{ on := 6, ground := Ground.data }, { on := 2, ground := Ground.guard }], guard := some (2, false) }) (v := undef) rfl (by kernel_rfl) (by kernel_rfl) (by kernel_rfl) (fun _ _ _ h => h) (Or.inr ⟨by rfl, rfl⟩) (by assumption) ?_
    try simp only [Act.put, List.setIfInBounds_toArray, List.set_cons_zero, List.set_cons_succ]
    refine wpAnyH_take (i := 8) (oi := { dst := some 30, op := Op.call { callee := Callee.value (Operand.func 25), args := #[Operand.tmp 25, Operand.tmp 27, Operand.tmp 29, Operand.tmp 7], argTypes := #[39, 30, 3, 68] }, type := 4, pos := "law.go:204", after := #[{ on := 3, ground := Ground.data }, { on := 5, ground := Ground.data }, { on := 7, ground := Ground.data }, { on := 2, ground := Ground.chain }, { on := 2, ground := Ground.guard }], guard := some (2, false) }) (v := undef) rfl (by kernel_rfl) (by kernel_rfl) (by kernel_rfl) (fun _ _ _ h => h) (Or.inr ⟨by rfl, rfl⟩) (by assumption) ?_
    try simp only [Act.put, List.setIfInBounds_toArray, List.set_cons_zero, List.set_cons_succ]
    refine wpAnyH_take (i := 9) (oi := { dst := some 31, op := Op.move (Operand.tmp 30), type := 4, pos := "law.go:204", after := #[{ on := 8, ground := Ground.data }, { on := 8, ground := Ground.chain }, { on := 2, ground := Ground.guard }], guard := some (2, false) }) (v := undef) rfl (by kernel_rfl) (by kernel_rfl) (by kernel_rfl) (fun _ _ _ h => h) (Or.inr ⟨by rfl, rfl⟩) (by assumption) ?_
    try simp only [Act.put, List.setIfInBounds_toArray, List.set_cons_zero, List.set_cons_succ]
    refine wpAnyH_take (i := 10) (oi := { dst := some 32, op := Op.fieldAddr 32 (Operand.tmp 5) 2, type := 0, pos := "law.go:204", after := #[{ on := 9, ground := Ground.guard }], guard := some (9, true) }) (v := undef) rfl (by kernel_rfl) (by kernel_rfl) (by kernel_rfl) (fun _ _ _ h => h) (Or.inr ⟨by rfl, rfl⟩) (by assumption) ?_
    try simp only [Act.put, List.setIfInBounds_toArray, List.set_cons_zero, List.set_cons_succ]
    refine wpAnyH_take (i := 11) (oi := { dst := some 33, op := Op.load 30 (Operand.tmp 32), type := 30, pos := "law.go:204", after := #[{ on := 10, ground := Ground.data }, { on := 9, ground := Ground.guard }], guard := some (9, true) }) (v := undef) rfl (by kernel_rfl) (by kernel_rfl) (by kernel_rfl) (fun _ _ _ h => h) (Or.inr ⟨by rfl, rfl⟩) (by assumption) ?_
    try simp only [Act.put, List.setIfInBounds_toArray, List.set_cons_zero, List.set_cons_succ]
    refine wpAnyH_take (i := 12) (oi := { dst := some 34, op := Op.call { callee := Callee.value (Operand.func 19), args := #[Operand.tmp 33], argTypes := #[30] }, type := 3, pos := "law.go:204", after := #[{ on := 11, ground := Ground.data }, { on := 9, ground := Ground.chain }, { on := 9, ground := Ground.guard }], guard := some (9, true) }) (v := undef) rfl (by kernel_rfl) (by kernel_rfl) (by kernel_rfl) (fun _ _ _ h => h) (Or.inr ⟨by rfl, rfl⟩) (by assumption) ?_
    try simp only [Act.put, List.setIfInBounds_toArray, List.set_cons_zero, List.set_cons_succ]
    refine wpAnyH_take (i := 13) (oi := { dst := some 35, op := Op.load 3 (Operand.tmp 7), type := 3, pos := "law.go:204", after := #[{ on := 9, ground := Ground.guard }], guard := some (9, true) }) (v := undef) rfl (by kernel_rfl) (by kernel_rfl) (by kernel_rfl) (fun _ _ _ h => h) (Or.inr ⟨by rfl, rfl⟩) (by assumption) ?_
    try simp only [Act.put, List.setIfInBounds_toArray, List.set_cons_zero, List.set_cons_succ]
    refine wpAnyH_take (i := 14) (oi := { dst := some 36, op := Op.binOp BinOp.sub 3 (Operand.const (Value.int IntKind.i64 100)) (Operand.tmp 35) 3, type := 3, pos := "law.go:204", after := #[{ on := 13, ground := Ground.data }, { on := 9, ground := Ground.guard }], guard := some (9, true) }) (v := undef) rfl (by kernel_rfl) (by kernel_rfl) (by kernel_rfl) (fun _ _ _ h => h) (Or.inr ⟨by rfl, rfl⟩) (by assumption) ?_
    try simp only [Act.put, List.setIfInBounds_toArray, List.set_cons_zero, List.set_cons_succ]
    refine wpAnyH_take (i := 15) (oi := { dst := some 37, op := Op.binOp BinOp.eql 3 (Operand.tmp 34) (Operand.tmp 36) 3, type := 4, pos := "law.go:204", after := #[{ on := 12, ground := Ground.data }, { on := 14, ground := Ground.data }, { on := 9, ground := Ground.guard }], guard := some (9, true) }) (v := undef) rfl (by kernel_rfl) (by kernel_rfl) (by kernel_rfl) (fun _ _ _ h => h) (Or.inr ⟨by rfl, rfl⟩) (by assumption) ?_
    try simp only [Act.put, List.setIfInBounds_toArray, List.set_cons_zero, List.set_cons_succ]
    refine wpAnyH_take (i := 16) (oi := { dst := some 38, op := Op.pick (Operand.tmp 31) (Operand.tmp 37) (Operand.const (Value.bool false)), type := 4, pos := "law.go:204", after := #[{ on := 9, ground := Ground.data }, { on := 15, ground := Ground.data }, { on := 2, ground := Ground.guard }], guard := some (2, false) }) (v := undef) rfl (by kernel_rfl) (by kernel_rfl) (by kernel_rfl) (fun _ _ _ h => h) (Or.inr ⟨by rfl, rfl⟩) (by assumption) ?_
    try simp only [Act.put, List.setIfInBounds_toArray, List.set_cons_zero, List.set_cons_succ]
    refine wpAnyH_take (i := 17) (oi := { dst := some 39, op := Op.pick (Operand.tmp 24) (Operand.const (Value.bool true)) (Operand.tmp 38), type := 4, pos := "law.go:204", after := #[{ on := 2, ground := Ground.data }, { on := 16, ground := Ground.data }], guard := none }) (v := ?_) rfl (by kernel_rfl) (by kernel_rfl) (by kernel_rfl) (fun _ _ _ h => h) (Or.inl ⟨by rfl, ?_⟩) (by assumption) ?_
    rotate_left
    · intro w hSw; (try dsimp only at hSw); go_simp; try (with_reducible rfl)
    try simp only [Act.put, List.setIfInBounds_toArray, List.set_cons_zero, List.set_cons_succ]
    refine wpAnyH_take (i := 18) (oi := { dst := some 2, op := Op.assign (Operand.tmp 39), type := 4, pos := "law.go:204", after := #[{ on := 17, ground := Ground.data }, { on := 12, ground := Ground.chain }, { on := 0, ground := Ground.phase }, { on := 1, ground := Ground.phase }, { on := 2, ground := Ground.phase }, { on := 3, ground := Ground.phase }, { on := 4, ground := Ground.phase }, { on := 5, ground := Ground.phase }, { on := 6, ground := Ground.phase }, { on := 7, ground := Ground.phase }, { on := 8, ground := Ground.phase }, { on := 9, ground := Ground.phase }, { on := 10, ground := Ground.phase }, { on := 11, ground := Ground.phase }, { on := 12, ground := Ground.phase }, { on := 13, ground := Ground.phase }, { on := 14, ground := Ground.phase }, { on := 15, ground := Ground.phase }, { on := 16, ground := Ground.phase }, { on := 17, ground := Ground.phase }], guard := none }) (v := ?_) rfl (by kernel_rfl) (by kernel_rfl) (by kernel_rfl) (fun _ _ _ h => h) (Or.inl ⟨by rfl, ?_⟩) (by assumption) ?_
    rotate_left
    · intro w hSw; (try dsimp only at hSw); go_simp; try (with_reducible rfl)
    try simp only [Act.put, List.setIfInBounds_toArray, List.set_cons_zero, List.set_cons_succ]
    refine wpAnyH_done (by kernel_rfl) ?_ _
    go_wp2_with fail
    go_ret
    exact ⟨rfl, hE6.trans (show Ext U2 _ from hHeld)⟩
  | done vv x t =>
    rintro e w5 ⟨g, tb, h, rfl, hPt, hT, -, -, hx5⟩
    have hF := solveR_done (by omega) hR.symm
    obtain ⟨s9, h19, -⟩ := hF.eq
    have q4 : t.size ≤ 60 := by have := (solveF_limit (L' := 0) h19).1; have := (nodeF_sound (validB_iff.1 HVAL.out).vrel (intObj_of HINT.out) h19).2.2.2.2; omega
    have q3 := t.size_pos
    have hft := hF.fitv
    have hOk := hF.tree
    clear hR hF hPt h19
    have hm : P.m + t.size ≤ 68 := by omega
    obtain ⟨N, hN⟩ : ∃ n, n = t.size := ⟨_, rfl⟩
    have HN := Lib.hid hN
    rw [← hN] at q3 q4
    clear hN
    obtain ⟨N0, hN0⟩ : ∃ n, n = 100 - N := ⟨_, rfl⟩
    have HN0 : Hid (N0 + t.size = 100) := Lib.hid (by rw [← HN.out]; omega)
    have r1 : IntKind.i64.wrap ((100 : Int) - (N0 : Int)) = (N : Int) := by rw [show (100 : Int) - (N0 : Int) = (N : Int) by omega]; exact IntWalk.i64_in _ (by omega)
    have hsz : t.size ≤ 1000000 := by rw [← HN.out]; omega
    have hNb : N0 + t.size ≤ 1000000 := by rw [HN0.out]; decide
    have HOK := Lib.hid hOk
    have HSZ := Lib.hid hsz
    have HNB := Lib.hid hNb
    have HM := Lib.hid hm
    clear hN0 hOk hsz hNb hm
    go_upto_region 7 with fail
    have RA := Box.new w5 32 #[.int .i64 vv, .slice (some ⟨g, 0, none⟩) P.n P.n, .pointer (some ⟨tb, 0, none⟩)]
    have hxr : Ext w5 (w5.alloc (.cells #[.int .i64 vv, .slice (some ⟨g, 0, none⟩) P.n P.n, .pointer (some ⟨tb, 0, none⟩)] 32)) := (Ext.refl w5).alloc _
    generalize (w5.alloc (.cells #[.int .i64 vv, .slice (some ⟨g, 0, none⟩) P.n P.n, .pointer (some ⟨tb, 0, none⟩)] 32)) = U2 at *
    obtain ⟨ra, hra⟩ : ∃ x, x = w5.heap.size := ⟨_, rfl⟩
    rw [← hra] at RA ⊢
    clear hra
    have hT2 := hT.ext hxr
    have hx6 := hx5.trans hxr
    have hE6 := hE3.trans hx6
    have PB2 := PB.ext hx6
    have hP2 := hP.ext hx6
    clear hx5 hxr hx6 hE3 PB hP hT
    go_upto_region 8 with fail
    have LB := Box.new U2 3 #[.int .i64 100]
    have hxl : Ext U2 (U2.alloc (.cells #[.int .i64 100] 3)) := (Ext.refl U2).alloc _
    generalize (U2.alloc (.cells #[.int .i64 100] 3)) = U3 at *
    obtain ⟨lb, hlb⟩ : ∃ x, x = U2.heap.size := ⟨_, rfl⟩
    have hwl : w.heap.size ≤ lb := by rw [hlb]; exact hE6.size
    have hrl : ra ≠ lb := by have := RA.lt; omega
    have hpl : pb ≠ lb := by have := PB2.lt; omega
    rw [← hlb] at LB ⊢
    clear hlb
    have RA3 := RA.ext hxl
    have PB3 := PB2.ext hxl
    have hT3 := hT2.ext hxl
    have hP3 := hP2.ext hxl
    have hE8 := hE6.trans hxl
    clear hxl RA PB2 hT2 hP2 hE6
    have LB0 : Box U3 lb 3 #[.int .i64 ((N0 + t.size : Nat) : Int)] := by rw [HN0.out]; exact LB
    have k0 : ∀ w', Fr (PLb lb) U3 w' → w'.cell? ⟨pb, 0, none⟩ = some (.slice Ao P.n co) := fun w' h => (h.box PB3 hpl).c0
    have k1 : ∀ w', Fr (PLb lb) U3 w' → w'.cell? ⟨pb, 1, none⟩ = some (.slice Ar P.m cr) := fun w' h => (h.box PB3 hpl).c1
    have k2 : ∀ w', Fr (PLb lb) U3 w' → w'.cell? ⟨ra, 0, none⟩ = some (.int .i64 vv) := fun w' h => (h.box RA3 hrl).c0
    have k3 : ∀ w', Fr (PLb lb) U3 w' → w'.cell? ⟨ra, 2, none⟩ = some (.pointer (some ⟨tb, 0, none⟩)) := fun w' h => (h.box RA3 hrl).cell 2
    have ks := Fr.refl (PLb lb) U3
    refine wp_region_held_drew (S := fun w' => Fr (PLb lb) U3 w') (by kernel_rfl) ?_ (fun hHeld => ?_)
    · (try dsimp only); (repeat (first | (with_reducible assumption) | (with_reducible apply Fr.drew) | (with_reducible apply Fr.drewN)))
    refine wpAnyH_take (i := 0) (oi := { dst := some 22, op := Op.move (Operand.tmp 6), type := 33, pos := "law.go:204", after := #[], guard := none }) (v := ?_) rfl (by kernel_rfl) (by kernel_rfl) (by kernel_rfl) (fun _ _ _ h => h) (Or.inl ⟨by rfl, ?_⟩) (by assumption) ?_
    rotate_left
    · intro w hSw; (try dsimp only at hSw); go_simp; try (with_reducible rfl)
    try simp only [Act.put, List.setIfInBounds_toArray, List.set_cons_zero, List.set_cons_succ]
    refine wpAnyH_take (i := 1) (oi := { dst := some 23, op := Op.binOp BinOp.neq 33 (Operand.tmp 22) (Operand.const (Value.int IntKind.i64 0)) 33, type := 4, pos := "law.go:204", after := #[{ on := 0, ground := Ground.data }], guard := none }) (v := ?_) rfl (by kernel_rfl) (by kernel_rfl) (by kernel_rfl) (fun _ _ _ h => h) (Or.inl ⟨by rfl, ?_⟩) (by assumption) ?_
    rotate_left
    · intro w hSw; (try dsimp only at hSw); go_simp; try (with_reducible rfl)
    try simp only [Act.put, List.setIfInBounds_toArray, List.set_cons_zero, List.set_cons_succ]
    refine wpAnyH_take (i := 2) (oi := { dst := some 24, op := Op.move (Operand.tmp 23), type := 4, pos := "law.go:204", after := #[{ on := 1, ground := Ground.data }], guard := none }) (v := ?_) rfl (by kernel_rfl) (by kernel_rfl) (by kernel_rfl) (fun _ _ _ h => h) (Or.inl ⟨by rfl, ?_⟩) (by assumption) ?_
    rotate_left
    · intro w hSw; (try dsimp only at hSw); go_simp; try (with_reducible rfl)
    try simp only [Act.put, List.setIfInBounds_toArray, List.set_cons_zero, List.set_cons_succ]
    refine wpAnyH_take (i := 3) (oi := { dst := some 25, op := Op.load 39 (Operand.tmp 3), type := 39, pos := "law.go:204", after := #[{ on := 2, ground := Ground.guard }], guard := some (2, false) }) (v := ?_) rfl (by kernel_rfl) (by kernel_rfl) (by kernel_rfl) (fun _ _ _ h => h) (Or.inl ⟨by rfl, ?_⟩) (by assumption) ?_
    rotate_left
    · intro w hSw; (try dsimp only at hSw); go_simp; try (with_reducible rfl)
    try simp only [Act.put, List.setIfInBounds_toArray, List.set_cons_zero, List.set_cons_succ]
    refine wpAnyH_take (i := 4) (oi := { dst := some 26, op := Op.fieldAddr 32 (Operand.tmp 5) 2, type := 0, pos := "law.go:204", after := #[{ on := 2, ground := Ground.guard }], guard := some (2, false) }) (v := ?_) rfl (by kernel_rfl) (by kernel_rfl) (by kernel_rfl) (fun _ _ _ h => h) (Or.inl ⟨by rfl, ?_⟩) (by assumption) ?_
    rotate_left
    · intro w hSw; (try dsimp only at hSw); go_simp; try (with_reducible rfl)
    try simp only [Act.put, List.setIfInBounds_toArray, List.set_cons_zero, List.set_cons_succ]
    refine wpAnyH_take (i := 5) (oi := { dst := some 27, op := Op.load 30 (Operand.tmp 26), type := 30, pos := "law.go:204", after := #[{ on := 4, ground := Ground.data }, { on := 2, ground := Ground.guard }], guard := some (2, false) }) (v := ?_) rfl (by kernel_rfl) (by kernel_rfl) (by kernel_rfl) (fun _ _ _ h => h) (Or.inl ⟨by rfl, ?_⟩) (by assumption) ?_
    rotate_left
    · intro w hSw; (try dsimp only at hSw); go_simp; try (with_reducible rfl)
    try simp only [Act.put, List.setIfInBounds_toArray, List.set_cons_zero, List.set_cons_succ]
    refine wpAnyH_take (i := 6) (oi := { dst := some 28, op := Op.fieldAddr 32 (Operand.tmp 5) 0, type := 0, pos := "law.go:204", after := #[{ on := 2, ground := Ground.guard }], guard := some (2, false) }) (v := ?_) rfl (by kernel_rfl) (by kernel_rfl) (by kernel_rfl) (fun _ _ _ h => h) (Or.inl ⟨by rfl, ?_⟩) (by assumption) ?_
    rotate_left
    · intro w hSw; (try dsimp only at hSw); go_simp; try (with_reducible rfl)
    try simp only [Act.put, List.setIfInBounds_toArray, List.set_cons_zero, List.set_cons_succ]
    refine wpAnyH_take (i := 7) (oi := { dst := some 29, op := Op.load 3 (Operand.tmp 28), type := 3, pos := "law.go:204", after := #[{ on := 6, ground := Ground.data }, { on := 2, ground := Ground.guard }], guard := some (2, false) }) (v := ?_) rfl (by kernel_rfl) (by kernel_rfl) (by kernel_rfl) (fun _ _ _ h => h) (Or.inl ⟨by rfl, ?_⟩) (by assumption) ?_
    rotate_left
    · intro w hSw; (try dsimp only at hSw); go_simp; try (with_reducible rfl)
    try simp only [Act.put, List.setIfInBounds_toArray, List.set_cons_zero, List.set_cons_succ]
    refine wpAnyH_ready (rs := [8]) (by kernel_rfl) (by simp) ?_
    refine AllReadyH.cons (o := { dst := some 30, op := Op.call { callee := Callee.value (Operand.func 25), args := #[Operand.tmp 25, Operand.tmp 27, Operand.tmp 29, Operand.tmp 7], argTypes := #[39, 30, 3, 68] }, type := 4, pos := "law.go:204", after := #[{ on := 3, ground := Ground.data }, { on := 5, ground := Ground.data }, { on := 7, ground := Ground.data }, { on := 2, ground := Ground.chain }, { on := 2, ground := Ground.guard }], guard := some (2, false) }) rfl (fun K hK => ?_) ?_
    · go_simp
      first
        | (go_at_call 25; (with_reducible refine (proves_b 134217730 134217728 (by decide) vv hft t lb _ P tb h N0 _ (hP3.ext (by repeat (first | (with_reducible exact Ext.refl _) | (with_reducible apply Ext.drew) | (with_reducible apply Ext.drewN)))) (HCAN.out 68 (by omega) (by omega)) HM.out (hT3.ext (by repeat (first | (with_reducible exact Ext.refl _) | (with_reducible apply Ext.drew) | (with_reducible apply Ext.drewN)))) HOK.out (LB0.ext (by repeat (first | (with_reducible exact Ext.refl _) | (with_reducible apply Ext.drew) | (with_reducible apply Ext.drewN)))) HNB.out).mono ?_); rintro e wb ⟨rfl, LBb, hFb0⟩; (have hFb : Fr (PLb lb) U3 wb := Fr.trans (by repeat (first | (with_reducible assumption) | (with_reducible exact Fr.refl _ _) | (with_reducible apply Fr.drew) | (with_reducible apply Fr.drewN))) hFb0); (have l9 := LBb.c0); (have hTb := hT3.frL hFb LB0))
        | (go_at_call 19; (with_reducible refine (size_b 134217730 t tb h _ (hTb.ext (by repeat (first | (with_reducible exact Ext.refl _) | (with_reducible apply Ext.drew) | (with_reducible apply Ext.drewN)))) HSZ.out).mono ?_); rintro e wd ⟨rfl, hxd⟩; (rw [← HN.out]); (have hFd : Fr (PLb lb) U3 wd := Fr.trans (by repeat (first | (with_reducible assumption) | (with_reducible exact Fr.refl _ _) | (with_reducible apply Fr.drew) | (with_reducible apply Fr.drewN))) (Fr.of hxd)); (have l9 := (LBb.ext (Ext.trans (by repeat (first | (with_reducible exact Ext.refl _) | (with_reducible apply Ext.drew) | (with_reducible apply Ext.drewN))) hxd)).c0))
        | skip
      try (go_wp2_with fail)
      refine hK.out _ _ ?_ (fun hHeld => ?_)
      · (try dsimp only); (repeat (first | (with_reducible assumption) | (with_reducible apply Fr.drew) | (with_reducible apply Fr.drewN)))
      clear hK K
      try simp only [Act.put, List.setIfInBounds_toArray, List.set_cons_zero, List.set_cons_succ]
      refine wpAnyH_take (i := 9) (oi := { dst := some 31, op := Op.move (Operand.tmp 30), type := 4, pos := "law.go:204", after := #[{ on := 8, ground := Ground.data }, { on := 8, ground := Ground.chain }, { on := 2, ground := Ground.guard }], guard := some (2, false) }) (v := ?_) rfl (by kernel_rfl) (by kernel_rfl) (by kernel_rfl) (fun _ _ _ h => h) (Or.inl ⟨by rfl, ?_⟩) (by assumption) ?_
      rotate_left
      · intro w hSw; (try dsimp only at hSw); go_simp; try (with_reducible rfl)
      try simp only [Act.put, List.setIfInBounds_toArray, List.set_cons_zero, List.set_cons_succ]
      refine wpAnyH_take (i := 10) (oi := { dst := some 32, op := Op.fieldAddr 32 (Operand.tmp 5) 2, type := 0, pos := "law.go:204", after := #[{ on := 9, ground := Ground.guard }], guard := some (9, true) }) (v := ?_) rfl (by kernel_rfl) (by kernel_rfl) (by kernel_rfl) (fun _ _ _ h => h) (Or.inl ⟨by rfl, ?_⟩) (by assumption) ?_
      rotate_left
      · intro w hSw; (try dsimp only at hSw); go_simp; try (with_reducible rfl)
      try simp only [Act.put, List.setIfInBounds_toArray, List.set_cons_zero, List.set_cons_succ]
      refine wpAnyH_take (i := 11) (oi := { dst := some 33, op := Op.load 30 (Operand.tmp 32), type := 30, pos := "law.go:204", after := #[{ on := 10, ground := Ground.data }, { on := 9, ground := Ground.guard }], guard := some (9, true) }) (v := ?_) rfl (by kernel_rfl) (by kernel_rfl) (by kernel_rfl) (fun _ _ _ h => h) (Or.inl ⟨by rfl, ?_⟩) (by assumption) ?_
      rotate_left
      · intro w hSw; (try dsimp only at hSw); go_simp; try (with_reducible rfl)
      try simp only [Act.put, List.setIfInBounds_toArray, List.set_cons_zero, List.set_cons_succ]
      refine wpAnyH_ready (rs := [12, 13]) (by kernel_rfl) (by simp) ?_
      refine AllReadyH.cons (o := { dst := some 34, op := Op.call { callee := Callee.value (Operand.func 19), args := #[Operand.tmp 33], argTypes := #[30] }, type := 3, pos := "law.go:204", after := #[{ on := 11, ground := Ground.data }, { on := 9, ground := Ground.chain }, { on := 9, ground := Ground.guard }], guard := some (9, true) }) rfl (fun K hK => ?_) ?_
      · go_simp
        first
          | (go_at_call 25; (with_reducible refine (proves_b 134217730 134217728 (by decide) vv hft t lb _ P tb h N0 _ (hP3.ext (by repeat (first | (with_reducible exact Ext.refl _) | (with_reducible apply Ext.drew) | (with_reducible apply Ext.drewN)))) (HCAN.out 68 (by omega) (by omega)) HM.out (hT3.ext (by repeat (first | (with_reducible exact Ext.refl _) | (with_reducible apply Ext.drew) | (with_reducible apply Ext.drewN)))) HOK.out (LB0.ext (by repeat (first | (with_reducible exact Ext.refl _) | (with_reducible apply Ext.drew) | (with_reducible apply Ext.drewN)))) HNB.out).mono ?_); rintro e wb ⟨rfl, LBb, hFb0⟩; (have hFb : Fr (PLb lb) U3 wb := Fr.trans (by repeat (first | (with_reducible assumption) | (with_reducible exact Fr.refl _ _) | (with_reducible apply Fr.drew) | (with_reducible apply Fr.drewN))) hFb0); (have l9 := LBb.c0); (have hTb := hT3.frL hFb LB0))
          | (go_at_call 19; (with_reducible refine (size_b 134217730 t tb h _ (hTb.ext (by repeat (first | (with_reducible exact Ext.refl _) | (with_reducible apply Ext.drew) | (with_reducible apply Ext.drewN)))) HSZ.out).mono ?_); rintro e wd ⟨rfl, hxd⟩; (rw [← HN.out]); (have hFd : Fr (PLb lb) U3 wd := Fr.trans (by repeat (first | (with_reducible assumption) | (with_reducible exact Fr.refl _ _) | (with_reducible apply Fr.drew) | (with_reducible apply Fr.drewN))) (Fr.of hxd)); (have l9 := (LBb.ext (Ext.trans (by repeat (first | (with_reducible exact Ext.refl _) | (with_reducible apply Ext.drew) | (with_reducible apply Ext.drewN))) hxd)).c0))
          | skip
        try (go_wp2_with fail)
        refine hK.out _ _ ?_ (fun hHeld => ?_)
        · (try dsimp only); (repeat (first | (with_reducible assumption) | (with_reducible apply Fr.drew) | (with_reducible apply Fr.drewN)))
        clear hK K
        try simp only [Act.put, List.setIfInBounds_toArray, List.set_cons_zero, List.set_cons_succ]
        refine wpAnyH_ready (rs := [13]) (by kernel_rfl) (by simp) ?_
        refine AllReadyH.cons (o := { dst := some 35, op := Op.load 3 (Operand.tmp 7), type := 3, pos := "law.go:204", after := #[{ on := 9, ground := Ground.guard }], guard := some (9, true) }) rfl (fun K hK => ?_) ?_
        · go_simp
          try (go_wp2_with fail)
          refine hK.out _ _ ?_ (fun hHeld => ?_)
          · (try dsimp only); (repeat (first | (with_reducible assumption) | (with_reducible apply Fr.drew) | (with_reducible apply Fr.drewN)))
          clear hK K
          try simp only [Act.put, List.setIfInBounds_toArray, List.set_cons_zero, List.set_cons_succ]
          refine wpAnyH_take (i := 14) (oi := { dst := some 36, op := Op.binOp BinOp.sub 3 (Operand.const (Value.int IntKind.i64 100)) (Operand.tmp 35) 3, type := 3, pos := "law.go:204", after := #[{ on := 13, ground := Ground.data }, { on := 9, ground := Ground.guard }], guard := some (9, true) }) (v := ?_) rfl (by kernel_rfl) (by kernel_rfl) (by kernel_rfl) (fun _ _ _ h => h) (Or.inl ⟨by rfl, ?_⟩) (by assumption) ?_
          rotate_left
          · intro w hSw; (try dsimp only at hSw); go_simp; try (with_reducible rfl)
          try simp only [Act.put, List.setIfInBounds_toArray, List.set_cons_zero, List.set_cons_succ]
          refine wpAnyH_take (i := 15) (oi := { dst := some 37, op := Op.binOp BinOp.eql 3 (Operand.tmp 34) (Operand.tmp 36) 3, type := 4, pos := "law.go:204", after := #[{ on := 12, ground := Ground.data }, { on := 14, ground := Ground.data }, { on := 9, ground := Ground.guard }], guard := some (9, true) }) (v := ?_) rfl (by kernel_rfl) (by kernel_rfl) (by kernel_rfl) (fun _ _ _ h => h) (Or.inl ⟨by rfl, ?_⟩) (by assumption) ?_
          rotate_left
          · intro w hSw; (try dsimp only at hSw); go_simp; try (with_reducible rfl)
          try simp only [Act.put, List.setIfInBounds_toArray, List.set_cons_zero, List.set_cons_succ]
          refine wpAnyH_take (i := 16) (oi := { dst := some 38, op := Op.pick (Operand.tmp 31) (Operand.tmp 37) (Operand.const (Value.bool false)), type := 4, pos := "law.go:204", after := #[{ on := 9, ground := Ground.data }, { on := 15, ground := Ground.data }, { on := 2, ground := Ground.guard }], guard := some (2, false) }) (v := ?_) rfl (by kernel_rfl) (by kernel_rfl) (by kernel_rfl) (fun _ _ _ h => h) (Or.inl ⟨by rfl, ?_⟩) (by assumption) ?_
          rotate_left
          · intro w hSw; (try dsimp only at hSw); go_simp; try (with_reducible rfl)
          try simp only [Act.put, List.setIfInBounds_toArray, List.set_cons_zero, List.set_cons_succ]
          refine wpAnyH_take (i := 17) (oi := { dst := some 39, op := Op.pick (Operand.tmp 24) (Operand.const (Value.bool true)) (Operand.tmp 38), type := 4, pos := "law.go:204", after := #[{ on := 2, ground := Ground.data }, { on := 16, ground := Ground.data }], guard := none }) (v := ?_) rfl (by kernel_rfl) (by kernel_rfl) (by kernel_rfl) (fun _ _ _ h => h) (Or.inl ⟨by rfl, ?_⟩) (by assumption) ?_
          rotate_left
          · intro w hSw; (try dsimp only at hSw); go_simp; try (with_reducible rfl)
          try simp only [Act.put, List.setIfInBounds_toArray, List.set_cons_zero, List.set_cons_succ]
          refine wpAnyH_take (i := 18) (oi := { dst := some 2, op := Op.assign (Operand.tmp 39), type := 4, pos := "law.go:204", after := #[{ on := 17, ground := Ground.data }, { on := 12, ground := Ground.chain }, { on := 0, ground := Ground.phase }, { on := 1, ground := Ground.phase }, { on := 2, ground := Ground.phase }, { on := 3, ground := Ground.phase }, { on := 4, ground := Ground.phase }, { on := 5, ground := Ground.phase }, { on := 6, ground := Ground.phase }, { on := 7, ground := Ground.phase }, { on := 8, ground := Ground.phase }, { on := 9, ground := Ground.phase }, { on := 10, ground := Ground.phase }, { on := 11, ground := Ground.phase }, { on := 12, ground := Ground.phase }, { on := 13, ground := Ground.phase }, { on := 14, ground := Ground.phase }, { on := 15, ground := Ground.phase }, { on := 16, ground := Ground.phase }, { on := 17, ground := Ground.phase }], guard := none }) (v := ?_) rfl (by kernel_rfl) (by kernel_rfl) (by kernel_rfl) (fun _ _ _ h => h) (Or.inl ⟨by rfl, ?_⟩) (by assumption) ?_
          rotate_left
          · intro w hSw; (try dsimp only at hSw); go_simp; try (with_reducible rfl)
          try simp only [Act.put, List.setIfInBounds_toArray, List.set_cons_zero, List.set_cons_succ]
          refine wpAnyH_done (by kernel_rfl) ?_ _
          go_wp2_with fail
          go_ret
          exact ⟨rfl, Fr.ext hHeld hE8 (fun b hb => by rw [show b = lb from hb]; exact hwl)⟩
        exact AllReadyH.nil
      refine AllReadyH.cons (o := { dst := some 35, op := Op.load 3 (Operand.tmp 7), type := 3, pos := "law.go:204", after := #[{ on := 9, ground := Ground.guard }], guard := some (9, true) }) rfl (fun K hK => ?_) ?_
      · go_simp
        try (go_wp2_with fail)
        refine hK.out _ _ ?_ (fun hHeld => ?_)
        · (try dsimp only); (repeat (first | (with_reducible assumption) | (with_reducible apply Fr.drew) | (with_reducible apply Fr.drewN)))
        clear hK K
        try simp only [Act.put, List.setIfInBounds_toArray, List.set_cons_zero, List.set_cons_succ]
        refine wpAnyH_take (i := 14) (oi := { dst := some 36, op := Op.binOp BinOp.sub 3 (Operand.const (Value.int IntKind.i64 100)) (Operand.tmp 35) 3, type := 3, pos := "law.go:204", after := #[{ on := 13, ground := Ground.data }, { on := 9, ground := Ground.guard }], guard := some (9, true) }) (v := ?_) rfl (by kernel_rfl) (by kernel_rfl) (by kernel_rfl) (fun _ _ _ h => h) (Or.inl ⟨by rfl, ?_⟩) (by assumption) ?_
        rotate_left
        · intro w hSw; (try dsimp only at hSw); go_simp; try (with_reducible rfl)
        try simp only [Act.put, List.setIfInBounds_toArray, List.set_cons_zero, List.set_cons_succ]
        refine wpAnyH_ready (rs := [12]) (by kernel_rfl) (by simp) ?_
        refine AllReadyH.cons (o := { dst := some 34, op := Op.call { callee := Callee.value (Operand.func 19), args := #[Operand.tmp 33], argTypes := #[30] }, type := 3, pos := "law.go:204", after := #[{ on := 11, ground := Ground.data }, { on := 9, ground := Ground.chain }, { on := 9, ground := Ground.guard }], guard := some (9, true) }) rfl (fun K hK => ?_) ?_
        · go_simp
          first
            | (go_at_call 25; (with_reducible refine (proves_b 134217730 134217728 (by decide) vv hft t lb _ P tb h N0 _ (hP3.ext (by repeat (first | (with_reducible exact Ext.refl _) | (with_reducible apply Ext.drew) | (with_reducible apply Ext.drewN)))) (HCAN.out 68 (by omega) (by omega)) HM.out (hT3.ext (by repeat (first | (with_reducible exact Ext.refl _) | (with_reducible apply Ext.drew) | (with_reducible apply Ext.drewN)))) HOK.out (LB0.ext (by repeat (first | (with_reducible exact Ext.refl _) | (with_reducible apply Ext.drew) | (with_reducible apply Ext.drewN)))) HNB.out).mono ?_); rintro e wb ⟨rfl, LBb, hFb0⟩; (have hFb : Fr (PLb lb) U3 wb := Fr.trans (by repeat (first | (with_reducible assumption) | (with_reducible exact Fr.refl _ _) | (with_reducible apply Fr.drew) | (with_reducible apply Fr.drewN))) hFb0); (have l9 := LBb.c0); (have hTb := hT3.frL hFb LB0))
            | (go_at_call 19; (with_reducible refine (size_b 134217730 t tb h _ (hTb.ext (by repeat (first | (with_reducible exact Ext.refl _) | (with_reducible apply Ext.drew) | (with_reducible apply Ext.drewN)))) HSZ.out).mono ?_); rintro e wd ⟨rfl, hxd⟩; (rw [← HN.out]); (have hFd : Fr (PLb lb) U3 wd := Fr.trans (by repeat (first | (with_reducible assumption) | (with_reducible exact Fr.refl _ _) | (with_reducible apply Fr.drew) | (with_reducible apply Fr.drewN))) (Fr.of hxd)); (have l9 := (LBb.ext (Ext.trans (by repeat (first | (with_reducible exact Ext.refl _) | (with_reducible apply Ext.drew) | (with_reducible apply Ext.drewN))) hxd)).c0))
            | skip
          try (go_wp2_with fail)
          refine hK.out _ _ ?_ (fun hHeld => ?_)
          · (try dsimp only); (repeat (first | (with_reducible assumption) | (with_reducible apply Fr.drew) | (with_reducible apply Fr.drewN)))
          clear hK K
          try simp only [Act.put, List.setIfInBounds_toArray, List.set_cons_zero, List.set_cons_succ]
          refine wpAnyH_take (i := 15) (oi := { dst := some 37, op := Op.binOp BinOp.eql 3 (Operand.tmp 34) (Operand.tmp 36) 3, type := 4, pos := "law.go:204", after := #[{ on := 12, ground := Ground.data }, { on := 14, ground := Ground.data }, { on := 9, ground := Ground.guard }], guard := some (9, true) }) (v := ?_) rfl (by kernel_rfl) (by kernel_rfl) (by kernel_rfl) (fun _ _ _ h => h) (Or.inl ⟨by rfl, ?_⟩) (by assumption) ?_
          rotate_left
          · intro w hSw; (try dsimp only at hSw); go_simp; try (with_reducible rfl)
          try simp only [Act.put, List.setIfInBounds_toArray, List.set_cons_zero, List.set_cons_succ]
          refine wpAnyH_take (i := 16) (oi := { dst := some 38, op := Op.pick (Operand.tmp 31) (Operand.tmp 37) (Operand.const (Value.bool false)), type := 4, pos := "law.go:204", after := #[{ on := 9, ground := Ground.data }, { on := 15, ground := Ground.data }, { on := 2, ground := Ground.guard }], guard := some (2, false) }) (v := ?_) rfl (by kernel_rfl) (by kernel_rfl) (by kernel_rfl) (fun _ _ _ h => h) (Or.inl ⟨by rfl, ?_⟩) (by assumption) ?_
          rotate_left
          · intro w hSw; (try dsimp only at hSw); go_simp; try (with_reducible rfl)
          try simp only [Act.put, List.setIfInBounds_toArray, List.set_cons_zero, List.set_cons_succ]
          refine wpAnyH_take (i := 17) (oi := { dst := some 39, op := Op.pick (Operand.tmp 24) (Operand.const (Value.bool true)) (Operand.tmp 38), type := 4, pos := "law.go:204", after := #[{ on := 2, ground := Ground.data }, { on := 16, ground := Ground.data }], guard := none }) (v := ?_) rfl (by kernel_rfl) (by kernel_rfl) (by kernel_rfl) (fun _ _ _ h => h) (Or.inl ⟨by rfl, ?_⟩) (by assumption) ?_
          rotate_left
          · intro w hSw; (try dsimp only at hSw); go_simp; try (with_reducible rfl)
          try simp only [Act.put, List.setIfInBounds_toArray, List.set_cons_zero, List.set_cons_succ]
          refine wpAnyH_take (i := 18) (oi := { dst := some 2, op := Op.assign (Operand.tmp 39), type := 4, pos := "law.go:204", after := #[{ on := 17, ground := Ground.data }, { on := 12, ground := Ground.chain }, { on := 0, ground := Ground.phase }, { on := 1, ground := Ground.phase }, { on := 2, ground := Ground.phase }, { on := 3, ground := Ground.phase }, { on := 4, ground := Ground.phase }, { on := 5, ground := Ground.phase }, { on := 6, ground := Ground.phase }, { on := 7, ground := Ground.phase }, { on := 8, ground := Ground.phase }, { on := 9, ground := Ground.phase }, { on := 10, ground := Ground.phase }, { on := 11, ground := Ground.phase }, { on := 12, ground := Ground.phase }, { on := 13, ground := Ground.phase }, { on := 14, ground := Ground.phase }, { on := 15, ground := Ground.phase }, { on := 16, ground := Ground.phase }, { on := 17, ground := Ground.phase }], guard := none }) (v := ?_) rfl (by kernel_rfl) (by kernel_rfl) (by kernel_rfl) (fun _ _ _ h => h) (Or.inl ⟨by rfl, ?_⟩) (by assumption) ?_
          rotate_left
          · intro w hSw; (try dsimp only at hSw); go_simp; try (with_reducible rfl)
          try simp only [Act.put, List.setIfInBounds_toArray, List.set_cons_zero, List.set_cons_succ]
          refine wpAnyH_done (by kernel_rfl) ?_ _
          go_wp2_with fail
          go_ret
          exact ⟨rfl, Fr.ext hHeld hE8 (fun b hb => by rw [show b = lb from hb]; exact hwl)⟩
        exact AllReadyH.nil
      exact AllReadyH.nil
    exact AllReadyH.nil
end Go.Proofs.Ythafabkjidifeaa.Lp

/- Walk: Solve of ilp. -/
import Derived.Test.YthafabkjidifeaaIN
import Derived.Test.YthafabkjidifeaaII
import Derived.Test.YthafabkjidifeaaISC
set_option linter.unusedVariables false
set_option linter.unusedSimpArgs false
namespace Go.Proofs.Ythafabkjidifeaa.Lp
open Go.RowKit Go.Proofs.Ythafabkjidifeaa.Big Go.Proofs.Ythafabkjidifeaa.Rt

/-- what Solve answers -/
inductive SRes where
  | fail (c : Int)
  | done (v : Int) (x : Nat → Int) (t : BT)
def resR : Except Int (BT × BS) → SRes
  | .error c => .fail c
  | .ok (t, s) => match s.best with
    | none => .fail 17
    | some (v, x) => .done v x t
theorem resR_none {t : BT} {s : BS} (h : s.best = none) : resR (.ok (t, s)) = .fail 17 := by simp [resR, h]
theorem resR_some {t : BT} {s : BS} {v : Int} {x : Nat → Int} (h : s.best = some (v, x)) : resR (.ok (t, s)) = .done v x t := by simp [resR, h]
noncomputable def solveR (L : Nat) (p : Prob) : SRes := if validB p = true ∧ intB p = true then resR (solveF L p) else .fail 3
def SoPost (K : Nat) (p : Prob) (w : World) : SRes → Ending → World → Prop
  | .fail c, e, w' => e = .returned (.tuple #[.agg #[.int .i64 0, .slice none 0 0, .pointer none], .int .i64 c]) ∧ Ext w w'
  | .done v x t, e, w' => ∃ g b h, e = .returned (.tuple #[.agg #[.int .i64 v, .slice (some ⟨g, 0, none⟩) p.n p.n, .pointer (some ⟨b, 0, none⟩)], .int .i64 0]) ∧ Pts w' g p.n x ∧ TreeV K w' t b h ∧ h ≤ w'.heap.size ∧ w.heap.size ≤ b ∧ Ext w w'
theorem boxesT3 (w : World) (E0 E1 E2 : TypeId) (c0 c1 c2 : Array Value) :
    Box (((w.alloc (.cells c0 E0)).alloc (.cells c1 E1)).alloc (.cells c2 E2)) w.heap.size E0 c0 ∧ Box (((w.alloc (.cells c0 E0)).alloc (.cells c1 E1)).alloc (.cells c2 E2)) (w.heap.size + 1) E1 c1 ∧
    Box (((w.alloc (.cells c0 E0)).alloc (.cells c1 E1)).alloc (.cells c2 E2)) (w.heap.size + 1 + 1) E2 c2 ∧ Ext w (((w.alloc (.cells c0 E0)).alloc (.cells c1 E1)).alloc (.cells c2 E2)) := by
  have s1 : (w.alloc (.cells c0 E0)).heap.size = w.heap.size + 1 := by simp
  have s2 : ((w.alloc (.cells c0 E0)).alloc (.cells c1 E1)).heap.size = w.heap.size + 1 + 1 := by simp
  refine ⟨((Box.new w E0 c0).alloc _).alloc _, ?_, ?_, (((Ext.refl w).alloc _).alloc _).alloc _⟩
  · have := (Box.new (w.alloc (.cells c0 E0)) E1 c1).alloc (.cells c2 E2); rwa [s1] at this
  · have := Box.new ((w.alloc (.cells c0 E0)).alloc (.cells c1 E1)) E2 c2; rwa [s2] at this
theorem wp_calm {P : Program} {c : Code} {K : Act → World → Prop} {Q : Exit → Act → World → Prop} {a : Act} {w : World} (h : c.wp P (Exit.then K (fun _ _ _ => False)) a w) : c.wp P (Exit.then K Q) a w :=
  wp_mono h (fun e a w h => by cases e <;> first | exact h | exact h.elim)
/-- results written -/
theorem put_res {w : World} {rb eb : Nat} {x0 x1 x2 y0 : Value} (RB : Box w rb 32 #[x0, x1, x2]) (EB : Box w eb 33 #[y0]) (hne : rb ≠ eb) (u0 u1 u2 v0 : Value) :
    Box ((((w.setCell ⟨rb, 0, none⟩ u0).setCell ⟨rb, 1, none⟩ u1).setCell ⟨rb, 2, none⟩ u2).setCell ⟨eb, 0, none⟩ v0) rb 32 #[u0, u1, u2] ∧ Box ((((w.setCell ⟨rb, 0, none⟩ u0).setCell ⟨rb, 1, none⟩ u1).setCell ⟨rb, 2, none⟩ u2).setCell ⟨eb, 0, none⟩ v0) eb 33 #[v0] ∧
    ∀ a, Ext a w → a.heap.size ≤ rb → a.heap.size ≤ eb → Ext a ((((w.setCell ⟨rb, 0, none⟩ u0).setCell ⟨rb, 1, none⟩ u1).setCell ⟨rb, 2, none⟩ u2).setCell ⟨eb, 0, none⟩ v0) :=
  ⟨(((RB.set 0 u0).set 1 u1).set 2 u2).far (p := ⟨eb, 0, none⟩) hne v0, (((EB.far (p := ⟨rb, 0, none⟩) (Ne.symm hne) u0).far (p := ⟨rb, 1, none⟩) (Ne.symm hne) u1).far (p := ⟨rb, 2, none⟩) (Ne.symm hne) u2).set 0 v0,
    fun a ha h1 h2 => (((ha.set (p := ⟨rb, 0, none⟩) h1 _).set (p := ⟨rb, 1, none⟩) h1 _).set (p := ⟨rb, 2, none⟩) h1 _).set (p := ⟨eb, 0, none⟩) h2 _⟩
theorem put_fr {w : World} {rb eb : Nat} {x0 : Int} {A : Option Addr} {n c : Nat} {b : Option Addr} {y0 : Int} (RB : Box w rb 32 #[.int .i64 x0, .slice A n c, .pointer b]) (EB : Box w eb 33 #[.int .i64 y0]) (hne : rb ≠ eb) (u0 u1 u2 v0 : Value) :
    Fr (fun k => k = rb ∨ k = eb) w ((((w.setCell ⟨rb, 0, none⟩ u0).setCell ⟨rb, 1, none⟩ u1).setCell ⟨rb, 2, none⟩ u2).setCell ⟨eb, 0, none⟩ v0) := by
  refine ((((Fr.refl (fun k => k = rb ∨ k = eb) w).set (p := ⟨rb, 0, none⟩) (.inl rfl) (fun z => ?_) _).set (p := ⟨rb, 1, none⟩) (.inl rfl) (fun z => ?_) _).set (p := ⟨rb, 2, none⟩) (.inl rfl) (fun z => ?_) _).set (p := ⟨eb, 0, none⟩) (.inr rfl) (fun z => ?_) _
  · rw [RB.cell 0]; intro e; cases e
  · rw [(RB.set 0 _).cell 1]; intro e; cases e
  · rw [((RB.set 0 _).set 1 _).cell 2]; intro e; cases e
  · rw [(((EB.far (p := ⟨rb, 0, none⟩) (Ne.symm hne) u0).far (p := ⟨rb, 1, none⟩) (Ne.symm hne) u1).far (p := ⟨rb, 2, none⟩) (Ne.symm hne) u2).cell 0]; intro e; cases e
set_option maxHeartbeats 8000000 in
set_option maxRecDepth 100000 in
theorem Solve_i (v : Value) (p : Prob) (z : Int) (kk M K L : Nat) (w : World) (hv : ProbV w v p) (hz0 : -9223372036854775808 ≤ z) (hz1 : z ≤ 9223372036854775807) (hL : (L : Int) = max z 0) (hC : validB p = true → CanI p kk M K) (hM : p.m + L ≤ M) (hL2 : L ≤ 1000) :
    Calls Try.prog 13 #[v, .int .i64 z] w (SoPost (K + 2) p w (solveR L p)) := by
  have HC := Lib.hid hC
  have hv0 := hv
  obtain ⟨Ao, co, Ar, cr, rfl, -⟩ := hv0
  obtain ⟨R, hR⟩ : ∃ x, x = solveR L p := ⟨_, rfl⟩
  rw [← hR]
  have HR := Lib.hid hR
  have HLZ := Lib.hid hL
  clear hR hC hL
  have hmf : ∀ (fn : Fn) (first cap : Array Value) (w : World), (Instr.makeFunc fn first cap).run Try.prog w = .ok (.func fn first cap) w := fun _ _ _ _ => rfl
  go_enter_defers Try.func13, Try.ntmps13
  go_upto_region 1 with fail
  obtain ⟨PB, RB, EB, hE0⟩ := boxesT3 w 39 32 33 #[.slice Ao p.n co, .slice Ar p.m cr] #[.int .i64 0, .slice none 0 0, .pointer none] #[.int .i64 0]
  generalize (((w.alloc (.cells #[.slice Ao p.n co, .slice Ar p.m cr] 39)).alloc (.cells #[.int .i64 0, .slice none 0 0, .pointer none] 32)).alloc (.cells #[.int .i64 0] 33)) = V at *
  obtain ⟨eb, heb⟩ : ∃ x, x = w.heap.size + 1 + 1 := ⟨_, rfl⟩
  obtain ⟨rb, hrb⟩ : ∃ x, x = w.heap.size + 1 := ⟨_, rfl⟩
  obtain ⟨pb, hpb⟩ : ∃ x, x = w.heap.size := ⟨_, rfl⟩
  rw [← heb] at EB ⊢
  rw [← hrb] at RB ⊢
  rw [← hpb] at PB ⊢
  have hne : rb ≠ eb := by omega
  have hwr : w.heap.size ≤ rb := by omega
  have hwe : w.heap.size ≤ eb := by omega
  clear heb hrb hpb
  have c0 := PB.c0
  have c1 := PB.c1
  have hvV := hv.ext hE0
  go_wp2_with fail
  refine (Valid_b _ p _ hvV).mono ?_
  rintro e w1 ⟨rfl, hx1⟩
  have hE1 := hE0.trans hx1
  have hv1 := hvV.ext hx1
  have PB := PB.ext hx1
  have RB := RB.ext hx1
  have EB := EB.ext hx1
  have c0 := PB.c0
  have c1 := PB.c1
  clear hvV hE0 hx1
  obtain ⟨B, hB⟩ : ∃ B, B = validB p := ⟨_, rfl⟩
  rw [← hB]
  cases B with
  | false =>
    have HE : Hid (R = .fail 3) := Lib.hid (by rw [HR.out]; unfold solveR; rw [if_neg (fun h => by rw [h.1] at hB; cases hB)])
    clear hB
    obtain ⟨RB2, EB2, hx2⟩ := put_res RB EB hne (.int .i64 0) (.slice none 0 0) (.pointer none) (.int .i64 3)
    have q0 := RB.c0
    have q1 := RB.c1
    have q2 : (w1).cell? ⟨rb, 2, none⟩ = some _ := RB.cell 2
    have z0 := RB.frozen 0
    have z1 := RB.frozen 1
    have z2 := RB.frozen 2
    have e0 := EB.c0
    have y0 := EB.frozen 0
    go_wp2_with fail
    clear q0 q1 q2 z0 z1 z2 e0 y0
    have q0 := RB2.c0
    have q1 := RB2.c1
    have q2 := RB2.cell 2
    have e0 := EB2.c0
    refine ⟨.tuple #[.agg #[.int .i64 0, .slice none 0 0, .pointer none], .int .i64 3], by simp [results, Try.results13, go_sem, q0, q1, q2, e0], ?_⟩
    rw [HE.out]
    exact ⟨rfl, hx2 w hE1 hwr hwe⟩
  | true =>
    have HV : Hid (validB p = true) := Lib.hid hB.symm
    obtain ⟨a1, a2, a3, a4⟩ := validB_iff.1 hB.symm
    have hCan := HC.out hB.symm
    clear hB
    go_wp2_with fail
    refine (integral_b _ p 3 _ hv1 a1 (fun j hj => QB_mono (by omega) (hCan.obj j hj)) hCan.right (fun i hi j hj => QB_mono (by omega) (hCan.coef i hi j (by rw [← (a4 i hi).1]; exact hj)))).mono ?_
    rintro e w2 ⟨rfl, hx2⟩
    have hE2 := hE1.trans hx2
    have hv2 := hv1.ext hx2
    have PB := PB.ext hx2
    have RB := RB.ext hx2
    have EB := EB.ext hx2
    have HCAN := Lib.hid hCan
    clear hE1 hv1 hx2 a2 a3 a4 c0 c1 hCan
    have c0 := PB.c0
    have c1 := PB.c1
    obtain ⟨I, hI⟩ : ∃ B, B = intB p := ⟨_, rfl⟩
    rw [← hI]
    cases I with
    | false =>
      have HE : Hid (R = .fail 3) := Lib.hid (by rw [HR.out]; unfold solveR; rw [if_neg (fun h => by rw [h.2] at hI; cases hI)])
      clear hI
      obtain ⟨RB2, EB2, hx2⟩ := put_res RB EB hne (.int .i64 0) (.slice none 0 0) (.pointer none) (.int .i64 3)
      have q0 := RB.c0
      have q1 := RB.c1
      have q2 : (w2).cell? ⟨rb, 2, none⟩ = some _ := RB.cell 2
      have z0 := RB.frozen 0
      have z1 := RB.frozen 1
      have z2 := RB.frozen 2
      have e0 := EB.c0
      have y0 := EB.frozen 0
      go_wp2_with fail
      clear q0 q1 q2 z0 z1 z2 e0 y0
      have q0 := RB2.c0
      have q1 := RB2.c1
      have q2 := RB2.cell 2
      have e0 := EB2.c0
      refine ⟨.tuple #[.agg #[.int .i64 0, .slice none 0 0, .pointer none], .int .i64 3], by simp [results, Try.results13, go_sem, q0, q1, q2, e0], ?_⟩
      rw [HE.out]
      exact ⟨rfl, hx2 w hE2 hwr hwe⟩
    | true =>
      have HI : Hid (intB p = true) := Lib.hid hI.symm
      clear hI
      go_upto_region 5 with fail
      rw [← HLZ.out]
      have SB : Box (w2.alloc (.cells #[.int .i64 (L : Int), .int .i64 0, .bool false, .int .i64 0, .slice none 0 0] 88)) w2.heap.size 88 #[.int .i64 (L : Int), .int .i64 0, .bool false, .int .i64 0, .slice none 0 0] := Box.new w2 _ _
      have hxs : Ext w2 (w2.alloc (.cells #[.int .i64 (L : Int), .int .i64 0, .bool false, .int .i64 0, .slice none 0 0] 88)) := (Ext.refl w2).alloc _
      generalize (w2.alloc (.cells #[.int .i64 (L : Int), .int .i64 0, .bool false, .int .i64 0, .slice none 0 0] 88)) = w3 at *
      obtain ⟨sb, hsb⟩ : ∃ x, x = w2.heap.size := ⟨_, rfl⟩
      rw [← hsb] at SB ⊢
      have hws : w.heap.size ≤ sb := by have := hE2.size; omega
      clear hsb
      have hS0 : SearchV w3 sb L p.n ⟨0, none⟩ := ⟨false, 0, none, 0, 0, SB, fun _ => rfl, fun v x e => by cases e⟩
      have hE3 := hE2.trans hxs
      have hv3 := hv2.ext hxs
      have RB := RB.ext hxs
      have EB := EB.ext hxs
      have PB := PB.ext hxs
      have c0 := PB.c0
      have c1 := PB.c1
      have hrs : rb ≠ sb := row_ne RB SB (by decide)
      have hes : eb ≠ sb := row_ne EB SB (by decide)
      obtain ⟨r, hr⟩ : ∃ r, r = solveF L p := ⟨_, rfl⟩
      have HSR : Hid (R = resR r) := Lib.hid (by rw [HR.out, hr]; unfold solveR; rw [if_pos ⟨HV.out, HI.out⟩])
      have hN := node_all L sb kk M K (L + 1) hL2 p ⟨0, none⟩ _ w3 HCAN.out hS0 hv3 (by show L < 0 + (L + 1); omega) (by show p.m + (L - 0) ≤ M; omega)
      rw [show nodeF L (L + 1) p ⟨0, none⟩ = r from hr.symm] at hN
      clear hr hE2 hv2 hS0 hxs
      go_wp2_with fail
      refine hN.mono ?_
      clear hN c0 c1
      cases r with
      | error c =>
        rintro e w4 ⟨hF, rfl⟩
        have HE : Hid (R = .fail c) := Lib.hid HSR.out
        have RB4 := hF.box RB hrs
        have EB4 := hF.box EB hes
        have hE4 := hF.ext hE3 (fun b hb => hb ▸ hws)
        refine leaves_cons (f := 35) (args := #[.pointer (some ⟨rb, 0, none⟩), .pointer (some ⟨eb, 0, none⟩)]) (by simp) (by simp [go_sem]) ?_
        refine (catch_fail rb eb c [] _ _ _ _ _ RB4 EB4 hne).mono ?_
        rintro e u' w5 ⟨rfl, rfl, hR5, hE5, hx5⟩
        have q0 := hR5.c0
        have q1 := hR5.c1
        have q2 := hR5.cell 2
        have e0 := hE5.c0
        refine ⟨.tuple #[.agg #[.int .i64 0, .slice none 0 0, .pointer none], .int .i64 c], by simp [results, Try.results13, go_sem, q0, q1, q2, e0], ?_⟩
        rw [HE.out]
        exact ⟨rfl, hx5 w hE4 hwr hwe⟩
      | ok q =>
        obtain ⟨t, s⟩ := q
        rintro e w4 ⟨hF, b, rfl, hb, hT, hS⟩
        have RB := hF.box RB hrs
        have EB := hF.box EB hes
        have hE4 := hF.ext hE3 (fun b hb => hb ▸ hws)
        have hwb : w.heap.size ≤ b := Nat.le_trans hE3.size hb
        obtain ⟨fo, va, A, m, c, SB4, hn0, hs0⟩ := hS
        have s2 : w4.cell? ⟨sb, 2, none⟩ = some (.bool fo) := SB4.cell 2
        clear SB hF
        cases hbest : s.best with
        | none =>
          obtain rfl : fo = false := hn0 hbest
          have HE : Hid (R = .fail 17) := Lib.hid (by rw [HSR.out]; exact resR_none hbest)
          clear hbest hn0 hs0 HSR
          obtain ⟨RB2, EB2, hx2⟩ := put_res RB EB hne (.int .i64 0) (.slice none 0 0) (.pointer none) (.int .i64 17)
          have q0 := RB.c0
          have q1 := RB.c1
          have q2 : (w4).cell? ⟨rb, 2, none⟩ = some _ := RB.cell 2
          have z0 := RB.frozen 0
          have z1 := RB.frozen 1
          have z2 := RB.frozen 2
          have e0 := EB.c0
          have y0 := EB.frozen 0
          go_wp2_with fail
          clear q0 q1 q2 z0 z1 z2 e0 y0
          generalize ((((w4.setCell ⟨rb, 0, none⟩ (.int .i64 0)).setCell ⟨rb, 1, none⟩ (.slice none 0 0)).setCell ⟨rb, 2, none⟩ (.pointer none)).setCell ⟨eb, 0, none⟩ (.int .i64 17)) = w5 at *
          refine leaves_cons (f := 35) (args := #[.pointer (some ⟨rb, 0, none⟩), .pointer (some ⟨eb, 0, none⟩)]) (by simp) (by simp [go_sem]) ?_
          refine (catch_idle _ _ _).mono ?_
          rintro e u' w6 ⟨rfl, rfl, rfl⟩
          have q0 := RB2.c0
          have q1 := RB2.c1
          have q2 := RB2.cell 2
          have e0 := EB2.c0
          refine ⟨.tuple #[.agg #[.int .i64 0, .slice none 0 0, .pointer none], .int .i64 17], by simp [results, Try.results13, go_sem, q0, q1, q2, e0], ?_⟩
          rw [HE.out]
          exact ⟨rfl, hx2 w hE4 hwr hwe⟩
        | some q9 =>
          obtain ⟨bv, bx⟩ := q9
          obtain ⟨rfl, rfl, hfv, rfl, rfl, g, rfl, hPt⟩ := hs0 bv bx hbest
          have HE : Hid (R = .done va bx t) := Lib.hid (by rw [HSR.out]; exact resR_some hbest)
          clear hbest hn0 hs0 HSR
          have s3 : w4.cell? ⟨sb, 3, none⟩ = some (.int .i64 va) := SB4.cell 3
          have s4 : w4.cell? ⟨sb, 4, none⟩ = some (.slice (some ⟨g, 0, none⟩) p.n p.n) := SB4.cell 4
          obtain ⟨RB2, EB2, hx2⟩ := put_res RB EB hne (.int .i64 va) (.slice (some ⟨g, 0, none⟩) p.n p.n) (.pointer (some ⟨b, 0, none⟩)) (.int .i64 0)
          have hF5 := put_fr RB EB hne (.int .i64 va) (.slice (some ⟨g, 0, none⟩) p.n p.n) (.pointer (some ⟨b, 0, none⟩)) (.int .i64 0)
          have hPt5 : Pts _ g p.n bx := hPt.fr hF5 (by
            obtain ⟨cs, k1, -⟩ := id hPt
            rintro (h | h)
            · exact row_ne k1 RB (by decide) h
            · exact row_ne k1 EB (by decide) h)
          have hT5 := hT.fr hF5 (fun k cs h1 h2 => by
            rcases h2 with h | h
            · exact row_ne h1 RB (by decide) h
            · exact row_ne h1 EB (by decide) h) (fun b n f h1 h2 => by
            obtain ⟨cs, k1, -⟩ := id h1
            rcases h2 with h | h
            · exact row_ne k1 RB (by decide) h
            · exact row_ne k1 EB (by decide) h)
          have hx5 := hx2 w hE4 hwr hwe
          have hsz5 := hF5.size
          have q0 := RB.c0
          have q1 := RB.c1
          have q2 : (w4).cell? ⟨rb, 2, none⟩ = some _ := RB.cell 2
          have z0 := RB.frozen 0
          have z1 := RB.frozen 1
          have z2 := RB.frozen 2
          have e0 := EB.c0
          have y0 := EB.frozen 0
          go_upto_region 8 with fail
          refine wp_calm ?_
          clear hx2 hF5 hPt hT
          go_region_law (fail)
          all_goals (
            clear q0 q1 q2 z0 z1 z2 e0 y0 s2 s3 s4
            generalize ((((w4.setCell ⟨rb, 0, none⟩ (.int .i64 va)).setCell ⟨rb, 1, none⟩ (.slice (some ⟨g, 0, none⟩) p.n p.n)).setCell ⟨rb, 2, none⟩ (.pointer (some ⟨b, 0, none⟩))).setCell ⟨eb, 0, none⟩ (.int .i64 0)) = w5 at *
            go_wp2_with fail
            refine leaves_cons (f := 35) (args := #[.pointer (some ⟨rb, 0, none⟩), .pointer (some ⟨eb, 0, none⟩)]) (by simp) (by simp [go_sem]) ?_
            refine (catch_idle _ _ _).mono ?_
            rintro e u' w6 ⟨rfl, rfl, rfl⟩
            have q0 := RB2.c0
            have q1 := RB2.c1
            have q2 := RB2.cell 2
            have e0 := EB2.c0
            refine ⟨.tuple #[.agg #[.int .i64 va, .slice (some ⟨g, 0, none⟩) p.n p.n, .pointer (some ⟨b, 0, none⟩)], .int .i64 0], by simp [results, Try.results13, go_sem, q0, q1, q2, e0], ?_⟩
            rw [HE.out]
            first
              | exact ⟨g, b, w4.heap.size, rfl, hPt5, hT5, hsz5, hwb, hx5⟩
              | exact ⟨g, b, w4.heap.size, rfl, hPt5.ext (Ext.drew (Ext.refl _)), hT5.ext (Ext.drew (Ext.refl _)), hsz5, hwb, hx5.drew⟩)
end Go.Proofs.Ythafabkjidifeaa.Lp

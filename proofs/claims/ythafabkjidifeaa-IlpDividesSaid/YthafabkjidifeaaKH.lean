/- A further row in a boxed problem: what the search answers; rows of a problem in memory, appended to. Plain: the two sides of a boxed problem (IlpDivides); rats of a list of the call's own. -/
import Derived.Test.YthafabkjidifeaaKF
import Derived.Test.YthafabkjidifeaaLV5
import Derived.Deep.DeepCutAuto
import Derived.Test.YthafabkjidifeaaIAW
import Derived.Test.YthafabkjidifeaaLN2
import Derived.Test.YthafabkjidifeaaLV3
set_option linter.unusedVariables false
set_option linter.unusedSimpArgs false
namespace Go.Proofs.Ythafabkjidifeaa.Lp
open Go.RowKit Go.Proofs.Ythafabkjidifeaa.Big Go.Proofs.Ythafabkjidifeaa.Rt

theorem BoxP.can {ip : IP} {m : Nat} (h : BoxP ip m) : CanI ip.pl.toP 3 (m + 400) 134217728 := by
  have hM : bK3 (m + 400) 3 2 3 2 ≤ bK3 500 3 2 3 2 := bK3_mono (by have := h.m1; omega) (Nat.le_refl _) (Nat.le_refl _)
  have hM2 : bK3 500 3 2 3 2 ≤ 134217728 := by decide
  exact IP.can h.ok (by rw [IP.pn]; exact h.n3) (by rw [IP.pm]; have := h.ms; omega) (by have := h.m1; omega) (by omega) (by omega) h.valid
/-- a problem with a further row -/
def IP.moreZ (p : IP) (r : IRow) : IP := ⟨p.obj, p.rows ++ [r], p.den⟩
theorem moreZ_holds {p : IP} {r : IRow} {n : Nat} {x : Nat → Int} : holdsZ (p.moreZ r).rows n x = (holdsZ p.rows n x && r.holdZ n x) := by
  unfold holdsZ IP.moreZ
  rw [List.all_append]
  simp
theorem moreZ_feas {p : IP} {r : IRow} (hd : p.den = 0) {x : Nat → Rat} (h : (p.moreZ r).pl.toP.Feas x) : p.pl.toP.Feas x := by
  obtain ⟨h1, h2⟩ := h
  refine ⟨fun j hj => h1 j (by rw [IP.pn] at hj ⊢; exact hj), fun i hi => ?_⟩
  rw [IP.pm] at hi
  have g1 : p.rows[i]? = some p.rows[i] := List.getElem?_eq_getElem hi
  have g2 : (p.moreZ r).rows[i]? = some p.rows[i] := by
    show (p.rows ++ [r])[i]? = _
    rw [List.getElem?_append_left hi]; exact g1
  obtain ⟨a1, a2, a3, -⟩ := IP.rowZ hd g1
  obtain ⟨b1, b2, b3, -⟩ := IP.rowZ (ip := p.moreZ r) hd g2
  have h3 := h2 i (by rw [IP.pm]; exact (List.getElem?_eq_some_iff.1 g2).1)
  have e1 : dot (p.moreZ r).pl.toP.n ((p.moreZ r).pl.toP.coef i) x = dot p.pl.toP.n (p.pl.toP.coef i) x := by
    rw [IP.pn, IP.pn]
    show sm p.obj.length _ = sm p.obj.length _
    exact sm_congr fun j _ => by rw [a1, b1]
  rw [e1, b2, b3] at h3
  rw [a2, a3]
  exact h3
theorem BoxP.more {ip : IP} {m : Nat} {r : IRow} (h : BoxP ip m) (hm : m + 1 ≤ 100) (hl : r.coef.length = ip.obj.length) (hr : in32 r.right) (h1 : 1 ≤ r.rel) (h3 : r.rel ≤ 3) (hc : ∀ z ∈ r.coef, -200 ≤ z ∧ z ≤ 200) : BoxP (ip.moreZ r) (m + 1) := by
  refine ⟨h.den, h.n1, h.n3, ?_, hm, h.obj, fun s hs => ?_, fun x hx j hj => h.box x (moreZ_feas h.den hx) j hj⟩
  · show (ip.rows ++ [r]).length ≤ m + 1
    rw [List.length_append, List.length_singleton]
    have := h.ms
    omega
  · rcases List.mem_append.1 hs with hs | hs
    · exact h.rows s hs
    · rw [List.mem_singleton.1 hs]
      exact ⟨hl, hr, h1, h3, hc⟩
theorem BoxP.solve {ip : IP} {m : Nat} (h : BoxP ip m) : (∃ v x t, solveR 400 ip.pl.toP = .done v x t ∧ Found 400 ip.pl.toP v x t) ∨ (solveR 400 ip.pl.toP = .fail 17 ∧ ∀ u, ¬ ip.pl.toP.FeasI u) :=
  box_solve h.valid (IP.int h.den) (by rw [IP.pn]; exact h.n3) h.Box h.small
/-- what a point found is -/
theorem BoxP.found {ip : IP} {m : Nat} (h : BoxP ip m) {v : Int} {x : Nat → Int} {t : BT} (hF : Found 400 ip.pl.toP v x t) : (∀ j, j < ip.obj.length → 0 ≤ x j ∧ x j ≤ 3) ∧ holdsZ ip.rows ip.obj.length x = true ∧ dotZ ip.obj ip.obj.length x = v := by
  obtain ⟨f1, f2⟩ := (IP.feasI h.den h.valid).1 hF.feas
  refine ⟨fun j hj => ⟨f1 j hj, ?_⟩, f2, ?_⟩
  · have h3 : ((x j : Int) : Rat) ≤ 3 := h.box _ hF.feas j hj
    have h4 : ((x j : Int) : Rat) ≤ ((3 : Int) : Rat) := h3
    exact Rat.intCast_le_intCast.1 h4
  · have hob : ((dotZ ip.obj ip.obj.length x : Int) : Rat) = (v : Rat) := by rw [← hF.obj]; exact (IP.objI h.den x).symm
    exact Rat.intCast_inj.1 hob
theorem rows_first {ip : IP} {m m' : Nat} {r : IRow} {v : Int} {x : Nat → Int} {t : BT} (h : BoxP ip m) (h' : BoxP (ip.moreZ r) m') (hF : Found 400 ip.pl.toP v x t) (hx : r.holdZ ip.obj.length x = true) : ∃ x1 t1, solveR 400 (ip.moreZ r).pl.toP = .done v x1 t1 := by
  obtain ⟨q1, q2, q3⟩ := h.found hF
  have hfx : (ip.moreZ r).pl.toP.FeasI x := (IP.feasI h'.den h'.valid).2 ⟨fun j hj => (q1 j hj).1, by rw [moreZ_holds]; show (holdsZ ip.rows ip.obj.length x && r.holdZ ip.obj.length x) = true; rw [q2, hx]; rfl⟩
  rcases h'.solve with ⟨v1, x1, t1, h1, hF1⟩ | ⟨h1, h2⟩
  · refine ⟨x1, t1, ?_⟩
    have a1 := hF1.best x hfx
    have a2 : (ip.moreZ r).pl.toP.objI x = ((dotZ ip.obj ip.obj.length x : Int) : Rat) := IP.objI h'.den x
    rw [a2, q3] at a1
    have a1 := Rat.intCast_le_intCast.1 a1
    have b0 : ip.pl.toP.FeasI x1 := moreZ_feas h.den hF1.feas
    have b1 := hF.best x1 b0
    rw [IP.objI h.den x1] at b1
    obtain ⟨-, -, c3⟩ := h'.found hF1
    have c3 : dotZ ip.obj ip.obj.length x1 = v1 := c3
    rw [c3] at b1
    have b1 := Rat.intCast_le_intCast.1 b1
    rw [h1]
    congr 1
    omega
  · exact absurd hfx (h2 x)
theorem rows_second {ip : IP} {m m' : Nat} {r : IRow} {v : Int} {x : Nat → Int} {t : BT} (h : BoxP ip m) (h' : BoxP (ip.moreZ r) m') (hF : Found 400 ip.pl.toP v x t) : solveR 400 (ip.moreZ r).pl.toP = .fail 17 ∨ ∃ v2 x2 t2, solveR 400 (ip.moreZ r).pl.toP = .done v2 x2 t2 ∧ v2 ≤ v := by
  rcases h'.solve with ⟨v1, x1, t1, h1, hF1⟩ | ⟨h1, h2⟩
  · refine .inr ⟨v1, x1, t1, h1, ?_⟩
    have b1 := hF.best x1 (moreZ_feas h.den hF1.feas)
    rw [IP.objI h.den x1] at b1
    obtain ⟨-, -, c3⟩ := h'.found hF1
    have c3 : dotZ ip.obj ip.obj.length x1 = v1 := c3
    rw [c3] at b1
    exact Rat.intCast_le_intCast.1 b1
  · exact .inl h1
end Go.Proofs.Ythafabkjidifeaa.Lp

namespace Go.Proofs.Ythafabkjidifeaa.Lp
open Go.RowKit Go.Proofs.Ythafabkjidifeaa.Big Go.Proofs.Ythafabkjidifeaa.Rt

def SRes.err : SRes → Int
  | .fail c => c
  | .done _ _ _ => 0
def SRes.val : SRes → Int
  | .fail _ => 0
  | .done v _ _ => v
theorem SoPost.any {K : Nat} {p : Prob} {w w' : World} {e : Ending} {R : SRes} (h : SoPost K p w R e w') : ∃ A N C B, e = .returned (.tuple #[.agg #[.int .i64 R.val, .slice A N C, .pointer B], .int .i64 R.err]) ∧ Ext w w' := by
  cases R with
  | fail c =>
    obtain ⟨rfl, hx⟩ := h
    exact ⟨none, 0, 0, none, rfl, hx⟩
  | done v x t =>
    obtain ⟨g, b, h0, rfl, -, -, -, -, hx⟩ := h
    exact ⟨_, _, _, _, rfl, hx⟩
section
variable {P : Prob} {k : Nat} {f : Int} {b : Bool}
theorem side_int (h : intB P = true) : intB (P.side k f b) = true := by
  unfold intB at h ⊢
  rw [Bool.and_eq_true, intL_iff, intR_iff] at h ⊢
  obtain ⟨h1, h2⟩ := h
  refine ⟨h1, fun i hi => ?_⟩
  have hi : i < P.m + 1 := hi
  show (if i = P.m then ((f + (if b = true then 1 else 0) : Int) : Rat) else P.right i).den = 1 ∧ ∀ j, j < (if i = P.m then P.n else P.len i) → ((if i = P.m then (fun j => if j = k then 1 else 0) else P.coef i) j).den = 1
  by_cases e : i = P.m
  · rw [if_pos e, if_pos e, if_pos e]
    refine ⟨rfl, fun j _ => ?_⟩
    show (if j = k then (1 : Rat) else 0).den = 1
    split <;> rfl
  · rw [if_neg e, if_neg e, if_neg e]
    exact h2 i (by omega)
theorem side_valid (h : validB P = true) (hm : P.m + 1 ≤ 1000) : validB (P.side k f b) = true := by
  obtain ⟨a1, a2, a3, a4⟩ := validB_iff.1 h
  refine validB_iff.2 ⟨a1, a2, ?_, fun i hi => ?_⟩
  · show P.m + 1 ≤ 1000; omega
  · have hi : i < P.m + 1 := hi
    show (if i = P.m then P.n else P.len i) = P.n ∧ 1 ≤ (if i = P.m then (if b = true then 3 else 1) else P.rel i) ∧ (if i = P.m then (if b = true then 3 else 1) else P.rel i) ≤ 3
    by_cases e : i = P.m
    · rw [if_pos e, if_pos e]; refine ⟨rfl, ?_⟩; split <;> exact ⟨by omega, by omega⟩
    · rw [if_neg e, if_neg e]; exact a4 i (by omega)
end
theorem BoxP.up {ip : IP} {m m' : Nat} (h : BoxP ip m) (h1 : m ≤ m') (h2 : m' ≤ 100) : BoxP ip m' := ⟨h.den, h.n1, h.n3, Nat.le_trans h.ms h1, h2, h.obj, h.rows, h.box⟩
theorem BoxP.side {ip : IP} {m : Nat} (h : BoxP ip m) {k : Nat} (hk : k < ip.pl.toP.n) {f : Int} (b : Bool) :
    (∃ v x t, solveR 400 (ip.pl.toP.side k f b) = .done v x t ∧ Found 400 (ip.pl.toP.side k f b) v x t) ∨ (solveR 400 (ip.pl.toP.side k f b) = .fail 17 ∧ ∀ u, ¬ (ip.pl.toP.side k f b).FeasI u) :=
  box_solve (side_valid h.valid (by rw [IP.pm]; have := h.ms; have := h.m1; omega)) (side_int (IP.int h.den)) (by show ip.pl.toP.n ≤ 3; rw [IP.pn]; exact h.n3) (fun x hx => h.Box x ((Prob.side_feas hk).1 hx).1) (fun x hx => h.small x ((Prob.side_feas hk).1 hx).1)
theorem divides_plain {ip : IP} {m : Nat} (h : BoxP ip m) {k : Nat} (hk : k < ip.pl.toP.n) {f : Int} {R Rl Rh : SRes} (hR : R = solveR 400 ip.pl.toP) (hl : Rl = solveR 400 (ip.pl.toP.side k f false)) (hh : Rh = solveR 400 (ip.pl.toP.side k f true)) :
    (Rl.err = 0 ∧ Rh.err = 0 ∧ R.err = 0 ∧ R.val = max Rl.val Rh.val) ∨ (Rl.err = 0 ∧ Rh.err = 17 ∧ R.err = 0 ∧ R.val = Rl.val) ∨ (Rl.err = 17 ∧ Rh.err = 0 ∧ R.err = 0 ∧ R.val = Rh.val) ∨ (Rl.err = 17 ∧ Rh.err = 17 ∧ R.err = 17) := by
  have down : ∀ (b : Bool) (u : Nat → Int), (ip.pl.toP.side k f b).FeasI u → ip.pl.toP.FeasI u := fun b u hu => ((Prob.side_feas hk).1 hu).1
  have obj : ∀ (b : Bool) (u : Nat → Int), (ip.pl.toP.side k f b).objI u = ip.pl.toP.objI u := fun b u => rfl
  rcases h.solve with ⟨v, x, t, e, hF⟩ | ⟨e, hN⟩
  · rw [e] at hR
    have hsome := Prob.side_int (f := f) hk hF.feas
    rcases h.side hk (f := f) false with ⟨vl, xl, tl, el, hFl⟩ | ⟨el, hNl⟩
    · rw [el] at hl
      have l1 : vl ≤ v := by
        have := hF.best xl (down false xl hFl.feas)
        rw [← obj false, hFl.obj] at this
        exact Rat.intCast_le_intCast.1 this
      rcases h.side hk (f := f) true with ⟨vh, xh, th, eh, hFh⟩ | ⟨eh, hNh⟩
      · rw [eh] at hh
        have h1 : vh ≤ v := by
          have := hF.best xh (down true xh hFh.feas)
          rw [← obj true, hFh.obj] at this
          exact Rat.intCast_le_intCast.1 this
        subst hR hl hh
        refine .inl ⟨rfl, rfl, rfl, ?_⟩
        show v = max vl vh
        rcases hsome with h2 | h2
        · have := hFl.best x h2
          rw [obj false, hF.obj] at this
          have := Rat.intCast_le_intCast.1 this
          omega
        · have := hFh.best x h2
          rw [obj true, hF.obj] at this
          have := Rat.intCast_le_intCast.1 this
          omega
      · rw [eh] at hh
        subst hR hl hh
        refine .inr (.inl ⟨rfl, rfl, rfl, ?_⟩)
        show v = vl
        rcases hsome with h2 | h2
        · have := hFl.best x h2
          rw [obj false, hF.obj] at this
          have := Rat.intCast_le_intCast.1 this
          omega
        · exact absurd h2 (hNh x)
    · rw [el] at hl
      rcases h.side hk (f := f) true with ⟨vh, xh, th, eh, hFh⟩ | ⟨eh, hNh⟩
      · rw [eh] at hh
        have h1 : vh ≤ v := by
          have := hF.best xh (down true xh hFh.feas)
          rw [← obj true, hFh.obj] at this
          exact Rat.intCast_le_intCast.1 this
        subst hR hl hh
        refine .inr (.inr (.inl ⟨rfl, rfl, rfl, ?_⟩))
        show v = vh
        rcases hsome with h2 | h2
        · exact absurd h2 (hNl x)
        · have := hFh.best x h2
          rw [obj true, hF.obj] at this
          have := Rat.intCast_le_intCast.1 this
          omega
      · rcases hsome with h2 | h2
        · exact absurd h2 (hNl x)
        · exact absurd h2 (hNh x)
  · rw [e] at hR
    rcases h.side hk (f := f) false with ⟨vl, xl, tl, el, hFl⟩ | ⟨el, hNl⟩
    · exact absurd (down false xl hFl.feas) (hN xl)
    · rcases h.side hk (f := f) true with ⟨vh, xh, th, eh, hFh⟩ | ⟨eh, hNh⟩
      · exact absurd (down true xh hFh.feas) (hN xh)
      · rw [el] at hl
        rw [eh] at hh
        subst hR hl hh
        exact .inr (.inr (.inr ⟨rfl, rfl, rfl⟩))
/-- which side a point lies on -/
theorem sides_feas {P : Prob} {k n : Nat} {f : Int} {x : Nat → Int} (hk : k < P.n) (hv : validB P = true) (hm : P.m + 1 ≤ 1000) (hn : n = P.n) :
    (feasB P n (fun j => (x j : Rat)) = true ∧ feasB (P.side k f false) n (fun j => (x j : Rat)) = true ∧ feasB (P.side k f true) n (fun j => (x j : Rat)) = false) ∨
    (feasB (P.side k f false) n (fun j => (x j : Rat)) = false ∧ feasB P n (fun j => (x j : Rat)) = feasB (P.side k f true) n (fun j => (x j : Rat))) := by
  have a0 : feasB P n (fun j => (x j : Rat)) = true ↔ P.Feas (fun j => (x j : Rat)) := by
    rw [feasB_iff]; exact ⟨fun h => h.2.2, fun h => ⟨validB_iff.1 hv, hn, h⟩⟩
  have asd : ∀ b, feasB (P.side k f b) n (fun j => (x j : Rat)) = true ↔ (P.side k f b).Feas (fun j => (x j : Rat)) := fun b => by
    rw [feasB_iff]; exact ⟨fun h => h.2.2, fun h => ⟨validB_iff.1 (side_valid hv hm), hn, h⟩⟩
  have al := (asd false).trans (Prob.side_feas hk)
  have ah := (asd true).trans (Prob.side_feas hk)
  rw [if_neg (by decide)] at al
  rw [if_pos rfl] at ah
  have cl : ((x k : Int) : Rat) ≤ (f : Rat) ↔ x k ≤ f := Rat.intCast_le_intCast
  have ch : ((f + 1 : Int) : Rat) ≤ ((x k : Int) : Rat) ↔ f + 1 ≤ x k := Rat.intCast_le_intCast
  have al : feasB (P.side k f false) n (fun j => (x j : Rat)) = true ↔ P.Feas (fun j => (x j : Rat)) ∧ x k ≤ f := al.trans (and_congr Iff.rfl cl)
  have ah : feasB (P.side k f true) n (fun j => (x j : Rat)) = true ↔ P.Feas (fun j => (x j : Rat)) ∧ f + 1 ≤ x k := ah.trans (and_congr Iff.rfl ch)
  rw [← a0] at al ah
  generalize feasB P n (fun j => (x j : Rat)) = B0 at *
  generalize feasB (P.side k f false) n (fun j => (x j : Rat)) = B1 at *
  generalize feasB (P.side k f true) n (fun j => (x j : Rat)) = B2 at *
  by_cases hx : x k ≤ f
  · have hx2 : ¬ f + 1 ≤ x k := by omega
    simp only [hx, hx2, and_true, and_false, iff_false] at al ah
    cases B0 <;> cases B1 <;> cases B2 <;> simp_all
  · have hx2 : f + 1 ≤ x k := by omega
    simp only [hx, hx2, and_true, and_false, iff_false] at al ah
    cases B0 <;> cases B1 <;> cases B2 <;> simp_all
set_option maxHeartbeats 1000000 in
set_option maxRecDepth 100000 in
/-- rats of a list that lies in memory -/
theorem rats_c (g n c : Nat) (x : Nat → Int) (w : World) (h : ∀ j, j < n → w.cell? ⟨g, j, none⟩ = some (.int .i64 (x j))) (hf : ∀ j, j < n → fit (x j) = true) (hn : n ≤ 1048576) :
    Calls Try.prog 30 #[.slice (some ⟨g, 0, none⟩) n c] w (NumsPost w n (fun j => ((x j : Int) : Rat))) := by
  have HF := Lib.hid hf
  clear hf
  obtain ⟨i0, ii, iz0, iz1, iz2⟩ := info_parts infoRat
  go_enter Try.func30, Try.ntmps30
  go_wp2_with fail
  go_loopw [3, 8] (fun v i wr => ∃ k : Nat, k ≤ n ∧ i = .int .i64 k ∧ OwnQ wr w.heap.size v k (fun j => ((x j : Int) : Rat)) ∧ Ext w wr) (fun _ i _ => n - (intOf i).toNat)
  case atStart => exact ⟨0, by omega, rfl, OwnQ.nil _ _ _, Ext.refl w⟩
  case round =>
    obtain ⟨k, hk, rfl, hO, hx⟩ := hrel
    by_cases hlt : k < n
    · have e0 := hx.cell (h k hlt)
      obtain ⟨v1, v2⟩ := fit_iff.1 (HF.out k hlt)
      have i1 : (0 : Int) ≤ (k : Int) := by omega
      have i2 : (k : Int) < (n : Int) := by omega
      obtain ⟨A1, c1, rfl⟩ := hO.shape
      go_wp2_with fail
      refine (RatOf_b (x k) _ v1 v2).mono ?_
      rintro e w1 ⟨v1, rfl, hb1, hx1⟩
      obtain ⟨p1, B1, m1, d1, p1', B1', m1', d1', rfl⟩ := hb1.1.shape
      have hO1 := (hO.ext hx1).ext ((Ext.refl w1).alloc (.cells #[.bool p1, .slice B1 m1 d1, .bool p1', .slice B1' m1' d1'] 59))
      have hX1 := (hx.trans hx1).alloc (.cells #[.bool p1, .slice B1 m1 d1, .bool p1', .slice B1' m1' d1'] 59)
      have hb2 := hb1.1.ext ((Ext.refl w1).alloc (.cells #[.bool p1, .slice B1 m1 d1, .bool p1', .slice B1' m1' d1'] 59))
      have hN4 := new4 w1 59 (.bool p1) (.slice B1 m1 d1) (.bool p1') (.slice B1' m1' d1')
      obtain ⟨xs, o0, a0⟩ := hO1
      have hsz := hX1.size
      clear e0
      go_upto_region 6 with (at_builtin; go_loud (refine wpList_pushX rfl _ _ 36 rfl w.heap.size 59 i0 _ 4 64 Try.underlying36 ii iz0 iz1 iz2 rfl zR _ k xs rfl o0 w1.heap.size [.bool p1, .slice B1 m1 d1, .bool p1', .slice B1' m1' d1'] 1 rfl rfl hN4 one4 nou4 (by omega) (by decide) hsz ?_); intro v2 w2 o2 r2 s2)
      have hX2 := r2.ext hX1 (fun g hg => (o0.lt hg).1)
      have a2 := At.push o0.1 a0 r2 hb2
      obtain ⟨A2, c2, rfl⟩ := o2.shape
      go_wp2_with fail
      go_roundw
      case rel => first | exact ⟨k + 1, by omega, by go_num, ⟨_, o2, a2⟩, hX2⟩ | ((repeat (apply Exists.intro (α := Value))); exact ⟨⟨k + 1, by omega, by go_num, ⟨_, o2, a2⟩, hX2⟩, rfl⟩)
      case measure => simp [intOf]; omega
    · obtain rfl : k = n := by omega
      obtain ⟨A1, c1, rfl⟩ := hO.shape
      go_wp2_with fail
      go_ret
      exact ⟨A1, c1, rfl, hO.rats, hx⟩
end Go.Proofs.Ythafabkjidifeaa.Lp

/- Rational numbers in memory; reduced. Walks: the rational numbers' Den, Num, Sign, Neg, Of, Make, Frac, Cmp. -/
import Derived.Test.YtljncdcjkdgkeaaGreatDoorP2
import Derived.Deep.DeepCutAuto
set_option linter.unusedVariables false
set_option linter.unusedSimpArgs false
namespace Go.Proofs.YtljncdcjkdgkeaaGreatDoor.Big
open Go.RowKit

theorem boxesT2 (w : World) (E0 E1 : TypeId) (c0 c1 : Array Value) :
    Box ((w.alloc (.cells c0 E0)).alloc (.cells c1 E1)) w.heap.size E0 c0 ∧ Box ((w.alloc (.cells c0 E0)).alloc (.cells c1 E1)) (w.heap.size + 1) E1 c1 ∧ Ext w ((w.alloc (.cells c0 E0)).alloc (.cells c1 E1)) := by
  have s1 : (w.alloc (.cells c0 E0)).heap.size = w.heap.size + 1 := by simp
  refine ⟨(Box.new w E0 c0).alloc _, ?_, ((Ext.refl w).alloc _).alloc _⟩
  have := Box.new (w.alloc (.cells c0 E0)) E1 c1; rwa [s1] at this
theorem boxesT3 (w : World) (E0 E1 E2 : TypeId) (c0 c1 c2 : Array Value) :
    Box (((w.alloc (.cells c0 E0)).alloc (.cells c1 E1)).alloc (.cells c2 E2)) w.heap.size E0 c0 ∧ Box (((w.alloc (.cells c0 E0)).alloc (.cells c1 E1)).alloc (.cells c2 E2)) (w.heap.size + 1) E1 c1 ∧
    Box (((w.alloc (.cells c0 E0)).alloc (.cells c1 E1)).alloc (.cells c2 E2)) (w.heap.size + 1 + 1) E2 c2 ∧ Ext w (((w.alloc (.cells c0 E0)).alloc (.cells c1 E1)).alloc (.cells c2 E2)) := by
  obtain ⟨h0, h1, h2⟩ := boxesT2 w E0 E1 c0 c1
  have s2 : ((w.alloc (.cells c0 E0)).alloc (.cells c1 E1)).heap.size = w.heap.size + 1 + 1 := by simp
  refine ⟨h0.alloc _, h1.alloc _, ?_, h2.alloc _⟩
  have := Box.new ((w.alloc (.cells c0 E0)).alloc (.cells c1 E1)) E2 c2; rwa [s2] at this
theorem Box.set4 {w : World} {b : Nat} {E : TypeId} {x y z u : Value} (h : Box w b E #[x, y, z, u]) (x' y' z' u' : Value) :
    Box ((((w.setCell ⟨b, 0, none⟩ x').setCell ⟨b, 1, none⟩ y').setCell ⟨b, 2, none⟩ z').setCell ⟨b, 3, none⟩ u') b E #[x', y', z', u'] := by
  have h1 : Box _ _ _ #[x', y, z, u] := h.set 0 x'
  have h2 : Box _ _ _ #[x', y', z, u] := h1.set 1 y'
  have h3 : Box _ _ _ #[x', y', z', u] := h2.set 2 z'
  exact h3.set 3 u'
theorem Box.c2 {w : World} {b : Nat} {E : TypeId} {x y z : Value} {r : List Value} (h : Box w b E (x :: y :: z :: r).toArray) : w.cell? ⟨b, 2, none⟩ = some z := h.cell 2
theorem Box.c3 {w : World} {b : Nat} {E : TypeId} {x y z u : Value} {r : List Value} (h : Box w b E (x :: y :: z :: u :: r).toArray) : w.cell? ⟨b, 3, none⟩ = some u := h.cell 3
/-- a store into a block of values that are no numbers leaves all digits -/
theorem Dig.farB {w : World} {b : Nat} {E : TypeId} {cs : Array Value} {v : Value} {n V : Nat} (h : Dig w v n V) (hb : Box w b E cs) (hx : ∀ (i : Nat) (v : Value), cs[i]? = some v → notInt v = true) (i : Nat) (u : Value) : Dig (w.setCell ⟨b, i, none⟩ u) v n V := by
  obtain ⟨A, c, rfl, h1, h2, h3, h4⟩ := h
  refine ⟨A, c, rfl, h1, h2, h3, fun hn => ?_⟩
  obtain ⟨b', off, rfl, hc⟩ := h4 hn
  refine ⟨b', off, rfl, fun j hj => ?_⟩
  have hcj := hc j hj
  by_cases hbb : b' = b
  · subst hbb
    exfalso
    rw [hb.cell] at hcj
    have := hx _ _ hcj
    cases this
  · rw [World.cell?_setCell_other _ _ _ _ (fun e => hbb (by injection e with e; exact e.symm))]; exact hcj
theorem BigV.farB {w : World} {b : Nat} {E : TypeId} {cs : Array Value} {v : Value} {z : Int} (h : BigV w v z) (hb : Box w b E cs) (hx : ∀ (i : Nat) (v : Value), cs[i]? = some v → notInt v = true) (i : Nat) (u : Value) : BigV (w.setCell ⟨b, i, none⟩ u) v z := by
  obtain ⟨s, n, rfl, h1, h2⟩ := h
  exact ⟨s, n, rfl, h1.farB hb hx i u, h2⟩
theorem noInt2 (p : Bool) (A : Option Addr) (n c : Nat) : ∀ (i : Nat) (v : Value), (#[.bool p, .slice A n c] : Array Value)[i]? = some v → notInt v = true := by
  intro i v h
  match i, h with
  | 0, h => simp at h; subst h; rfl
  | 1, h => simp at h; subst h; rfl
  | i + 2, h => simp at h
theorem noInt4 (p p' : Bool) (A A' : Option Addr) (n c n' c' : Nat) : ∀ (i : Nat) (v : Value), (#[.bool p, .slice A n c, .bool p', .slice A' n' c'] : Array Value)[i]? = some v → notInt v = true := by
  intro i v h
  match i, h with
  | 0, h => simp at h; subst h; rfl
  | 1, h => simp at h; subst h; rfl
  | 2, h => simp at h; subst h; rfl
  | 3, h => simp at h; subst h; rfl
  | i + 4, h => simp at h
/-- a rational number stored into a block of its own -/
theorem BigV.far4 {w : World} {b : Nat} {E : TypeId} {p p' q q' : Bool} {A A' D D' : Option Addr} {n c n' c' m k m' k' : Nat} {v : Value} {z : Int} (h : BigV w v z) (hb : Box w b E #[.bool p, .slice A n c, .bool p', .slice A' n' c']) :
    BigV ((((w.setCell ⟨b, 0, none⟩ (.bool q)).setCell ⟨b, 1, none⟩ (.slice D m k)).setCell ⟨b, 2, none⟩ (.bool q')).setCell ⟨b, 3, none⟩ (.slice D' m' k')) v z := by
  have h1 : Box _ _ _ #[.bool q, .slice A n c, .bool p', .slice A' n' c'] := hb.set 0 (.bool q)
  have h2 : Box _ _ _ #[.bool q, .slice D m k, .bool p', .slice A' n' c'] := h1.set 1 (.slice D m k)
  have h3 : Box _ _ _ #[.bool q, .slice D m k, .bool q', .slice A' n' c'] := h2.set 2 (.bool q')
  exact (((h.farB hb (noInt4 _ _ _ _ _ _ _ _) 0 _).farB h1 (noInt4 _ _ _ _ _ _ _ _) 1 _).farB h2 (noInt4 _ _ _ _ _ _ _ _) 2 _).farB h3 (noInt4 _ _ _ _ _ _ _ _) 3 _
theorem two_put {w : World} {b c : Nat} {E : TypeId} {p q p' q' : Bool} {A A0 A' A0' : Option Addr} {n k n0 k0 n' k' n0' k0' : Nat} {z z' : Int} (hne : b ≠ c)
    (h : BigV w (.agg #[.bool p, .slice A n k]) z) (h' : BigV w (.agg #[.bool p', .slice A' n' k']) z') (hb : Box w b E #[.bool q, .slice A0 n0 k0]) (hc : Box w c E #[.bool q', .slice A0' n0' k0']) :
    ∃ w', w' = ((((w.setCell ⟨b, 0, none⟩ (.bool p)).setCell ⟨b, 1, none⟩ (.slice A n k)).setCell ⟨c, 0, none⟩ (.bool p')).setCell ⟨c, 1, none⟩ (.slice A' n' k')) ∧
      BigV w' (.agg #[.bool p, .slice A n k]) z ∧ BigV w' (.agg #[.bool p', .slice A' n' k']) z' ∧ Box w' b E #[.bool p, .slice A n k] ∧ Box w' c E #[.bool p', .slice A' n' k'] := by
  obtain ⟨w', rfl, h1, h2, _⟩ := BigV.put2 hne h h' hb hc
  refine ⟨_, rfl, h1, h2, ?_, ?_⟩
  · exact ((hb.put2 (.bool p) (.slice A n k)).far (p := ⟨c, 0, none⟩) hne (.bool p')).far (p := ⟨c, 1, none⟩) hne (.slice A' n' k')
  · exact ((hc.far (p := ⟨b, 0, none⟩) (fun e => hne e.symm) (.bool p)).far (p := ⟨b, 1, none⟩) (fun e => hne e.symm) (.slice A n k)).put2 (.bool p') (.slice A' n' k')
theorem Later.size {a b : World} (h : Later a b) : a.heap.size ≤ b.heap.size := Ext.size h
theorem Later.set {a w : World} (h : Later a w) {p : Addr} (hp : a.heap.size ≤ p.block) (u : Value) : Later a (w.setCell p u) := Ext.set h hp u
theorem sign_ne {x : Int} (h : x ≠ 0) : (x.sign == 0) = false := by
  rcases sign_cases x with ⟨a, b⟩ | ⟨a, b⟩ | ⟨a, b⟩ <;> rw [b] <;> first | rfl | omega

end Go.Proofs.YtljncdcjkdgkeaaGreatDoor.Big
namespace Go.Proofs.YtljncdcjkdgkeaaGreatDoor.Rt
open Go.RowKit Go.Proofs.YtljncdcjkdgkeaaGreatDoor.Big
/-- the struct value v is the rational number q: the denominator 0 stands for 1 -/
def RatV (w : World) (v : Value) (q : Rat) : Prop := ∃ p A n c p' A' n' c' z, v = .agg #[.bool p, .slice A n c, .bool p', .slice A' n' c'] ∧ BigV w (.agg #[.bool p, .slice A n c]) q.num ∧ BigV w (.agg #[.bool p', .slice A' n' c']) z ∧ (z = (q.den : Int) ∨ (z = 0 ∧ q = 0))
theorem RatV.ext {w w' : World} {v : Value} {q : Rat} (h : RatV w v q) (k : Ext w w') : RatV w' v q := by
  obtain ⟨p, A, n, c, p', A', n', c', z, rfl, h1, h2, h3⟩ := h
  exact ⟨p, A, n, c, p', A', n', c', z, rfl, h1.ext k, h2.ext k, h3⟩
theorem RatV.shape {w : World} {v : Value} {q : Rat} (h : RatV w v q) : ∃ p A n c p' A' n' c', v = .agg #[.bool p, .slice A n c, .bool p', .slice A' n' c'] := by
  obtain ⟨p, A, n, c, p', A', n', c', z, rfl, h1, h2, h3⟩ := h
  exact ⟨p, A, n, c, p', A', n', c', rfl⟩
theorem RatV.zero (w : World) : RatV w (.agg #[.bool false, .slice none 0 0, .bool false, .slice none 0 0]) 0 := ⟨_, _, _, _, _, _, _, _, 0, rfl, BigV.zero w, BigV.zero w, .inr ⟨rfl, rfl⟩⟩
theorem RatV.parts {w : World} {p p' : Bool} {A A' : Option Addr} {n c n' c' : Nat} {q : Rat} (h : RatV w (.agg #[.bool p, .slice A n c, .bool p', .slice A' n' c']) q) :
    BigV w (.agg #[.bool p, .slice A n c]) q.num ∧ ∃ z, BigV w (.agg #[.bool p', .slice A' n' c']) z ∧ (z = (q.den : Int) ∨ (z = 0 ∧ q = 0)) := by
  obtain ⟨_, _, _, _, _, _, _, _, z, e, h1, h2, h3⟩ := h
  simp only [Value.agg.injEq, Array.mk.injEq, List.cons.injEq, Value.bool.injEq, Value.slice.injEq, and_true] at e
  obtain ⟨rfl, ⟨rfl, rfl, rfl⟩, rfl, rfl, rfl, rfl⟩ := e
  exact ⟨h1, z, h2, h3⟩
def RatPost (w : World) (q : Rat) (e : Ending) (w' : World) : Prop := ∃ v, e = .returned v ∧ RatV w' v q ∧ Ext w w'
/-- a rational number stored into the box of a result -/
theorem RatV.put {w : World} {b : Nat} {E : TypeId} {p p' r r' : Bool} {A A' D D' : Option Addr} {n c n' c' m k m' k' : Nat} {q : Rat} (h : RatV w (.agg #[.bool p, .slice A n c, .bool p', .slice A' n' c']) q) (hb : Box w b E #[.bool r, .slice D m k, .bool r', .slice D' m' k']) :
    RatV ((((w.setCell ⟨b, 0, none⟩ (.bool p)).setCell ⟨b, 1, none⟩ (.slice A n c)).setCell ⟨b, 2, none⟩ (.bool p')).setCell ⟨b, 3, none⟩ (.slice A' n' c')) (.agg #[.bool p, .slice A n c, .bool p', .slice A' n' c']) q ∧
    Box ((((w.setCell ⟨b, 0, none⟩ (.bool p)).setCell ⟨b, 1, none⟩ (.slice A n c)).setCell ⟨b, 2, none⟩ (.bool p')).setCell ⟨b, 3, none⟩ (.slice A' n' c')) b E #[.bool p, .slice A n c, .bool p', .slice A' n' c'] := by
  obtain ⟨h1, z, h2, h3⟩ := h.parts
  exact ⟨⟨_, _, _, _, _, _, _, _, z, rfl, h1.far4 hb, h2.far4 hb, h3⟩, hb.set4 _ _ _ _⟩
theorem RatV.mk {w : World} {p p' : Bool} {A A' : Option Addr} {n c n' c' : Nat} {q : Rat} (h1 : BigV w (.agg #[.bool p, .slice A n c]) q.num) (h2 : BigV w (.agg #[.bool p', .slice A' n' c']) (q.den : Int)) : RatV w (.agg #[.bool p, .slice A n c, .bool p', .slice A' n' c']) q :=
  ⟨_, _, _, _, _, _, _, _, _, rfl, h1, h2, .inl rfl⟩

set_option maxHeartbeats 4000000 in
theorem reduced_any (x y : Value) (n d : Int) (L : Nat) (w : World) (hx : BigV w x n) (hy : BigV w y d) (bx : B L n) (bY : B L d) (hL : L ≤ 1099511627776) (hd : d ≠ 0) :
    Calls Tryz.prog 60 #[x, y] w (RatPost w (Rat.divInt n d)) := by
  obtain ⟨p1, A1, n1, c1, rfl⟩ := hx.shape
  obtain ⟨p2, A2, n2, c2, rfl⟩ := hy.shape
  obtain ⟨q, hq⟩ : ∃ q, q = Rat.divInt n d := ⟨_, rfl⟩
  rw [← hq]
  have HQ := Lib.hid hq
  have HD := Lib.hid hd
  clear hq hd
  obtain ⟨B0, B1, B2, hE0⟩ := boxesT3 w 56 56 58 #[.bool p1, .slice A1 n1 c1] #[.bool p2, .slice A2 n2 c2] #[.bool false, .slice none 0 0, .bool false, .slice none 0 0]
  go_enter Tryz.func60, Tryz.ntmps60
  go_wp2_with fail
  generalize (((w.alloc (.cells #[.bool p1, .slice A1 n1 c1] 56)).alloc (.cells #[.bool p2, .slice A2 n2 c2] 56)).alloc (.cells #[.bool false, .slice none 0 0, .bool false, .slice none 0 0] 58)) = W0 at *
  refine (Sign_any _ n W0 (hx.ext hE0)).mono ?_
  rintro e w1 ⟨rfl, hx1⟩
  have hE1 := hE0.trans hx1
  have C0 := B0.ext hx1
  have C1 := B1.ext hx1
  have C2 := B2.ext hx1
  have hx' := hx.ext hE1
  have hy' := hy.ext hE1
  clear B0 B1 B2 hE0 hx hy
  have q00 := C0.c0
  have q01 := C0.c1
  have q10 := C1.c0
  have q11 := C1.c1
  by_cases hn : n = 0
  · have HN := Lib.hid hn
    have e1 : (n.sign == 0) = true := by rw [hn]; rfl
    clear hn
    have q20 := C2.c0
    have q21 := C2.c1
    have q22 := C2.c2
    have q23 := C2.c3
    have f20 := C2.frozen 0
    have f21 := C2.frozen 1
    have f22 := C2.frozen 2
    have f23 := C2.frozen 3
    go_wp2_with fail
    obtain ⟨pp, pb⟩ := RatV.put (RatV.zero w1) C2
    have pc0 := pb.c0
    have pc1 := pb.c1
    have pc2 := pb.c2
    have pc3 := pb.c3
    refine bodyPost_ret (v := .agg #[.bool false, .slice none 0 0, .bool false, .slice none 0 0]) (by simp [results, Tryz.results60, go_sem, pc0, pc1, pc2, pc3]) rfl ?_
    rw [HQ.out, HN.out, Rat.zero_divInt]
    exact ⟨_, rfl, pp, (((hE1.set (by simp; omega) _).set (by simp; omega) _).set (by simp; omega) _).set (by simp; omega) _⟩
  · have e1 := sign_ne hn
    have HN := Lib.hid hn
    clear hn
    go_wp2_with fail
    refine (Sign_any _ d _ hy').mono ?_
    rintro e w2 ⟨rfl, hx2⟩
    have hE2 := hE1.trans hx2
    have D0 := C0.ext hx2
    have D1 := C1.ext hx2
    have D2 := C2.ext hx2
    have hx2' := hx'.ext hx2
    have hy2' := hy'.ext hx2
    clear C0 C1 C2 q00 q01 q10 q11 hx' hy' hE1 hx2 hx1
    obtain ⟨sd, hsd⟩ : ∃ s, s = d.sign := ⟨_, rfl⟩
    obtain ⟨sb, hsb⟩ : ∃ s, s = decide (d < 0) := ⟨_, rfl⟩
    have e2 : decide (sd < 0) = sb := by
      rw [hsd, hsb]; rcases sign_cases d with ⟨a, b⟩ | ⟨a, b⟩ | ⟨a, b⟩ <;> rw [b] <;> simp <;> omega
    rw [← hsd]
    have HSB := Lib.hid hsb
    clear hsd hsb
    go_upto_if 18 with fail
    go_cut [] (fun wx => ∃ (n' d' : Int) (p1 p2 : Bool) (A1 A2 : Option Addr) (n1 c1 n2 c2 : Nat), Box wx w.heap.size 56 #[.bool p1, .slice A1 n1 c1] ∧ Box wx (w.heap.size + 1) 56 #[.bool p2, .slice A2 n2 c2] ∧
      Box wx (w.heap.size + 1 + 1) 58 #[.bool false, .slice none 0 0, .bool false, .slice none 0 0] ∧ BigV wx (.agg #[.bool p1, .slice A1 n1 c1]) n' ∧ BigV wx (.agg #[.bool p2, .slice A2 n2 c2]) d' ∧ B L n' ∧ B L d' ∧ Hid (0 < d' ∧ n' ≠ 0 ∧ q = Rat.divInt n' d') ∧ Ext w wx)
    case first =>
      cases sb
      · have hneg : ¬ d < 0 := by have := HSB.out; simpa using this
        have HC : Hid (0 < d ∧ n ≠ 0 ∧ q = Rat.divInt n d) := Lib.hid ⟨by have := HD.out; omega, HN.out, HQ.out⟩
        clear hneg
        go_wp2_with fail
        go_meet
        exact ⟨_, _, _, _, _, _, _, _, _, _, D0, D1, D2, hx2', hy2', bx, bY, HC, hE2⟩
      · have hneg : d < 0 := by have := HSB.out; simpa using this
        have HC : Hid (0 < -d ∧ -n ≠ 0 ∧ q = Rat.divInt (-n) (-d)) := Lib.hid ⟨by omega, by have := HN.out; omega, by rw [HQ.out, Rat.neg_divInt_neg]⟩
        clear hneg
        have q00 := D0.c0
        have q01 := D0.c1
        have q10 := D1.c0
        have q11 := D1.c1
        go_upto_region 4 with fail
        go_region_with (first
          | (go_at_call 89; (with_reducible refine (Neg_any _ n _ (hx2'.ext (by repeat (first | (with_reducible exact Ext.refl _) | (with_reducible apply Ext.drew) | (with_reducible apply Ext.drewN))))).mono ?_); rintro e w3 ⟨v3, rfl, hb3, hx3⟩; (obtain ⟨p3, A3, n3, c3, rfl⟩ := hb3.shape); (have E0 := D0.drew.ext hx3); (have E1 := D1.drew.ext hx3); (have g0 := E0.c0; have g1 := E0.c1; have g2 := E1.c0; have g3 := E1.c1; have g4 := E0.frozen 0; have g5 := E0.frozen 1; have g6 := E1.frozen 0; have g7 := E1.frozen 1))
          | (go_at_call 89; (with_reducible refine (Neg_any _ d _ (hy2'.ext (by repeat (first | (with_reducible exact Ext.refl _) | (with_reducible apply Ext.drew) | (with_reducible apply Ext.drewN) | (with_reducible refine Ext.trans ?_ (by assumption)))))).mono ?_); rintro e w4 ⟨v4, rfl, hb4, hx4⟩; (obtain ⟨p4, A4, n4, c4, rfl⟩ := hb4.shape); (have E0 := E0.ext hx4); (have E1 := E1.ext hx4); (have h0 := E0.c0; have h1 := E0.c1; have h2 := E1.c0; have h3 := E1.c1; have h4 := E0.frozen 0; have h5 := E0.frozen 1; have h6 := E1.frozen 0; have h7 := E1.frozen 1)))
        all_goals (go_wp2_with fail; go_meet)
        all_goals (obtain ⟨wz, hwz, z1, z2, z3, z4⟩ := two_put (by omega) (hb3.ext hx4) hb4 E0 E1)
        all_goals (have z5 := (((((D2.drew.ext hx3).ext hx4).far (p := ⟨w.heap.size, 0, none⟩) (by simp; omega) (.bool p3)).far (p := ⟨w.heap.size, 1, none⟩) (by simp; omega) (.slice A3 n3 c3)).far (p := ⟨w.heap.size + 1, 0, none⟩) (by simp) (.bool p4)).far (p := ⟨w.heap.size + 1, 1, none⟩) (by simp) (.slice A4 n4 c4))
        all_goals (have z6 := (((((hE2.drew.trans hx3).trans hx4).set (p := ⟨w.heap.size, 0, none⟩) (Nat.le_refl _) (.bool p3)).set (p := ⟨w.heap.size, 1, none⟩) (Nat.le_refl _) (.slice A3 n3 c3)).set (p := ⟨w.heap.size + 1, 0, none⟩) (by simp) (.bool p4)).set (p := ⟨w.heap.size + 1, 1, none⟩) (by simp) (.slice A4 n4 c4))
        all_goals (rw [← hwz] at z5 z6 ⊢; exact ⟨_, _, _, _, _, _, _, _, _, _, z3, z4, z5, z1, z2, B_neg bx, B_neg bY, HC, z6⟩)
    case rest =>
      clear D0 D1 D2 hx2' hy2' HSB e2
      obtain ⟨m, k, p1, p2, A1, A2, n1, c1, n2, c2, B0, B1, B2, hm, hk, bm, bk, HC, hE⟩ := hcut
      have q00 := B0.c0
      have q01 := B0.c1
      have q10 := B1.c0
      have q11 := B1.c1
      go_wp2_with fail
      refine (Gcd_any _ _ m k L _ hm hk bm bk hL).mono ?_
      rintro e w3 ⟨v3, rfl, hg, hx3⟩
      obtain ⟨g, hgv⟩ : ∃ g : Int, g = ((Nat.gcd m.natAbs k.natAbs : Nat) : Int) := ⟨_, rfl⟩
      rw [← hgv] at hg
      have hg0 : g ≠ 0 := by
        have := Nat.gcd_pos_of_pos_left k.natAbs (show 0 < m.natAbs by have := HC.out.2.1; omega); omega
      have HG0 := Lib.hid hg0
      have HGV := Lib.hid hgv
      clear hgv hg0
      obtain ⟨p3, A3, n3, c3, rfl⟩ := hg.shape
      go_upto_region 6 with fail
      have hx4 : Ext w3 (w3.alloc (.cells #[.bool p3, .slice A3 n3 c3] 56)) := (Ext.refl w3).alloc _
      have B3 := Box.new w3 56 #[.bool p3, .slice A3 n3 c3]
      have hx34 := hx3.trans hx4
      have hg := hg.ext hx4
      have hm := hm.ext hx34
      have hk := hk.ext hx34
      have B0 := B0.ext hx34
      have B1 := B1.ext hx34
      have B2 := B2.ext hx34
      have hE := hE.trans hx34
      generalize (w3.alloc (.cells #[.bool p3, .slice A3 n3 c3] 56)) = w4 at *
      clear hx3 hx4 hx34
      have q00 := B0.c0
      have q01 := B0.c1
      have q10 := B1.c0
      have q11 := B1.c1
      have q30 := B3.c0
      have q31 := B3.c1
      go_wp2_with fail
      refine (Div_any _ _ m g L _ hm hg bm hL HG0.out).mono ?_
      rintro e w5 ⟨v5, v6, rfl, h5, h6, hx5⟩
      obtain ⟨p5, A5, n5, c5, rfl⟩ := h5.shape
      obtain ⟨p6, A6, n6, c6, rfl⟩ := h6.shape
      clear h6
      obtain ⟨M, hM⟩ : ∃ M, M = m.tdiv g := ⟨_, rfl⟩
      rw [← hM] at h5
      have HM := Lib.hid hM
      clear hM
      go_upto_region 7 with fail
      obtain ⟨B5, B6, hx6⟩ := boxes2 w5 56 #[.bool p5, .slice A5 n5 c5] #[.bool p6, .slice A6 n6 c6]
      have hx56 := hx5.trans hx6
      have hg := hg.ext hx56
      have hk := hk.ext hx56
      have h5 := h5.ext hx6
      have B1 := B1.ext hx56
      have B2 := B2.ext hx56
      have B3 := B3.ext hx56
      have hE := hE.trans hx56
      generalize ((w5.alloc (.cells #[.bool p5, .slice A5 n5 c5] 56)).alloc (.cells #[.bool p6, .slice A6 n6 c6] 56)) = w6 at *
      clear hx5 hx6 hx56 B0 B6 hm
      have q10 := B1.c0
      have q11 := B1.c1
      have q30 := B3.c0
      have q31 := B3.c1
      go_wp2_with fail
      refine (Div_any _ _ k g L _ hk hg bk hL HG0.out).mono ?_
      rintro e w7 ⟨v7, v8, rfl, h7, h8, hx7⟩
      obtain ⟨p7, A7, n7, c7, rfl⟩ := h7.shape
      obtain ⟨p8, A8, n8, c8, rfl⟩ := h8.shape
      clear h8
      obtain ⟨D, hD⟩ : ∃ M, M = k.tdiv g := ⟨_, rfl⟩
      rw [← hD] at h7
      have HDD := Lib.hid hD
      clear hD
      go_upto_region 8 with fail
      obtain ⟨B7, B8, hx8⟩ := boxes2 w7 56 #[.bool p7, .slice A7 n7 c7] #[.bool p8, .slice A8 n8 c8]
      have hx78 := hx7.trans hx8
      have h5 := h5.ext hx78
      have h7 := h7.ext hx8
      have B2 := B2.ext hx78
      have B5 := B5.ext hx78
      have hE := hE.trans hx78
      generalize ((w7.alloc (.cells #[.bool p7, .slice A7 n7 c7] 56)).alloc (.cells #[.bool p8, .slice A8 n8 c8] 56)) = w8 at *
      clear hx7 hx8 hx78 B1 B3 B8 hk hg
      have q50 := B5.c0
      have q51 := B5.c1
      have q70 := B7.c0
      have q71 := B7.c1
      have q20 := B2.c0
      have q21 := B2.c1
      have q22 := B2.c2
      have q23 := B2.c3
      have f20 := B2.frozen 0
      have f21 := B2.frozen 1
      have f22 := B2.frozen 2
      have f23 := B2.frozen 3
      have hR : RatV w8 (.agg #[.bool p5, .slice A5 n5 c5, .bool p7, .slice A7 n7 c7]) q := by
        obtain ⟨r1, r2⟩ := red_pos (n := m) HC.out.1
        rw [HM.out, HGV.out, ← r1, ← HC.out.2.2] at h5
        rw [HDD.out, HGV.out, ← r2, ← HC.out.2.2] at h7
        exact RatV.mk h5 h7
      go_wp2_with fail
      obtain ⟨pp, pb⟩ := RatV.put hR B2
      have pc0 := pb.c0
      have pc1 := pb.c1
      have pc2 := pb.c2
      have pc3 := pb.c3
      refine bodyPost_ret (v := .agg #[.bool p5, .slice A5 n5 c5, .bool p7, .slice A7 n7 c7]) (by simp [results, Tryz.results60, go_sem, pc0, pc1, pc2, pc3]) rfl ?_
      exact ⟨_, rfl, pp, (((hE.set (by simp; omega) _).set (by simp; omega) _).set (by simp; omega) _).set (by simp; omega) _⟩
end Go.Proofs.YtljncdcjkdgkeaaGreatDoor.Rt

namespace Go.Proofs.YtljncdcjkdgkeaaGreatDoor.Rt
open Go.RowKit Go.Proofs.YtljncdcjkdgkeaaGreatDoor.Big

def QB (k : Nat) (q : Rat) : Prop := B k q.num ∧ B k (q.den : Int)
theorem QB_mono {j k : Nat} {q : Rat} (h : j ≤ k) (b : QB j q) : QB k q := ⟨B_mono h b.1, B_mono h b.2⟩
theorem B_one {k : Nat} (h : 0 < k) : B k 1 := by
  have := pw_le h
  rw [pw_one] at this
  unfold B; omega
theorem QB_pos {k : Nat} {q : Rat} (b : QB k q) : 0 < k := by
  rcases Nat.eq_zero_or_pos k with h | h
  · subst h
    have := b.2
    unfold B at this
    rw [pw_zero] at this
    have := q.den_pos
    omega
  · exact h
theorem QB_red {j k : Nat} {n d : Int} (hn : B j n) (hd : B k d) (h : d ≠ 0) : QB (max j k) (Rat.divInt n d) := by
  have key : ∀ n d : Int, B j n → B k d → 0 < d → QB (max j k) (Rat.divInt n d) := by
    intro n d hn hd h
    obtain ⟨a, b⟩ := red_pos (n := n) h
    refine ⟨?_, ?_⟩
    · rw [a]; exact B_mono (Nat.le_max_left _ _) (tdiv_boundG _ hn)
    · rw [b]; exact B_mono (Nat.le_max_right _ _) (tdiv_boundG _ hd)
  rcases Int.lt_or_lt_of_ne h with h | h
  · rw [← Rat.neg_divInt_neg]; exact key _ _ (B_neg hn) (B_neg hd) (by omega)
  · exact key _ _ hn hd h
theorem QB_neg {k : Nat} {q : Rat} (b : QB k q) : QB k (-q) := ⟨by rw [Rat.neg_num]; exact B_neg b.1, by rw [Rat.neg_den]; exact b.2⟩
theorem QB_add {j k : Nat} {x y : Rat} (a : QB j x) (b : QB k y) : QB (j + k + 1) (x + y) := by
  rw [add_eq]
  have h := QB_red (B_add (k := j + k) (B_mul a.1 b.2) (by rw [Nat.add_comm]; exact B_mul b.1 a.2)) (B_mul a.2 b.2) (by have := x.den_pos; have := y.den_pos; exact Int.mul_ne_zero (by omega) (by omega))
  exact QB_mono (by omega) h
theorem QB_mul {j k : Nat} {x y : Rat} (a : QB j x) (b : QB k y) : QB (j + k) (x * y) := by
  rw [mul_eq]
  have h := QB_red (B_mul a.1 b.1) (B_mul a.2 b.2) (by have := x.den_pos; have := y.den_pos; exact Int.mul_ne_zero (by omega) (by omega))
  exact QB_mono (by omega) h
theorem QB_div {j k : Nat} {x y : Rat} (a : QB j x) (b : QB k y) (hy : y.num ≠ 0) : QB (j + k) (x / y) := by
  rw [div_eq]
  have h := QB_red (B_mul a.1 b.2) (B_mul a.2 b.1) (by have := x.den_pos; exact Int.mul_ne_zero (by omega) hy)
  exact QB_mono (by omega) h
def RatB (w : World) (v : Value) (q : Rat) (k : Nat) : Prop := RatV w v q ∧ QB k q
theorem RatB.ext {w w' : World} {v : Value} {q : Rat} {k : Nat} (h : RatB w v q k) (x : Ext w w') : RatB w' v q k := ⟨h.1.ext x, h.2⟩
def RatBPost (w : World) (q : Rat) (k : Nat) (e : Ending) (w' : World) : Prop := ∃ v, e = .returned v ∧ RatB w' v q k ∧ Ext w w'
theorem toR {w : World} {q : Rat} {k : Nat} (b : QB k q) {e : Ending} {w' : World} (h : RatPost w q e w') : RatBPost w q k e w' := by
  obtain ⟨v, rfl, h1, h2⟩ := h
  exact ⟨v, rfl, ⟨h1, b⟩, h2⟩
theorem red_b (x y : Value) (n d : Int) (j k : Nat) (w : World) (hx : BigB w x n j) (hy : BigB w y d k) (hL : max j k ≤ 1099511627776) (hd : d ≠ 0) : Calls Tryz.prog 60 #[x, y] w (RatBPost w (Rat.divInt n d) (max j k)) :=
  (reduced_any x y n d (max j k) w hx.1 hy.1 (B_mono (Nat.le_max_left _ _) hx.2) (B_mono (Nat.le_max_right _ _) hy.2) hL hd).mono fun _ _ h => toR (QB_red hx.2 hy.2 hd) h

theorem RatDen_b (x : Value) (q : Rat) (k : Nat) (w : World) (hx : RatB w x q k) : Calls Tryz.prog 44 #[x] w (BigBPost w (q.den : Int) k) := by
  obtain ⟨p, A, n, c, p', A', n', c', rfl⟩ := hx.1.shape
  obtain ⟨-, z, hz, hzq⟩ := hx.1.parts
  have hb := hx.2
  obtain ⟨D, hD⟩ : ∃ D : Int, D = (q.den : Int) := ⟨_, rfl⟩
  have hDp : 0 < D := by have := q.den_pos; omega
  have bD : B k D := by rw [hD]; exact hb.2
  have hzD : z = D ∨ (z = 0 ∧ D = 1) := by
    rcases hzq with h | ⟨h, h2⟩
    · exact .inl (h.trans hD.symm)
    · exact .inr ⟨h, by rw [hD, h2]; rfl⟩
  rw [← hD]
  clear hD hzq hx hb
  obtain ⟨B0, B1, hE0⟩ := boxesT2 w 58 56 #[.bool p, .slice A n c, .bool p', .slice A' n' c'] #[.bool false, .slice none 0 0]
  go_enter Tryz.func44, Tryz.ntmps44
  go_wp2_with fail
  generalize ((w.alloc (.cells #[.bool p, .slice A n c, .bool p', .slice A' n' c'] 58)).alloc (.cells #[.bool false, .slice none 0 0] 56)) = W0 at *
  refine (Sign_any _ z W0 (hz.ext hE0)).mono ?_
  rintro e w1 ⟨rfl, hx1⟩
  have hE1 := hE0.trans hx1
  have B0 := B0.ext hx1
  have B1 := B1.ext hx1
  have hz := hz.ext hE1
  obtain ⟨sz, hsz⟩ : ∃ s, s = z.sign := ⟨_, rfl⟩
  rw [← hsz]
  rcases hzD with h | ⟨h, h'⟩
  · subst h
    have e1 : (sz == 0) = false := by rw [hsz]; exact sign_ne (by omega)
    clear hsz
    have q0 := B0.c0
    have q1 := B0.c1
    have q2 := B0.c2
    have q3 := B0.c3
    have r0 := B1.c0
    have r1 := B1.c1
    have f0 := B1.frozen 0
    have f1 := B1.frozen 1
    go_wp2_with fail
    obtain ⟨p1, p2, p3⟩ := hz.put B1
    refine bodyPost_ret (v := .agg #[.bool p', .slice A' n' c']) (by simp [results, Tryz.results44, go_sem, p2, p3]) rfl ?_
    exact ⟨_, rfl, ⟨p1, bD⟩, (hE1.set (by simp) _).set (by simp) _⟩
  · have e1 : (sz == 0) = true := by rw [hsz, h]; rfl
    subst h'
    clear hsz
    go_wp2_with fail
    refine (Of_any 1 _ (by decide) (by decide)).mono ?_
    rintro e w2 ⟨v2, rfl, h2, hx2⟩
    obtain ⟨p2, A2, n2, c2, rfl⟩ := h2.shape
    have B1 := B1.ext hx2
    have hE2 := hE1.trans hx2
    have r0 := B1.c0
    have r1 := B1.c1
    have f0 := B1.frozen 0
    have f1 := B1.frozen 1
    go_wp2_with fail
    obtain ⟨p1, p2', p3⟩ := h2.put B1
    refine bodyPost_ret (v := .agg #[.bool p2, .slice A2 n2 c2]) (by simp [results, Tryz.results44, go_sem, p2', p3]) rfl ?_
    exact ⟨_, rfl, ⟨p1, bD⟩, (hE2.set (by simp) _).set (by simp) _⟩

theorem RatNum_b (x : Value) (q : Rat) (k : Nat) (w : World) (hx : RatB w x q k) : Calls Tryz.prog 112 #[x] w (BigBPost w q.num k) := by
  obtain ⟨p, A, n, c, p', A', n', c', rfl⟩ := hx.1.shape
  obtain ⟨hn, -⟩ := hx.1.parts
  have hb := hx.2.1
  clear hx
  obtain ⟨B0, B1, hE0⟩ := boxesT2 w 58 56 #[.bool p, .slice A n c, .bool p', .slice A' n' c'] #[.bool p, .slice A n c]
  have hn := hn.ext hE0
  have p2 := B1.c0
  have p3 := B1.c1
  go_enter Tryz.func112, Tryz.ntmps112
  go_wp2_with fail
  refine bodyPost_ret (v := .agg #[.bool p, .slice A n c]) (by simp [results, Tryz.results112, go_sem]) rfl ?_
  exact ⟨_, rfl, ⟨hn, hb⟩, hE0⟩

theorem RatSign_b (x : Value) (q : Rat) (k : Nat) (w : World) (hx : RatB w x q k) : Calls Tryz.prog 61 #[x] w (IntPost w q.num.sign) := by
  obtain ⟨p, A, n, c, p', A', n', c', rfl⟩ := hx.1.shape
  obtain ⟨hn, -⟩ := hx.1.parts
  clear hx
  have hE0 : Ext w (w.alloc (.cells #[.bool p, .slice A n c, .bool p', .slice A' n' c'] 58)) := (Ext.refl w).alloc _
  have hn := hn.ext hE0
  go_enter Tryz.func61, Tryz.ntmps61
  go_wp2_with fail
  refine (Sign_any _ _ _ hn).mono ?_
  rintro e w1 ⟨rfl, hx1⟩
  go_wp2_with fail
  go_ret
  exact ⟨rfl, hE0.trans hx1⟩

theorem RatNeg_b (x : Value) (q : Rat) (k : Nat) (w : World) (hx : RatB w x q k) : Calls Tryz.prog 168 #[x] w (RatBPost w (-q) k) := by
  obtain ⟨p, A, n, c, p', A', n', c', rfl⟩ := hx.1.shape
  obtain ⟨hn, z, hz, hzq⟩ := hx.1.parts
  have hb := QB_neg hx.2
  clear hx
  go_enter Tryz.func168, Tryz.ntmps168
  go_wp2_with fail
  obtain ⟨B0, B1, hE0⟩ := boxesT2 w 58 58 #[.bool p, .slice A n c, .bool p', .slice A' n' c'] #[.bool false, .slice none 0 0, .bool false, .slice none 0 0]
  generalize ((w.alloc (.cells #[.bool p, .slice A n c, .bool p', .slice A' n' c'] 58)).alloc (.cells #[.bool false, .slice none 0 0, .bool false, .slice none 0 0] 58)) = W0 at *
  have k0 := KE.box (w := w) (R := [w.heap.size + 1]) B0 (by simp) 0
  have k1 := KE.box (w := w) (R := [w.heap.size + 1]) B0 (by simp) 1
  have k2 := KE.box (w := w) (R := [w.heap.size + 1]) B0 (by simp) 2
  have k3 := KE.box (w := w) (R := [w.heap.size + 1]) B0 (by simp) 3
  simp at k0 k1 k2 k3
  have ks := KE.start (R := [w.heap.size + 1]) hE0 (by simp)
  have hn0 := hn.ext hE0
  have hz0 := hz.ext hE0
  go_region_held3 (fun w' => KE [w.heap.size + 1] w W0 w') ((repeat (first | assumption | apply KE.drew | apply KE.drewN | apply KE.alloc | (refine KE.set ?_ (by simp) _) | (refine KE.step ?_ (by assumption))))) (first
    | (go_at_call 89; (with_reducible refine (Neg_any _ _ _ (hn0.ext (by repeat (first | (with_reducible exact Ext.refl _) | (with_reducible apply Ext.drew) | (with_reducible apply Ext.drewN))))).mono ?_); rintro e w1 ⟨v1, rfl, hb1, hxA⟩; (obtain ⟨p1, A1, n1, c1, rfl⟩ := hb1.shape); have b2 := B1.drew.ext hxA; have q0 := b2.c0; have q1 := b2.c1; have q2 := b2.c2; have q3 := b2.c3; have f0 := b2.frozen 0; have f1 := b2.frozen 1; have f2 := b2.frozen 2; have f3 := b2.frozen 3; have hz1 := (hz0.ext (Ext.refl _).drew).ext hxA)
    )
  have hR : RatV w1 (.agg #[.bool p1, .slice A1 n1 c1, .bool p', .slice A' n' c']) (-q) := by
    refine ⟨_, _, _, _, _, _, _, _, z, rfl, by rw [Rat.neg_num]; exact hb1, hz1, ?_⟩
    rcases hzq with h | ⟨h, h2⟩
    · exact .inl (by rw [Rat.neg_den]; exact h)
    · exact .inr ⟨h, by rw [h2]; rfl⟩
  go_wp2_with fail
  obtain ⟨pp, pb⟩ := RatV.put hR b2
  have pc0 := pb.c0
  have pc1 := pb.c1
  have pc2 := pb.c2
  have pc3 := pb.c3
  refine bodyPost_ret (v := .agg #[.bool p1, .slice A1 n1 c1, .bool p', .slice A' n' c']) (by simp [results, Tryz.results168, go_sem, pc0, pc1, pc2, pc3]) rfl ?_
  exact ⟨_, rfl, ⟨pp, hb⟩, KE.ext (R := [w.heap.size + 1]) (W0 := W0) (by assumption)⟩

theorem divInt_int (n : Int) : Rat.divInt n 1 = (n : Rat) := by
  have h := Rat.num_divInt_den (n : Rat)
  rw [Rat.num_intCast, Rat.den_intCast] at h
  exact h
theorem RatOf_b (n : Int) (w : World) (h0 : -9223372036854775808 ≤ n) (h1 : n ≤ 9223372036854775807) : Calls Tryz.prog 20 #[.int .i64 n] w (RatBPost w (n : Rat) 2) := by
  rw [← divInt_int]
  have hE0 : Ext w (w.alloc (.cells #[.bool false, .slice none 0 0, .bool false, .slice none 0 0] 58)) := (Ext.refl w).alloc _
  have B1 := Box.new w 58 #[.bool false, .slice none 0 0, .bool false, .slice none 0 0]
  obtain ⟨q, hq⟩ : ∃ q, q = Rat.divInt n 1 := ⟨_, rfl⟩
  rw [← hq]
  have HQ := Lib.hid hq
  clear hq
  go_enter Tryz.func20, Tryz.ntmps20
  go_wp2_with fail
  refine (Of_b n _ h0 h1).mono ?_
  rintro e w1 ⟨v1, rfl, hb1, hx1⟩
  obtain ⟨p1, A1, n1, c1, rfl⟩ := hb1.1.shape
  go_wp2_with fail
  refine (Of_b 1 _ (by decide) (by decide)).mono ?_
  rintro e w2 ⟨v2, rfl, hb2, hx2⟩
  obtain ⟨p2, A2, n2, c2, rfl⟩ := hb2.1.shape
  go_wp2_with fail
  refine (red_b _ _ _ _ _ _ _ (hb1.ext hx2) hb2 (by decide) (by decide)).mono ?_
  rintro e w3 ⟨v3, rfl, hb3, hx3⟩
  rw [← HQ.out] at hb3
  obtain ⟨p, A, n3, c3, p', A', n', c', rfl⟩ := hb3.1.shape
  have hE3 := ((hE0.trans hx1).trans hx2).trans hx3
  have b2 := ((B1.ext hx1).ext hx2).ext hx3
  have q0 := b2.c0
  have q1 := b2.c1
  have q2 := b2.c2
  have q3 := b2.c3
  have f0 := b2.frozen 0
  have f1 := b2.frozen 1
  have f2 := b2.frozen 2
  have f3 := b2.frozen 3
  go_wp2_with fail
  obtain ⟨pp, pb⟩ := RatV.put hb3.1 b2
  have pc0 := pb.c0
  have pc1 := pb.c1
  have pc2 := pb.c2
  have pc3 := pb.c3
  refine bodyPost_ret (v := .agg #[.bool p, .slice A n3 c3, .bool p', .slice A' n' c']) (by simp [results, Tryz.results20, go_sem, pc0, pc1, pc2, pc3]) rfl ?_
  exact ⟨_, rfl, ⟨pp, hb3.2⟩, (((hE3.set (by simp) _).set (by simp) _).set (by simp) _).set (by simp) _⟩

def zeroRat : Value := .agg #[.bool false, .slice none 0 0, .bool false, .slice none 0 0]
def MakePost (w : World) (q : Rat) (k : Nat) (e : Ending) (w' : World) : Prop := ∃ v, e = .returned (.tuple #[v, .int .i64 0]) ∧ RatB w' v q k ∧ Ext w w'
def MakeZero (w : World) (n : Int) (e : Ending) (w' : World) : Prop := e = .returned (.tuple #[zeroRat, .int .i64 n]) ∧ Ext w w'

theorem Make_zero (x y : Value) (n : Int) (w : World) (hx : BigV w x n) (hy : BigV w y 0) : Calls Tryz.prog 66 #[x, y] w (MakeZero w 9) := by
  obtain ⟨p1, A1, n1, c1, rfl⟩ := hx.shape
  obtain ⟨p2, A2, n2, c2, rfl⟩ := hy.shape
  obtain ⟨B0, B1, B2, hE0⟩ := boxesT3 w 56 56 58 #[.bool p1, .slice A1 n1 c1] #[.bool p2, .slice A2 n2 c2] #[.bool false, .slice none 0 0, .bool false, .slice none 0 0]
  go_enter Tryz.func66, Tryz.ntmps66
  go_wp2_with fail
  generalize (((w.alloc (.cells #[.bool p1, .slice A1 n1 c1] 56)).alloc (.cells #[.bool p2, .slice A2 n2 c2] 56)).alloc (.cells #[.bool false, .slice none 0 0, .bool false, .slice none 0 0] 58)) = W0 at *
  refine (Sign_any _ 0 W0 (hy.ext hE0)).mono ?_
  rintro e w1 ⟨rfl, hx1⟩
  have hE1 := hE0.trans hx1
  have b2 := B2.ext hx1
  have q0 := b2.c0
  have q1 := b2.c1
  have q2 := b2.c2
  have q3 := b2.c3
  have f0 := b2.frozen 0
  have f1 := b2.frozen 1
  have f2 := b2.frozen 2
  have f3 := b2.frozen 3
  go_wp2_with fail
  obtain ⟨pp, pb⟩ := RatV.put (RatV.zero w1) b2
  have pc0 := pb.c0
  have pc1 := pb.c1
  have pc2 := pb.c2
  have pc3 := pb.c3
  refine bodyPost_ret (v := .tuple #[.agg #[.bool false, .slice none 0 0, .bool false, .slice none 0 0], .int .i64 9]) (by simp [results, Tryz.results66, go_sem, pc0, pc1, pc2, pc3]) rfl ?_
  exact ⟨rfl, (((hE1.set (by simp; omega) _).set (by simp; omega) _).set (by simp; omega) _).set (by simp; omega) _⟩

theorem Make_b (x y : Value) (n d : Int) (j k : Nat) (w : World) (hx : BigB w x n j) (hy : BigB w y d k) (hL : max j k ≤ 1099511627776) (hd : d ≠ 0) : Calls Tryz.prog 66 #[x, y] w (MakePost w (Rat.divInt n d) (max j k)) := by
  obtain ⟨p1, A1, n1, c1, rfl⟩ := hx.1.shape
  obtain ⟨p2, A2, n2, c2, rfl⟩ := hy.1.shape
  obtain ⟨sd, hsd⟩ : ∃ s, s = d.sign := ⟨_, rfl⟩
  have e1 : (sd == 0) = false := by rw [hsd]; exact sign_ne hd
  have HD := Lib.hid hd
  have HS := Lib.hid hsd
  clear hd hsd
  obtain ⟨B0, B1, B2, hE0⟩ := boxesT3 w 56 56 58 #[.bool p1, .slice A1 n1 c1] #[.bool p2, .slice A2 n2 c2] #[.bool false, .slice none 0 0, .bool false, .slice none 0 0]
  go_enter Tryz.func66, Tryz.ntmps66
  go_wp2_with fail
  generalize (((w.alloc (.cells #[.bool p1, .slice A1 n1 c1] 56)).alloc (.cells #[.bool p2, .slice A2 n2 c2] 56)).alloc (.cells #[.bool false, .slice none 0 0, .bool false, .slice none 0 0] 58)) = W0 at *
  refine (Sign_any _ d W0 (hy.1.ext hE0)).mono ?_
  rintro e w1 ⟨rfl, hx1⟩
  rw [← HS.out]
  have hE1 := hE0.trans hx1
  have B0 := B0.ext hx1
  have B1 := B1.ext hx1
  have B2 := B2.ext hx1
  have r0 := B0.c0
  have r1 := B0.c1
  have s0 := B1.c0
  have s1 := B1.c1
  go_wp2_with fail
  refine (red_b _ _ _ _ _ _ _ (hx.ext hE1) (hy.ext hE1) hL HD.out).mono ?_
  rintro e w3 ⟨v3, rfl, hb3, hx3⟩
  obtain ⟨p, A, n3, c3, p', A', n', c', rfl⟩ := hb3.1.shape
  have hE3 := hE1.trans hx3
  have b2 := B2.ext hx3
  have q0 := b2.c0
  have q1 := b2.c1
  have q2 := b2.c2
  have q3 := b2.c3
  have f0 := b2.frozen 0
  have f1 := b2.frozen 1
  have f2 := b2.frozen 2
  have f3 := b2.frozen 3
  go_wp2_with fail
  obtain ⟨pp, pb⟩ := RatV.put hb3.1 b2
  have pc0 := pb.c0
  have pc1 := pb.c1
  have pc2 := pb.c2
  have pc3 := pb.c3
  refine bodyPost_ret (v := .tuple #[.agg #[.bool p, .slice A n3 c3, .bool p', .slice A' n' c'], .int .i64 0]) (by simp [results, Tryz.results66, go_sem, pc0, pc1, pc2, pc3]) rfl ?_
  exact ⟨_, rfl, ⟨pp, hb3.2⟩, (((hE3.set (by simp; omega) _).set (by simp; omega) _).set (by simp; omega) _).set (by simp; omega) _⟩

theorem Frac_b (n d : Int) (w : World) (h0 : -9223372036854775808 ≤ n) (h1 : n ≤ 9223372036854775807) (d0 : -9223372036854775808 ≤ d) (d1 : d ≤ 9223372036854775807) (hd : d ≠ 0) : Calls Tryz.prog 29 #[.int .i64 n, .int .i64 d] w (MakePost w (Rat.divInt n d) 2) := by
  have HD := Lib.hid hd
  clear hd
  have hE0 : Ext w (w.alloc (.cells #[.bool false, .slice none 0 0, .bool false, .slice none 0 0] 58)) := (Ext.refl w).alloc _
  have B1 := Box.new w 58 #[.bool false, .slice none 0 0, .bool false, .slice none 0 0]
  go_enter Tryz.func29, Tryz.ntmps29
  go_wp2_with fail
  refine (Of_b n _ h0 h1).mono ?_
  rintro e w1 ⟨v1, rfl, hb1, hx1⟩
  obtain ⟨p1, A1, n1, c1, rfl⟩ := hb1.1.shape
  go_wp2_with fail
  refine (Of_b d _ d0 d1).mono ?_
  rintro e w2 ⟨v2, rfl, hb2, hx2⟩
  obtain ⟨p2, A2, n2, c2, rfl⟩ := hb2.1.shape
  go_wp2_with fail
  refine (Make_b _ _ _ _ _ _ _ (hb1.ext hx2) hb2 (by decide) HD.out).mono ?_
  rintro e w3 ⟨v3, rfl, hb3, hx3⟩
  obtain ⟨p, A, n3, c3, p', A', n', c', rfl⟩ := hb3.1.shape
  have b2 := ((B1.ext hx1).ext hx2).ext hx3
  have hE3 := ((hE0.trans hx1).trans hx2).trans hx3
  have q0 := b2.c0
  have q1 := b2.c1
  have q2 := b2.c2
  have q3 := b2.c3
  have f0 := b2.frozen 0
  have f1 := b2.frozen 1
  have f2 := b2.frozen 2
  have f3 := b2.frozen 3
  go_wp2_with fail
  obtain ⟨pp, pb⟩ := RatV.put hb3.1 b2
  have pc0 := pb.c0
  have pc1 := pb.c1
  have pc2 := pb.c2
  have pc3 := pb.c3
  refine bodyPost_ret (v := .tuple #[.agg #[.bool p, .slice A n3 c3, .bool p', .slice A' n' c'], .int .i64 0]) (by simp [results, Tryz.results29, go_sem, pc0, pc1, pc2, pc3]) rfl ?_
  exact ⟨_, rfl, ⟨pp, hb3.2⟩, (((hE3.set (by simp) _).set (by simp) _).set (by simp) _).set (by simp) _⟩
theorem Frac_zero (n d : Int) (w : World) (h0 : -9223372036854775808 ≤ n) (h1 : n ≤ 9223372036854775807) (hd : d = 0) : Calls Tryz.prog 29 #[.int .i64 n, .int .i64 d] w (MakeZero w 9) := by
  have d0 : -9223372036854775808 ≤ d := by omega
  have d1 : d ≤ 9223372036854775807 := by omega
  have HD := Lib.hid hd
  clear hd
  have hE0 : Ext w (w.alloc (.cells #[.bool false, .slice none 0 0, .bool false, .slice none 0 0] 58)) := (Ext.refl w).alloc _
  have B1 := Box.new w 58 #[.bool false, .slice none 0 0, .bool false, .slice none 0 0]
  go_enter Tryz.func29, Tryz.ntmps29
  go_wp2_with fail
  refine (Of_b n _ h0 h1).mono ?_
  rintro e w1 ⟨v1, rfl, hb1, hx1⟩
  obtain ⟨p1, A1, n1, c1, rfl⟩ := hb1.1.shape
  go_wp2_with fail
  refine (Of_b d _ d0 d1).mono ?_
  rintro e w2 ⟨v2, rfl, hb2, hx2⟩
  obtain ⟨p2, A2, n2, c2, rfl⟩ := hb2.1.shape
  go_wp2_with fail
  rw [HD.out] at hb2
  refine (Make_zero _ _ _ _ (hb1.ext hx2).1 hb2.1).mono ?_
  rintro e w3 ⟨rfl, hx3⟩
  have b2 := ((B1.ext hx1).ext hx2).ext hx3
  have hE3 := ((hE0.trans hx1).trans hx2).trans hx3
  have q0 := b2.c0
  have q1 := b2.c1
  have q2 := b2.c2
  have q3 := b2.c3
  have f0 := b2.frozen 0
  have f1 := b2.frozen 1
  have f2 := b2.frozen 2
  have f3 := b2.frozen 3
  unfold zeroRat
  go_wp2_with fail
  obtain ⟨pp, pb⟩ := RatV.put (RatV.zero w3) b2
  have pc0 := pb.c0
  have pc1 := pb.c1
  have pc2 := pb.c2
  have pc3 := pb.c3
  refine bodyPost_ret (v := .tuple #[.agg #[.bool false, .slice none 0 0, .bool false, .slice none 0 0], .int .i64 9]) (by simp [results, Tryz.results29, go_sem, pc0, pc1, pc2, pc3]) rfl ?_
  exact ⟨rfl, (((hE3.set (by simp) _).set (by simp) _).set (by simp) _).set (by simp) _⟩
end Go.Proofs.YtljncdcjkdgkeaaGreatDoor.Rt

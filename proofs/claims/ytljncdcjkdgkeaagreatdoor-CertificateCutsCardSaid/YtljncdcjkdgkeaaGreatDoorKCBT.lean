/- The trees that the laws build; walk: build. -/
import Derived.Test.YtljncdcjkdgkeaaGreatDoorKCV9
import Derived.Test.YtljncdcjkdgkeaaGreatDoorKCN0
set_option linter.unusedVariables false
set_option linter.unusedSimpArgs false
namespace Go.Proofs.YtljncdcjkdgkeaaGreatDoor.Lp
open Go.RowKit Go.Proofs.YtljncdcjkdgkeaaGreatDoor.Big Go.Proofs.YtljncdcjkdgkeaaGreatDoor.Rt

/-- a node of a law's list -/
structure ND where
  var : Int
  fl : Int
  em : Bool
  num : List Int
  den : List Nat
  kids : Bool
/-- a tree of a certificate, children may be missing -/
inductive CT where
  | nil : CT
  | node (var fl : Int) (em : Bool) (n : Nat) (y : Nat → Rat) (lo hi : CT) : CT
def uV (ds : List Nat) : List Value := ds.map fun (d : Nat) => Value.int .u8 (d : Int)
theorem uV_len (ds : List Nat) : (uV ds).length = ds.length := by simp [uV]
theorem uV_get {ds : List Nat} {j d : Nat} (h : ds[j]? = some d) : (uV ds)[j]? = some (.int .u8 (d : Int)) := by simp [uV, h]
/-- a node of the list at place o of block b -/
def NdAt (w : World) (b o : Nat) (x : ND) : Prop :=
  ∃ An cn Ad cd, w.cell? ⟨b, o, none⟩ = some (.int .i64 x.var) ∧ w.cell? ⟨b, o + 1, none⟩ = some (.int .i64 x.fl) ∧ w.cell? ⟨b, o + 2, none⟩ = some (.bool x.em) ∧ w.cell? ⟨b, o + 3, none⟩ = some (.slice An x.num.length cn) ∧ w.cell? ⟨b, o + 4, none⟩ = some (.slice Ad x.den.length cd) ∧
    w.cell? ⟨b, o + 5, none⟩ = some (.bool x.kids) ∧ Row w (.slice An x.num.length cn) (wV x.num) ∧ Row w (.slice Ad x.den.length cd) (uV x.den)
def NodesV (w : World) (v : Value) (l : List ND) : Prop :=
  ∃ A c, v = .slice A l.length c ∧ l.length ≤ c ∧ c ≤ 9223372036854775807 ∧ (0 < l.length → ∃ b off, A = some ⟨b, off, none⟩ ∧ ∀ j x, l[j]? = some x → NdAt w b (off + j * 6) x)
def okN (x : ND) : Prop := (∀ z ∈ x.num, in32 z) ∧ (∀ d ∈ x.den, d ≤ 255) ∧ x.num.length ≤ 1048576
/-- numbers whose block lies from lo to h -/
def RatsI (w : World) (lo h : Nat) (A : Option Addr) (n c : Nat) (f : Nat → Rat) : Prop := RatsO w lo A n c f ∧ (0 < n → ∀ b, A = some ⟨b, 0, none⟩ → b < h)
/-- a tree in the blocks from b to h, no block in two places -/
def TreeI (w : World) : CT → Option Addr → Nat → Nat → Prop
  | .nil, A, b, h => A = none ∧ b ≤ h
  | .node vr fl em n y lo hi, A, b, h => ∃ k L H Y c m1 m2, A = some ⟨k, 0, none⟩ ∧ b ≤ k ∧ k < m1 ∧ Box w k 79 (NodeC vr fl L H em Y n c) ∧ RatsI w b m1 Y n c y ∧ TreeI w lo L m1 m2 ∧ TreeI w hi H m2 h
def yq (x : ND) (j : Nat) : Rat := qn4 (x.num.getD j 0) (x.den.getD j 0)
def buildT : Nat → List ND → CT × List ND
  | 0, l => (.nil, l)
  | _ + 1, [] => (.nil, [])
  | f + 1, x :: r => if x.var ≠ -1 ∨ x.kids = true then
      let a := buildT f r
      let b := buildT f a.2
      (.node x.var x.fl x.em x.num.length (yq x) a.1 b.1, b.2)
    else (.node x.var x.fl x.em x.num.length (yq x) .nil .nil, r)
theorem RatsO.inI {w : World} {lo h : Nat} {A : Option Addr} {n c : Nat} {f : Nat → Rat} (k : RatsO w lo A n c f) (hh : w.heap.size ≤ h) : RatsI w lo h A n c f :=
  ⟨k, fun hn b e => by
    obtain ⟨b', e', hr, -⟩ := k.2.2 hn
    rw [e] at e'
    injection e' with e'
    injection e' with e'
    obtain ⟨cs, h1, -⟩ := hr
    rcases Nat.lt_or_ge b' w.heap.size with hlt | hge
    · omega
    · rw [Array.getElem?_eq_none hge] at h1; cases h1⟩
theorem RatsI.fr {P : Nat → Prop} {w w' : World} {lo h : Nat} {A : Option Addr} {n c : Nat} {f : Nat → Rat} (x : RatsI w lo h A n c f) (k : Fr P w w') (hP : ∀ b, lo ≤ b → b < h → ¬ P b) : RatsI w' lo h A n c f :=
  ⟨⟨x.1.1, x.1.2.1, fun hn => by obtain ⟨b, e, hr, hb⟩ := x.1.2.2 hn; exact ⟨b, e, hr.fr k (hP b hb (x.2 hn b e)), hb⟩⟩, x.2⟩
theorem RatsI.up {w : World} {lo lo' h h' : Nat} {A : Option Addr} {n c : Nat} {f : Nat → Rat} (x : RatsI w lo h A n c f) (h1 : lo' ≤ lo) (h2 : h ≤ h') : RatsI w lo' h' A n c f := ⟨x.1.up h1, fun hn b e => Nat.lt_of_lt_of_le (x.2 hn b e) h2⟩
theorem TreeI.le {w : World} : ∀ {t : CT} {A : Option Addr} {b h : Nat}, TreeI w t A b h → b ≤ h
  | .nil, _, _, _, x => x.2
  | .node .., _, _, _, x => by
    obtain ⟨k, L, H, Y, c, m1, m2, e, h1, h2, B, hY, hl, hh⟩ := x
    have := TreeI.le hl
    have := TreeI.le hh
    omega
theorem TreeI.fr {P : Nat → Prop} {w w' : World} : ∀ {t : CT} {A : Option Addr} {b h : Nat}, TreeI w t A b h → Fr P w w' → (∀ k, b ≤ k → k < h → ¬ P k) → TreeI w' t A b h
  | .nil, _, _, _, x, _, _ => x
  | .node .., _, _, _, x, f, hP => by
    obtain ⟨k, L, H, Y, c, m1, m2, e, h1, h2, B, hY, hl, hh⟩ := x
    have l1 := TreeI.le hl
    have l2 := TreeI.le hh
    exact ⟨k, L, H, Y, c, m1, m2, e, h1, h2, f.box B (hP k h1 (by omega)), hY.fr f (fun b' g1 g2 => hP b' g1 (by omega)), TreeI.fr hl f (fun k' g1 g2 => hP k' (by omega) (by omega)), TreeI.fr hh f (fun k' g1 g2 => hP k' (by omega) (by omega))⟩
theorem TreeI.ext {w w' : World} {t : CT} {A : Option Addr} {b h : Nat} (x : TreeI w t A b h) (k : Ext w w') : TreeI w' t A b h := x.fr (P := fun _ => False) (Fr.of k) (fun _ _ _ h => h)
theorem TreeI.up {w : World} : ∀ {t : CT} {A : Option Addr} {b h b' h' : Nat}, TreeI w t A b h → b' ≤ b → h ≤ h' → TreeI w t A b' h'
  | .nil, _, _, _, _, _, x, h1, h2 => ⟨x.1, by have := x.2; omega⟩
  | .node .., _, _, _, _, _, x, g1, g2 => by
    obtain ⟨k, L, H, Y, c, m1, m2, e, h1, h2, B, hY, hl, hh⟩ := x
    exact ⟨k, L, H, Y, c, m1, m2, e, by omega, h2, B, hY.up g1 (Nat.le_refl _), hl, hh.up (Nat.le_refl _) g2⟩
theorem TreeI.nilA {w : World} {A : Option Addr} {b h : Nat} : ∀ {t : CT}, TreeI w t A b h → (A = none ↔ t = .nil)
  | .nil, x => ⟨fun _ => rfl, fun _ => x.1⟩
  | .node .., x => by
    obtain ⟨k, L, H, Y, c, m1, m2, e, -⟩ := x
    exact ⟨fun h => (by rw [e] at h; cases h), fun h => (by cases h)⟩
theorem NdAt.ext {w w' : World} {b o : Nat} {x : ND} (h : NdAt w b o x) (k : Ext w w') : NdAt w' b o x := by
  obtain ⟨An, cn, Ad, cd, g0, g1, g2, g3, g4, g5, h1, h2⟩ := h
  exact ⟨An, cn, Ad, cd, k.cell g0, k.cell g1, k.cell g2, k.cell g3, k.cell g4, k.cell g5, h1.ext k, h2.ext k⟩
theorem NodesV.ext {w w' : World} {v : Value} {l : List ND} (h : NodesV w v l) (k : Ext w w') : NodesV w' v l := by
  obtain ⟨A, c, rfl, h1, h2, h3⟩ := h
  exact ⟨A, c, rfl, h1, h2, fun hn => by obtain ⟨b, off, e, hx⟩ := h3 hn; exact ⟨b, off, e, fun j x hj => (hx j x hj).ext k⟩⟩
theorem OwnQ.fr {P : Nat → Prop} {w w' : World} {base n : Nat} {v : Value} {f : Nat → Rat} (h : OwnQ w base v n f) (k : Fr P w w') (hp : ∀ g, v.ownBlock = some g → ¬ P g) : OwnQ w' base v n f := by
  obtain ⟨xs, o, a⟩ := h
  exact ⟨xs, o.fr k hp, fun j hj => (a j hj).fr k⟩
theorem buildT_sub : ∀ (f : Nat) (l : List ND) (y : ND), y ∈ (buildT f l).2 → y ∈ l := by
  intro f
  induction f with
  | zero => exact fun l y h => h
  | succ f ih =>
    intro l y h
    cases l with
    | nil => exact h
    | cons x r =>
      unfold buildT at h
      split at h
      · exact List.mem_cons_of_mem _ (ih r y (ih _ y h))
      · exact List.mem_cons_of_mem _ h
theorem buildT_in {f : Nat} {x : ND} {r : List ND} (h : (decide (x.var ≠ -1) || x.kids) = true) : buildT (f + 1) (x :: r) = (.node x.var x.fl x.em x.num.length (yq x) (buildT f r).1 (buildT f (buildT f r).2).1, (buildT f (buildT f r).2).2) := by
  have h : x.var ≠ -1 ∨ x.kids = true := by simpa using h
  rw [buildT, if_pos h]
theorem buildT_leaf {f : Nat} {x : ND} {r : List ND} (h : (decide (x.var ≠ -1) || x.kids) = false) : buildT (f + 1) (x :: r) = (.node x.var x.fl x.em x.num.length (yq x) .nil .nil, r) := by
  have h : ¬ (x.var ≠ -1 ∨ x.kids = true) := by simpa using h
  rw [buildT, if_neg h]
def BldPost (w0 w : World) (r : CT × List ND) (e : Ending) (w' : World) : Prop := ∃ A v, e = .returned (.tuple #[.pointer A, v]) ∧ TreeI w' r.1 A w.heap.size w'.heap.size ∧ NodesV w0 v r.2 ∧ Ext w w'
set_option maxHeartbeats 4000000 in
set_option maxRecDepth 100000 in
theorem build_b : ∀ (f : Nat) (l : List ND) (d : Nat) (v : Value) (w0 w : World), f + d = 31 → Ext w0 w → NodesV w0 v l → (∀ x ∈ l, okN x) →
    Calls Tryz.prog 31 #[v, .int .i64 (d : Int)] w (BldPost w0 w (buildT f l)) := by
  intro f
  induction f with
  | zero =>
    intro l d v w0 w hd hE0 hv hok
    have hv0 := hv
    obtain ⟨A, c, rfl, hlc, hc, -⟩ := hv0
    obtain rfl : d = 31 := by omega
    go_enter Tryz.func31, Tryz.ntmps31
    by_cases h0 : l.length = 0
    · obtain rfl : l = [] := List.length_eq_zero_iff.1 h0
      simp only [List.length_nil] at *
      go_wp2_with fail
      refine bodyPost_ret (v := .tuple #[.pointer none, .slice A 0 c]) (by simp [results, Tryz.results31, go_sem]) rfl ?_
      exact ⟨none, _, rfl, ⟨rfl, Nat.le_refl _⟩, hv, Ext.refl w⟩
    · have e0 : ((l.length : Int) == 0) = false := by rw [beq_eq_false_iff_ne]; omega
      go_wp2_with fail
      refine bodyPost_ret (v := .tuple #[.pointer none, .slice A l.length c]) (by simp [results, Tryz.results31, go_sem]) rfl ?_
      exact ⟨none, _, rfl, ⟨rfl, Nat.le_refl _⟩, hv, Ext.refl w⟩
  | succ f ih =>
    intro l d v w0 w hd hE0 hv hok
    cases l with
    | nil =>
      have hv0 := hv
      obtain ⟨A, c, rfl, hlc, hc, -⟩ := hv0
      go_enter Tryz.func31, Tryz.ntmps31
      simp only [List.length_nil] at *
      go_wp2_with fail
      refine bodyPost_ret (v := .tuple #[.pointer none, .slice A 0 c]) (by simp [results, Tryz.results31, go_sem]) rfl ?_
      exact ⟨none, _, rfl, ⟨rfl, Nat.le_refl _⟩, hv, Ext.refl w⟩
    | cons x r =>
      obtain ⟨A, c, rfl, hlc, hc, hel⟩ := hv
      obtain ⟨b, off, rfl, hnd⟩ := hel (by simp)
      obtain ⟨An, cn, Ad, cd, g0, g1, g2, g3, g4, g5, hrn, hrd⟩ := (hnd 0 x rfl).ext hE0
      have HEL := Lib.hid hnd
      have hlen : (x :: r).length = r.length + 1 := rfl
      rw [hlen] at hlc ⊢
      have hvR : NodesV w0 (.slice (if c = 1 then some ⟨b, off, none⟩ else some ⟨b, off + 6, none⟩) r.length (c - 1)) r := ⟨_, c - 1, rfl, by omega, by omega, fun hn => by
        rw [if_neg (by omega)]
        exact ⟨b, off + 6, rfl, fun j y hj => by
          have h := hnd (j + 1) y (by simpa using hj)
          rw [show off + 6 + j * 6 = off + (j + 1) * 6 by omega]
          exact h⟩⟩
      clear hnd
      rw [Nat.zero_mul, Nat.add_zero] at g0 g1 g2 g3 g4 g5
      have e0 : (((r.length + 1 : Nat) : Int) == 0) = false := by rw [beq_eq_false_iff_ne]; omega
      have e1 : decide ((30 : Int) < (d : Int)) = false := by simp; omega
      have i1 : (0 : Int) < ((r.length + 1 : Nat) : Int) := by omega
      obtain ⟨o1, o2, o3⟩ := hok x (List.mem_cons_self ..)
      have HOK : Hid (∀ y ∈ r, okN y) := Lib.hid (fun y hy => hok y (List.mem_cons_of_mem _ hy))
      have XB := Box.new w 82 #[.int .i64 x.var, .int .i64 x.fl, .bool x.em, .slice An x.num.length cn, .slice Ad x.den.length cd, .bool x.kids]
      have hxV : Ext w (w.alloc (.cells #[.int .i64 x.var, .int .i64 x.fl, .bool x.em, .slice An x.num.length cn, .slice Ad x.den.length cd, .bool x.kids] 82)) := (Ext.refl w).alloc _
      obtain ⟨ir, ii, iz0, iz1, iz2⟩ := info_parts infoRat
      go_enter Tryz.func31, Tryz.ntmps31
      go_upto_region 5 with fail
      obtain ⟨AR, hAR⟩ : ∃ A : Option Addr, A = if c = 1 then some ⟨b, off, none⟩ else some ⟨b, off + 6, none⟩ := ⟨_, rfl⟩
      obtain ⟨CR, hCR⟩ : ∃ k, k = c - 1 := ⟨_, rfl⟩
      obtain ⟨NR, hNR⟩ : ∃ k, k = r.length := ⟨_, rfl⟩
      rw [← hAR, ← hCR, ← hNR] at hvR ⊢
      generalize (w.alloc (.cells #[.int .i64 x.var, .int .i64 x.fl, .bool x.em, .slice An x.num.length cn, .slice Ad x.den.length cd, .bool x.kids] 82)) = V at *
      obtain ⟨xb, hxb⟩ : ∃ z, z = w.heap.size := ⟨_, rfl⟩
      have hxw : w.heap.size ≤ xb := by omega
      rw [← hxb] at XB ⊢
      clear hxb g0 g1 g2 g3 g4 g5 e0 i1 hlc hc hAR hCR hNR hlen hok
      have hrn := hrn.ext hxV
      have hrd := hrd.ext hxV
      have x0 := XB.c0
      have x1 := XB.c1
      have x2 := XB.c2
      have TB := Box.new V 79 (NodeC x.var x.fl none none x.em none 0 0)
      have hxT : Ext V (V.alloc (.cells (NodeC x.var x.fl none none x.em none 0 0) 79)) := (Ext.refl V).alloc _
      unfold NodeC at TB hxT
      go_upto_region 6 with fail
      generalize (V.alloc (.cells #[.int .i64 x.var, .int .i64 x.fl, .pointer none, .pointer none, .bool x.em, .slice none 0 0] 79)) = U at *
      obtain ⟨tb, htb⟩ : ∃ z, z = V.heap.size := ⟨_, rfl⟩
      rw [← htb] at TB ⊢
      have hVt : V.heap.size ≤ tb := by omega
      have hxt : xb < tb := by have := XB.lt; omega
      have hwV : w.heap.size ≤ V.heap.size := hxV.size
      clear htb x0 x1 x2
      obtain ⟨N, hN⟩ : ∃ N, N = x.num.length := ⟨_, rfl⟩
      obtain ⟨M, hM⟩ : ∃ N, N = x.den.length := ⟨_, rfl⟩
      rw [← hN] at XB o3 hrn
      rw [← hM] at XB hrd
      have HN := Lib.hid hN
      have HM := Lib.hid hM
      have O1 := Lib.hid o1
      have O2 := Lib.hid o2
      clear hN hM o1 o2
      have x3 : U.cell? ⟨xb, 3, none⟩ = some _ := (XB.ext hxT).cell 3
      go_wp2_with fail
      clear x3
      go_loopw [8] (fun i wr => ∃ (k : Nat) (A : Option Addr) (c : Nat), k ≤ N ∧ i = .int .i64 k ∧ OwnQ wr V.heap.size (.slice A k c) k (yq x) ∧ Box wr tb 79 (NodeC x.var x.fl none none x.em A k c) ∧ Ext V wr) (fun i _ => N - (intOf i).toNat)
      case atStart => exact ⟨0, _, _, by omega, rfl, OwnQ.nil _ _ _, TB, hxT⟩
      case round =>
        clear TB hxT
        obtain ⟨k, A1, c1, hk, rfl, hO, TB, hx⟩ := hrel
        have XBr := XB.ext hx
        have x3 : wr.cell? ⟨xb, 3, none⟩ = some (.slice An N cn) := XBr.cell 3
        have x4 : wr.cell? ⟨xb, 4, none⟩ = some (.slice Ad M cd) := XBr.cell 4
        by_cases hlt : k < N
        · obtain ⟨-, hcn, -, hrow⟩ := hrn.inj
          rw [wV_len, ← HN.out] at hcn hrow
          obtain ⟨bn, offn, rfl, hcell⟩ := hrow (by omega)
          obtain ⟨z, hz⟩ : ∃ z, x.num[k]? = some z := ⟨_, List.getElem?_eq_getElem (by have := HN.out; omega)⟩
          have e5 := hx.cell (hcell k _ (wV_get hz))
          have hz32 : in32 z := O1.out z (List.mem_of_getElem? hz)
          obtain ⟨D, hD⟩ : ∃ D, D = x.den.getD k 0 := ⟨_, rfl⟩
          have hD255 : D ≤ 255 := by
            rw [hD, List.getD_eq_getElem?_getD]
            cases hd : x.den[k]? with
            | none => exact Nat.zero_le _
            | some d => exact O2.out d (List.mem_of_getElem? hd)
          have HXK : Hid (qn4 z D = yq x k) := Lib.hid (by unfold yq; rw [List.getD_eq_getElem?_getD, hz, ← hD]; rfl)
          have HD := Lib.hid hD
          have hbn : bn < V.heap.size := World.block_lt_of_cell? V _ (hcell k _ (wV_get hz))
          clear hcell hrow hz hD
          have i1 : (0 : Int) ≤ (k : Int) := by omega
          have i2 : (k : Int) < (N : Int) := by omega
          go_upto_if 42 with fail
          rename_i hK9
          go_cut [9] (fun v wx => v = .int .u8 (D : Int) ∧ wx = wr)
          case first =>
            by_cases hm : k < M
            · obtain ⟨-, -, -, hrow⟩ := hrd.inj
              rw [uV_len, ← HM.out] at hrow
              obtain ⟨bd, offd, rfl, hcell⟩ := hrow (by omega)
              obtain ⟨y, hy⟩ : ∃ z, x.den[k]? = some z := ⟨_, List.getElem?_eq_getElem (by have := HM.out; omega)⟩
              have e6 := hx.cell (hcell k _ (uV_get hy))
              have HY : Hid (y = D) := Lib.hid (by rw [HD.out, List.getD_eq_getElem?_getD, hy]; rfl)
              have i3 : (k : Int) < (M : Int) := by omega
              clear hcell hrow hy
              go_wp2_with fail
              go_meet
              exact ⟨by rw [HY.out], rfl⟩
            · have HY : Hid (D = 0) := Lib.hid (by rw [HD.out, List.getD_eq_getElem?_getD, List.getElem?_eq_none (by have := HM.out; omega)]; rfl)
              have i3 : ¬ (k : Int) < (M : Int) := by omega
              go_wp2_with fail
              go_meet
              exact ⟨by rw [HY.out]; rfl, rfl⟩
          case rest =>
            obtain ⟨rfl, hwx⟩ := hcut
            refine hK9 _ _ ?_
            subst hwx
            have t5 : wc.cell? ⟨tb, 5, none⟩ = some (.slice A1 k c1) := TB.cell 5
            have hNP : ∀ {b E cs}, Box wc b E cs → E ≠ 58 → ¬ (Value.slice A1 k c1).ownBlock = some b := fun {b E cs} hb hE e => by
              obtain ⟨xs, o, -⟩ := hO
              obtain ⟨-, -, cur, hcur⟩ := o.lt e
              exact row_ne hb hcur hE rfl
            have hNB : ∀ b, b < V.heap.size → ¬ (Value.slice A1 k c1).ownBlock = some b := fun b hb e => by
              obtain ⟨xs, o, -⟩ := hO
              have := (o.lt e).1
              omega
            have kx3 : ∀ w', Fr (fun g => (Value.slice A1 k c1).ownBlock = some g ∨ g = tb) wc w' → w'.cell? ⟨xb, 3, none⟩ = some (.slice (some ⟨bn, offn, none⟩) N cn) := fun w' h => h.cell (fun e => e.elim (hNP XBr (by decide)) (fun e => absurd e (by omega))) x3
            have kn : ∀ w', Fr (fun g => (Value.slice A1 k c1).ownBlock = some g ∨ g = tb) wc w' → w'.cell? ⟨bn, offn + k, none⟩ = some (.int .i32 z) := fun w' h => h.cell (fun e => e.elim (hNB _ hbn) (fun e => absurd e (by omega))) e5
            have ks := Fr.refl (fun g => (Value.slice A1 k c1).ownBlock = some g ∨ g = tb) wc
            clear x3 x4 e5
            refine wp_region_held_drew (S := fun w' => Fr (fun g => (Value.slice A1 k c1).ownBlock = some g ∨ g = tb) wc w') (by kernel_rfl) ?_ (fun hHeld => ?_)
            · (try dsimp only); (repeat (first | assumption | apply Fr.drew | apply Fr.drewN | apply Fr.alloc | (refine Fr.step ?_ (by assumption)) | (refine Fr.trans ?_ (by assumption))))
            refine wpAnyH_take (i := 0) (oi := { dst := some 48, op := Op.move (Operand.tmp 7), type := 25, pos := "law.go:52", after := #[], guard := none }) (v := ?_) rfl (by kernel_rfl) (by kernel_rfl) (by kernel_rfl) (fun _ _ _ h => h) (Or.inl ⟨by rfl, ?_⟩) (by assumption) ?_
            rotate_left
            · intro w hSw; (try dsimp only at hSw); go_simp; try (with_reducible rfl)
            try simp only [Act.put, List.setIfInBounds_toArray, List.set_cons_zero, List.set_cons_succ]
            refine wpAnyH_take (i := 1) (oi := { dst := some 49, op := Op.move (Operand.tmp 7), type := 25, pos := "law.go:52", after := #[], guard := none }) (v := ?_) rfl (by kernel_rfl) (by kernel_rfl) (by kernel_rfl) (fun _ _ _ h => h) (Or.inl ⟨by rfl, ?_⟩) (by assumption) ?_
            rotate_left
            · intro w hSw; (try dsimp only at hSw); go_simp; try (with_reducible rfl)
            try simp only [Act.put, List.setIfInBounds_toArray, List.set_cons_zero, List.set_cons_succ]
            refine wpAnyH_take (i := 2) (oi := { dst := some 50, op := Op.nilCheck (Operand.tmp 49), type := 0, pos := "law.go:52", after := #[{ on := 1, ground := Ground.data }], guard := none }) (v := ?_) rfl (by kernel_rfl) (by kernel_rfl) (by kernel_rfl) (fun _ _ _ h => h) (Or.inl ⟨by rfl, ?_⟩) (by assumption) ?_
            rotate_left
            · intro w hSw; (try dsimp only at hSw); go_simp; try (with_reducible rfl)
            try simp only [Act.put, List.setIfInBounds_toArray, List.set_cons_zero, List.set_cons_succ]
            refine wpAnyH_take (i := 3) (oi := { dst := some 51, op := Op.fieldAddr 79 (Operand.tmp 50) 5, type := 0, pos := "law.go:52", after := #[{ on := 2, ground := Ground.data }], guard := none }) (v := ?_) rfl (by kernel_rfl) (by kernel_rfl) (by kernel_rfl) (fun _ _ _ h => h) (Or.inl ⟨by rfl, ?_⟩) (by assumption) ?_
            rotate_left
            · intro w hSw; (try dsimp only at hSw); go_simp; try (with_reducible rfl)
            try simp only [Act.put, List.setIfInBounds_toArray, List.set_cons_zero, List.set_cons_succ]
            refine wpAnyH_take (i := 5) (oi := { dst := some 53, op := Op.fieldAddr 82 (Operand.tmp 6) 3, type := 0, pos := "law.go:52", after := #[], guard := none }) (v := ?_) rfl (by kernel_rfl) (by kernel_rfl) (by kernel_rfl) (fun _ _ _ h => h) (Or.inl ⟨by rfl, ?_⟩) (by assumption) ?_
            rotate_left
            · intro w hSw; (try dsimp only at hSw); go_simp; try (with_reducible rfl)
            try simp only [Act.put, List.setIfInBounds_toArray, List.set_cons_zero, List.set_cons_succ]
            refine wpAnyH_take (i := 6) (oi := { dst := some 54, op := Op.load 34 (Operand.tmp 53), type := 34, pos := "law.go:52", after := #[{ on := 5, ground := Ground.data }], guard := none }) (v := ?_) rfl (by kernel_rfl) (by kernel_rfl) (by kernel_rfl) (fun _ _ _ h => h) (Or.inl ⟨by rfl, ?_⟩) (by assumption) ?_
            rotate_left
            · intro w hSw; (try dsimp only at hSw); go_simp; try (with_reducible rfl)
            try simp only [Act.put, List.setIfInBounds_toArray, List.set_cons_zero, List.set_cons_succ]
            refine wpAnyH_take (i := 7) (oi := { dst := some 55, op := Op.move (Operand.tmp 8), type := 3, pos := "law.go:52", after := #[], guard := none }) (v := ?_) rfl (by kernel_rfl) (by kernel_rfl) (by kernel_rfl) (fun _ _ _ h => h) (Or.inl ⟨by rfl, ?_⟩) (by assumption) ?_
            rotate_left
            · intro w hSw; (try dsimp only at hSw); go_simp; try (with_reducible rfl)
            try simp only [Act.put, List.setIfInBounds_toArray, List.set_cons_zero, List.set_cons_succ]
            refine wpAnyH_take (i := 8) (oi := { dst := some 56, op := Op.indexAddr 34 (Operand.tmp 54) (Operand.tmp 55), type := 0, pos := "law.go:52", after := #[{ on := 6, ground := Ground.data }, { on := 7, ground := Ground.data }], guard := none }) (v := ?_) rfl (by kernel_rfl) (by kernel_rfl) (by kernel_rfl) (fun _ _ _ h => h) (Or.inl ⟨by rfl, ?_⟩) (by assumption) ?_
            rotate_left
            · intro w hSw; (try dsimp only at hSw); go_simp; try (with_reducible rfl)
            try simp only [Act.put, List.setIfInBounds_toArray, List.set_cons_zero, List.set_cons_succ]
            refine wpAnyH_take (i := 9) (oi := { dst := some 57, op := Op.load 21 (Operand.tmp 56), type := 21, pos := "law.go:52", after := #[{ on := 8, ground := Ground.data }], guard := none }) (v := ?_) rfl (by kernel_rfl) (by kernel_rfl) (by kernel_rfl) (fun _ _ _ h => h) (Or.inl ⟨by rfl, ?_⟩) (by assumption) ?_
            rotate_left
            · intro w hSw; (try dsimp only at hSw); go_simp; try (with_reducible rfl)
            try simp only [Act.put, List.setIfInBounds_toArray, List.set_cons_zero, List.set_cons_succ]
            refine wpAnyH_take (i := 10) (oi := { dst := some 58, op := Op.move (Operand.tmp 9), type := 5, pos := "law.go:52", after := #[], guard := none }) (v := ?_) rfl (by kernel_rfl) (by kernel_rfl) (by kernel_rfl) (fun _ _ _ h => h) (Or.inl ⟨by rfl, ?_⟩) (by assumption) ?_
            rotate_left
            · intro w hSw; (try dsimp only at hSw); go_simp; try (with_reducible rfl)
            try simp only [Act.put, List.setIfInBounds_toArray, List.set_cons_zero, List.set_cons_succ]
            refine wpAnyH_ready (rs := [4, 11]) (by kernel_rfl) (by simp) ?_
            refine AllReadyH.cons (o := { dst := some 52, op := Op.load 38 (Operand.tmp 51), type := 38, pos := "law.go:52", after := #[{ on := 3, ground := Ground.data }], guard := none }) rfl (fun K hK => ?_) ?_
            · go_simp
              try (go_wp2_with fail)
              refine hK.out _ _ ?_ (fun hHeld => ?_)
              · (try dsimp only); (repeat (first | assumption | apply Fr.drew | apply Fr.drewN | apply Fr.alloc | (refine Fr.step ?_ (by assumption)) | (refine Fr.trans ?_ (by assumption))))
              clear hK K
              try simp only [Act.put, List.setIfInBounds_toArray, List.set_cons_zero, List.set_cons_succ]
              refine wpAnyH_ready (rs := [11]) (by kernel_rfl) (by simp) ?_
              refine AllReadyH.cons (o := { dst := some 59, op := Op.call { callee := Callee.value (Operand.func 54), args := #[Operand.tmp 57, Operand.tmp 58], argTypes := #[21, 5] }, type := 58, pos := "law.go:52", after := #[{ on := 9, ground := Ground.data }, { on := 10, ground := Ground.data }], guard := none }) rfl (fun K hK => ?_) ?_
              · go_simp
                first
                  | ((have hza := hy4.alloc (.cells #[.bool pk, .slice Ak nk ck, .bool pk', .slice Ak' nk' ck'] 58)); (obtain ⟨xs, oX, rX⟩ := hO.ext hza); (refine step_pushX rfl (.tmp 52) (.tmp 60) 38 rfl V.heap.size 58 ir _ 4 64 Tryz.underlying38 ii iz0 iz1 iz2 rfl zR _ k xs rfl oX w4.heap.size [.bool pk, .slice Ak nk ck, .bool pk', .slice Ak' nk' ck'] 1 rfl rfl (new4 w4 58 _ _ _ _) one4 nou4 (by omega) (by decide) (by have := hza.size; have := hx.size; omega) ?_); intro v6 y6 o6 r6 s6; (have tb6 := boxR (TB.ext hza) oX r6 (by decide)); (have c6 : y6.cell? ⟨tb, 5, none⟩ = some (.slice A1 k c1) := tb6.cell 5); (have z6 := tb6.frozen 5); (obtain ⟨A6, d6, rfl⟩ := o6.shape); (have hS6 : Fr (fun g => (Value.slice A1 k c1).ownBlock = some g ∨ g = tb) wc y6 := (Fr.of hza).trans (r6.weak (fun _ h => .inl h))); (have hS7 : Fr (fun g => (Value.slice A1 k c1).ownBlock = some g ∨ g = tb) wc (y6.setCell ⟨tb, 5, none⟩ (.slice A6 (k + 1) d6)) := hS6.set (p := ⟨tb, 5, none⟩) (.inr rfl) (fun z => by rw [c6]; intro e; cases e) _))
                  | (go_at_call 54; (with_reducible refine (number4_b z D _ hz32 hD255).mono ?_); rintro e1 w4 ⟨v4, rfl, hb4, hx4⟩; (have hy4 : Ext wc w4 := Ext.trans (by repeat (first | (with_reducible exact Ext.refl _) | (with_reducible apply Ext.drew) | (with_reducible apply Ext.drewN))) hx4); (obtain ⟨pk, Ak, nk, ck, pk', Ak', nk', ck', rfl⟩ := hb4.1.shape); (have u2 := hy4.cell t5); (have u3 := (hy4.alloc (.cells #[.bool pk, .slice Ak nk ck, .bool pk', .slice Ak' nk' ck'] 58)).cell t5))
                try (go_wp2_with fail)
                refine hK.out _ _ ?_ (fun hHeld => ?_)
                · (try dsimp only); (repeat (first | assumption | apply Fr.drew | apply Fr.drewN | apply Fr.alloc | (refine Fr.step ?_ (by assumption)) | (refine Fr.trans ?_ (by assumption))))
                clear hK K
                try simp only [Act.put, List.setIfInBounds_toArray, List.set_cons_zero, List.set_cons_succ]
                refine wpAnyH_ready (rs := [12]) (by kernel_rfl) (by simp) ?_
                refine AllReadyH.cons (o := { dst := some 60, op := Op.buildSlice 38 1 #[(0, Operand.tmp 59)], type := 38, pos := "law.go:52", after := #[{ on := 11, ground := Ground.data }], guard := none }) rfl (fun K hK => ?_) ?_
                · go_simp
                  try (go_wp2_with fail)
                  refine hK.out _ _ ?_ (fun hHeld => ?_)
                  · (try dsimp only); (repeat (first | assumption | apply Fr.drew | apply Fr.drewN | apply Fr.alloc | (refine Fr.step ?_ (by assumption)) | (refine Fr.trans ?_ (by assumption))))
                  clear hK K
                  try simp only [Act.put, List.setIfInBounds_toArray, List.set_cons_zero, List.set_cons_succ]
                  refine wpAnyH_ready (rs := [13]) (by kernel_rfl) (by simp) ?_
                  refine AllReadyH.cons (o := { dst := some 61, op := Op.call { callee := Callee.builtin Builtin.append, args := #[Operand.tmp 52, Operand.tmp 60], argTypes := #[38, 38] }, type := 38, pos := "law.go:52", after := #[{ on := 4, ground := Ground.data }, { on := 12, ground := Ground.data }, { on := 11, ground := Ground.chain }], guard := none }) rfl (fun K hK => ?_) ?_
                  · skip
                    first
                      | ((have hza := hy4.alloc (.cells #[.bool pk, .slice Ak nk ck, .bool pk', .slice Ak' nk' ck'] 58)); (obtain ⟨xs, oX, rX⟩ := hO.ext hza); (refine step_pushX rfl (.tmp 52) (.tmp 60) 38 rfl V.heap.size 58 ir _ 4 64 Tryz.underlying38 ii iz0 iz1 iz2 rfl zR _ k xs rfl oX w4.heap.size [.bool pk, .slice Ak nk ck, .bool pk', .slice Ak' nk' ck'] 1 rfl rfl (new4 w4 58 _ _ _ _) one4 nou4 (by omega) (by decide) (by have := hza.size; have := hx.size; omega) ?_); intro v6 y6 o6 r6 s6; (have tb6 := boxR (TB.ext hza) oX r6 (by decide)); (have c6 : y6.cell? ⟨tb, 5, none⟩ = some (.slice A1 k c1) := tb6.cell 5); (have z6 := tb6.frozen 5); (obtain ⟨A6, d6, rfl⟩ := o6.shape); (have hS6 : Fr (fun g => (Value.slice A1 k c1).ownBlock = some g ∨ g = tb) wc y6 := (Fr.of hza).trans (r6.weak (fun _ h => .inl h))); (have hS7 : Fr (fun g => (Value.slice A1 k c1).ownBlock = some g ∨ g = tb) wc (y6.setCell ⟨tb, 5, none⟩ (.slice A6 (k + 1) d6)) := hS6.set (p := ⟨tb, 5, none⟩) (.inr rfl) (fun z => by rw [c6]; intro e; cases e) _))
                      | (go_at_call 54; (with_reducible refine (number4_b z D _ hz32 hD255).mono ?_); rintro e1 w4 ⟨v4, rfl, hb4, hx4⟩; (have hy4 : Ext wc w4 := Ext.trans (by repeat (first | (with_reducible exact Ext.refl _) | (with_reducible apply Ext.drew) | (with_reducible apply Ext.drewN))) hx4); (obtain ⟨pk, Ak, nk, ck, pk', Ak', nk', ck', rfl⟩ := hb4.1.shape); (have u2 := hy4.cell t5); (have u3 := (hy4.alloc (.cells #[.bool pk, .slice Ak nk ck, .bool pk', .slice Ak' nk' ck'] 58)).cell t5))
                    try (go_wp2_with fail)
                    refine hK.out _ _ ?_ (fun hHeld => ?_)
                    · (try dsimp only); (repeat (first | assumption | apply Fr.drew | apply Fr.drewN | apply Fr.alloc | (refine Fr.step ?_ (by assumption)) | (refine Fr.trans ?_ (by assumption))))
                    clear hK K
                    try simp only [Act.put, List.setIfInBounds_toArray, List.set_cons_zero, List.set_cons_succ]
                    refine wpAnyH_take (i := 14) (oi := { dst := some 62, op := Op.nilCheck (Operand.tmp 48), type := 0, pos := "law.go:52", after := #[{ on := 0, ground := Ground.data }, { on := 0, ground := Ground.phase }, { on := 1, ground := Ground.phase }, { on := 2, ground := Ground.phase }, { on := 3, ground := Ground.phase }, { on := 4, ground := Ground.phase }, { on := 5, ground := Ground.phase }, { on := 6, ground := Ground.phase }, { on := 7, ground := Ground.phase }, { on := 8, ground := Ground.phase }, { on := 9, ground := Ground.phase }, { on := 10, ground := Ground.phase }, { on := 11, ground := Ground.phase }, { on := 12, ground := Ground.phase }, { on := 13, ground := Ground.phase }], guard := none }) (v := ?_) rfl (by kernel_rfl) (by kernel_rfl) (by kernel_rfl) (fun _ _ _ h => h) (Or.inl ⟨by rfl, ?_⟩) (by assumption) ?_
                    rotate_left
                    · intro w hSw; (try dsimp only at hSw); go_simp; try (with_reducible rfl)
                    try simp only [Act.put, List.setIfInBounds_toArray, List.set_cons_zero, List.set_cons_succ]
                    refine wpAnyH_take (i := 15) (oi := { dst := some 63, op := Op.fieldAddr 79 (Operand.tmp 62) 5, type := 0, pos := "law.go:52", after := #[{ on := 14, ground := Ground.data }, { on := 0, ground := Ground.phase }, { on := 1, ground := Ground.phase }, { on := 2, ground := Ground.phase }, { on := 3, ground := Ground.phase }, { on := 4, ground := Ground.phase }, { on := 5, ground := Ground.phase }, { on := 6, ground := Ground.phase }, { on := 7, ground := Ground.phase }, { on := 8, ground := Ground.phase }, { on := 9, ground := Ground.phase }, { on := 10, ground := Ground.phase }, { on := 11, ground := Ground.phase }, { on := 12, ground := Ground.phase }, { on := 13, ground := Ground.phase }], guard := none }) (v := ?_) rfl (by kernel_rfl) (by kernel_rfl) (by kernel_rfl) (fun _ _ _ h => h) (Or.inl ⟨by rfl, ?_⟩) (by assumption) ?_
                    rotate_left
                    · intro w hSw; (try dsimp only at hSw); go_simp; try (with_reducible rfl)
                    try simp only [Act.put, List.setIfInBounds_toArray, List.set_cons_zero, List.set_cons_succ]
                    refine wpAnyH_ready (rs := [16]) (by kernel_rfl) (by simp) ?_
                    refine AllReadyH.cons (o := { dst := none, op := Op.store 38 (Operand.tmp 63) (Operand.tmp 61), type := 0, pos := "law.go:52", after := #[{ on := 15, ground := Ground.data }, { on := 13, ground := Ground.data }, { on := 13, ground := Ground.chain }, { on := 0, ground := Ground.phase }, { on := 1, ground := Ground.phase }, { on := 2, ground := Ground.phase }, { on := 3, ground := Ground.phase }, { on := 4, ground := Ground.phase }, { on := 5, ground := Ground.phase }, { on := 6, ground := Ground.phase }, { on := 7, ground := Ground.phase }, { on := 8, ground := Ground.phase }, { on := 9, ground := Ground.phase }, { on := 10, ground := Ground.phase }, { on := 11, ground := Ground.phase }, { on := 12, ground := Ground.phase }, { on := 13, ground := Ground.phase }], guard := none }) rfl (fun K hK => ?_) ?_
                    · go_simp
                      try (go_wp2_with fail)
                      refine hK.out _ _ ?_ (fun hHeld => ?_)
                      · (try dsimp only); (repeat (first | assumption | apply Fr.drew | apply Fr.drewN | apply Fr.alloc | (refine Fr.step ?_ (by assumption)) | (refine Fr.trans ?_ (by assumption))))
                      clear hK K
                      try simp only [Act.put, List.setIfInBounds_toArray, List.set_cons_zero, List.set_cons_succ]
                      refine wpAnyH_done (by kernel_rfl) ?_ _
                      have hbp := hb4.1.ext ((Ext.refl w4).alloc (.cells #[.bool pk, .slice Ak nk ck, .bool pk', .slice Ak' nk' ck'] 58))
                      rw [HXK.out] at hbp
                      have hOM : OwnQ y6 V.heap.size (.slice A6 (k + 1) d6) (k + 1) (yq x) := ⟨_, o6, At.push oX.1 rX r6 hbp⟩
                      have hOF : OwnQ (y6.setCell ⟨tb, 5, none⟩ (.slice A6 (k + 1) d6)) V.heap.size (.slice A6 (k + 1) d6) (k + 1) (yq x) := hOM.fr ((Fr.refl (fun g => g = tb) y6).set (p := ⟨tb, 5, none⟩) rfl (fun z => by rw [c6]; intro e; cases e) _) (fun g hg e => by obtain ⟨-, -, cur, hcur⟩ := o6.lt hg; exact row_ne tb6 hcur (by decide) e.symm)
                      have hBF : Box _ tb 79 (NodeC x.var x.fl none none x.em A6 (k + 1) d6) := tb6.set 5 (.slice A6 (k + 1) d6)
                      have hXF : Ext V (y6.setCell ⟨tb, 5, none⟩ (.slice A6 (k + 1) d6)) := (r6.ext (hx.trans hza) (fun g hg => (oX.lt hg).1)).set (p := ⟨tb, 5, none⟩) hVt _
                      clear hOM
                      go_wp2_with fail
                      go_roundw
                      case rel => exact ⟨k + 1, _, _, by omega, by go_num, hOF, hBF, hXF⟩
                      case measure => simp [intOf]; omega
                    exact AllReadyH.nil
                  exact AllReadyH.nil
                exact AllReadyH.nil
              exact AllReadyH.nil
            refine AllReadyH.cons (o := { dst := some 59, op := Op.call { callee := Callee.value (Operand.func 54), args := #[Operand.tmp 57, Operand.tmp 58], argTypes := #[21, 5] }, type := 58, pos := "law.go:52", after := #[{ on := 9, ground := Ground.data }, { on := 10, ground := Ground.data }], guard := none }) rfl (fun K hK => ?_) ?_
            · go_simp
              first
                | ((have hza := hy4.alloc (.cells #[.bool pk, .slice Ak nk ck, .bool pk', .slice Ak' nk' ck'] 58)); (obtain ⟨xs, oX, rX⟩ := hO.ext hza); (refine step_pushX rfl (.tmp 52) (.tmp 60) 38 rfl V.heap.size 58 ir _ 4 64 Tryz.underlying38 ii iz0 iz1 iz2 rfl zR _ k xs rfl oX w4.heap.size [.bool pk, .slice Ak nk ck, .bool pk', .slice Ak' nk' ck'] 1 rfl rfl (new4 w4 58 _ _ _ _) one4 nou4 (by omega) (by decide) (by have := hza.size; have := hx.size; omega) ?_); intro v6 y6 o6 r6 s6; (have tb6 := boxR (TB.ext hza) oX r6 (by decide)); (have c6 : y6.cell? ⟨tb, 5, none⟩ = some (.slice A1 k c1) := tb6.cell 5); (have z6 := tb6.frozen 5); (obtain ⟨A6, d6, rfl⟩ := o6.shape); (have hS6 : Fr (fun g => (Value.slice A1 k c1).ownBlock = some g ∨ g = tb) wc y6 := (Fr.of hza).trans (r6.weak (fun _ h => .inl h))); (have hS7 : Fr (fun g => (Value.slice A1 k c1).ownBlock = some g ∨ g = tb) wc (y6.setCell ⟨tb, 5, none⟩ (.slice A6 (k + 1) d6)) := hS6.set (p := ⟨tb, 5, none⟩) (.inr rfl) (fun z => by rw [c6]; intro e; cases e) _))
                | (go_at_call 54; (with_reducible refine (number4_b z D _ hz32 hD255).mono ?_); rintro e1 w4 ⟨v4, rfl, hb4, hx4⟩; (have hy4 : Ext wc w4 := Ext.trans (by repeat (first | (with_reducible exact Ext.refl _) | (with_reducible apply Ext.drew) | (with_reducible apply Ext.drewN))) hx4); (obtain ⟨pk, Ak, nk, ck, pk', Ak', nk', ck', rfl⟩ := hb4.1.shape); (have u2 := hy4.cell t5); (have u3 := (hy4.alloc (.cells #[.bool pk, .slice Ak nk ck, .bool pk', .slice Ak' nk' ck'] 58)).cell t5))
              try (go_wp2_with fail)
              refine hK.out _ _ ?_ (fun hHeld => ?_)
              · (try dsimp only); (repeat (first | assumption | apply Fr.drew | apply Fr.drewN | apply Fr.alloc | (refine Fr.step ?_ (by assumption)) | (refine Fr.trans ?_ (by assumption))))
              clear hK K
              try simp only [Act.put, List.setIfInBounds_toArray, List.set_cons_zero, List.set_cons_succ]
              refine wpAnyH_ready (rs := [4, 12]) (by kernel_rfl) (by simp) ?_
              refine AllReadyH.cons (o := { dst := some 52, op := Op.load 38 (Operand.tmp 51), type := 38, pos := "law.go:52", after := #[{ on := 3, ground := Ground.data }], guard := none }) rfl (fun K hK => ?_) ?_
              · go_simp
                try (go_wp2_with fail)
                refine hK.out _ _ ?_ (fun hHeld => ?_)
                · (try dsimp only); (repeat (first | assumption | apply Fr.drew | apply Fr.drewN | apply Fr.alloc | (refine Fr.step ?_ (by assumption)) | (refine Fr.trans ?_ (by assumption))))
                clear hK K
                try simp only [Act.put, List.setIfInBounds_toArray, List.set_cons_zero, List.set_cons_succ]
                refine wpAnyH_ready (rs := [12]) (by kernel_rfl) (by simp) ?_
                refine AllReadyH.cons (o := { dst := some 60, op := Op.buildSlice 38 1 #[(0, Operand.tmp 59)], type := 38, pos := "law.go:52", after := #[{ on := 11, ground := Ground.data }], guard := none }) rfl (fun K hK => ?_) ?_
                · go_simp
                  try (go_wp2_with fail)
                  refine hK.out _ _ ?_ (fun hHeld => ?_)
                  · (try dsimp only); (repeat (first | assumption | apply Fr.drew | apply Fr.drewN | apply Fr.alloc | (refine Fr.step ?_ (by assumption)) | (refine Fr.trans ?_ (by assumption))))
                  clear hK K
                  try simp only [Act.put, List.setIfInBounds_toArray, List.set_cons_zero, List.set_cons_succ]
                  refine wpAnyH_ready (rs := [13]) (by kernel_rfl) (by simp) ?_
                  refine AllReadyH.cons (o := { dst := some 61, op := Op.call { callee := Callee.builtin Builtin.append, args := #[Operand.tmp 52, Operand.tmp 60], argTypes := #[38, 38] }, type := 38, pos := "law.go:52", after := #[{ on := 4, ground := Ground.data }, { on := 12, ground := Ground.data }, { on := 11, ground := Ground.chain }], guard := none }) rfl (fun K hK => ?_) ?_
                  · skip
                    first
                      | ((have hza := hy4.alloc (.cells #[.bool pk, .slice Ak nk ck, .bool pk', .slice Ak' nk' ck'] 58)); (obtain ⟨xs, oX, rX⟩ := hO.ext hza); (refine step_pushX rfl (.tmp 52) (.tmp 60) 38 rfl V.heap.size 58 ir _ 4 64 Tryz.underlying38 ii iz0 iz1 iz2 rfl zR _ k xs rfl oX w4.heap.size [.bool pk, .slice Ak nk ck, .bool pk', .slice Ak' nk' ck'] 1 rfl rfl (new4 w4 58 _ _ _ _) one4 nou4 (by omega) (by decide) (by have := hza.size; have := hx.size; omega) ?_); intro v6 y6 o6 r6 s6; (have tb6 := boxR (TB.ext hza) oX r6 (by decide)); (have c6 : y6.cell? ⟨tb, 5, none⟩ = some (.slice A1 k c1) := tb6.cell 5); (have z6 := tb6.frozen 5); (obtain ⟨A6, d6, rfl⟩ := o6.shape); (have hS6 : Fr (fun g => (Value.slice A1 k c1).ownBlock = some g ∨ g = tb) wc y6 := (Fr.of hza).trans (r6.weak (fun _ h => .inl h))); (have hS7 : Fr (fun g => (Value.slice A1 k c1).ownBlock = some g ∨ g = tb) wc (y6.setCell ⟨tb, 5, none⟩ (.slice A6 (k + 1) d6)) := hS6.set (p := ⟨tb, 5, none⟩) (.inr rfl) (fun z => by rw [c6]; intro e; cases e) _))
                      | (go_at_call 54; (with_reducible refine (number4_b z D _ hz32 hD255).mono ?_); rintro e1 w4 ⟨v4, rfl, hb4, hx4⟩; (have hy4 : Ext wc w4 := Ext.trans (by repeat (first | (with_reducible exact Ext.refl _) | (with_reducible apply Ext.drew) | (with_reducible apply Ext.drewN))) hx4); (obtain ⟨pk, Ak, nk, ck, pk', Ak', nk', ck', rfl⟩ := hb4.1.shape); (have u2 := hy4.cell t5); (have u3 := (hy4.alloc (.cells #[.bool pk, .slice Ak nk ck, .bool pk', .slice Ak' nk' ck'] 58)).cell t5))
                    try (go_wp2_with fail)
                    refine hK.out _ _ ?_ (fun hHeld => ?_)
                    · (try dsimp only); (repeat (first | assumption | apply Fr.drew | apply Fr.drewN | apply Fr.alloc | (refine Fr.step ?_ (by assumption)) | (refine Fr.trans ?_ (by assumption))))
                    clear hK K
                    try simp only [Act.put, List.setIfInBounds_toArray, List.set_cons_zero, List.set_cons_succ]
                    refine wpAnyH_take (i := 14) (oi := { dst := some 62, op := Op.nilCheck (Operand.tmp 48), type := 0, pos := "law.go:52", after := #[{ on := 0, ground := Ground.data }, { on := 0, ground := Ground.phase }, { on := 1, ground := Ground.phase }, { on := 2, ground := Ground.phase }, { on := 3, ground := Ground.phase }, { on := 4, ground := Ground.phase }, { on := 5, ground := Ground.phase }, { on := 6, ground := Ground.phase }, { on := 7, ground := Ground.phase }, { on := 8, ground := Ground.phase }, { on := 9, ground := Ground.phase }, { on := 10, ground := Ground.phase }, { on := 11, ground := Ground.phase }, { on := 12, ground := Ground.phase }, { on := 13, ground := Ground.phase }], guard := none }) (v := ?_) rfl (by kernel_rfl) (by kernel_rfl) (by kernel_rfl) (fun _ _ _ h => h) (Or.inl ⟨by rfl, ?_⟩) (by assumption) ?_
                    rotate_left
                    · intro w hSw; (try dsimp only at hSw); go_simp; try (with_reducible rfl)
                    try simp only [Act.put, List.setIfInBounds_toArray, List.set_cons_zero, List.set_cons_succ]
                    refine wpAnyH_take (i := 15) (oi := { dst := some 63, op := Op.fieldAddr 79 (Operand.tmp 62) 5, type := 0, pos := "law.go:52", after := #[{ on := 14, ground := Ground.data }, { on := 0, ground := Ground.phase }, { on := 1, ground := Ground.phase }, { on := 2, ground := Ground.phase }, { on := 3, ground := Ground.phase }, { on := 4, ground := Ground.phase }, { on := 5, ground := Ground.phase }, { on := 6, ground := Ground.phase }, { on := 7, ground := Ground.phase }, { on := 8, ground := Ground.phase }, { on := 9, ground := Ground.phase }, { on := 10, ground := Ground.phase }, { on := 11, ground := Ground.phase }, { on := 12, ground := Ground.phase }, { on := 13, ground := Ground.phase }], guard := none }) (v := ?_) rfl (by kernel_rfl) (by kernel_rfl) (by kernel_rfl) (fun _ _ _ h => h) (Or.inl ⟨by rfl, ?_⟩) (by assumption) ?_
                    rotate_left
                    · intro w hSw; (try dsimp only at hSw); go_simp; try (with_reducible rfl)
                    try simp only [Act.put, List.setIfInBounds_toArray, List.set_cons_zero, List.set_cons_succ]
                    refine wpAnyH_ready (rs := [16]) (by kernel_rfl) (by simp) ?_
                    refine AllReadyH.cons (o := { dst := none, op := Op.store 38 (Operand.tmp 63) (Operand.tmp 61), type := 0, pos := "law.go:52", after := #[{ on := 15, ground := Ground.data }, { on := 13, ground := Ground.data }, { on := 13, ground := Ground.chain }, { on := 0, ground := Ground.phase }, { on := 1, ground := Ground.phase }, { on := 2, ground := Ground.phase }, { on := 3, ground := Ground.phase }, { on := 4, ground := Ground.phase }, { on := 5, ground := Ground.phase }, { on := 6, ground := Ground.phase }, { on := 7, ground := Ground.phase }, { on := 8, ground := Ground.phase }, { on := 9, ground := Ground.phase }, { on := 10, ground := Ground.phase }, { on := 11, ground := Ground.phase }, { on := 12, ground := Ground.phase }, { on := 13, ground := Ground.phase }], guard := none }) rfl (fun K hK => ?_) ?_
                    · go_simp
                      try (go_wp2_with fail)
                      refine hK.out _ _ ?_ (fun hHeld => ?_)
                      · (try dsimp only); (repeat (first | assumption | apply Fr.drew | apply Fr.drewN | apply Fr.alloc | (refine Fr.step ?_ (by assumption)) | (refine Fr.trans ?_ (by assumption))))
                      clear hK K
                      try simp only [Act.put, List.setIfInBounds_toArray, List.set_cons_zero, List.set_cons_succ]
                      refine wpAnyH_done (by kernel_rfl) ?_ _
                      have hbp := hb4.1.ext ((Ext.refl w4).alloc (.cells #[.bool pk, .slice Ak nk ck, .bool pk', .slice Ak' nk' ck'] 58))
                      rw [HXK.out] at hbp
                      have hOM : OwnQ y6 V.heap.size (.slice A6 (k + 1) d6) (k + 1) (yq x) := ⟨_, o6, At.push oX.1 rX r6 hbp⟩
                      have hOF : OwnQ (y6.setCell ⟨tb, 5, none⟩ (.slice A6 (k + 1) d6)) V.heap.size (.slice A6 (k + 1) d6) (k + 1) (yq x) := hOM.fr ((Fr.refl (fun g => g = tb) y6).set (p := ⟨tb, 5, none⟩) rfl (fun z => by rw [c6]; intro e; cases e) _) (fun g hg e => by obtain ⟨-, -, cur, hcur⟩ := o6.lt hg; exact row_ne tb6 hcur (by decide) e.symm)
                      have hBF : Box _ tb 79 (NodeC x.var x.fl none none x.em A6 (k + 1) d6) := tb6.set 5 (.slice A6 (k + 1) d6)
                      have hXF : Ext V (y6.setCell ⟨tb, 5, none⟩ (.slice A6 (k + 1) d6)) := (r6.ext (hx.trans hza) (fun g hg => (oX.lt hg).1)).set (p := ⟨tb, 5, none⟩) hVt _
                      clear hOM
                      go_wp2_with fail
                      go_roundw
                      case rel => exact ⟨k + 1, _, _, by omega, by go_num, hOF, hBF, hXF⟩
                      case measure => simp [intOf]; omega
                    exact AllReadyH.nil
                  exact AllReadyH.nil
                exact AllReadyH.nil
              refine AllReadyH.cons (o := { dst := some 60, op := Op.buildSlice 38 1 #[(0, Operand.tmp 59)], type := 38, pos := "law.go:52", after := #[{ on := 11, ground := Ground.data }], guard := none }) rfl (fun K hK => ?_) ?_
              · go_simp
                try (go_wp2_with fail)
                refine hK.out _ _ ?_ (fun hHeld => ?_)
                · (try dsimp only); (repeat (first | assumption | apply Fr.drew | apply Fr.drewN | apply Fr.alloc | (refine Fr.step ?_ (by assumption)) | (refine Fr.trans ?_ (by assumption))))
                clear hK K
                try simp only [Act.put, List.setIfInBounds_toArray, List.set_cons_zero, List.set_cons_succ]
                refine wpAnyH_ready (rs := [4]) (by kernel_rfl) (by simp) ?_
                refine AllReadyH.cons (o := { dst := some 52, op := Op.load 38 (Operand.tmp 51), type := 38, pos := "law.go:52", after := #[{ on := 3, ground := Ground.data }], guard := none }) rfl (fun K hK => ?_) ?_
                · go_simp
                  try (go_wp2_with fail)
                  refine hK.out _ _ ?_ (fun hHeld => ?_)
                  · (try dsimp only); (repeat (first | assumption | apply Fr.drew | apply Fr.drewN | apply Fr.alloc | (refine Fr.step ?_ (by assumption)) | (refine Fr.trans ?_ (by assumption))))
                  clear hK K
                  try simp only [Act.put, List.setIfInBounds_toArray, List.set_cons_zero, List.set_cons_succ]
                  refine wpAnyH_ready (rs := [13]) (by kernel_rfl) (by simp) ?_
                  refine AllReadyH.cons (o := { dst := some 61, op := Op.call { callee := Callee.builtin Builtin.append, args := #[Operand.tmp 52, Operand.tmp 60], argTypes := #[38, 38] }, type := 38, pos := "law.go:52", after := #[{ on := 4, ground := Ground.data }, { on := 12, ground := Ground.data }, { on := 11, ground := Ground.chain }], guard := none }) rfl (fun K hK => ?_) ?_
                  · skip
                    first
                      | ((have hza := hy4.alloc (.cells #[.bool pk, .slice Ak nk ck, .bool pk', .slice Ak' nk' ck'] 58)); (obtain ⟨xs, oX, rX⟩ := hO.ext hza); (refine step_pushX rfl (.tmp 52) (.tmp 60) 38 rfl V.heap.size 58 ir _ 4 64 Tryz.underlying38 ii iz0 iz1 iz2 rfl zR _ k xs rfl oX w4.heap.size [.bool pk, .slice Ak nk ck, .bool pk', .slice Ak' nk' ck'] 1 rfl rfl (new4 w4 58 _ _ _ _) one4 nou4 (by omega) (by decide) (by have := hza.size; have := hx.size; omega) ?_); intro v6 y6 o6 r6 s6; (have tb6 := boxR (TB.ext hza) oX r6 (by decide)); (have c6 : y6.cell? ⟨tb, 5, none⟩ = some (.slice A1 k c1) := tb6.cell 5); (have z6 := tb6.frozen 5); (obtain ⟨A6, d6, rfl⟩ := o6.shape); (have hS6 : Fr (fun g => (Value.slice A1 k c1).ownBlock = some g ∨ g = tb) wc y6 := (Fr.of hza).trans (r6.weak (fun _ h => .inl h))); (have hS7 : Fr (fun g => (Value.slice A1 k c1).ownBlock = some g ∨ g = tb) wc (y6.setCell ⟨tb, 5, none⟩ (.slice A6 (k + 1) d6)) := hS6.set (p := ⟨tb, 5, none⟩) (.inr rfl) (fun z => by rw [c6]; intro e; cases e) _))
                      | (go_at_call 54; (with_reducible refine (number4_b z D _ hz32 hD255).mono ?_); rintro e1 w4 ⟨v4, rfl, hb4, hx4⟩; (have hy4 : Ext wc w4 := Ext.trans (by repeat (first | (with_reducible exact Ext.refl _) | (with_reducible apply Ext.drew) | (with_reducible apply Ext.drewN))) hx4); (obtain ⟨pk, Ak, nk, ck, pk', Ak', nk', ck', rfl⟩ := hb4.1.shape); (have u2 := hy4.cell t5); (have u3 := (hy4.alloc (.cells #[.bool pk, .slice Ak nk ck, .bool pk', .slice Ak' nk' ck'] 58)).cell t5))
                    try (go_wp2_with fail)
                    refine hK.out _ _ ?_ (fun hHeld => ?_)
                    · (try dsimp only); (repeat (first | assumption | apply Fr.drew | apply Fr.drewN | apply Fr.alloc | (refine Fr.step ?_ (by assumption)) | (refine Fr.trans ?_ (by assumption))))
                    clear hK K
                    try simp only [Act.put, List.setIfInBounds_toArray, List.set_cons_zero, List.set_cons_succ]
                    refine wpAnyH_take (i := 14) (oi := { dst := some 62, op := Op.nilCheck (Operand.tmp 48), type := 0, pos := "law.go:52", after := #[{ on := 0, ground := Ground.data }, { on := 0, ground := Ground.phase }, { on := 1, ground := Ground.phase }, { on := 2, ground := Ground.phase }, { on := 3, ground := Ground.phase }, { on := 4, ground := Ground.phase }, { on := 5, ground := Ground.phase }, { on := 6, ground := Ground.phase }, { on := 7, ground := Ground.phase }, { on := 8, ground := Ground.phase }, { on := 9, ground := Ground.phase }, { on := 10, ground := Ground.phase }, { on := 11, ground := Ground.phase }, { on := 12, ground := Ground.phase }, { on := 13, ground := Ground.phase }], guard := none }) (v := ?_) rfl (by kernel_rfl) (by kernel_rfl) (by kernel_rfl) (fun _ _ _ h => h) (Or.inl ⟨by rfl, ?_⟩) (by assumption) ?_
                    rotate_left
                    · intro w hSw; (try dsimp only at hSw); go_simp; try (with_reducible rfl)
                    try simp only [Act.put, List.setIfInBounds_toArray, List.set_cons_zero, List.set_cons_succ]
                    refine wpAnyH_take (i := 15) (oi := { dst := some 63, op := Op.fieldAddr 79 (Operand.tmp 62) 5, type := 0, pos := "law.go:52", after := #[{ on := 14, ground := Ground.data }, { on := 0, ground := Ground.phase }, { on := 1, ground := Ground.phase }, { on := 2, ground := Ground.phase }, { on := 3, ground := Ground.phase }, { on := 4, ground := Ground.phase }, { on := 5, ground := Ground.phase }, { on := 6, ground := Ground.phase }, { on := 7, ground := Ground.phase }, { on := 8, ground := Ground.phase }, { on := 9, ground := Ground.phase }, { on := 10, ground := Ground.phase }, { on := 11, ground := Ground.phase }, { on := 12, ground := Ground.phase }, { on := 13, ground := Ground.phase }], guard := none }) (v := ?_) rfl (by kernel_rfl) (by kernel_rfl) (by kernel_rfl) (fun _ _ _ h => h) (Or.inl ⟨by rfl, ?_⟩) (by assumption) ?_
                    rotate_left
                    · intro w hSw; (try dsimp only at hSw); go_simp; try (with_reducible rfl)
                    try simp only [Act.put, List.setIfInBounds_toArray, List.set_cons_zero, List.set_cons_succ]
                    refine wpAnyH_ready (rs := [16]) (by kernel_rfl) (by simp) ?_
                    refine AllReadyH.cons (o := { dst := none, op := Op.store 38 (Operand.tmp 63) (Operand.tmp 61), type := 0, pos := "law.go:52", after := #[{ on := 15, ground := Ground.data }, { on := 13, ground := Ground.data }, { on := 13, ground := Ground.chain }, { on := 0, ground := Ground.phase }, { on := 1, ground := Ground.phase }, { on := 2, ground := Ground.phase }, { on := 3, ground := Ground.phase }, { on := 4, ground := Ground.phase }, { on := 5, ground := Ground.phase }, { on := 6, ground := Ground.phase }, { on := 7, ground := Ground.phase }, { on := 8, ground := Ground.phase }, { on := 9, ground := Ground.phase }, { on := 10, ground := Ground.phase }, { on := 11, ground := Ground.phase }, { on := 12, ground := Ground.phase }, { on := 13, ground := Ground.phase }], guard := none }) rfl (fun K hK => ?_) ?_
                    · go_simp
                      try (go_wp2_with fail)
                      refine hK.out _ _ ?_ (fun hHeld => ?_)
                      · (try dsimp only); (repeat (first | assumption | apply Fr.drew | apply Fr.drewN | apply Fr.alloc | (refine Fr.step ?_ (by assumption)) | (refine Fr.trans ?_ (by assumption))))
                      clear hK K
                      try simp only [Act.put, List.setIfInBounds_toArray, List.set_cons_zero, List.set_cons_succ]
                      refine wpAnyH_done (by kernel_rfl) ?_ _
                      have hbp := hb4.1.ext ((Ext.refl w4).alloc (.cells #[.bool pk, .slice Ak nk ck, .bool pk', .slice Ak' nk' ck'] 58))
                      rw [HXK.out] at hbp
                      have hOM : OwnQ y6 V.heap.size (.slice A6 (k + 1) d6) (k + 1) (yq x) := ⟨_, o6, At.push oX.1 rX r6 hbp⟩
                      have hOF : OwnQ (y6.setCell ⟨tb, 5, none⟩ (.slice A6 (k + 1) d6)) V.heap.size (.slice A6 (k + 1) d6) (k + 1) (yq x) := hOM.fr ((Fr.refl (fun g => g = tb) y6).set (p := ⟨tb, 5, none⟩) rfl (fun z => by rw [c6]; intro e; cases e) _) (fun g hg e => by obtain ⟨-, -, cur, hcur⟩ := o6.lt hg; exact row_ne tb6 hcur (by decide) e.symm)
                      have hBF : Box _ tb 79 (NodeC x.var x.fl none none x.em A6 (k + 1) d6) := tb6.set 5 (.slice A6 (k + 1) d6)
                      have hXF : Ext V (y6.setCell ⟨tb, 5, none⟩ (.slice A6 (k + 1) d6)) := (r6.ext (hx.trans hza) (fun g hg => (oX.lt hg).1)).set (p := ⟨tb, 5, none⟩) hVt _
                      clear hOM
                      go_wp2_with fail
                      go_roundw
                      case rel => exact ⟨k + 1, _, _, by omega, by go_num, hOF, hBF, hXF⟩
                      case measure => simp [intOf]; omega
                    exact AllReadyH.nil
                  exact AllReadyH.nil
                exact AllReadyH.nil
              exact AllReadyH.nil
            exact AllReadyH.nil
        · obtain rfl : k = N := by omega
          have hOR : RatsI wr V.heap.size wr.heap.size _ _ _ _ := hO.rats.inI (Nat.le_refl _)
          have hxr := hxV.trans hx
          have x0 : wr.cell? ⟨xb, 0, none⟩ = some (.int .i64 x.var) := XBr.cell 0
          have x5 : wr.cell? ⟨xb, 5, none⟩ = some (.bool x.kids) := XBr.cell 5
          obtain ⟨P, hP⟩ : ∃ P : Bool, P = (decide (x.var ≠ -1) || x.kids) := ⟨_, rfl⟩
          have HB1 : Hid (P = true → buildT (f + 1) (x :: r) = (.node x.var x.fl x.em k (yq x) (buildT f r).1 (buildT f (buildT f r).2).1, (buildT f (buildT f r).2).2)) := Lib.hid (fun h => by rw [HN.out]; exact buildT_in (hP.symm.trans h))
          have HB0 : Hid (P = false → buildT (f + 1) (x :: r) = (.node x.var x.fl x.em k (yq x) .nil .nil, r)) := Lib.hid (fun h => by rw [HN.out]; exact buildT_leaf (hP.symm.trans h))
          have HP := Lib.hid hP
          clear hP
          go_upto_region 13 with fail
          clear x3 x4
          go_cut [70] (fun v wx => v = .bool P ∧ wx = wr)
          case first =>
            by_cases hv : x.var = -1
            · have e6 : (x.var != -1) = false := by simp [hv]
              have HV : Hid (P = x.kids) := Lib.hid (by rw [HP.out, hv]; simp)
              clear hv
              go_wp2_with fail
              go_meet
              exact ⟨by rw [HV.out], rfl⟩
            · have e6 : (x.var != -1) = true := by simp [hv]
              have HV : Hid (P = true) := Lib.hid (by rw [HP.out]; simp [hv])
              clear hv
              go_wp2_with fail
              go_meet
              exact ⟨by rw [HV.out], rfl⟩
          case rest =>
            clear x0 x5
            rename_i hK
            obtain ⟨rfl, hwx⟩ := hcut
            refine hK _ _ ?_
            clear hK
            subst hwx
            have htw : w.heap.size ≤ tb := by omega
            cases P with
            | false =>
              go_wp2_with fail
              refine bodyPost_ret (v := .tuple #[.pointer (some ⟨tb, 0, none⟩), .slice AR NR CR]) (by simp [results, Tryz.results31, go_sem]) rfl ?_
              rw [HB0.out (by first | rfl | trivial)]
              exact ⟨_, _, rfl, ⟨tb, none, none, A1, c1, _, _, rfl, htw, TB.lt, TB, hOR.up hwV (Nat.le_refl _), ⟨rfl, Nat.le_refl _⟩, ⟨rfl, Nat.le_refl _⟩⟩, hvR, hxr⟩
            | true =>
              have hcall := ih r (d + 1) (.slice AR NR CR) w0 wc (by omega) (hE0.trans hxr) hvR HOK.out
              rw [show ((d + 1 : Nat) : Int) = (d : Int) + 1 by omega] at hcall
              have htc : tb < wc.heap.size := TB.lt
              go_wp2_with fail
              refine hcall.mono ?_
              rintro e w5 ⟨A5, v5, rfl, hT5, hv5, hx5⟩
              clear hcall
              obtain ⟨A5', c5', rfl, -⟩ := id hv5
              obtain ⟨n5, hn5⟩ : ∃ n, n = (buildT f r).2.length := ⟨_, rfl⟩
              rw [← hn5] at hv5 ⊢
              clear hn5
              have TB5 := TB.ext hx5
              have t2 : w5.cell? ⟨tb, 2, none⟩ = some (.pointer none) := TB5.cell 2
              have z2 := TB5.frozen 2
              have kF5 : Fr (fun g => g = tb) w5 (w5.setCell ⟨tb, 2, none⟩ (.pointer A5)) := (Fr.refl (fun g => g = tb) w5).set (p := ⟨tb, 2, none⟩) rfl (fun z => by rw [t2]; intro e; cases e) _
              have hT6 := hT5.fr kF5 (fun b hb _ e => by omega)
              have TB6 : Box (w5.setCell ⟨tb, 2, none⟩ (.pointer A5)) tb 79 (NodeC x.var x.fl A5 none x.em A1 k c1) := TB5.set 2 (.pointer A5)
              have hOR6 : RatsI (w5.setCell ⟨tb, 2, none⟩ (.pointer A5)) _ _ _ _ _ _ := ⟨(hOR.1.ext hx5).far (i := 2) TB5 (by decide) (fun z e => by cases e) (.pointer A5), hOR.2⟩
              have hs56 : (w5.setCell ⟨tb, 2, none⟩ (.pointer A5)).heap.size = w5.heap.size := by simp [World.setCell]
              have hx6 : Ext w (w5.setCell ⟨tb, 2, none⟩ (.pointer A5)) := (hxr.trans hx5).set (p := ⟨tb, 2, none⟩) htw _
              go_upto_region 15 with fail
              generalize (w5.setCell ⟨tb, 2, none⟩ (.pointer A5)) = W6 at *
              have hws6 : wc.heap.size ≤ W6.heap.size := Nat.le_trans hx5.size kF5.size
              clear t2 z2 kF5 TB5 hT5
              have hcall := ih (buildT f r).2 (d + 1) (.slice A5' n5 c5') w0 W6 (by omega) (hE0.trans hx6) hv5 (fun y hy => HOK.out y (buildT_sub f r y hy))
              rw [show ((d + 1 : Nat) : Int) = (d : Int) + 1 by omega] at hcall
              go_wp2_with fail
              refine hcall.mono ?_
              rintro e w7 ⟨A7, v7, rfl, hT7, hv7, hx7⟩
              clear hcall
              obtain ⟨A7', c7', rfl, -⟩ := id hv7
              obtain ⟨n7, hn7⟩ : ∃ n, n = (buildT f (buildT f r).2).2.length := ⟨_, rfl⟩
              rw [← hn7] at hv7 ⊢
              clear hn7
              have TB7 := TB6.ext hx7
              have t3 : w7.cell? ⟨tb, 3, none⟩ = some (.pointer none) := TB7.cell 3
              have z3 := TB7.frozen 3
              have kF7 : Fr (fun g => g = tb) w7 (w7.setCell ⟨tb, 3, none⟩ (.pointer A7)) := (Fr.refl (fun g => g = tb) w7).set (p := ⟨tb, 3, none⟩) rfl (fun z => by rw [t3]; intro e; cases e) _
              have hT8 := (hT6.ext hx7).fr kF7 (fun b hb _ e => by omega)
              have hT9 := hT7.fr kF7 (fun b hb _ e => by omega)
              have TB8 : Box (w7.setCell ⟨tb, 3, none⟩ (.pointer A7)) tb 79 (NodeC x.var x.fl A5 A7 x.em A1 k c1) := TB7.set 3 (.pointer A7)
              have hOR8 : RatsI (w7.setCell ⟨tb, 3, none⟩ (.pointer A7)) _ _ _ _ _ _ := ⟨(hOR6.1.ext hx7).far (i := 3) TB7 (by decide) (fun z e => by cases e) (.pointer A7), hOR6.2⟩
              have hs78 : (w7.setCell ⟨tb, 3, none⟩ (.pointer A7)).heap.size = w7.heap.size := by simp [World.setCell]
              have hx8 : Ext w (w7.setCell ⟨tb, 3, none⟩ (.pointer A7)) := (hx6.trans hx7).set (p := ⟨tb, 3, none⟩) htw _
              go_upto_region 16 with fail
              generalize (w7.setCell ⟨tb, 3, none⟩ (.pointer A7)) = W8 at *
              clear t3 z3 kF7
              have hwc : w.heap.size ≤ wc.heap.size := hxr.size
              go_wp2_with fail
              refine bodyPost_ret (v := .tuple #[.pointer (some ⟨tb, 0, none⟩), .slice A7' n7 c7']) (by simp [results, Tryz.results31, go_sem]) rfl ?_
              rw [HB1.out (by first | rfl | trivial)]
              exact ⟨_, _, rfl, ⟨tb, A5, A7, A1, c1, _, _, rfl, htw, htc, TB8, hOR8.up hwV (Nat.le_refl _), hT8.up (Nat.le_refl _) (by omega), hT9.up (Nat.le_refl _) (by omega)⟩, hv7, hx8⟩
end Go.Proofs.YtljncdcjkdgkeaaGreatDoor.Lp

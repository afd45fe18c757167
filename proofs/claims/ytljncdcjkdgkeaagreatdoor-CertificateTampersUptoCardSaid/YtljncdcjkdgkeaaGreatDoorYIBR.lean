/- Walk: Branch of ilp. Walk: copied, of any tree. Plain: the steps of a search; what a node's call leaves. What stays when a node's cell is written. Walks: whole, small of ilp. For the walk -/
import Derived.Test.YtljncdcjkdgkeaaGreatDoorYIX
import Derived.Test.YtljncdcjkdgkeaaGreatDoorYCardU
import Derived.WalkLawsBesides
import Derived.Test.YtljncdcjkdgkeaaGreatDoorYT4
import Derived.Test.YtljncdcjkdgkeaaGreatDoorYW17
set_option linter.unusedVariables false
set_option linter.unusedSimpArgs false
namespace Go.Proofs.YtljncdcjkdgkeaaGreatDoor.Lp
open Go.RowKit Go.Proofs.YtljncdcjkdgkeaaGreatDoor.Big Go.Proofs.YtljncdcjkdgkeaaGreatDoor.Rt
theorem qpn {w : World} {A : Option Addr} {n c : Nat} {f : Nat → Rat} (h : q94 w A n c f) :
 ∃ xs : List Value, xs.length = n * 4 ∧ (0 < n → ∃ ad, A = some ad ∧ ∀ j y, xs[j]? = some y → w.cell? (ad.add j) = some y) ∧ (∀ y ∈ xs, y.oneCell' = true) ∧ (∀ y ∈ xs, noU y = true) ∧ ∀ j, j < n → At w xs.toArray (j * 4) (f j) := by
 rcases Nat.eq_zero_or_pos n with hn | hn
 ·exact ⟨[], by simp [hn], fun h => absurd h (by omega), by simp, by simp, fun j hj => absurd hj (by omega)⟩
 ·obtain ⟨b, rfl, hr⟩ := h.2.2 hn
  obtain ⟨xs, h1, h2, h3, h4, h5⟩ := qyk (w := w) (b := b) (off := 0) (L := n * 4) (fun i hi => by
   obtain ⟨p, A, m, c, p', A', m', c', g0, g1, g2, g3, -⟩ := hr.at (j := i / 4) (by omega)
   rcases (show i % 4 = 0 ∨ i % 4 = 1 ∨ i % 4 = 2 ∨ i % 4 = 3 by omega) with q | q | q | q
   ·exact ⟨_, by rw [show 0 + i = i / 4 * 4 by omega]; exact g0, rfl, rfl⟩
   ·exact ⟨_, by rw [show 0 + i = i / 4 * 4 + 1 by omega]; exact g1, rfl, rfl⟩
   ·exact ⟨_, by rw [show 0 + i = i / 4 * 4 + 2 by omega]; exact g2, rfl, rfl⟩
   ·exact ⟨_, by rw [show 0 + i = i / 4 * 4 + 3 by omega]; exact g3, rfl, rfl⟩)
  refine ⟨xs, h1, fun _ => ⟨_, rfl, h3⟩, h4, h5, fun j hj => ?_⟩
  obtain ⟨p, A, m, c, p', A', m', c', g0, g1, g2, g3, g4⟩ := hr.at hj
  have key : ∀ i, i < n * 4 → xs.toArray[i]? = w.cell? ⟨b, i, none⟩ := fun i hi => by
   have := h2 i hi
   rw [Nat.zero_add] at this
   simpa using this
  exact ⟨p, A, m, c, p', A', m', c', (key _ (by omega)).trans g0, (key _ (by omega)).trans g1, (key _ (by omega)).trans g2, (key _ (by omega)).trans g3, g4⟩
theorem zRat : ∀ u ∈ (Value.agg #[.bool false, .slice none 0 0, .bool false, .slice none 0 0]).cells.toList, noU u = true := fun u hu => by
 have : u = .bool false ∨ u = .slice none 0 0 := by
  simp [Value.cells] at hu
  rcases hu with h | h | h | h <;> simp [h]
 rcases this with rfl | rfl <;> rfl
theorem q7v {w : World} {o : Oper} {a : Act} {K : Act → World → Prop} {Q : Exit → Act → World → Prop} (s x : Operand) (hop : o.op = Op.call { callee := Callee.builtin Builtin.append, args := #[s, x], argTypes := #[38, 38] })
 (A : Option Addr) (n c : Nat) (f : Nat → Rat) (hs : a.eval s = .slice none 0 0) (hx : a.eval x = .slice A n c) (hr : q94 w A n c f) (hn : n ≤ 1000000)
 (hK : ∀ A' c' w', q94 w' A' n c' f → Ext w w' → K (a.put o.dst (.slice A' n c')) w') : Oper.wp Tryz.prog o a w K Q := by
 obtain ⟨i, hi, hz0, hz1, hz2⟩ := info_parts qde
 obtain ⟨xs, h1, h2, h3, h4, h5⟩ := qpn hr
 refine q0s s x 38 hop w.heap.size 58 i _ 4 64 Tryz.underlying38 hi hz0 hz1 hz2 rfl zRat _ 0 [] hs (OwnX.nil _ _ _ _) A n xs c hx h1 h2 h3 h4 (by omega) (by decide) (Nat.le_refl _) (fun v' w' o1 r _ => ?_)
 rw [Nat.zero_add, List.nil_append] at o1
 have hE : Ext w w' := r.ext (Ext.refl w) (fun g hg => by cases hg)
 obtain ⟨A', c', rfl⟩ := o1.shape
 have hq : OwnQ w' w.heap.size (.slice A' n c') n f := ⟨xs, o1, fun j hj => (h5 j hj).fr (P := fun _ => False) (Fr.of hE)⟩
 exact hK A' c' w' hq.rats.rats hE
theorem qif {w : World} {ops : Array Oper} {rest : List Oper} {o : Oper} {a : Act} {Q : Exit → Act → World → Prop} (hg : o.guard = none) (s x : Operand) (hop : o.op = Op.call { callee := Callee.builtin Builtin.append, args := #[s, x], argTypes := #[38, 38] })
 (A : Option Addr) (n c : Nat) (f : Nat → Rat) (hs : a.eval s = .slice none 0 0) (hx : a.eval x = .slice A n c) (hr : q94 w A n c f) (hn : n ≤ 1000000)
 (hK : ∀ A' c' w', q94 w' A' n c' f → Ext w w' → wpList Tryz.prog ops Q rest (a.put o.dst (.slice A' n c')) w') : wpList Tryz.prog ops Q (o :: rest) a w :=
 wpList_plain hg fun _ hK' => q7v s x hop A n c f hs hx hr hn (fun A' c' w' h1 h2 => hK' _ _ (hK A' c' w' h1 h2))
theorem qlo {w : World} {ops : Array Oper} {o : Oper} {a : Act} {K : Act → World → Prop} {Q : Exit → Act → World → Prop} {Z : Prop} (hg : o.guard = none) (s x : Operand) (hop : o.op = Op.call { callee := Callee.builtin Builtin.append, args := #[s, x], argTypes := #[38, 38] })
 (A : Option Addr) (n c : Nat) (f : Nat → Rat) (hs : a.eval s = .slice none 0 0) (hx : a.eval x = .slice A n c) (hr : q94 w A n c f) (hn : n ≤ 1000000)
 (hK : ∀ A' c' w', q94 w' A' n c' f → Ext w w' → K (a.put o.dst (.slice A' n c')) w') : if Region.wanted o (yielded ops a.tmps) = true then Oper.wp Tryz.prog o a w K Q else Z := by
 have hw : Region.wanted o (yielded ops a.tmps) = true := by simp [Region.wanted, hg]
 rw [if_pos hw]
 exact q7v s x hop A n c f hs hx hr hn hK
theorem prows_set {w : World} {g k c' : Nat} {cs : Array Value} {rows : List RL} {r : RL} {A' : Option Addr} (hB : Box w g 75 cs) (hM : rows.length * 6 ≤ cs.size) (hP : q5k w (fun i => cs[i]?) rows) (hk : rows[k]? = some r) (hr : q94 w A' r.coef.length c' (fun j => r.coef.getD j 0)) :
 Box (w.setCell ⟨g, k * 6, none⟩ (.slice A' r.coef.length c')) g 75 (cs.setIfInBounds (k * 6) (.slice A' r.coef.length c')) ∧
 q5k (w.setCell ⟨g, k * 6, none⟩ (.slice A' r.coef.length c')) (fun i => (cs.setIfInBounds (k * 6) (.slice A' r.coef.length c'))[i]?) rows ∧
 Fr (fun b => b = g) w (w.setCell ⟨g, k * 6, none⟩ (.slice A' r.coef.length c')) := by
 have hkl : k < rows.length := (List.getElem?_eq_some_iff.1 hk).1
 obtain ⟨A, c, x, B, d, e, y, B', d', e', g0, -⟩ := hP k r hk
 have g0' : cs[k * 6]? = some (.slice A r.coef.length c) := g0
 have hF : Fr (fun b => b = g) w (w.setCell ⟨g, k * 6, none⟩ (.slice A' r.coef.length c')) := (Fr.refl (fun b => b = g) w).set (p := ⟨g, k * 6, none⟩) (show g = g from rfl) (fun z => by
  rw [hB.cell (k * 6)]
  show cs[k * 6]? ≠ _
  rw [g0']; intro e; cases e) _
 have hno : ∀ b n f, RowR w b n f → ¬ b = g := fun b n f hR e => by
  subst e
  obtain ⟨cs', h, -⟩ := hR
  unfold Box at hB
  rw [hB] at h
  injection h with h
  injection h with h1 h2
  exact absurd h2 (by decide)
 refine ⟨hB.set _ _, fun j s hj => ?_, hF⟩
 have hjl : j < rows.length := (List.getElem?_eq_some_iff.1 hj).1
 have hX := (hP j s hj).fr hF hno
 by_cases e : j = k
 ·subst e
  rw [hk] at hj
  injection hj with hj
  subst hj
  obtain ⟨A1, c1, x, B, d, e, y, B', d', e', h0, h1, h2, h3, h4, h5, h6, h7, h8⟩ := hX
  have ho : ∀ i, 0 < i → (cs.setIfInBounds (j * 6) (.slice A' r.coef.length c'))[j * 6 + i]? = cs[j * 6 + i]? := fun i hi => by
   rw [Array.getElem?_setIfInBounds_ne (by omega)]
  refine ⟨A', c', x, B, d, e, y, B', d', e', ?_, (ho 1 (by omega)).trans h1, (ho 2 (by omega)).trans h2, (ho 3 (by omega)).trans h3, (ho 4 (by omega)).trans h4, (ho 5 (by omega)).trans h5, h6, hr.fr hF hno, h8⟩
  show (cs.setIfInBounds (j * 6) (.slice A' r.coef.length c'))[j * 6]? = _
  rw [Array.getElem?_setIfInBounds_self_of_lt (by omega)]
 ·refine hX.X fun i hi u hu => ?_
  show (cs.setIfInBounds (k * 6) (.slice A' r.coef.length c'))[j * 6 + i]? = some u
  rw [Array.getElem?_setIfInBounds_ne (by omega)]
  exact hu
theorem qbh {w : World} {obj : List Rat} {rows : List RL} {cs : Array Value} {Ao : Option Addr} {co g c : Nat} (hB : Box w g 75 cs) (h : q5k w (fun i => cs[i]?) rows) (ho : q94 w Ao obj.length co (fun j => obj.getD j 0)) (hc : rows.length ≤ c) (hc2 : c ≤ 9223372036854775807) :
 qga w (.agg #[.slice Ao obj.length co, .slice (some ⟨g, 0, none⟩) rows.length c]) (⟨obj, rows⟩ : PL).toP := by
 have h8 : ∀ i u, cs[i]? = some u → w.cell? ⟨g, i, none⟩ = some u := fun i u hu => (hB.cell i).trans hu
 refine ⟨Ao, co, _, c, rfl, ho, hc, hc2, fun hm => ⟨g, rfl, fun i hi => ?_⟩⟩
 have hi' : i < rows.length := hi
 obtain ⟨A', c', x, B, d, e, y, B', d', e', g0, g1, g2, g3, g4, g5, h6, h7, h8'⟩ := h i rows[i] (List.getElem?_eq_getElem hi')
 have hrw : (⟨obj, rows⟩ : PL).rows.getD i RL.zero = rows[i] := by
  show rows.getD i RL.zero = rows[i]
  rw [List.getD_eq_getElem?_getD, List.getElem?_eq_getElem hi']; rfl
 refine ⟨A', c', x, B, d, e, y, B', d', e', ?_, ?_, h8 _ _ g2, h8 _ _ g3, h8 _ _ g4, h8 _ _ g5, ?_, ?_, ?_⟩
 ·show _ = some (Value.slice A' ((⟨obj, rows⟩ : PL).rows.getD i RL.zero).coef.length c'); rw [hrw]; exact h8 _ _ g0
 ·show _ = some (Value.int .u8 (((⟨obj, rows⟩ : PL).rows.getD i RL.zero).rel : Int)); rw [hrw]; exact h8 _ _ g1
 ·show q94 w A' ((⟨obj, rows⟩ : PL).rows.getD i RL.zero).coef.length c' (fun j => ((⟨obj, rows⟩ : PL).rows.getD i RL.zero).coef.getD j 0); rw [hrw]; exact h7
 ·show ((⟨obj, rows⟩ : PL).rows.getD i RL.zero).rel ≤ 255; rw [hrw]; exact h6
 ·show RatV w _ ((⟨obj, rows⟩ : PL).rows.getD i RL.zero).right; rw [hrw]; exact h8'
theorem Box.norow {w : World} {g : Nat} {E : TypeId} {cs : Array Value} (hB : Box w g E cs) (hE : E ≠ 58) : ∀ b n f, RowR w b n f → ¬ b = g := fun b n f hR e => by
 subst e
 obtain ⟨cs', h, -⟩ := hR
 unfold Box at hB
 rw [hB] at h
 injection h with h
 injection h with h1 h2
 exact hE h2
theorem Prob.toL_coef {p : Prob} (h : ∀ i, i < p.m → p.len i = p.n) {v : Nat} {f : Int} {b : Bool} : ∀ r ∈ p.toL.rows ++ [qgh p.n v f b], r.coef.length = p.n := fun r hr => by
 rcases List.mem_append.1 hr with hr | hr
 ·have hr : r ∈ (List.range p.m).map _ := hr
  obtain ⟨i, hi, rfl⟩ := List.mem_map.1 hr
  show ((List.range (p.len i)).map _).length = p.n
  rw [List.length_map, List.length_range, h i (List.mem_range.1 hi)]
 ·obtain rfl := List.mem_singleton.1 hr
  show ((List.range p.n).map _).length = p.n
  simp
def qxj (p : Prob) (v : Nat) (f : Int) (b : Bool) (w : World) (e : Ending) (w' : World) : Prop := ∃ y, e = .returned y ∧ qga w' y (p.side v f b) ∧ Ext w w'
set_option maxHeartbeats 2000000 in
set_option maxRecDepth 100000 in
theorem q8j (x : Value) (p : Prob) (v : Nat) (f : Int) (b : Bool) (w : World) (hx : qga w x p) (hval : qba p = true) (hv : v < p.n) (hf : fit f = true) : Calls Tryz.prog 59 #[x, .int .i64 (v : Int), .int .i64 f, .bool b] w (qxj p v f b w) := by
 obtain ⟨Ao, co, Ar, cr, rfl, -⟩ := id hx
 have hp := validB_iff.1 hval
 have hnb := hp.2.1
 have hmb := hp.2.2.1
 have HLEN : Hid (∀ r ∈ p.toL.rows ++ [qgh p.n v f b], r.coef.length = p.n) := Lib.hid (Prob.toL_coef (fun i hi => (hp.2.2.2 i hi).1))
 clear hp
 obtain ⟨PB, QB0, hE0⟩ := qc5 w 41 #[.slice Ao p.n co, .slice Ar p.m cr] #[.slice none 0 0, .slice none 0 0]
 go_enter Tryz.func59, Tryz.ntmps59
 go_upto_region 1 with fail
 generalize ((w.alloc (.cells #[.slice Ao p.n co, .slice Ar p.m cr] 41)).alloc (.cells #[.slice none 0 0, .slice none 0 0] 41)) = V0 at *
 obtain ⟨qb, hqb⟩ : ∃ x, x = w.heap.size + 1 := ⟨_, rfl⟩
 obtain ⟨pb, hpb⟩ : ∃ x, x = w.heap.size := ⟨_, rfl⟩
 rw [← hqb] at QB0 ⊢
 rw [← hpb] at PB ⊢
 have hqs : w.heap.size ≤ qb := by omega
 clear hqb hpb
 have c0 := PB.c0
 have c1 := PB.c1
 go_wp2_with fail
 refine (q72 _ p _ (hx.ext hE0)).mono ?_
 rintro e w1 ⟨rfl, hx1⟩
 rw [hval]
 have PB := PB.ext hx1
 have QB1 := QB0.ext hx1
 have hE1 := hE0.trans hx1
 have hX1 := hx.ext hE1
 clear c0 c1 hx1 QB0 hE0 hx
 have c0 := PB.c0
 have c1 := PB.c1
 have i1 : decide ((v : Int) < 0) = false := by simp
 have i2 : decide (p.n ≤ v) = false := by simp; omega
 go_wp2_with fail
 refine (qky _ p v f b _ hX1 hv (by omega) (by omega) hf).mono ?_
 rintro e w2 ⟨A1, d1, A2, d2, xs, rfl, hob, hown, hrows, hx2⟩
 obtain ⟨l1, l2⟩ := p.toL_len
 obtain ⟨rows, hrw⟩ : ∃ r, r = p.toL.rows ++ [qgh p.n v f b] := ⟨_, rfl⟩
 have hlen : rows.length = p.m + 1 := by rw [hrw, List.length_append, l1]; rfl
 have HRW := Lib.hid hrw
 rw [← hrw] at hrows
 obtain ⟨M, hM⟩ : ∃ M, M = p.m + 1 := ⟨_, rfl⟩
 rw [← hM] at hown hlen ⊢
 have hM1 : 1 ≤ M := by omega
 have HM := Lib.hid hM
 clear hM
 obtain ⟨g, cap, e2, -, hg, h3, h4, ⟨cs, hB, hcs⟩, -, h8⟩ := hown.cells (by omega)
 injection e2 with e2 _ e3
 subst e2 e3
 have hcs2 : q5k w2 (fun i => cs[i]?) rows := fun j r hj => (hrows j r hj).X fun i hi u hu => by
  have := h8 _ _ hu
  rw [Box.cell (E := 75) hB] at this
  exact this
 have hB : Box w2 g 75 cs := hB
 clear i1 i2 hrows hown h8 c0 c1 PB hX1 hrw
 have QB2 := QB1.ext hx2
 have hE2 := hE1.trans hx2
 have hgw : w.heap.size ≤ g := Nat.le_trans hE1.size hg
 have hgq : g ≠ qb := by have := QB1.lt; omega
 clear hx2 hE1 QB1 hg
 go_upto_region 4 with fail
 have SB := Box.new w2 41 #[.slice A1 p.n d1, .slice (some ⟨g, 0, none⟩) M d2]
 have hx3 : Ext w2 (w2.alloc (.cells #[.slice A1 p.n d1, .slice (some ⟨g, 0, none⟩) M d2] 41)) := (Ext.refl w2).alloc _
 generalize (w2.alloc (.cells #[.slice A1 p.n d1, .slice (some ⟨g, 0, none⟩) M d2] 41)) = V3 at *
 obtain ⟨sb, hsb⟩ : ∃ x, x = w2.heap.size := ⟨_, rfl⟩
 have hgs : g ≠ sb := by have := hB.lt; omega
 have hws : w.heap.size ≤ sb := by rw [hsb]; exact hE2.size
 have hqn : qb ≠ sb := by have := QB2.lt; omega
 rw [← hsb] at SB ⊢
 clear hsb
 have hob := hob.ext hx3
 have hB := hB.ext hx3
 have hcs2 := hcs2.ext hx3
 have QB3 := QB2.ext hx3
 have hE3 := hE2.trans hx3
 clear hx3 hE2 QB2
 have s0 := SB.c0
 have z0 := SB.frozen 0
 go_upto_region 5 with (at_builtin; refine qif rfl _ _ rfl A1 p.n d1 p.obj rfl rfl hob (by omega) ?_; intro A4 c4 w4 hob4 hx4; have s0 := hx4.cell s0; have z0 := (SB.ext hx4).frozen 0)
 have hF4 : Fr (fun b => b = sb) w4 (w4.setCell ⟨sb, 0, none⟩ (.slice A4 p.n c4)) := (Fr.refl (fun b => b = sb) w4).set (p := ⟨sb, 0, none⟩) (show sb = sb from rfl) (fun z => by rw [s0]; intro e; cases e) _
 have hno := Box.norow (E := 41) (SB.ext hx4) (by decide)
 have SB4 : Box (w4.setCell ⟨sb, 0, none⟩ (.slice A4 p.n c4)) sb 41 #[.slice A4 p.n c4, .slice (some ⟨g, 0, none⟩) M d2] := (SB.ext hx4).set 0 _
 have hB4 := (hB.ext hx4).far (p := ⟨sb, 0, none⟩) hgs (.slice A4 p.n c4)
 have QB4 := (QB3.ext hx4).far (p := ⟨sb, 0, none⟩) hqn (.slice A4 p.n c4)
 have hob5 := hob4.fr hF4 hno
 have hcs4 := (hcs2.ext hx4).fr hF4 hno
 have hE4 := (hE3.trans hx4).set (p := ⟨sb, 0, none⟩) hws (.slice A4 p.n c4)
 generalize (w4.setCell ⟨sb, 0, none⟩ (.slice A4 p.n c4)) = V5 at *
 have s1 := SB4.c1
 clear hF4 hno s0 z0 SB QB3 hob hcs2 hE3 hB hob4 hx4
 go_wp2_with fail
 clear s1
 go_loopw [38] (fun i wr => ∃ k : Nat, k ≤ M ∧ i = .int .i64 k ∧ (∃ cs : Array Value, M * 6 ≤ cs.size ∧ Box wr g 75 cs ∧ q5k wr (fun i => cs[i]?) rows) ∧ Box wr sb 41 #[.slice A4 p.n c4, .slice (some ⟨g, 0, none⟩) M d2] ∧ Box wr qb 41 #[.slice none 0 0, .slice none 0 0] ∧ q94 wr A4 p.n c4 p.obj ∧ Ext w wr) (fun i _ => M - (intOf i).toNat)
 case atStart => exact ⟨0, by omega, rfl, ⟨cs, hcs, hB4, hcs4⟩, SB4, QB4, hob5, hE4⟩
 case round =>
  clear hcs hcs4 hB4 SB4 QB4 hob5 hE4
  obtain ⟨k, hk, rfl, ⟨cs2, hcs, hBr, hPr⟩, SBr, QBr, hobr, hxr⟩ := hrel
  by_cases hlt : k < M
  ·obtain ⟨r, hrk⟩ : ∃ r, rows[k]? = some r := ⟨_, List.getElem?_eq_getElem (by omega)⟩
   have HRK := Lib.hid hrk
   obtain ⟨A, c, x, B, d, e, y, B', d', e', g0, -, -, -, -, -, -, hrc, -⟩ := hPr k r hrk
   have hcc := hrc.1
   have hcl : r.coef.length ≤ 1000 := by
    rw [HLEN.out r (by rw [← HRW.out]; exact List.mem_of_getElem? hrk)]; exact hnb
   have g0 : wr.cell? ⟨g, k * 6, none⟩ = some (.slice A r.coef.length c) := (hBr.cell _).trans g0
   have s1 := SBr.c1
   have i1 : (0 : Int) ≤ (k : Int) := by omega
   have i2 : (k : Int) < (M : Int) := by omega
   clear hrk
   go_upto_region 8 with fail
   go_region_law (first
    | ((refine qlo rfl (.const (.slice none 0 0)) (.tmp 49) rfl A r.coef.length c (fun j => r.coef.getD j 0) rfl rfl (q94.ext hrc eBx) (by omega) ?_); intro A7 c7 y7 h7 x7; (have hx7 : Ext wr y7 := Ext.trans eBx x7); (have s1 := hx7.cell s1); (have g0 := hx7.cell g0); (have zg := (hBr.ext hx7).frozen (k * 6)))
    )
   all_goals (
    obtain ⟨b1, b2, b3⟩ := prows_set (hBr.ext hx7) (by rw [hlen]; exact hcs) (hPr.ext hx7) HRK.out h7
    have hno : ∀ b n f, RowR y7 b n f → ¬ b = g := Box.norow (E := 75) (hBr.ext hx7) (by decide)
    have SB8 := (SBr.ext hx7).far (p := ⟨g, k * 6, none⟩) (Ne.symm hgs) (.slice A7 r.coef.length c7)
    have QB8 := (QBr.ext hx7).far (p := ⟨g, k * 6, none⟩) (Ne.symm hgq) (.slice A7 r.coef.length c7)
    have hob8 := (hobr.ext hx7).fr b3 hno
    have hx8 := (hxr.trans hx7).set (p := ⟨g, k * 6, none⟩) hgw (.slice A7 r.coef.length c7)
    go_wp2_with fail
    go_roundw
    case rel => exact ⟨k + 1, by omega, by go_num, ⟨_, by rw [Array.size_setIfInBounds]; exact hcs, b1, b2⟩, SB8, QB8, hob8, hx8⟩
    case measure => simp [intOf]; omega)
  ·obtain rfl : k = M := by omega
   have hF : Fr (fun b => b = qb) wr ((wr.setCell ⟨qb, 0, none⟩ (.slice A4 p.n c4)).setCell ⟨qb, 1, none⟩ (.slice (some ⟨g, 0, none⟩) k d2)) :=
    ((Fr.refl (fun b => b = qb) wr).set (p := ⟨qb, 0, none⟩) (show qb = qb from rfl) (fun z => by rw [QBr.c0]; intro e; cases e) _).set (p := ⟨qb, 1, none⟩) (show qb = qb from rfl) (fun z => by rw [(QBr.set 0 (.slice A4 p.n c4)).cell 1]; intro e; cases e) _
   have hno : ∀ b n f, RowR wr b n f → ¬ b = qb := Box.norow (E := 41) QBr (by decide)
   have QBe := (QBr.set 0 (.slice A4 p.n c4)).set 1 (.slice (some ⟨g, 0, none⟩) k d2)
   have e0 := QBe.c0
   have e1 := QBe.c1
   have s0 := SBr.c0
   have s1 := SBr.c1
   have q0 := QBr.c0
   have q1 := QBr.c1
   have z0 := QBr.frozen 0
   have z1 := QBr.frozen 1
   have hPr2 := hPr.fr hF hno
   have hob2 := hobr.fr hF hno
   have hB2 := hF.box hBr hgq
   have hx2 := (hxr.set (p := ⟨qb, 0, none⟩) hqs (.slice A4 p.n c4)).set (p := ⟨qb, 1, none⟩) hqs (.slice (some ⟨g, 0, none⟩) k d2)
   have hpv := qbh (obj := p.toL.obj) (Ao := A4) (co := c4) hB2 hPr2 (by rw [l2]; exact hob2.congr (fun j hj => (qnl _ _ hj).symm)) (by rw [hlen]; exact h3) h4
   rw [l2, hlen, HRW.out] at hpv
   have hpv := qga.side hpv
   clear hF hno hPr2 hob2 hB2 hcs hBr hPr hobr QBe
   go_wp2_with fail
   refine bodyPost_ret (v := .agg #[.slice A4 p.n c4, .slice (some ⟨g, 0, none⟩) k d2]) (by simp [results, Tryz.results59, go_sem, e0, e1]) rfl ?_
   exact ⟨_, rfl, hpv, hx2⟩
def qse (w : World) : CT → Option Addr → Prop
 | .nil, A => A = none
 | .node vr fl em n y lo hi, A => ∃ k L H Y c, A = some ⟨k, 0, none⟩ ∧ Box w k 79 (q89 vr fl L H em Y n c) ∧ q94 w Y n c y ∧ qse w lo L ∧ qse w hi H
theorem qse.ext {w w' : World} : ∀ {t : CT} {A : Option Addr}, qse w t A → Ext w w' → qse w' t A
 | .nil, _, h, _ => h
 | .node .., _, h, k => by
   obtain ⟨b, L, H, Y, c, e, B, hY, hl, hh⟩ := h
   exact ⟨b, L, H, Y, c, e, B.ext k, hY.ext k, hl.ext k, hh.ext k⟩
theorem OwnX.emptyC {w : World} {base g : Nat} (hB : Box w g 58 #[]) (hb : base ≤ g) : OwnX w base 58 4 (.slice (some ⟨g, 0, none⟩) 0 0) 0 [] :=
 ⟨rfl, .inr ⟨g, 0, #[], rfl, hb, hB, Nat.le_refl _, by unfold maxLen; omega, rfl, rfl, fun u hu => by cases hu⟩⟩
def CT.okN : CT → Prop
 | .nil => True
 | .node _ _ _ n _ a b => n ≤ 1000 ∧ a.okN ∧ b.okN
def PNb (nb k : Nat) : Prop := k = nb
theorem qw6 {w : World} {ops : Array Oper} {rest : List Oper} {o : Oper} {a : Act} {Q : Exit → Act → World → Prop} (hg : o.guard = none) (s x : Operand) (hop : o.op = Op.call { callee := Callee.builtin Builtin.append, args := #[s, x], argTypes := #[38, 38] })
 (g base : Nat) (A : Option Addr) (n c : Nat) (f : Nat → Rat) (hs : a.eval s = .slice (some ⟨g, 0, none⟩) 0 0) (hB : Box w g 58 #[]) (hbg : base ≤ g) (hbw : base ≤ w.heap.size) (hx : a.eval x = .slice A n c) (hr : q94 w A n c f) (hn : n ≤ 1000000)
 (hK : ∀ A' c' w', qjq w' base A' n c' f → Fr (fun b => b = g) w w' → wpList Tryz.prog ops Q rest (a.put o.dst (.slice A' n c')) w') : wpList Tryz.prog ops Q (o :: rest) a w := by
 obtain ⟨i, hi, hz0, hz1, hz2⟩ := info_parts qde
 obtain ⟨xs, h1, h2, h3, h4, h5⟩ := qpn hr
 refine qwv hg s x 38 hop base 58 i _ 4 64 Tryz.underlying38 hi hz0 hz1 hz2 rfl zRat _ 0 [] hs (OwnX.emptyC hB hbg) A n xs c hx h1 h2 h3 h4 (by omega) (by decide) hbw (fun v' w' o1 r _ => ?_)
 rw [Nat.zero_add, List.nil_append] at o1
 have hF : Fr (fun b => b = g) w w' := r.weak (fun b hb => by
  have hb : some g = some b := hb
  exact (Option.some.inj hb).symm)
 obtain ⟨A', c', rfl⟩ := o1.shape
 have hq : OwnQ w' base (.slice A' n c') n f := ⟨xs, o1, fun j hj => (h5 j hj).fr hF⟩
 exact hK A' c' w' hq.rats hF
def qxa (t : CT) (w : World) (e : Ending) (w' : World) : Prop := ∃ A, e = .returned (.pointer A) ∧ qjd w' t A w.heap.size w'.heap.size ∧ Ext w w'
theorem q4i {w U wk wm : World} {nb n c : Nat} {vr fl : Int} {em : Bool} {L H Y A1 A2 : Option Addr} {y : Nat → Rat} {lo hi : CT} (NB : Box U nb 79 (q89 vr fl L H em Y n c)) (hwn : w.heap.size ≤ nb) (hO : qjq U w.heap.size Y n c y) (hE : Ext w U) (hEk : Ext U wk) (hkm : Ext wk wm)
 (hT1 : qjd wk lo A1 U.heap.size wk.heap.size) (hT2 : qjd wm hi A2 wk.heap.size wm.heap.size) :
 qxa (.node vr fl em n y lo hi) w (.returned (.pointer (some ⟨nb, 0, none⟩))) ((wm.setCell ⟨nb, 2, none⟩ (.pointer A1)).setCell ⟨nb, 3, none⟩ (.pointer A2)) := by
 have hEm := hEk.trans hkm
 have NBm := NB.ext hEm
 have NB2 := NBm.set 2 (.pointer A1)
 have NB3 := NB2.set 3 (.pointer A2)
 have hlt := NB.lt
 have t2 : wm.cell? ⟨nb, 2, none⟩ = some (.pointer L) := NBm.cell 2
 have t3 : (wm.setCell ⟨nb, 2, none⟩ (.pointer A1)).cell? ⟨nb, 3, none⟩ = some (.pointer H) := NB2.cell 3
 have hF : Fr (fun g => g = nb) wm ((wm.setCell ⟨nb, 2, none⟩ (.pointer A1)).setCell ⟨nb, 3, none⟩ (.pointer A2)) := ((Fr.refl (fun g => g = nb) wm).set (p := ⟨nb, 2, none⟩) rfl (fun z => by rw [t2]; intro e; cases e) _).set (p := ⟨nb, 3, none⟩) rfl (fun z => by rw [t3]; intro e; cases e) _
 have hs : ((wm.setCell ⟨nb, 2, none⟩ (.pointer A1)).setCell ⟨nb, 3, none⟩ (.pointer A2)).heap.size = wm.heap.size := by simp [World.setCell]
 have k1 := hEk.size
 have k2 := hkm.size
 have hI : qrr ((wm.setCell ⟨nb, 2, none⟩ (.pointer A1)).setCell ⟨nb, 3, none⟩ (.pointer A2)) w.heap.size U.heap.size Y n c y := by
  have h0 : qrr U w.heap.size U.heap.size Y n c y := hO.inI (Nat.le_refl _)
  exact ⟨((hO.ext hEm).far (i := 2) NBm (by decide) (fun z e => by cases e) (.pointer A1)).far (i := 3) NB2 (by decide) (fun z e => by cases e) (.pointer A2), h0.2⟩
 refine ⟨_, rfl, ⟨nb, A1, A2, Y, c, U.heap.size, wk.heap.size, rfl, hwn, hlt, NB3, hI, (hT1.ext hkm).fr hF (fun k g1 g2 e => by omega), (hT2.fr hF (fun k g1 g2 e => by omega)).up (Nat.le_refl _) (by omega)⟩, hF.ext (hE.trans hEm) (fun b hb => by rw [hb]; exact hwn)⟩
set_option maxHeartbeats 1000000 in
set_option maxRecDepth 100000 in
theorem copied_in (tb dpt n c : Nat) (vr fl : Int) (em : Bool) (L H Y : Option Addr) (y : Nat → Rat) (lo hi : CT) (w : World) (TB : Box w tb 79 (q89 vr fl L H em Y n c)) (hY : q94 w Y n c y) (hn : n ≤ 1000000) (hd : dpt ≤ 200)
 (H1 : ∀ W, Ext w W → Calls Tryz.prog 53 #[.pointer L, .int .i64 ((dpt : Int) + 1)] W (qxa lo W))
 (H2 : ∀ W, Ext w W → Calls Tryz.prog 53 #[.pointer H, .int .i64 ((dpt : Int) + 1)] W (qxa hi W)) :
 Calls Tryz.prog 53 #[.pointer (some ⟨tb, 0, none⟩), .int .i64 (dpt : Int)] w (qxa (.node vr fl em n y lo hi) w) := by
 have HH1 := Lib.hid H1
 have HH2 := Lib.hid H2
 clear H1 H2
 have hnl : ∀ W, (binOp BinOp.eql 25 (.pointer (some ⟨tb, 0, none⟩)) (.pointer none)).run Tryz.prog W = .ok (.bool false) W := fun _ => by kernel_rfl
 have e200 : decide ((200 : Int) < (dpt : Int)) = false := by simp; omega
 have r1 : IntKind.i64.wrap ((dpt : Int) + 1) = (dpt : Int) + 1 := IntWalk.i64_in _ (by omega)
 have t0 : w.cell? ⟨tb, 0, none⟩ = some (.int .i64 vr) := TB.cell 0
 have t1 : w.cell? ⟨tb, 1, none⟩ = some (.int .i64 fl) := TB.cell 1
 have t2 : w.cell? ⟨tb, 2, none⟩ = some (.pointer L) := TB.cell 2
 have t3 : w.cell? ⟨tb, 3, none⟩ = some (.pointer H) := TB.cell 3
 have t4 : w.cell? ⟨tb, 4, none⟩ = some (.bool em) := TB.cell 4
 have t5 : w.cell? ⟨tb, 5, none⟩ = some (.slice Y n c) := TB.cell 5
 have NB := Box.new w 79 (q89 vr fl L H em Y n c)
 have hE0 : Ext w (w.alloc (.cells (q89 vr fl L H em Y n c) 79)) := (Ext.refl w).alloc _
 unfold q89 at NB hE0
 go_enter Tryz.func53, Tryz.ntmps53
 go_upto_region 4 with fail
 generalize (w.alloc (.cells #[.int .i64 vr, .int .i64 fl, .pointer L, .pointer H, .bool em, .slice Y n c] 79)) = V at *
 obtain ⟨nb, hnb⟩ : ∃ x, x = w.heap.size := ⟨_, rfl⟩
 rw [← hnb] at NB ⊢
 have hwn : w.heap.size ≤ nb := by omega
 have htn : tb ≠ nb := by have := TB.lt; omega
 clear hnb t0 t1 t2 t3 t4 t5 hnl e200
 have TBV := TB.ext hE0
 have t5 : V.cell? ⟨tb, 5, none⟩ = some (.slice Y n c) := TBV.cell 5
 have EB := Box.new V 58 #[]
 have hx1 : Ext V (V.alloc (.cells #[] 58)) := (Ext.refl V).alloc _
 have t5' : (V.alloc (.cells #[] 58)).cell? ⟨tb, 5, none⟩ = some (.slice Y n c) := hx1.cell t5
 have hgw : w.heap.size ≤ V.heap.size := hE0.size
 have hYV := hY.ext (hE0.trans hx1)
 have hsz : (V.alloc (.cells #[] 58)).heap.size = V.heap.size + 1 := by simp
 have NBV := NB.ext hx1
 have hng : nb ≠ V.heap.size := by have := NB.lt; omega
 have t6 : V.cell? ⟨nb, 5, none⟩ = some (.slice Y n c) := NB.cell 5
 go_wp2_with (refine qw6 rfl (.tmp 15) (.tmp 19) rfl V.heap.size w.heap.size Y n c y rfl EB hgw (by omega) rfl hYV hn ?_; intro A2 c2 w2 hO2 hF2; have NB2 := hF2.box NBV hng; have u5 : w2.cell? ⟨nb, 5, none⟩ = some (.slice Y n c) := NB2.cell 5; have z5 := NB2.frozen 5)
 have NBU := NB2.set 5 (.slice A2 n c2)
 have hOU : qjq (w2.setCell ⟨nb, 5, none⟩ (.slice A2 n c2)) w.heap.size A2 n c2 y := hO2.far (i := 5) NB2 (by decide) (fun z e => by cases e) (.slice A2 n c2)
 have hEU : Ext w (w2.setCell ⟨nb, 5, none⟩ (.slice A2 n c2)) := (hF2.ext (hE0.trans hx1) (fun b hb => by rw [hb]; exact hgw)).set (p := ⟨nb, 5, none⟩) hwn _
 clear u5 z5 t5 t5' t6 hYV hO2
 generalize (w2.setCell ⟨nb, 5, none⟩ (.slice A2 n c2)) = U at *
 have NBU : Box U nb 79 (q89 vr fl L H em A2 n c2) := NBU
 clear hF2 NB2 EB hx1 hE0 NB TBV NBV hsz hng hgw
 have TBU := TB.ext hEU
 have k2 : ∀ w', Fr (PNb nb) U w' → w'.cell? ⟨tb, 2, none⟩ = some (.pointer L) := fun w' h => (h.box TBU htn).cell 2
 have k3 : ∀ w', Fr (PNb nb) U w' → w'.cell? ⟨tb, 3, none⟩ = some (.pointer H) := fun w' h => (h.box TBU htn).cell 3
 have ks := Fr.refl (PNb nb) U
 go_region_held3 (fun w' => Fr (PNb nb) U w') ((repeat (first | (with_reducible assumption) | (with_reducible apply Fr.drew) | (with_reducible apply Fr.drewN)))) (first
  | (go_at_call 53; (with_reducible refine (HH1.out _ (Ext.trans hEU eBx)).mono ?_); rintro e wk ⟨A3, rfl, hT3, hxk⟩; (have hEk : Ext U wk := Ext.trans eBx hxk); (have hLk : Fr (PNb nb) U wk := Fr.of hEk); (have hT3' : qjd wk lo A3 U.heap.size wk.heap.size := hT3))
  | (go_at_call 53; (with_reducible refine (HH2.out _ (Ext.trans hEU (Ext.trans hEk eBx))).mono ?_); rintro e wm ⟨A4, rfl, hT4, hxm⟩; (have hkm : Ext wk wm := Ext.trans eBx hxm); (have hEm : Ext U wm := Ext.trans hEk hkm); (have hLm : Fr (PNb nb) U wm := Fr.of hEm); (have hT4' : qjd wm hi A4 wk.heap.size wm.heap.size := hT4); (have NBm := Box.ext NBU hEm); (have u2 : wm.cell? ⟨nb, 2, none⟩ = some (.pointer L) := NBm.cell 2); (have z2 := NBm.frozen 2); (have NBn := NBm.set 2 (.pointer A3)); (have u3 : (wm.setCell ⟨nb, 2, none⟩ (.pointer A3)).cell? ⟨nb, 3, none⟩ = some (.pointer H) := NBn.cell 3); (have z3 := NBn.frozen 3); (have hL2 : Fr (PNb nb) U (wm.setCell ⟨nb, 2, none⟩ (.pointer A3)) := hLm.set (p := ⟨nb, 2, none⟩) (show nb = nb from rfl) (fun z => by rw [u2]; intro e; cases e) _); (have hL3 : Fr (PNb nb) U ((wm.setCell ⟨nb, 2, none⟩ (.pointer A3)).setCell ⟨nb, 3, none⟩ (.pointer A4)) := hL2.set (p := ⟨nb, 3, none⟩) (show nb = nb from rfl) (fun z => by rw [u3]; intro e; cases e) _))
  )
 all_goals (
  go_wp2_with fail
  go_ret
  exact q4i NBU hwn hOU hEU hEk hkm hT3' hT4')
theorem copied_b (t : CT) : ∀ (A : Option Addr) (dpt : Nat) (w : World), qse w t A → t.okN → dpt + t.dep ≤ 200 → Calls Tryz.prog 53 #[.pointer A, .int .i64 (dpt : Int)] w (qxa t w) := by
 induction t with
 | nil =>
   intro A dpt w hT hn hd
   obtain rfl : A = none := hT
   have key : Calls Tryz.prog 53 #[.pointer none, .int .i64 (dpt : Int)] w (fun e w' => e = .returned (.pointer none) ∧ w' = w) := by
    go_enter Tryz.func53, Tryz.ntmps53
    go_wp2_with fail
    go_ret
    exact ⟨rfl, rfl⟩
   refine key.mono ?_
   rintro e w' ⟨rfl, rfl⟩
   exact ⟨none, rfl, ⟨rfl, Nat.le_refl _⟩, Ext.refl _⟩
 | node vr fl em n y lo hi iha ihb =>
   intro A dpt w hT hn hd
   obtain ⟨k, L, H, Y, c, rfl, TB, hY, hlo, hhi⟩ := hT
   have hdd : (CT.node vr fl em n y lo hi).dep = 1 + max lo.dep hi.dep := rfl
   rw [hdd] at hd
   obtain ⟨n1, n2, n3⟩ := hn
   refine copied_in k dpt n c vr fl em L H Y y lo hi w TB hY (by omega) (by omega) (fun W hW => ?_) (fun W hW => ?_)
   ·have := iha L (dpt + 1) W (hlo.ext hW) n2 (by omega)
    rw [show ((dpt + 1 : Nat) : Int) = (dpt : Int) + 1 by omega] at this
    exact this
   ·have := ihb H (dpt + 1) W (hhi.ext hW) n3 (by omega)
    rw [show ((dpt + 1 : Nat) : Int) = (dpt : Int) + 1 by omega] at this
    exact this
def failE (c : Int) : Ending := .panicked [{ v := .iface 149 (.agg #[.int .i64 c]), recovered := false }]
section
variable {L k : Nat} {p : Prob} {s : BS}
theorem q81 (h : L ≤ s.solved) : qtq L k p s = .error 13 := by
 cases k with
 | zero => rfl
 | succ k => unfold qtq; rw [if_pos h]
theorem qu9 {y : Nat → Rat} (h : ¬ L ≤ s.solved) (e : p.sol = .inf y) : qtq L (k + 1) p s = .ok (.leaf true p.m y, s.tick) := by
 unfold qtq; rw [if_neg h, e]
theorem q6h (h : ¬ L ≤ s.solved) (e : p.sol = .unb) : qtq L (k + 1) p s = .error 18 := by
 unfold qtq; rw [if_neg h, e]
theorem qrh {z : Rat} {x y : Nat → Rat} (h : ¬ L ≤ s.solved) (e : p.sol = .opt z x y) (hc : s.cut z = true) : qtq L (k + 1) p s = .ok (.leaf false p.m y, s.tick) := by
 unfold qtq; rw [if_neg h, e]
 simp only
 rw [if_pos hc]
theorem qvi {z : Rat} {x y : Nat → Rat} (h : ¬ L ≤ s.solved) (e : p.sol = .opt z x y) (hc : s.cut z = false) : qtq L (k + 1) p s = (match qqr x p.n with
 | some v =>
   if fit (x v).floor = true then
    match qtq L k (p.side v (x v).floor false) s.tick with
    | .error e => .error e
    | .ok (lo, s1) =>
      match qtq L k (p.side v (x v).floor true) s1 with
      | .error e => .error e
      | .ok (hi, s2) => .ok (.node v (x v).floor lo hi, s2)
   else .error 2
 | none => if (qus x p.n && fit z.floor) = true then .ok (.leaf false p.m y, ⟨s.solved + 1, some (z.floor, fun j => (x j).num)⟩) else .error 2) := by
 conv => lhs; unfold qtq
 rw [if_neg h, e]
 simp only
 rw [if_neg (by rw [hc]; decide)]
 rfl
theorem quy {z : Rat} {x y : Nat → Rat} {v : Nat} (h : ¬ L ≤ s.solved) (e : p.sol = .opt z x y) (hc : s.cut z = false) (hf : qqr x p.n = some v) (hb : fit (x v).floor = false) : qtq L (k + 1) p s = .error 2 := by
 rw [qvi h e hc, hf]
 simp only
 rw [if_neg (by rw [hb]; decide)]
theorem q8k {z : Rat} {x y : Nat → Rat} {v : Nat} {c : Int} (h : ¬ L ≤ s.solved) (e : p.sol = .opt z x y) (hc : s.cut z = false) (hf : qqr x p.n = some v) (hb : fit (x v).floor = true) (h1 : qtq L k (p.side v (x v).floor false) s.tick = .error c) : qtq L (k + 1) p s = .error c := by
 rw [qvi h e hc, hf]
 simp only
 rw [if_pos hb, h1]
theorem q9e {z : Rat} {x y : Nat → Rat} {v : Nat} {c : Int} {lo : BT} {s1 : BS} (h : ¬ L ≤ s.solved) (e : p.sol = .opt z x y) (hc : s.cut z = false) (hf : qqr x p.n = some v) (hb : fit (x v).floor = true) (h1 : qtq L k (p.side v (x v).floor false) s.tick = .ok (lo, s1)) (h2 : qtq L k (p.side v (x v).floor true) s1 = .error c) : qtq L (k + 1) p s = .error c := by
 rw [qvi h e hc, hf]
 simp only
 rw [if_pos hb, h1]
 simp only
 rw [h2]
theorem q6g {z : Rat} {x y : Nat → Rat} {v : Nat} {lo hi : BT} {s1 s2 : BS} (h : ¬ L ≤ s.solved) (e : p.sol = .opt z x y) (hc : s.cut z = false) (hf : qqr x p.n = some v) (hb : fit (x v).floor = true) (h1 : qtq L k (p.side v (x v).floor false) s.tick = .ok (lo, s1)) (h2 : qtq L k (p.side v (x v).floor true) s1 = .ok (hi, s2)) : qtq L (k + 1) p s = .ok (.node v (x v).floor lo hi, s2) := by
 rw [qvi h e hc, hf]
 simp only
 rw [if_pos hb, h1]
 simp only
 rw [h2]
theorem q0d {z : Rat} {x y : Nat → Rat} (h : ¬ L ≤ s.solved) (e : p.sol = .opt z x y) (hc : s.cut z = false) (hf : qqr x p.n = none) (hb : (qus x p.n && fit z.floor) = false) : qtq L (k + 1) p s = .error 2 := by
 rw [qvi h e hc, hf]
 simp only
 rw [if_neg (by rw [hb]; decide)]
theorem qsh {z : Rat} {x y : Nat → Rat} (h : ¬ L ≤ s.solved) (e : p.sol = .opt z x y) (hc : s.cut z = false) (hf : qqr x p.n = none) (hb : qus x p.n = true) (hz : fit z.floor = true) : qtq L (k + 1) p s = .ok (.leaf false p.m y, ⟨s.solved + 1, some (z.floor, fun j => (x j).num)⟩) := by
 rw [qvi h e hc, hf]
 simp only
 rw [if_pos (by rw [hb, hz]; rfl)]
end
def NPost (K sb L n : Nat) (w : World) : Except Int (BT × BS) → Ending → World → Prop
 | .ok (t, s), e, w' => FrS sb w w' ∧ ∃ b, e = .returned (.pointer (some ⟨b, 0, none⟩)) ∧ w.heap.size ≤ b ∧ qmf K w' t b w'.heap.size ∧ qhb w' sb L n s
 | .error c, e, w' => FrS sb w w' ∧ e = failE c
theorem qhb.tick {w : World} {sb L n : Nat} {s : BS} (h : qhb w sb L n s) : qhb (w.setCell ⟨sb, 1, none⟩ (.int .i64 ((s.solved + 1 : Nat) : Int))) sb L n s.tick ∧ FrS sb w (w.setCell ⟨sb, 1, none⟩ (.int .i64 ((s.solved + 1 : Nat) : Int))) := by
 obtain ⟨fo, va, A, m, c, h1, h2, h3⟩ := h
 have hF : FrS sb w (w.setCell ⟨sb, 1, none⟩ (.int .i64 ((s.solved + 1 : Nat) : Int))) := (Fr.refl (fun k => k = sb) w).set (p := ⟨sb, 1, none⟩) rfl (fun z => by rw [h1.c1]; intro e; cases e) _
 refine ⟨⟨fo, va, A, m, c, h1.set 1 _, h2, fun v x e => ?_⟩, hF⟩
 obtain ⟨a1, a2, a0, a3, a4, g, a5, a6⟩ := h3 v x e
 refine ⟨a1, a2, a0, a3, a4, g, a5, a6.fr hF ?_⟩
 rintro rfl
 obtain ⟨cs, k1, -⟩ := a6
 unfold Box at h1
 rw [h1] at k1
 injection k1 with k1
 injection k1 with _ k1 _
 exact absurd k1 (by decide)
theorem qmf.frR {P : Nat → Prop} {K : Nat} {w w' : World} {t : BT} {b h : Nat} (k : qmf K w t b h) (r : Fr P w w') (hn : ∀ i, b ≤ i → i < h → ¬ P i) (hr : ∀ b n f, RowR w b n f → ¬ P b) : qmf K w' t b h := by
 induction t generalizing b h with
 | leaf _ m y =>
   obtain ⟨h1, A, c, h2, h3, h4⟩ := k
   exact ⟨h1, A, c, r.box h2 (hn b (Nat.le_refl _) h1), h3.fr r hr, h4⟩
 | node v f x z ihx ihz =>
   obtain ⟨bx, hx, bz, h1, h2, h3, h4, h5⟩ := k
   have l1 := h2.lt
   have l2 := h4.lt
   exact ⟨bx, hx, bz, h1, ihx h2 (fun i a b => hn i (by omega) (by omega)), h3, ihz h4 (fun i a b => hn i (by omega) b), r.box h5 (hn b (Nat.le_refl _) (by omega))⟩
theorem qwu {w : World} {sb : Nat} {E : TypeId} {cs : Array Value} (h : Box w sb E cs) (hE : E ≠ 58) : ∀ b n f, RowR w b n f → ¬ (b = sb) := by
 rintro b n f ⟨ds, h1, -⟩ rfl
 exact qb8 h h1 hE rfl
theorem qga.frB {w w' : World} {nb : Nat} {E : TypeId} {x1 : Int} {cs : List Value} {v : Value} {p : Prob} (h : qga w v p) (r : Fr (fun k => k = nb) w w') (hE : E ≠ 58) (hs : Box w nb E (.int .i64 x1 :: cs).toArray) : qga w' v p := by
 obtain ⟨Ao, co, Ar, cr, rfl, h1, h2, h3, h4⟩ := h
 refine ⟨Ao, co, Ar, cr, rfl, h1.fr r (qwu hs hE), h2, h3, fun hm => ?_⟩
 obtain ⟨br, e, hr⟩ := h4 hm
 have hne : ¬ (br = nb) := by
  rintro rfl
  obtain ⟨Ac, cc, x, A, d, e', y, A', d', e'', g0, -⟩ := hr 0 hm
  have c0 := hs.c0
  rw [Nat.zero_mul] at g0
  rw [g0] at c0
  cases c0
 refine ⟨br, e, fun i hi => ?_⟩
 obtain ⟨Ac, cc, x, A, d, e', y, A', d', e'', g0, g1, g2, g3, g4, g5, k1, k2, k3⟩ := hr i hi
 exact ⟨Ac, cc, x, A, d, e', y, A', d', e'', r.cell hne g0, r.cell hne g1, r.cell hne g2, r.cell hne g3, r.cell hne g4, r.cell hne g5, k1.fr r (qwu hs hE), k2, r.rat k3⟩
theorem qhb.frN {w w' : World} {sb nb L n : Nat} {s : BS} {cs : Array Value} (h : qhb w sb L n s) (r : Fr (fun k => k = nb) w w') (hs : Box w nb 79 cs) : qhb w' sb L n s := by
 obtain ⟨fo, va, A, m, c, h1, h2, h3⟩ := h
 refine ⟨fo, va, A, m, c, r.box h1 (qb8 h1 hs (by decide)), h2, fun v x e => ?_⟩
 obtain ⟨a1, a2, a0, a3, a4, g, a5, a6⟩ := h3 v x e
 refine ⟨a1, a2, a0, a3, a4, g, a5, a6.fr r ?_⟩
 obtain ⟨ds, k1, -⟩ := a6
 exact qb8 k1 hs (by decide)
theorem qu4 {w : World} {sb nb L n i : Nat} {s : BS} {vr fl : Int} {lo hi : Option Addr} {em : Bool} {A : Option Addr} {l c : Nat} (hN : Box w nb 79 (q89 vr fl lo hi em A l c)) (hS : qhb w sb L n s) (hi : i = 2 ∨ i = 3) (u : Value) :
 qhb (w.setCell ⟨nb, i, none⟩ u) sb L n s ∧ Fr (fun k => k = nb) w (w.setCell ⟨nb, i, none⟩ u) := by
 have hF : Fr (fun k => k = nb) w (w.setCell ⟨nb, i, none⟩ u) := (Fr.refl (fun k => k = nb) w).set (p := ⟨nb, i, none⟩) rfl (fun z => by
  rw [hN.cell i]; rcases hi with rfl | rfl <;> (intro e; cases e)) _
 exact ⟨hS.frN hF hN, hF⟩
set_option maxHeartbeats 4000000 in
theorem qx6 (x : Value) (q : Rat) (k : Nat) (w : World) (hx : RatB w x q k) : Calls Tryz.prog 108 #[x] w (qjz w (.bool (decide (q.den = 1)))) := by
 obtain ⟨p1, A1, m1, c1, p1', A1', m1', c1', rfl⟩ := hx.1.shape
 obtain ⟨F, hF⟩ : ∃ F, F = decide (q.den = 1) := ⟨_, rfl⟩
 obtain ⟨R, hR⟩ : ∃ R, R = cmpZ (q.den : Int) 1 := ⟨_, rfl⟩
 have e9 : (R == 0) = F := by
  rw [hR, hF]
  unfold cmpZ
  by_cases h1 : q.den = 1
  ·simp [h1]
  ·have : (q.den : Int) ≠ 1 := by omega
   split
   ·simp [h1]
   ·split
    ·simp [h1]
    ·omega
 rw [← hF]
 have HR := Lib.hid hR
 clear hF hR
 have B0 := Box.new w 58 #[.bool p1, .slice A1 m1 c1, .bool p1', .slice A1' m1' c1']
 have hE0 : Ext w (w.alloc (.cells #[.bool p1, .slice A1 m1 c1, .bool p1', .slice A1' m1' c1'] 58)) := (Ext.refl w).alloc _
 go_enter Tryz.func108, Tryz.ntmps108
 go_upto_region 1 with fail
 generalize (w.alloc (.cells #[.bool p1, .slice A1 m1 c1, .bool p1', .slice A1' m1' c1'] 58)) = V at *
 have c0 := B0.c0
 have c1' := B0.c1
 have c2 := B0.c2
 have c3 := B0.c3
 go_wp2_with fail
 refine (q07 _ q k _ (hx.ext hE0)).mono ?_
 rintro e w1 ⟨v1, rfl, hb1, hx1⟩
 obtain ⟨p2, A2, m2, c2', rfl⟩ := hb1.1.shape
 clear c0 c1' c2 c3
 go_wp2_with fail
 refine (Of_b 1 _ (by omega) (by omega)).mono ?_
 rintro e w2 ⟨v2, rfl, hb2, hx2⟩
 obtain ⟨p3, A3, m3, c3', rfl⟩ := hb2.1.shape
 go_wp2_with fail
 refine (qc9 _ _ _ _ _ _ _ (hb1.ext hx2) hb2).mono ?_
 rintro e w3 ⟨rfl, hx3⟩
 rw [← HR.out]
 go_wp2_with fail
 go_ret
 exact ⟨rfl, ((hE0.trans hx1).trans hx2).trans hx3⟩
set_option maxHeartbeats 4000000 in
theorem qnq (x : Value) (z : Int) (k : Nat) (w : World) (hx : BigB w x z k) (hk : k ≤ 1099511627776) : Calls Tryz.prog 111 #[x] w (fun e w' => Ext w w' ∧ ((fit z = true ∧ e = .returned (.int .i64 z)) ∨ (fit z = false ∧ e = failE 2))) := by
 obtain ⟨p1, A1, m1, c1, rfl⟩ := hx.1.shape
 have B0 := Box.new w 56 #[.bool p1, .slice A1 m1 c1]
 have hE0 : Ext w (w.alloc (.cells #[.bool p1, .slice A1 m1 c1] 56)) := (Ext.refl w).alloc _
 go_enter Tryz.func111, Tryz.ntmps111
 go_upto_region 1 with fail
 generalize (w.alloc (.cells #[.bool p1, .slice A1 m1 c1] 56)) = V at *
 have c0 := B0.c0
 have c1' := B0.c1
 go_wp2_with fail
 refine (Int_any _ z k _ (hx.1.ext hE0) hx.2 hk).mono ?_
 rintro e w1 ⟨rfl, hx1⟩
 have hE1 := hE0.trans hx1
 have hff : fits z = fit z := rfl
 rw [hff]
 cases hfz : fit z with
 | true =>
   clear c0 c1' hff
   simp only [if_true]
   go_wp2_with fail
   go_ret
   exact ⟨hE1, .inl ⟨hfz, rfl⟩⟩
 | false =>
   clear c0 c1' hff
   go_wp2_with fail
   exact ⟨rfl, hE1, .inr ⟨hfz, rfl⟩⟩
end Go.Proofs.YtljncdcjkdgkeaaGreatDoor.Lp
namespace Go.Proofs.YtljncdcjkdgkeaaGreatDoor.Big
open Go.RowKit
section
variable {w : World} {b c : Nat} {E : TypeId} {cs : Array Value}
theorem Box.p2 {x y : Value} (h : Box w b E #[x, y]) (x' y' : Value) : Box ((w.setCell ⟨b, 0, none⟩ x').setCell ⟨b, 1, none⟩ y') b E #[x', y'] := h.put2 x' y'
theorem Box.f2 (h : Box w b E cs) (hne : b ≠ c) (x y : Value) : Box ((w.setCell ⟨c, 0, none⟩ x).setCell ⟨c, 1, none⟩ y) b E cs := (h.far (p := ⟨c, 0, none⟩) hne x).far (p := ⟨c, 1, none⟩) hne y
theorem BigV.s2 {p q : Bool} {A A' : Option Addr} {n m n' m' : Nat} {v : Value} {z : Int} (h : BigV w v z) (hb : Box w c E #[.bool p, .slice A n m]) : BigV ((w.setCell ⟨c, 0, none⟩ (.bool q)).setCell ⟨c, 1, none⟩ (.slice A' n' m')) v z :=
 (h.far hb rfl rfl 0 _).far (hb.set 0 (.bool q)) rfl rfl 1 _
end
theorem boxA {w w' : World} {E : TypeId} {cs : Array Value} (h : Ext (w.alloc (.cells cs E)) w') : Box w' w.heap.size E cs := (Box.new w E cs).ext h
theorem boxB0 {w w' : World} {E0 E1 : TypeId} {c0 c1 : Array Value} (h : Ext ((w.alloc (.cells c0 E0)).alloc (.cells c1 E1)) w') : Box w' w.heap.size E0 c0 := ((Box.new w E0 c0).alloc _).ext h
theorem boxB1 {w w' : World} {E0 E1 : TypeId} {c0 c1 : Array Value} (h : Ext ((w.alloc (.cells c0 E0)).alloc (.cells c1 E1)) w') : Box w' (w.heap.size + 1) E1 c1 := by
 have := Box.new (w.alloc (.cells c0 E0)) E1 c1
 rw [show (w.alloc (.cells c0 E0)).heap.size = w.heap.size + 1 by simp] at this
 exact this.ext h
theorem boxAd {w w' : World} {E : TypeId} {cs : Array Value} (h : Ext (w.alloc (.cells cs E)).drew w') : Box w' w.heap.size E cs := (Box.new w E cs).drew.ext h
theorem boxB0d {w w' : World} {E0 E1 : TypeId} {c0 c1 : Array Value} (h : Ext ((w.alloc (.cells c0 E0)).alloc (.cells c1 E1)).drew w') : Box w' w.heap.size E0 c0 := ((Box.new w E0 c0).alloc _).drew.ext h
theorem boxB1d {w w' : World} {E0 E1 : TypeId} {c0 c1 : Array Value} (h : Ext ((w.alloc (.cells c0 E0)).alloc (.cells c1 E1)).drew w') : Box w' (w.heap.size + 1) E1 c1 := by
 have := Box.new (w.alloc (.cells c0 E0)) E1 c1
 rw [show (w.alloc (.cells c0 E0)).heap.size = w.heap.size + 1 by simp] at this
 exact this.drew.ext h
theorem Box.new1 (w : World) (E0 E1 : TypeId) (c0 c1 : Array Value) : Box ((w.alloc (.cells c0 E0)).alloc (.cells c1 E1)) (w.heap.size + 1) E1 c1 := by
 have := Box.new (w.alloc (.cells c0 E0)) E1 c1
 rwa [show (w.alloc (.cells c0 E0)).heap.size = w.heap.size + 1 by simp] at this
theorem BigV.al {w : World} {v : Value} {z : Int} (h : BigV w v z) (o : Obj) : BigV (w.alloc o) v z := h.ext ((Ext.refl w).alloc o)
end Go.Proofs.YtljncdcjkdgkeaaGreatDoor.Big
namespace Go.Proofs.YtljncdcjkdgkeaaGreatDoor.Rt
open Go.RowKit Go.Proofs.YtljncdcjkdgkeaaGreatDoor.Big
attribute [local go_sem] Go.World.cell?_alloc_some Go.RowKit.frozen?_alloc_cells
def q3f (q : Rat) : Int := q.num / q.den
def qak (q : Rat) : Int := -((-q.num) / q.den)
theorem qar {n d : Int} (hd : 0 < d) : (n.tmod d < 0 → n.tdiv d - 1 = n / d) ∧ (¬ n.tmod d < 0 → n.tdiv d = n / d) := by
 have h1 := Int.mul_tdiv_add_tmod n d
 have h2 := Int.mul_ediv_add_emod n d
 have h3 := Int.emod_nonneg n (show d ≠ 0 by omega)
 have h4 := Int.emod_lt_of_pos n hd
 have h5 : (n.tmod d).natAbs < d.natAbs := by rw [Int.natAbs_tmod]; exact Nat.mod_lt _ (by omega)
 refine ⟨fun h => ?_, fun h => ?_⟩
 ·have e : d * (n.tdiv d - 1 - n / d) = n % d - n.tmod d - d := by rw [Int.mul_sub, Int.mul_sub]; omega
  have h6 : n.tdiv d - 1 - n / d < 1 := by
   refine Int.lt_of_mul_lt_mul_left (a := d) ?_ (by omega)
   rw [e]; omega
  have h7 : -1 < n.tdiv d - 1 - n / d := by
   refine Int.lt_of_mul_lt_mul_left (a := d) ?_ (by omega)
   rw [e]; omega
  omega
 ·have e : d * (n.tdiv d - n / d) = n % d - n.tmod d := by rw [Int.mul_sub]; omega
  have h6 : n.tdiv d - n / d < 1 := by
   refine Int.lt_of_mul_lt_mul_left (a := d) ?_ (by omega)
   rw [e]; omega
  have h7 : -1 < n.tdiv d - n / d := by
   refine Int.lt_of_mul_lt_mul_left (a := d) ?_ (by omega)
   rw [e]; omega
  omega
theorem q2t {n d : Int} (hd : 0 < d) : (0 < n.tmod d → n.tdiv d + 1 = -((-n) / d)) ∧ (¬ 0 < n.tmod d → n.tdiv d = -((-n) / d)) := by
 have h := qar (n := -n) hd
 rw [Int.neg_tmod, Int.neg_tdiv] at h
 exact ⟨fun h' => by have := h.1 (by omega); omega, fun h' => by have := h.2 (by omega); omega⟩
def FC (W0 : World) (X Y : Int) (v u er : Value) (wx : World) : Prop := ∃ (b c n m n' m' : Nat) (p p' : Bool) (A A' : Option Addr), v = .pointer (some ⟨b, 0, none⟩) ∧ u = .pointer (some ⟨c, 0, none⟩) ∧ er = .int .i64 0 ∧ Box wx b 56 #[.bool p, .slice A n m] ∧ Box wx c 56 #[.bool p', .slice A' n' m'] ∧ BigV wx (.agg #[.bool p, .slice A n m]) X ∧ BigV wx (.agg #[.bool p', .slice A' n' m']) Y ∧ Ext W0 wx ∧ W0.heap.size ≤ b
section
variable {W0 w : World} {X Y : Int} {n m n' m' k0 l0 k1 l1 : Nat} {p p' o0 o1 : Bool} {A A' D0 D1 : Option Addr}
theorem FC.way1 (h : BigV w (.agg #[.bool p, .slice A n m]) X) (h' : BigV w (.agg #[.bool p', .slice A' n' m']) Y) (hS : Later W0 w) :
 FC W0 X Y (.pointer (some ⟨w.heap.size, 0, none⟩)) (.pointer (some ⟨w.heap.size + 1, 0, none⟩)) (.int .i64 0) ((w.alloc (.cells #[.bool p, .slice A n m] 56)).alloc (.cells #[.bool p', .slice A' n' m'] 56)) :=
 ⟨_, _, _, _, _, _, _, _, _, _, rfl, rfl, rfl, (Box.new _ _ _).alloc _, Box.new1 _ _ _ _ _, (h.al _).al _, (h'.al _).al _, Ext.alloc (Ext.alloc hS _) _, Ext.size hS⟩
theorem FC.way2 (h : BigV w (.agg #[.bool p, .slice A n m]) X) (h' : BigV w (.agg #[.bool p', .slice A' n' m']) Y) (hS : Later W0 w) :
 FC W0 X Y (.pointer (some ⟨w.heap.size + 1, 0, none⟩)) (.pointer (some ⟨w.heap.size, 0, none⟩)) (.int .i64 0) ((w.alloc (.cells #[.bool p', .slice A' n' m'] 56)).alloc (.cells #[.bool p, .slice A n m] 56)) :=
 ⟨_, _, _, _, _, _, _, _, _, _, rfl, rfl, rfl, Box.new1 _ _ _ _ _, (Box.new _ _ _).alloc _, (h.al _).al _, (h'.al _).al _, Ext.alloc (Ext.alloc hS _) _, Nat.le_succ_of_le (Ext.size hS)⟩
theorem FC.way3 {b c : Nat} (h : BigV w (.agg #[.bool p, .slice A n m]) X) (h' : BigV w (.agg #[.bool p', .slice A' n' m']) Y) (hS : Later W0 w)
 (hb : Box w b 56 #[.bool o0, .slice D0 k0 l0]) (hc : Box w c 56 #[.bool o1, .slice D1 k1 l1]) (hbc : ¬ b = c) (sb : W0.heap.size ≤ b) (sc : W0.heap.size ≤ c) :
 FC W0 X Y (.pointer (some ⟨b, 0, none⟩)) (.pointer (some ⟨c, 0, none⟩)) (.int .i64 0) ((((w.setCell ⟨b, 0, none⟩ (.bool p)).setCell ⟨b, 1, none⟩ (.slice A n m)).setCell ⟨c, 0, none⟩ (.bool p')).setCell ⟨c, 1, none⟩ (.slice A' n' m')) := by
 obtain ⟨w', rfl, h1, h2, h3, h4⟩ := qnz hbc h h' hb hc
 exact ⟨_, _, _, _, _, _, _, _, _, _, rfl, rfl, rfl, h3, h4, h1, h2, (((Ext.set hS sb _).set sb _).set sc _).set sc _, sb⟩
theorem FC.way4 {b : Nat} (h : BigV w (.agg #[.bool p, .slice A n m]) X) (h' : BigV w (.agg #[.bool p', .slice A' n' m']) Y) (hS : Later W0 w)
 (hb : Box w b 56 #[.bool o0, .slice D0 k0 l0]) (sb : W0.heap.size ≤ b) :
 FC W0 X Y (.pointer (some ⟨b, 0, none⟩)) (.pointer (some ⟨w.heap.size, 0, none⟩)) (.int .i64 0) (((((w.alloc (.cells #[.bool false, .slice none 0 0] 56)).setCell ⟨b, 0, none⟩ (.bool p)).setCell ⟨b, 1, none⟩ (.slice A n m)).setCell ⟨w.heap.size, 0, none⟩ (.bool p')).setCell ⟨w.heap.size, 1, none⟩ (.slice A' n' m')) :=
 FC.way3 (h.al _) (h'.al _) (Ext.alloc hS _) (hb.alloc _) (Box.new _ _ _) (by have := hb.lt; omega) sb (Ext.size hS)
theorem FC.way5 {c : Nat} (h : BigV w (.agg #[.bool p, .slice A n m]) X) (h' : BigV w (.agg #[.bool p', .slice A' n' m']) Y) (hS : Later W0 w)
 (hc : Box w c 56 #[.bool o1, .slice D1 k1 l1]) (sc : W0.heap.size ≤ c) :
 FC W0 X Y (.pointer (some ⟨w.heap.size, 0, none⟩)) (.pointer (some ⟨c, 0, none⟩)) (.int .i64 0) (((w.alloc (.cells #[.bool p, .slice A n m] 56)).setCell ⟨c, 0, none⟩ (.bool p')).setCell ⟨c, 1, none⟩ (.slice A' n' m')) :=
 ⟨_, _, _, _, _, _, _, _, _, _, rfl, rfl, rfl, (Box.new _ _ _).f2 (by have := hc.lt; omega) _ _, (hc.alloc _).p2 _ _, (h.al _).s2 (hc.alloc _), (h'.al _).s2 (hc.alloc _), ((Ext.alloc hS _).set sc _).set sc _, Ext.size hS⟩
end
attribute [local go_sem] Go.World.cell?_alloc_some Go.RowKit.frozen?_alloc_cells
set_option maxHeartbeats 16000000 in
theorem qjc (x : Value) (q : Rat) (k : Nat) (w : World) (hx : RatB w x q k) (hL : k ≤ 1099511627776) : Calls Tryz.prog 56 #[x] w (qec w (q3f q) (k + 1)) := by
 obtain ⟨p1, A1, n1, c1, p1', A1', n1', c1', rfl⟩ := hx.1.shape
 obtain ⟨Z, hZ⟩ : ∃ Z, Z = q3f q := ⟨_, rfl⟩
 rw [← hZ]
 have HZ := Lib.hid hZ
 clear hZ
 go_enter Tryz.func56, Tryz.ntmps56
 go_wp2_with fail
 obtain ⟨B0, B1, hE0⟩ := qwt w 58 56 #[.bool p1, .slice A1 n1 c1, .bool p1', .slice A1' n1' c1'] #[.bool false, .slice none 0 0]
 have hX := hx.ext hE0
 have hXn := hX.numB
 have hsz : ((w.alloc (.cells #[.bool p1, .slice A1 n1 c1, .bool p1', .slice A1' n1' c1'] 58)).alloc (.cells #[.bool false, .slice none 0 0] 56)).heap.size = w.heap.size + 1 + 1 := by simp
 generalize ((w.alloc (.cells #[.bool p1, .slice A1 n1 c1, .bool p1', .slice A1' n1' c1'] 58)).alloc (.cells #[.bool false, .slice none 0 0] 56)) = W0 at *
 obtain ⟨D, hD⟩ : ∃ D : Int, D = (q.den : Int) := ⟨_, rfl⟩
 have hD0 : 0 < D := by have := q.den_pos; omega
 have HD := Lib.hid hD
 have HD0 := Lib.hid hD0
 have HSZ := Lib.hid hsz
 clear hx hD hD0 hsz
 have hbn : q.num.natAbs < pw k := hXn.2
 have hXV := hXn.1
 go_upto_region 1 with fail
 go_cut [3, 4, 5] (fun v u er wx => FC W0 (q.num.tdiv D) (q.num.tmod D) v u er wx)
 case first =>
  have k00 : ∀ w', Later W0 w' → w'.cell? ⟨_, 0, none⟩ = some _ := fun w' h => (B0.ext h).c0
  have k01 : ∀ w', Later W0 w' → w'.cell? ⟨_, 1, none⟩ = some _ := fun w' h => (B0.ext h).c1
  have k02 : ∀ w', Later W0 w' → w'.cell? ⟨_, 2, none⟩ = some _ := fun w' h => (B0.ext h).c2
  have k03 : ∀ w', Later W0 w' → w'.cell? ⟨_, 3, none⟩ = some _ := fun w' h => (B0.ext h).c3
  have hS0 := Later.refl W0
  clear B0 B1
  go_region_held3 (fun w' => Later W0 w') ((repeat (first | assumption | apply Later.drew | apply Later.drewN | apply Later.alloc | (refine Later.set ?_ (by first | exact Nat.le_refl _ | exact Nat.le_succ _ | exact Later.size (by assumption) | exact Nat.le_succ_of_le (Later.size (by assumption))) _) | (refine Later.step ?_ (by assumption))))) (first
   | (go_at_call 44; (with_reducible refine (q07 _ _ _ _ (hX.ext (by repeat (first | (with_reducible exact Ext.refl _) | (with_reducible apply Ext.drew) | (with_reducible apply Ext.drewN) | (with_reducible apply Ext.alloc))))).mono ?_); rintro e w1 ⟨v1, rfl, hb1, hx1⟩; (obtain ⟨p2, A2, n2, c2, rfl⟩ := hb1.1.shape); (have hbv := hb1.1; rw [← HD.out] at hbv); (have hS1 := Later.step (by assumption) hx1); (try (have e1 := boxAd hx1; have e11 := e1.c0; have e12 := e1.c1; have e13 := e1.frozen 0; have e14 := e1.frozen 1)); (try (have e1 := boxB0d hx1; have e11 := e1.c0; have e12 := e1.c1; have e13 := e1.frozen 0; have e14 := e1.frozen 1)); (try (have e2 := boxB1d hx1; have e21 := e2.c0; have e22 := e2.c1; have e23 := e2.frozen 0; have e24 := e2.frozen 1)); (try (have e1 := boxA hx1; have e11 := e1.c0; have e12 := e1.c1; have e13 := e1.frozen 0; have e14 := e1.frozen 1)); (try (have e1 := boxB0 hx1; have e11 := e1.c0; have e12 := e1.c1; have e13 := e1.frozen 0; have e14 := e1.frozen 1)); (try (have e2 := boxB1 hx1; have e21 := e2.c0; have e22 := e2.c1; have e23 := e2.frozen 0; have e24 := e2.frozen 1)))
   | (go_at_call 85; (with_reducible refine (qcp _ _ q.num D k _ (hXV.ext (by repeat (first | (with_reducible exact Ext.refl _) | (with_reducible apply Ext.drew) | (with_reducible apply Ext.drewN) | (with_reducible apply Ext.alloc) | (with_reducible refine Ext.trans ?_ (by assumption))))) (hbv.ext (by repeat (first | (with_reducible exact Ext.refl _) | (with_reducible apply Ext.drew) | (with_reducible apply Ext.drewN) | (with_reducible apply Ext.alloc)))) hbn (by omega) (by have := HD0.out; omega)).mono ?_); rintro e w2 ⟨v2, v3, rfl, hb2, hb3, hx2⟩; (obtain ⟨p3, A3, n3, c3, rfl⟩ := hb2.shape); (obtain ⟨p4, A4, n4, c4, rfl⟩ := hb3.shape); (have hS2 := Later.step (by assumption) hx2); (have z1 := Ext.size hx1); (have z2 := Ext.size hx2); (try simp at z1); (try simp at z2); (try (have m1 : ¬ W0.heap.size = w1.heap.size := by omega)); (try (have m2 : ¬ w1.heap.size = W0.heap.size := by omega)); (try (have m3 : ¬ W0.heap.size = w2.heap.size := by omega)); (try (have m4 : ¬ w2.heap.size = W0.heap.size := by omega)); (try (have m5 : ¬ w1.heap.size = w2.heap.size := by omega)); (try (have m6 : ¬ w2.heap.size = w1.heap.size := by omega));  (try (have f1 := boxA hx2; have f11 := f1.c0; have f12 := f1.c1; have f13 := f1.frozen 0; have f14 := f1.frozen 1)); (try (have f1 := boxB0 hx2; have f11 := f1.c0; have f12 := f1.c1; have f13 := f1.frozen 0; have f14 := f1.frozen 1)); (try (have f2 := boxB1 hx2; have f21 := f2.c0; have f22 := f2.c1; have f23 := f2.frozen 0; have f24 := f2.frozen 1)); (try (have g1 := Box.ext e1 hx2; have g11 := g1.c0; have g12 := g1.c1; have g13 := g1.frozen 0; have g14 := g1.frozen 1)); (try (have g1 := Box.ext (Box.alloc e1 _) hx2; have g11 := g1.c0; have g12 := g1.c1; have g13 := g1.frozen 0; have g14 := g1.frozen 1)); (try (have g2 := Box.ext e2 hx2; have g21 := g2.c0; have g22 := g2.c1; have g23 := g2.frozen 0; have g24 := g2.frozen 1)))
   )
  all_goals (go_wp2_with fail; go_meet)
  all_goals first
   | (with_reducible exact FC.way1 hb2 hb3 hS2)
   | (with_reducible exact FC.way2 hb2 hb3 hS2)
   | (with_reducible exact FC.way3 hb2 hb3 hS2 (by with_reducible assumption) (by with_reducible assumption) (by omega) (by first | exact Nat.le_refl _ | exact Nat.le_succ _ | exact Later.size hS1 | exact Nat.le_succ_of_le (Later.size hS1)) (by first | exact Nat.le_refl _ | exact Nat.le_succ _ | exact Later.size hS1 | exact Nat.le_succ_of_le (Later.size hS1)))
   | (with_reducible exact FC.way4 hb2 hb3 hS2 (by with_reducible assumption) (by first | exact Nat.le_refl _ | exact Nat.le_succ _ | exact Later.size hS1 | exact Nat.le_succ_of_le (Later.size hS1)))
   | (with_reducible exact FC.way5 hb2 hb3 hS2 (by with_reducible assumption) (by first | exact Nat.le_refl _ | exact Nat.le_succ _ | exact Later.size hS1 | exact Nat.le_succ_of_le (Later.size hS1)))
 case rest =>
  obtain ⟨b, c, n, m, n', m', p, p', A, A', rfl, rfl, rfl, B3, B4, h3, h4, hx1, hbb⟩ := hcut
  have BR := B1.ext hx1
  have hE1 := hE0.trans hx1
  obtain ⟨T, hT⟩ : ∃ T, T = q.num.tdiv D := ⟨_, rfl⟩
  obtain ⟨M, hM⟩ : ∃ M, M = q.num.tmod D := ⟨_, rfl⟩
  have hTM := qar (n := q.num) HD0.out
  rw [← hT, ← hM] at hTM
  rw [HD.out] at hTM
  have hTM' : (M < 0 → T - 1 = Z) ∧ (¬ (M < 0) → T = Z) := by rw [HZ.out]; exact hTM
  have bT : B k T := by rw [hT]; exact qgx _ hXn.2
  have bO : B k 1 := qgv (qnv hX.2)
  have cT : T.natAbs < pw k := bT
  have cO : (1 : Int).natAbs < pw k := bO
  have bZ : B (k + 1) Z := by
   by_cases hc : M < 0
   ·rw [← hTM'.1 hc]; exact B_sub bT bO
   ·rw [← hTM'.2 hc]; exact q3x (by omega) bT
  rw [← hT] at h3
  rw [← hM] at h4
  have q40 := B4.c0
  have q41 := B4.c1
  have HTM := Lib.hid hTM'
  clear hTM hTM' hT hM hX hXn hXV hbn B0 B1 hx1
  go_wp2_with fail
  refine (qtk _ M _ h4).mono ?_
  rintro e w3 ⟨rfl, hx3⟩
  have B3 := B3.ext hx3
  have h3 := h3.ext hx3
  have BR := BR.ext hx3
  have hE3 := hE1.trans hx3
  obtain ⟨sr, hsr⟩ : ∃ s, s = M.sign := ⟨_, rfl⟩
  rw [← hsr]
  by_cases hc : M < 0
  ·have e1 : decide (sr < 0) = true := by
    rw [hsr]; rcases q83 M with ⟨a, b⟩ | ⟨a, b⟩ | ⟨a, b⟩ <;> rw [b] <;> simp <;> omega
   have hr := HTM.out.1 (by omega)
   have HR := Lib.hid hr
   clear hc hr hsr
   have ks := KE.start (R := [w.heap.size + 1]) hE3 (by simp)
   have hbr : b ≠ w.heap.size + 1 := by have := HSZ.out; omega
   have kb : b ∉ [w.heap.size + 1] := by simpa using hbr
   have k30 : ∀ w', KE [w.heap.size + 1] w w3 w' → w'.cell? ⟨b, 0, none⟩ = some (.bool p) := fun w' h => (h.bx B3 kb).c0
   have k31 : ∀ w', KE [w.heap.size + 1] w w3 w' → w'.cell? ⟨b, 1, none⟩ = some (.slice A n m) := fun w' h => (h.bx B3 kb).c1
   go_upto_region 3 with fail
   go_region_held3 (fun w' => KE [w.heap.size + 1] w w3 w') ((repeat (first | assumption | apply KE.drew | apply KE.drewN | apply KE.alloc | (refine KE.set ?_ (by simp) _) | (refine KE.step ?_ (by assumption))))) (first
    | (go_at_call 46; (with_reducible refine (qob 1 _ (by decide) (by decide)).mono ?_); rintro e w4 ⟨v4, rfl, h5, hx4⟩; (obtain ⟨p5, A5, n5, c5, rfl⟩ := h5.shape))
    | (go_at_call 86; (with_reducible refine (Sub_any _ _ _ _ k _ (h3.ext eAx) h5 cT cO hL).mono ?_); rintro e w5 ⟨v5, rfl, h6, hx5⟩; (obtain ⟨p6, A6, n6, c6, rfl⟩ := h6.shape); (have b2 := Box.ext BR (show Ext w3 w5 by repeat (first | (with_reducible exact Ext.refl _) | (with_reducible apply Ext.drew) | (with_reducible apply Ext.drewN) | (with_reducible refine Ext.trans ?_ (by assumption))))); have q0 := b2.c0; have q1 := b2.c1; have f0 := b2.frozen 0; have f1 := b2.frozen 1)
    )
   all_goals (rw [HR.out] at h6)
   all_goals go_wp2_with fail
   all_goals (
    obtain ⟨p1, p2, p3⟩ := h6.put b2
    refine bodyPost_ret (v := .agg #[.bool p6, .slice A6 n6 c6]) (by simp [results, Tryz.results56, go_sem, p2, p3]) rfl ?_
    exact ⟨_, rfl, ⟨p1, bZ⟩, KE.ext (R := [w.heap.size + 1]) (W0 := w3) (by assumption)⟩)
  ·have e1 : decide (sr < 0) = false := by
    rw [hsr]; rcases q83 M with ⟨a, b⟩ | ⟨a, b⟩ | ⟨a, b⟩ <;> rw [b] <;> simp <;> omega
   have hr := HTM.out.2 (by omega)
   rw [hr] at h3
   clear hc hr hsr
   have q30 := B3.c0
   have q31 := B3.c1
   have q0 := BR.c0
   have q1 := BR.c1
   have f0 := BR.frozen 0
   have f1 := BR.frozen 1
   go_wp2_with fail
   obtain ⟨p1, p2, p3⟩ := h3.put BR
   refine bodyPost_ret (v := .agg #[.bool p, .slice A n m]) (by simp [results, Tryz.results56, go_sem, p2, p3]) rfl ?_
   exact ⟨_, rfl, ⟨p1, bZ⟩, (hE3.set (by simp) _).set (by simp) _⟩
end Go.Proofs.YtljncdcjkdgkeaaGreatDoor.Rt

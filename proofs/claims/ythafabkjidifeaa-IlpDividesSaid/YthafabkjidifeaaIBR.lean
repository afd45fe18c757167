/- Walk: Branch of ilp. -/
import Derived.Test.YthafabkjidifeaaIX
set_option linter.unusedVariables false
set_option linter.unusedSimpArgs false
namespace Go.Proofs.Ythafabkjidifeaa.Lp
open Go.RowKit Go.Proofs.Ythafabkjidifeaa.Big Go.Proofs.Ythafabkjidifeaa.Rt

/-- a list of numbers as cells -/
theorem rats_src {w : World} {A : Option Addr} {n c : Nat} {f : Nat → Rat} (h : RatsV w A n c f) :
    ∃ xs : List Value, xs.length = n * 4 ∧ (0 < n → ∃ ad, A = some ad ∧ ∀ j y, xs[j]? = some y → w.cell? (ad.add j) = some y) ∧ (∀ y ∈ xs, y.oneCell' = true) ∧ (∀ y ∈ xs, noU y = true) ∧ ∀ j, j < n → At w xs.toArray (j * 4) (f j) := by
  rcases Nat.eq_zero_or_pos n with hn | hn
  · exact ⟨[], by simp [hn], fun h => absurd h (by omega), by simp, by simp, fun j hj => absurd hj (by omega)⟩
  · obtain ⟨b, rfl, hr⟩ := h.2.2 hn
    obtain ⟨xs, h1, h2, h3, h4, h5⟩ := src_cells (w := w) (b := b) (off := 0) (L := n * 4) (fun i hi => by
      obtain ⟨p, A, m, c, p', A', m', c', g0, g1, g2, g3, -⟩ := hr.at (j := i / 4) (by omega)
      rcases (show i % 4 = 0 ∨ i % 4 = 1 ∨ i % 4 = 2 ∨ i % 4 = 3 by omega) with q | q | q | q
      · exact ⟨_, by rw [show 0 + i = i / 4 * 4 by omega]; exact g0, rfl, rfl⟩
      · exact ⟨_, by rw [show 0 + i = i / 4 * 4 + 1 by omega]; exact g1, rfl, rfl⟩
      · exact ⟨_, by rw [show 0 + i = i / 4 * 4 + 2 by omega]; exact g2, rfl, rfl⟩
      · exact ⟨_, by rw [show 0 + i = i / 4 * 4 + 3 by omega]; exact g3, rfl, rfl⟩)
    refine ⟨xs, h1, fun _ => ⟨_, rfl, h3⟩, h4, h5, fun j hj => ?_⟩
    obtain ⟨p, A, m, c, p', A', m', c', g0, g1, g2, g3, g4⟩ := hr.at hj
    have key : ∀ i, i < n * 4 → xs.toArray[i]? = w.cell? ⟨b, i, none⟩ := fun i hi => by
      have := h2 i hi
      rw [Nat.zero_add] at this
      simpa using this
    exact ⟨p, A, m, c, p', A', m', c', (key _ (by omega)).trans g0, (key _ (by omega)).trans g1, (key _ (by omega)).trans g2, (key _ (by omega)).trans g3, g4⟩
theorem zRat : ∀ u ∈ (Value.agg #[.bool false, .slice none 0 0, .bool false, .slice none 0 0]).cells.toList, noU u = true := fun u hu => by
  have : u = .bool false ∨ u = .slice none 0 0 := by
    simp [Value.cells] at hu
    rcases hu with h | h | h | h <;> simp [h]
  rcases this with rfl | rfl <;> rfl
/-- append([]Rat(nil), x...) -/
theorem wp_copyQ {w : World} {o : Oper} {a : Act} {K : Act → World → Prop} {Q : Exit → Act → World → Prop} (s x : Operand) (hop : o.op = Op.call { callee := Callee.builtin Builtin.append, args := #[s, x], argTypes := #[36, 36] })
    (A : Option Addr) (n c : Nat) (f : Nat → Rat) (hs : a.eval s = .slice none 0 0) (hx : a.eval x = .slice A n c) (hr : RatsV w A n c f) (hn : n ≤ 1000000)
    (hK : ∀ A' c' w', RatsV w' A' n c' f → Ext w w' → K (a.put o.dst (.slice A' n c')) w') : Oper.wp Try.prog o a w K Q := by
  obtain ⟨i, hi, hz0, hz1, hz2⟩ := info_parts infoRat
  obtain ⟨xs, h1, h2, h3, h4, h5⟩ := rats_src hr
  refine wp_pushA s x 36 hop w.heap.size 59 i _ 4 64 Try.underlying36 hi hz0 hz1 hz2 rfl zRat _ 0 [] hs (OwnX.nil _ _ _ _) A n xs c hx h1 h2 h3 h4 (by omega) (by decide) (Nat.le_refl _) (fun v' w' o1 r _ => ?_)
  rw [Nat.zero_add, List.nil_append] at o1
  have hE : Ext w w' := r.ext (Ext.refl w) (fun g hg => by cases hg)
  obtain ⟨A', c', rfl⟩ := o1.shape
  have hq : OwnQ w' w.heap.size (.slice A' n c') n f := ⟨xs, o1, fun j hj => (h5 j hj).fr (P := fun _ => False) (Fr.of hE)⟩
  exact hK A' c' w' hq.rats.rats hE
theorem wpList_copyQ {w : World} {ops : Array Oper} {rest : List Oper} {o : Oper} {a : Act} {Q : Exit → Act → World → Prop} (hg : o.guard = none) (s x : Operand) (hop : o.op = Op.call { callee := Callee.builtin Builtin.append, args := #[s, x], argTypes := #[36, 36] })
    (A : Option Addr) (n c : Nat) (f : Nat → Rat) (hs : a.eval s = .slice none 0 0) (hx : a.eval x = .slice A n c) (hr : RatsV w A n c f) (hn : n ≤ 1000000)
    (hK : ∀ A' c' w', RatsV w' A' n c' f → Ext w w' → wpList Try.prog ops Q rest (a.put o.dst (.slice A' n c')) w') : wpList Try.prog ops Q (o :: rest) a w :=
  wpList_plain hg fun _ hK' => wp_copyQ s x hop A n c f hs hx hr hn (fun A' c' w' h1 h2 => hK' _ _ (hK A' c' w' h1 h2))
theorem step_copyQ {w : World} {ops : Array Oper} {o : Oper} {a : Act} {K : Act → World → Prop} {Q : Exit → Act → World → Prop} {Z : Prop} (hg : o.guard = none) (s x : Operand) (hop : o.op = Op.call { callee := Callee.builtin Builtin.append, args := #[s, x], argTypes := #[36, 36] })
    (A : Option Addr) (n c : Nat) (f : Nat → Rat) (hs : a.eval s = .slice none 0 0) (hx : a.eval x = .slice A n c) (hr : RatsV w A n c f) (hn : n ≤ 1000000)
    (hK : ∀ A' c' w', RatsV w' A' n c' f → Ext w w' → K (a.put o.dst (.slice A' n c')) w') : if Region.wanted o (yielded ops a.tmps) = true then Oper.wp Try.prog o a w K Q else Z := by
  have hw : Region.wanted o (yielded ops a.tmps) = true := by simp [Region.wanted, hg]
  rw [if_pos hw]
  exact wp_copyQ s x hop A n c f hs hx hr hn hK
/-- the list of a row replaced by a like one -/
theorem prows_set {w : World} {g k c' : Nat} {cs : Array Value} {rows : List RL} {r : RL} {A' : Option Addr} (hB : Box w g 62 cs) (hM : rows.length * 6 ≤ cs.size) (hP : PRows w (fun i => cs[i]?) rows) (hk : rows[k]? = some r) (hr : RatsV w A' r.coef.length c' (fun j => r.coef.getD j 0)) :
    Box (w.setCell ⟨g, k * 6, none⟩ (.slice A' r.coef.length c')) g 62 (cs.setIfInBounds (k * 6) (.slice A' r.coef.length c')) ∧
    PRows (w.setCell ⟨g, k * 6, none⟩ (.slice A' r.coef.length c')) (fun i => (cs.setIfInBounds (k * 6) (.slice A' r.coef.length c'))[i]?) rows ∧
    Fr (fun b => b = g) w (w.setCell ⟨g, k * 6, none⟩ (.slice A' r.coef.length c')) := by
  have hkl : k < rows.length := (List.getElem?_eq_some_iff.1 hk).1
  obtain ⟨A, c, x, B, d, e, y, B', d', e', g0, -⟩ := hP k r hk
  have g0' : cs[k * 6]? = some (.slice A r.coef.length c) := g0
  have hF : Fr (fun b => b = g) w (w.setCell ⟨g, k * 6, none⟩ (.slice A' r.coef.length c')) := (Fr.refl (fun b => b = g) w).set (p := ⟨g, k * 6, none⟩) (show g = g from rfl) (fun z => by
    rw [hB.cell (k * 6)]
    show cs[k * 6]? ≠ _
    rw [g0']; intro e; cases e) _
  have hno : ∀ b n f, RowR w b n f → ¬ b = g := fun b n f hR e => by
    subst e
    obtain ⟨cs', h, -⟩ := hR
    unfold Box at hB
    rw [hB] at h
    injection h with h
    injection h with h1 h2
    exact absurd h2 (by decide)
  refine ⟨hB.set _ _, fun j s hj => ?_, hF⟩
  have hjl : j < rows.length := (List.getElem?_eq_some_iff.1 hj).1
  have hX := (hP j s hj).fr hF hno
  by_cases e : j = k
  · subst e
    rw [hk] at hj
    injection hj with hj
    subst hj
    obtain ⟨A1, c1, x, B, d, e, y, B', d', e', h0, h1, h2, h3, h4, h5, h6, h7, h8⟩ := hX
    have ho : ∀ i, 0 < i → (cs.setIfInBounds (j * 6) (.slice A' r.coef.length c'))[j * 6 + i]? = cs[j * 6 + i]? := fun i hi => by
      rw [Array.getElem?_setIfInBounds_ne (by omega)]
    refine ⟨A', c', x, B, d, e, y, B', d', e', ?_, (ho 1 (by omega)).trans h1, (ho 2 (by omega)).trans h2, (ho 3 (by omega)).trans h3, (ho 4 (by omega)).trans h4, (ho 5 (by omega)).trans h5, h6, hr.fr hF hno, h8⟩
    show (cs.setIfInBounds (j * 6) (.slice A' r.coef.length c'))[j * 6]? = _
    rw [Array.getElem?_setIfInBounds_self_of_lt (by omega)]
  · refine hX.X fun i hi u hu => ?_
    show (cs.setIfInBounds (k * 6) (.slice A' r.coef.length c'))[j * 6 + i]? = some u
    rw [Array.getElem?_setIfInBounds_ne (by omega)]
    exact hu
theorem prows_prob2 {w : World} {obj : List Rat} {rows : List RL} {cs : Array Value} {Ao : Option Addr} {co g c : Nat} (hB : Box w g 62 cs) (h : PRows w (fun i => cs[i]?) rows) (ho : RatsV w Ao obj.length co (fun j => obj.getD j 0)) (hc : rows.length ≤ c) (hc2 : c ≤ 9223372036854775807) :
    ProbV w (.agg #[.slice Ao obj.length co, .slice (some ⟨g, 0, none⟩) rows.length c]) (⟨obj, rows⟩ : PL).toP := by
  have h8 : ∀ i u, cs[i]? = some u → w.cell? ⟨g, i, none⟩ = some u := fun i u hu => (hB.cell i).trans hu
  refine ⟨Ao, co, _, c, rfl, ho, hc, hc2, fun hm => ⟨g, rfl, fun i hi => ?_⟩⟩
  have hi' : i < rows.length := hi
  obtain ⟨A', c', x, B, d, e, y, B', d', e', g0, g1, g2, g3, g4, g5, h6, h7, h8'⟩ := h i rows[i] (List.getElem?_eq_getElem hi')
  have hrw : (⟨obj, rows⟩ : PL).rows.getD i RL.zero = rows[i] := by
    show rows.getD i RL.zero = rows[i]
    rw [List.getD_eq_getElem?_getD, List.getElem?_eq_getElem hi']; rfl
  refine ⟨A', c', x, B, d, e, y, B', d', e', ?_, ?_, h8 _ _ g2, h8 _ _ g3, h8 _ _ g4, h8 _ _ g5, ?_, ?_, ?_⟩
  · show _ = some (Value.slice A' ((⟨obj, rows⟩ : PL).rows.getD i RL.zero).coef.length c'); rw [hrw]; exact h8 _ _ g0
  · show _ = some (Value.int .u8 (((⟨obj, rows⟩ : PL).rows.getD i RL.zero).rel : Int)); rw [hrw]; exact h8 _ _ g1
  · show RatsV w A' ((⟨obj, rows⟩ : PL).rows.getD i RL.zero).coef.length c' (fun j => ((⟨obj, rows⟩ : PL).rows.getD i RL.zero).coef.getD j 0); rw [hrw]; exact h7
  · show ((⟨obj, rows⟩ : PL).rows.getD i RL.zero).rel ≤ 255; rw [hrw]; exact h6
  · show RatV w _ ((⟨obj, rows⟩ : PL).rows.getD i RL.zero).right; rw [hrw]; exact h8'
theorem Box.norow {w : World} {g : Nat} {E : TypeId} {cs : Array Value} (hB : Box w g E cs) (hE : E ≠ 59) : ∀ b n f, RowR w b n f → ¬ b = g := fun b n f hR e => by
  subst e
  obtain ⟨cs', h, -⟩ := hR
  unfold Box at hB
  rw [hB] at h
  injection h with h
  injection h with h1 h2
  exact hE h2
theorem Prob.toL_coef {p : Prob} (h : ∀ i, i < p.m → p.len i = p.n) {v : Nat} {f : Int} {b : Bool} : ∀ r ∈ p.toL.rows ++ [branL p.n v f b], r.coef.length = p.n := fun r hr => by
  rcases List.mem_append.1 hr with hr | hr
  · have hr : r ∈ (List.range p.m).map _ := hr
    obtain ⟨i, hi, rfl⟩ := List.mem_map.1 hr
    show ((List.range (p.len i)).map _).length = p.n
    rw [List.length_map, List.length_range, h i (List.mem_range.1 hi)]
  · obtain rfl := List.mem_singleton.1 hr
    show ((List.range p.n).map _).length = p.n
    simp
def BranchPost (p : Prob) (v : Nat) (f : Int) (b : Bool) (w : World) (e : Ending) (w' : World) : Prop := ∃ y, e = .returned y ∧ ProbV w' y (p.side v f b) ∧ Ext w w'
set_option maxHeartbeats 2000000 in
set_option maxRecDepth 100000 in
theorem Branch_b (x : Value) (p : Prob) (v : Nat) (f : Int) (b : Bool) (w : World) (hx : ProbV w x p) (hval : validB p = true) (hv : v < p.n) (hf : fit f = true) : Calls Try.prog 26 #[x, .int .i64 (v : Int), .int .i64 f, .bool b] w (BranchPost p v f b w) := by
  obtain ⟨Ao, co, Ar, cr, rfl, -⟩ := id hx
  have hp := validB_iff.1 hval
  have hnb := hp.2.1
  have hmb := hp.2.2.1
  have HLEN : Hid (∀ r ∈ p.toL.rows ++ [branL p.n v f b], r.coef.length = p.n) := Lib.hid (Prob.toL_coef (fun i hi => (hp.2.2.2 i hi).1))
  clear hp
  obtain ⟨PB, QB0, hE0⟩ := boxes2 w 39 #[.slice Ao p.n co, .slice Ar p.m cr] #[.slice none 0 0, .slice none 0 0]
  go_enter Try.func26, Try.ntmps26
  go_upto_region 1 with fail
  generalize ((w.alloc (.cells #[.slice Ao p.n co, .slice Ar p.m cr] 39)).alloc (.cells #[.slice none 0 0, .slice none 0 0] 39)) = V0 at *
  obtain ⟨qb, hqb⟩ : ∃ x, x = w.heap.size + 1 := ⟨_, rfl⟩
  obtain ⟨pb, hpb⟩ : ∃ x, x = w.heap.size := ⟨_, rfl⟩
  rw [← hqb] at QB0 ⊢
  rw [← hpb] at PB ⊢
  have hqs : w.heap.size ≤ qb := by omega
  clear hqb hpb
  have c0 := PB.c0
  have c1 := PB.c1
  go_wp2_with fail
  refine (Valid_b _ p _ (hx.ext hE0)).mono ?_
  rintro e w1 ⟨rfl, hx1⟩
  rw [hval]
  have PB := PB.ext hx1
  have QB1 := QB0.ext hx1
  have hE1 := hE0.trans hx1
  have hX1 := hx.ext hE1
  clear c0 c1 hx1 QB0 hE0 hx
  have c0 := PB.c0
  have c1 := PB.c1
  have i1 : decide ((v : Int) < 0) = false := by simp
  have i2 : decide (p.n ≤ v) = false := by simp; omega
  go_wp2_with fail
  refine (side_b _ p v f b _ hX1 hv (by omega) (by omega) hf).mono ?_
  rintro e w2 ⟨A1, d1, A2, d2, xs, rfl, hob, hown, hrows, hx2⟩
  obtain ⟨l1, l2⟩ := p.toL_len
  obtain ⟨rows, hrw⟩ : ∃ r, r = p.toL.rows ++ [branL p.n v f b] := ⟨_, rfl⟩
  have hlen : rows.length = p.m + 1 := by rw [hrw, List.length_append, l1]; rfl
  have HRW := Lib.hid hrw
  rw [← hrw] at hrows
  obtain ⟨M, hM⟩ : ∃ M, M = p.m + 1 := ⟨_, rfl⟩
  rw [← hM] at hown hlen ⊢
  have hM1 : 1 ≤ M := by omega
  have HM := Lib.hid hM
  clear hM
  obtain ⟨g, cap, e2, -, hg, h3, h4, ⟨cs, hB, hcs⟩, -, h8⟩ := hown.cells (by omega)
  injection e2 with e2 _ e3
  subst e2 e3
  have hcs2 : PRows w2 (fun i => cs[i]?) rows := fun j r hj => (hrows j r hj).X fun i hi u hu => by
    have := h8 _ _ hu
    rw [Box.cell (E := 62) hB] at this
    exact this
  have hB : Box w2 g 62 cs := hB
  clear i1 i2 hrows hown h8 c0 c1 PB hX1 hrw
  have QB2 := QB1.ext hx2
  have hE2 := hE1.trans hx2
  have hgw : w.heap.size ≤ g := Nat.le_trans hE1.size hg
  have hgq : g ≠ qb := by have := QB1.lt; omega
  clear hx2 hE1 QB1 hg
  go_upto_region 4 with fail
  have SB := Box.new w2 39 #[.slice A1 p.n d1, .slice (some ⟨g, 0, none⟩) M d2]
  have hx3 : Ext w2 (w2.alloc (.cells #[.slice A1 p.n d1, .slice (some ⟨g, 0, none⟩) M d2] 39)) := (Ext.refl w2).alloc _
  generalize (w2.alloc (.cells #[.slice A1 p.n d1, .slice (some ⟨g, 0, none⟩) M d2] 39)) = V3 at *
  obtain ⟨sb, hsb⟩ : ∃ x, x = w2.heap.size := ⟨_, rfl⟩
  have hgs : g ≠ sb := by have := hB.lt; omega
  have hws : w.heap.size ≤ sb := by rw [hsb]; exact hE2.size
  have hqn : qb ≠ sb := by have := QB2.lt; omega
  rw [← hsb] at SB ⊢
  clear hsb
  have hob := hob.ext hx3
  have hB := hB.ext hx3
  have hcs2 := hcs2.ext hx3
  have QB3 := QB2.ext hx3
  have hE3 := hE2.trans hx3
  clear hx3 hE2 QB2
  have s0 := SB.c0
  have z0 := SB.frozen 0
  go_upto_region 5 with (at_builtin; refine wpList_copyQ rfl _ _ rfl A1 p.n d1 p.obj rfl rfl hob (by omega) ?_; intro A4 c4 w4 hob4 hx4; have s0 := hx4.cell s0; have z0 := (SB.ext hx4).frozen 0)
  have hF4 : Fr (fun b => b = sb) w4 (w4.setCell ⟨sb, 0, none⟩ (.slice A4 p.n c4)) := (Fr.refl (fun b => b = sb) w4).set (p := ⟨sb, 0, none⟩) (show sb = sb from rfl) (fun z => by rw [s0]; intro e; cases e) _
  have hno := Box.norow (E := 39) (SB.ext hx4) (by decide)
  have SB4 : Box (w4.setCell ⟨sb, 0, none⟩ (.slice A4 p.n c4)) sb 39 #[.slice A4 p.n c4, .slice (some ⟨g, 0, none⟩) M d2] := (SB.ext hx4).set 0 _
  have hB4 := (hB.ext hx4).far (p := ⟨sb, 0, none⟩) hgs (.slice A4 p.n c4)
  have QB4 := (QB3.ext hx4).far (p := ⟨sb, 0, none⟩) hqn (.slice A4 p.n c4)
  have hob5 := hob4.fr hF4 hno
  have hcs4 := (hcs2.ext hx4).fr hF4 hno
  have hE4 := (hE3.trans hx4).set (p := ⟨sb, 0, none⟩) hws (.slice A4 p.n c4)
  generalize (w4.setCell ⟨sb, 0, none⟩ (.slice A4 p.n c4)) = V5 at *
  have s1 := SB4.c1
  clear hF4 hno s0 z0 SB QB3 hob hcs2 hE3 hB hob4 hx4
  go_wp2_with fail
  clear s1
  go_loopw [38] (fun i wr => ∃ k : Nat, k ≤ M ∧ i = .int .i64 k ∧ (∃ cs : Array Value, M * 6 ≤ cs.size ∧ Box wr g 62 cs ∧ PRows wr (fun i => cs[i]?) rows) ∧ Box wr sb 39 #[.slice A4 p.n c4, .slice (some ⟨g, 0, none⟩) M d2] ∧ Box wr qb 39 #[.slice none 0 0, .slice none 0 0] ∧ RatsV wr A4 p.n c4 p.obj ∧ Ext w wr) (fun i _ => M - (intOf i).toNat)
  case atStart => exact ⟨0, by omega, rfl, ⟨cs, hcs, hB4, hcs4⟩, SB4, QB4, hob5, hE4⟩
  case round =>
    clear hcs hcs4 hB4 SB4 QB4 hob5 hE4
    obtain ⟨k, hk, rfl, ⟨cs2, hcs, hBr, hPr⟩, SBr, QBr, hobr, hxr⟩ := hrel
    by_cases hlt : k < M
    · obtain ⟨r, hrk⟩ : ∃ r, rows[k]? = some r := ⟨_, List.getElem?_eq_getElem (by omega)⟩
      have HRK := Lib.hid hrk
      obtain ⟨A, c, x, B, d, e, y, B', d', e', g0, -, -, -, -, -, -, hrc, -⟩ := hPr k r hrk
      have hcc := hrc.1
      have hcl : r.coef.length ≤ 1000 := by
        rw [HLEN.out r (by rw [← HRW.out]; exact List.mem_of_getElem? hrk)]; exact hnb
      have g0 : wr.cell? ⟨g, k * 6, none⟩ = some (.slice A r.coef.length c) := (hBr.cell _).trans g0
      have s1 := SBr.c1
      have i1 : (0 : Int) ≤ (k : Int) := by omega
      have i2 : (k : Int) < (M : Int) := by omega
      clear hrk
      go_upto_region 8 with fail
      go_region_law (first
        | ((refine step_copyQ rfl (.const (.slice none 0 0)) (.tmp 49) rfl A r.coef.length c (fun j => r.coef.getD j 0) rfl rfl (RatsV.ext hrc (by repeat (first | (with_reducible exact Ext.refl _) | (with_reducible apply Ext.drew) | (with_reducible apply Ext.drewN)))) (by omega) ?_); intro A7 c7 y7 h7 x7; (have hx7 : Ext wr y7 := Ext.trans (by repeat (first | (with_reducible exact Ext.refl _) | (with_reducible apply Ext.drew) | (with_reducible apply Ext.drewN))) x7); (have s1 := hx7.cell s1); (have g0 := hx7.cell g0); (have zg := (hBr.ext hx7).frozen (k * 6)))
        )
      all_goals (
        obtain ⟨b1, b2, b3⟩ := prows_set (hBr.ext hx7) (by rw [hlen]; exact hcs) (hPr.ext hx7) HRK.out h7
        have hno : ∀ b n f, RowR y7 b n f → ¬ b = g := Box.norow (E := 62) (hBr.ext hx7) (by decide)
        have SB8 := (SBr.ext hx7).far (p := ⟨g, k * 6, none⟩) (Ne.symm hgs) (.slice A7 r.coef.length c7)
        have QB8 := (QBr.ext hx7).far (p := ⟨g, k * 6, none⟩) (Ne.symm hgq) (.slice A7 r.coef.length c7)
        have hob8 := (hobr.ext hx7).fr b3 hno
        have hx8 := (hxr.trans hx7).set (p := ⟨g, k * 6, none⟩) hgw (.slice A7 r.coef.length c7)
        go_wp2_with fail
        go_roundw
        case rel => exact ⟨k + 1, by omega, by go_num, ⟨_, by rw [Array.size_setIfInBounds]; exact hcs, b1, b2⟩, SB8, QB8, hob8, hx8⟩
        case measure => simp [intOf]; omega)
    · obtain rfl : k = M := by omega
      have hF : Fr (fun b => b = qb) wr ((wr.setCell ⟨qb, 0, none⟩ (.slice A4 p.n c4)).setCell ⟨qb, 1, none⟩ (.slice (some ⟨g, 0, none⟩) k d2)) :=
        ((Fr.refl (fun b => b = qb) wr).set (p := ⟨qb, 0, none⟩) (show qb = qb from rfl) (fun z => by rw [QBr.c0]; intro e; cases e) _).set (p := ⟨qb, 1, none⟩) (show qb = qb from rfl) (fun z => by rw [(QBr.set 0 (.slice A4 p.n c4)).cell 1]; intro e; cases e) _
      have hno : ∀ b n f, RowR wr b n f → ¬ b = qb := Box.norow (E := 39) QBr (by decide)
      have QBe := (QBr.set 0 (.slice A4 p.n c4)).set 1 (.slice (some ⟨g, 0, none⟩) k d2)
      have e0 := QBe.c0
      have e1 := QBe.c1
      have s0 := SBr.c0
      have s1 := SBr.c1
      have q0 := QBr.c0
      have q1 := QBr.c1
      have z0 := QBr.frozen 0
      have z1 := QBr.frozen 1
      have hPr2 := hPr.fr hF hno
      have hob2 := hobr.fr hF hno
      have hB2 := hF.box hBr hgq
      have hx2 := (hxr.set (p := ⟨qb, 0, none⟩) hqs (.slice A4 p.n c4)).set (p := ⟨qb, 1, none⟩) hqs (.slice (some ⟨g, 0, none⟩) k d2)
      have hpv := prows_prob2 (obj := p.toL.obj) (Ao := A4) (co := c4) hB2 hPr2 (by rw [l2]; exact hob2.congr (fun j hj => (getD_range _ _ hj).symm)) (by rw [hlen]; exact h3) h4
      rw [l2, hlen, HRW.out] at hpv
      have hpv := ProbV.side hpv
      clear hF hno hPr2 hob2 hB2 hcs hBr hPr hobr QBe
      go_wp2_with fail
      refine bodyPost_ret (v := .agg #[.slice A4 p.n c4, .slice (some ⟨g, 0, none⟩) k d2]) (by simp [results, Try.results26, go_sem, e0, e1]) rfl ?_
      exact ⟨_, rfl, hpv, hx2⟩
end Go.Proofs.Ythafabkjidifeaa.Lp

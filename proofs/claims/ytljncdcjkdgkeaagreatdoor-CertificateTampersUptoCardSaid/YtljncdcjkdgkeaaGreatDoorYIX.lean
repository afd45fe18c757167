/- Walk: side of ilp. -/
import Derived.BigRegion
import Derived.Test.YtljncdcjkdgkeaaGreatDoorYIY0
import Derived.Test.YtljncdcjkdgkeaaGreatDoorYCardU
set_option linter.unusedVariables false
set_option linter.unusedSimpArgs false
namespace Go.Proofs.YtljncdcjkdgkeaaGreatDoor.Lp
open Go.RowKit Go.Proofs.YtljncdcjkdgkeaaGreatDoor.Big Go.Proofs.YtljncdcjkdgkeaaGreatDoor.Rt
def qtp (n : Nat) : Array Value := madeCells (Value.agg #[.slice none 0 0, .int .u8 0, .bool false, .slice none 0 0, .bool false, .slice none 0 0]).cells (n * 6)
theorem qsq (n : Nat) (hn : n ≤ 1099511627776) (w : World) : (Instr.makeSlice 39 (.int .i64 0) (.int .i64 (n : Int))).run Tryz.prog w = .ok (.slice (some ⟨w.heap.size, 0, none⟩) 0 n) (w.alloc (.cells (qtp n) 75)) := by
 obtain ⟨i0, hi, hz0, hz1, hz2⟩ := info_parts qqi
 have h := run_make (P := Tryz.prog) w 39 75 i0 _ Tryz.underlying39 hi hz0 .i64 .i64 0 n (by omega) (by omega) (by rw [hz2]; omega) (by omega)
 simp only [Int.toNat_natCast, Int.toNat_zero] at h
 rw [hz1] at h
 exact h
theorem q3b {w w' : World} {n : Nat} (hn : n ≤ 1099511627776) (hx : Ext (w.alloc (.cells (qtp n) 75)) w') : OwnX w' w.heap.size 75 6 (.slice (some ⟨w.heap.size, 0, none⟩) 0 n) 0 [] := by
 have hB := (Box.new w 75 (qtp n)).ext hx
 refine ⟨rfl, .inr ⟨w.heap.size, n, qtp n, rfl, Nat.le_refl _, hB, Nat.zero_le _, by unfold maxLen; omega, by unfold qtp; rw [size_madeCells], by simp, fun u hu => ?_⟩⟩
 have e : qtp n = Builtin.zeroCells (Value.agg #[.slice none 0 0, .int .u8 0, .bool false, .slice none 0 0, .bool false, .slice none 0 0]).cells n := rfl
 rw [e] at hu
 exact q2s zRow _ u hu
def qit (p : Prob) (v : Nat) (f : Int) (b : Bool) (w : World) (e : Ending) (w' : World) : Prop :=
 ∃ Ao co Ar cr xs, e = .returned (.agg #[.slice Ao p.n co, .slice Ar (p.m + 1) cr]) ∧ q94 w' Ao p.n co p.obj ∧ OwnX w' w.heap.size 75 6 (.slice Ar (p.m + 1) cr) (p.m + 1) xs ∧ q5k w' (fun i => xs[i]?) (p.toL.rows ++ [qgh p.n v f b]) ∧ Ext w w'
theorem Prob.toL_len (p : Prob) : p.toL.rows.length = p.m ∧ p.toL.obj.length = p.n := ⟨by show ((List.range p.m).map _).length = _; simp, by show ((List.range p.n).map _).length = _; simp⟩
theorem qit.prob {p : Prob} {v : Nat} {f : Int} {b : Bool} {w w' : World} {e : Ending} (h : qit p v f b w e w') : ∃ y, e = .returned y ∧ qga w' y (p.side v f b) ∧ Ext w w' := by
 obtain ⟨Ao, co, Ar, cr, xs, rfl, h1, h2, h3, h4⟩ := h
 obtain ⟨l1, l2⟩ := p.toL_len
 refine ⟨_, rfl, qga.side ?_, h4⟩
 have hl : (p.toL.rows ++ [qgh p.n v f b]).length = p.m + 1 := by rw [List.length_append, l1]; rfl
 have := qpe (obj := p.toL.obj) (rows := p.toL.rows ++ [qgh p.n v f b]) (base := w.heap.size) (v := .slice Ar (p.m + 1) cr) (xs := xs) (Ao := Ao) (co := co) (by rw [hl]; exact h2) h3 (by
  rw [l2]; exact h1.congr (fun j hj => (qnl _ _ hj).symm))
 rw [l2] at this
 exact this
theorem qwv {w : World} {ops : Array Oper} {rest : List Oper} {o : Oper} {a : Act} {Q : Exit → Act → World → Prop}
 (hg : o.guard = none) (s x : Operand) (t : TypeId) (hop : o.op = Op.call { callee := Callee.builtin Builtin.append, args := #[s, x], argTypes := #[t, t] })
 (base : Nat) (e : TypeId) (i : TypeInfo) (z : Value) (k bytes : Nat) (h1 : Tryz.prog.underlying t = some (.slice e)) (h2 : Tryz.prog.info? e = some i) (h3 : i.zero = some z) (h4 : i.size = k) (h5 : i.bytes = bytes) (h6 : z.cells.size = k) (hz : ∀ u ∈ z.cells.toList, noU u = true)
 (v : Value) (n : Nat) (xs : List Value) (hs : a.eval s = v) (hown : OwnX w base e k v n xs) (A : Option Addr) (m : Nat) (news : List Value) (c : Nat) (hx : a.eval x = .slice A m c) (hnl : news.length = m * k) (hsrc : 0 < m → ∃ ad, A = some ad ∧ ∀ j y, news[j]? = some y → w.cell? (ad.add j) = some y) (h1c : ∀ y ∈ news, y.oneCell' = true) (hnu : ∀ y ∈ news, noU y = true)
 (b1 : n + m ≤ 1099511627776) (b2 : bytes ≤ 128) (hbase : base ≤ w.heap.size)
 (hK : ∀ v' w', OwnX w' base e k v' (n + m) (xs ++ news) → Fr (fun g => v.ownBlock = some g) w w' → qyo w v v' → wpList Tryz.prog ops Q rest (a.put o.dst v') w') :
 wpList Tryz.prog ops Q (o :: rest) a w :=
 wpList_plain hg fun _ hK' => q0s s x t hop base e i z k bytes h1 h2 h3 h4 h5 h6 hz v n xs hs hown A m news c hx hnl hsrc h1c hnu b1 b2 hbase (fun v' w' h1 h2 h3 => hK' _ _ (hK v' w' h1 h2 h3))
theorem qga.src {w : World} {Ao Ar : Option Addr} {n m co cr : Nat} {P : PL} (h : qga w (.agg #[.slice Ao n co, .slice Ar m cr]) P.toP) :
 ∃ xs : List Value, xs.length = m * 6 ∧ (0 < m → ∃ ad, Ar = some ad ∧ ∀ j y, xs[j]? = some y → w.cell? (ad.add j) = some y) ∧ (∀ y ∈ xs, y.oneCell' = true) ∧ (∀ y ∈ xs, noU y = true) ∧ q5k w (fun i => xs[i]?) P.rows := by
 obtain ⟨Ao', co', Ar', cr', e, h1, h2, h3, h4⟩ := h
 injection e with e
 have e1 : Value.slice Ar m cr = Value.slice Ar' P.rows.length cr' := by
  have := congrArg (fun a : Array Value => a[1]?) e
  simp only [List.getElem?_toArray, List.getElem?_cons_succ, List.getElem?_cons_zero, Option.some.injEq] at this
  exact this
 injection e1 with e1 e2 e3
 subst e1 e2 e3
 rcases Nat.eq_zero_or_pos P.rows.length with hm | hm
 ·refine ⟨[], by simp [hm], fun h => absurd h (by omega), by simp, by simp, fun j r hj => ?_⟩
  have := (List.getElem?_eq_some_iff.1 hj).1
  omega
 ·obtain ⟨br, e4, hrow⟩ := h4 hm
  obtain ⟨xs, g1, g2, g3, g4, g5⟩ := prows_src (w := w) (b := br) (off := 0) (rows := P.rows) (fun j r hj => by
   have hjl : j < P.rows.length := (List.getElem?_eq_some_iff.1 hj).1
   have hrw : P.rows.getD j RL.zero = r := by rw [List.getD_eq_getElem?_getD, hj]; rfl
   obtain ⟨Ac, cc, x, A, d, e', y, A', d', e'', k0, k1, k2, k3, k4, k5, q1, q2, q3⟩ := hrow j hjl
   have k0' : w.cell? ⟨br, j * 6, none⟩ = some (.slice Ac (P.rows.getD j RL.zero).coef.length cc) := k0
   have k1' : w.cell? ⟨br, j * 6 + 1, none⟩ = some (.int .u8 ((P.rows.getD j RL.zero).rel : Int)) := k1
   have q1' : q94 w Ac (P.rows.getD j RL.zero).coef.length cc (fun i => (P.rows.getD j RL.zero).coef.getD i 0) := q1
   have q2' : (P.rows.getD j RL.zero).rel ≤ 255 := q2
   have q3' : RatV w (.agg #[.bool x, .slice A d e', .bool y, .slice A' d' e'']) (P.rows.getD j RL.zero).right := q3
   rw [hrw] at k0' k1' q1' q2' q3'
   refine ⟨Ac, cc, x, A, d, e', y, A', d', e'', ?_, ?_, ?_, ?_, ?_, ?_, q2', q1', q3'⟩ <;> simp only [Nat.zero_add]
   ·exact k0'
   ·exact k1'
   ·exact k2
   ·exact k3
   ·exact k4
   ·exact k5)
  exact ⟨xs, g1, fun _ => ⟨_, e4, g2⟩, g3, g4, g5⟩
theorem row5 {w : World} {rb bc n r0 : Nat} {s : Value} {x1 x2 : Bool} {X1 X2 : Option Addr} {u1 u2 u3 u4 : Nat} {g : Nat → Rat} {q : Rat} {y1 y2 : Bool} {Y1 Y2 : Option Addr} {t1 t2 t3 t4 : Nat}
 (hB : Box w rb 75 #[s, .int .u8 (r0 : Int), .bool x1, .slice X1 u1 u2, .bool x2, .slice X2 u3 u4]) (hne : rb ≠ bc) (hz : RowR w bc n g) (hq : RatV w (.agg #[.bool y1, .slice Y1 t1 t2, .bool y2, .slice Y2 t3 t4]) q) (r : Int) :
 Box (((((w.setCell ⟨rb, 1, none⟩ (.int .u8 r)).setCell ⟨rb, 2, none⟩ (.bool y1)).setCell ⟨rb, 3, none⟩ (.slice Y1 t1 t2)).setCell ⟨rb, 4, none⟩ (.bool y2)).setCell ⟨rb, 5, none⟩ (.slice Y2 t3 t4)) rb 75 #[s, .int .u8 r, .bool y1, .slice Y1 t1 t2, .bool y2, .slice Y2 t3 t4] ∧
 RowR (((((w.setCell ⟨rb, 1, none⟩ (.int .u8 r)).setCell ⟨rb, 2, none⟩ (.bool y1)).setCell ⟨rb, 3, none⟩ (.slice Y1 t1 t2)).setCell ⟨rb, 4, none⟩ (.bool y2)).setCell ⟨rb, 5, none⟩ (.slice Y2 t3 t4)) bc n g ∧
 RatV (((((w.setCell ⟨rb, 1, none⟩ (.int .u8 r)).setCell ⟨rb, 2, none⟩ (.bool y1)).setCell ⟨rb, 3, none⟩ (.slice Y1 t1 t2)).setCell ⟨rb, 4, none⟩ (.bool y2)).setCell ⟨rb, 5, none⟩ (.slice Y2 t3 t4)) (.agg #[.bool y1, .slice Y1 t1 t2, .bool y2, .slice Y2 t3 t4]) q ∧
 ∀ a, Ext a w → a.heap.size ≤ rb → Ext a (((((w.setCell ⟨rb, 1, none⟩ (.int .u8 r)).setCell ⟨rb, 2, none⟩ (.bool y1)).setCell ⟨rb, 3, none⟩ (.slice Y1 t1 t2)).setCell ⟨rb, 4, none⟩ (.bool y2)).setCell ⟨rb, 5, none⟩ (.slice Y2 t3 t4)) := by
 have B1 := hB.set 1 (.int .u8 r)
 have B2 := B1.set 2 (.bool y1)
 have B3 := B2.set 3 (.slice Y1 t1 t2)
 have B4 := B3.set 4 (.bool y2)
 have B5 := B4.set 5 (.slice Y2 t3 t4)
 have hF : Fr (fun k => k = rb) w (((((w.setCell ⟨rb, 1, none⟩ (.int .u8 r)).setCell ⟨rb, 2, none⟩ (.bool y1)).setCell ⟨rb, 3, none⟩ (.slice Y1 t1 t2)).setCell ⟨rb, 4, none⟩ (.bool y2)).setCell ⟨rb, 5, none⟩ (.slice Y2 t3 t4)) := by
  refine (((((Fr.refl (fun k => k = rb) w).set (p := ⟨rb, 1, none⟩) rfl (fun z => ?_) _).set (p := ⟨rb, 2, none⟩) rfl (fun z => ?_) _).set (p := ⟨rb, 3, none⟩) rfl (fun z => ?_) _).set (p := ⟨rb, 4, none⟩) rfl (fun z => ?_) _).set (p := ⟨rb, 5, none⟩) rfl (fun z => ?_) _
  ·rw [hB.cell 1]; intro e; cases e
  ·rw [B1.cell 2]; intro e; cases e
  ·rw [B2.cell 3]; intro e; cases e
  ·rw [B3.cell 4]; intro e; cases e
  ·rw [B4.cell 5]; intro e; cases e
 exact ⟨B5, hz.fr hF (Ne.symm hne), hF.rat hq, fun a ha hr => hF.ext ha (fun b hb => hb ▸ hr)⟩
theorem qv5 {p : Prob} {v n m : Nat} {f G R : Int} {b : Bool} {w wc y7 : World} {Ao A7 : Option Addr} {co d7 qb ob bc : Nat} {news : List Value} {y1 y2 : Bool} {Y1 Y2 : Option Addr} {t1 t2 t3 t4 : Nat}
 (hE : Ext wc y7) (hw : Ext w wc) (hqs : w.heap.size ≤ qb) (hoc : w.heap.size ≤ ob) (QB : Box y7 qb 41 #[.slice none 0 0, .slice none 0 0]) (hob : q94 wc Ao n co p.obj) (hl : news.length = p.toL.rows.length * 6) (n5 : q5k wc (fun i => news[i]?) p.toL.rows) (hn : n ≤ 1000)
 (hRow : RowR wc bc n (fun j => if j = v then ((1 : Int) : Rat) else 0)) (hQ : RatV wc (.agg #[.bool y1, .slice Y1 t1 t2, .bool y2, .slice Y2 t3 t4]) (G : Rat)) (hR : R = if b = true then 3 else 1) (hG : G = f + (if b = true then 1 else 0))
 (o7 : OwnX y7 ob 75 6 (.slice A7 (m + 1) d7) (m + 1) (news ++ [.slice (some ⟨bc, 0, none⟩) n n, .int .u8 R, .bool y1, .slice Y1 t1 t2, .bool y2, .slice Y2 t3 t4])) :
 q94 ((y7.setCell ⟨qb, 0, none⟩ (.slice Ao n co)).setCell ⟨qb, 1, none⟩ (.slice A7 (m + 1) d7)) Ao n co p.obj ∧
 OwnX ((y7.setCell ⟨qb, 0, none⟩ (.slice Ao n co)).setCell ⟨qb, 1, none⟩ (.slice A7 (m + 1) d7)) w.heap.size 75 6 (.slice A7 (m + 1) d7) (m + 1) (news ++ [.slice (some ⟨bc, 0, none⟩) n n, .int .u8 R, .bool y1, .slice Y1 t1 t2, .bool y2, .slice Y2 t3 t4]) ∧
 q5k ((y7.setCell ⟨qb, 0, none⟩ (.slice Ao n co)).setCell ⟨qb, 1, none⟩ (.slice A7 (m + 1) d7)) (fun i => (news ++ [Value.slice (some ⟨bc, 0, none⟩) n n, .int .u8 R, .bool y1, .slice Y1 t1 t2, .bool y2, .slice Y2 t3 t4])[i]?) (p.toL.rows ++ [qgh n v f b]) ∧
 Ext w ((y7.setCell ⟨qb, 0, none⟩ (.slice Ao n co)).setCell ⟨qb, 1, none⟩ (.slice A7 (m + 1) d7)) := by
 have hF : Fr (fun k => k = qb) y7 ((y7.setCell ⟨qb, 0, none⟩ (.slice Ao n co)).setCell ⟨qb, 1, none⟩ (.slice A7 (m + 1) d7)) :=
  ((Fr.refl (fun k => k = qb) y7).set (p := ⟨qb, 0, none⟩) rfl (fun z => by rw [QB.c0]; intro e; cases e) _).set (p := ⟨qb, 1, none⟩) rfl (fun z => by rw [(QB.set 0 _).cell 1]; intro e; cases e) _
 have hne := box_ne QB (by decide)
 have hrel : (qgh n v f b).rel ≤ 255 := by show (if b = true then 3 else 1) ≤ 255; split <;> omega
 have hcl : (qgh n v f b).coef.length = n := by show ((List.range n).map _).length = n; simp
 have hX : PRX y7 (fun i => [Value.slice (some ⟨bc, 0, none⟩) n n, .int .u8 R, .bool y1, .slice Y1 t1 t2, .bool y2, .slice Y2 t3 t4][i]?) 0 (qgh n v f b) := by
  refine ⟨some ⟨bc, 0, none⟩, n, y1, Y1, t1, t2, y2, Y2, t3, t4, ?_, ?_, rfl, rfl, rfl, rfl, hrel, ?_, ?_⟩
  ·rw [hcl]; rfl
  ·have e : ((qgh n v f b).rel : Int) = R := by
    rw [hR]; show ((if b = true then 3 else 1 : Nat) : Int) = _
    cases b <;> rfl
   rw [e]; rfl
  ·rw [hcl]
   refine ⟨Nat.le_refl _, by omega, fun _ => ⟨bc, rfl, (hRow.ext hE).congr (fun j hj => ?_)⟩⟩
   show _ = ((List.range n).map (fun j => if j = v then (1 : Rat) else 0)).getD j 0
   rw [qnl _ _ hj]
   split <;> rfl
  ·show RatV y7 _ ((f + (if b = true then 1 else 0) : Int) : Rat)
   rw [← hG]; exact hQ.ext hE
 refine ⟨((hob.ext hE).fr hF hne), (o7.fr hF (fun g hg e => by obtain ⟨-, -, cur, hcur⟩ := o7.lt hg; exact qb8 QB hcur (by decide) e.symm)).up hoc, ((n5.ext hE).push hl hX).fr hF hne, hF.ext (hw.trans hE) (fun k hk => hk ▸ hqs)⟩
attribute [local go_sem] Go.World.cell?_alloc_some Go.RowKit.frozen?_alloc_cells
set_option maxHeartbeats 16000000 in
set_option maxRecDepth 100000 in
theorem qky (x : Value) (p : Prob) (v : Nat) (f : Int) (b : Bool) (w : World) (hx : qga w x p) (hv : v < p.n) (hn : p.n ≤ 1000) (hm : p.m ≤ 1000) (hf : fit f = true) : Calls Tryz.prog 88 #[x, .int .i64 (v : Int), .int .i64 f, .bool b] w (qit p v f b w) := by
 have hx0 := hx.toL
 obtain ⟨Ao, co, Ar, cr, rfl, hob, hmc, hcr, hrows⟩ := hx
 obtain ⟨f1, f2⟩ := fit_iff.1 hf
 obtain ⟨n, hnn⟩ : ∃ n, n = p.n := ⟨_, rfl⟩
 obtain ⟨m, hmm⟩ : ∃ n, n = p.m := ⟨_, rfl⟩
 have HP : Hid (∀ e w', qit p v f b w e w' ↔ (∃ Ao co Ar cr xs, e = .returned (.agg #[.slice Ao n co, .slice Ar (m + 1) cr]) ∧ q94 w' Ao n co p.obj ∧ OwnX w' w.heap.size 75 6 (.slice Ar (m + 1) cr) (m + 1) xs ∧ q5k w' (fun i => xs[i]?) (p.toL.rows ++ [qgh n v f b]) ∧ Ext w w')) := Lib.hid (fun e w' => by rw [hnn, hmm]; exact Iff.rfl)
 rw [← hnn, ← hmm] at hx0
 rw [← hnn] at hob hv hn
 rw [← hmm] at hmc hm hrows
 rw [← hnn, ← hmm]
 have hcn := hob.1
 have hcn2 := hob.2.1
 have HM := Lib.hid hmm
 clear hnn hmm
 obtain ⟨PB, QB0, hE0⟩ := qc5 w 41 #[.slice Ao n co, .slice Ar m cr] #[.slice none 0 0, .slice none 0 0]
 have hmk := qee n (by omega)
 go_enter Tryz.func88, Tryz.ntmps88
 go_upto_region 1 with fail
 generalize ((w.alloc (.cells #[.slice Ao n co, .slice Ar m cr] 41)).alloc (.cells #[.slice none 0 0, .slice none 0 0] 41)) = V0 at *
 obtain ⟨qb, hqb⟩ : ∃ x, x = w.heap.size + 1 := ⟨_, rfl⟩
 obtain ⟨pb, hpb⟩ : ∃ x, x = w.heap.size := ⟨_, rfl⟩
 rw [← hqb] at QB0 ⊢
 rw [← hpb] at PB ⊢
 have hqs : w.heap.size ≤ qb := by omega
 have hpq : pb ≠ qb := by omega
 clear hqb hpb
 have hy1 : -9223372036854775808 ≤ f := f1
 have k0 : ∀ w', Later V0 w' → w'.cell? ⟨pb, 0, none⟩ = some (.slice Ao n co) := fun w' h => (PB.ext h).c0
 have ks := Later.refl V0
 go_cut [9] (fun v wx => ∃ (rb bc : Nat) (x1 x2 : Bool) (X1 X2 : Option Addr) (u1 u2 u3 u4 : Nat), v = .pointer (some ⟨rb, 0, none⟩) ∧ Box wx rb 75 #[.slice (some ⟨bc, 0, none⟩) n n, .int .u8 1, .bool x1, .slice X1 u1 u2, .bool x2, .slice X2 u3 u4] ∧ RowR wx bc n (fun _ => 0) ∧
  RatB wx (.agg #[.bool x1, .slice X1 u1 u2, .bool x2, .slice X2 u3 u4]) (f : Rat) 2 ∧ (V0.heap.size ≤ bc ∧ V0.heap.size ≤ rb) ∧ Ext V0 wx)
 case first =>
  refine wp_region_held_drew (S := fun w' => Later V0 w') (by kernel_rfl) ?_ (fun hHeld => ?_)
  ·(try dsimp only); (repeat (first | (with_reducible assumption) | (with_reducible apply Later.drew) | (with_reducible apply Later.drewN) | (with_reducible apply Later.alloc) | (with_reducible refine qhu ?_ (by first | exact Nat.le_refl _ | exact Nat.le_succ _ | exact Later.size (by assumption) | exact Nat.le_succ_of_le (Later.size (by assumption))) _ _ _ _ _ _) | (with_reducible refine Later.step ?_ (by assumption))))
  repeat' (first
   | simp only [Act.put, sqa, sqb, sqc]
   | (
    first
     | refine tky (i := 0) (oi := { dst := some 11, op := Op.fieldAddr 41 (Operand.tmp 4) 0, type := 0, pos := "ilp.go:132", after := #[], guard := none }) (v := ?_) rfl ?_ (by assumption) ?_
     | refine tky (i := 1) (oi := { dst := some 12, op := Op.load 38 (Operand.tmp 11), type := 38, pos := "ilp.go:132", after := #[{ on := 0, ground := Ground.data }], guard := none }) (v := ?_) rfl ?_ (by assumption) ?_
     | refine tky (i := 2) (oi := { dst := some 13, op := Op.call { callee := Callee.builtin Builtin.len, args := #[Operand.tmp 12], argTypes := #[38] }, type := 3, pos := "ilp.go:132", after := #[{ on := 1, ground := Ground.data }], guard := none }) (v := ?_) rfl ?_ (by assumption) ?_
     | refine tky (i := 4) (oi := { dst := some 15, op := Op.move (Operand.tmp 2), type := 3, pos := "ilp.go:132", after := #[], guard := none }) (v := ?_) rfl ?_ (by assumption) ?_
     | refine tky (i := 6) (oi := { dst := some 17, op := Op.build 75 #[(0, Operand.tmp 14), (1, Operand.const (Value.int IntKind.u8 1)), (2, Operand.tmp 16)], type := 75, pos := "ilp.go:132", after := #[{ on := 3, ground := Ground.data }, { on := 5, ground := Ground.data }], guard := none }) (v := ?_) rfl ?_ (by assumption) ?_
    rotate_left
    ·intro w hSw; (try dsimp only at hSw); go_simp; try (with_reducible rfl))
   | refine wpAnyH_ready (rs := [3, 5, 7]) (by decide +kernel) (by simp) ?_
   | refine wpAnyH_ready (rs := [5, 7]) (by decide +kernel) (by simp) ?_
   | refine wpAnyH_ready (rs := [7]) (by decide +kernel) (by simp) ?_
   | refine wpAnyH_ready (rs := [8]) (by decide +kernel) (by simp) ?_
   | refine wpAnyH_ready (rs := [5]) (by decide +kernel) (by simp) ?_
   | refine wpAnyH_ready (rs := [3, 7]) (by decide +kernel) (by simp) ?_
   | refine wpAnyH_ready (rs := [3]) (by decide +kernel) (by simp) ?_
   | refine wpAnyH_ready (rs := [3, 5]) (by decide +kernel) (by simp) ?_
   | (
    refine AllReadyH.cons (o := { dst := some 14, op := Op.makeSlice 38 (Operand.tmp 13) (Operand.tmp 13), type := 38, pos := "ilp.go:132", after := #[{ on := 2, ground := Ground.data }, { on := 2, ground := Ground.data }], guard := none }) rfl (fun K hK => ?_) ?_
    go_simp
    try (go_wp2_with fail)
    refine hK.out _ _ ?_ (fun hHeld => ?_)
    ·(try dsimp only); (repeat (first | (with_reducible assumption) | (with_reducible apply Later.drew) | (with_reducible apply Later.drewN) | (with_reducible apply Later.alloc) | (with_reducible refine qhu ?_ (by first | exact Nat.le_refl _ | exact Nat.le_succ _ | exact Later.size (by assumption) | exact Nat.le_succ_of_le (Later.size (by assumption))) _ _ _ _ _ _) | (with_reducible refine Later.step ?_ (by assumption))))
    clear hK K)
   | (
    refine AllReadyH.cons (o := { dst := some 16, op := Op.call { callee := Callee.value (Operand.func 20), args := #[Operand.tmp 15], argTypes := #[3] }, type := 58, pos := "ilp.go:132", after := #[{ on := 4, ground := Ground.data }], guard := none }) rfl (fun K hK => ?_) ?_
    go_simp
    first
     | (go_at_call 20; (with_reducible refine (qfw f _ (by omega) (by omega)).mono ?_); rintro e wl ⟨vl, rfl, hbl, hxl⟩; (obtain ⟨pl, Al, nl, cl, pl', Al', nl', cl', rfl⟩ := hbl.1.shape); (have hSl := Later.step (by assumption) hxl); (have hEl : Ext V0 wl := hSl); (try (have bq : Box wl V0.heap.size 75 #[.slice none 0 0, .int .u8 0, .bool false, .slice none 0 0, .bool false, .slice none 0 0] := by with_reducible exact qkk hxl)); (try (have bq : Box wl V0.heap.size 75 #[.slice none 0 0, .int .u8 0, .bool false, .slice none 0 0, .bool false, .slice none 0 0] := by with_reducible exact q9s hxl)); (try (have bq : Box wl (V0.heap.size + 1) 75 #[.slice none 0 0, .int .u8 0, .bool false, .slice none 0 0, .bool false, .slice none 0 0] := by with_reducible exact qju hxl)); (try (have bz : Box wl V0.heap.size 58 (qdu n) := by with_reducible exact qkk hxl)); (try (have bz : Box wl V0.heap.size 58 (qdu n) := by with_reducible exact q9s hxl)); (try (have bz : Box wl (V0.heap.size + 1) 58 (qdu n) := by with_reducible exact qju hxl)))
    try (go_wp2_with fail)
    refine hK.out _ _ ?_ (fun hHeld => ?_)
    ·(try dsimp only); (repeat (first | (with_reducible assumption) | (with_reducible apply Later.drew) | (with_reducible apply Later.drewN) | (with_reducible apply Later.alloc) | (with_reducible refine qhu ?_ (by first | exact Nat.le_refl _ | exact Nat.le_succ _ | exact Later.size (by assumption) | exact Nat.le_succ_of_le (Later.size (by assumption))) _ _ _ _ _ _) | (with_reducible refine Later.step ?_ (by assumption))))
    clear hK K)
   | (
    refine AllReadyH.cons (o := { dst := some 9, op := Op.alloc 75, type := 0, pos := "ilp.go:132", after := #[], guard := none }) rfl (fun K hK => ?_) ?_
    go_simp
    try (go_wp2_with fail)
    refine hK.out _ _ ?_ (fun hHeld => ?_)
    ·(try dsimp only); (repeat (first | (with_reducible assumption) | (with_reducible apply Later.drew) | (with_reducible apply Later.drewN) | (with_reducible apply Later.alloc) | (with_reducible refine qhu ?_ (by first | exact Nat.le_refl _ | exact Nat.le_succ _ | exact Later.size (by assumption) | exact Nat.le_succ_of_le (Later.size (by assumption))) _ _ _ _ _ _) | (with_reducible refine Later.step ?_ (by assumption))))
    clear hK K)
   | (
    refine AllReadyH.cons (o := { dst := none, op := Op.store 75 (Operand.tmp 9) (Operand.tmp 17), type := 0, pos := "ilp.go:132", after := #[{ on := 7, ground := Ground.data }, { on := 6, ground := Ground.data }, { on := 5, ground := Ground.chain }, { on := 0, ground := Ground.phase }, { on := 1, ground := Ground.phase }, { on := 2, ground := Ground.phase }, { on := 3, ground := Ground.phase }, { on := 4, ground := Ground.phase }, { on := 5, ground := Ground.phase }, { on := 6, ground := Ground.phase }, { on := 7, ground := Ground.phase }], guard := none }) rfl (fun K hK => ?_) ?_
    refine qqh rfl (.tmp 9) (.tmp 17) rfl _ 0 _ _ _ _ _ _ rfl rfl (there6 (by first | (with_reducible exact bq) | (with_reducible exact Box.alloc bq _) | (with_reducible exact Box.new _ _ _) | (with_reducible exact Box.new2 _ _ _ _) | (with_reducible exact Box.alloc (Box.new _ _ _) _))) (all_oneCell_toArray one6) ?_
    simp only [Act.put]
    refine hK.out _ _ ?_ (fun hHeld => ?_)
    ·(try dsimp only); (repeat (first | (with_reducible assumption) | (with_reducible apply Later.drew) | (with_reducible apply Later.drewN) | (with_reducible apply Later.alloc) | (with_reducible refine qhu ?_ (by first | exact Nat.le_refl _ | exact Nat.le_succ _ | exact Later.size (by assumption) | exact Nat.le_succ_of_le (Later.size (by assumption))) _ _ _ _ _ _) | (with_reducible refine Later.step ?_ (by assumption))))
    clear hK K)
   | exact AllReadyH.nil
   | (
    refine wpAnyH_done (by decide +kernel) ?_ _
    go_wp2_with fail
    go_meet
    exact ⟨_, _, _, _, _, _, _, _, _, _, rfl, qyz (by first | (with_reducible exact bq) | (with_reducible exact Box.alloc bq _) | (with_reducible exact Box.new _ _ _) | (with_reducible exact Box.new2 _ _ _ _) | (with_reducible exact Box.alloc (Box.new _ _ _) _)) (by first | (with_reducible exact bz) | (with_reducible exact Box.alloc bz _) | (with_reducible exact Box.new _ _ _) | (with_reducible exact Box.new2 _ _ _ _) | (with_reducible exact Box.alloc (Box.new _ _ _) _)) (by first | (with_reducible exact hbl) | (with_reducible exact hbl.ext ((Ext.refl _).alloc _)) | (with_reducible exact hbl.ext (((Ext.refl _).alloc _).alloc _))) (by first | (with_reducible exact hEl) | (with_reducible exact Ext.alloc hEl _) | (with_reducible exact Ext.alloc (Ext.alloc hEl _) _)) (by first | (with_reducible exact Nat.le_refl _) | (with_reducible exact Nat.le_succ _) | (with_reducible exact Ext.size hEl) | (with_reducible exact Nat.le_succ_of_le (Ext.size hEl))) (by first | (with_reducible exact Nat.le_refl _) | (with_reducible exact Nat.le_succ _) | (with_reducible exact Ext.size hEl) | (with_reducible exact Nat.le_succ_of_le (Ext.size hEl)))⟩)
   )
 case rest =>
  obtain ⟨rb, bc, x1, x2, X1, X2, u1, u2, u3, u4, rfl, hRB, hZR, hQB, ⟨hbc, hrb⟩, hXc⟩ := hcut
  have hQB1 := QB0.ext hXc
  have PB1 := PB.ext hXc
  have hob1 := hob.ext (hE0.trans hXc)
  have hx1 := hx0.ext (hE0.trans hXc)
  have hX1 := hE0.trans hXc
  have q0 := hRB.c0
  have hne : rb ≠ bc := by
   obtain ⟨cs9, hcs9, -⟩ := id hZR
   exact qb8 hRB hcs9 (by decide)
  have i1 : (0 : Int) ≤ (v : Int) := by omega
  have i2 : (v : Int) < (n : Int) := by omega
  rename_i hK
  refine hK _ _ ?_
  clear hK
  go_upto_region 2 with fail
  clear ks k0
  go_cut [] (fun wx => Box wx rb 75 #[.slice (some ⟨bc, 0, none⟩) n n, .int .u8 1, .bool x1, .slice X1 u1 u2, .bool x2, .slice X2 u3 u4] ∧ RowR wx bc n (fun j => if j = v then ((1 : Int) : Rat) else 0) ∧ RatB wx (.agg #[.bool x1, .slice X1 u1 u2, .bool x2, .slice X2 u3 u4]) (f : Rat) 2 ∧ Ext V0 wx)
  case first =>
   go_region_law (first
    | (go_simp; go_at_call 20; (with_reducible refine (qfw 1 _ (by omega) (by omega)).mono ?_); rintro e wl ⟨vl, rfl, hbl, hxl⟩; (obtain ⟨pl, Al, nl, cl, pl', Al', nl', cl', rfl⟩ := hbl.1.shape); (have hlL : Ext wc wl := Ext.trans eBx hxl); (have q0 := hlL.cell q0); (have hRl := hZR.ext hlL); (have f0 := hRl.frozen (v * 4)); (have f1 := hRl.frozen (v * 4 + 1)); (have f2 := hRl.frozen (v * 4 + 2)); (have f3 := hRl.frozen (v * 4 + 3)); (obtain ⟨_, _, _, _, _, _, _, _, b0, b1, b2, b3, _⟩ := hRl.at hv)))
   all_goals (
    obtain ⟨s1, s2⟩ := hRl.set hv hbl.1
    have hX9 := s2.ext (hXc.trans hlL) (fun b hb => hb ▸ hbc)
    go_wp2_with fail
    go_meet
    exact ⟨s2.box (hRB.ext hlL) hne, s1, s2.ratB (hQB.ext hlL), hX9⟩)
  case rest =>
   obtain ⟨hRB2, hRow, hQB2, hXd⟩ := hcut
   rename_i hK
   refine hK _ _ ?_
   clear hK hXc hRB hZR hQB q0 PB1 hQB1 hob1 hx1 hX1
   go_upto_if 23 with fail
   go_cut [] (fun wx => ∃ (y1 y2 : Bool) (Y1 Y2 : Option Addr) (t1 t2 t3 t4 : Nat), Box wx rb 75 #[.slice (some ⟨bc, 0, none⟩) n n, .int .u8 (if b = true then 3 else 1), .bool y1, .slice Y1 t1 t2, .bool y2, .slice Y2 t3 t4] ∧ RowR wx bc n (fun j => if j = v then ((1 : Int) : Rat) else 0) ∧ RatV wx (.agg #[.bool y1, .slice Y1 t1 t2, .bool y2, .slice Y2 t3 t4]) ((f + (if b = true then 1 else 0) : Int) : Rat) ∧ Ext V0 wx)
   case first =>
    cases b with
    | false =>
      go_wp2_with fail
      go_meet
      exact ⟨_, _, _, _, _, _, _, _, hRB2, hRow, by rw [if_neg (by decide), Int.add_zero]; exact hQB2.1, hXd⟩
    | true =>
      go_upto_region 4 with fail
      have q1 := hRB2.c1
      have q2 : wc.cell? ⟨rb, 2, none⟩ = some (.bool x1) := hRB2.cell 2
      have q3 : wc.cell? ⟨rb, 3, none⟩ = some (.slice X1 u1 u2) := hRB2.cell 3
      have q4 : wc.cell? ⟨rb, 4, none⟩ = some (.bool x2) := hRB2.cell 4
      have q5 : wc.cell? ⟨rb, 5, none⟩ = some (.slice X2 u3 u4) := hRB2.cell 5
      go_region_law (first
       | (go_simp; go_at_call 20; (with_reducible refine (qfw 1 _ (by omega) (by omega)).mono ?_); rintro e wl ⟨vl, rfl, hbl, hxl⟩; (obtain ⟨pl, Al, nl, cl, pl', Al', nl', cl', rfl⟩ := hbl.1.shape); (have hlL : Ext wc wl := Ext.trans eBx hxl); (have q2 := hlL.cell q2); (have q3 := hlL.cell q3); (have q4 := hlL.cell q4); (have q5 := hlL.cell q5); (have hQBl := hQB2.ext hlL))
       | (go_simp; go_at_call 47; (with_reducible refine (qcs _ _ _ _ _ _ _ (hQBl.ext eBx) (hbl.ext eBx) (by omega)).mono ?_); rintro e wm ⟨vm, rfl, hbm, hxm⟩; (obtain ⟨pm, Am, nm, cm, pm', Am', nm', cm', rfl⟩ := hbm.1.shape); (have hmL : Ext wl wm := Ext.trans eBx hxm); (have hRBm := (hRB2.ext hlL).ext hmL); (have q1 := hRBm.c1); (have q2 := hRBm.cell 2); (have q3 := hRBm.cell 3); (have q4 := hRBm.cell 4); (have q5 := hRBm.cell 5); (have z1 := hRBm.frozen 1); (have z2 := hRBm.frozen 2); (have z3 := hRBm.frozen 3); (have z4 := hRBm.frozen 4); (have z5 := hRBm.frozen 5)))
      all_goals (
       obtain ⟨s1, s2, s3, s4⟩ := row5 hRBm hne ((hRow.ext hlL).ext hmL) hbm.1 3
       have hXf := s4 V0 ((hXd.trans hlL).trans hmL) hrb
       clear hRBm q1 q2 q3 q4 q5 z1 z2 z3 z4 z5
       go_wp2_with fail
       go_meet
       exact ⟨_, _, _, _, _, _, _, _, s1, s2, by (have e : ((f + (if True then 1 else 0) : Int) : Rat) = (f : Rat) + ((1 : Int) : Rat) := by rw [if_pos trivial, Rat.intCast_add]); rw [e]; exact s3, hXf⟩)
   case rest =>
    obtain ⟨y1, y2, Y1, Y2, t1, t2, t3, t4, hRB3, hRow3, hQ3, hXe⟩ := hcut
    rename_i hK
    refine hK _ _ ?_
    clear hK hRB2 hRow hQB2 hXd
    have PB3 := PB.ext hXe
    have QB3 := QB0.ext hXe
    have hob3 := (hob.ext hE0).ext hXe
    obtain ⟨news, n1, n2, n3, n4, n5⟩ := ((hx0.ext hE0).ext hXe).src
    obtain ⟨irR, g1, g2, g3, g4⟩ := info_parts qqi
    have hmp : ∀ W, (Instr.makeSlice 39 (.int .i64 0) (.int .i64 ((m : Int) + 1))).run Tryz.prog W = .ok (.slice (some ⟨W.heap.size, 0, none⟩) 0 (m + 1)) (W.alloc (.cells (qtp (m + 1)) 75)) := fun W => by
     have := qsq (m + 1) (by omega) W
     simpa using this
    have r1 : IntKind.i64.wrap ((m : Int) + 1) = (m : Int) + 1 := IntWalk.i64_in _ (by omega)
    have c1 := PB3.c1
    clear hx0 hob hrows
    have HN2 := Lib.hid n2
    have HL : Hid (news.length = p.toL.rows.length * 6) := Lib.hid (by rw [n1, HM.out, p.toL_len.1])
    clear n2
    go_upto_region 6 with fail
    have hz : Ext wc (wc.alloc (.cells (qtp (m + 1)) 75)) := (Ext.refl wc).alloc _
    have oz : OwnX (wc.alloc (.cells (qtp (m + 1)) 75)) wc.heap.size 75 6 (.slice (some ⟨wc.heap.size, 0, none⟩) 0 (m + 1)) 0 [] := q3b (by omega) (Ext.refl _)
    generalize (wc.alloc (.cells (qtp (m + 1)) 75)) = wz at *
    obtain ⟨ob, hob'⟩ : ∃ x, x = wc.heap.size := ⟨_, rfl⟩
    have hwo : V0.heap.size ≤ ob := by have := hXe.size; omega
    rw [← hob'] at oz ⊢
    have hos : ob ≤ wz.heap.size := by have := hz.size; omega
    have hoc : wc.heap.size ≤ ob := by omega
    clear hob'
    have c1 := (PB3.ext hz).c1
    go_upto_region 7 with (at_builtin; refine qwv rfl _ _ 39 rfl ob 75 irR _ 6 96 Tryz.underlying39 g1 g2 g3 g4 rfl zRow _ 0 [] rfl oz Ar m news cr rfl n1 (fun hm => by obtain ⟨ad, e, h⟩ := HN2.out hm; exact ⟨ad, e, fun j y hj => hz.cell (h j y hj)⟩) n3 n4 (by omega) (by decide) hos ?_; intro v6 y6 o6 r6 s6; rw [Nat.zero_add, List.nil_append] at o6; obtain ⟨A6, d6, rfl⟩ := o6.shape)
    have hE6 : Ext wc y6 := r6.ext hz (fun g hg => by
     have hg : some ob = some g := hg
     injection hg with hg
     omega)
    obtain ⟨R, hR⟩ : ∃ R : Int, R = if b = true then 3 else 1 := ⟨_, rfl⟩
    obtain ⟨G, hG⟩ : ∃ G : Int, G = f + (if b = true then 1 else 0) := ⟨_, rfl⟩
    rw [← hR] at hRB3
    rw [← hG] at hQ3
    have HR : Hid (R = if b = true then 3 else 1) := Lib.hid hR
    have HG := Lib.hid hG
    have hob7 : ∀ {W}, Ext wc W → wc.heap.size ≤ ob := fun _ => hoc
    have hbase : ob ≤ y6.heap.size := by have := r6.size; omega
    have p0 := (PB3.ext hE6).c0
    have q0 := (hRB3.ext hE6).c0
    have q1 := (hRB3.ext hE6).c1
    have q2 := (hRB3.ext hE6).cell 2
    have q3 := (hRB3.ext hE6).cell 3
    have q4 := (hRB3.ext hE6).cell 4
    have q5 := (hRB3.ext hE6).cell 5
    clear hR hG hmp hmk hz oz r6 s6 n1 n3 n4 HN2 hrb hbc i1 i2 hos hob7
    go_region_law (first
     | ((have hza : Ext y6 (y6.drew.alloc (.cells #[.slice (some ⟨bc, 0, none⟩) n n, .int .u8 R, .bool y1, .slice Y1 t1 t2, .bool y2, .slice Y2 t3 t4] 75)) := ((Ext.refl y6).drew).alloc _); (refine qos rfl (.tmp 41) (.tmp 43) 39 rfl ob 75 irR _ 6 96 Tryz.underlying39 g1 g2 g3 g4 rfl zRow _ m news rfl (o6.ext hza) y6.drew.heap.size [.slice (some ⟨bc, 0, none⟩) n n, .int .u8 R, .bool y1, .slice Y1 t1 t2, .bool y2, .slice Y2 t3 t4] 1 rfl rfl (new6 y6.drew 75 _ _ _ _ _ _) one6 nou6 (by omega) (by decide) (Nat.le_trans hbase hza.size) ?_); intro v7 y7 o7 r7 s7; (have hE7 : Ext wc y7 := r7.ext (hE6.trans hza) (fun g hg => Nat.le_trans hoc (o6.lt hg).1)); (have p0 := (PB3.ext hE7).c0); (have QB7 := QB3.ext hE7); (have w0 := QB7.c0); (have w1 := QB7.c1); (have z0 := QB7.frozen 0); (have z1 := QB7.frozen 1); (obtain ⟨A7, d7, rfl⟩ := o7.shape)))
    all_goals (
     obtain ⟨d1, d2, d3, d4⟩ := qv5 (v := v) (f := f) (b := b) hE7 (hE0.trans hXe) hqs (Nat.le_trans (hE0.trans hXe).size hoc) QB7 hob3 HL.out n5 hn hRow3 hQ3 HR.out HG.out o7
     have QBe := (QB7.set 0 (.slice Ao n co)).set 1 (.slice A7 (m + 1) d7)
     have e0 := QBe.c0
     have e1 := QBe.c1
     clear p0 q0 q1 q2 q3 q4 q5 w0 w1 z0 z1
     go_wp2_with fail
     refine bodyPost_ret (v := .agg #[.slice Ao n co, .slice A7 (m + 1) d7]) (by simp [results, Tryz.results88, go_sem, e0, e1]) rfl ?_
     rw [HP.out]
     exact ⟨Ao, co, A7, d7, _, rfl, d1, d2, d3, d4⟩)
end Go.Proofs.YtljncdcjkdgkeaaGreatDoor.Lp

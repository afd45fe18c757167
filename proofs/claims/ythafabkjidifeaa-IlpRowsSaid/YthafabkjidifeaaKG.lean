/- A further row in a boxed problem: what the search answers; rows of a problem in memory, appended to. -/
import Derived.Test.YthafabkjidifeaaKF
import Derived.Deep.DeepCutAuto
set_option linter.unusedVariables false
set_option linter.unusedSimpArgs false
namespace Go.Proofs.Ythafabkjidifeaa.Lp
open Go.RowKit Go.Proofs.Ythafabkjidifeaa.Big Go.Proofs.Ythafabkjidifeaa.Rt

/-- a problem with a further row -/
def IP.moreZ (p : IP) (r : IRow) : IP := ⟨p.obj, p.rows ++ [r], p.den⟩
theorem moreZ_holds {p : IP} {r : IRow} {n : Nat} {x : Nat → Int} : holdsZ (p.moreZ r).rows n x = (holdsZ p.rows n x && r.holdZ n x) := by
  unfold holdsZ IP.moreZ
  rw [List.all_append]
  simp
theorem moreZ_feas {p : IP} {r : IRow} (hd : p.den = 0) {x : Nat → Rat} (h : (p.moreZ r).pl.toP.Feas x) : p.pl.toP.Feas x := by
  obtain ⟨h1, h2⟩ := h
  refine ⟨fun j hj => h1 j (by rw [IP.pn] at hj ⊢; exact hj), fun i hi => ?_⟩
  rw [IP.pm] at hi
  have g1 : p.rows[i]? = some p.rows[i] := List.getElem?_eq_getElem hi
  have g2 : (p.moreZ r).rows[i]? = some p.rows[i] := by
    show (p.rows ++ [r])[i]? = _
    rw [List.getElem?_append_left hi]; exact g1
  obtain ⟨a1, a2, a3, -⟩ := IP.rowZ hd g1
  obtain ⟨b1, b2, b3, -⟩ := IP.rowZ (ip := p.moreZ r) hd g2
  have h3 := h2 i (by rw [IP.pm]; exact (List.getElem?_eq_some_iff.1 g2).1)
  have e1 : dot (p.moreZ r).pl.toP.n ((p.moreZ r).pl.toP.coef i) x = dot p.pl.toP.n (p.pl.toP.coef i) x := by
    rw [IP.pn, IP.pn]
    show sm p.obj.length _ = sm p.obj.length _
    exact sm_congr fun j _ => by rw [a1, b1]
  rw [e1, b2, b3] at h3
  rw [a2, a3]
  exact h3
theorem BoxP.more {ip : IP} {m : Nat} {r : IRow} (h : BoxP ip m) (hm : m + 1 ≤ 100) (hl : r.coef.length = ip.obj.length) (hr : in32 r.right) (h1 : 1 ≤ r.rel) (h3 : r.rel ≤ 3) (hc : ∀ z ∈ r.coef, -200 ≤ z ∧ z ≤ 200) : BoxP (ip.moreZ r) (m + 1) := by
  refine ⟨h.den, h.n1, h.n3, ?_, hm, h.obj, fun s hs => ?_, fun x hx j hj => h.box x (moreZ_feas h.den hx) j hj⟩
  · show (ip.rows ++ [r]).length ≤ m + 1
    rw [List.length_append, List.length_singleton]
    have := h.ms
    omega
  · rcases List.mem_append.1 hs with hs | hs
    · exact h.rows s hs
    · rw [List.mem_singleton.1 hs]
      exact ⟨hl, hr, h1, h3, hc⟩
theorem BoxP.solve {ip : IP} {m : Nat} (h : BoxP ip m) : (∃ v x t, solveR 400 ip.pl.toP = .done v x t ∧ Found 400 ip.pl.toP v x t) ∨ (solveR 400 ip.pl.toP = .fail 17 ∧ ∀ u, ¬ ip.pl.toP.FeasI u) :=
  box_solve h.valid (IP.int h.den) (by rw [IP.pn]; exact h.n3) h.Box h.small
/-- what a point found is -/
theorem BoxP.found {ip : IP} {m : Nat} (h : BoxP ip m) {v : Int} {x : Nat → Int} {t : BT} (hF : Found 400 ip.pl.toP v x t) : (∀ j, j < ip.obj.length → 0 ≤ x j ∧ x j ≤ 3) ∧ holdsZ ip.rows ip.obj.length x = true ∧ dotZ ip.obj ip.obj.length x = v := by
  obtain ⟨f1, f2⟩ := (IP.feasI h.den h.valid).1 hF.feas
  refine ⟨fun j hj => ⟨f1 j hj, ?_⟩, f2, ?_⟩
  · have h3 : ((x j : Int) : Rat) ≤ 3 := h.box _ hF.feas j hj
    have h4 : ((x j : Int) : Rat) ≤ ((3 : Int) : Rat) := h3
    exact Rat.intCast_le_intCast.1 h4
  · have hob : ((dotZ ip.obj ip.obj.length x : Int) : Rat) = (v : Rat) := by rw [← hF.obj]; exact (IP.objI h.den x).symm
    exact Rat.intCast_inj.1 hob
theorem rows_first {ip : IP} {m m' : Nat} {r : IRow} {v : Int} {x : Nat → Int} {t : BT} (h : BoxP ip m) (h' : BoxP (ip.moreZ r) m') (hF : Found 400 ip.pl.toP v x t) (hx : r.holdZ ip.obj.length x = true) : ∃ x1 t1, solveR 400 (ip.moreZ r).pl.toP = .done v x1 t1 := by
  obtain ⟨q1, q2, q3⟩ := h.found hF
  have hfx : (ip.moreZ r).pl.toP.FeasI x := (IP.feasI h'.den h'.valid).2 ⟨fun j hj => (q1 j hj).1, by rw [moreZ_holds]; show (holdsZ ip.rows ip.obj.length x && r.holdZ ip.obj.length x) = true; rw [q2, hx]; rfl⟩
  rcases h'.solve with ⟨v1, x1, t1, h1, hF1⟩ | ⟨h1, h2⟩
  · refine ⟨x1, t1, ?_⟩
    have a1 := hF1.best x hfx
    have a2 : (ip.moreZ r).pl.toP.objI x = ((dotZ ip.obj ip.obj.length x : Int) : Rat) := IP.objI h'.den x
    rw [a2, q3] at a1
    have a1 := Rat.intCast_le_intCast.1 a1
    have b0 : ip.pl.toP.FeasI x1 := moreZ_feas h.den hF1.feas
    have b1 := hF.best x1 b0
    rw [IP.objI h.den x1] at b1
    obtain ⟨-, -, c3⟩ := h'.found hF1
    have c3 : dotZ ip.obj ip.obj.length x1 = v1 := c3
    rw [c3] at b1
    have b1 := Rat.intCast_le_intCast.1 b1
    rw [h1]
    congr 1
    omega
  · exact absurd hfx (h2 x)
theorem rows_second {ip : IP} {m m' : Nat} {r : IRow} {v : Int} {x : Nat → Int} {t : BT} (h : BoxP ip m) (h' : BoxP (ip.moreZ r) m') (hF : Found 400 ip.pl.toP v x t) : solveR 400 (ip.moreZ r).pl.toP = .fail 17 ∨ ∃ v2 x2 t2, solveR 400 (ip.moreZ r).pl.toP = .done v2 x2 t2 ∧ v2 ≤ v := by
  rcases h'.solve with ⟨v1, x1, t1, h1, hF1⟩ | ⟨h1, h2⟩
  · refine .inr ⟨v1, x1, t1, h1, ?_⟩
    have b1 := hF.best x1 (moreZ_feas h.den hF1.feas)
    rw [IP.objI h.den x1] at b1
    obtain ⟨-, -, c3⟩ := h'.found hF1
    have c3 : dotZ ip.obj ip.obj.length x1 = v1 := c3
    rw [c3] at b1
    exact Rat.intCast_le_intCast.1 b1
  · exact .inl h1
/-! memory -/
def bZ (xs : List Int) : List Value := xs.map (Value.int .i8)
theorem bZ_get {xs : List Int} {j : Nat} {x : Int} (h : xs[j]? = some x) : (bZ xs)[j]? = some (.int .i8 x) := by simp [bZ, h]
theorem bZ_len (xs : List Int) : (bZ xs).length = xs.length := by simp [bZ]
theorem zI32Z : ∀ u ∈ (Value.int .i32 0).cells.toList, noU u = true := fun u hu => by
  simp [Value.cells] at hu; rw [hu]; rfl
theorem wV_push (xs : List Int) (x : Int) : wV (xs ++ [x]) = wV xs ++ [.int .i32 x] := by simp [wV]
theorem own_safe {w : World} {B0 B1 : Nat} {A : Option Addr} {n c : Nat} {cs : List Int} (o : OwnX w B1 21 1 (.slice A n c) n (wV cs)) (hn : 0 < n) : Row w (.slice A n c) (wV cs) ∧ SafeB w B0 A := by
  have hl := o.1
  rw [Nat.mul_one] at hl
  obtain ⟨g, cap, e, hb, h1, h2, h3, ⟨cur, h4, -⟩, -, h5⟩ := o.cells hn
  injection e with e1 e2 e3
  subst e1 e3
  refine ⟨⟨_, _, by rw [hl], by rw [hl]; exact h2, h3, fun _ => ⟨g, 0, rfl, fun j u hj => by rw [Nat.zero_add]; exact h5 j u hj⟩⟩, fun b off e => .inr ?_⟩
  injection e with e
  injection e with e
  subst e
  exact ⟨cur, h4⟩
theorem IPV.safe {w : World} {Ao Ar : Option Addr} {n m co cr : Nat} {d : Int} {ip : IP} (h : IPV w (.agg #[.slice Ao n co, .slice Ar m cr, .int .u8 d]) ip) (hp : ∀ r ∈ ip.rows, 0 < r.coef.length) :
    ∃ xs : List Value, xs.length = m * 3 ∧ (0 < m → ∃ ad, Ar = some ad ∧ ∀ j y, xs[j]? = some y → w.cell? (ad.add j) = some y) ∧ (∀ y ∈ xs, y.oneCell' = true) ∧ (∀ y ∈ xs, noU y = true) ∧ ZRows w w.heap.size (fun i => xs[i]?) ip.rows ∧ Row w (.slice Ao n co) (wV ip.obj) ∧ n = ip.obj.length ∧ m = ip.rows.length := by
  obtain ⟨Ao', co', Ar', cr', e, ho, h1, h2, h3⟩ := h
  injection e with e
  have e0 : Value.slice Ao n co = Value.slice Ao' ip.obj.length co' := by
    have := congrArg (fun a : Array Value => a[0]?) e
    simpa using this
  have e1 : Value.slice Ar m cr = Value.slice Ar' ip.rows.length cr' := by
    have := congrArg (fun a : Array Value => a[1]?) e
    simpa using this
  injection e0 with e01 e02 e03
  injection e1 with e11 e12 e13
  subst e01 e03 e11 e13
  rw [e02, e12]
  have key : ∀ (A : Option Addr) (c : Nat) (r : IRow), r ∈ ip.rows → Row w (.slice A r.coef.length c) (wV r.coef) → SafeB w w.heap.size A := fun A c r hr hrw b off e => .inl (by
    obtain ⟨-, -, -, h8⟩ := hrw.inj
    obtain ⟨b2, off2, e2, h10⟩ := h8 (by rw [wV_len]; exact hp r hr)
    rw [e] at e2
    injection e2 with e2
    injection e2 with e2
    subst e2
    exact World.block_lt_of_cell? w _ (h10 0 _ (wV_get (List.getElem?_eq_getElem (hp r hr)))))
  rcases Nat.eq_zero_or_pos ip.rows.length with hm | hm
  · refine ⟨[], by simp [hm], fun h => absurd h (by omega), fun y hy => (by cases hy), fun y hy => (by cases hy), fun j r hj => absurd (List.getElem?_eq_some_iff.1 hj).1 (by omega), ho, rfl, rfl⟩
  · obtain ⟨b, off, e, hr⟩ := h3 hm
    obtain ⟨xs, k1, k2, k3, k4, k5⟩ := irows_src hr
    refine ⟨xs, k1, fun _ => ⟨_, e, k2⟩, k3, k4, fun j r hj => ?_, ho, rfl, rfl⟩
    obtain ⟨A, c, a1, a2, a3, a4⟩ := k5 j r hj
    exact ⟨A, c, a1, a2, a3, a4, key A c r (List.mem_of_getElem? hj) a4⟩
theorem safe_row {w : World} {A : Option Addr} {n c : Nat} {vs : List Value} (h : Row w (.slice A n c) vs) (hn : 0 < n) : SafeB w w.heap.size A := fun b off e => .inl (by
  obtain ⟨h0, -, -, h8⟩ := h.inj
  obtain ⟨b2, off2, e2, h10⟩ := h8 (by omega)
  rw [e] at e2
  injection e2 with e2
  injection e2 with e2
  subst e2
  exact World.block_lt_of_cell? w _ (h10 0 _ (List.getElem?_eq_getElem (show 0 < vs.length by omega))))
theorem SafeB.fr {w w' : World} {B0 : Nat} {A : Option Addr} {P : Nat → Prop} (h : SafeB w B0 A) (f : Fr P w w') (hP : ∀ b, P b → ∀ cs, w.heap[b]? ≠ some (.cells cs 21 (0, 0))) : SafeB w' B0 A := fun b off e => by
  rcases h b off e with h1 | ⟨cs, h1⟩
  · exact .inl h1
  · exact .inr ⟨cs, f.row (fun hp => hP b hp cs h1) h1⟩
theorem SafeB.ext {w w' : World} {B0 : Nat} {A : Option Addr} (h : SafeB w B0 A) (k : Ext w w') : SafeB w' B0 A := h.fr (P := fun _ => False) (Fr.of k) (fun _ h => h.elim)
theorem step_pushAZ {w : World} {ops : Array Oper} {o : Oper} {a : Act} {K : Act → World → Prop} {Q : Exit → Act → World → Prop} {Z : Prop}
    (hg : o.guard = none) (s x : Operand) (t : TypeId) (hop : o.op = Op.call { callee := Callee.builtin Builtin.append, args := #[s, x], argTypes := #[t, t] })
    (a0 : World) (hLa : Ext a0 w) (e : TypeId) (i : TypeInfo) (z : Value) (k bytes : Nat) (h1 : Try.prog.underlying t = some (.slice e)) (h2 : Try.prog.info? e = some i) (h3 : i.zero = some z) (h4 : i.size = k) (h5 : i.bytes = bytes) (h6 : z.cells.size = k) (hz : ∀ u ∈ z.cells.toList, noU u = true)
    (v : Value) (n : Nat) (xs : List Value) (hs : a.eval s = v) (hown : OwnX w a0.heap.size e k v n xs) (A : Option Addr) (m : Nat) (news : List Value) (c : Nat) (hx : a.eval x = .slice A m c) (hnl : news.length = m * k) (hsrc : 0 < m → ∃ ad, A = some ad ∧ ∀ j y, news[j]? = some y → w.cell? (ad.add j) = some y) (h1c : ∀ y ∈ news, y.oneCell' = true) (hnu : ∀ y ∈ news, noU y = true)
    (b1 : n + m ≤ 1099511627776) (b2 : bytes ≤ 128)
    (hK : ∀ v' w', OwnX w' a0.heap.size e k v' (n + m) (xs ++ news) → Fr (fun g => v.ownBlock = some g) w w' → Ext a0 w' → K (a.put o.dst v') w') :
    if Region.wanted o (yielded ops a.tmps) = true then Oper.wp Try.prog o a w K Q else Z :=
  step_pushA hg s x t hop a0.heap.size e i z k bytes h1 h2 h3 h4 h5 h6 hz v n xs hs hown A m news c hx hnl hsrc h1c hnu b1 b2 (Ext.size hLa) (fun v' w' o r _ => hK v' w' o r (r.ext hLa (fun g hg => (hown.lt hg).1)))
theorem step_pushXZ {w : World} {ops : Array Oper} {o : Oper} {a : Act} {K : Act → World → Prop} {Q : Exit → Act → World → Prop} {Z : Prop}
    (hg : o.guard = none) (s x : Operand) (t : TypeId) (hop : o.op = Op.call { callee := Callee.builtin Builtin.append, args := #[s, x], argTypes := #[t, t] })
    (a0 : World) (hLa : Ext a0 w) (e : TypeId) (i : TypeInfo) (z : Value) (k bytes : Nat) (h1 : Try.prog.underlying t = some (.slice e)) (h2 : Try.prog.info? e = some i) (h3 : i.zero = some z) (h4 : i.size = k) (h5 : i.bytes = bytes) (h6 : z.cells.size = k) (hz : ∀ u ∈ z.cells.toList, noU u = true)
    (v : Value) (n : Nat) (xs : List Value) (hs : a.eval s = v) (hown : OwnX w a0.heap.size e k v n xs) (ba : Nat) (news : List Value) (c : Nat) (hx : a.eval x = .slice (some ⟨ba, 0, none⟩) 1 c) (hnl : news.length = k) (hnw : ∀ j y, news[j]? = some y → w.cell? ⟨ba, j, none⟩ = some y) (h1c : ∀ y ∈ news, y.oneCell' = true) (hnu : ∀ y ∈ news, noU y = true)
    (b1 : n + 1 ≤ 1099511627776) (b2 : bytes ≤ 128)
    (hK : ∀ v' w', OwnX w' a0.heap.size e k v' (n + 1) (xs ++ news) → Fr (fun g => v.ownBlock = some g) w w' → Ext a0 w' → K (a.put o.dst v') w') :
    if Region.wanted o (yielded ops a.tmps) = true then Oper.wp Try.prog o a w K Q else Z :=
  step_pushX hg s x t hop a0.heap.size e i z k bytes h1 h2 h3 h4 h5 h6 hz v n xs hs hown ba news c hx hnl hnw h1c hnu b1 b2 (Ext.size hLa) (fun v' w' o r _ => hK v' w' o r (r.ext hLa (fun g hg => (hown.lt hg).1)))
/-- a problem's rows copied, a row appended, and the list stored -/
theorem more_ipZ {X y : World} {B0 mb n m co d N n0 c0 : Nat} {ip : IP} {r : IRow} {xs news : List Value} {Ao A A0 : Option Addr} {den : Int} (hn : n = ip.obj.length) (hm : m = ip.rows.length) (hd : den = (ip.den : Int)) (hN : N = m + 1) (hl : xs.length = m * 3) (hZ : ZRows X B0 (fun i => xs[i]?) ip.rows) (hr : ZRX X B0 (fun i => news[i]?) 0 r) (hO : Row X (.slice Ao n co) (wV ip.obj)) (hOs : SafeB X B0 Ao)
    (MB : Box y mb 25 #[.slice Ao n co, .slice A0 n0 c0, .int .u8 den]) (o : OwnX y X.heap.size 52 3 (.slice A N d) N (xs ++ news)) (hX : Ext X y) (hq : B0 ≤ mb) :
    IPV (y.setCell ⟨mb, 1, none⟩ (.slice A N d)) (.agg #[.slice Ao n co, .slice A N d, .int .u8 den]) (ip.moreZ r) ∧ Box (y.setCell ⟨mb, 1, none⟩ (.slice A N d)) mb 25 #[.slice Ao n co, .slice A N d, .int .u8 den] ∧ Fr (fun k => k = mb) X (y.setCell ⟨mb, 1, none⟩ (.slice A N d)) := by
  subst hn hm hd
  have hF : Fr (fun k => k = mb) y (y.setCell ⟨mb, 1, none⟩ (.slice A N d)) := (Fr.refl (fun k => k = mb) y).set (p := ⟨mb, 1, none⟩) rfl (fun z => by rw [MB.c1]; intro e; cases e) _
  have hne : ∀ E cs, E ≠ 25 → y.heap[mb]? ≠ some (.cells cs E (0, 0)) := fun E cs hE e => by
    have hQ : y.heap[mb]? = some (.cells #[.slice Ao ip.obj.length co, .slice A0 n0 c0, .int .u8 (ip.den : Int)] 25 (0, 0)) := MB
    rw [hQ] at e
    injection e with e
    injection e with _ e
    exact hE e.symm
  have o7 := o.fr hF (fun g hg e => by obtain ⟨-, -, cur, hcur⟩ := o.lt hg; rw [e] at hcur; exact hne 52 cur (by decide) hcur)
  have hP : ∀ b, b = mb → B0 ≤ b ∧ ∀ cs, y.heap[b]? ≠ some (.cells cs 21 (0, 0)) := fun b hb => by
    subst hb
    exact ⟨hq, fun cs e => hne 21 cs (by decide) e⟩
  have hZ2 := ((hZ.ext hX).push hl (hr.ext hX)).fr hF hP
  have hO2 : Row (y.setCell ⟨mb, 1, none⟩ (.slice A N d)) (.slice Ao ip.obj.length co) (wV ip.obj) ∧ SafeB (y.setCell ⟨mb, 1, none⟩ (.slice A N d)) B0 Ao := by
    obtain ⟨a1, a2⟩ := hO.frS hOs (Fr.of (P := fun _ => False) hX) (fun _ h => h.elim)
    exact a1.frS a2 hF hP
  have hOw : OwnIR (y.setCell ⟨mb, 1, none⟩ (.slice A N d)) B0 (.slice A N d) N (ip.moreZ r).rows → True := fun _ => trivial
  have hrl : (ip.rows ++ [r]).length = N := by rw [List.length_append, List.length_singleton, hN]
  subst hrl
  obtain ⟨A', c', e, k1, k2, k3⟩ := irows_view o7 (fun j r hj => by obtain ⟨A, c, a1, a2, a3, a4, -⟩ := hZ2 j r hj; exact ⟨A, c, a1, a2, a3, a4⟩)
  injection e with e1 e2 e3
  subst e1 e3
  exact ⟨⟨Ao, co, A, d, rfl, hO2.1, k1, k2, k3⟩, MB.set 1 _, (Fr.of hX).trans hF⟩
end Go.Proofs.Ythafabkjidifeaa.Lp

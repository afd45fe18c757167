/- The law LpMore, walked. -/
import Derived.Test.YtgffcblldebelaaDoorLWA
import Derived.Test.YtgffcblldebelaaDoorLNB
set_option linter.unusedVariables false
set_option linter.unusedSimpArgs false
namespace Go.Proofs.YtgffcblldebelaaDoor.Lp
open Go.RowKit Go.Proofs.YtgffcblldebelaaDoor.Big Go.Proofs.YtgffcblldebelaaDoor.Rt

theorem validB_pl (P : PL) : validB P.toP = true ↔ P.valid = true := by
  rw [validB_iff, PL.valid_iff]
  unfold Prob.Valid
  refine and_congr Iff.rfl (and_congr Iff.rfl (and_congr Iff.rfl ⟨fun h r hr => ?_, fun h i hi => ?_⟩))
  · obtain ⟨i, hi, rfl⟩ := List.mem_iff_getElem.1 hr
    have h1 := h i hi
    have hrw : P.rows.getD i RL.zero = P.rows[i] := by rw [List.getD_eq_getElem?_getD, List.getElem?_eq_getElem hi]; rfl
    have h1 : (P.rows.getD i RL.zero).coef.length = P.obj.length ∧ 1 ≤ (P.rows.getD i RL.zero).rel ∧ (P.rows.getD i RL.zero).rel ≤ 3 := h1
    rw [hrw] at h1; exact h1
  · have hi' : i < P.rows.length := hi
    have hrw : P.rows.getD i RL.zero = P.rows[i] := by rw [List.getD_eq_getElem?_getD, List.getElem?_eq_getElem hi']; rfl
    show (P.rows.getD i RL.zero).coef.length = P.obj.length ∧ 1 ≤ (P.rows.getD i RL.zero).rel ∧ (P.rows.getD i RL.zero).rel ≤ 3
    rw [hrw]; exact h _ (List.getElem_mem hi')
theorem valid_more {P : PL} {r : RL} (hv : P.valid = true) (hr : r ∈ P.rows) (hl : P.rows.length < 1000) : (⟨P.obj, P.rows ++ [r]⟩ : PL).valid = true := by
  obtain ⟨a, b, c, d⟩ := PL.valid_iff.1 hv
  refine PL.valid_iff.2 ⟨a, b, by show (P.rows ++ [r]).length ≤ 1000; rw [List.length_append, List.length_singleton]; omega, fun s hs => ?_⟩
  rcases List.mem_append.1 hs with h | h
  · exact d s h
  · rw [List.mem_singleton.1 h]; exact d r hr
theorem more_same {P : PL} {r : RL} (hv : P.valid = true) (hr : r ∈ P.rows) (hl : P.rows.length < 1000) : (⟨P.obj, P.rows ++ [r]⟩ : PL).err = P.err ∧ (⟨P.obj, P.rows ++ [r]⟩ : PL).val = P.val := by
  have h1 := PL.is hv
  have h2 := PL.is (valid_more hv hr hl)
  have h3 := h2.congr (V' := P.V) (fun v => (more_twice hr v).symm)
  exact Is.same h3 h1
theorem more_less {P : PL} {r : RL} (hv : P.valid = true) (hv' : (⟨P.obj, P.rows ++ [r]⟩ : PL).valid = true) :
    (P.err = 17 → (⟨P.obj, P.rows ++ [r]⟩ : PL).err = 17) ∧ (P.err = 0 → (⟨P.obj, P.rows ++ [r]⟩ : PL).err = 17 ∨ ((⟨P.obj, P.rows ++ [r]⟩ : PL).err = 0 ∧ (⟨P.obj, P.rows ++ [r]⟩ : PL).val ≤ P.val)) :=
  (PL.is hv).fewer (PL.is hv') (fun v h => more_fewer r v h)
theorem Res.pl {P : PL} {k : Int} {z : Rat} {nx ny : Nat} {xs ys : Nat → Rat} (h : Res P.toP k z nx xs ny ys) : (P.valid = true ∧ k = P.err ∧ z = P.val) ∨ (P.valid = false ∧ k = 3 ∧ z = 0) := by
  rcases h with ⟨a, b, c, _⟩ | ⟨a, b, c, _⟩
  · refine .inr ⟨?_, b, c⟩
    cases e : P.valid with
    | false => rfl
    | true => rw [(validB_pl P).2 e] at a; cases a
  · exact .inl ⟨(validB_pl P).1 a, b, c⟩
theorem MRows.prx {w : World} {base lo : Nat} {P : PL} {rA : Nat → Option Addr} {rc : Nat → Nat} {X : Nat → Option Value} (h : MRows w base lo P.rows.length P.toP rA rc X) {i : Nat} {r : RL} (hi : P.rows[i]? = some r) {x y : Bool} {B B' : Option Addr} {d e d' e' : Nat} (hr : RatV w (.agg #[.bool x, .slice B d e, .bool y, .slice B' d' e']) (P.toP.right i)) :
    PRX w (fun j => [Value.slice (rA i) (P.toP.len i) (rc i), .int .u8 (P.toP.rel i : Int), .bool x, .slice B d e, .bool y, .slice B' d' e'][j]?) 0 r := by
  have hil := (List.getElem?_eq_some_iff.1 hi).1
  have hrw : P.rows.getD i RL.zero = r := by rw [List.getD_eq_getElem?_getD, hi]; rfl
  obtain ⟨-, -, h3, -⟩ := h.row i hil
  have hc := (h.coef i hil).rats
  have e1 : P.toP.len i = r.coef.length := by show (P.rows.getD i RL.zero).coef.length = _; rw [hrw]
  have e2 : P.toP.rel i = r.rel := by show (P.rows.getD i RL.zero).rel = _; rw [hrw]
  have e3 : P.toP.right i = r.right := by show (P.rows.getD i RL.zero).right = _; rw [hrw]
  have e4 : P.toP.coef i = fun j => r.coef.getD j 0 := by show (fun j => (P.rows.getD i RL.zero).coef.getD j 0) = _; rw [hrw]
  rw [e1, e4] at hc
  rw [e2] at h3
  rw [e3] at hr
  rw [e1, e2]
  exact ⟨rA i, rc i, x, B, d, e, y, B', d', e', rfl, rfl, rfl, rfl, rfl, rfl, h3, hc, hr⟩
theorem own_ne {w : World} {base k n : Nat} {E : TypeId} {v : Value} {xs : List Value} (o : OwnX w base E k v n xs) (hE : E ≠ 37) : ∀ b n' f, RowR w b n' f → ¬ v.ownBlock = some b := fun b n' f hb e => by
  obtain ⟨-, -, cur, hcur⟩ := o.lt e
  obtain ⟨cs, hcs⟩ := hb.cells
  exact row_ne hcur hcs hE rfl
theorem box_ne {w : World} {b : Nat} {E : TypeId} {cs : Array Value} (B : Box w b E cs) (hE : E ≠ 37) : ∀ b' n' f, RowR w b' n' f → ¬ b' = b := fun b' n' f hb e => by
  obtain ⟨cs', hcs⟩ := hb.cells
  exact row_ne B hcs hE e.symm
/-- a row appended to the rows of a problem in a box -/
theorem more_step {U X y : World} {base qb M N co d : Nat} {P : PL} {r : RL} {v : Value} {xs news : List Value} {Ao A : Option Addr} (hM : M = P.rows.length) (hN : N = M + 1) (o : OwnX X base 48 6 v M xs) (hPR : PRows X (fun i => xs[i]?) P.rows) (hPX : PRX X (fun i => news[i]?) 0 r) (hO : RatsV X Ao P.obj.length co (fun j => P.obj.getD j 0))
    (QB : Box X qb 31 #[.slice Ao P.obj.length co, v]) (o6 : OwnX y base 48 6 (.slice A N d) N (xs ++ news)) (k : Fr (fun g => v.ownBlock = some g) X y) (hX : Ext U X) (hb : U.heap.size ≤ base) (hq : U.heap.size ≤ qb) :
    ProbV (y.setCell ⟨qb, 1, none⟩ (.slice A N d)) (.agg #[.slice Ao P.obj.length co, .slice A N d]) (⟨P.obj, P.rows ++ [r]⟩ : PL).toP ∧ Box (y.setCell ⟨qb, 1, none⟩ (.slice A N d)) qb 31 #[.slice Ao P.obj.length co, .slice A N d] ∧ Ext U (y.setCell ⟨qb, 1, none⟩ (.slice A N d)) := by
  subst hM
  have hN : N = (P.rows ++ [r]).length := by rw [hN, List.length_append, List.length_singleton]
  subst hN
  obtain ⟨A0, c0, rfl⟩ := o.shape
  have tb := boxR QB o k (by decide)
  have hnP := own_ne o (by decide)
  have hP := PRows.push (hPR.fr k hnP) o.1 (hPX.fr k hnP)
  have hF : Fr (fun k => k = qb) y (y.setCell ⟨qb, 1, none⟩ (.slice A (P.rows ++ [r]).length d)) := (Fr.refl (fun k => k = qb) y).set (p := ⟨qb, 1, none⟩) rfl (fun z => by rw [tb.c1]; intro e; cases e) _
  have o7 := o6.fr hF (fun g hg e => by obtain ⟨-, -, cur, hcur⟩ := o6.lt hg; exact row_ne tb hcur (by decide) e.symm)
  exact ⟨prows_prob o7 (hP.fr hF (box_ne tb (by decide))) ((hO.fr k hnP).fr hF (box_ne tb (by decide))), tb.set 1 _, (k.ext hX (fun g hg => Nat.le_trans hb (o.lt hg).1)).set (p := ⟨qb, 1, none⟩) hq _⟩
/-- a problem with a further row -/
def IP.more (p : IP) (r : IRow) : IP := ⟨p.obj, p.rows ++ [r], p.den⟩
theorem IP.more_pl (p : IP) (r : IRow) : (p.more r).pl = ⟨p.pl.obj, p.pl.rows ++ [r.rl p.den]⟩ := by
  unfold IP.more IP.pl
  simp
theorem IP.more_ok {p : IP} {r : IRow} (h : p.ok) (hr : r.ok) (hl : p.rows.length < 1048576) : (p.more r).ok := by
  obtain ⟨a, b, c, d, e⟩ := h
  refine ⟨a, b, by show (p.rows ++ [r]).length ≤ 1048576; rw [List.length_append, List.length_singleton]; omega, d, fun s hs => ?_⟩
  rcases List.mem_append.1 hs with h | h
  · exact e s h
  · rw [List.mem_singleton.1 h]; exact hr
/-- a row as an argument -/
def IRV (w : World) (u : Value) (r : IRow) : Prop := ∃ A c, u = .agg #[.slice A r.coef.length c, .int .u8 (r.rel : Int), .int .i32 r.right] ∧ Row w (.slice A r.coef.length c) (wV r.coef)
theorem infoIRow : (Tryd.prog.info? 72).map (fun i => (i.zero, i.size, i.bytes)) = some (some (.agg #[.slice none 0 0, .int .u8 0, .int .i32 0]), 3, 32) := by kernel_rfl
theorem zIRow : ∀ u ∈ (Value.agg #[.slice none 0 0, .int .u8 0, .int .i32 0]).cells.toList, noU u = true := fun u hu => by
  simp [Value.cells] at hu
  rcases hu with rfl | rfl | rfl <;> rfl
theorem new3 (w : World) (E : TypeId) (a b c : Value) : ∀ j y, [a, b, c][j]? = some y → (w.alloc (.cells #[a, b, c] E)).cell? ⟨w.heap.size, j, none⟩ = some y := by
  intro j y hj
  rw [(Box.new w E #[a, b, c]).cell j, ← hj]
  exact List.getElem?_toArray
theorem one3 {A0 : Option Addr} {n0 c0 : Nat} {r q : Int} : ∀ y ∈ [Value.slice A0 n0 c0, .int .u8 r, .int .i32 q], y.oneCell' = true := fun y hy => by
  simp at hy
  rcases hy with rfl | rfl | rfl <;> rfl
theorem nou3 {A0 : Option Addr} {n0 c0 : Nat} {r q : Int} : ∀ y ∈ [Value.slice A0 n0 c0, .int .u8 r, .int .i32 q], noU y = true := fun y hy => by
  simp at hy
  rcases hy with rfl | rfl | rfl <;> rfl
theorem step_pushAL {w : World} {ops : Array Oper} {o : Oper} {a : Act} {K : Act → World → Prop} {Q : Exit → Act → World → Prop} {Z : Prop}
    (hg : o.guard = none) (s x : Operand) (t : TypeId) (hop : o.op = Op.call { callee := Callee.builtin Builtin.append, args := #[s, x], argTypes := #[t, t] })
    (a0 : World) (hLa : Ext a0 w) (e : TypeId) (i : TypeInfo) (z : Value) (k bytes : Nat) (h1 : Tryd.prog.underlying t = some (.slice e)) (h2 : Tryd.prog.info? e = some i) (h3 : i.zero = some z) (h4 : i.size = k) (h5 : i.bytes = bytes) (h6 : z.cells.size = k) (hz : ∀ u ∈ z.cells.toList, noU u = true)
    (v : Value) (n : Nat) (xs : List Value) (hs : a.eval s = v) (hown : OwnX w a0.heap.size e k v n xs) (A : Option Addr) (m : Nat) (news : List Value) (c : Nat) (hx : a.eval x = .slice A m c) (hnl : news.length = m * k) (hsrc : 0 < m → ∃ ad, A = some ad ∧ ∀ j y, news[j]? = some y → w.cell? (ad.add j) = some y) (h1c : ∀ y ∈ news, y.oneCell' = true) (hnu : ∀ y ∈ news, noU y = true)
    (b1 : n + m ≤ 1099511627776) (b2 : bytes ≤ 128)
    (hK : ∀ v' w', OwnX w' a0.heap.size e k v' (n + m) (xs ++ news) → Fr (fun g => v.ownBlock = some g) w w' → Ext a0 w' → K (a.put o.dst v') w') :
    if Region.wanted o (yielded ops a.tmps) = true then Oper.wp Tryd.prog o a w K Q else Z :=
  step_pushA hg s x t hop a0.heap.size e i z k bytes h1 h2 h3 h4 h5 h6 hz v n xs hs hown A m news c hx hnl hsrc h1c hnu b1 b2 (Ext.size hLa) (fun v' w' o r _ => hK v' w' o r (r.ext hLa (fun g hg => (hown.lt hg).1)))
theorem step_pushXL {w : World} {ops : Array Oper} {o : Oper} {a : Act} {K : Act → World → Prop} {Q : Exit → Act → World → Prop} {Z : Prop}
    (hg : o.guard = none) (s x : Operand) (t : TypeId) (hop : o.op = Op.call { callee := Callee.builtin Builtin.append, args := #[s, x], argTypes := #[t, t] })
    (a0 : World) (hLa : Ext a0 w) (e : TypeId) (i : TypeInfo) (z : Value) (k bytes : Nat) (h1 : Tryd.prog.underlying t = some (.slice e)) (h2 : Tryd.prog.info? e = some i) (h3 : i.zero = some z) (h4 : i.size = k) (h5 : i.bytes = bytes) (h6 : z.cells.size = k) (hz : ∀ u ∈ z.cells.toList, noU u = true)
    (v : Value) (n : Nat) (xs : List Value) (hs : a.eval s = v) (hown : OwnX w a0.heap.size e k v n xs) (ba : Nat) (news : List Value) (c : Nat) (hx : a.eval x = .slice (some ⟨ba, 0, none⟩) 1 c) (hnl : news.length = k) (hnw : ∀ j y, news[j]? = some y → w.cell? ⟨ba, j, none⟩ = some y) (h1c : ∀ y ∈ news, y.oneCell' = true) (hnu : ∀ y ∈ news, noU y = true)
    (b1 : n + 1 ≤ 1099511627776) (b2 : bytes ≤ 128)
    (hK : ∀ v' w', OwnX w' a0.heap.size e k v' (n + 1) (xs ++ news) → Fr (fun g => v.ownBlock = some g) w w' → Ext a0 w' → K (a.put o.dst v') w') :
    if Region.wanted o (yielded ops a.tmps) = true then Oper.wp Tryd.prog o a w K Q else Z :=
  step_pushX hg s x t hop a0.heap.size e i z k bytes h1 h2 h3 h4 h5 h6 hz v n xs hs hown ba news c hx hnl hnw h1c hnu b1 b2 (Ext.size hLa) (fun v' w' o r _ => hK v' w' o r (r.ext hLa (fun g hg => (hown.lt hg).1)))
theorem ip_src {w : World} {Ar : Option Addr} {rows : List IRow} (h : 0 < rows.length → ∃ b off, Ar = some ⟨b, off, none⟩ ∧ ∀ j r, rows[j]? = some r → IRowAt w b (off + j * 3) r) :
    ∃ xs : List Value, xs.length = rows.length * 3 ∧ (0 < rows.length → ∃ ad, Ar = some ad ∧ ∀ j y, xs[j]? = some y → w.cell? (ad.add j) = some y) ∧ (∀ y ∈ xs, y.oneCell' = true) ∧ (∀ y ∈ xs, noU y = true) ∧ IRows w (fun i => xs[i]?) rows := by
  rcases Nat.eq_zero_or_pos rows.length with hm | hm
  · exact ⟨[], by simp [hm], fun h => absurd h (by omega), fun y hy => (by cases hy), fun y hy => (by cases hy), fun j r hj => absurd (List.getElem?_eq_some_iff.1 hj).1 (by omega)⟩
  · obtain ⟨b, off, e, hr⟩ := h hm
    obtain ⟨xs, h1, h2, h3, h4, h5⟩ := irows_src hr
    exact ⟨xs, h1, fun _ => ⟨_, e, h2⟩, h3, h4, h5⟩
theorem more_ip {U y : World} {base mb N n m den co d n0 c0 : Nat} {ip : IP} {ir : IRow} {xs news : List Value} {Ao A A0 : Option Addr} (hn : n = ip.obj.length) (hm : m = ip.rows.length) (hd : den = ip.den) (hN : N = m + 1) (hl : xs.length = m * 3) (hIR : IRows U (fun i => xs[i]?) ip.rows) (hr : IRX U (fun i => news[i]?) 0 ir) (hO : Row U (.slice Ao n co) (wV ip.obj))
    (MB : Box y mb 25 #[.slice Ao n co, .slice A0 n0 c0, .int .u8 (den : Int)]) (o : OwnX y base 72 3 (.slice A N d) N (xs ++ news)) (hX : Ext U y) (hq : U.heap.size ≤ mb) :
    IPV (y.setCell ⟨mb, 1, none⟩ (.slice A N d)) (.agg #[.slice Ao n co, .slice A N d, .int .u8 (den : Int)]) (ip.more ir) ∧ Box (y.setCell ⟨mb, 1, none⟩ (.slice A N d)) mb 25 #[.slice Ao n co, .slice A N d, .int .u8 (den : Int)] ∧ Ext U (y.setCell ⟨mb, 1, none⟩ (.slice A N d)) := by
  subst hn hm hd
  have hN : N = (ip.rows ++ [ir]).length := by rw [hN, List.length_append, List.length_singleton]
  subst hN
  have hF : Fr (fun k => k = mb) y (y.setCell ⟨mb, 1, none⟩ (.slice A (ip.rows ++ [ir]).length d)) := (Fr.refl (fun k => k = mb) y).set (p := ⟨mb, 1, none⟩) rfl (fun z => by rw [MB.c1]; intro e; cases e) _
  have o7 := o.fr hF (fun g hg e => by obtain ⟨-, -, cur, hcur⟩ := o.lt hg; exact row_ne MB hcur (by decide) e.symm)
  have hXY : Ext U (y.setCell ⟨mb, 1, none⟩ (.slice A (ip.rows ++ [ir]).length d)) := hX.set (p := ⟨mb, 1, none⟩) hq _
  obtain ⟨A', c', e, h1, h2, h3⟩ := irows_view o7 ((IRows.push hIR hl hr).ext hXY)
  injection e with e1 e2 e3
  subst e1 e3
  exact ⟨⟨Ao, co, A, d, rfl, hO.ext hXY, h1, h2, h3⟩, MB.set 1 _, hXY⟩
attribute [local go_sem] Go.World.cell?_alloc_some Go.RowKit.frozen?_alloc_cells
set_option maxHeartbeats 4000000 in
set_option maxRecDepth 100000 in
theorem more_any (v u : Value) (ip : IP) (ir : IRow) (w : World) (h : IPV w v ip) (hu : IRV w u ir) (hok : ip.ok) (hokr : ir.ok) (htab : TabOK w) : Calls Tryd.prog 8 #[v, u] w (ValPost w (.bool true)) := by
  have h0 := h
  obtain ⟨Ao, co, Ar, cr, rfl, hobj, hrc, hrc2, hrows⟩ := h0
  obtain ⟨Ac, cc, rfl, hcoef⟩ := hu
  obtain ⟨n0, hn0⟩ : ∃ n, n = ip.obj.length := ⟨_, rfl⟩
  obtain ⟨m0, hm0⟩ : ∃ n, n = ip.rows.length := ⟨_, rfl⟩
  obtain ⟨d0, hd0⟩ : ∃ n, n = ip.den := ⟨_, rfl⟩
  obtain ⟨l0, hl0⟩ : ∃ n, n = ir.coef.length := ⟨_, rfl⟩
  have HN0 := Lib.hid hn0
  have HM0 := Lib.hid hm0
  have HL0 := Lib.hid hl0
  have HD0 := Lib.hid hd0
  rw [← hn0, ← hm0, ← hd0] at h ⊢
  rw [← hm0] at hrc hrows
  rw [← hn0] at hobj
  rw [← hl0] at hcoef ⊢
  have HOK := Lib.hid hok
  have HOKR := Lib.hid hokr
  have HROWS := Lib.hid hrows
  clear hn0 hm0 hd0 hok hl0 hokr hrows
  obtain ⟨B, RB, hE0⟩ := boxesT2 w 25 72 #[.slice Ao n0 co, .slice Ar m0 cr, .int .u8 (d0 : Int)] #[.slice Ac l0 cc, .int .u8 (ir.rel : Int), .int .i32 ir.right]
  go_enter Tryd.func8, Tryd.ntmps8
  go_upto_region 1 with fail
  generalize ((w.alloc (.cells #[.slice Ao n0 co, .slice Ar m0 cr, .int .u8 (d0 : Int)] 25)).alloc (.cells #[.slice Ac l0 cc, .int .u8 (ir.rel : Int), .int .i32 ir.right] 72)) = V at *
  obtain ⟨rwb, hrwb⟩ : ∃ x, x = w.heap.size + 1 := ⟨_, rfl⟩
  obtain ⟨ab, hab⟩ : ∃ x, x = w.heap.size := ⟨_, rfl⟩
  rw [← hrwb] at RB ⊢
  rw [← hab] at B ⊢
  clear hab hrwb
  go_wp2_with fail
  refine (awake_b _ (htab.ext hE0)).mono ?_
  rintro e w1 ⟨rfl, hx1⟩
  have hE := hE0.trans hx1
  have B := B.ext hx1
  have RB := RB.ext hx1
  have c0 := B.c0
  have c1 := B.c1
  have c2 := B.c2
  clear hE0 hx1
  go_wp2_with fail
  refine (fits_b _ ip _ (h.ext hE)).mono ?_
  rintro e w2 ⟨rfl, hx2⟩
  have hE := hE.trans hx2
  have B := B.ext hx2
  have RB := RB.ext hx2
  clear c0 c1 c2 hx2
  obtain ⟨F, hF⟩ : ∃ F, F = fitB ip := ⟨_, rfl⟩
  rw [← hF]
  have HFI := Lib.hid hF
  clear hF
  cases F with
  | false =>
    go_wp2_with fail
    refine (awake_b _ (htab.ext hE)).mono ?_
    rintro e w3 ⟨rfl, hx3⟩
    go_wp2_with fail
    go_ret
    exact ⟨rfl, hE.trans hx3⟩
  | true =>
  have hfit := fitB_iff.1 HFI.out.symm
  have HFT := Lib.hid hfit
  clear hfit
  have c0 := B.c0
  have c1 := B.c1
  have c2 := B.c2
  go_wp2_with fail
  refine (Make_b _ ip _ (h.ext hE) HOK.out).mono ?_
  rintro e w3 ⟨v3, a, rfl, hM, hx3⟩
  have hP := hM.prob
  have hv3 := hM.val
  subst hv3
  have hE := hE.trans hx3
  have B := B.ext hx3
  have RB := RB.ext hx3
  clear c0 c1 c2 hx3 hM
  go_wp2_with fail
  refine (Valid_b _ _ _ hP).mono ?_
  rintro e w4 ⟨rfl, hx4⟩
  have hE := hE.trans hx4
  have B := B.ext hx4
  have RB := RB.ext hx4
  clear hP hx4
  obtain ⟨F2, hF2⟩ : ∃ F, F = validB ip.pl.toP := ⟨_, rfl⟩
  rw [← hF2]
  have HVA := Lib.hid hF2
  clear hF2
  cases F2 with
  | false =>
    go_wp2_with fail
    refine (awake_b _ (htab.ext hE)).mono ?_
    rintro e w5 ⟨rfl, hx5⟩
    go_wp2_with fail
    go_ret
    exact ⟨rfl, hE.trans hx5⟩
  | true =>
  have HBD : Hid (Bnd ip.pl.toP 16000000) := Lib.hid (IP.bnd HOK.out (by rw [IP.pn]; exact HFT.out.1) (by rw [IP.pm]; have := HFT.out.2; omega) HVA.out.symm)
  have c0 := B.c0
  have c1 := B.c1
  have c2 := B.c2
  go_wp2_with fail
  refine (Make_b _ ip _ (h.ext hE) HOK.out).mono ?_
  rintro e w5 ⟨v5, a5, rfl, hM5, hx5⟩
  have hP5 := hM5.prob
  have hv5 := hM5.val
  subst hv5
  have hE := hE.trans hx5
  have B := B.ext hx5
  have RB := RB.ext hx5
  clear c0 c1 c2 hx5 hM5
  go_wp2_with fail
  refine (Solve_l _ _ 16000000 _ hP5 (fun _ => HBD.out)).mono ?_
  rintro e w6 ⟨q, A, n, c, q', A', n', c', Ax, nx, cx, Ay, ny, cy, k, z, xs, ys, rfl, hz, hX, hY, hbx, hby, hres, hx6⟩
  have hE := hE.trans hx6
  have B := B.ext hx6
  have RB := RB.ext hx6
  have hkz : ip.pl.valid = true ∧ k = ip.pl.err ∧ z = ip.pl.val := by
    rcases hres.pl with h | ⟨h, _⟩
    · exact h
    · rw [(validB_pl _).1 HVA.out.symm] at h; cases h
  have HKZ := Lib.hid hkz
  clear hP5 hx6 hX hY hbx hby hres hkz
  go_upto_region 4 with fail
  have SB := Box.new w6 39 #[.bool q, .slice A n c, .bool q', .slice A' n' c', .slice Ax nx cx, .slice Ay ny cy]
  have hx7 : Ext w6 (w6.alloc (.cells #[.bool q, .slice A n c, .bool q', .slice A' n' c', .slice Ax nx cx, .slice Ay ny cy] 39)) := (Ext.refl w6).alloc _
  generalize (w6.alloc (.cells #[.bool q, .slice A n c, .bool q', .slice A' n' c', .slice Ax nx cx, .slice Ay ny cy] 39)) = U at *
  obtain ⟨sb, hsb⟩ : ∃ x, x = w6.heap.size := ⟨_, rfl⟩
  rw [← hsb] at SB ⊢
  clear hsb
  have hE := hE.trans hx7
  have B := B.ext hx7
  have RB := RB.ext hx7
  have hz := hz.ext hx7
  have c1 := B.c1
  clear hx7
  go_upto_if 39 with fail
  rename_i hK
  go_cut [] (fun wx => Ext U wx)
  case first =>
    by_cases hm0 : m0 = 0
    · have e1 : decide ((0 : Int) < (m0 : Int)) = false := by simp; omega
      go_wp2_with fail
      go_meet
      exact Ext.refl U
    · obtain ⟨mm, hmm⟩ : ∃ mm, m0 = mm + 1 := ⟨m0 - 1, by omega⟩
      subst hmm
      clear hm0
      have hml : mm < ip.rows.length := by have := HM0.out; omega
      have hmp : ip.pl.toP.m = mm + 1 := by rw [IP.pm]; exact HM0.out.symm
      have hmr : ip.pl.rows.length = mm + 1 := hmp
      have hm8 : mm + 1 ≤ 8 := by have := HFT.out.2; omega
      have e1 : decide ((0 : Int) < ((mm + 1 : Nat) : Int)) = true := by simp
      have c0 := B.c0
      have c2 := B.c2
      go_wp2_with fail
      refine (Make_o _ ip _ (h.ext hE) HOK.out).mono ?_
      rintro e w8 ⟨v8, a8, rfl, hM8, hO8, hx8⟩
      have hv8 := hM8.val
      subst hv8
      rw [hmp] at hO8 ⊢
      have hbs : U.heap.size ≤ w8.heap.size := hx8.size
      go_upto_region 7 with fail
      have QB8 := Box.new w8 31 #[.slice a8.Ao ip.pl.toP.n a8.co, .slice a8.Ar (mm + 1) a8.cr]
      have hx9 : Ext w8 (w8.alloc (.cells #[.slice a8.Ao ip.pl.toP.n a8.co, .slice a8.Ar (mm + 1) a8.cr] 31)) := (Ext.refl w8).alloc _
      generalize (w8.alloc (.cells #[.slice a8.Ao ip.pl.toP.n a8.co, .slice a8.Ar (mm + 1) a8.cr] 31)) = X at *
      obtain ⟨qb, hqb⟩ : ∃ x, x = w8.heap.size := ⟨_, rfl⟩
      rw [← hqb] at QB8 ⊢
      have hqs : U.heap.size ≤ qb := by rw [hqb]; exact hbs
      clear hqb
      have hO8 := hO8.ext hx9
      have hM8 := hM8.ext hx9
      have hXU := hx8.trans hx9
      clear hx9 hx8 c0 c1 c2
      obtain ⟨xs8, o8, r8⟩ := hO8
      obtain ⟨hAr8, -, -⟩ := hM8.blk (by omega)
      have hcap8 := hM8.cap.1
      rw [hmp] at hcap8
      obtain ⟨l1, l2, l3, x, Bq, d, e, y, Bq', d', e', l4, l5, l6, l7, hlr⟩ := hM8.rows.row mm (by omega)
      rw [hAr8] at QB8 o8
      have q1 := QB8.c1
      have i1 : (0 : Int) ≤ (mm : Int) := by omega
      have i2 : (mm : Int) < ((mm + 1 : Nat) : Int) := by omega
      have i3 : ((mm + 1 : Nat) : Int) - 1 = (mm : Int) := by omega
      have i4 : IntKind.i64.wrap (((mm + 1 : Nat) : Int) - 1) = (mm : Int) := by rw [i3]; exact IntWalk.i64_in _ (by omega)
      obtain ⟨ir1, j1, j2, j3, j4⟩ := info_parts infoRow
      have i5 : IntKind.i64.wrap (mm : Int) = (mm : Int) := IntWalk.i64_in _ (by omega)
      have i6 : (mm : Int) < (mm : Int) + 1 := by omega
      have hcapN : mm + 1 ≤ a8.cr := hcap8
      obtain ⟨r, hr⟩ : ∃ r, ip.rows[mm]? = some r := ⟨_, List.getElem?_eq_getElem hml⟩
      have hrm : r ∈ ip.rows := List.mem_of_getElem? hr
      have hgl : ip.pl.rows[mm]? = some (r.rl ip.den) := by unfold IP.pl; rw [List.getElem?_map, hr]; rfl
      have hgm : r.rl ip.den ∈ ip.pl.rows := List.mem_of_getElem? hgl
      have hPR : PRows X (fun i => xs8[i]?) ip.pl.rows := by
        refine MRows.prows (P := ip.pl) (rA := a8.rA) (rc := a8.rc) (base := U.heap.size) (lo := U.heap.size) ?_
        rw [hmr]; exact r8
      have hPX := MRows.prx (P := ip.pl) hM8.rows hgl hlr
      have h2v : validB (ip.more r).pl.toP = true := by
        rw [IP.more_pl, validB_pl]
        exact valid_more ((validB_pl _).1 HVA.out.symm) hgm (by rw [hmr]; omega)
      have h2b : Bnd (ip.more r).pl.toP 16000000 := IP.bnd (IP.more_ok HOK.out (HOK.out.2.2.2.2 r hrm) (by have := HFT.out.2; omega)) (by rw [IP.pn]; exact HFT.out.1) (by rw [IP.pm]; show (ip.rows ++ [r]).length ≤ 9; rw [List.length_append, List.length_singleton]; have := HFT.out.2; omega) h2v
      have H2B := Lib.hid h2b
      have H2V := Lib.hid h2v
      have hsame := more_same ((validB_pl _).1 HVA.out.symm) hgm (by rw [hmr]; omega)
      have HSM := Lib.hid hsame
      have HGL := Lib.hid hgl
      clear h2b h2v hsame hr hrm hgm hgl
      obtain ⟨L, hL⟩ : ∃ L, L = ip.pl.toP.len mm := ⟨_, rfl⟩
      obtain ⟨R, hR⟩ : ∃ R, R = ip.pl.toP.rel mm := ⟨_, rfl⟩
      rw [← hL] at l1
      rw [← hR] at l2 l3
      rw [← hL, ← hR] at hPX
      have HLL := Lib.hid hL
      have HRR := Lib.hid hR
      clear hL hR
      go_region_law (first
        | ((have hza : Ext X (X.drew.alloc (.cells #[.slice (a8.rA mm) L (a8.rc mm), .int .u8 (R : Int), .bool x, .slice Bq d e, .bool y, .slice Bq' d' e'] 48)) := ((Ext.refl X).drew).alloc _); (refine step_pushX rfl (.tmp 43) (.tmp 50) 29 rfl U.heap.size 48 ir1 _ 6 96 Tryd.underlying29 j1 j2 j3 j4 rfl zRow _ (mm + 1) xs8 rfl (o8.ext hza) X.drew.heap.size [.slice (a8.rA mm) L (a8.rc mm), .int .u8 (R : Int), .bool x, .slice Bq d e, .bool y, .slice Bq' d' e'] 1 rfl rfl (new6 X.drew 48 _ _ _ _ _ _) one6 nou6 (by omega) (by decide) (Nat.le_trans hXU.size hza.size) ?_); intro v6 y6 o6 r6 s6; (have tb6 := boxR (QB8.ext hza) (o8.ext hza) r6 (by decide)); (have c6 := tb6.c1); (have z6 := tb6.frozen 1); (obtain ⟨A6, d6, rfl⟩ := o6.shape))
        )
      all_goals (
        obtain ⟨hPq, QB7, hX7⟩ := more_step (r := r.rl ip.den) hmr.symm rfl (o8.ext hza) (hPR.ext hza) (hPX.ext hza) (hM8.obj.rats.ext hza) (QB8.ext hza) o6 r6 (hXU.trans hza) (Nat.le_refl _) hqs
        rw [← IP.more_pl] at hPq
        generalize (y6.setCell ⟨qb, 1, none⟩ (.slice A6 (mm + 1 + 1) d6)) = Y at *
        clear o6 r6 s6 tb6 c6 z6 hza hPR hPX hM8 QB8 o8 r8 l1 l2 l3 l4 l5 l6 l7 hlr q1
        have q0 := QB7.c0
        have q1 := QB7.c1
        go_wp2_with fail
        refine (Solve_l _ _ 16000000 _ hPq (fun _ => H2B.out)).mono ?_
        rintro e w9 ⟨q2, A2, n2, c2, q2', A2', n2', c2', Ax2, nx2, cx2, Ay2, ny2, cy2, k2, z2, xs2, ys2, rfl, hz2, hX2, hY2, hbx2, hby2, hres2, hx9⟩
        have hkz2 : k2 = k ∧ z2 = z := by
          rcases hres2.pl with ⟨_, h1, h2⟩ | ⟨h1, _⟩
          · rw [IP.more_pl] at h1 h2
            exact ⟨h1.trans (HSM.out.1.trans HKZ.out.2.1.symm), h2.trans (HSM.out.2.trans HKZ.out.2.2.symm)⟩
          · rw [(validB_pl _).1 H2V.out] at h1; cases h1
        obtain ⟨rfl, rfl⟩ := hkz2
        clear hres2 hX2 hY2 hbx2 hby2 hPq q0 q1
        have hX9 := hX7.trans hx9
        have SB9 := SB.ext hX9
        have hz9 := hz.ext hX9
        clear hX7 hx9 QB7
        go_upto_region 9 with fail
        have TB := Box.new w9 39 #[.bool q2, .slice A2 n2 c2, .bool q2', .slice A2' n2' c2', .slice Ax2 nx2 cx2, .slice Ay2 ny2 cy2]
        have hx10 : Ext w9 (w9.alloc (.cells #[.bool q2, .slice A2 n2 c2, .bool q2', .slice A2' n2' c2', .slice Ax2 nx2 cx2, .slice Ay2 ny2 cy2] 39)) := (Ext.refl w9).alloc _
        generalize (w9.alloc (.cells #[.bool q2, .slice A2 n2 c2, .bool q2', .slice A2' n2' c2', .slice Ax2 nx2 cx2, .slice Ay2 ny2 cy2] 39)) = U9 at *
        obtain ⟨tb, htb⟩ : ∃ x, x = w9.heap.size := ⟨_, rfl⟩
        rw [← htb] at TB ⊢
        clear htb
        have hX10 := hX9.trans hx10
        have SB10 := SB9.ext hx10
        have hz10 := hz9.ext hx10
        have hz2 := hz2.ext hx10
        clear hX9 hx10 SB9 hz9
        have s0 := SB10.c0
        have s1 := SB10.c1
        have s2 := SB10.c2
        have s3 := SB10.c3
        have s4 : U9.cell? ⟨sb, 4, none⟩ = some (.slice Ax nx cx) := SB10.cell 4
        have s5 : U9.cell? ⟨sb, 5, none⟩ = some (.slice Ay ny cy) := SB10.cell 5
        have t0 := TB.c0
        have t1 := TB.c1
        have t2 := TB.c2
        have t3 := TB.c3
        have t4 : U9.cell? ⟨tb, 4, none⟩ = some (.slice Ax2 nx2 cx2) := TB.cell 4
        have t5 : U9.cell? ⟨tb, 5, none⟩ = some (.slice Ay2 ny2 cy2) := TB.cell 5
        go_wp2_with fail
        refine (same_b _ _ k2 k2 z2 z2 16000002 _ ⟨_, _, _, _, _, _, _, _, _, _, _, _, _, _, rfl, hz10⟩ ⟨_, _, _, _, _, _, _, _, _, _, _, _, _, _, rfl, hz2⟩ (by omega)).mono ?_
        rintro e w11 ⟨rfl, hx11⟩
        have e1 : ((k2 == k2) && decide (z2 = z2)) = true := by simp
        rw [e1]
        have hX11 := hX10.trans hx11
        clear e1 s0 s1 s2 s3 s4 s5 t0 t1 t2 t3 t4 t5
        go_wp2_with fail
        go_meet
        exact hX11)
  case rest =>
    have hE := hE.trans hcut
    have B := B.ext hcut
    have RB := RB.ext hcut
    have SB := SB.ext hcut
    have hz := hz.ext hcut
    have c0 := B.c0
    have c1 := B.c1
    have c2 := B.c2
    refine hK _ _ ?_
    clear hK
    go_upto_region 12 with fail
    have MB := Box.new wc 25 #[.slice Ao n0 co, .slice Ar m0 cr, .int .u8 (d0 : Int)]
    have hx1 : Ext wc (wc.alloc (.cells #[.slice Ao n0 co, .slice Ar m0 cr, .int .u8 (d0 : Int)] 25)) := (Ext.refl wc).alloc _
    generalize (wc.alloc (.cells #[.slice Ao n0 co, .slice Ar m0 cr, .int .u8 (d0 : Int)] 25)) = X at *
    obtain ⟨mb, hmb⟩ : ∃ x, x = wc.heap.size := ⟨_, rfl⟩
    rw [← hmb] at MB ⊢
    have hmw : wc.heap.size ≤ mb := by omega
    clear hmb c0 c1 c2
    obtain ⟨xs, hxl, hxs, hx1c, hxnu, hIR⟩ := ip_src (w := wc) (Ar := Ar) (rows := ip.rows) (fun hm => by
      obtain ⟨b, off, e, hr⟩ := HROWS.out (by rw [HM0.out]; exact hm)
      exact ⟨b, off, e, fun j r hj => (hr j r hj).ext hE⟩)
    rw [← HM0.out] at hxl hxs
    have HIR := Lib.hid hIR
    have hcw := hcoef.ext hE
    have hL : Later wc X := hx1
    have kb1 : ∀ w', Later wc w' → w'.cell? ⟨ab, 1, none⟩ = some (.slice Ar m0 cr) := fun w' h => (B.ext h).c1
    have kr0 : ∀ w', Later wc w' → w'.cell? ⟨rwb, 0, none⟩ = some _ := fun w' h => (RB.ext h).c0
    have kr1 : ∀ w', Later wc w' → w'.cell? ⟨rwb, 1, none⟩ = some _ := fun w' h => (RB.ext h).c1
    have kr2 : ∀ w', Later wc w' → w'.cell? ⟨rwb, 2, none⟩ = some _ := fun w' h => (RB.ext h).c2
    obtain ⟨irR, g1, g2, g3, g4⟩ := info_parts infoIRow
    have HF := Lib.hid HFT.out
    have hm8 : m0 ≤ 8 := by rw [HM0.out]; exact HFT.out.2
    have hIX : IRX wc (fun i => [Value.slice Ac l0 cc, .int .u8 (ir.rel : Int), .int .i32 ir.right][i]?) 0 ir := by
      have hcw' := hcw
      rw [HL0.out] at hcw' ⊢
      exact ⟨Ac, cc, rfl, rfl, rfl, hcw'⟩
    have HIX := Lib.hid hIX
    have hOw := hobj.ext hE
    clear hIR hIX HF
    go_region_held3 (fun w' => Later wc w') ((repeat (first | assumption | apply Later.drew | apply Later.drewN | apply Later.alloc | (refine Later.set ?_ (by first | assumption | exact Nat.le_refl _) _) | (refine Later.step ?_ (by assumption))))) (first
      | ((refine step_pushAL rfl (.tmp 65) (.tmp 67) 23 rfl X (by repeat (first | assumption | exact Ext.refl _ | apply Ext.drew | apply Ext.alloc)) 72 irR _ 3 32 Tryd.underlying23 g1 g2 g3 g4 rfl zIRow _ 0 [] rfl (by first | exact (OwnX.empty _ _ _).up (Ext.size (by repeat (first | assumption | exact Ext.refl _ | apply Ext.drew | apply Ext.alloc))) | exact ((OwnX.empty _ _ _).ext ((Ext.refl _).alloc _)).up (Ext.size (by repeat (first | assumption | exact Ext.refl _ | apply Ext.drew | apply Ext.alloc))) | (have hh := OwnX.empty (X.alloc (.cells #[.slice Ac l0 cc, .int .u8 (ir.rel : Int), .int .i32 ir.right] 72)) 72 3; rw [show (X.alloc (.cells #[.slice Ac l0 cc, .int .u8 (ir.rel : Int), .int .i32 ir.right] 72)).heap.size = X.heap.size + 1 by simp] at hh; exact hh.up (Nat.le_succ _))) Ar m0 xs cr rfl hxl (fun hm => by obtain ⟨ad, e, hc⟩ := hxs hm; exact ⟨ad, e, fun j y hj => Ext.cell (Ext.trans hL (by repeat (first | assumption | exact Ext.refl _ | apply Ext.drew | apply Ext.alloc))) (hc j y hj)⟩) hx1c hxnu (by omega) (by decide) ?_); intro v8 y8 o8 r8 hX8; (have hL8 : Later wc y8 := Ext.trans hL hX8); (rw [Nat.zero_add, List.nil_append] at o8); (obtain ⟨A8, d8, rfl⟩ := o8.shape); (try rw [Nat.zero_add]))
      | ((refine step_pushXL rfl (.tmp 68) (.tmp 70) 23 rfl X (by repeat (first | assumption | exact Ext.refl _ | apply Ext.drew | apply Ext.alloc)) 72 irR _ 3 32 Tryd.underlying23 g1 g2 g3 g4 rfl zIRow _ m0 xs rfl (by first | exact o8 | exact o8.ext ((Ext.refl _).alloc _)) _ [.slice Ac l0 cc, .int .u8 (ir.rel : Int), .int .i32 ir.right] 1 rfl rfl (fun j y hj => by first | exact new3 _ _ _ _ _ j y hj | exact r8.cell (by intro h; have h : (some _ : Option Nat) = some _ := h; injection h with h; first | exact Nat.ne_of_lt (Nat.lt_succ_self _) h | exact Nat.ne_of_gt (Nat.lt_succ_self _) h | (simp at h; done) | (simp at h; omega)) (by have hh := new3 (X.alloc (.cells #[] 72)) 72 (.slice Ac l0 cc) (.int .u8 (ir.rel : Int)) (.int .i32 ir.right) j y hj; rw [show (X.alloc (.cells #[] 72)).heap.size = X.heap.size + 1 by simp] at hh; exact hh) | exact r8.cell (by intro h; have h : (some _ : Option Nat) = some _ := h; injection h with h; first | exact Nat.ne_of_lt (Nat.lt_succ_self _) h | exact Nat.ne_of_gt (Nat.lt_succ_self _) h | (simp at h; done) | (simp at h; omega)) (Ext.cell ((Ext.refl _).alloc _) (new3 _ _ _ _ _ j y hj))) one3 nou3 (by omega) (by decide) ?_); intro v10 y10 o10 r10 hX10; (have hL10 : Later wc y10 := Ext.trans hL hX10); (have MB10 := MB.ext hX10); (have c10 := MB10.c1); (have z10 := MB10.frozen 1); (obtain ⟨A10, d10, rfl⟩ := o10.shape))
      )
    all_goals (
      obtain ⟨hIP, MB11, hX11⟩ := more_ip (ir := ir) HN0.out HM0.out HD0.out rfl hxl HIR.out HIX.out hOw MB10 o10 hL10 hmw
      generalize (y10.setCell ⟨mb, 1, none⟩ (.slice A10 (m0 + 1) d10)) = Y at *
      clear kb1 kr0 kr1 kr2 c10 z10 MB10 o10 r10 hX10 hL10 o8 r8 hX8 hL8 MB hL hcw hxl hxs hx1c hxnu B RB
      have hE := hE.trans hX11
      have SB := SB.ext hX11
      have hz := hz.ext hX11
      have e0 := MB11.c0
      have e1 := MB11.c1
      have e2 := MB11.c2
      go_wp2_with fail
      refine (Make_b _ (ip.more ir) _ hIP (IP.more_ok HOK.out HOKR.out (by rw [← HM0.out]; omega))).mono ?_
      rintro e w12 ⟨v12, a12, rfl, hM12, hx12⟩
      have hP12 := hM12.prob
      have hv12 := hM12.val
      subst hv12
      obtain ⟨P2, hP2⟩ : ∃ P, P = (ip.more ir).pl.toP := ⟨_, rfl⟩
      have HP2 : Hid (P2 = (ip.more ir).pl.toP) := Lib.hid hP2
      have HB2 : Hid (validB P2 = true → Bnd P2 16000000) := Lib.hid (by
        rw [hP2]
        exact fun hv => IP.bnd (IP.more_ok HOK.out HOKR.out (by rw [← HM0.out]; omega)) (by rw [IP.pn]; exact HFT.out.1) (by rw [IP.pm]; show (ip.rows ++ [ir]).length ≤ 9; rw [List.length_append, List.length_singleton, ← HM0.out]; omega) hv)
      rw [← hP2] at hP12 ⊢
      clear hP2 hM12 e0 e1 e2 hIP MB11
      go_upto_region 14 with fail
      have QB := Box.new w12 31 #[.slice a12.Ao P2.n a12.co, .slice a12.Ar P2.m a12.cr]
      have hx13 : Ext w12 (w12.alloc (.cells #[.slice a12.Ao P2.n a12.co, .slice a12.Ar P2.m a12.cr] 31)) := (Ext.refl w12).alloc _
      generalize (w12.alloc (.cells #[.slice a12.Ao P2.n a12.co, .slice a12.Ar P2.m a12.cr] 31)) = U13 at *
      obtain ⟨qb, hqb⟩ : ∃ x, x = w12.heap.size := ⟨_, rfl⟩
      rw [← hqb] at QB ⊢
      clear hqb
      have hx13 := hx12.trans hx13
      have hE := hE.trans hx13
      have SB := SB.ext hx13
      have hz := hz.ext hx13
      have hP13 := hP12.ext (by assumption)
      have q0 := QB.c0
      have q1 := QB.c1
      go_wp2_with fail
      refine (Solve_l _ P2 16000000 _ hP13 HB2.out).mono ?_
      rintro e w14 ⟨q2, A2, n2, c2, q2', A2', n2', c2', Ax2, nx2, cx2, Ay2, ny2, cy2, k2, z2, xs2, ys2, rfl, hz2, hX2, hY2, hbx2, hby2, hres2, hx14⟩
      have hE := hE.trans hx14
      have SB := SB.ext hx14
      have QB := QB.ext hx14
      have hz := hz.ext hx14
      have hP14 := hP13.ext hx14
      have HR2 : Hid (Res P2 k2 z2 nx2 xs2 ny2 ys2) := Lib.hid hres2
      clear hX2 hY2 hbx2 hby2 hres2 q0 q1
      go_upto_region 15 with fail
      have TB := Box.new w14 39 #[.bool q2, .slice A2 n2 c2, .bool q2', .slice A2' n2' c2', .slice Ax2 nx2 cx2, .slice Ay2 ny2 cy2]
      have hx15 : Ext w14 (w14.alloc (.cells #[.bool q2, .slice A2 n2 c2, .bool q2', .slice A2' n2' c2', .slice Ax2 nx2 cx2, .slice Ay2 ny2 cy2] 39)) := (Ext.refl w14).alloc _
      generalize (w14.alloc (.cells #[.bool q2, .slice A2 n2 c2, .bool q2', .slice A2' n2' c2', .slice Ax2 nx2 cx2, .slice Ay2 ny2 cy2] 39)) = U15 at *
      obtain ⟨tb, htb⟩ : ∃ x, x = w14.heap.size := ⟨_, rfl⟩
      rw [← htb] at TB ⊢
      clear htb
      have hE := hE.trans hx15
      have SB := SB.ext hx15
      have QB := QB.ext hx15
      have hz := hz.ext hx15
      have hz2 := hz2.ext hx15
      have hP15 := hP14.ext hx15
      clear hx15
      have q0 := QB.c0
      have q1 := QB.c1
      go_wp2_with fail
      refine (Valid_b _ P2 _ hP15).mono ?_
      rintro e w16 ⟨rfl, hx16⟩
      have hE := hE.trans hx16
      have SB := SB.ext hx16
      have TB := TB.ext hx16
      have hz := hz.ext hx16
      have hz2 := hz2.ext hx16
      clear q0 q1 QB
      have hall : (validB P2 = false ∧ k2 = 3) ∨ (validB P2 = true ∧ (k = 17 → k2 = 17) ∧ (k = 0 → k2 = 17 ∨ (k2 = 0 ∧ z2 ≤ z)) ∧ (k = 0 ∨ k = 17 ∨ k = 18)) := by
        have h1 := HR2.out
        rw [HP2.out] at h1 ⊢
        rcases h1.pl with ⟨a, b, c⟩ | ⟨a, b, _⟩
        · refine .inr ⟨(validB_pl _).2 a, ?_⟩
          rw [IP.more_pl] at a b c
          have hl := more_less ((validB_pl _).1 HVA.out.symm) a
          have hr := Is.range (PL.is ((validB_pl _).1 HVA.out.symm))
          rw [HKZ.out.2.1, HKZ.out.2.2, b, c]
          exact ⟨hl.1, hl.2, hr⟩
        · refine .inl ⟨?_, b⟩
          cases hv : validB (ip.more ir).pl.toP with
          | false => rfl
          | true => rw [(validB_pl _).1 hv] at a; cases a
      have s0 := SB.c0
      have s1 := SB.c1
      have s2 := SB.c2
      have s3 := SB.c3
      have t0 := TB.c0
      have t1 := TB.c1
      have t2 := TB.c2
      have t3 := TB.c3
      rcases hall with ⟨hv, rfl⟩ | ⟨hv, h17, h0, rfl | rfl | rfl⟩
      · rw [hv]
        go_wp2_with fail
        go_ret
        exact ⟨rfl, hE⟩
      · rw [hv]
        rcases h0 rfl with rfl | ⟨rfl, hle⟩
        · clear h17 h0
          go_wp2_with fail
          go_ret
          exact ⟨rfl, hE⟩
        · clear h17 h0
          go_wp2_with fail
          refine (RatCmp_b _ _ _ _ _ _ _ hz2 hz (by omega)).mono ?_
          rintro e w17 ⟨rfl, hx17⟩
          have hc : cmpQ z2 z ≤ 0 := by
            rcases cmpQ_cases z2 z with ⟨a, b⟩ | ⟨a, b⟩ | ⟨a, b⟩ <;> rw [b]
            · decide
            · decide
            · exact absurd hle (Rat.not_le.2 a)
          have hd : decide (cmpQ z2 z ≤ 0) = true := decide_eq_true hc
          go_wp2_with fail
          go_ret
          exact ⟨rfl, hE.trans hx17⟩
      · rw [hv]
        obtain rfl := h17 rfl
        clear h17 h0
        go_wp2_with fail
        go_ret
        exact ⟨rfl, hE⟩
      · rw [hv]
        clear h17 h0
        go_wp2_with fail
        go_ret
        exact ⟨rfl, hE⟩)
end Go.Proofs.YtgffcblldebelaaDoor.Lp

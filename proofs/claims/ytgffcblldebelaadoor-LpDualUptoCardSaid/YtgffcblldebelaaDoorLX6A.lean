/- Rows appended to a problem: lemmas of the laws. -/
import Derived.Test.YtgffcblldebelaaDoorLWA
import Derived.Test.YtgffcblldebelaaDoorLNB
set_option linter.unusedVariables false
set_option linter.unusedSimpArgs false
namespace Go.Proofs.YtgffcblldebelaaDoor.Lp
open Go.RowKit Go.Proofs.YtgffcblldebelaaDoor.Big Go.Proofs.YtgffcblldebelaaDoor.Rt

theorem validB_pl (P : PL) : validB P.toP = true ↔ P.valid = true := by
  rw [validB_iff, PL.valid_iff]
  unfold Prob.Valid
  refine and_congr Iff.rfl (and_congr Iff.rfl (and_congr Iff.rfl ⟨fun h r hr => ?_, fun h i hi => ?_⟩))
  · obtain ⟨i, hi, rfl⟩ := List.mem_iff_getElem.1 hr
    have h1 := h i hi
    have hrw : P.rows.getD i RL.zero = P.rows[i] := by rw [List.getD_eq_getElem?_getD, List.getElem?_eq_getElem hi]; rfl
    have h1 : (P.rows.getD i RL.zero).coef.length = P.obj.length ∧ 1 ≤ (P.rows.getD i RL.zero).rel ∧ (P.rows.getD i RL.zero).rel ≤ 3 := h1
    rw [hrw] at h1; exact h1
  · have hi' : i < P.rows.length := hi
    have hrw : P.rows.getD i RL.zero = P.rows[i] := by rw [List.getD_eq_getElem?_getD, List.getElem?_eq_getElem hi']; rfl
    show (P.rows.getD i RL.zero).coef.length = P.obj.length ∧ 1 ≤ (P.rows.getD i RL.zero).rel ∧ (P.rows.getD i RL.zero).rel ≤ 3
    rw [hrw]; exact h _ (List.getElem_mem hi')
theorem valid_more {P : PL} {r : RL} (hv : P.valid = true) (hr : r ∈ P.rows) (hl : P.rows.length < 1000) : (⟨P.obj, P.rows ++ [r]⟩ : PL).valid = true := by
  obtain ⟨a, b, c, d⟩ := PL.valid_iff.1 hv
  refine PL.valid_iff.2 ⟨a, b, by show (P.rows ++ [r]).length ≤ 1000; rw [List.length_append, List.length_singleton]; omega, fun s hs => ?_⟩
  rcases List.mem_append.1 hs with h | h
  · exact d s h
  · rw [List.mem_singleton.1 h]; exact d r hr
theorem more_same {P : PL} {r : RL} (hv : P.valid = true) (hr : r ∈ P.rows) (hl : P.rows.length < 1000) : (⟨P.obj, P.rows ++ [r]⟩ : PL).err = P.err ∧ (⟨P.obj, P.rows ++ [r]⟩ : PL).val = P.val := by
  have h1 := PL.is hv
  have h2 := PL.is (valid_more hv hr hl)
  have h3 := h2.congr (V' := P.V) (fun v => (more_twice hr v).symm)
  exact Is.same h3 h1
theorem more_less {P : PL} {r : RL} (hv : P.valid = true) (hv' : (⟨P.obj, P.rows ++ [r]⟩ : PL).valid = true) :
    (P.err = 17 → (⟨P.obj, P.rows ++ [r]⟩ : PL).err = 17) ∧ (P.err = 0 → (⟨P.obj, P.rows ++ [r]⟩ : PL).err = 17 ∨ ((⟨P.obj, P.rows ++ [r]⟩ : PL).err = 0 ∧ (⟨P.obj, P.rows ++ [r]⟩ : PL).val ≤ P.val)) :=
  (PL.is hv).fewer (PL.is hv') (fun v h => more_fewer r v h)
theorem Res.pl {P : PL} {k : Int} {z : Rat} {nx ny : Nat} {xs ys : Nat → Rat} (h : Res P.toP k z nx xs ny ys) : (P.valid = true ∧ k = P.err ∧ z = P.val) ∨ (P.valid = false ∧ k = 3 ∧ z = 0) := by
  rcases h with ⟨a, b, c, _⟩ | ⟨a, b, c, _⟩
  · refine .inr ⟨?_, b, c⟩
    cases e : P.valid with
    | false => rfl
    | true => rw [(validB_pl P).2 e] at a; cases a
  · exact .inl ⟨(validB_pl P).1 a, b, c⟩
theorem MRows.prx {w : World} {base lo : Nat} {P : PL} {rA : Nat → Option Addr} {rc : Nat → Nat} {X : Nat → Option Value} (h : MRows w base lo P.rows.length P.toP rA rc X) {i : Nat} {r : RL} (hi : P.rows[i]? = some r) {x y : Bool} {B B' : Option Addr} {d e d' e' : Nat} (hr : RatV w (.agg #[.bool x, .slice B d e, .bool y, .slice B' d' e']) (P.toP.right i)) :
    PRX w (fun j => [Value.slice (rA i) (P.toP.len i) (rc i), .int .u8 (P.toP.rel i : Int), .bool x, .slice B d e, .bool y, .slice B' d' e'][j]?) 0 r := by
  have hil := (List.getElem?_eq_some_iff.1 hi).1
  have hrw : P.rows.getD i RL.zero = r := by rw [List.getD_eq_getElem?_getD, hi]; rfl
  obtain ⟨-, -, h3, -⟩ := h.row i hil
  have hc := (h.coef i hil).rats
  have e1 : P.toP.len i = r.coef.length := by show (P.rows.getD i RL.zero).coef.length = _; rw [hrw]
  have e2 : P.toP.rel i = r.rel := by show (P.rows.getD i RL.zero).rel = _; rw [hrw]
  have e3 : P.toP.right i = r.right := by show (P.rows.getD i RL.zero).right = _; rw [hrw]
  have e4 : P.toP.coef i = fun j => r.coef.getD j 0 := by show (fun j => (P.rows.getD i RL.zero).coef.getD j 0) = _; rw [hrw]
  rw [e1, e4] at hc
  rw [e2] at h3
  rw [e3] at hr
  rw [e1, e2]
  exact ⟨rA i, rc i, x, B, d, e, y, B', d', e', rfl, rfl, rfl, rfl, rfl, rfl, h3, hc, hr⟩
theorem own_ne {w : World} {base k n : Nat} {E : TypeId} {v : Value} {xs : List Value} (o : OwnX w base E k v n xs) (hE : E ≠ 37) : ∀ b n' f, RowR w b n' f → ¬ v.ownBlock = some b := fun b n' f hb e => by
  obtain ⟨-, -, cur, hcur⟩ := o.lt e
  obtain ⟨cs, hcs⟩ := hb.cells
  exact row_ne hcur hcs hE rfl
theorem box_ne {w : World} {b : Nat} {E : TypeId} {cs : Array Value} (B : Box w b E cs) (hE : E ≠ 37) : ∀ b' n' f, RowR w b' n' f → ¬ b' = b := fun b' n' f hb e => by
  obtain ⟨cs', hcs⟩ := hb.cells
  exact row_ne B hcs hE e.symm
/-- a row appended to the rows of a problem in a box -/
theorem more_step {U X y : World} {base qb M N co d : Nat} {P : PL} {r : RL} {v : Value} {xs news : List Value} {Ao A : Option Addr} (hM : M = P.rows.length) (hN : N = M + 1) (o : OwnX X base 48 6 v M xs) (hPR : PRows X (fun i => xs[i]?) P.rows) (hPX : PRX X (fun i => news[i]?) 0 r) (hO : RatsV X Ao P.obj.length co (fun j => P.obj.getD j 0))
    (QB : Box X qb 31 #[.slice Ao P.obj.length co, v]) (o6 : OwnX y base 48 6 (.slice A N d) N (xs ++ news)) (k : Fr (fun g => v.ownBlock = some g) X y) (hX : Ext U X) (hb : U.heap.size ≤ base) (hq : U.heap.size ≤ qb) :
    ProbV (y.setCell ⟨qb, 1, none⟩ (.slice A N d)) (.agg #[.slice Ao P.obj.length co, .slice A N d]) (⟨P.obj, P.rows ++ [r]⟩ : PL).toP ∧ Box (y.setCell ⟨qb, 1, none⟩ (.slice A N d)) qb 31 #[.slice Ao P.obj.length co, .slice A N d] ∧ Ext U (y.setCell ⟨qb, 1, none⟩ (.slice A N d)) := by
  subst hM
  have hN : N = (P.rows ++ [r]).length := by rw [hN, List.length_append, List.length_singleton]
  subst hN
  obtain ⟨A0, c0, rfl⟩ := o.shape
  have tb := boxR QB o k (by decide)
  have hnP := own_ne o (by decide)
  have hP := PRows.push (hPR.fr k hnP) o.1 (hPX.fr k hnP)
  have hF : Fr (fun k => k = qb) y (y.setCell ⟨qb, 1, none⟩ (.slice A (P.rows ++ [r]).length d)) := (Fr.refl (fun k => k = qb) y).set (p := ⟨qb, 1, none⟩) rfl (fun z => by rw [tb.c1]; intro e; cases e) _
  have o7 := o6.fr hF (fun g hg e => by obtain ⟨-, -, cur, hcur⟩ := o6.lt hg; exact row_ne tb hcur (by decide) e.symm)
  exact ⟨prows_prob o7 (hP.fr hF (box_ne tb (by decide))) ((hO.fr k hnP).fr hF (box_ne tb (by decide))), tb.set 1 _, (k.ext hX (fun g hg => Nat.le_trans hb (o.lt hg).1)).set (p := ⟨qb, 1, none⟩) hq _⟩
/-- a problem with a further row -/
def IP.more (p : IP) (r : IRow) : IP := ⟨p.obj, p.rows ++ [r], p.den⟩
theorem IP.more_pl (p : IP) (r : IRow) : (p.more r).pl = ⟨p.pl.obj, p.pl.rows ++ [r.rl p.den]⟩ := by
  unfold IP.more IP.pl
  simp
theorem IP.more_ok {p : IP} {r : IRow} (h : p.ok) (hr : r.ok) (hl : p.rows.length < 1048576) : (p.more r).ok := by
  obtain ⟨a, b, c, d, e⟩ := h
  refine ⟨a, b, by show (p.rows ++ [r]).length ≤ 1048576; rw [List.length_append, List.length_singleton]; omega, d, fun s hs => ?_⟩
  rcases List.mem_append.1 hs with h | h
  · exact e s h
  · rw [List.mem_singleton.1 h]; exact hr
/-- a row as an argument -/
def IRV (w : World) (u : Value) (r : IRow) : Prop := ∃ A c, u = .agg #[.slice A r.coef.length c, .int .u8 (r.rel : Int), .int .i32 r.right] ∧ Row w (.slice A r.coef.length c) (wV r.coef)
theorem infoIRow : (Tryd.prog.info? 72).map (fun i => (i.zero, i.size, i.bytes)) = some (some (.agg #[.slice none 0 0, .int .u8 0, .int .i32 0]), 3, 32) := by kernel_rfl
theorem zIRow : ∀ u ∈ (Value.agg #[.slice none 0 0, .int .u8 0, .int .i32 0]).cells.toList, noU u = true := fun u hu => by
  simp [Value.cells] at hu
  rcases hu with rfl | rfl | rfl <;> rfl
theorem new3 (w : World) (E : TypeId) (a b c : Value) : ∀ j y, [a, b, c][j]? = some y → (w.alloc (.cells #[a, b, c] E)).cell? ⟨w.heap.size, j, none⟩ = some y := by
  intro j y hj
  rw [(Box.new w E #[a, b, c]).cell j, ← hj]
  exact List.getElem?_toArray
theorem one3 {A0 : Option Addr} {n0 c0 : Nat} {r q : Int} : ∀ y ∈ [Value.slice A0 n0 c0, .int .u8 r, .int .i32 q], y.oneCell' = true := fun y hy => by
  simp at hy
  rcases hy with rfl | rfl | rfl <;> rfl
theorem nou3 {A0 : Option Addr} {n0 c0 : Nat} {r q : Int} : ∀ y ∈ [Value.slice A0 n0 c0, .int .u8 r, .int .i32 q], noU y = true := fun y hy => by
  simp at hy
  rcases hy with rfl | rfl | rfl <;> rfl
theorem step_pushAL {w : World} {ops : Array Oper} {o : Oper} {a : Act} {K : Act → World → Prop} {Q : Exit → Act → World → Prop} {Z : Prop}
    (hg : o.guard = none) (s x : Operand) (t : TypeId) (hop : o.op = Op.call { callee := Callee.builtin Builtin.append, args := #[s, x], argTypes := #[t, t] })
    (a0 : World) (hLa : Ext a0 w) (e : TypeId) (i : TypeInfo) (z : Value) (k bytes : Nat) (h1 : Tryd.prog.underlying t = some (.slice e)) (h2 : Tryd.prog.info? e = some i) (h3 : i.zero = some z) (h4 : i.size = k) (h5 : i.bytes = bytes) (h6 : z.cells.size = k) (hz : ∀ u ∈ z.cells.toList, noU u = true)
    (v : Value) (n : Nat) (xs : List Value) (hs : a.eval s = v) (hown : OwnX w a0.heap.size e k v n xs) (A : Option Addr) (m : Nat) (news : List Value) (c : Nat) (hx : a.eval x = .slice A m c) (hnl : news.length = m * k) (hsrc : 0 < m → ∃ ad, A = some ad ∧ ∀ j y, news[j]? = some y → w.cell? (ad.add j) = some y) (h1c : ∀ y ∈ news, y.oneCell' = true) (hnu : ∀ y ∈ news, noU y = true)
    (b1 : n + m ≤ 1099511627776) (b2 : bytes ≤ 128)
    (hK : ∀ v' w', OwnX w' a0.heap.size e k v' (n + m) (xs ++ news) → Fr (fun g => v.ownBlock = some g) w w' → Ext a0 w' → K (a.put o.dst v') w') :
    if Region.wanted o (yielded ops a.tmps) = true then Oper.wp Tryd.prog o a w K Q else Z :=
  step_pushA hg s x t hop a0.heap.size e i z k bytes h1 h2 h3 h4 h5 h6 hz v n xs hs hown A m news c hx hnl hsrc h1c hnu b1 b2 (Ext.size hLa) (fun v' w' o r _ => hK v' w' o r (r.ext hLa (fun g hg => (hown.lt hg).1)))
theorem step_pushXL {w : World} {ops : Array Oper} {o : Oper} {a : Act} {K : Act → World → Prop} {Q : Exit → Act → World → Prop} {Z : Prop}
    (hg : o.guard = none) (s x : Operand) (t : TypeId) (hop : o.op = Op.call { callee := Callee.builtin Builtin.append, args := #[s, x], argTypes := #[t, t] })
    (a0 : World) (hLa : Ext a0 w) (e : TypeId) (i : TypeInfo) (z : Value) (k bytes : Nat) (h1 : Tryd.prog.underlying t = some (.slice e)) (h2 : Tryd.prog.info? e = some i) (h3 : i.zero = some z) (h4 : i.size = k) (h5 : i.bytes = bytes) (h6 : z.cells.size = k) (hz : ∀ u ∈ z.cells.toList, noU u = true)
    (v : Value) (n : Nat) (xs : List Value) (hs : a.eval s = v) (hown : OwnX w a0.heap.size e k v n xs) (ba : Nat) (news : List Value) (c : Nat) (hx : a.eval x = .slice (some ⟨ba, 0, none⟩) 1 c) (hnl : news.length = k) (hnw : ∀ j y, news[j]? = some y → w.cell? ⟨ba, j, none⟩ = some y) (h1c : ∀ y ∈ news, y.oneCell' = true) (hnu : ∀ y ∈ news, noU y = true)
    (b1 : n + 1 ≤ 1099511627776) (b2 : bytes ≤ 128)
    (hK : ∀ v' w', OwnX w' a0.heap.size e k v' (n + 1) (xs ++ news) → Fr (fun g => v.ownBlock = some g) w w' → Ext a0 w' → K (a.put o.dst v') w') :
    if Region.wanted o (yielded ops a.tmps) = true then Oper.wp Tryd.prog o a w K Q else Z :=
  step_pushX hg s x t hop a0.heap.size e i z k bytes h1 h2 h3 h4 h5 h6 hz v n xs hs hown ba news c hx hnl hnw h1c hnu b1 b2 (Ext.size hLa) (fun v' w' o r _ => hK v' w' o r (r.ext hLa (fun g hg => (hown.lt hg).1)))
theorem ip_src {w : World} {Ar : Option Addr} {rows : List IRow} (h : 0 < rows.length → ∃ b off, Ar = some ⟨b, off, none⟩ ∧ ∀ j r, rows[j]? = some r → IRowAt w b (off + j * 3) r) :
    ∃ xs : List Value, xs.length = rows.length * 3 ∧ (0 < rows.length → ∃ ad, Ar = some ad ∧ ∀ j y, xs[j]? = some y → w.cell? (ad.add j) = some y) ∧ (∀ y ∈ xs, y.oneCell' = true) ∧ (∀ y ∈ xs, noU y = true) ∧ IRows w (fun i => xs[i]?) rows := by
  rcases Nat.eq_zero_or_pos rows.length with hm | hm
  · exact ⟨[], by simp [hm], fun h => absurd h (by omega), fun y hy => (by cases hy), fun y hy => (by cases hy), fun j r hj => absurd (List.getElem?_eq_some_iff.1 hj).1 (by omega)⟩
  · obtain ⟨b, off, e, hr⟩ := h hm
    obtain ⟨xs, h1, h2, h3, h4, h5⟩ := irows_src hr
    exact ⟨xs, h1, fun _ => ⟨_, e, h2⟩, h3, h4, h5⟩
theorem more_ip {U y : World} {base mb N n m den co d n0 c0 : Nat} {ip : IP} {ir : IRow} {xs news : List Value} {Ao A A0 : Option Addr} (hn : n = ip.obj.length) (hm : m = ip.rows.length) (hd : den = ip.den) (hN : N = m + 1) (hl : xs.length = m * 3) (hIR : IRows U (fun i => xs[i]?) ip.rows) (hr : IRX U (fun i => news[i]?) 0 ir) (hO : Row U (.slice Ao n co) (wV ip.obj))
    (MB : Box y mb 25 #[.slice Ao n co, .slice A0 n0 c0, .int .u8 (den : Int)]) (o : OwnX y base 72 3 (.slice A N d) N (xs ++ news)) (hX : Ext U y) (hq : U.heap.size ≤ mb) :
    IPV (y.setCell ⟨mb, 1, none⟩ (.slice A N d)) (.agg #[.slice Ao n co, .slice A N d, .int .u8 (den : Int)]) (ip.more ir) ∧ Box (y.setCell ⟨mb, 1, none⟩ (.slice A N d)) mb 25 #[.slice Ao n co, .slice A N d, .int .u8 (den : Int)] ∧ Ext U (y.setCell ⟨mb, 1, none⟩ (.slice A N d)) := by
  subst hn hm hd
  have hN : N = (ip.rows ++ [ir]).length := by rw [hN, List.length_append, List.length_singleton]
  subst hN
  have hF : Fr (fun k => k = mb) y (y.setCell ⟨mb, 1, none⟩ (.slice A (ip.rows ++ [ir]).length d)) := (Fr.refl (fun k => k = mb) y).set (p := ⟨mb, 1, none⟩) rfl (fun z => by rw [MB.c1]; intro e; cases e) _
  have o7 := o.fr hF (fun g hg e => by obtain ⟨-, -, cur, hcur⟩ := o.lt hg; exact row_ne MB hcur (by decide) e.symm)
  have hXY : Ext U (y.setCell ⟨mb, 1, none⟩ (.slice A (ip.rows ++ [ir]).length d)) := hX.set (p := ⟨mb, 1, none⟩) hq _
  obtain ⟨A', c', e, h1, h2, h3⟩ := irows_view o7 ((IRows.push hIR hl hr).ext hXY)
  injection e with e1 e2 e3
  subst e1 e3
  exact ⟨⟨Ao, co, A, d, rfl, hO.ext hXY, h1, h2, h3⟩, MB.set 1 _, hXY⟩
end Go.Proofs.YtgffcblldebelaaDoor.Lp

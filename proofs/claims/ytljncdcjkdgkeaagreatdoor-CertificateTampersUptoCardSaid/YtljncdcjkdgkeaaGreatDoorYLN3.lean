/- Walk: Make. -/
import Derived.Test.YtljncdcjkdgkeaaGreatDoorYLN2
set_option linter.unusedVariables false
set_option linter.unusedSimpArgs false
namespace Go.Proofs.YtljncdcjkdgkeaaGreatDoor.Lp
open Go.RowKit Go.Proofs.YtljncdcjkdgkeaaGreatDoor.Big Go.Proofs.YtljncdcjkdgkeaaGreatDoor.Rt
theorem OwnM.far {w : World} {base lo m b i : Nat} {v : Value} {p : Prob} {rA : Nat → Option Addr} {rc : Nat → Nat} {E : TypeId} {cs : Array Value} (h : OwnM w base lo v m p rA rc) (B : Box w b E cs) (h1 : E ≠ 75) (h2 : E ≠ 58) (hc : ∀ z, cs[i]? ≠ some (.int .u32 z)) (u : Value) :
 OwnM (w.setCell ⟨b, i, none⟩ u) base lo v m p rA rc := by
 obtain ⟨xs, o, r⟩ := h
 have k : Fr (fun k => k = b) w (w.setCell ⟨b, i, none⟩ u) := (Fr.refl (fun k => k = b) w).set (p := ⟨b, i, none⟩) rfl (fun z => by rw [B.cell i]; exact hc z) u
 refine ⟨xs, o.fr k (fun g hg e => ?_), r.fr k (fun b' n f hb e => ?_)⟩
 ·obtain ⟨-, -, cur, hcur⟩ := o.lt hg
  exact qb8 B hcur h1 e.symm
 ·obtain ⟨cs', hcs⟩ := hb.cells
  exact qb8 B hcs h2 e.symm
theorem OwnM.shape {w : World} {base lo m : Nat} {v : Value} {p : Prob} {rA : Nat → Option Addr} {rc : Nat → Nat} (h : OwnM w base lo v m p rA rc) : ∃ A c, v = .slice A m c := by
 obtain ⟨xs, h1, _⟩ := h; exact h1.shape
theorem qjq.up {w : World} {base base' : Nat} {A : Option Addr} {n c : Nat} {f : Nat → Rat} (h : qjq w base A n c f) (hb : base' ≤ base) : qjq w base' A n c f :=
 ⟨h.1, h.2.1, fun hn => by obtain ⟨b, e, hr, hb'⟩ := h.2.2 hn; exact ⟨b, e, hr, Nat.le_trans hb hb'⟩⟩
theorem OwnM.new {X w3 : World} {base lo m B l c : Nat} {v : Value} {p : Prob} {rA : Nat → Option Addr} {rc : Nat → Nat} {A : Option Addr} {f : Nat → Rat} (h : OwnM X base lo v m p rA rc) (hR : qjq w3 B A l c f) (hB : X.heap.size ≤ B) : ∀ i, i < m → 0 < p.len i → 0 < l → rA i ≠ A := by
 intro i hi h1 h2 e
 obtain ⟨xs', -, m'⟩ := h
 obtain ⟨b', e', hr', -⟩ := (m'.coef i hi).2.2 h1
 obtain ⟨b'', e'', -, hb''⟩ := hR.2.2 h2
 rw [e', e''] at e
 injection e with e
 injection e with e
 have := hr'.lt
 omega
theorem OwnM.push {w w' : World} {base lo m l rel : Nat} {v v' : Value} {p : Prob} {rA : Nat → Option Addr} {rc : Nat → Nat} {xs : List Value} {A : Option Addr} {c : Nat} {x y : Bool} {B B' : Option Addr} {d e d' e' : Nat} {q : Rat} {f : Nat → Rat}
 (o : OwnX w base 75 6 v m xs) (h : MRows w base lo m p rA rc (fun i => xs[i]?)) (o' : OwnX w' base 75 6 v' (m + 1) (xs ++ [.slice A l c, .int .u8 (rel : Int), .bool x, .slice B d e, .bool y, .slice B' d' e'])) (k : Fr (fun g => v.ownBlock = some g) w w')
 (hl : p.len m = l) (hr : p.rel m = rel) (hr2 : rel ≤ 255) (hq : RatV w (.agg #[.bool x, .slice B d e, .bool y, .slice B' d' e']) q) (hqe : p.right m = q) (hc : qjq w lo A l c f) (hf : ∀ j, p.coef m j = f j) (hne : ∀ i, i < m → 0 < p.len i → 0 < l → rA i ≠ A) :
 OwnM w' base lo v' (m + 1) p (fun i => if i = m then A else rA i) (fun i => if i = m then c else rc i) := by
 subst hl hr
 rw [← hqe] at hq
 exact ⟨_, o', MRows.push o h k hr2 hq (hc.congr (fun j _ => (hf j).symm)) hne⟩
theorem qjq.far {w : World} {base b i n c : Nat} {A : Option Addr} {f : Nat → Rat} {E : TypeId} {cs : Array Value} (h : qjq w base A n c f) (B : Box w b E cs) (h2 : E ≠ 58) (hc : ∀ z, cs[i]? ≠ some (.int .u32 z)) (u : Value) : qjq (w.setCell ⟨b, i, none⟩ u) base A n c f := by
 have k : Fr (fun k => k = b) w (w.setCell ⟨b, i, none⟩ u) := (Fr.refl (fun k => k = b) w).set (p := ⟨b, i, none⟩) rfl (fun z => by rw [B.cell i]; exact hc z) u
 refine ⟨h.1, h.2.1, fun hn => ?_⟩
 obtain ⟨b', e, hr, hb⟩ := h.2.2 hn
 refine ⟨b', e, hr.fr k (fun e' => ?_), hb⟩
 obtain ⟨cs', hcs⟩ := hr.cells
 exact qb8 B hcs h2 e'.symm
theorem OwnM.up {w : World} {base base' lo m : Nat} {v : Value} {p : Prob} {rA : Nat → Option Addr} {rc : Nat → Nat} (h : OwnM w base lo v m p rA rc) (hb : base' ≤ base) : OwnM w base' lo v m p rA rc := by
 obtain ⟨xs, o, r⟩ := h
 exact ⟨xs, o.up hb, r.row, r.coef, r.apart⟩
theorem OwnM.mk2 {w : World} {base lo : Nat} {v : Value} {p : Prob} {rA : Nat → Option Addr} {rc : Nat → Nat} (h : OwnM w base lo v p.m p rA rc) {Ao : Option Addr} {co : Nat} (ho : qjq w base Ao p.n co p.obj) (hlo : base ≤ lo) (hap : ∀ i, i < p.m → 0 < p.len i → 0 < p.n → rA i ≠ Ao) :
 ∃ a, MkV w base (.agg #[.slice Ao p.n co, v]) p a ∧ OwnM w base base (.slice a.Ar p.m a.cr) p.m p a.rA a.rc := by
 have h0 := h
 obtain ⟨xs, h1, h2⟩ := h
 have h2' : MRows w base base p.m p rA rc (fun i => xs[i]?) := ⟨h2.row, fun i hi => by obtain ⟨a, b, c⟩ := h2.coef i hi; exact ⟨a, b, fun hn => by obtain ⟨b', e, hr, hb⟩ := c hn; exact ⟨b', e, hr, Nat.le_trans hlo hb⟩⟩, h2.apart⟩
 rcases Nat.eq_zero_or_pos p.m with hm | hm
 ·obtain ⟨A, c, rfl⟩ := h1.shape
  have hc : c ≤ 9223372036854775807 := by
   rcases h1.2 with ⟨e, _⟩ | ⟨g, cap, cur, e, _, _, _, h6, _⟩
   ·injection e with _ _ e; omega
   ·injection e with _ _ e
    unfold maxLen at h6; omega
  exact ⟨⟨Ao, co, A, 0, c, rA, rc⟩, ⟨rfl, ho, ⟨by show p.m ≤ c; omega, hc⟩, fun h => by omega, ⟨fun i hi => by omega, fun i hi => by omega, fun i hi => by omega⟩, hap⟩, xs, h1, h2'⟩
 ·have h1' := h1
  obtain ⟨g, cap, rfl, _, hb, h3, h4, ⟨cur, h5, h6⟩, _, h8⟩ := h1.cells hm
  exact ⟨⟨Ao, co, some ⟨g, 0, none⟩, g, cap, rA, rc⟩, ⟨rfl, ho, ⟨h3, h4⟩, fun _ => ⟨rfl, hb, cur, h5, h6⟩, h2'.X (fun i _ u hu => h8 i u hu), hap⟩, xs, h1', h2'⟩
def MkPostO (w : World) (p : Prob) (e : Ending) (w' : World) : Prop := ∃ v a, e = .returned v ∧ MkV w' w.heap.size v p a ∧ OwnM w' w.heap.size w.heap.size (.slice a.Ar p.m a.cr) p.m p a.rA a.rc ∧ Ext w w'
def MkPost (w : World) (p : Prob) (e : Ending) (w' : World) : Prop := ∃ v a, e = .returned v ∧ MkV w' w.heap.size v p a ∧ Ext w w'
set_option maxHeartbeats 16000000 in
set_option maxRecDepth 100000 in
theorem Make_o (v : Value) (ip : IP) (w : World) (h : IPV w v ip) (hok : ip.ok) : Calls Tryz.prog 14 #[v] w (MkPostO w ip.pl.toP) := by
 obtain ⟨Ao, co, Ar, cr, rfl, ho, hmc, -, hrows⟩ := h
 obtain ⟨k1, k2, k3, k4, k5⟩ := hok
 obtain ⟨p, hp⟩ : ∃ p, p = ip.pl.toP := ⟨_, rfl⟩
 rw [← hp]
 have HP : Hid (∀ k r, ip.rows[k]? = some r → p.len k = r.coef.length ∧ p.rel k = r.rel ∧ p.right k = qn r.right ip.den ∧ ∀ j, p.coef k j = qn (r.coef.getD j 0) ip.den) := Lib.hid (fun k r hk => by
  have e := IP.row hk
  rw [hp]
  refine ⟨?_, ?_, ?_, fun j => ?_⟩
  ·show (ip.pl.rows.getD k RL.zero).coef.length = _; rw [e]; simp [IRow.rl]
  ·show (ip.pl.rows.getD k RL.zero).rel = _; rw [e]; rfl
  ·show (ip.pl.rows.getD k RL.zero).right = _; rw [e]; rfl
  ·show (ip.pl.rows.getD k RL.zero).coef.getD j 0 = _; rw [e]; exact qzn _ _ _)
 have HPN : Hid (p.n = ip.obj.length ∧ p.m = ip.rows.length ∧ ∀ j, p.obj j = qn (ip.obj.getD j 0) ip.den) := Lib.hid (by
  rw [hp]
  exact ⟨by show (ip.obj.map _).length = _; simp, by show (ip.rows.map _).length = _; simp, fun j => qzn _ _ _⟩)
 have HK1 := Lib.hid k1
 have HK5 := Lib.hid k5
 have HROW := Lib.hid hrows
 clear hp k1 k5 hrows
 obtain ⟨n, hn⟩ : ∃ n, n = ip.obj.length := ⟨_, rfl⟩
 obtain ⟨m, hm⟩ : ∃ n, n = ip.rows.length := ⟨_, rfl⟩
 obtain ⟨d, hd⟩ : ∃ n, n = ip.den := ⟨_, rfl⟩
 rw [← hn] at ho k2 HPN ⊢
 rw [← hm] at hmc k3 HROW HPN ⊢
 rw [← hd] at k4 HP HPN ⊢
 have HM := Lib.hid hm
 have HNN := Lib.hid hn
 clear hn hm hd
 obtain ⟨B1, B2, hE0⟩ := qwt w 37 41 #[.slice Ao n co, .slice Ar m cr, .int .u8 (d : Int)] #[.slice none 0 0, .slice none 0 0]
 go_enter Tryz.func14, Tryz.ntmps14
 go_upto_region 1 with fail
 generalize ((w.alloc (.cells #[.slice Ao n co, .slice Ar m cr, .int .u8 (d : Int)] 37)).alloc (.cells #[.slice none 0 0, .slice none 0 0] 41)) = V at *
 obtain ⟨b2, hb2⟩ : ∃ x, x = w.heap.size + 1 := ⟨_, rfl⟩
 obtain ⟨b1, hb1⟩ : ∃ x, x = w.heap.size := ⟨_, rfl⟩
 rw [← hb2] at B2 ⊢
 rw [← hb1] at B1 ⊢
 have hw2 : w.heap.size ≤ b2 := by omega
 have hb12 : b1 ≠ b2 := by omega
 clear hb1 hb2
 have c0 := B1.c0
 have c1 := B1.c1
 have c2 := B1.c2
 go_wp2_with fail
 refine (qel Ao n co ip.obj d _ (ho.ext hE0) HK1.out k4 (by rw [← HNN.out]; exact k2)).mono ?_
 rintro e w1 ⟨A1, d1, rfl, hO1, hx1⟩
 rw [← HNN.out] at hO1 ⊢
 have hE1 := hE0.trans hx1
 have B1 := B1.ext hx1
 have B2 := B2.ext hx1
 have hO1 : qjq w1 w.heap.size A1 n d1 p.obj := ⟨hO1.1, hO1.2.1, fun hn => by obtain ⟨b, e, hr, hb⟩ := hO1.2.2 hn; exact ⟨b, e, hr.congr (fun j _ => (HPN.out.2.2 j).symm), Nat.le_trans hE0.size hb⟩⟩
 have c1 := B1.c1
 clear c0 c2
 go_upto_region 2 with fail
 obtain ⟨b3, hb3⟩ : ∃ x, x = w1.heap.size := ⟨_, rfl⟩
 have B3 := Box.new w1 41 #[.slice A1 n d1, .slice none 0 0]
 have hx2 : Ext w1 (w1.alloc (.cells #[.slice A1 n d1, .slice none 0 0] 41)) := (Ext.refl w1).alloc _
 generalize (w1.alloc (.cells #[.slice A1 n d1, .slice none 0 0] 41)) = U at *
 rw [← hb3] at B3 ⊢
 have h13 : w1.heap.size ≤ b3 := by omega
 clear hb3
 have c1 := hx2.cell c1
 obtain ⟨ir, ir1, ir2, ir3, ir4⟩ := info_parts qqi
 have hwB : w.heap.size ≤ w1.heap.size := hE1.size
 go_wp2_with fail
 clear c1
 go_loopw [15] (fun i wr => ∃ (k : Nat) (vr : Value) (rA : Nat → Option Addr) (rc : Nat → Nat), k ≤ m ∧ i = .int .i64 k ∧ OwnM wr w1.heap.size w1.heap.size vr k p rA rc ∧ Box wr b3 41 #[.slice A1 n d1, vr] ∧ Ext w1 wr) (fun i _ => m - (intOf i).toNat)
 case atStart => exact ⟨0, _, fun _ => none, fun _ => 0, by omega, rfl, OwnM.nil _ _ _ _ _ _, B3, hx2⟩
 case round =>
  clear B3 hx2
  obtain ⟨k, vr, rA, rc, hk, rfl, hO, B3, hx⟩ := hrel
  by_cases hlt : k < m
  ·obtain ⟨b, off, rfl, hrow⟩ := HROW.out (by omega)
   obtain ⟨r, hr⟩ : ∃ r, ip.rows[k]? = some r := ⟨_, List.getElem?_eq_getElem (by have := HM.out; omega)⟩
   obtain ⟨Ac, cc, g0, g1, g2, hrw⟩ := (hrow k r hr).ext (hE1.trans hx)
   obtain ⟨q1, q2, q3, q4⟩ := HK5.out r (List.mem_of_getElem? hr)
   obtain ⟨p1, p2, p3, p4⟩ := HP.out k r hr
   clear hr hrow
   have HQ1 := Lib.hid q1
   have HP1 := Lib.hid p1
   have HP2 := Lib.hid p2
   have HP3 := Lib.hid p3
   have HP4 := Lib.hid p4
   clear p1 p2 p3 p4 q1
   obtain ⟨l, hl⟩ : ∃ l, l = r.coef.length := ⟨_, rfl⟩
   obtain ⟨rel, hrl⟩ : ∃ l, l = r.rel := ⟨_, rfl⟩
   obtain ⟨rt, hrt⟩ : ∃ l, l = r.right := ⟨_, rfl⟩
   rw [← hl] at g0 hrw q4 HP1
   rw [← hrl] at g1 q3 HP2
   rw [← hrt] at g2 q2 HP3
   have HL := Lib.hid hl
   have HL2 : Hid (r.coef.length ≤ 1048576) := Lib.hid (by rw [← hl]; exact q4)
   clear hl hrl hrt
   go_upto_region 5 with fail
   obtain ⟨rb, hrb⟩ : ∃ z, z = wr.heap.size := ⟨_, rfl⟩
   have B5 := Box.new wr 104 #[.slice Ac l cc, .int .u8 (rel : Int), .int .i32 rt]
   have hEx : Ext wr (wr.alloc (.cells #[.slice Ac l cc, .int .u8 (rel : Int), .int .i32 rt] 104)) := (Ext.refl wr).alloc _
   generalize (wr.alloc (.cells #[.slice Ac l cc, .int .u8 (rel : Int), .int .i32 rt] 104)) = X at *
   rw [← hrb] at B5 ⊢
   clear hrb g0 g1 g2
   have hO := hO.ext hEx
   have B3 := B3.ext hEx
   have hx := hx.trans hEx
   have hrw := hrw.ext hEx
   have B1 := B1.ext hx
   have hXs : w1.heap.size ≤ X.heap.size := hx.size
   have j2 := B1.c2
   have m0 := B5.c0
   have m1 := B5.c1
   have m2 := B5.c2
   have t1 := B3.c1
   obtain ⟨Av, cv, rfl⟩ := hO.shape
   have hNP : ∀ {b E cs}, Box X b E cs → E ≠ 75 → ¬ (Value.slice Av k cv).ownBlock = some b := fun {b E cs} hb hE e => by
    obtain ⟨xs, o, -⟩ := hO
    obtain ⟨-, -, cur, hcur⟩ := o.lt e
    exact qb8 hb hcur hE rfl
   have k10 : ∀ w', Fr (fun g => (Value.slice Av k cv).ownBlock = some g ∨ g = b3) X w' → w'.cell? ⟨b1, 2, none⟩ = some _ := fun w' h => h.cell (fun e => e.elim (hNP B1 (by decide)) (fun e => qb8 B1 B3 (by decide) e)) j2
   have k50 : ∀ w', Fr (fun g => (Value.slice Av k cv).ownBlock = some g ∨ g = b3) X w' → w'.cell? ⟨rb, 0, none⟩ = some _ := fun w' h => h.cell (fun e => e.elim (hNP B5 (by decide)) (fun e => qb8 B5 B3 (by decide) e)) m0
   have k51 : ∀ w', Fr (fun g => (Value.slice Av k cv).ownBlock = some g ∨ g = b3) X w' → w'.cell? ⟨rb, 1, none⟩ = some _ := fun w' h => h.cell (fun e => e.elim (hNP B5 (by decide)) (fun e => qb8 B5 B3 (by decide) e)) m1
   have k52 : ∀ w', Fr (fun g => (Value.slice Av k cv).ownBlock = some g ∨ g = b3) X w' → w'.cell? ⟨rb, 2, none⟩ = some _ := fun w' h => h.cell (fun e => e.elim (hNP B5 (by decide)) (fun e => qb8 B5 B3 (by decide) e)) m2
   have ks := Fr.refl (fun g => (Value.slice Av k cv).ownBlock = some g ∨ g = b3) X
   clear hEx j2 m0 m1 m2
   refine wp_region_held_drew (S := fun w' => Fr (fun g => (Value.slice Av k cv).ownBlock = some g ∨ g = b3) X w') (by kernel_rfl) ?_ (fun hHeld => ?_)
   ·(try dsimp only); exact kFx
   repeat' (first
    | simp only [Act.put, sqa, sqb, sqc]
    | (
     first
      | refine tky (i := 0) (oi := { dst := some 19, op := Op.fieldAddr 41 (Operand.tmp 3) 1, type := 0, pos := "law.go:73", after := #[], guard := none }) (v := ?_) rfl ?_ (by assumption) ?_
      | refine tky (i := 2) (oi := { dst := some 21, op := Op.fieldAddr 104 (Operand.tmp 5) 0, type := 0, pos := "law.go:73", after := #[], guard := none }) (v := ?_) rfl ?_ (by assumption) ?_
      | refine tky (i := 3) (oi := { dst := some 22, op := Op.load 34 (Operand.tmp 21), type := 34, pos := "law.go:73", after := #[{ on := 2, ground := Ground.data }], guard := none }) (v := ?_) rfl ?_ (by assumption) ?_
      | refine tky (i := 4) (oi := { dst := some 23, op := Op.fieldAddr 37 (Operand.tmp 1) 2, type := 0, pos := "law.go:73", after := #[], guard := none }) (v := ?_) rfl ?_ (by assumption) ?_
      | refine tky (i := 5) (oi := { dst := some 24, op := Op.load 5 (Operand.tmp 23), type := 5, pos := "law.go:73", after := #[{ on := 4, ground := Ground.data }], guard := none }) (v := ?_) rfl ?_ (by assumption) ?_
      | refine tky (i := 7) (oi := { dst := some 26, op := Op.fieldAddr 104 (Operand.tmp 5) 1, type := 0, pos := "law.go:73", after := #[], guard := none }) (v := ?_) rfl ?_ (by assumption) ?_
      | refine tky (i := 8) (oi := { dst := some 27, op := Op.load 5 (Operand.tmp 26), type := 5, pos := "law.go:73", after := #[{ on := 7, ground := Ground.data }], guard := none }) (v := ?_) rfl ?_ (by assumption) ?_
      | refine tky (i := 9) (oi := { dst := some 28, op := Op.fieldAddr 104 (Operand.tmp 5) 2, type := 0, pos := "law.go:73", after := #[], guard := none }) (v := ?_) rfl ?_ (by assumption) ?_
      | refine tky (i := 10) (oi := { dst := some 29, op := Op.load 21 (Operand.tmp 28), type := 21, pos := "law.go:73", after := #[{ on := 9, ground := Ground.data }], guard := none }) (v := ?_) rfl ?_ (by assumption) ?_
      | refine tky (i := 11) (oi := { dst := some 30, op := Op.fieldAddr 37 (Operand.tmp 1) 2, type := 0, pos := "law.go:73", after := #[], guard := none }) (v := ?_) rfl ?_ (by assumption) ?_
      | refine tky (i := 12) (oi := { dst := some 31, op := Op.load 5 (Operand.tmp 30), type := 5, pos := "law.go:73", after := #[{ on := 11, ground := Ground.data }], guard := none }) (v := ?_) rfl ?_ (by assumption) ?_
      | refine tky (i := 14) (oi := { dst := some 33, op := Op.build 75 #[(0, Operand.tmp 25), (1, Operand.tmp 27), (2, Operand.tmp 32)], type := 75, pos := "law.go:73", after := #[{ on := 6, ground := Ground.data }, { on := 8, ground := Ground.data }, { on := 13, ground := Ground.data }], guard := none }) (v := ?_) rfl ?_ (by assumption) ?_
      | refine tky (i := 17) (oi := { dst := some 36, op := Op.fieldAddr 41 (Operand.tmp 3) 1, type := 0, pos := "law.go:73", after := #[{ on := 0, ground := Ground.phase }, { on := 1, ground := Ground.phase }, { on := 2, ground := Ground.phase }, { on := 3, ground := Ground.phase }, { on := 4, ground := Ground.phase }, { on := 5, ground := Ground.phase }, { on := 6, ground := Ground.phase }, { on := 7, ground := Ground.phase }, { on := 8, ground := Ground.phase }, { on := 9, ground := Ground.phase }, { on := 10, ground := Ground.phase }, { on := 11, ground := Ground.phase }, { on := 12, ground := Ground.phase }, { on := 13, ground := Ground.phase }, { on := 14, ground := Ground.phase }, { on := 15, ground := Ground.phase }, { on := 16, ground := Ground.phase }], guard := none }) (v := ?_) rfl ?_ (by assumption) ?_
     rotate_left
     ·intro w hSw; (try dsimp only at hSw); go_simp; try (with_reducible rfl))
    | refine wpAnyH_ready (rs := [1, 6]) (by decide +kernel) (by simp) ?_
    | refine wpAnyH_ready (rs := [6]) (by decide +kernel) (by simp) ?_
    | refine wpAnyH_ready (rs := [13]) (by decide +kernel) (by simp) ?_
    | refine wpAnyH_ready (rs := [15]) (by decide +kernel) (by simp) ?_
    | refine wpAnyH_ready (rs := [16]) (by decide +kernel) (by simp) ?_
    | refine wpAnyH_ready (rs := [18]) (by decide +kernel) (by simp) ?_
    | refine wpAnyH_ready (rs := [1, 13]) (by decide +kernel) (by simp) ?_
    | refine wpAnyH_ready (rs := [1, 15]) (by decide +kernel) (by simp) ?_
    | refine wpAnyH_ready (rs := [1]) (by decide +kernel) (by simp) ?_
    | (
     refine AllReadyH.cons (o := { dst := some 20, op := Op.load 39 (Operand.tmp 19), type := 39, pos := "law.go:73", after := #[{ on := 0, ground := Ground.data }], guard := none }) rfl (fun K hK => ?_) ?_
     go_simp
     try (go_wp2_with fail)
     refine hK.out _ _ ?_ (fun hHeld => ?_)
     ·(try dsimp only); exact kFx
     clear hK K)
    | (
     refine AllReadyH.cons (o := { dst := some 25, op := Op.call { callee := Callee.value (Operand.func 41), args := #[Operand.tmp 22, Operand.tmp 24], argTypes := #[34, 5] }, type := 38, pos := "law.go:73", after := #[{ on := 3, ground := Ground.data }, { on := 5, ground := Ground.data }], guard := none }) rfl (fun K hK => ?_) ?_
     go_simp
     first
      | ((have hza := hy4.alloc (.cells #[.slice A3 l c3, .int .u8 (rel : Int), .bool pk, .slice Ak nk ck, .bool pk', .slice Ak' nk' ck'] 75)); (obtain ⟨xs, oX, rX⟩ := hO.ext hza); (refine qos rfl (.tmp 20) (.tmp 34) 39 rfl w1.heap.size 75 ir _ 6 96 Tryz.underlying39 ir1 ir2 ir3 ir4 rfl zRow _ k xs rfl oX w4.heap.size [.slice A3 l c3, .int .u8 (rel : Int), .bool pk, .slice Ak nk ck, .bool pk', .slice Ak' nk' ck'] 1 rfl rfl (new6 w4 75 _ _ _ _ _ _) one6 nou6 (by omega) (by decide) (by have := hza.size; omega) ?_); intro v6 y6 o6 r6 s6; (have tb6 := boxR (B3.ext hza) oX r6 (by decide)); (have c6 := tb6.c1); (have z6 := tb6.frozen 1); (obtain ⟨A6, d6, rfl⟩ := o6.shape); (have hS6 : Fr (fun g => (Value.slice Av k cv).ownBlock = some g ∨ g = b3) X y6 := (Fr.of hza).trans (r6.weak (fun _ h => .inl h))); (have hS7 : Fr (fun g => (Value.slice Av k cv).ownBlock = some g ∨ g = b3) X (y6.setCell ⟨b3, 1, none⟩ (.slice A6 (k + 1) d6)) := hS6.set (p := ⟨b3, 1, none⟩) (.inr rfl) (fun z => by rw [c6]; intro e; cases e) _))
      | (go_at_call 41; (with_reducible refine (qel Ac l cc r.coef d _ (Row.ext hrw eBx) HQ1.out k4 HL2.out).mono ?_); rintro e1 w3 ⟨A3, c3, rfl, hR3, hx3⟩; (rw [← HL.out] at hR3 ⊢); (have hy3 : Ext X w3 := Ext.trans eBx hx3); (have u1 := hy3.cell t1))
     try (go_wp2_with fail)
     refine hK.out _ _ ?_ (fun hHeld => ?_)
     ·(try dsimp only); exact kFx
     clear hK K)
    | (
     refine AllReadyH.cons (o := { dst := some 32, op := Op.call { callee := Callee.value (Operand.func 42), args := #[Operand.tmp 29, Operand.tmp 31], argTypes := #[21, 5] }, type := 58, pos := "law.go:73", after := #[{ on := 10, ground := Ground.data }, { on := 12, ground := Ground.data }, { on := 6, ground := Ground.chain }], guard := none }) rfl (fun K hK => ?_) ?_
     go_simp
     first
      | ((have hza := hy4.alloc (.cells #[.slice A3 l c3, .int .u8 (rel : Int), .bool pk, .slice Ak nk ck, .bool pk', .slice Ak' nk' ck'] 75)); (obtain ⟨xs, oX, rX⟩ := hO.ext hza); (refine qos rfl (.tmp 20) (.tmp 34) 39 rfl w1.heap.size 75 ir _ 6 96 Tryz.underlying39 ir1 ir2 ir3 ir4 rfl zRow _ k xs rfl oX w4.heap.size [.slice A3 l c3, .int .u8 (rel : Int), .bool pk, .slice Ak nk ck, .bool pk', .slice Ak' nk' ck'] 1 rfl rfl (new6 w4 75 _ _ _ _ _ _) one6 nou6 (by omega) (by decide) (by have := hza.size; omega) ?_); intro v6 y6 o6 r6 s6; (have tb6 := boxR (B3.ext hza) oX r6 (by decide)); (have c6 := tb6.c1); (have z6 := tb6.frozen 1); (obtain ⟨A6, d6, rfl⟩ := o6.shape); (have hS6 : Fr (fun g => (Value.slice Av k cv).ownBlock = some g ∨ g = b3) X y6 := (Fr.of hza).trans (r6.weak (fun _ h => .inl h))); (have hS7 : Fr (fun g => (Value.slice Av k cv).ownBlock = some g ∨ g = b3) X (y6.setCell ⟨b3, 1, none⟩ (.slice A6 (k + 1) d6)) := hS6.set (p := ⟨b3, 1, none⟩) (.inr rfl) (fun z => by rw [c6]; intro e; cases e) _))
      | (go_at_call 42; (with_reducible refine (qp7 rt d _ q2 k4).mono ?_); rintro e1 w4 ⟨v4, rfl, hb4, hx4⟩; (have hz4 : Ext w3 w4 := Ext.trans eBx hx4); (have hy4 : Ext X w4 := hy3.trans hz4); (obtain ⟨pk, Ak, nk, ck, pk', Ak', nk', ck', rfl⟩ := hb4.1.shape); (have u2 := hy4.cell t1); (have u3 := (hy4.alloc (.cells #[.slice A3 l c3, .int .u8 (rel : Int), .bool pk, .slice Ak nk ck, .bool pk', .slice Ak' nk' ck'] 75)).cell t1))
     try (go_wp2_with fail)
     refine hK.out _ _ ?_ (fun hHeld => ?_)
     ·(try dsimp only); exact kFx
     clear hK K)
    | (
     refine AllReadyH.cons (o := { dst := some 34, op := Op.buildSlice 39 1 #[(0, Operand.tmp 33)], type := 39, pos := "law.go:73", after := #[{ on := 14, ground := Ground.data }], guard := none }) rfl (fun K hK => ?_) ?_
     go_simp
     try (go_wp2_with fail)
     refine hK.out _ _ ?_ (fun hHeld => ?_)
     ·(try dsimp only); exact kFx
     clear hK K)
    | (
     refine AllReadyH.cons (o := { dst := some 35, op := Op.call { callee := Callee.builtin Builtin.append, args := #[Operand.tmp 20, Operand.tmp 34], argTypes := #[39, 39] }, type := 39, pos := "law.go:73", after := #[{ on := 1, ground := Ground.data }, { on := 15, ground := Ground.data }, { on := 13, ground := Ground.chain }], guard := none }) rfl (fun K hK => ?_) ?_
     skip
     first
      | ((have hza := hy4.alloc (.cells #[.slice A3 l c3, .int .u8 (rel : Int), .bool pk, .slice Ak nk ck, .bool pk', .slice Ak' nk' ck'] 75)); (obtain ⟨xs, oX, rX⟩ := hO.ext hza); (refine qos rfl (.tmp 20) (.tmp 34) 39 rfl w1.heap.size 75 ir _ 6 96 Tryz.underlying39 ir1 ir2 ir3 ir4 rfl zRow _ k xs rfl oX w4.heap.size [.slice A3 l c3, .int .u8 (rel : Int), .bool pk, .slice Ak nk ck, .bool pk', .slice Ak' nk' ck'] 1 rfl rfl (new6 w4 75 _ _ _ _ _ _) one6 nou6 (by omega) (by decide) (by have := hza.size; omega) ?_); intro v6 y6 o6 r6 s6; (have tb6 := boxR (B3.ext hza) oX r6 (by decide)); (have c6 := tb6.c1); (have z6 := tb6.frozen 1); (obtain ⟨A6, d6, rfl⟩ := o6.shape); (have hS6 : Fr (fun g => (Value.slice Av k cv).ownBlock = some g ∨ g = b3) X y6 := (Fr.of hza).trans (r6.weak (fun _ h => .inl h))); (have hS7 : Fr (fun g => (Value.slice Av k cv).ownBlock = some g ∨ g = b3) X (y6.setCell ⟨b3, 1, none⟩ (.slice A6 (k + 1) d6)) := hS6.set (p := ⟨b3, 1, none⟩) (.inr rfl) (fun z => by rw [c6]; intro e; cases e) _))
     try (go_wp2_with fail)
     refine hK.out _ _ ?_ (fun hHeld => ?_)
     ·(try dsimp only); exact kFx
     clear hK K)
    | (
     refine AllReadyH.cons (o := { dst := none, op := Op.store 39 (Operand.tmp 36) (Operand.tmp 35), type := 0, pos := "law.go:73", after := #[{ on := 17, ground := Ground.data }, { on := 16, ground := Ground.data }, { on := 16, ground := Ground.chain }, { on := 0, ground := Ground.phase }, { on := 1, ground := Ground.phase }, { on := 2, ground := Ground.phase }, { on := 3, ground := Ground.phase }, { on := 4, ground := Ground.phase }, { on := 5, ground := Ground.phase }, { on := 6, ground := Ground.phase }, { on := 7, ground := Ground.phase }, { on := 8, ground := Ground.phase }, { on := 9, ground := Ground.phase }, { on := 10, ground := Ground.phase }, { on := 11, ground := Ground.phase }, { on := 12, ground := Ground.phase }, { on := 13, ground := Ground.phase }, { on := 14, ground := Ground.phase }, { on := 15, ground := Ground.phase }, { on := 16, ground := Ground.phase }], guard := none }) rfl (fun K hK => ?_) ?_
     go_simp
     try (go_wp2_with fail)
     refine hK.out _ _ ?_ (fun hHeld => ?_)
     ·(try dsimp only); exact kFx
     clear hK K)
    | exact AllReadyH.nil
    | (
     refine wpAnyH_done (by decide +kernel) ?_ _
     have hOM := OwnM.push oX rX o6 r6 HP1.out HP2.out q3 (hb4.1.ext ((Ext.refl w4).alloc _)) HP3.out (((hR3.ext hz4).ext ((Ext.refl w4).alloc _)).up (show w1.heap.size ≤ _ from hXs)) HP4.out (hO.new hR3 (Nat.le_refl _))
     have hOF := hOM.far (i := 1) tb6 (by decide) (by decide) (fun z e => by cases e) (.slice A6 (k + 1) d6)
     have hBF : Box _ b3 41 #[.slice A1 n d1, .slice A6 (k + 1) d6] := tb6.set 1 (.slice A6 (k + 1) d6)
     have hXF : Ext w1 (y6.setCell ⟨b3, 1, none⟩ (.slice A6 (k + 1) d6)) := (r6.ext (hx.trans hza) (fun g hg => (oX.lt hg).1)).set (p := ⟨b3, 1, none⟩) h13 _
     clear hOM
     go_wp2_with fail
     go_roundw
     case rel => exact ⟨k + 1, _, _, _, by omega, by go_num, hOF, hBF, hXF⟩
     case measure => simp [intOf]; omega)
    )
  ·obtain rfl : k = m := by omega
   obtain ⟨Av, cv, rfl⟩ := hO.shape
   have B2 := B2.ext hx
   have x0 := B3.c0
   have x1 := B3.c1
   have z0 := B2.c0
   have z1 := B2.c1
   have f0 := B2.frozen 0
   have f1 := B2.frozen 1
   go_wp2_with fail
   obtain ⟨hn, hm, -⟩ := HPN.out
   subst hn hm
   have hO2 := (((hO.up hwB).far (i := 0) B2 (by decide) (by decide) (fun z e => by cases e) (.slice A1 p.n d1)).far (i := 1) (B2.set 0 (.slice A1 p.n d1)) (by decide) (by decide) (fun z e => by cases e) (.slice Av p.m cv))
   have hQ2 := (((hO1.ext hx).far (i := 0) B2 (by decide) (fun z e => by cases e) (.slice A1 p.n d1)).far (i := 1) (B2.set 0 (.slice A1 p.n d1)) (by decide) (fun z e => by cases e) (.slice Av p.m cv))
   have hX2 := ((hE1.trans hx).set (p := ⟨b2, 0, none⟩) hw2 (.slice A1 p.n d1)).set (p := ⟨b2, 1, none⟩) hw2 (.slice Av p.m cv)
   have hP2 : Box _ b2 41 #[.slice A1 p.n d1, .slice Av p.m cv] := (B2.set 0 (.slice A1 p.n d1)).set 1 (.slice Av p.m cv)
   have pc0 := hP2.c0
   have pc1 := hP2.c1
   have hap : ∀ i, i < p.m → 0 < p.len i → 0 < p.n → rA i ≠ A1 := by
    intro i hi h1 h2 e
    obtain ⟨xs', -, m'⟩ := hO
    obtain ⟨b', e', hr', hb'⟩ := (m'.coef i hi).2.2 h1
    obtain ⟨b'', e'', hr'', -⟩ := hO1.2.2 h2
    rw [e', e''] at e
    injection e with e
    injection e with e
    have := hr''.lt
    omega
   obtain ⟨a, hMK, hOW⟩ := hO2.mk2 hQ2 hwB hap
   refine bodyPost_ret (v := .agg #[.slice A1 p.n d1, .slice Av p.m cv]) (by simp [results, Tryz.results14, go_sem, pc0, pc1]) rfl ?_
   exact ⟨_, a, rfl, hMK, hOW, hX2⟩
theorem Make_b (v : Value) (ip : IP) (w : World) (h : IPV w v ip) (hok : ip.ok) : Calls Tryz.prog 14 #[v] w (MkPost w ip.pl.toP) :=
 (Make_o v ip w h hok).mono fun _ _ h => by
  obtain ⟨v, a, h1, h2, _, h4⟩ := h
  exact ⟨v, a, h1, h2, h4⟩
end Go.Proofs.YtljncdcjkdgkeaaGreatDoor.Lp

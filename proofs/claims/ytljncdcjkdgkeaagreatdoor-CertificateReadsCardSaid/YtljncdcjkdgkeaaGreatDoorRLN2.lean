/- Walk: improve. make of a row of rational numbers; frames of calls that have made blocks of their own. Problems in memory; walks: flips, direction, Valid. Walk: Valid. copy of rational numbers into a row of the call's own; append of one element, and where the row then lies. Walk: number. Rows of numbers among the arguments; own rows of rational numbers; walk: numbers. The tableau while newTableau makes it. Problems among the arguments; problems that a law makes; walk: Make. -/
import Derived.ArgAppend
import Derived.Laws.CopyOwn
import Derived.Deep.CutBlock
import Derived.Deep.RegionLaw
import Derived.Test.YtljncdcjkdgkeaaGreatDoorRLS4
import Derived.Test.YtljncdcjkdgkeaaGreatDoorRLT
import Derived.Test.YtljncdcjkdgkeaaGreatDoorRLJ
set_option linter.unusedVariables false
set_option linter.unusedSimpArgs false
namespace Go.Proofs.YtljncdcjkdgkeaaGreatDoor.Lp
open Go.RowKit Go.Proofs.YtljncdcjkdgkeaaGreatDoor.Big Go.Proofs.YtljncdcjkdgkeaaGreatDoor.Rt

end Go.Proofs.YtljncdcjkdgkeaaGreatDoor.Lp

namespace Go.Proofs.YtljncdcjkdgkeaaGreatDoor.Lp
open Go.RowKit Go.Proofs.YtljncdcjkdgkeaaGreatDoor.Big Go.Proofs.YtljncdcjkdgkeaaGreatDoor.Rt

theorem infoRat : (Tryz.prog.info? 58).map (fun i => (i.zero, i.size, i.bytes)) = some (some (.agg #[.bool false, .slice none 0 0, .bool false, .slice none 0 0]), 4, 64) := by kernel_rfl
theorem wpList_makeR (w : World) {ops : Array Oper} {rest : List Oper} {o : Oper} {a : Act} {Q : Exit → Act → World → Prop}
    (hg : o.guard = none) (l c : Operand) (hop : o.op = Op.makeSlice 38 l c)
    (L C : Int) (hl : a.eval l = .int .i64 L) (hc : a.eval c = .int .i64 C) (n : Nat) (hL : L = (n : Int)) (hC : C = (n : Int)) (hn : n ≤ 1099511627776)
    (hK : ∀ w', RowR w' w.heap.size n (fun _ => 0) → Ext w w' → wpList Tryz.prog ops Q rest (a.put o.dst (.slice (some ⟨w.heap.size, 0, none⟩) n n)) w') :
    wpList Tryz.prog ops Q (o :: rest) a w := by
  obtain ⟨i0, hi, hz0, hz1, hz2⟩ := info_parts infoRat
  refine wpList_make_full w hg l c 38 hop w.heap.size 58 i0 _ 4 Tryz.underlying38 hi hz0 hz1 .i64 .i64 L C n hl hc hL hC (by rw [hz2]; omega) (by unfold maxLen; omega) (Nat.le_refl _) ?_
  intro w' hown hgr
  refine hK w' ?_ (Below.grown (Ext.refl w) hgr (Nat.le_refl _) (fun k hk => by cases hk))
  obtain ⟨hlen, hh⟩ := hown
  rcases hh with ⟨h, _⟩ | ⟨g, cap, cur, hv, _, hh, hcap, _, hsz, htake⟩
  · cases h
  · injection hv with e1 e2 e3
    injection e1 with e1
    injection e1 with e1
    subst e1 e3
    have hcur : cur.toList = (madeCells (Value.agg #[.bool false, .slice none 0 0, .bool false, .slice none 0 0]).cells (n * 4)).toList := by
      rw [← htake, List.take_of_length_le (by simp; omega)]
    refine ⟨cur, hh, Nat.le_of_eq hsz.symm, fun j hj => ?_⟩
    have key : ∀ i, i < 4 → cur[j * 4 + i]? = (#[Value.bool false, .slice none 0 0, .bool false, .slice none 0 0] : Array Value)[i]? := by
      intro i hi
      rw [← Array.getElem?_toList, hcur]
      have h1 : (j * 4 + i) % 4 = i := by omega
      have h2 : j * 4 + i < n * 4 := by omega
      simp [madeCells, Value.cells, h2, h1]
      rcases (show i = 0 ∨ i = 1 ∨ i = 2 ∨ i = 3 by omega) with rfl | rfl | rfl | rfl <;> rfl
    exact ⟨_, _, _, _, _, _, _, _, key 0 (by omega), key 1 (by omega), key 2 (by omega), key 3 (by omega), RatV.zero w'⟩
end Go.Proofs.YtljncdcjkdgkeaaGreatDoor.Lp

namespace Go.Proofs.YtljncdcjkdgkeaaGreatDoor.Lp
open Go.RowKit Go.Proofs.YtljncdcjkdgkeaaGreatDoor.Big Go.Proofs.YtljncdcjkdgkeaaGreatDoor.Rt

/-- a list of n rational numbers -/
def RatsV (w : World) (A : Option Addr) (n c : Nat) (f : Nat → Rat) : Prop := n ≤ c ∧ c ≤ 9223372036854775807 ∧ (0 < n → ∃ b, A = some ⟨b, 0, none⟩ ∧ RowR w b n f)
/-- a row of a problem, as a value -/
def RowV (w : World) (v : Value) (l : Nat) (f : Nat → Rat) (rel : Nat) (q : Rat) : Prop :=
  ∃ Ac cc x A d e y A' d' e', v = .agg #[.slice Ac l cc, .int .u8 (rel : Int), .bool x, .slice A d e, .bool y, .slice A' d' e'] ∧ RatsV w Ac l cc f ∧ rel ≤ 255 ∧ RatV w (.agg #[.bool x, .slice A d e, .bool y, .slice A' d' e']) q
/-- a row of a problem, at place i of block b -/
def RowAt (w : World) (b i : Nat) (l : Nat) (f : Nat → Rat) (rel : Nat) (q : Rat) : Prop :=
  ∃ Ac cc x A d e y A' d' e', w.cell? ⟨b, i * 6, none⟩ = some (.slice Ac l cc) ∧ w.cell? ⟨b, i * 6 + 1, none⟩ = some (.int .u8 (rel : Int)) ∧ w.cell? ⟨b, i * 6 + 2, none⟩ = some (.bool x) ∧ w.cell? ⟨b, i * 6 + 3, none⟩ = some (.slice A d e) ∧
    w.cell? ⟨b, i * 6 + 4, none⟩ = some (.bool y) ∧ w.cell? ⟨b, i * 6 + 5, none⟩ = some (.slice A' d' e') ∧ RatsV w Ac l cc f ∧ rel ≤ 255 ∧ RatV w (.agg #[.bool x, .slice A d e, .bool y, .slice A' d' e']) q
def ProbV (w : World) (v : Value) (p : Prob) : Prop :=
  ∃ Ao co Ar cr, v = .agg #[.slice Ao p.n co, .slice Ar p.m cr] ∧ RatsV w Ao p.n co p.obj ∧ p.m ≤ cr ∧ cr ≤ 9223372036854775807 ∧ (0 < p.m → ∃ br, Ar = some ⟨br, 0, none⟩ ∧ ∀ i, i < p.m → RowAt w br i (p.len i) (p.coef i) (p.rel i) (p.right i))
section
variable {w w' : World}
theorem RatsV.ext {A : Option Addr} {n c : Nat} {f : Nat → Rat} (h : RatsV w A n c f) (k : Ext w w') : RatsV w' A n c f :=
  ⟨h.1, h.2.1, fun hn => by obtain ⟨b, e, hr⟩ := h.2.2 hn; exact ⟨b, e, hr.ext k⟩⟩
theorem RowV.ext {v : Value} {l : Nat} {f : Nat → Rat} {rel : Nat} {q : Rat} (h : RowV w v l f rel q) (k : Ext w w') : RowV w' v l f rel q := by
  obtain ⟨Ac, cc, x, A, d, e, y, A', d', e', rfl, h1, h2, h3⟩ := h
  exact ⟨Ac, cc, x, A, d, e, y, A', d', e', rfl, h1.ext k, h2, h3.ext k⟩
theorem RowAt.ext {b i l : Nat} {f : Nat → Rat} {rel : Nat} {q : Rat} (h : RowAt w b i l f rel q) (k : Ext w w') : RowAt w' b i l f rel q := by
  obtain ⟨Ac, cc, x, A, d, e, y, A', d', e', g0, g1, g2, g3, g4, g5, h1, h2, h3⟩ := h
  exact ⟨Ac, cc, x, A, d, e, y, A', d', e', k.cell g0, k.cell g1, k.cell g2, k.cell g3, k.cell g4, k.cell g5, h1.ext k, h2, h3.ext k⟩
theorem ProbV.ext {v : Value} {p : Prob} (h : ProbV w v p) (k : Ext w w') : ProbV w' v p := by
  obtain ⟨Ao, co, Ar, cr, rfl, h1, h2, h3, h4⟩ := h
  exact ⟨Ao, co, Ar, cr, rfl, h1.ext k, h2, h3, fun hm => by obtain ⟨br, e, hr⟩ := h4 hm; exact ⟨br, e, fun i hi => (hr i hi).ext k⟩⟩
end
def ValPost (w : World) (v : Value) (e : Ending) (w' : World) : Prop := e = .returned v ∧ Ext w w'
end Go.Proofs.YtljncdcjkdgkeaaGreatDoor.Lp

namespace Go.Proofs.YtljncdcjkdgkeaaGreatDoor.Lp
open Go.RowKit Go.Proofs.YtljncdcjkdgkeaaGreatDoor.Big Go.Proofs.YtljncdcjkdgkeaaGreatDoor.Rt

def rowOK (p : Prob) (i : Nat) : Bool := p.len i == p.n && decide (1 ≤ p.rel i) && decide (p.rel i ≤ 3)
def rowsOK (p : Prob) : Nat → Bool
  | 0 => true
  | i + 1 => rowsOK p i && rowOK p i
def validB (p : Prob) : Bool := decide (1 ≤ p.n) && decide (p.n ≤ 1000) && decide (p.m ≤ 1000) && rowsOK p p.m
theorem rowsOK_iff {p : Prob} {m : Nat} : rowsOK p m = true ↔ ∀ i, i < m → p.len i = p.n ∧ 1 ≤ p.rel i ∧ p.rel i ≤ 3 := by
  induction m with
  | zero => exact ⟨fun _ i hi => absurd hi (by omega), fun _ => rfl⟩
  | succ m ih =>
    show (rowsOK p m && rowOK p m) = true ↔ _
    rw [Bool.and_eq_true, ih]
    have h1 : rowOK p m = true ↔ p.len m = p.n ∧ 1 ≤ p.rel m ∧ p.rel m ≤ 3 := by unfold rowOK; simp [and_assoc]
    rw [h1]
    constructor
    · rintro ⟨a, b⟩ i hi
      by_cases e : i = m
      · subst e; exact b
      · exact a i (by omega)
    · intro h; exact ⟨fun i hi => h i (by omega), h m (by omega)⟩
theorem validB_iff {p : Prob} : validB p = true ↔ p.Valid := by
  unfold validB Prob.Valid
  rw [Bool.and_eq_true, rowsOK_iff]; simp [and_assoc]
theorem rowsOK_no {p : Prob} {i m : Nat} (h : rowOK p i = false) (hi : i < m) : rowsOK p m = false := by
  cases e : rowsOK p m with
  | false => rfl
  | true =>
    have := rowsOK_iff.1 e i hi
    unfold rowOK at h
    simp [this] at h
set_option maxHeartbeats 4000000 in
theorem Valid_b (v : Value) (p : Prob) (w : World) (h : ProbV w v p) : Calls Tryz.prog 17 #[v] w (ValPost w (.bool (validB p))) := by
  obtain ⟨Ao, co, Ar, cr, rfl, h1, h2, h3, h4⟩ := h
  obtain ⟨F, hF⟩ : ∃ F, F = validB p := ⟨_, rfl⟩
  rw [← hF]
  obtain ⟨n, hn⟩ : ∃ n, n = p.n := ⟨_, rfl⟩
  obtain ⟨m, hm⟩ : ∃ m, m = p.m := ⟨_, rfl⟩
  have HF : Hid (F = (decide (1 ≤ n) && decide (n ≤ 1000) && decide (m ≤ 1000) && rowsOK p m)) := Lib.hid (by rw [hF, hn, hm]; rfl)
  have HR : Hid (∀ i, rowOK p i = (p.len i == n && decide (1 ≤ p.rel i) && decide (p.rel i ≤ 3))) := Lib.hid (fun i => by rw [hn]; rfl)
  have H4 : Hid (0 < m → ∃ br, Ar = some ⟨br, 0, none⟩ ∧ ∀ i, i < m → RowAt w br i (p.len i) (p.coef i) (p.rel i) (p.right i)) := Lib.hid (by rw [hm]; exact h4)
  rw [← hn, ← hm]
  have hmc : m ≤ cr := by rw [hm]; exact h2
  clear hF h1 h2 h4 hn hm
  have B := Box.new w 41 #[.slice Ao n co, .slice Ar m cr]
  have hE0 : Ext w (w.alloc (.cells #[.slice Ao n co, .slice Ar m cr] 41)) := (Ext.refl w).alloc _
  go_enter Tryz.func17, Tryz.ntmps17
  go_upto_region 1 with fail
  generalize (w.alloc (.cells #[.slice Ao n co, .slice Ar m cr] 41)) = V at *
  have c0 := B.c0
  have c1 := B.c1
  by_cases hn1 : n < 1
  · have e1 : decide ((n : Int) < 1) = true := by simp; omega
    have HE : Hid (F = false) := Lib.hid (by rw [HF.out, decide_eq_false (show ¬ 1 ≤ n by omega)]; rfl)
    clear hn1
    go_wp2_with fail
    go_ret
    exact ⟨by rw [HE.out]; rfl, hE0⟩
  · have e1 : decide ((n : Int) < 1) = false := by simp; omega
    have HN1 := Lib.hid hn1
    clear hn1
    by_cases hn2 : 1000 < n
    · have e2 : decide ((1000 : Int) < (n : Int)) = true := by simp; omega
      have HE : Hid (F = false) := Lib.hid (by rw [HF.out, decide_eq_false (show ¬ n ≤ 1000 by omega)]; simp)
      clear hn2
      go_wp2_with fail
      go_ret
      exact ⟨by rw [HE.out]; rfl, hE0⟩
    · have e2 : decide ((1000 : Int) < (n : Int)) = false := by simp; omega
      have HN2 := Lib.hid hn2
      clear hn2
      by_cases hm2 : 1000 < m
      · have e3 : decide ((1000 : Int) < (m : Int)) = true := by simp; omega
        have HE : Hid (F = false) := Lib.hid (by rw [HF.out, decide_eq_false (show ¬ m ≤ 1000 by omega)]; simp)
        clear hm2
        go_wp2_with fail
        go_ret
        exact ⟨by rw [HE.out]; rfl, hE0⟩
      · have e3 : decide ((1000 : Int) < (m : Int)) = false := by simp; omega
        have HE : Hid (F = rowsOK p m) := Lib.hid (by rw [HF.out, decide_eq_true (show 1 ≤ n by have := HN1.out; omega), decide_eq_true (show n ≤ 1000 by have := HN2.out; omega), decide_eq_true (show m ≤ 1000 by omega)]; rfl)
        have hmb : m ≤ 1000 := by omega
        clear hm2
        go_wp2_with fail
        clear e1 e2 e3
        go_loopw [24] (fun i wr => ∃ k : Nat, k ≤ m ∧ i = .int .i64 k ∧ Hid (rowsOK p k = true) ∧ Ext V wr) (fun i _ => m - (intOf i).toNat)
        case atStart => exact ⟨0, by omega, rfl, Lib.hid rfl, Ext.refl V⟩
        case round =>
          obtain ⟨k, hk, rfl, HK, hx⟩ := hrel
          by_cases hlt : k < m
          · obtain ⟨br, rfl, hrow⟩ := H4.out (by omega)
            obtain ⟨Ac, cc, x, A, d, e, y, A', d', e', g0, g1, g2, g3, g4, g5, r1, r2, r3⟩ := (hrow k hlt).ext (hE0.trans hx)
            have HRK := HR.out k
            obtain ⟨l, hl⟩ : ∃ l, l = p.len k := ⟨_, rfl⟩
            obtain ⟨rel, hrel⟩ : ∃ r, r = p.rel k := ⟨_, rfl⟩
            rw [← hl] at g0 HRK
            rw [← hrel] at g1 HRK r2
            have c0 := hx.cell c0
            have HRK := Lib.hid HRK
            clear hl hrel hrow r1 r3
            go_upto_region 6 with fail
            have BB := Box.new wr 75 #[.slice Ac l cc, .int .u8 (rel : Int), .bool x, .slice A d e, .bool y, .slice A' d' e']
            have hEx : Ext wr (wr.alloc (.cells #[.slice Ac l cc, .int .u8 (rel : Int), .bool x, .slice A d e, .bool y, .slice A' d' e'] 75)) := (Ext.refl wr).alloc _
            generalize (wr.alloc (.cells #[.slice Ac l cc, .int .u8 (rel : Int), .bool x, .slice A d e, .bool y, .slice A' d' e'] 75)) = U at *
            have c0 := hEx.cell c0
            have d0 := BB.c0
            have d1 := BB.c1
            have hX := hx.trans hEx
            clear g0 g1 g2 g3 g4 g5
            by_cases hln : l = n
            · have e1 : ((l : Int) != (n : Int)) = false := by simp [hln]
              have HLN := Lib.hid hln
              clear hln
              by_cases hr1 : rel < 1
              · have e2 : decide ((rel : Int) < 1) = true := by simp; omega
                have HF2 : Hid (F = false) := Lib.hid (by rw [HE.out]; exact rowsOK_no (by rw [HRK.out, decide_eq_false (show ¬ 1 ≤ rel by omega)]; simp) hlt)
                clear hr1
                go_wp2_with fail
                go_ret
                exact ⟨by rw [HF2.out]; rfl, hE0.trans hX⟩
              · have e2 : decide ((rel : Int) < 1) = false := by simp; omega
                by_cases hr3 : 3 < rel
                · have e3 : decide ((3 : Int) < (rel : Int)) = true := by simp; omega
                  have HF2 : Hid (F = false) := Lib.hid (by rw [HE.out]; exact rowsOK_no (by rw [HRK.out, decide_eq_false (show ¬ rel ≤ 3 by omega)]; simp) hlt)
                  clear hr1 hr3
                  go_wp2_with fail
                  go_ret
                  exact ⟨by rw [HF2.out]; rfl, hE0.trans hX⟩
                · have e3 : decide ((3 : Int) < (rel : Int)) = false := by simp; omega
                  have HK2 : Hid (rowsOK p (k + 1) = true) := Lib.hid (by show (rowsOK p k && rowOK p k) = true; rw [HK.out, HRK.out, HLN.out, decide_eq_true (show 1 ≤ rel by omega), decide_eq_true (show rel ≤ 3 by omega)]; simp)
                  clear hr1 hr3
                  go_wp2_with fail
                  go_roundw
                  case rel => exact ⟨k + 1, by omega, by go_num, HK2, hX⟩
                  case measure => simp [intOf]; omega
            · have e1 : ((l : Int) != (n : Int)) = true := by simp; omega
              have HF2 : Hid (F = false) := Lib.hid (by rw [HE.out]; exact rowsOK_no (by rw [HRK.out, show (l == n) = false by simpa using hln]; rfl) hlt)
              clear hln
              go_wp2_with fail
              go_ret
              exact ⟨by rw [HF2.out]; rfl, hE0.trans hX⟩
          · obtain rfl : k = m := by omega
            have HF2 : Hid (F = true) := Lib.hid (by rw [HE.out, HK.out])
            go_wp2_with fail
            go_ret
            exact ⟨by rw [HF2.out]; rfl, hE0.trans hx⟩
end Go.Proofs.YtljncdcjkdgkeaaGreatDoor.Lp

namespace Go.Proofs.YtljncdcjkdgkeaaGreatDoor.Lp
open Go.RowKit Go.Proofs.YtljncdcjkdgkeaaGreatDoor.Big Go.Proofs.YtljncdcjkdgkeaaGreatDoor.Rt

theorem At.fr {P : Nat → Prop} {w w' : World} {cs : Array Value} {i : Nat} {q : Rat} (h : At w cs i q) (k : Fr P w w') : At w' cs i q := by
  obtain ⟨p, A, m, c, p', A', m', c', e0, e1, e2, e3, hr⟩ := h
  exact ⟨p, A, m, c, p', A', m', c', e0, e1, e2, e3, k.rat hr⟩
/-- a value that is no digit -/
def noU : Value → Bool | .int .u32 _ => false | _ => true
/-- the block of an own row: the same, or a new one -/
def Fresh (w : World) (v v' : Value) : Prop := v'.ownBlock = v.ownBlock ∨ ∃ g, v'.ownBlock = some g ∧ w.heap.size ≤ g
/-- a row of the call's own that is appended to: n elements of k cells, which hold xs; no digits lie in it -/
def OwnX (w : World) (base : Nat) (E : TypeId) (k : Nat) (v : Value) (n : Nat) (xs : List Value) : Prop :=
  xs.length = n * k ∧ ((v = .slice none 0 0 ∧ n = 0) ∨ ∃ g cap cur, v = .slice (some ⟨g, 0, none⟩) n cap ∧ base ≤ g ∧ w.heap[g]? = some (.cells cur E (0, 0)) ∧ n ≤ cap ∧ cap ≤ maxLen ∧ cur.size = cap * k ∧ cur.toList.take (n * k) = xs ∧ ∀ u ∈ cur.toList, noU u = true)
section
variable {w w' : World} {base n k : Nat} {E : TypeId} {v : Value} {xs : List Value}
theorem OwnX.nil (w : World) (base : Nat) (E : TypeId) (k : Nat) : OwnX w base E k (.slice none 0 0) 0 [] := ⟨by simp, .inl ⟨rfl, rfl⟩⟩
theorem OwnX.up {base' : Nat} (h : OwnX w base E k v n xs) (hb : base' ≤ base) : OwnX w base' E k v n xs := by
  obtain ⟨h1, h2⟩ := h
  refine ⟨h1, ?_⟩
  rcases h2 with h2 | ⟨g, cap, cur, hv, hg, h5⟩
  · exact .inl h2
  · exact .inr ⟨g, cap, cur, hv, Nat.le_trans hb hg, h5⟩
theorem OwnX.fr {P : Nat → Prop} (h : OwnX w base E k v n xs) (f : Fr P w w') (hp : ∀ g, v.ownBlock = some g → ¬ P g) : OwnX w' base E k v n xs := by
  obtain ⟨h1, h2⟩ := h
  refine ⟨h1, ?_⟩
  rcases h2 with h2 | ⟨g, cap, cur, rfl, hg, h5, h6⟩
  · exact .inl h2
  · exact .inr ⟨g, cap, cur, rfl, hg, f.row (hp g rfl) h5, h6⟩
theorem OwnX.ext (h : OwnX w base E k v n xs) (x : Ext w w') : OwnX w' base E k v n xs := h.fr (P := fun _ => False) (Fr.of x) (fun _ _ => id)
theorem OwnX.lt (h : OwnX w base E k v n xs) {g : Nat} (hg : v.ownBlock = some g) : base ≤ g ∧ g < w.heap.size ∧ ∃ cur, w.heap[g]? = some (.cells cur E (0, 0)) := by
  rcases h.2 with ⟨rfl, _⟩ | ⟨g', cap, cur, rfl, hb, h5, _⟩
  · cases hg
  · obtain rfl : g' = g := Option.some.inj hg
    refine ⟨hb, ?_, cur, h5⟩
    rcases Nat.lt_or_ge g' w.heap.size with hlt | hge
    · exact hlt
    · rw [Array.getElem?_eq_none hge] at h5; cases h5
theorem OwnX.shape (h : OwnX w base E k v n xs) : ∃ A c, v = .slice A n c := by
  rcases h.2 with ⟨rfl, rfl⟩ | ⟨g, cap, cur, rfl, _⟩
  · exact ⟨none, 0, rfl⟩
  · exact ⟨_, cap, rfl⟩
/-- the cells of a row that is not empty -/
theorem OwnX.cells (h : OwnX w base E k v n xs) (hn : 0 < n) : ∃ g cap, v = .slice (some ⟨g, 0, none⟩) n cap ∧ v.ownBlock = some g ∧ base ≤ g ∧ n ≤ cap ∧ cap ≤ 9223372036854775807 ∧ (∃ cur, w.heap[g]? = some (.cells cur E (0, 0)) ∧ n * k ≤ cur.size) ∧ (∀ i, w.frozen? ⟨g, i, none⟩ = false) ∧ ∀ j u, xs[j]? = some u → w.cell? ⟨g, j, none⟩ = some u := by
  rcases h.2 with ⟨_, h0⟩ | ⟨g, cap, cur, rfl, hb, h5, h6, h7, h8, h9, _⟩
  · omega
  · refine ⟨g, cap, rfl, rfl, hb, h6, by unfold maxLen at h7; exact h7, ⟨cur, h5, by rw [h8]; exact Nat.mul_le_mul_right _ h6⟩, fun i => by simp [World.frozen?, h5], fun j u hj => ?_⟩
    rw [cell_of_row w g j cur _ (0, 0) h5, ← Array.getElem?_toList]
    rw [← h9, List.getElem?_take] at hj
    split at hj
    · exact hj
    · cases hj
end
theorem zeroCells_noU {z : Array Value} (hz : ∀ u ∈ z.toList, noU u = true) (n : Nat) : ∀ u ∈ (Builtin.zeroCells z n).toList, noU u = true := by
  intro u hu
  obtain ⟨i, hi⟩ := List.getElem?_of_mem hu
  have hi2 : (Builtin.zeroCells z n)[i]? = some u := by rw [← Array.getElem?_toList]; exact hi
  have hlt : i < (Builtin.zeroCells z n).size := (Array.getElem?_eq_some_iff.1 hi2).1
  rw [size_zeroCells] at hlt
  have hz0 : 0 < z.size := by
    rcases Nat.eq_zero_or_pos z.size with h | h
    · rw [h] at hlt; omega
    · exact h
  have hm : i % z.size < z.size := Nat.mod_lt _ hz0
  have e : u = z[i % z.size] := by
    unfold Builtin.zeroCells at hi2
    rw [Array.getElem?_map, Array.getElem?_range, if_pos hlt] at hi2
    simp only [Option.map_some, Option.some.injEq] at hi2
    rw [← hi2, getElem!_pos z _ hm]
  rw [e]
  exact hz _ (Array.mem_toList_iff.2 (Array.getElem_mem hm))
theorem wp_pushX {w : World} {o : Oper} {a : Act} {K : Act → World → Prop} {Q : Exit → Act → World → Prop}
    (s x : Operand) (t : TypeId) (hop : o.op = Op.call { callee := Callee.builtin Builtin.append, args := #[s, x], argTypes := #[t, t] })
    (base : Nat) (e : TypeId) (i : TypeInfo) (z : Value) (k bytes : Nat) (h1 : Tryz.prog.underlying t = some (.slice e)) (h2 : Tryz.prog.info? e = some i) (h3 : i.zero = some z) (h4 : i.size = k) (h5 : i.bytes = bytes) (h6 : z.cells.size = k) (hz : ∀ u ∈ z.cells.toList, noU u = true)
    (v : Value) (n : Nat) (xs : List Value) (hs : a.eval s = v) (hown : OwnX w base e k v n xs) (ba : Nat) (news : List Value) (c : Nat) (hx : a.eval x = .slice (some ⟨ba, 0, none⟩) 1 c) (hnl : news.length = k) (hnw : ∀ j y, news[j]? = some y → w.cell? ⟨ba, j, none⟩ = some y) (h1c : ∀ y ∈ news, y.oneCell' = true) (hnu : ∀ y ∈ news, noU y = true)
    (b1 : n + 1 ≤ 1099511627776) (b2 : bytes ≤ 128) (hbase : base ≤ w.heap.size)
    (hK : ∀ v' w', OwnX w' base e k v' (n + 1) (xs ++ news) → Fr (fun g => v.ownBlock = some g) w w' → Fresh w v v' → K (a.put o.dst v') w') :
    Oper.wp Tryz.prog o a w K Q := by
  subst h4 h5
  have hnews : ∀ j y, news[j]? = some y → w.cell? ((⟨ba, 0, none⟩ : Addr).add j) = some y := fun j y hj => by rw [Lib.add_plain, Nat.zero_add]; exact hnw j y hj
  have hbyt : (n + 1) * i.bytes ≤ 140737488355328 := Nat.le_trans (Nat.mul_le_mul b1 b2) (by decide)
  have hml : n + 1 ≤ maxLen := by unfold maxLen; omega
  have hlen : (xs ++ news).length = (n + 1) * i.size := by rw [List.length_append, hown.1, hnl, Nat.add_mul, Nat.one_mul]
  have hl1 : news.length = 1 * i.size := by rw [hnl, Nat.one_mul]
  -- where a new block comes
  have grown : ∀ old, (∀ u ∈ xs, noU u = true) → OwnX (w.drew.alloc (.cells (xs.toArray ++ news.toArray ++ Builtin.zeroCells z.cells (grownCap w (n + 1) old e - (n + 1))) e)) base e i.size (.slice (some ⟨w.heap.size, 0, none⟩) (n + 1) (grownCap w (n + 1) old e)) (n + 1) (xs ++ news) := by
    intro old hxu
    have hge := grownCap_ge w (n + 1) old e
    have hcm : grownCap w (n + 1) old e ≤ maxLen := grownCap_le_maxLen w (n + 1) old e hml
    refine ⟨hlen, .inr ⟨w.heap.size, _, _, rfl, hbase, heap_alloc_new w.drew _, hge, hcm, ?_, ?_, ?_⟩⟩
    · simp only [Array.size_append, List.size_toArray, size_zeroCells, h6, hown.1, hnl]
      obtain ⟨d, hd⟩ : ∃ d, grownCap w (n + 1) old e = n + 1 + d := ⟨grownCap w (n + 1) old e - (n + 1), by omega⟩
      rw [hd, show n + 1 + d - (n + 1) = d by omega, Nat.add_mul, Nat.add_mul, Nat.one_mul]
    · simp only [Array.toList_append, List.append_assoc]
      rw [← List.append_assoc, ← hlen]
      exact List.take_left
    · intro u hu
      simp only [Array.toList_append, List.mem_append] at hu
      rcases hu with (hu | hu) | hu
      · exact hxu u hu
      · exact hnu u hu
      · exact zeroCells_noU hz _ u hu
  have frN : ∀ (obj : Obj) (P : Nat → Prop), Fr P w (w.drew.alloc obj) := fun obj P => ((Fr.refl P w).drew).alloc obj
  have fin : ∀ (v' : Value) (w' : World), (Builtin.append_ #[t, t] o.type #[v, .slice (some ⟨ba, 0, none⟩) 1 c]).run Tryz.prog w = .ok v' w' → K (a.put o.dst v') w' → Oper.wp Tryz.prog o a w K Q := by
    intro v' w' hrun hr
    unfold Oper.wp
    simp [execOp, hop, resolve, invoke, builtin, hs, hx, hrun, Result.andThen]
    exact hr
  rcases hown.2 with ⟨rfl, rfl⟩ | ⟨g, cap, cur, rfl, hb, g5, g6, g7, g8, g9, g10⟩
  · have hx0 : xs = [] := List.eq_nil_of_length_eq_zero (by simpa using hown.1)
    subst hx0
    have hr := run_append_nil (P := Tryz.prog) w t o.type e i z h1 h2 h3 ⟨ba, 0, none⟩ 1 c news hl1 hnews (by decide) (by decide) (by omega)
    have hgr := grown 0 (fun u hu => by cases hu)
    simp only [Nat.zero_add, List.nil_append, Array.empty_append] at hgr hr hK
    refine fin _ _ hr (hK _ _ hgr (frN _ _) (.inr ⟨_, rfl, Nat.le_refl _⟩))
  · by_cases hcap : n + 1 ≤ cap
    · have hnk : n * i.size + i.size ≤ cap * i.size := by rw [← Nat.succ_mul]; exact Nat.mul_le_mul_right _ hcap
      have hr := run_append_room (P := Tryz.prog) w t o.type e i h1 h2 g n cap cur g5 ⟨ba, 0, none⟩ 1 c news hl1 hnews h1c hcap (by rw [hnl, g8]; exact hnk)
      have hcn : (cur.toList.take (n * i.size)).length = n * i.size := by rw [List.length_take, Array.length_toList, g8]; omega
      have hmem : ∀ u ∈ cur.toList.take (n * i.size) ++ news ++ cur.toList.drop (n * i.size + news.length), noU u = true := by
        intro u hu
        simp only [List.mem_append] at hu
        rcases hu with (hu | hu) | hu
        · exact g10 u (List.mem_of_mem_take hu)
        · exact hnu u hu
        · exact g10 u (List.mem_of_mem_drop hu)
      refine fin _ _ hr (hK _ _ ⟨hlen, .inr ⟨g, cap, _, rfl, hb, setRow_heap w g cur _ e _ g5, hcap, g7, ?_, ?_, by simpa using hmem⟩⟩ ?_ (.inl rfl))
      · simp only [List.size_toArray, List.length_append, hcn, List.length_drop, Array.length_toList, hnl, g8]; omega
      · rw [g9, ← hlen]; exact List.take_left
      · refine ⟨rfl, rfl, rfl, by simp [World.setRow], fun k _ hne => setRow_other w g k _ (fun e' => hne (by rw [e']; rfl)), fun b' j zz hzz => ?_⟩
        by_cases e' : b' = g
        · subst e'
          rw [cell_of_row w b' j cur _ (0, 0) g5] at hzz
          have := g10 _ (Array.mem_toList_iff.2 (Array.mem_of_getElem? hzz))
          cases this
        · rw [World.cell?_of_block (w := w) (w' := w.setRow g _) (a := ⟨b', j, none⟩) (setRow_other w g b' _ e')]; exact hzz
    · have holds : ∀ j u, xs[j]? = some u → w.cell? ((⟨g, 0, none⟩ : Addr).add j) = some u := fun j u hj => by
        rw [Lib.add_plain, Nat.zero_add, cell_of_row w g j cur _ (0, 0) g5, ← Array.getElem?_toList]
        rw [← g9, List.getElem?_take] at hj
        split at hj
        · exact hj
        · cases hj
      have hlt : cap < n + 1 := Nat.lt_of_not_le hcap
      have hr := run_append_grow (P := Tryz.prog) w t o.type e i z h1 h2 h3 ⟨g, 0, none⟩ n cap xs hown.1 holds ⟨ba, 0, none⟩ 1 c news hl1 hnews hlt (by omega) (growslice_fits hlt hbyt)
      refine fin _ _ hr (hK _ _ (grown cap (fun u hu => g10 u (by rw [← g9] at hu; exact List.mem_of_mem_take hu))) (frN _ _) (.inr ⟨_, rfl, Nat.le_refl _⟩))
theorem wpList_pushX {w : World} {ops : Array Oper} {rest : List Oper} {o : Oper} {a : Act} {Q : Exit → Act → World → Prop}
    (hg : o.guard = none) (s x : Operand) (t : TypeId) (hop : o.op = Op.call { callee := Callee.builtin Builtin.append, args := #[s, x], argTypes := #[t, t] })
    (base : Nat) (e : TypeId) (i : TypeInfo) (z : Value) (k bytes : Nat) (h1 : Tryz.prog.underlying t = some (.slice e)) (h2 : Tryz.prog.info? e = some i) (h3 : i.zero = some z) (h4 : i.size = k) (h5 : i.bytes = bytes) (h6 : z.cells.size = k) (hz : ∀ u ∈ z.cells.toList, noU u = true)
    (v : Value) (n : Nat) (xs : List Value) (hs : a.eval s = v) (hown : OwnX w base e k v n xs) (ba : Nat) (news : List Value) (c : Nat) (hx : a.eval x = .slice (some ⟨ba, 0, none⟩) 1 c) (hnl : news.length = k) (hnw : ∀ j y, news[j]? = some y → w.cell? ⟨ba, j, none⟩ = some y) (h1c : ∀ y ∈ news, y.oneCell' = true) (hnu : ∀ y ∈ news, noU y = true)
    (b1 : n + 1 ≤ 1099511627776) (b2 : bytes ≤ 128) (hbase : base ≤ w.heap.size)
    (hK : ∀ v' w', OwnX w' base e k v' (n + 1) (xs ++ news) → Fr (fun g => v.ownBlock = some g) w w' → Fresh w v v' → wpList Tryz.prog ops Q rest (a.put o.dst v') w') :
    wpList Tryz.prog ops Q (o :: rest) a w :=
  wpList_plain hg fun _ hK' => wp_pushX s x t hop base e i z k bytes h1 h2 h3 h4 h5 h6 hz v n xs hs hown ba news c hx hnl hnw h1c hnu b1 b2 hbase (fun v' w' h1 h2 h3 => hK' _ _ (hK v' w' h1 h2 h3))
/-- the same at a step of a region that draws -/
theorem step_pushX {w : World} {ops : Array Oper} {o : Oper} {a : Act} {K : Act → World → Prop} {Q : Exit → Act → World → Prop} {Z : Prop}
    (hg : o.guard = none) (s x : Operand) (t : TypeId) (hop : o.op = Op.call { callee := Callee.builtin Builtin.append, args := #[s, x], argTypes := #[t, t] })
    (base : Nat) (e : TypeId) (i : TypeInfo) (z : Value) (k bytes : Nat) (h1 : Tryz.prog.underlying t = some (.slice e)) (h2 : Tryz.prog.info? e = some i) (h3 : i.zero = some z) (h4 : i.size = k) (h5 : i.bytes = bytes) (h6 : z.cells.size = k) (hz : ∀ u ∈ z.cells.toList, noU u = true)
    (v : Value) (n : Nat) (xs : List Value) (hs : a.eval s = v) (hown : OwnX w base e k v n xs) (ba : Nat) (news : List Value) (c : Nat) (hx : a.eval x = .slice (some ⟨ba, 0, none⟩) 1 c) (hnl : news.length = k) (hnw : ∀ j y, news[j]? = some y → w.cell? ⟨ba, j, none⟩ = some y) (h1c : ∀ y ∈ news, y.oneCell' = true) (hnu : ∀ y ∈ news, noU y = true)
    (b1 : n + 1 ≤ 1099511627776) (b2 : bytes ≤ 128) (hbase : base ≤ w.heap.size)
    (hK : ∀ v' w', OwnX w' base e k v' (n + 1) (xs ++ news) → Fr (fun g => v.ownBlock = some g) w w' → Fresh w v v' → K (a.put o.dst v') w') :
    if Region.wanted o (yielded ops a.tmps) = true then Oper.wp Tryz.prog o a w K Q else Z := by
  have hw : Region.wanted o (yielded ops a.tmps) = true := by simp [Region.wanted, hg]
  rw [if_pos hw]
  exact wp_pushX s x t hop base e i z k bytes h1 h2 h3 h4 h5 h6 hz v n xs hs hown ba news c hx hnl hnw h1c hnu b1 b2 hbase hK
end Go.Proofs.YtljncdcjkdgkeaaGreatDoor.Lp

namespace Go.Proofs.YtljncdcjkdgkeaaGreatDoor.Lp
open Go.RowKit Go.Proofs.YtljncdcjkdgkeaaGreatDoor.Big Go.Proofs.YtljncdcjkdgkeaaGreatDoor.Rt

/-- the number that a law writes -/
def qn (n : Int) (d : Nat) : Rat := Rat.divInt n (1 + ((d % 6 : Nat) : Int))
def in32 (n : Int) : Prop := -2147483648 ≤ n ∧ n ≤ 2147483647
set_option maxHeartbeats 4000000 in
theorem number_b (n : Int) (d : Nat) (w : World) (hn : in32 n) (hd : d ≤ 255) : Calls Tryz.prog 42 #[.int .i32 n, .int .u8 (d : Int)] w (RatBPost w (qn n d) 2) := by
  obtain ⟨Q, hQ⟩ : ∃ Q, Q = qn n d := ⟨_, rfl⟩
  rw [← hQ]
  obtain ⟨m, hm⟩ : ∃ m : Int, m = 1 + ((d % 6 : Nat) : Int) := ⟨_, rfl⟩
  have hm0 : 0 < m := by omega
  have hm1 : m < 7 := by omega
  have HQ : Hid (Q = Rat.divInt n m) := Lib.hid (by rw [hQ, hm]; rfl)
  have B0 := Box.new w 58 #[.bool false, .slice none 0 0, .bool false, .slice none 0 0]
  have hE0 : Ext w (w.alloc (.cells #[.bool false, .slice none 0 0, .bool false, .slice none 0 0] 58)) := (Ext.refl w).alloc _
  obtain ⟨n1, n2⟩ := hn
  go_enter Tryz.func42, Tryz.ntmps42
  go_upto_region 1 with fail
  generalize (w.alloc (.cells #[.bool false, .slice none 0 0, .bool false, .slice none 0 0] 58)) = V at *
  go_wp2_with fail
  refine (Frac_b _ _ _ (by omega) (by omega) (by omega) (by omega) (by omega)).mono ?_
  rintro e w1 ⟨v1, rfl, hb1, hx1⟩
  obtain ⟨p1, A1, m1, c1, p1', A1', m1', c1', rfl⟩ := hb1.1.shape
  rw [show Rat.divInt n (1 + (d : Int) % 6) = Q by rw [HQ.out, hm]; congr 1] at hb1
  have hE1 := hE0.trans hx1
  have B1 := B0.ext hx1
  go_upto_region 2 with fail
  have B5 := Box.new w1 58 #[.bool p1, .slice A1 m1 c1, .bool p1', .slice A1' m1' c1']
  have hE5 : Ext w1 (w1.alloc (.cells #[.bool p1, .slice A1 m1 c1, .bool p1', .slice A1' m1' c1'] 58)) := (Ext.refl w1).alloc _
  generalize (w1.alloc (.cells #[.bool p1, .slice A1 m1 c1, .bool p1', .slice A1' m1' c1'] 58)) = U at *
  have B2 := B1.ext hE5
  have hb2 := hb1.ext hE5
  have hE := hE1.trans hE5
  have x0 := B5.c0
  have x1 := B5.c1
  have x2 := B5.c2
  have x3 := B5.c3
  have z0 := B2.c0
  have z1 := B2.c1
  have z2 := B2.c2
  have z3 := B2.c3
  have f0 := B2.frozen 0
  have f1 := B2.frozen 1
  have f2 := B2.frozen 2
  have f3 := B2.frozen 3
  go_wp2_with fail
  obtain ⟨pp, pb⟩ := RatV.put hb2.1 B2
  have pc0 := pb.c0
  have pc1 := pb.c1
  have pc2 := pb.c2
  have pc3 := pb.c3
  refine bodyPost_ret (v := .agg #[.bool p1, .slice A1 m1 c1, .bool p1', .slice A1' m1' c1']) (by simp [results, Tryz.results42, go_sem, pc0, pc1, pc2, pc3]) rfl ?_
  exact ⟨_, rfl, ⟨pp, hb2.2⟩, (((hE.set (by simp) _).set (by simp) _).set (by simp) _).set (by simp) _⟩
end Go.Proofs.YtljncdcjkdgkeaaGreatDoor.Lp

namespace Go.Proofs.YtljncdcjkdgkeaaGreatDoor.Lp
open Go.RowKit Go.Proofs.YtljncdcjkdgkeaaGreatDoor.Big Go.Proofs.YtljncdcjkdgkeaaGreatDoor.Rt

/-- n elements of one cell lie from A on -/
def Row (w : World) (v : Value) (vs : List Value) : Prop :=
  ∃ A c, v = .slice A vs.length c ∧ vs.length ≤ c ∧ c ≤ 9223372036854775807 ∧ (0 < vs.length → ∃ b off, A = some ⟨b, off, none⟩ ∧ ∀ j u, vs[j]? = some u → w.cell? ⟨b, off + j, none⟩ = some u)
theorem Row.ext {w w' : World} {v : Value} {vs : List Value} (h : Row w v vs) (k : Ext w w') : Row w' v vs := by
  obtain ⟨A, c, rfl, h1, h2, h3⟩ := h
  refine ⟨A, c, rfl, h1, h2, fun hn => ?_⟩
  obtain ⟨b, off, rfl, hc⟩ := h3 hn
  exact ⟨b, off, rfl, fun j u hj => k.cell (hc j u hj)⟩
theorem Row.nil (w : World) (A : Option Addr) (c : Nat) (hc : c ≤ 9223372036854775807) : Row w (.slice A 0 c) [] := ⟨A, c, rfl, by simp, hc, fun h => absurd h (by simp)⟩
theorem Row.shape {w : World} {v : Value} {vs : List Value} (h : Row w v vs) : ∃ A c, v = .slice A vs.length c := by
  obtain ⟨A, c, rfl, _⟩ := h; exact ⟨A, c, rfl⟩
theorem Row.inj {w : World} {A : Option Addr} {n c : Nat} {vs : List Value} (h : Row w (.slice A n c) vs) : n = vs.length ∧ vs.length ≤ c ∧ c ≤ 9223372036854775807 ∧ (0 < vs.length → ∃ b off, A = some ⟨b, off, none⟩ ∧ ∀ j u, vs[j]? = some u → w.cell? ⟨b, off + j, none⟩ = some u) := by
  obtain ⟨A', c', e, h1⟩ := h
  injection e with a b c
  subst a b c
  exact ⟨rfl, h1⟩
def wV (xs : List Int) : List Value := xs.map (Value.int .i32)
theorem wV_get {xs : List Int} {j : Nat} {x : Int} (h : xs[j]? = some x) : (wV xs)[j]? = some (.int .i32 x) := by simp [wV, h]
theorem wV_len (xs : List Int) : (wV xs).length = xs.length := by simp [wV]

/-- an own row of rational numbers, appended to -/
def OwnQ (w : World) (base : Nat) (v : Value) (n : Nat) (f : Nat → Rat) : Prop := ∃ xs, OwnX w base 58 4 v n xs ∧ ∀ j, j < n → At w xs.toArray (j * 4) (f j)
/-- a list whose block is not older than base -/
def RatsO (w : World) (base : Nat) (A : Option Addr) (n c : Nat) (f : Nat → Rat) : Prop := n ≤ c ∧ c ≤ 9223372036854775807 ∧ (0 < n → ∃ b, A = some ⟨b, 0, none⟩ ∧ RowR w b n f ∧ base ≤ b)
theorem RatsO.rats {w : World} {base : Nat} {A : Option Addr} {n c : Nat} {f : Nat → Rat} (h : RatsO w base A n c f) : RatsV w A n c f :=
  ⟨h.1, h.2.1, fun hn => by obtain ⟨b, e, hr, _⟩ := h.2.2 hn; exact ⟨b, e, hr⟩⟩
theorem RatsO.ext {w w' : World} {base : Nat} {A : Option Addr} {n c : Nat} {f : Nat → Rat} (h : RatsO w base A n c f) (k : Ext w w') : RatsO w' base A n c f :=
  ⟨h.1, h.2.1, fun hn => by obtain ⟨b, e, hr, hb⟩ := h.2.2 hn; exact ⟨b, e, hr.ext k, hb⟩⟩
theorem RatsO.congr {w : World} {base : Nat} {A : Option Addr} {n c : Nat} {f g : Nat → Rat} (h : RatsO w base A n c f) (e : ∀ j, j < n → f j = g j) : RatsO w base A n c g :=
  ⟨h.1, h.2.1, fun hn => by obtain ⟨b, e', hr, hb⟩ := h.2.2 hn; exact ⟨b, e', hr.congr e, hb⟩⟩
theorem RatsV.congr {w : World} {A : Option Addr} {n c : Nat} {f g : Nat → Rat} (h : RatsV w A n c f) (e : ∀ j, j < n → f j = g j) : RatsV w A n c g :=
  ⟨h.1, h.2.1, fun hn => by obtain ⟨b, e', hr⟩ := h.2.2 hn; exact ⟨b, e', hr.congr e⟩⟩
section
variable {w w' : World} {base n : Nat} {v : Value} {f : Nat → Rat}
theorem OwnQ.nil (w : World) (base : Nat) (f : Nat → Rat) : OwnQ w base (.slice none 0 0) 0 f := ⟨[], OwnX.nil _ _ _ _, fun j hj => absurd hj (by omega)⟩
theorem OwnQ.ext (h : OwnQ w base v n f) (x : Ext w w') : OwnQ w' base v n f := by
  obtain ⟨xs, h1, h2⟩ := h
  exact ⟨xs, h1.ext x, fun j hj => (h2 j hj).fr (P := fun _ => False) (Fr.of x)⟩
theorem OwnQ.shape (h : OwnQ w base v n f) : ∃ A c, v = .slice A n c := by
  obtain ⟨xs, h1, h2⟩ := h
  exact h1.shape
theorem OwnQ.rats {A : Option Addr} {c : Nat} (h : OwnQ w base (.slice A n c) n f) : RatsO w base A n c f := by
  obtain ⟨xs, h1, h2⟩ := h
  rcases Nat.eq_zero_or_pos n with hn | hn
  · subst hn
    refine ⟨by omega, ?_, fun h => absurd h (by omega)⟩
    rcases h1.2 with ⟨e, _⟩ | ⟨g, cap, cur, e, _, _, _, h6, _⟩
    · injection e with _ _ e; omega
    · injection e with _ _ e
      unfold maxLen at h6; omega
  · obtain ⟨g, cap, e, _, hb, h3, h4, ⟨cur, h5, h6⟩, _, h8⟩ := h1.cells hn
    injection e with e1 e2 e3
    subst e1 e3
    refine ⟨h3, h4, fun _ => ⟨g, rfl, ⟨cur, h5, h6, fun j hj => ?_⟩, hb⟩⟩
    obtain ⟨p, A, m, c, p', A', m', c', e0, e1, e2, e3, hr⟩ := h2 j hj
    have key : ∀ i u, xs.toArray[i]? = some u → cur[i]? = some u := fun i u hu => by
      rw [List.getElem?_toArray] at hu
      have := h8 i u hu
      rwa [cell_of_row w g i cur _ (0, 0) h5] at this
    exact ⟨p, A, m, c, p', A', m', c', key _ _ e0, key _ _ e1, key _ _ e2, key _ _ e3, hr⟩
theorem At.push {P : Nat → Prop} {xs : List Value} {p p' : Bool} {A A' : Option Addr} {m c m' c' : Nat} (hl : xs.length = n * 4) (h : ∀ j, j < n → At w xs.toArray (j * 4) (f j)) (k : Fr P w w') (hq : RatV w (.agg #[.bool p, .slice A m c, .bool p', .slice A' m' c']) (f n)) :
    ∀ j, j < n + 1 → At w' (xs ++ [Value.bool p, .slice A m c, .bool p', .slice A' m' c']).toArray (j * 4) (f j) := by
  intro j hj
  by_cases e : j = n
  · subst e
    have key : ∀ i, (xs ++ [Value.bool p, .slice A m c, .bool p', .slice A' m' c']).toArray[j * 4 + i]? = [Value.bool p, .slice A m c, .bool p', .slice A' m' c'][i]? := fun i => by
      rw [List.getElem?_toArray, List.getElem?_append_right (by omega), hl]
      congr 1; omega
    exact ⟨p, A, m, c, p', A', m', c', key 0, key 1, key 2, key 3, k.rat hq⟩
  · obtain ⟨p1, A1, m1, c1, p1', A1', m1', c1', e0, e1, e2, e3, hr⟩ := h j (by omega)
    have key : ∀ i, i < 4 → (xs ++ [Value.bool p, .slice A m c, .bool p', .slice A' m' c']).toArray[j * 4 + i]? = xs.toArray[j * 4 + i]? := fun i hi => by
      rw [List.getElem?_toArray, List.getElem?_append_left (by omega), List.getElem?_toArray]
    exact ⟨p1, A1, m1, c1, p1', A1', m1', c1', by rw [← e0]; exact key 0 (by omega), by rw [← e1]; exact key 1 (by omega), by rw [← e2]; exact key 2 (by omega), by rw [← e3]; exact key 3 (by omega), k.rat hr⟩
end
theorem new4 (w : World) (E : TypeId) (a b c d : Value) : ∀ j y, [a, b, c, d][j]? = some y → (w.alloc (.cells #[a, b, c, d] E)).cell? ⟨w.heap.size, j, none⟩ = some y := by
  intro j y hj
  rw [(Box.new w E #[a, b, c, d]).cell j, ← hj]
  exact List.getElem?_toArray
theorem zR : ∀ u ∈ (Value.agg #[Value.bool false, .slice none 0 0, .bool false, .slice none 0 0]).cells.toList, noU u = true := fun u hu => by
  have : u = .bool false ∨ u = .slice none 0 0 := by
    simp [Value.cells] at hu
    rcases hu with h | h | h | h <;> simp [h]
  rcases this with rfl | rfl <;> rfl
theorem one4 {p p' : Bool} {A A' : Option Addr} {m c m' c' : Nat} : ∀ y ∈ [Value.bool p, .slice A m c, .bool p', .slice A' m' c'], y.oneCell' = true := fun y hy => by
  simp at hy
  rcases hy with rfl | rfl | rfl | rfl <;> rfl
theorem nou4 {p p' : Bool} {A A' : Option Addr} {m c m' c' : Nat} : ∀ y ∈ [Value.bool p, .slice A m c, .bool p', .slice A' m' c'], noU y = true := fun y hy => by
  simp at hy
  rcases hy with rfl | rfl | rfl | rfl <;> rfl
def NumsPost (w : World) (n : Nat) (f : Nat → Rat) (e : Ending) (w' : World) : Prop := ∃ A c, e = .returned (.slice A n c) ∧ RatsO w' w.heap.size A n c f ∧ Ext w w'
set_option maxHeartbeats 8000000 in
set_option maxRecDepth 100000 in
theorem numbers_b (A : Option Addr) (n c : Nat) (l : List Int) (d : Nat) (w : World) (h : Row w (.slice A n c) (wV l)) (hl : ∀ z ∈ l, in32 z) (hd : d ≤ 255) (hb : l.length ≤ 1048576) :
    Calls Tryz.prog 41 #[.slice A n c, .int .u8 (d : Int)] w (NumsPost w l.length (fun j => qn (l.getD j 0) d)) := by
  obtain ⟨hn, hc, -, hrow⟩ := h.inj
  rw [wV_len] at hn hc hrow
  subst hn
  have HL := Lib.hid hl
  have HROW := Lib.hid hrow
  clear hl hrow h
  obtain ⟨N, hN⟩ : ∃ N, N = l.length := ⟨_, rfl⟩
  rw [← hN] at hc hb HROW ⊢
  have HN := Lib.hid hN
  clear hN
  obtain ⟨i0, ii, iz0, iz1, iz2⟩ := info_parts infoRat
  go_enter Tryz.func41, Tryz.ntmps41
  go_wp2_with fail
  go_loopw [5, 10] (fun v i wr => ∃ k : Nat, k ≤ N ∧ i = .int .i64 k ∧ OwnQ wr w.heap.size v k (fun j => qn (l.getD j 0) d) ∧ Ext w wr) (fun _ i _ => N - (intOf i).toNat)
  case atStart => exact ⟨0, by omega, rfl, OwnQ.nil _ _ _, Ext.refl w⟩
  case round =>
    obtain ⟨k, hk, rfl, hO, hx⟩ := hrel
    by_cases hlt : k < N
    · obtain ⟨b, off, rfl, hcell⟩ := HROW.out (by omega)
      obtain ⟨x, hxk⟩ : ∃ x, l[k]? = some x := ⟨_, List.getElem?_eq_getElem (by have := HN.out; omega)⟩
      have e0 := hx.cell (hcell k _ (wV_get hxk))
      have hx32 : in32 x := HL.out x (List.mem_of_getElem? hxk)
      have HXK : Hid (qn x d = qn (l.getD k 0) d) := Lib.hid (by rw [List.getD_eq_getElem?_getD, hxk]; rfl)
      clear hcell hxk
      obtain ⟨A1, c1, rfl⟩ := hO.shape
      go_wp2_with fail
      refine (number_b x d _ hx32 hd).mono ?_
      rintro e w1 ⟨v1, rfl, hb1, hx1⟩
      obtain ⟨p1, B1, m1, d1, p1', B1', m1', d1', rfl⟩ := hb1.1.shape
      have hO1 := (hO.ext hx1).ext ((Ext.refl w1).alloc (.cells #[.bool p1, .slice B1 m1 d1, .bool p1', .slice B1' m1' d1'] 58))
      have hX1 := (hx.trans hx1).alloc (.cells #[.bool p1, .slice B1 m1 d1, .bool p1', .slice B1' m1' d1'] 58)
      have hb2 := hb1.1.ext ((Ext.refl w1).alloc (.cells #[.bool p1, .slice B1 m1 d1, .bool p1', .slice B1' m1' d1'] 58))
      have hN4 := new4 w1 58 (.bool p1) (.slice B1 m1 d1) (.bool p1') (.slice B1' m1' d1')
      obtain ⟨xs, o0, a0⟩ := hO1
      rw [HXK.out] at hb2
      have hsz := hX1.size
      go_upto_region 6 with (at_builtin; go_loud (refine wpList_pushX rfl (.tmp 14) (.tmp 18) 38 rfl w.heap.size 58 i0 _ 4 64 Tryz.underlying38 ii iz0 iz1 iz2 rfl zR _ k xs rfl o0 w1.heap.size [.bool p1, .slice B1 m1 d1, .bool p1', .slice B1' m1' d1'] 1 rfl rfl hN4 one4 nou4 (by omega) (by decide) hsz ?_); intro v2 w2 o2 r2 s2)
      have hX2 := r2.ext hX1 (fun g hg => (o0.lt hg).1)
      have a2 := At.push o0.1 a0 r2 hb2
      obtain ⟨A2, c2, rfl⟩ := o2.shape
      go_wp2_with fail
      go_roundw
      case rel => exact ⟨k + 1, by omega, by go_num, ⟨_, o2, a2⟩, hX2⟩
      case measure => simp [intOf]; omega
    · obtain rfl : k = N := by omega
      obtain ⟨A1, c1, rfl⟩ := hO.shape
      go_wp2_with fail
      go_ret
      exact ⟨A1, c1, rfl, hO.rats, hx⟩
end Go.Proofs.YtljncdcjkdgkeaaGreatDoor.Lp

namespace Go.Proofs.YtljncdcjkdgkeaaGreatDoor.Lp
open Go.RowKit Go.Proofs.YtljncdcjkdgkeaaGreatDoor.Big Go.Proofs.YtljncdcjkdgkeaaGreatDoor.Rt

def tc (vr vb vu vf : Value) (x y : Nat) : Array Value := #[vr, .slice none 0 0, vb, vu, vf, .int .i64 (x : Int), .int .i64 (y : Int)]
theorem row_ne {w : World} {b b' : Nat} {cs cs' : Array Value} {E E' : TypeId} {f f' : Nat × Nat} (h : w.heap[b]? = some (.cells cs E f)) (h' : w.heap[b']? = some (.cells cs' E' f')) (hE : E ≠ E') : b ≠ b' := fun e => by
  rw [e, h'] at h; injection h with h; injection h with _ h2; exact hE h2.symm
def rwL (rw : Nat → Nat) (W n : Nat) : List Value := (List.range n).map fun k => .slice (some ⟨rw k, 0, none⟩) (W + 1) (W + 1)
def inL (f : Nat → Nat) (n : Nat) : List Value := (List.range n).map fun k => .int .i64 (f k : Int)
def boL (f : Nat → Bool) (n : Nat) : List Value := (List.range n).map fun k => .bool (f k)
/-- the tableau while its rows are made: as many rows, basic columns, units, flips -/
structure NewI (p : Prob) (w wr : World) (pb tb W art : Nat) (pcs : Array Value) (a b c d : Nat) (vr vb vu vf : Value) (rw : Nat → Nat) : Prop where
  pbx : Box wr pb 41 pcs
  tbx : Box wr tb 200 (tc vr vb vu vf art W)
  orr : OwnX wr w.heap.size 38 1 vr a (rwL rw W a)
  ob : OwnX wr w.heap.size 3 1 vb b (inL p.un b)
  ou : OwnX wr w.heap.size 3 1 vu c (inL p.un c)
  of' : OwnX wr w.heap.size 4 1 vf d (boL p.flip d)
  bu : ∀ g, vb.ownBlock = some g → vu.ownBlock ≠ some g
  row : ∀ k, k < a → RowR wr (rw k) (W + 1) (p.T0 k) ∧ w.heap.size ≤ rw k
  inj : ∀ k, k < a → ∀ l, l < a → rw k = rw l → k = l
  ext : Ext w wr
section
variable {p : Prob} {w wr w' : World} {pb tb W art a b c d : Nat} {pcs : Array Value} {vr vb vu vf : Value} {rw : Nat → Nat} {P : Nat → Prop}
theorem RowR.cells {w : World} {b n : Nat} {f : Nat → Rat} (h : RowR w b n f) : ∃ cs, w.heap[b]? = some (.cells cs 58 (0, 0)) := by
  obtain ⟨cs, h1, _⟩ := h; exact ⟨cs, h1⟩
theorem NewI.fr (h : NewI p w wr pb tb W art pcs a b c d vr vb vu vf rw) (f : Fr P wr w') (h1 : ¬ P pb) (h2 : ¬ P tb) (h3 : ∀ g, vr.ownBlock = some g → ¬ P g) (h4 : ∀ g, vb.ownBlock = some g → ¬ P g) (h5 : ∀ g, vu.ownBlock = some g → ¬ P g) (h6 : ∀ g, vf.ownBlock = some g → ¬ P g) (h7 : ∀ k, k < a → ¬ P (rw k)) (hx : Ext w w') :
    NewI p w w' pb tb W art pcs a b c d vr vb vu vf rw :=
  ⟨f.box h.pbx h1, f.box h.tbx h2, h.orr.fr f h3, h.ob.fr f h4, h.ou.fr f h5, h.of'.fr f h6, h.bu, fun k hk => ⟨(h.row k hk).1.fr f (h7 k hk), (h.row k hk).2⟩, h.inj, hx⟩
theorem NewI.mono (h : NewI p w wr pb tb W art pcs a b c d vr vb vu vf rw) (x : Ext wr w') : NewI p w w' pb tb W art pcs a b c d vr vb vu vf rw :=
  h.fr (P := fun _ => False) (Fr.of x) id id (fun _ _ => id) (fun _ _ => id) (fun _ _ => id) (fun _ _ => id) (fun _ _ => id) (h.ext.trans x)
/-- blocks of different kinds are different -/
theorem NewI.apart (h : NewI p w wr pb tb W art pcs a b c d vr vb vu vf rw) :
    (∀ g, vr.ownBlock = some g → g ≠ pb ∧ g ≠ tb ∧ (∀ g', vb.ownBlock = some g' → g' ≠ g) ∧ (∀ g', vu.ownBlock = some g' → g' ≠ g) ∧ (∀ g', vf.ownBlock = some g' → g' ≠ g) ∧ ∀ k, k < a → rw k ≠ g) ∧
    (∀ g, vb.ownBlock = some g → g ≠ pb ∧ g ≠ tb ∧ (∀ g', vf.ownBlock = some g' → g' ≠ g) ∧ ∀ k, k < a → rw k ≠ g) ∧
    (∀ g, vu.ownBlock = some g → g ≠ pb ∧ g ≠ tb ∧ (∀ g', vf.ownBlock = some g' → g' ≠ g) ∧ ∀ k, k < a → rw k ≠ g) ∧
    (∀ g, vf.ownBlock = some g → g ≠ pb ∧ g ≠ tb ∧ ∀ k, k < a → rw k ≠ g) ∧ pb ≠ tb ∧ (∀ k, k < a → rw k ≠ pb ∧ rw k ≠ tb) := by
  have hp := h.pbx
  have ht := h.tbx
  unfold Box at hp ht
  refine ⟨fun g hg => ?_, fun g hg => ?_, fun g hg => ?_, fun g hg => ?_, row_ne hp ht (by decide), fun k hk => ?_⟩
  · obtain ⟨-, -, cur, hc⟩ := h.orr.lt hg
    refine ⟨row_ne hc hp (by decide), row_ne hc ht (by decide), fun g' hg' => ?_, fun g' hg' => ?_, fun g' hg' => ?_, fun k hk => ?_⟩
    · obtain ⟨-, -, cur', hc'⟩ := h.ob.lt hg'; exact row_ne hc' hc (by decide)
    · obtain ⟨-, -, cur', hc'⟩ := h.ou.lt hg'; exact row_ne hc' hc (by decide)
    · obtain ⟨-, -, cur', hc'⟩ := h.of'.lt hg'; exact row_ne hc' hc (by decide)
    · obtain ⟨cs, hc'⟩ := (h.row k hk).1.cells; exact row_ne hc' hc (by decide)
  · obtain ⟨-, -, cur, hc⟩ := h.ob.lt hg
    refine ⟨row_ne hc hp (by decide), row_ne hc ht (by decide), fun g' hg' => ?_, fun k hk => ?_⟩
    · obtain ⟨-, -, cur', hc'⟩ := h.of'.lt hg'; exact row_ne hc' hc (by decide)
    · obtain ⟨cs, hc'⟩ := (h.row k hk).1.cells; exact row_ne hc' hc (by decide)
  · obtain ⟨-, -, cur, hc⟩ := h.ou.lt hg
    refine ⟨row_ne hc hp (by decide), row_ne hc ht (by decide), fun g' hg' => ?_, fun k hk => ?_⟩
    · obtain ⟨-, -, cur', hc'⟩ := h.of'.lt hg'; exact row_ne hc' hc (by decide)
    · obtain ⟨cs, hc'⟩ := (h.row k hk).1.cells; exact row_ne hc' hc (by decide)
  · obtain ⟨-, -, cur, hc⟩ := h.of'.lt hg
    refine ⟨row_ne hc hp (by decide), row_ne hc ht (by decide), fun k hk => ?_⟩
    obtain ⟨cs, hc'⟩ := (h.row k hk).1.cells; exact row_ne hc' hc (by decide)
  · obtain ⟨cs, hc⟩ := (h.row k hk).1.cells
    exact ⟨row_ne hc hp (by decide), row_ne hc ht (by decide)⟩
end
/-- the block of one cell that an element is laid in -/
theorem new1 (w : World) (E : TypeId) (v : Value) : ∀ j y, [v][j]? = some y → (w.alloc (.cells #[v] E)).cell? ⟨w.heap.size, j, none⟩ = some y := by
  intro j y hj
  cases j with
  | zero => simp at hj; subst hj; exact (Box.new w E #[v]).c0
  | succ j => simp at hj
theorem one1 {v : Value} (h : v.oneCell' = true) : ∀ y ∈ [v], y.oneCell' = true := fun y hy => by rw [List.mem_singleton.1 hy]; exact h
theorem nou1 {v : Value} (h : noU v = true) : ∀ y ∈ [v], noU y = true := fun y hy => by rw [List.mem_singleton.1 hy]; exact h
theorem zI : ∀ u ∈ (Value.int .i64 0).cells.toList, noU u = true := fun u hu => by
  have : u = .int .i64 0 := by simpa [Value.cells] using hu
  rw [this]; rfl
theorem boxR {w w' : World} {rb base k n : Nat} {E E' : TypeId} {cs : Array Value} {v : Value} {xs : List Value} (B : Box w rb E cs) (o : OwnX w base E' k v n xs) (f : Fr (fun g => v.ownBlock = some g) w w') (hE : E' ≠ E) : Box w' rb E cs :=
  f.box B (fun e => by obtain ⟨-, -, cur, hc⟩ := o.lt e; exact row_ne hc B hE rfl)
end Go.Proofs.YtljncdcjkdgkeaaGreatDoor.Lp

namespace Go.Proofs.YtljncdcjkdgkeaaGreatDoor.Lp
open Go.RowKit Go.Proofs.YtljncdcjkdgkeaaGreatDoor.Big Go.Proofs.YtljncdcjkdgkeaaGreatDoor.Rt

structure IRow where
  coef : List Int
  rel : Nat
  right : Int
structure IP where
  obj : List Int
  rows : List IRow
  den : Nat
def IRow.ok (r : IRow) : Prop := (∀ z ∈ r.coef, in32 z) ∧ in32 r.right ∧ r.rel ≤ 255 ∧ r.coef.length ≤ 1048576
def IP.ok (p : IP) : Prop := (∀ z ∈ p.obj, in32 z) ∧ p.obj.length ≤ 1048576 ∧ p.rows.length ≤ 1048576 ∧ p.den ≤ 255 ∧ ∀ r ∈ p.rows, r.ok
def IRow.rl (d : Nat) (r : IRow) : RL := ⟨r.coef.map (qn · d), r.rel, qn r.right d⟩
def IP.pl (p : IP) : PL := ⟨p.obj.map (qn · p.den), p.rows.map (IRow.rl p.den)⟩
/-- a row at a place -/
def IRowAt (w : World) (b off : Nat) (r : IRow) : Prop :=
  ∃ A c, w.cell? ⟨b, off, none⟩ = some (.slice A r.coef.length c) ∧ w.cell? ⟨b, off + 1, none⟩ = some (.int .u8 (r.rel : Int)) ∧ w.cell? ⟨b, off + 2, none⟩ = some (.int .i32 r.right) ∧ Row w (.slice A r.coef.length c) (wV r.coef)
def IPV (w : World) (v : Value) (p : IP) : Prop :=
  ∃ Ao co Ar cr, v = .agg #[.slice Ao p.obj.length co, .slice Ar p.rows.length cr, .int .u8 (p.den : Int)] ∧ Row w (.slice Ao p.obj.length co) (wV p.obj) ∧ p.rows.length ≤ cr ∧ cr ≤ 9223372036854775807 ∧
    (0 < p.rows.length → ∃ b off, Ar = some ⟨b, off, none⟩ ∧ ∀ j r, p.rows[j]? = some r → IRowAt w b (off + j * 3) r)
theorem IRowAt.ext {w w' : World} {b off : Nat} {r : IRow} (h : IRowAt w b off r) (k : Ext w w') : IRowAt w' b off r := by
  obtain ⟨A, c, h1, h2, h3, h4⟩ := h
  exact ⟨A, c, k.cell h1, k.cell h2, k.cell h3, h4.ext k⟩
theorem IPV.ext {w w' : World} {v : Value} {p : IP} (h : IPV w v p) (k : Ext w w') : IPV w' v p := by
  obtain ⟨Ao, co, Ar, cr, rfl, h1, h2, h3, h4⟩ := h
  exact ⟨Ao, co, Ar, cr, rfl, h1.ext k, h2, h3, fun hn => by obtain ⟨b, off, e, hr⟩ := h4 hn; exact ⟨b, off, e, fun j r hj => (hr j r hj).ext k⟩⟩
theorem qn_zero (d : Nat) : qn 0 d = 0 := Rat.zero_divInt _
theorem qn_get (l : List Int) (d j : Nat) : (l.map (qn · d)).getD j 0 = qn (l.getD j 0) d := by
  simp only [List.getD_eq_getElem?_getD, List.getElem?_map]
  cases l[j]? with
  | none => exact (qn_zero d).symm
  | some a => rfl
theorem IP.row {p : IP} {i : Nat} {r : IRow} (h : p.rows[i]? = some r) : p.pl.rows.getD i RL.zero = r.rl p.den := by
  unfold IP.pl
  simp only [List.getD_eq_getElem?_getD, List.getElem?_map, h]; rfl

/-! problems that a law has made -/
structure MA where
  Ao : Option Addr
  co : Nat
  Ar : Option Addr
  br : Nat
  cr : Nat
  rA : Nat → Option Addr
  rc : Nat → Nat
/-- what is known of the rows -/
structure MRows (w : World) (base lo m : Nat) (p : Prob) (rA : Nat → Option Addr) (rc : Nat → Nat) (X : Nat → Option Value) : Prop where
  row : ∀ i, i < m → X (i * 6) = some (.slice (rA i) (p.len i) (rc i)) ∧ X (i * 6 + 1) = some (.int .u8 (p.rel i : Int)) ∧ p.rel i ≤ 255 ∧
    ∃ x B d e y B' d' e', X (i * 6 + 2) = some (.bool x) ∧ X (i * 6 + 3) = some (.slice B d e) ∧ X (i * 6 + 4) = some (.bool y) ∧ X (i * 6 + 5) = some (.slice B' d' e') ∧ RatV w (.agg #[.bool x, .slice B d e, .bool y, .slice B' d' e']) (p.right i)
  coef : ∀ i, i < m → RatsO w lo (rA i) (p.len i) (rc i) (p.coef i)
  apart : ∀ i, i < m → ∀ j, j < m → i ≠ j → 0 < p.len i → 0 < p.len j → rA i ≠ rA j
theorem MRows.fr {P : Nat → Prop} {w w' : World} {base lo m : Nat} {p : Prob} {rA : Nat → Option Addr} {rc : Nat → Nat} {X : Nat → Option Value} (h : MRows w base lo m p rA rc X) (k : Fr P w w') (hP : ∀ b n f, RowR w b n f → ¬ P b) : MRows w' base lo m p rA rc X := by
  refine ⟨fun i hi => ?_, fun i hi => ?_, h.apart⟩
  · obtain ⟨h1, h2, h3, x, B, d, e, y, B', d', e', g2, g3, g4, g5, hr⟩ := h.row i hi
    exact ⟨h1, h2, h3, x, B, d, e, y, B', d', e', g2, g3, g4, g5, k.rat hr⟩
  · obtain ⟨h1, h2, h3⟩ := h.coef i hi
    exact ⟨h1, h2, fun hn => by obtain ⟨b, e, hr, hb⟩ := h3 hn; exact ⟨b, e, hr.fr k (hP _ _ _ hr), hb⟩⟩
theorem MRows.ext {w w' : World} {base lo m : Nat} {p : Prob} {rA : Nat → Option Addr} {rc : Nat → Nat} {X : Nat → Option Value} (h : MRows w base lo m p rA rc X) (k : Ext w w') : MRows w' base lo m p rA rc X := h.fr (P := fun _ => False) (Fr.of k) (fun _ _ _ _ => id)
theorem MRows.X {w : World} {base lo m : Nat} {p : Prob} {rA : Nat → Option Addr} {rc : Nat → Nat} {X Y : Nat → Option Value} (h : MRows w base lo m p rA rc X) (hXY : ∀ i, i < m * 6 → ∀ u, X i = some u → Y i = some u) : MRows w base lo m p rA rc Y := by
  refine ⟨fun i hi => ?_, h.coef, h.apart⟩
  obtain ⟨h1, h2, h3, x, B, d, e, y, B', d', e', g2, g3, g4, g5, hr⟩ := h.row i hi
  exact ⟨hXY _ (by omega) _ h1, hXY _ (by omega) _ h2, h3, x, B, d, e, y, B', d', e', hXY _ (by omega) _ g2, hXY _ (by omega) _ g3, hXY _ (by omega) _ g4, hXY _ (by omega) _ g5, hr⟩
/-- rows that are appended to -/
def OwnM (w : World) (base lo : Nat) (v : Value) (m : Nat) (p : Prob) (rA : Nat → Option Addr) (rc : Nat → Nat) : Prop := ∃ xs, OwnX w base 75 6 v m xs ∧ MRows w base lo m p rA rc (fun i => xs[i]?)
theorem OwnM.nil (w : World) (base lo : Nat) (p : Prob) (rA : Nat → Option Addr) (rc : Nat → Nat) : OwnM w base lo (.slice none 0 0) 0 p rA rc :=
  ⟨[], OwnX.nil _ _ _ _, fun i hi => absurd hi (by omega), fun i hi => absurd hi (by omega), fun i hi => absurd hi (by omega)⟩
theorem OwnM.ext {w w' : World} {base lo m : Nat} {v : Value} {p : Prob} {rA : Nat → Option Addr} {rc : Nat → Nat} (h : OwnM w base lo v m p rA rc) (x : Ext w w') : OwnM w' base lo v m p rA rc := by
  obtain ⟨xs, h1, h2⟩ := h
  exact ⟨xs, h1.ext x, h2.ext x⟩
/-- a further row -/
theorem MRows.push {w w' : World} {base lo m : Nat} {v : Value} {p : Prob} {rA : Nat → Option Addr} {rc : Nat → Nat} {xs : List Value} (o : OwnX w base 75 6 v m xs) (h : MRows w base lo m p rA rc (fun i => xs[i]?)) (k : Fr (fun g => v.ownBlock = some g) w w')
    {A : Option Addr} {c : Nat} {x y : Bool} {B B' : Option Addr} {d e d' e' : Nat} (hr : p.rel m ≤ 255) (hq : RatV w (.agg #[.bool x, .slice B d e, .bool y, .slice B' d' e']) (p.right m)) (hc : RatsO w lo A (p.len m) c (p.coef m))
    (hne : ∀ i, i < m → 0 < p.len i → 0 < p.len m → rA i ≠ A) :
    MRows w' base lo (m + 1) p (fun i => if i = m then A else rA i) (fun i => if i = m then c else rc i) (fun i => (xs ++ [.slice A (p.len m) c, .int .u8 (p.rel m : Int), .bool x, .slice B d e, .bool y, .slice B' d' e'])[i]?) := by
  have hl : xs.length = m * 6 := o.1
  have hP : ∀ b n f, RowR w b n f → ¬ v.ownBlock = some b := fun b n f hb e => by
    obtain ⟨-, -, cur, hcur⟩ := o.lt e
    obtain ⟨cs, hcs⟩ := hb.cells
    exact row_ne hcur hcs (by decide) rfl
  refine ⟨fun i hi => ?_, fun i hi => ?_, fun i hi j hj hij hi0 hj0 => ?_⟩
  · by_cases him : i = m
    · subst him
      have key : ∀ t, (xs ++ [Value.slice A (p.len i) c, .int .u8 (p.rel i : Int), .bool x, .slice B d e, .bool y, .slice B' d' e'])[i * 6 + t]? = [Value.slice A (p.len i) c, .int .u8 (p.rel i : Int), .bool x, .slice B d e, .bool y, .slice B' d' e'][t]? := fun t => by
        rw [List.getElem?_append_right (by omega), hl]
        congr 1; omega
      simp only [if_true]
      exact ⟨key 0, key 1, hr, x, B, d, e, y, B', d', _, key 2, key 3, key 4, key 5, k.rat hq⟩
    · obtain ⟨h1, h2, h3, x1, B1, d1, e1, y1, B1', d1', e1', g2, g3, g4, g5, hr1⟩ := h.row i (by omega)
      have key : ∀ t, t < 6 → (xs ++ [Value.slice A (p.len m) c, .int .u8 (p.rel m : Int), .bool x, .slice B d e, .bool y, .slice B' d' e'])[i * 6 + t]? = xs[i * 6 + t]? := fun t ht => List.getElem?_append_left (by omega)
      simp only [if_neg him]
      exact ⟨(key 0 (by omega)).trans h1, (key 1 (by omega)).trans h2, h3, x1, B1, d1, e1, y1, B1', d1', e1', (key 2 (by omega)).trans g2, (key 3 (by omega)).trans g3, (key 4 (by omega)).trans g4, (key 5 (by omega)).trans g5, k.rat hr1⟩
  · have up : ∀ {A n c f}, RatsO w lo A n c f → RatsO w' lo A n c f := fun {A n c f} h => ⟨h.1, h.2.1, fun hn => by obtain ⟨b, e, hr, hb⟩ := h.2.2 hn; exact ⟨b, e, hr.fr k (hP _ _ _ hr), hb⟩⟩
    by_cases e' : i = m
    · subst e'
      simp only [if_true]
      exact up hc
    · simp only [if_neg e']
      exact up (h.coef i (by omega))
  · by_cases e1 : i = m
    · rw [if_pos e1, if_neg (by omega)]
      intro e2
      subst e1
      exact hne j (by omega) hj0 hi0 e2.symm
    · rw [if_neg e1]
      by_cases e2 : j = m
      · subst e2; rw [if_pos rfl]; exact hne i (by omega) hi0 hj0
      · rw [if_neg e2]; exact h.apart i (by omega) j (by omega) hij hi0 hj0
structure MkV (w : World) (base : Nat) (v : Value) (p : Prob) (a : MA) : Prop where
  val : v = .agg #[.slice a.Ao p.n a.co, .slice a.Ar p.m a.cr]
  obj : RatsO w base a.Ao p.n a.co p.obj
  cap : p.m ≤ a.cr ∧ a.cr ≤ 9223372036854775807
  blk : 0 < p.m → a.Ar = some ⟨a.br, 0, none⟩ ∧ base ≤ a.br ∧ ∃ cs, w.heap[a.br]? = some (.cells cs 75 (0, 0)) ∧ p.m * 6 ≤ cs.size
  rows : MRows w base base p.m p a.rA a.rc (fun i => w.cell? ⟨a.br, i, none⟩)
  apart : ∀ i, i < p.m → 0 < p.len i → 0 < p.n → a.rA i ≠ a.Ao
theorem MkV.ext {w w' : World} {base : Nat} {v : Value} {p : Prob} {a : MA} (h : MkV w base v p a) (k : Ext w w') : MkV w' base v p a := by
  refine ⟨h.val, h.obj.ext k, h.cap, fun hm => ?_, (h.rows.ext k).X (fun i _ u hu => k.cell hu), h.apart⟩
  obtain ⟨h1, h2, cs, h3, h4⟩ := h.blk hm
  exact ⟨h1, h2, cs, (Fr.of (P := fun _ => False) k).row id h3, h4⟩
theorem infoRow : (Tryz.prog.info? 75).map (fun i => (i.zero, i.size, i.bytes)) = some (some (.agg #[.slice none 0 0, .int .u8 0, .bool false, .slice none 0 0, .bool false, .slice none 0 0]), 6, 96) := by kernel_rfl
theorem zRow : ∀ u ∈ (Value.agg #[.slice none 0 0, .int .u8 0, .bool false, .slice none 0 0, .bool false, .slice none 0 0]).cells.toList, noU u = true := fun u hu => by
  have : u = .bool false ∨ u = .slice none 0 0 ∨ u = .int .u8 0 := by
    simp [Value.cells] at hu
    rcases hu with h | h | h | h | h | h <;> simp [h]
  rcases this with rfl | rfl | rfl <;> rfl
theorem new6 (w : World) (E : TypeId) (a b c d e f : Value) : ∀ j y, [a, b, c, d, e, f][j]? = some y → (w.alloc (.cells #[a, b, c, d, e, f] E)).cell? ⟨w.heap.size, j, none⟩ = some y := by
  intro j y hj
  rw [(Box.new w E #[a, b, c, d, e, f]).cell j, ← hj]
  exact List.getElem?_toArray
theorem one6 {p p' : Bool} {A0 A A' : Option Addr} {n0 c0 m c m' c' : Nat} {r : Int} : ∀ y ∈ [Value.slice A0 n0 c0, .int .u8 r, .bool p, .slice A m c, .bool p', .slice A' m' c'], y.oneCell' = true := fun y hy => by
  simp at hy
  rcases hy with rfl | rfl | rfl | rfl | rfl | rfl <;> rfl
theorem nou6 {p p' : Bool} {A0 A A' : Option Addr} {n0 c0 m c m' c' : Nat} {r : Int} : ∀ y ∈ [Value.slice A0 n0 c0, .int .u8 r, .bool p, .slice A m c, .bool p', .slice A' m' c'], noU y = true := fun y hy => by
  simp at hy
  rcases hy with rfl | rfl | rfl | rfl | rfl | rfl <;> rfl
end Go.Proofs.YtljncdcjkdgkeaaGreatDoor.Lp

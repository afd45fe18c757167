/- Walk: improve. make of a row of rational numbers; frames of calls that have made blocks of their own. Problems in memory; walks: flips, direction, Valid. Walk: Valid. copy of rational numbers into a row of the call's own; append of one element, and where the row then lies. Walk: number. Rows of numbers among the arguments; own rows of rational numbers; walk: numbers. The tableau while newTableau makes it. Problems among the arguments; problems that a law makes; walk: Make. Walk: the rational numbers' Text. What every card of the laws of certificate needs: the table of powers, a world for the witness, the problem among the arguments opened, the closing of a law that leaves the heap it found as it was. -/
import Derived.ArgAppend
import Derived.Laws.CopyOwn
import Derived.Deep.CutBlock
import Derived.Deep.RegionLaw
import Derived.Test.YtljncdcjkdgkeaaGreatDoorKW17
import Derived.Test.YtljncdcjkdgkeaaGreatDoorKLT
import Derived.Test.YtljncdcjkdgkeaaGreatDoorKLS4
import Derived.WalkKit
import Derived.ProofKit
import Derived.OpenShut
import Derived.Deep.DeepHandedRow
import Derived.Lib.LaidTab
import Derived.LaidSub
import Derived.Deep.Slices
import Derived.Deep.Fields
import Derived.ChangeSame
import Derived.ChangeSlices
import Derived.Carry
import Derived.WideKeyArgs
import Derived.Lib.SmallJoins
import Derived.Test.YtljncdcjkdgkeaaGreatDoorRows
set_option linter.unusedVariables false
set_option linter.unusedSimpArgs false
namespace Go.Proofs.YtljncdcjkdgkeaaGreatDoor.Lp
open Go.RowKit Go.Proofs.YtljncdcjkdgkeaaGreatDoor.Big Go.Proofs.YtljncdcjkdgkeaaGreatDoor.Rt

end Go.Proofs.YtljncdcjkdgkeaaGreatDoor.Lp

namespace Go.Proofs.YtljncdcjkdgkeaaGreatDoor.Lp
open Go.RowKit Go.Proofs.YtljncdcjkdgkeaaGreatDoor.Big Go.Proofs.YtljncdcjkdgkeaaGreatDoor.Rt

theorem infoRat : (Tryz.prog.info? 58).map (fun i => (i.zero, i.size, i.bytes)) = some (some (.agg #[.bool false, .slice none 0 0, .bool false, .slice none 0 0]), 4, 64) := by kernel_rfl
theorem wpList_makeR (w : World) {ops : Array Oper} {rest : List Oper} {o : Oper} {a : Act} {Q : Exit → Act → World → Prop}
    (hg : o.guard = none) (l c : Operand) (hop : o.op = Op.makeSlice 38 l c)
    (L C : Int) (hl : a.eval l = .int .i64 L) (hc : a.eval c = .int .i64 C) (n : Nat) (hL : L = (n : Int)) (hC : C = (n : Int)) (hn : n ≤ 1099511627776)
    (hK : ∀ w', RowR w' w.heap.size n (fun _ => 0) → Ext w w' → wpList Tryz.prog ops Q rest (a.put o.dst (.slice (some ⟨w.heap.size, 0, none⟩) n n)) w') :
    wpList Tryz.prog ops Q (o :: rest) a w := by
  obtain ⟨i0, hi, hz0, hz1, hz2⟩ := info_parts infoRat
  refine wpList_make_full w hg l c 38 hop w.heap.size 58 i0 _ 4 Tryz.underlying38 hi hz0 hz1 .i64 .i64 L C n hl hc hL hC (by rw [hz2]; omega) (by unfold maxLen; omega) (Nat.le_refl _) ?_
  intro w' hown hgr
  refine hK w' ?_ (Below.grown (Ext.refl w) hgr (Nat.le_refl _) (fun k hk => by cases hk))
  obtain ⟨hlen, hh⟩ := hown
  rcases hh with ⟨h, _⟩ | ⟨g, cap, cur, hv, _, hh, hcap, _, hsz, htake⟩
  · cases h
  · injection hv with e1 e2 e3
    injection e1 with e1
    injection e1 with e1
    subst e1 e3
    have hcur : cur.toList = (madeCells (Value.agg #[.bool false, .slice none 0 0, .bool false, .slice none 0 0]).cells (n * 4)).toList := by
      rw [← htake, List.take_of_length_le (by simp; omega)]
    refine ⟨cur, hh, Nat.le_of_eq hsz.symm, fun j hj => ?_⟩
    have key : ∀ i, i < 4 → cur[j * 4 + i]? = (#[Value.bool false, .slice none 0 0, .bool false, .slice none 0 0] : Array Value)[i]? := by
      intro i hi
      rw [← Array.getElem?_toList, hcur]
      have h1 : (j * 4 + i) % 4 = i := by omega
      have h2 : j * 4 + i < n * 4 := by omega
      simp [madeCells, Value.cells, h2, h1]
      rcases (show i = 0 ∨ i = 1 ∨ i = 2 ∨ i = 3 by omega) with rfl | rfl | rfl | rfl <;> rfl
    exact ⟨_, _, _, _, _, _, _, _, key 0 (by omega), key 1 (by omega), key 2 (by omega), key 3 (by omega), RatV.zero w'⟩
end Go.Proofs.YtljncdcjkdgkeaaGreatDoor.Lp

namespace Go.Proofs.YtljncdcjkdgkeaaGreatDoor.Lp
open Go.RowKit Go.Proofs.YtljncdcjkdgkeaaGreatDoor.Big Go.Proofs.YtljncdcjkdgkeaaGreatDoor.Rt

/-- a list of n rational numbers -/
def RatsV (w : World) (A : Option Addr) (n c : Nat) (f : Nat → Rat) : Prop := n ≤ c ∧ c ≤ 9223372036854775807 ∧ (0 < n → ∃ b, A = some ⟨b, 0, none⟩ ∧ RowR w b n f)
/-- a row of a problem, at place i of block b -/
def RowAt (w : World) (b i : Nat) (l : Nat) (f : Nat → Rat) (rel : Nat) (q : Rat) : Prop :=
  ∃ Ac cc x A d e y A' d' e', w.cell? ⟨b, i * 6, none⟩ = some (.slice Ac l cc) ∧ w.cell? ⟨b, i * 6 + 1, none⟩ = some (.int .u8 (rel : Int)) ∧ w.cell? ⟨b, i * 6 + 2, none⟩ = some (.bool x) ∧ w.cell? ⟨b, i * 6 + 3, none⟩ = some (.slice A d e) ∧
    w.cell? ⟨b, i * 6 + 4, none⟩ = some (.bool y) ∧ w.cell? ⟨b, i * 6 + 5, none⟩ = some (.slice A' d' e') ∧ RatsV w Ac l cc f ∧ rel ≤ 255 ∧ RatV w (.agg #[.bool x, .slice A d e, .bool y, .slice A' d' e']) q
def ProbV (w : World) (v : Value) (p : Prob) : Prop :=
  ∃ Ao co Ar cr, v = .agg #[.slice Ao p.n co, .slice Ar p.m cr] ∧ RatsV w Ao p.n co p.obj ∧ p.m ≤ cr ∧ cr ≤ 9223372036854775807 ∧ (0 < p.m → ∃ br, Ar = some ⟨br, 0, none⟩ ∧ ∀ i, i < p.m → RowAt w br i (p.len i) (p.coef i) (p.rel i) (p.right i))
section
variable {w w' : World}
theorem RatsV.ext {A : Option Addr} {n c : Nat} {f : Nat → Rat} (h : RatsV w A n c f) (k : Ext w w') : RatsV w' A n c f :=
  ⟨h.1, h.2.1, fun hn => by obtain ⟨b, e, hr⟩ := h.2.2 hn; exact ⟨b, e, hr.ext k⟩⟩
theorem RowAt.ext {b i l : Nat} {f : Nat → Rat} {rel : Nat} {q : Rat} (h : RowAt w b i l f rel q) (k : Ext w w') : RowAt w' b i l f rel q := by
  obtain ⟨Ac, cc, x, A, d, e, y, A', d', e', g0, g1, g2, g3, g4, g5, h1, h2, h3⟩ := h
  exact ⟨Ac, cc, x, A, d, e, y, A', d', e', k.cell g0, k.cell g1, k.cell g2, k.cell g3, k.cell g4, k.cell g5, h1.ext k, h2, h3.ext k⟩
theorem ProbV.ext {v : Value} {p : Prob} (h : ProbV w v p) (k : Ext w w') : ProbV w' v p := by
  obtain ⟨Ao, co, Ar, cr, rfl, h1, h2, h3, h4⟩ := h
  exact ⟨Ao, co, Ar, cr, rfl, h1.ext k, h2, h3, fun hm => by obtain ⟨br, e, hr⟩ := h4 hm; exact ⟨br, e, fun i hi => (hr i hi).ext k⟩⟩
end
def ValPost (w : World) (v : Value) (e : Ending) (w' : World) : Prop := e = .returned v ∧ Ext w w'
end Go.Proofs.YtljncdcjkdgkeaaGreatDoor.Lp

namespace Go.Proofs.YtljncdcjkdgkeaaGreatDoor.Lp
open Go.RowKit Go.Proofs.YtljncdcjkdgkeaaGreatDoor.Big Go.Proofs.YtljncdcjkdgkeaaGreatDoor.Rt

def rowOK (p : Prob) (i : Nat) : Bool := p.len i == p.n && decide (1 ≤ p.rel i) && decide (p.rel i ≤ 3)
def rowsOK (p : Prob) : Nat → Bool
  | 0 => true
  | i + 1 => rowsOK p i && rowOK p i
def validB (p : Prob) : Bool := decide (1 ≤ p.n) && decide (p.n ≤ 1000) && decide (p.m ≤ 1000) && rowsOK p p.m
theorem rowsOK_iff {p : Prob} {m : Nat} : rowsOK p m = true ↔ ∀ i, i < m → p.len i = p.n ∧ 1 ≤ p.rel i ∧ p.rel i ≤ 3 := by
  induction m with
  | zero => exact ⟨fun _ i hi => absurd hi (by omega), fun _ => rfl⟩
  | succ m ih =>
    show (rowsOK p m && rowOK p m) = true ↔ _
    rw [Bool.and_eq_true, ih]
    have h1 : rowOK p m = true ↔ p.len m = p.n ∧ 1 ≤ p.rel m ∧ p.rel m ≤ 3 := by unfold rowOK; simp [and_assoc]
    rw [h1]
    constructor
    · rintro ⟨a, b⟩ i hi
      by_cases e : i = m
      · subst e; exact b
      · exact a i (by omega)
    · intro h; exact ⟨fun i hi => h i (by omega), h m (by omega)⟩
theorem validB_iff {p : Prob} : validB p = true ↔ p.Valid := by
  unfold validB Prob.Valid
  rw [Bool.and_eq_true, rowsOK_iff]; simp [and_assoc]
theorem rowsOK_no {p : Prob} {i m : Nat} (h : rowOK p i = false) (hi : i < m) : rowsOK p m = false := by
  cases e : rowsOK p m with
  | false => rfl
  | true =>
    have := rowsOK_iff.1 e i hi
    unfold rowOK at h
    simp [this] at h
set_option maxHeartbeats 4000000 in
theorem Valid_b (v : Value) (p : Prob) (w : World) (h : ProbV w v p) : Calls Tryz.prog 17 #[v] w (ValPost w (.bool (validB p))) := by
  obtain ⟨Ao, co, Ar, cr, rfl, h1, h2, h3, h4⟩ := h
  obtain ⟨F, hF⟩ : ∃ F, F = validB p := ⟨_, rfl⟩
  rw [← hF]
  obtain ⟨n, hn⟩ : ∃ n, n = p.n := ⟨_, rfl⟩
  obtain ⟨m, hm⟩ : ∃ m, m = p.m := ⟨_, rfl⟩
  have HF : Hid (F = (decide (1 ≤ n) && decide (n ≤ 1000) && decide (m ≤ 1000) && rowsOK p m)) := Lib.hid (by rw [hF, hn, hm]; rfl)
  have HR : Hid (∀ i, rowOK p i = (p.len i == n && decide (1 ≤ p.rel i) && decide (p.rel i ≤ 3))) := Lib.hid (fun i => by rw [hn]; rfl)
  have H4 : Hid (0 < m → ∃ br, Ar = some ⟨br, 0, none⟩ ∧ ∀ i, i < m → RowAt w br i (p.len i) (p.coef i) (p.rel i) (p.right i)) := Lib.hid (by rw [hm]; exact h4)
  rw [← hn, ← hm]
  have hmc : m ≤ cr := by rw [hm]; exact h2
  clear hF h1 h2 h4 hn hm
  have B := Box.new w 41 #[.slice Ao n co, .slice Ar m cr]
  have hE0 : Ext w (w.alloc (.cells #[.slice Ao n co, .slice Ar m cr] 41)) := (Ext.refl w).alloc _
  go_enter Tryz.func17, Tryz.ntmps17
  go_upto_region 1 with fail
  generalize (w.alloc (.cells #[.slice Ao n co, .slice Ar m cr] 41)) = V at *
  have c0 := B.c0
  have c1 := B.c1
  by_cases hn1 : n < 1
  · have e1 : decide ((n : Int) < 1) = true := by simp; omega
    have HE : Hid (F = false) := Lib.hid (by rw [HF.out, decide_eq_false (show ¬ 1 ≤ n by omega)]; rfl)
    clear hn1
    go_wp2_with fail
    go_ret
    exact ⟨by rw [HE.out]; rfl, hE0⟩
  · have e1 : decide ((n : Int) < 1) = false := by simp; omega
    have HN1 := Lib.hid hn1
    clear hn1
    by_cases hn2 : 1000 < n
    · have e2 : decide ((1000 : Int) < (n : Int)) = true := by simp; omega
      have HE : Hid (F = false) := Lib.hid (by rw [HF.out, decide_eq_false (show ¬ n ≤ 1000 by omega)]; simp)
      clear hn2
      go_wp2_with fail
      go_ret
      exact ⟨by rw [HE.out]; rfl, hE0⟩
    · have e2 : decide ((1000 : Int) < (n : Int)) = false := by simp; omega
      have HN2 := Lib.hid hn2
      clear hn2
      by_cases hm2 : 1000 < m
      · have e3 : decide ((1000 : Int) < (m : Int)) = true := by simp; omega
        have HE : Hid (F = false) := Lib.hid (by rw [HF.out, decide_eq_false (show ¬ m ≤ 1000 by omega)]; simp)
        clear hm2
        go_wp2_with fail
        go_ret
        exact ⟨by rw [HE.out]; rfl, hE0⟩
      · have e3 : decide ((1000 : Int) < (m : Int)) = false := by simp; omega
        have HE : Hid (F = rowsOK p m) := Lib.hid (by rw [HF.out, decide_eq_true (show 1 ≤ n by have := HN1.out; omega), decide_eq_true (show n ≤ 1000 by have := HN2.out; omega), decide_eq_true (show m ≤ 1000 by omega)]; rfl)
        have hmb : m ≤ 1000 := by omega
        clear hm2
        go_wp2_with fail
        clear e1 e2 e3
        go_loopw [24] (fun i wr => ∃ k : Nat, k ≤ m ∧ i = .int .i64 k ∧ Hid (rowsOK p k = true) ∧ Ext V wr) (fun i _ => m - (intOf i).toNat)
        case atStart => exact ⟨0, by omega, rfl, Lib.hid rfl, Ext.refl V⟩
        case round =>
          obtain ⟨k, hk, rfl, HK, hx⟩ := hrel
          by_cases hlt : k < m
          · obtain ⟨br, rfl, hrow⟩ := H4.out (by omega)
            obtain ⟨Ac, cc, x, A, d, e, y, A', d', e', g0, g1, g2, g3, g4, g5, r1, r2, r3⟩ := (hrow k hlt).ext (hE0.trans hx)
            have HRK := HR.out k
            obtain ⟨l, hl⟩ : ∃ l, l = p.len k := ⟨_, rfl⟩
            obtain ⟨rel, hrel⟩ : ∃ r, r = p.rel k := ⟨_, rfl⟩
            rw [← hl] at g0 HRK
            rw [← hrel] at g1 HRK r2
            have c0 := hx.cell c0
            have HRK := Lib.hid HRK
            clear hl hrel hrow r1 r3
            go_upto_region 6 with fail
            have BB := Box.new wr 75 #[.slice Ac l cc, .int .u8 (rel : Int), .bool x, .slice A d e, .bool y, .slice A' d' e']
            have hEx : Ext wr (wr.alloc (.cells #[.slice Ac l cc, .int .u8 (rel : Int), .bool x, .slice A d e, .bool y, .slice A' d' e'] 75)) := (Ext.refl wr).alloc _
            generalize (wr.alloc (.cells #[.slice Ac l cc, .int .u8 (rel : Int), .bool x, .slice A d e, .bool y, .slice A' d' e'] 75)) = U at *
            have c0 := hEx.cell c0
            have d0 := BB.c0
            have d1 := BB.c1
            have hX := hx.trans hEx
            clear g0 g1 g2 g3 g4 g5
            by_cases hln : l = n
            · have e1 : ((l : Int) != (n : Int)) = false := by simp [hln]
              have HLN := Lib.hid hln
              clear hln
              by_cases hr1 : rel < 1
              · have e2 : decide ((rel : Int) < 1) = true := by simp; omega
                have HF2 : Hid (F = false) := Lib.hid (by rw [HE.out]; exact rowsOK_no (by rw [HRK.out, decide_eq_false (show ¬ 1 ≤ rel by omega)]; simp) hlt)
                clear hr1
                go_wp2_with fail
                go_ret
                exact ⟨by rw [HF2.out]; rfl, hE0.trans hX⟩
              · have e2 : decide ((rel : Int) < 1) = false := by simp; omega
                by_cases hr3 : 3 < rel
                · have e3 : decide ((3 : Int) < (rel : Int)) = true := by simp; omega
                  have HF2 : Hid (F = false) := Lib.hid (by rw [HE.out]; exact rowsOK_no (by rw [HRK.out, decide_eq_false (show ¬ rel ≤ 3 by omega)]; simp) hlt)
                  clear hr1 hr3
                  go_wp2_with fail
                  go_ret
                  exact ⟨by rw [HF2.out]; rfl, hE0.trans hX⟩
                · have e3 : decide ((3 : Int) < (rel : Int)) = false := by simp; omega
                  have HK2 : Hid (rowsOK p (k + 1) = true) := Lib.hid (by show (rowsOK p k && rowOK p k) = true; rw [HK.out, HRK.out, HLN.out, decide_eq_true (show 1 ≤ rel by omega), decide_eq_true (show rel ≤ 3 by omega)]; simp)
                  clear hr1 hr3
                  go_wp2_with fail
                  go_roundw
                  case rel => exact ⟨k + 1, by omega, by go_num, HK2, hX⟩
                  case measure => simp [intOf]; omega
            · have e1 : ((l : Int) != (n : Int)) = true := by simp; omega
              have HF2 : Hid (F = false) := Lib.hid (by rw [HE.out]; exact rowsOK_no (by rw [HRK.out, show (l == n) = false by simpa using hln]; rfl) hlt)
              clear hln
              go_wp2_with fail
              go_ret
              exact ⟨by rw [HF2.out]; rfl, hE0.trans hX⟩
          · obtain rfl : k = m := by omega
            have HF2 : Hid (F = true) := Lib.hid (by rw [HE.out, HK.out])
            go_wp2_with fail
            go_ret
            exact ⟨by rw [HF2.out]; rfl, hE0.trans hx⟩
end Go.Proofs.YtljncdcjkdgkeaaGreatDoor.Lp

namespace Go.Proofs.YtljncdcjkdgkeaaGreatDoor.Lp
open Go.RowKit Go.Proofs.YtljncdcjkdgkeaaGreatDoor.Big Go.Proofs.YtljncdcjkdgkeaaGreatDoor.Rt

theorem At.fr {P : Nat → Prop} {w w' : World} {cs : Array Value} {i : Nat} {q : Rat} (h : At w cs i q) (k : Fr P w w') : At w' cs i q := by
  obtain ⟨p, A, m, c, p', A', m', c', e0, e1, e2, e3, hr⟩ := h
  exact ⟨p, A, m, c, p', A', m', c', e0, e1, e2, e3, k.rat hr⟩
/-- a value that is no digit -/
def noU : Value → Bool | .int .u32 _ => false | _ => true
/-- the block of an own row: the same, or a new one -/
def Fresh (w : World) (v v' : Value) : Prop := v'.ownBlock = v.ownBlock ∨ ∃ g, v'.ownBlock = some g ∧ w.heap.size ≤ g
/-- a row of the call's own that is appended to: n elements of k cells, which hold xs; no digits lie in it -/
def OwnX (w : World) (base : Nat) (E : TypeId) (k : Nat) (v : Value) (n : Nat) (xs : List Value) : Prop :=
  xs.length = n * k ∧ ((v = .slice none 0 0 ∧ n = 0) ∨ ∃ g cap cur, v = .slice (some ⟨g, 0, none⟩) n cap ∧ base ≤ g ∧ w.heap[g]? = some (.cells cur E (0, 0)) ∧ n ≤ cap ∧ cap ≤ maxLen ∧ cur.size = cap * k ∧ cur.toList.take (n * k) = xs ∧ ∀ u ∈ cur.toList, noU u = true)
section
variable {w w' : World} {base n k : Nat} {E : TypeId} {v : Value} {xs : List Value}
theorem OwnX.nil (w : World) (base : Nat) (E : TypeId) (k : Nat) : OwnX w base E k (.slice none 0 0) 0 [] := ⟨by simp, .inl ⟨rfl, rfl⟩⟩
theorem OwnX.fr {P : Nat → Prop} (h : OwnX w base E k v n xs) (f : Fr P w w') (hp : ∀ g, v.ownBlock = some g → ¬ P g) : OwnX w' base E k v n xs := by
  obtain ⟨h1, h2⟩ := h
  refine ⟨h1, ?_⟩
  rcases h2 with h2 | ⟨g, cap, cur, rfl, hg, h5, h6⟩
  · exact .inl h2
  · exact .inr ⟨g, cap, cur, rfl, hg, f.row (hp g rfl) h5, h6⟩
theorem OwnX.ext (h : OwnX w base E k v n xs) (x : Ext w w') : OwnX w' base E k v n xs := h.fr (P := fun _ => False) (Fr.of x) (fun _ _ => id)
theorem OwnX.lt (h : OwnX w base E k v n xs) {g : Nat} (hg : v.ownBlock = some g) : base ≤ g ∧ g < w.heap.size ∧ ∃ cur, w.heap[g]? = some (.cells cur E (0, 0)) := by
  rcases h.2 with ⟨rfl, _⟩ | ⟨g', cap, cur, rfl, hb, h5, _⟩
  · cases hg
  · obtain rfl : g' = g := Option.some.inj hg
    refine ⟨hb, ?_, cur, h5⟩
    rcases Nat.lt_or_ge g' w.heap.size with hlt | hge
    · exact hlt
    · rw [Array.getElem?_eq_none hge] at h5; cases h5
theorem OwnX.shape (h : OwnX w base E k v n xs) : ∃ A c, v = .slice A n c := by
  rcases h.2 with ⟨rfl, rfl⟩ | ⟨g, cap, cur, rfl, _⟩
  · exact ⟨none, 0, rfl⟩
  · exact ⟨_, cap, rfl⟩
/-- the cells of a row that is not empty -/
theorem OwnX.cells (h : OwnX w base E k v n xs) (hn : 0 < n) : ∃ g cap, v = .slice (some ⟨g, 0, none⟩) n cap ∧ v.ownBlock = some g ∧ base ≤ g ∧ n ≤ cap ∧ cap ≤ 9223372036854775807 ∧ (∃ cur, w.heap[g]? = some (.cells cur E (0, 0)) ∧ n * k ≤ cur.size) ∧ (∀ i, w.frozen? ⟨g, i, none⟩ = false) ∧ ∀ j u, xs[j]? = some u → w.cell? ⟨g, j, none⟩ = some u := by
  rcases h.2 with ⟨_, h0⟩ | ⟨g, cap, cur, rfl, hb, h5, h6, h7, h8, h9, _⟩
  · omega
  · refine ⟨g, cap, rfl, rfl, hb, h6, by unfold maxLen at h7; exact h7, ⟨cur, h5, by rw [h8]; exact Nat.mul_le_mul_right _ h6⟩, fun i => by simp [World.frozen?, h5], fun j u hj => ?_⟩
    rw [cell_of_row w g j cur _ (0, 0) h5, ← Array.getElem?_toList]
    rw [← h9, List.getElem?_take] at hj
    split at hj
    · exact hj
    · cases hj
end
theorem zeroCells_noU {z : Array Value} (hz : ∀ u ∈ z.toList, noU u = true) (n : Nat) : ∀ u ∈ (Builtin.zeroCells z n).toList, noU u = true := by
  intro u hu
  obtain ⟨i, hi⟩ := List.getElem?_of_mem hu
  have hi2 : (Builtin.zeroCells z n)[i]? = some u := by rw [← Array.getElem?_toList]; exact hi
  have hlt : i < (Builtin.zeroCells z n).size := (Array.getElem?_eq_some_iff.1 hi2).1
  rw [size_zeroCells] at hlt
  have hz0 : 0 < z.size := by
    rcases Nat.eq_zero_or_pos z.size with h | h
    · rw [h] at hlt; omega
    · exact h
  have hm : i % z.size < z.size := Nat.mod_lt _ hz0
  have e : u = z[i % z.size] := by
    unfold Builtin.zeroCells at hi2
    rw [Array.getElem?_map, Array.getElem?_range, if_pos hlt] at hi2
    simp only [Option.map_some, Option.some.injEq] at hi2
    rw [← hi2, getElem!_pos z _ hm]
  rw [e]
  exact hz _ (Array.mem_toList_iff.2 (Array.getElem_mem hm))
theorem wp_pushX {w : World} {o : Oper} {a : Act} {K : Act → World → Prop} {Q : Exit → Act → World → Prop}
    (s x : Operand) (t : TypeId) (hop : o.op = Op.call { callee := Callee.builtin Builtin.append, args := #[s, x], argTypes := #[t, t] })
    (base : Nat) (e : TypeId) (i : TypeInfo) (z : Value) (k bytes : Nat) (h1 : Tryz.prog.underlying t = some (.slice e)) (h2 : Tryz.prog.info? e = some i) (h3 : i.zero = some z) (h4 : i.size = k) (h5 : i.bytes = bytes) (h6 : z.cells.size = k) (hz : ∀ u ∈ z.cells.toList, noU u = true)
    (v : Value) (n : Nat) (xs : List Value) (hs : a.eval s = v) (hown : OwnX w base e k v n xs) (ba : Nat) (news : List Value) (c : Nat) (hx : a.eval x = .slice (some ⟨ba, 0, none⟩) 1 c) (hnl : news.length = k) (hnw : ∀ j y, news[j]? = some y → w.cell? ⟨ba, j, none⟩ = some y) (h1c : ∀ y ∈ news, y.oneCell' = true) (hnu : ∀ y ∈ news, noU y = true)
    (b1 : n + 1 ≤ 1099511627776) (b2 : bytes ≤ 128) (hbase : base ≤ w.heap.size)
    (hK : ∀ v' w', OwnX w' base e k v' (n + 1) (xs ++ news) → Fr (fun g => v.ownBlock = some g) w w' → Fresh w v v' → K (a.put o.dst v') w') :
    Oper.wp Tryz.prog o a w K Q := by
  subst h4 h5
  have hnews : ∀ j y, news[j]? = some y → w.cell? ((⟨ba, 0, none⟩ : Addr).add j) = some y := fun j y hj => by rw [Lib.add_plain, Nat.zero_add]; exact hnw j y hj
  have hbyt : (n + 1) * i.bytes ≤ 140737488355328 := Nat.le_trans (Nat.mul_le_mul b1 b2) (by decide)
  have hml : n + 1 ≤ maxLen := by unfold maxLen; omega
  have hlen : (xs ++ news).length = (n + 1) * i.size := by rw [List.length_append, hown.1, hnl, Nat.add_mul, Nat.one_mul]
  have hl1 : news.length = 1 * i.size := by rw [hnl, Nat.one_mul]
  -- where a new block comes
  have grown : ∀ old, (∀ u ∈ xs, noU u = true) → OwnX (w.drew.alloc (.cells (xs.toArray ++ news.toArray ++ Builtin.zeroCells z.cells (grownCap w (n + 1) old e - (n + 1))) e)) base e i.size (.slice (some ⟨w.heap.size, 0, none⟩) (n + 1) (grownCap w (n + 1) old e)) (n + 1) (xs ++ news) := by
    intro old hxu
    have hge := grownCap_ge w (n + 1) old e
    have hcm : grownCap w (n + 1) old e ≤ maxLen := grownCap_le_maxLen w (n + 1) old e hml
    refine ⟨hlen, .inr ⟨w.heap.size, _, _, rfl, hbase, heap_alloc_new w.drew _, hge, hcm, ?_, ?_, ?_⟩⟩
    · simp only [Array.size_append, List.size_toArray, size_zeroCells, h6, hown.1, hnl]
      obtain ⟨d, hd⟩ : ∃ d, grownCap w (n + 1) old e = n + 1 + d := ⟨grownCap w (n + 1) old e - (n + 1), by omega⟩
      rw [hd, show n + 1 + d - (n + 1) = d by omega, Nat.add_mul, Nat.add_mul, Nat.one_mul]
    · simp only [Array.toList_append, List.append_assoc]
      rw [← List.append_assoc, ← hlen]
      exact List.take_left
    · intro u hu
      simp only [Array.toList_append, List.mem_append] at hu
      rcases hu with (hu | hu) | hu
      · exact hxu u hu
      · exact hnu u hu
      · exact zeroCells_noU hz _ u hu
  have frN : ∀ (obj : Obj) (P : Nat → Prop), Fr P w (w.drew.alloc obj) := fun obj P => ((Fr.refl P w).drew).alloc obj
  have fin : ∀ (v' : Value) (w' : World), (Builtin.append_ #[t, t] o.type #[v, .slice (some ⟨ba, 0, none⟩) 1 c]).run Tryz.prog w = .ok v' w' → K (a.put o.dst v') w' → Oper.wp Tryz.prog o a w K Q := by
    intro v' w' hrun hr
    unfold Oper.wp
    simp [execOp, hop, resolve, invoke, builtin, hs, hx, hrun, Result.andThen]
    exact hr
  rcases hown.2 with ⟨rfl, rfl⟩ | ⟨g, cap, cur, rfl, hb, g5, g6, g7, g8, g9, g10⟩
  · have hx0 : xs = [] := List.eq_nil_of_length_eq_zero (by simpa using hown.1)
    subst hx0
    have hr := run_append_nil (P := Tryz.prog) w t o.type e i z h1 h2 h3 ⟨ba, 0, none⟩ 1 c news hl1 hnews (by decide) (by decide) (by omega)
    have hgr := grown 0 (fun u hu => by cases hu)
    simp only [Nat.zero_add, List.nil_append, Array.empty_append] at hgr hr hK
    refine fin _ _ hr (hK _ _ hgr (frN _ _) (.inr ⟨_, rfl, Nat.le_refl _⟩))
  · by_cases hcap : n + 1 ≤ cap
    · have hnk : n * i.size + i.size ≤ cap * i.size := by rw [← Nat.succ_mul]; exact Nat.mul_le_mul_right _ hcap
      have hr := run_append_room (P := Tryz.prog) w t o.type e i h1 h2 g n cap cur g5 ⟨ba, 0, none⟩ 1 c news hl1 hnews h1c hcap (by rw [hnl, g8]; exact hnk)
      have hcn : (cur.toList.take (n * i.size)).length = n * i.size := by rw [List.length_take, Array.length_toList, g8]; omega
      have hmem : ∀ u ∈ cur.toList.take (n * i.size) ++ news ++ cur.toList.drop (n * i.size + news.length), noU u = true := by
        intro u hu
        simp only [List.mem_append] at hu
        rcases hu with (hu | hu) | hu
        · exact g10 u (List.mem_of_mem_take hu)
        · exact hnu u hu
        · exact g10 u (List.mem_of_mem_drop hu)
      refine fin _ _ hr (hK _ _ ⟨hlen, .inr ⟨g, cap, _, rfl, hb, setRow_heap w g cur _ e _ g5, hcap, g7, ?_, ?_, by simpa using hmem⟩⟩ ?_ (.inl rfl))
      · simp only [List.size_toArray, List.length_append, hcn, List.length_drop, Array.length_toList, hnl, g8]; omega
      · rw [g9, ← hlen]; exact List.take_left
      · refine ⟨rfl, rfl, rfl, by simp [World.setRow], fun k _ hne => setRow_other w g k _ (fun e' => hne (by rw [e']; rfl)), fun b' j zz hzz => ?_⟩
        by_cases e' : b' = g
        · subst e'
          rw [cell_of_row w b' j cur _ (0, 0) g5] at hzz
          have := g10 _ (Array.mem_toList_iff.2 (Array.mem_of_getElem? hzz))
          cases this
        · rw [World.cell?_of_block (w := w) (w' := w.setRow g _) (a := ⟨b', j, none⟩) (setRow_other w g b' _ e')]; exact hzz
    · have holds : ∀ j u, xs[j]? = some u → w.cell? ((⟨g, 0, none⟩ : Addr).add j) = some u := fun j u hj => by
        rw [Lib.add_plain, Nat.zero_add, cell_of_row w g j cur _ (0, 0) g5, ← Array.getElem?_toList]
        rw [← g9, List.getElem?_take] at hj
        split at hj
        · exact hj
        · cases hj
      have hlt : cap < n + 1 := Nat.lt_of_not_le hcap
      have hr := run_append_grow (P := Tryz.prog) w t o.type e i z h1 h2 h3 ⟨g, 0, none⟩ n cap xs hown.1 holds ⟨ba, 0, none⟩ 1 c news hl1 hnews hlt (by omega) (growslice_fits hlt hbyt)
      refine fin _ _ hr (hK _ _ (grown cap (fun u hu => g10 u (by rw [← g9] at hu; exact List.mem_of_mem_take hu))) (frN _ _) (.inr ⟨_, rfl, Nat.le_refl _⟩))
theorem wpList_pushX {w : World} {ops : Array Oper} {rest : List Oper} {o : Oper} {a : Act} {Q : Exit → Act → World → Prop}
    (hg : o.guard = none) (s x : Operand) (t : TypeId) (hop : o.op = Op.call { callee := Callee.builtin Builtin.append, args := #[s, x], argTypes := #[t, t] })
    (base : Nat) (e : TypeId) (i : TypeInfo) (z : Value) (k bytes : Nat) (h1 : Tryz.prog.underlying t = some (.slice e)) (h2 : Tryz.prog.info? e = some i) (h3 : i.zero = some z) (h4 : i.size = k) (h5 : i.bytes = bytes) (h6 : z.cells.size = k) (hz : ∀ u ∈ z.cells.toList, noU u = true)
    (v : Value) (n : Nat) (xs : List Value) (hs : a.eval s = v) (hown : OwnX w base e k v n xs) (ba : Nat) (news : List Value) (c : Nat) (hx : a.eval x = .slice (some ⟨ba, 0, none⟩) 1 c) (hnl : news.length = k) (hnw : ∀ j y, news[j]? = some y → w.cell? ⟨ba, j, none⟩ = some y) (h1c : ∀ y ∈ news, y.oneCell' = true) (hnu : ∀ y ∈ news, noU y = true)
    (b1 : n + 1 ≤ 1099511627776) (b2 : bytes ≤ 128) (hbase : base ≤ w.heap.size)
    (hK : ∀ v' w', OwnX w' base e k v' (n + 1) (xs ++ news) → Fr (fun g => v.ownBlock = some g) w w' → Fresh w v v' → wpList Tryz.prog ops Q rest (a.put o.dst v') w') :
    wpList Tryz.prog ops Q (o :: rest) a w :=
  wpList_plain hg fun _ hK' => wp_pushX s x t hop base e i z k bytes h1 h2 h3 h4 h5 h6 hz v n xs hs hown ba news c hx hnl hnw h1c hnu b1 b2 hbase (fun v' w' h1 h2 h3 => hK' _ _ (hK v' w' h1 h2 h3))
/-- the same at a step of a region that draws -/
theorem step_pushX {w : World} {ops : Array Oper} {o : Oper} {a : Act} {K : Act → World → Prop} {Q : Exit → Act → World → Prop} {Z : Prop}
    (hg : o.guard = none) (s x : Operand) (t : TypeId) (hop : o.op = Op.call { callee := Callee.builtin Builtin.append, args := #[s, x], argTypes := #[t, t] })
    (base : Nat) (e : TypeId) (i : TypeInfo) (z : Value) (k bytes : Nat) (h1 : Tryz.prog.underlying t = some (.slice e)) (h2 : Tryz.prog.info? e = some i) (h3 : i.zero = some z) (h4 : i.size = k) (h5 : i.bytes = bytes) (h6 : z.cells.size = k) (hz : ∀ u ∈ z.cells.toList, noU u = true)
    (v : Value) (n : Nat) (xs : List Value) (hs : a.eval s = v) (hown : OwnX w base e k v n xs) (ba : Nat) (news : List Value) (c : Nat) (hx : a.eval x = .slice (some ⟨ba, 0, none⟩) 1 c) (hnl : news.length = k) (hnw : ∀ j y, news[j]? = some y → w.cell? ⟨ba, j, none⟩ = some y) (h1c : ∀ y ∈ news, y.oneCell' = true) (hnu : ∀ y ∈ news, noU y = true)
    (b1 : n + 1 ≤ 1099511627776) (b2 : bytes ≤ 128) (hbase : base ≤ w.heap.size)
    (hK : ∀ v' w', OwnX w' base e k v' (n + 1) (xs ++ news) → Fr (fun g => v.ownBlock = some g) w w' → Fresh w v v' → K (a.put o.dst v') w') :
    if Region.wanted o (yielded ops a.tmps) = true then Oper.wp Tryz.prog o a w K Q else Z := by
  have hw : Region.wanted o (yielded ops a.tmps) = true := by simp [Region.wanted, hg]
  rw [if_pos hw]
  exact wp_pushX s x t hop base e i z k bytes h1 h2 h3 h4 h5 h6 hz v n xs hs hown ba news c hx hnl hnw h1c hnu b1 b2 hbase hK
end Go.Proofs.YtljncdcjkdgkeaaGreatDoor.Lp

namespace Go.Proofs.YtljncdcjkdgkeaaGreatDoor.Lp
open Go.RowKit Go.Proofs.YtljncdcjkdgkeaaGreatDoor.Big Go.Proofs.YtljncdcjkdgkeaaGreatDoor.Rt

def in32 (n : Int) : Prop := -2147483648 ≤ n ∧ n ≤ 2147483647
end Go.Proofs.YtljncdcjkdgkeaaGreatDoor.Lp

namespace Go.Proofs.YtljncdcjkdgkeaaGreatDoor.Lp
open Go.RowKit Go.Proofs.YtljncdcjkdgkeaaGreatDoor.Big Go.Proofs.YtljncdcjkdgkeaaGreatDoor.Rt

/-- n elements of one cell lie from A on -/
def Row (w : World) (v : Value) (vs : List Value) : Prop :=
  ∃ A c, v = .slice A vs.length c ∧ vs.length ≤ c ∧ c ≤ 9223372036854775807 ∧ (0 < vs.length → ∃ b off, A = some ⟨b, off, none⟩ ∧ ∀ j u, vs[j]? = some u → w.cell? ⟨b, off + j, none⟩ = some u)
theorem Row.ext {w w' : World} {v : Value} {vs : List Value} (h : Row w v vs) (k : Ext w w') : Row w' v vs := by
  obtain ⟨A, c, rfl, h1, h2, h3⟩ := h
  refine ⟨A, c, rfl, h1, h2, fun hn => ?_⟩
  obtain ⟨b, off, rfl, hc⟩ := h3 hn
  exact ⟨b, off, rfl, fun j u hj => k.cell (hc j u hj)⟩
theorem Row.nil (w : World) (A : Option Addr) (c : Nat) (hc : c ≤ 9223372036854775807) : Row w (.slice A 0 c) [] := ⟨A, c, rfl, by simp, hc, fun h => absurd h (by simp)⟩
theorem Row.inj {w : World} {A : Option Addr} {n c : Nat} {vs : List Value} (h : Row w (.slice A n c) vs) : n = vs.length ∧ vs.length ≤ c ∧ c ≤ 9223372036854775807 ∧ (0 < vs.length → ∃ b off, A = some ⟨b, off, none⟩ ∧ ∀ j u, vs[j]? = some u → w.cell? ⟨b, off + j, none⟩ = some u) := by
  obtain ⟨A', c', e, h1⟩ := h
  injection e with a b c
  subst a b c
  exact ⟨rfl, h1⟩
def wV (xs : List Int) : List Value := xs.map (Value.int .i32)
theorem wV_get {xs : List Int} {j : Nat} {x : Int} (h : xs[j]? = some x) : (wV xs)[j]? = some (.int .i32 x) := by simp [wV, h]
theorem wV_len (xs : List Int) : (wV xs).length = xs.length := by simp [wV]

/-- an own row of rational numbers, appended to -/
def OwnQ (w : World) (base : Nat) (v : Value) (n : Nat) (f : Nat → Rat) : Prop := ∃ xs, OwnX w base 58 4 v n xs ∧ ∀ j, j < n → At w xs.toArray (j * 4) (f j)
/-- a list whose block is not older than base -/
def RatsO (w : World) (base : Nat) (A : Option Addr) (n c : Nat) (f : Nat → Rat) : Prop := n ≤ c ∧ c ≤ 9223372036854775807 ∧ (0 < n → ∃ b, A = some ⟨b, 0, none⟩ ∧ RowR w b n f ∧ base ≤ b)
theorem RatsO.rats {w : World} {base : Nat} {A : Option Addr} {n c : Nat} {f : Nat → Rat} (h : RatsO w base A n c f) : RatsV w A n c f :=
  ⟨h.1, h.2.1, fun hn => by obtain ⟨b, e, hr, _⟩ := h.2.2 hn; exact ⟨b, e, hr⟩⟩
theorem RatsO.ext {w w' : World} {base : Nat} {A : Option Addr} {n c : Nat} {f : Nat → Rat} (h : RatsO w base A n c f) (k : Ext w w') : RatsO w' base A n c f :=
  ⟨h.1, h.2.1, fun hn => by obtain ⟨b, e, hr, hb⟩ := h.2.2 hn; exact ⟨b, e, hr.ext k, hb⟩⟩
section
variable {w w' : World} {base n : Nat} {v : Value} {f : Nat → Rat}
theorem OwnQ.nil (w : World) (base : Nat) (f : Nat → Rat) : OwnQ w base (.slice none 0 0) 0 f := ⟨[], OwnX.nil _ _ _ _, fun j hj => absurd hj (by omega)⟩
theorem OwnQ.ext (h : OwnQ w base v n f) (x : Ext w w') : OwnQ w' base v n f := by
  obtain ⟨xs, h1, h2⟩ := h
  exact ⟨xs, h1.ext x, fun j hj => (h2 j hj).fr (P := fun _ => False) (Fr.of x)⟩
theorem OwnQ.rats {A : Option Addr} {c : Nat} (h : OwnQ w base (.slice A n c) n f) : RatsO w base A n c f := by
  obtain ⟨xs, h1, h2⟩ := h
  rcases Nat.eq_zero_or_pos n with hn | hn
  · subst hn
    refine ⟨by omega, ?_, fun h => absurd h (by omega)⟩
    rcases h1.2 with ⟨e, _⟩ | ⟨g, cap, cur, e, _, _, _, h6, _⟩
    · injection e with _ _ e; omega
    · injection e with _ _ e
      unfold maxLen at h6; omega
  · obtain ⟨g, cap, e, _, hb, h3, h4, ⟨cur, h5, h6⟩, _, h8⟩ := h1.cells hn
    injection e with e1 e2 e3
    subst e1 e3
    refine ⟨h3, h4, fun _ => ⟨g, rfl, ⟨cur, h5, h6, fun j hj => ?_⟩, hb⟩⟩
    obtain ⟨p, A, m, c, p', A', m', c', e0, e1, e2, e3, hr⟩ := h2 j hj
    have key : ∀ i u, xs.toArray[i]? = some u → cur[i]? = some u := fun i u hu => by
      rw [List.getElem?_toArray] at hu
      have := h8 i u hu
      rwa [cell_of_row w g i cur _ (0, 0) h5] at this
    exact ⟨p, A, m, c, p', A', m', c', key _ _ e0, key _ _ e1, key _ _ e2, key _ _ e3, hr⟩
theorem At.push {P : Nat → Prop} {xs : List Value} {p p' : Bool} {A A' : Option Addr} {m c m' c' : Nat} (hl : xs.length = n * 4) (h : ∀ j, j < n → At w xs.toArray (j * 4) (f j)) (k : Fr P w w') (hq : RatV w (.agg #[.bool p, .slice A m c, .bool p', .slice A' m' c']) (f n)) :
    ∀ j, j < n + 1 → At w' (xs ++ [Value.bool p, .slice A m c, .bool p', .slice A' m' c']).toArray (j * 4) (f j) := by
  intro j hj
  by_cases e : j = n
  · subst e
    have key : ∀ i, (xs ++ [Value.bool p, .slice A m c, .bool p', .slice A' m' c']).toArray[j * 4 + i]? = [Value.bool p, .slice A m c, .bool p', .slice A' m' c'][i]? := fun i => by
      rw [List.getElem?_toArray, List.getElem?_append_right (by omega), hl]
      congr 1; omega
    exact ⟨p, A, m, c, p', A', m', c', key 0, key 1, key 2, key 3, k.rat hq⟩
  · obtain ⟨p1, A1, m1, c1, p1', A1', m1', c1', e0, e1, e2, e3, hr⟩ := h j (by omega)
    have key : ∀ i, i < 4 → (xs ++ [Value.bool p, .slice A m c, .bool p', .slice A' m' c']).toArray[j * 4 + i]? = xs.toArray[j * 4 + i]? := fun i hi => by
      rw [List.getElem?_toArray, List.getElem?_append_left (by omega), List.getElem?_toArray]
    exact ⟨p1, A1, m1, c1, p1', A1', m1', c1', by rw [← e0]; exact key 0 (by omega), by rw [← e1]; exact key 1 (by omega), by rw [← e2]; exact key 2 (by omega), by rw [← e3]; exact key 3 (by omega), k.rat hr⟩
end
theorem new4 (w : World) (E : TypeId) (a b c d : Value) : ∀ j y, [a, b, c, d][j]? = some y → (w.alloc (.cells #[a, b, c, d] E)).cell? ⟨w.heap.size, j, none⟩ = some y := by
  intro j y hj
  rw [(Box.new w E #[a, b, c, d]).cell j, ← hj]
  exact List.getElem?_toArray
theorem zR : ∀ u ∈ (Value.agg #[Value.bool false, .slice none 0 0, .bool false, .slice none 0 0]).cells.toList, noU u = true := fun u hu => by
  have : u = .bool false ∨ u = .slice none 0 0 := by
    simp [Value.cells] at hu
    rcases hu with h | h | h | h <;> simp [h]
  rcases this with rfl | rfl <;> rfl
theorem one4 {p p' : Bool} {A A' : Option Addr} {m c m' c' : Nat} : ∀ y ∈ [Value.bool p, .slice A m c, .bool p', .slice A' m' c'], y.oneCell' = true := fun y hy => by
  simp at hy
  rcases hy with rfl | rfl | rfl | rfl <;> rfl
theorem nou4 {p p' : Bool} {A A' : Option Addr} {m c m' c' : Nat} : ∀ y ∈ [Value.bool p, .slice A m c, .bool p', .slice A' m' c'], noU y = true := fun y hy => by
  simp at hy
  rcases hy with rfl | rfl | rfl | rfl <;> rfl
end Go.Proofs.YtljncdcjkdgkeaaGreatDoor.Lp

namespace Go.Proofs.YtljncdcjkdgkeaaGreatDoor.Lp
open Go.RowKit Go.Proofs.YtljncdcjkdgkeaaGreatDoor.Big Go.Proofs.YtljncdcjkdgkeaaGreatDoor.Rt

theorem row_ne {w : World} {b b' : Nat} {cs cs' : Array Value} {E E' : TypeId} {f f' : Nat × Nat} (h : w.heap[b]? = some (.cells cs E f)) (h' : w.heap[b']? = some (.cells cs' E' f')) (hE : E ≠ E') : b ≠ b' := fun e => by
  rw [e, h'] at h; injection h with h; injection h with _ h2; exact hE h2.symm
section
variable {p : Prob} {w wr w' : World} {pb tb W art a b c d : Nat} {pcs : Array Value} {vr vb vu vf : Value} {rw : Nat → Nat} {P : Nat → Prop}
theorem RowR.cells {w : World} {b n : Nat} {f : Nat → Rat} (h : RowR w b n f) : ∃ cs, w.heap[b]? = some (.cells cs 58 (0, 0)) := by
  obtain ⟨cs, h1, _⟩ := h; exact ⟨cs, h1⟩
end
/-- the block of one cell that an element is laid in -/
theorem new1 (w : World) (E : TypeId) (v : Value) : ∀ j y, [v][j]? = some y → (w.alloc (.cells #[v] E)).cell? ⟨w.heap.size, j, none⟩ = some y := by
  intro j y hj
  cases j with
  | zero => simp at hj; subst hj; exact (Box.new w E #[v]).c0
  | succ j => simp at hj
theorem one1 {v : Value} (h : v.oneCell' = true) : ∀ y ∈ [v], y.oneCell' = true := fun y hy => by rw [List.mem_singleton.1 hy]; exact h
theorem nou1 {v : Value} (h : noU v = true) : ∀ y ∈ [v], noU y = true := fun y hy => by rw [List.mem_singleton.1 hy]; exact h
theorem zI : ∀ u ∈ (Value.int .i64 0).cells.toList, noU u = true := fun u hu => by
  have : u = .int .i64 0 := by simpa [Value.cells] using hu
  rw [this]; rfl
theorem boxR {w w' : World} {rb base k n : Nat} {E E' : TypeId} {cs : Array Value} {v : Value} {xs : List Value} (B : Box w rb E cs) (o : OwnX w base E' k v n xs) (f : Fr (fun g => v.ownBlock = some g) w w') (hE : E' ≠ E) : Box w' rb E cs :=
  f.box B (fun e => by obtain ⟨-, -, cur, hc⟩ := o.lt e; exact row_ne hc B hE rfl)
end Go.Proofs.YtljncdcjkdgkeaaGreatDoor.Lp

namespace Go.Proofs.YtljncdcjkdgkeaaGreatDoor.Lp
open Go.RowKit Go.Proofs.YtljncdcjkdgkeaaGreatDoor.Big Go.Proofs.YtljncdcjkdgkeaaGreatDoor.Rt

theorem new6 (w : World) (E : TypeId) (a b c d e f : Value) : ∀ j y, [a, b, c, d, e, f][j]? = some y → (w.alloc (.cells #[a, b, c, d, e, f] E)).cell? ⟨w.heap.size, j, none⟩ = some y := by
  intro j y hj
  rw [(Box.new w E #[a, b, c, d, e, f]).cell j, ← hj]
  exact List.getElem?_toArray
end Go.Proofs.YtljncdcjkdgkeaaGreatDoor.Lp
namespace Go.Proofs.YtljncdcjkdgkeaaGreatDoor.Rt
open Go.RowKit Go.Proofs.YtljncdcjkdgkeaaGreatDoor.Big
open Go.Lib (itoa)

theorem cmpZ_zero {x y : Int} : cmpZ x y = 0 ↔ x = y := by
  unfold cmpZ
  split
  · exact ⟨fun h => by omega, fun h => by omega⟩
  · split
    · exact ⟨fun h => by omega, fun h => by omega⟩
    · exact ⟨fun h => by omega, fun h => by omega⟩
theorem cat_slash (a b : List UInt8) : ((⟨a.toArray⟩ : ByteArray) ++ ⟨#[47]⟩) ++ ⟨b.toArray⟩ = ⟨(a ++ 47 :: b).toArray⟩ := by
  apply ByteArray.ext
  simp

theorem pw_ten (k : Nat) : pw k ≤ 10 ^ (10 * k) := by
  unfold pw
  rw [Nat.pow_mul]
  exact Nat.pow_le_pow_left (by decide) k
theorem dec_len {u k : Nat} (hk : 0 < k) (h : u < pw k) : (Lib.decDigits u).length ≤ 10 * k := by
  rw [Lib.decDigits_length]
  exact nDigits_le (by omega) (Nat.lt_of_lt_of_le h (pw_ten k))
theorem itoa_len {z : Int} {k : Nat} (hk : 0 < k) (b : B k z) : (itoa z).length ≤ 10 * k + 1 := by
  unfold B at b
  rcases Int.lt_or_le z 0 with h | h
  · obtain ⟨u, rfl⟩ : ∃ u : Nat, z = -(u : Int) := ⟨z.natAbs, by omega⟩
    rw [Lib.itoa_neg u (by omega), List.length_cons]
    have := dec_len (u := u) hk (by omega)
    omega
  · obtain ⟨u, rfl⟩ : ∃ u : Nat, z = (u : Int) := ⟨z.natAbs, by omega⟩
    rw [Lib.itoa_nonneg u]
    have := dec_len (u := u) hk (by omega)
    omega
theorem itoa_size {z : Int} {k : Nat} (hk : 0 < k) (b : B k z) : (⟨(itoa z).toArray⟩ : ByteArray).size ≤ 10 * k + 1 := by
  have := itoa_len hk b
  simpa [ByteArray.size] using this

set_option maxRecDepth 100000 in
set_option maxHeartbeats 8000000 in
theorem RatText_b (x : Value) (q : Rat) (k : Nat) (w : World) (hx : RatB w x q k) (hL : k ≤ 549755813888) (htab : TabOK w) : Calls Tryz.prog 37 #[x] w (StrPost w (ratText q)) := by
  obtain ⟨p1, A1, n1, c1, p1', A1', n1', c1', rfl⟩ := hx.1.shape
  obtain ⟨D, hD⟩ : ∃ D : Int, D = (q.den : Int) := ⟨_, rfl⟩
  obtain ⟨V, hV⟩ : ∃ V, V = ratText q := ⟨_, rfl⟩
  rw [← hV]
  have HV := Lib.hid hV
  have HD := Lib.hid hD
  clear hV hD
  have hE0 : Ext w (w.alloc (.cells #[.bool p1, .slice A1 n1 c1, .bool p1', .slice A1' n1' c1'] 58)) := (Ext.refl w).alloc _
  have B0 := Box.new w 58 #[.bool p1, .slice A1 n1 c1, .bool p1', .slice A1' n1' c1']
  have hX := hx.ext hE0
  have hXn := hX.numB
  have hQ := hX.2
  have hTab := htab.ext hE0
  go_enter Tryz.func37, Tryz.ntmps37
  go_wp2_with fail
  clear hx htab
  refine (RatDen_b _ _ _ _ hX).mono ?_
  rintro e w1 ⟨v1, rfl, hb1, hx1⟩
  rw [← HD.out] at hb1
  obtain ⟨p2, A2, n2, c2, rfl⟩ := hb1.1.shape
  go_upto_region 2 with fail
  have hx2 : Ext w1 (w1.alloc (.cells #[.bool p2, .slice A2 n2 c2] 56)) := (Ext.refl w1).alloc _
  have B1 := Box.new w1 56 #[.bool p2, .slice A2 n2 c2]
  have hD1 := hb1.ext hx2
  have hXn := (hXn.ext hx1).ext hx2
  have hTab := (hTab.ext hx1).ext hx2
  have hE := (hE0.trans hx1).trans hx2
  have B0 := (B0.ext hx1).ext hx2
  generalize (w1.alloc (.cells #[.bool p2, .slice A2 n2 c2] 56)) = W at *
  clear hx1 hx2 hE0 hX hb1
  have k00 : ∀ w', Later W w' → w'.cell? ⟨_, 0, none⟩ = some _ := fun w' h => (B0.ext h).c0
  have k01 : ∀ w', Later W w' → w'.cell? ⟨_, 1, none⟩ = some _ := fun w' h => (B0.ext h).c1
  have k02 : ∀ w', Later W w' → w'.cell? ⟨_, 2, none⟩ = some _ := fun w' h => (B0.ext h).c2
  have k03 : ∀ w', Later W w' → w'.cell? ⟨_, 3, none⟩ = some _ := fun w' h => (B0.ext h).c3
  have k10 : ∀ w', Later W w' → w'.cell? ⟨w1.heap.size, 0, none⟩ = some (.bool p2) := fun w' h => (B1.ext h).c0
  have k11 : ∀ w', Later W w' → w'.cell? ⟨w1.heap.size, 1, none⟩ = some (.slice A2 n2 c2) := fun w' h => (B1.ext h).c1
  have hS0 := Later.refl W
  by_cases h1 : D = 1
  · have e1 : (cmpZ D 1 == 0) = true := by rw [cmpZ_zero.2 h1]; rfl
    have HR := Lib.hid (show V = itoa q.num by rw [HV.out]; unfold ratText; rw [if_pos (by have := HD.out; omega)])
    clear h1
    go_region_held3 (fun w' => Later W w') ((repeat (first | assumption | apply Later.drew | apply Later.drewN | apply Later.alloc | (refine Later.step ?_ (by assumption))))) (first
        | (go_at_call 90; (with_reducible refine (Gcd_b _ _ _ _ _ _ _ (BigB.ext (by assumption) (by repeat (first | (with_reducible exact Ext.refl _) | (with_reducible apply Ext.drew) | (with_reducible apply Ext.drewN) | (with_reducible refine Ext.trans ?_ (by assumption))))) (BigB.ext (by assumption) (by repeat (first | (with_reducible exact Ext.refl _) | (with_reducible apply Ext.drew) | (with_reducible apply Ext.drewN) | (with_reducible refine Ext.trans ?_ (by assumption))))) (by first | omega | decide)).mono ?_); rintro e wk ⟨vk, rfl, hbk, hxk⟩; (obtain ⟨pk, Ak, nk, ck, rfl⟩ := hbk.1.shape))
        | (go_at_call 46; (with_reducible refine (Of_b _ _ (by first | assumption | decide) (by first | assumption | decide)).mono ?_); rintro e wk ⟨vk, rfl, hbk, hxk⟩; (obtain ⟨pk, Ak, nk, ck, rfl⟩ := hbk.1.shape))
        | (go_at_call 44; (with_reducible refine (RatDen_b _ _ _ _ (RatB.ext (by assumption) (by repeat (first | (with_reducible exact Ext.refl _) | (with_reducible apply Ext.drew) | (with_reducible apply Ext.drewN) | (with_reducible refine Ext.trans ?_ (by assumption)))))).mono ?_); rintro e wk ⟨vk, rfl, hbk, hxk⟩; (obtain ⟨pk, Ak, nk, ck, rfl⟩ := hbk.1.shape))
        | (go_at_call 63; (with_reducible refine (Mul_b _ _ _ _ _ _ _ (BigB.ext (by assumption) (by repeat (first | (with_reducible exact Ext.refl _) | (with_reducible apply Ext.drew) | (with_reducible apply Ext.drewN) | (with_reducible refine Ext.trans ?_ (by assumption))))) (BigB.ext (by assumption) (by repeat (first | (with_reducible exact Ext.refl _) | (with_reducible apply Ext.drew) | (with_reducible apply Ext.drewN) | (with_reducible refine Ext.trans ?_ (by assumption))))) (by omega)).mono ?_); rintro e wk ⟨vk, rfl, hbk, hxk⟩; (obtain ⟨pk, Ak, nk, ck, rfl⟩ := hbk.1.shape))
        | (go_at_call 80; (with_reducible refine (Add_b _ _ _ _ _ _ _ (BigB.ext (by assumption) (by repeat (first | (with_reducible exact Ext.refl _) | (with_reducible apply Ext.drew) | (with_reducible apply Ext.drewN) | (with_reducible refine Ext.trans ?_ (by assumption))))) (BigB.ext (by assumption) (by repeat (first | (with_reducible exact Ext.refl _) | (with_reducible apply Ext.drew) | (with_reducible apply Ext.drewN) | (with_reducible refine Ext.trans ?_ (by assumption))))) (by omega)).mono ?_); rintro e wk ⟨vk, rfl, hbk, hxk⟩; (obtain ⟨pk, Ak, nk, ck, rfl⟩ := hbk.1.shape))
        | (go_at_call 45; (with_reducible refine (Cmp_b _ _ _ _ _ _ _ (BigB.ext (by assumption) (by repeat (first | (with_reducible exact Ext.refl _) | (with_reducible apply Ext.drew) | (with_reducible apply Ext.drewN) | (with_reducible refine Ext.trans ?_ (by assumption))))) (BigB.ext (by assumption) (by repeat (first | (with_reducible exact Ext.refl _) | (with_reducible apply Ext.drew) | (with_reducible apply Ext.drewN) | (with_reducible refine Ext.trans ?_ (by assumption)))))).mono ?_); rintro e wk ⟨rfl, hxk⟩)
        | (go_at_call 89; (with_reducible refine (Neg_b _ _ _ _ (BigB.ext (by assumption) (by repeat (first | (with_reducible exact Ext.refl _) | (with_reducible apply Ext.drew) | (with_reducible apply Ext.drewN) | (with_reducible refine Ext.trans ?_ (by assumption)))))).mono ?_); rintro e wk ⟨vk, rfl, hbk, hxk⟩; (obtain ⟨pk, Ak, nk, ck, rfl⟩ := hbk.1.shape))
      )
    all_goals go_upto_region 3 with fail
    all_goals go_wp2_with fail
    all_goals (
      refine (Text_b _ _ _ _ (BigB.ext hXn (by repeat (first | (with_reducible exact Ext.refl _) | (with_reducible apply Ext.drew) | (with_reducible apply Ext.drewN) | (with_reducible refine Ext.trans ?_ (by assumption))))) (by omega) (TabOK.ext hTab (by repeat (first | (with_reducible exact Ext.refl _) | (with_reducible apply Ext.drew) | (with_reducible apply Ext.drewN) | (with_reducible refine Ext.trans ?_ (by assumption)))))).mono ?_
      rintro e w9 ⟨rfl, hx9⟩
      have hS9 := Later.step (by assumption) hx9
      rw [← HR.out]
      go_wp2_with fail
      go_ret
      exact ⟨rfl, hE.trans (show Later W _ from hS9)⟩)
  · have e1 : (cmpZ D 1 == 0) = false := by
      have := mt cmpZ_zero.1 h1
      simpa using this
    have HR := Lib.hid (show V = itoa q.num ++ 47 :: itoa D by rw [HV.out]; unfold ratText; rw [if_neg (by have := HD.out; omega), HD.out])
    have z1 := itoa_size (QB_pos hQ) hXn.2
    have z2 := itoa_size (QB_pos hQ) hD1.2
    obtain ⟨SN, hSN⟩ : ∃ S : ByteArray, S = ⟨(itoa q.num).toArray⟩ := ⟨_, rfl⟩
    obtain ⟨SD, hSD⟩ : ∃ S : ByteArray, S = ⟨(itoa D).toArray⟩ := ⟨_, rfl⟩
    rw [← hSN] at z1
    rw [← hSD] at z2
    have HS : Hid ((⟨V.toArray⟩ : ByteArray) = (SN ++ ⟨#[47]⟩) ++ SD) := Lib.hid (by rw [HR.out, hSN, hSD, cat_slash])
    have HTN : Hid (∀ w', Later W w' → Calls Tryz.prog 70 #[.agg #[.bool p1, .slice A1 n1 c1]] w' (fun e w'' => e = .returned (.string SN) ∧ Ext w' w'')) := Lib.hid (fun w' h => by rw [hSN]; exact Text_b _ _ _ _ (hXn.ext h) (by omega) (hTab.ext h))
    have HTD : Hid (∀ w', Later W w' → Calls Tryz.prog 70 #[.agg #[.bool p2, .slice A2 n2 c2]] w' (fun e w'' => e = .returned (.string SD) ∧ Ext w' w'')) := Lib.hid (fun w' h => by rw [hSD]; exact Text_b _ _ _ _ (hD1.ext h) (by omega) (hTab.ext h))
    have c1 : ¬ 9223372036854775807 < SN.size + 1 := by omega
    have c2 : ¬ 9223372036854775807 < SN.size + 1 + SD.size := by omega
    clear h1 hSN hSD
    go_region_held3 (fun w' => Later W w') ((repeat (first | assumption | apply Later.drew | apply Later.drewN | apply Later.alloc | (refine Later.step ?_ (by assumption))))) (first
        | (go_at_call 90; (with_reducible refine (Gcd_b _ _ _ _ _ _ _ (BigB.ext (by assumption) (by repeat (first | (with_reducible exact Ext.refl _) | (with_reducible apply Ext.drew) | (with_reducible apply Ext.drewN) | (with_reducible refine Ext.trans ?_ (by assumption))))) (BigB.ext (by assumption) (by repeat (first | (with_reducible exact Ext.refl _) | (with_reducible apply Ext.drew) | (with_reducible apply Ext.drewN) | (with_reducible refine Ext.trans ?_ (by assumption))))) (by first | omega | decide)).mono ?_); rintro e wk ⟨vk, rfl, hbk, hxk⟩; (obtain ⟨pk, Ak, nk, ck, rfl⟩ := hbk.1.shape))
        | (go_at_call 46; (with_reducible refine (Of_b _ _ (by first | assumption | decide) (by first | assumption | decide)).mono ?_); rintro e wk ⟨vk, rfl, hbk, hxk⟩; (obtain ⟨pk, Ak, nk, ck, rfl⟩ := hbk.1.shape))
        | (go_at_call 44; (with_reducible refine (RatDen_b _ _ _ _ (RatB.ext (by assumption) (by repeat (first | (with_reducible exact Ext.refl _) | (with_reducible apply Ext.drew) | (with_reducible apply Ext.drewN) | (with_reducible refine Ext.trans ?_ (by assumption)))))).mono ?_); rintro e wk ⟨vk, rfl, hbk, hxk⟩; (obtain ⟨pk, Ak, nk, ck, rfl⟩ := hbk.1.shape))
        | (go_at_call 63; (with_reducible refine (Mul_b _ _ _ _ _ _ _ (BigB.ext (by assumption) (by repeat (first | (with_reducible exact Ext.refl _) | (with_reducible apply Ext.drew) | (with_reducible apply Ext.drewN) | (with_reducible refine Ext.trans ?_ (by assumption))))) (BigB.ext (by assumption) (by repeat (first | (with_reducible exact Ext.refl _) | (with_reducible apply Ext.drew) | (with_reducible apply Ext.drewN) | (with_reducible refine Ext.trans ?_ (by assumption))))) (by omega)).mono ?_); rintro e wk ⟨vk, rfl, hbk, hxk⟩; (obtain ⟨pk, Ak, nk, ck, rfl⟩ := hbk.1.shape))
        | (go_at_call 80; (with_reducible refine (Add_b _ _ _ _ _ _ _ (BigB.ext (by assumption) (by repeat (first | (with_reducible exact Ext.refl _) | (with_reducible apply Ext.drew) | (with_reducible apply Ext.drewN) | (with_reducible refine Ext.trans ?_ (by assumption))))) (BigB.ext (by assumption) (by repeat (first | (with_reducible exact Ext.refl _) | (with_reducible apply Ext.drew) | (with_reducible apply Ext.drewN) | (with_reducible refine Ext.trans ?_ (by assumption))))) (by omega)).mono ?_); rintro e wk ⟨vk, rfl, hbk, hxk⟩; (obtain ⟨pk, Ak, nk, ck, rfl⟩ := hbk.1.shape))
        | (go_at_call 45; (with_reducible refine (Cmp_b _ _ _ _ _ _ _ (BigB.ext (by assumption) (by repeat (first | (with_reducible exact Ext.refl _) | (with_reducible apply Ext.drew) | (with_reducible apply Ext.drewN) | (with_reducible refine Ext.trans ?_ (by assumption))))) (BigB.ext (by assumption) (by repeat (first | (with_reducible exact Ext.refl _) | (with_reducible apply Ext.drew) | (with_reducible apply Ext.drewN) | (with_reducible refine Ext.trans ?_ (by assumption)))))).mono ?_); rintro e wk ⟨rfl, hxk⟩)
        | (go_at_call 89; (with_reducible refine (Neg_b _ _ _ _ (BigB.ext (by assumption) (by repeat (first | (with_reducible exact Ext.refl _) | (with_reducible apply Ext.drew) | (with_reducible apply Ext.drewN) | (with_reducible refine Ext.trans ?_ (by assumption)))))).mono ?_); rintro e wk ⟨vk, rfl, hbk, hxk⟩; (obtain ⟨pk, Ak, nk, ck, rfl⟩ := hbk.1.shape))
      )
    all_goals go_upto_region 4 with fail
    go_region_held3 (fun w' => Later W w') ((repeat (first | assumption | apply Later.drew | apply Later.drewN | apply Later.alloc | (refine Later.step ?_ (by assumption))))) (first
      | (go_at_call 70; (with_reducible refine (HTN.out _ (by assumption)).mono ?_); rintro e wk ⟨rfl, hxk⟩)
      | (go_at_call 70; (with_reducible refine (HTD.out _ (by assumption)).mono ?_); rintro e wk ⟨rfl, hxk⟩)
      )
    all_goals go_wp2_with fail
    all_goals go_ret
    all_goals exact ⟨by rw [HS.out]; rfl, hE.trans (show Later W _ by assumption)⟩
end Go.Proofs.YtljncdcjkdgkeaaGreatDoor.Rt
namespace Go.Proofs.YtljncdcjkdgkeaaGreatDoor.Big
open Go.ChangeShapes Go.WideShapes Go.ChangeAt Go.RowKit

theorem own : ownKnob Tryz.prog.godebug = none := by kernel_rfl
theorem gPow : Tryz.prog.globalNamed "internal/strconv.uint64pow10" = some 0 := by kernel_rfl
theorem gPowType : (Tryz.prog.globals[(0 : Nat)]?).map (·.type) = some 208 := by kernel_rfl
theorem cellsPow : Tryz.prog.cellsOf 208 = 20 := by kernel_rfl
theorem cellsU64 : Tryz.prog.cellsOf 145 = 1 := by kernel_rfl

def laidAll : List (String × DataW Unit) := Rows.certificateNoneRow.laid
theorem laidPow : laidAll.filter (fun x => x.1 == "internal/strconv.uint64pow10") = [("internal/strconv.uint64pow10", Lib.tabData .u64 Lib.pow10Tab)] := by kernel_rfl
theorem tab_of_laid {W : World} (h : laidMetH Tryz.prog laidAll W) : TabOK W := by
  have h : laidMet Tryz.prog laidAll W := h
  have h1 := h.filter (fun x => x.1 == "internal/strconv.uint64pow10")
  rw [laidPow] at h1
  exact Lib.tabIs_of_head (rest := []) gPow gPowType Tryz.underlying208 Tryz.underlying145 cellsU64 cellsPow h1

theorem Lit.wf_int_iff' (k : IntKind) (n : Int) : (Lit.int k n).wf = true ↔ k.min ≤ n ∧ n ≤ k.max := by simp [Lit.wf]
theorem wf32 {n : Int} (h : (Lit.int .i32 n).wf = true) : -2147483648 ≤ n ∧ n ≤ 2147483647 := (Lit.wf_int_iff' .i32 n).1 h
theorem wf64 {n : Int} (h : (Lit.int .i64 n).wf = true) : -9223372036854775808 ≤ n ∧ n ≤ 9223372036854775807 := (Lit.wf_int_iff' .i64 n).1 h
theorem wf8 {n : Int} (h : (Lit.int .u8 n).wf = true) : 0 ≤ n ∧ n ≤ 255 := (Lit.wf_int_iff' .u8 n).1 h

def lay (cs : Array Value) : Obj → Obj
  | .cells _ t frozen => .cells cs t frozen
  | o => o
end Go.Proofs.YtljncdcjkdgkeaaGreatDoor.Big
namespace Go.Proofs.YtljncdcjkdgkeaaGreatDoor.Big
open Go.ChangeShapes Go.WideShapes Go.ChangeAt Go.RowKit Go.Deep Go.Proofs.YtljncdcjkdgkeaaGreatDoor.Lp
theorem sliCells : Tryz.prog.cellsOf 34 = 1 := by kernel_rfl
theorem bulk_one {H : Type} (d : DataW H) : 1 ≤ Rows.uptoBulk d := by
  cases d with
  | lit l => cases l <;> simp [Rows.uptoBulk]
  | nil => simp [Rows.uptoBulk]
  | ptr d => simp [Rows.uptoBulk]
  | slice elems spare => simp [Rows.uptoBulk]
  | agg parts => simp [Rows.uptoBulk]
  | iface t d => simp [Rows.uptoBulk]
  | map entries => simp [Rows.uptoBulk]
  | held h => simp [Rows.uptoBulk]
theorem bulk_len {H : Type} (l : List (DataW H)) : l.length ≤ Rows.uptoBulkAll l := by
  induction l with
  | nil => simp [Rows.uptoBulkAll]
  | cons x r ih => have := bulk_one x; simp only [Rows.uptoBulkAll, List.length_cons]; omega
theorem bulk_slice {H : Type} (elems spare : List (DataW H)) : Rows.uptoBulkAll elems + Rows.uptoBulkAll spare + 1 = Rows.uptoBulk (.slice elems spare) := by simp [Rows.uptoBulk]
section
variable {H : Type} {enc : TypeId × Value → H} {W : World} {base : Nat} {r : Reach} {b0 : Nat}
set_option maxRecDepth 100000 in
theorem i32s_row {sp : Nat → Bool} {fuel : Nat} {v : Value} {y : DataW H × List MemPlace} (h : DataW.trod enc Tryz.prog W base sp true fuel 34 [v] = some y) :
    ∃ A n c xs, v = .slice A n c ∧ Lp.Row W (.slice A n c) (wV xs) ∧ (∀ z ∈ xs, in32 z) ∧ xs.length ≤ Rows.uptoBulk y.1 := by
  rcases open_ints Tryz.underlying34 Tryz.underlying21 (by kernel_rfl) h with ⟨h1, _⟩ | ⟨a, len, cap, zs, h1, _, h2, h3, h4, h5, h6, h7⟩
  · injection h1 with h1
    exact ⟨none, 0, 0, [], h1, Row.nil W none 0 (by omega), (fun z hz => by cases hz), by simp⟩
  · injection h1 with h1
    subst h1
    have hzl : len ≤ zs.length := by rw [h4]; split <;> omega
    refine ⟨some a, len, cap, zs.take len, rfl, ?_, ?_, ?_⟩
    · refine ⟨some a, cap, by rw [wV_len, List.length_take, Nat.min_eq_left hzl], by rw [wV_len, List.length_take]; omega, by unfold maxLen at h3; exact h3, fun hn => ?_⟩
      rw [wV_len, List.length_take] at hn
      obtain ⟨b, off, spot⟩ := a
      have hspot : spot = none := by simpa [Addr.add] using World.cell?_spot (h6 0 (by omega))
      subst hspot
      refine ⟨b, off, rfl, fun j u hj => ?_⟩
      have hjl : j < (wV (zs.take len)).length := (List.getElem?_eq_some_iff.1 hj).1
      rw [wV_len, List.length_take] at hjl
      have hc := h6 j (by omega)
      rw [show (⟨b, off, none⟩ : Addr).add j = ⟨b, off + j, none⟩ by simp [Addr.add]] at hc
      rw [hc]
      have h8 : (zs.take len)[j]? = some (zs.getD j 0) := by
        rw [List.getElem?_take, if_pos (by omega), List.getElem?_eq_getElem (by omega)]
        simp [List.getD, show j < zs.length by omega]
      rw [wV_get h8] at hj
      exact hj
    · intro z hz
      exact wf32 (h7 z (List.mem_of_mem_take hz))
    · rw [h5]
      have h8 := bulk_slice (lits .i32 (zs.take len) : List (DataW H)) (lits .i32 (zs.drop len))
      have h9 := bulk_len (lits .i32 (zs.take len) : List (DataW H))
      have hl1 : (lits .i32 (zs.take len) : List (DataW H)).length = (zs.take len).length := by simp [lits]
      show (zs.take len).length ≤ Rows.uptoBulk (.slice (lits .i32 (zs.take len)) (lits .i32 (zs.drop len)))
      omega
end
section
variable {H : Type} {enc : TypeId × Value → H}
theorem laidOutP : laidOutB Tryz.prog = true := by kernel_rfl
def Readable (ts : List TypeId) : Prop := ∀ t ∈ ts, Tryz.prog.readableRec t = true ∧ t < Tryz.prog.types.size
/-- all arguments read again as they were -/
theorem args_stay {W W' : World} (hb : Below W.heap.size W W') {sp : Nat → Bool} : ∀ {ts : List TypeId} {vs : List Value} {ds : List (DataW H)} {ps : List MemPlace}, Readable ts → (∀ x ∈ ps, x.block < W.heap.size) → (∀ x ∈ ps, sp x.block = true) →
    DataW.TrodAll enc Tryz.prog W 0 (fun _ => true) true ts vs ds ps → DataW.TrodAll enc Tryz.prog W' 0 sp true ts vs ds ps
  | [], [], [], _, _, _, _, h => h
  | t :: ts, v :: vs, d :: ds, ps, hr, hlt, hs, ⟨p, q, h1, h2, e⟩ => by
    subst e
    obtain ⟨r1, r2⟩ := hr t (by simp)
    refine ⟨p, q, ?_, args_stay hb (fun t ht => hr t (by simp [ht])) (fun x hx => hlt x (by simp [hx])) (fun x hx => hs x (by simp [hx])) h2, rfl⟩
    exact WideElems.Trod_stays laidOutP r1 r2 h1 (fun x hx => hb.same (hlt x (by simp [hx]))) (fun x hx => hs x (by simp [hx]))
end

set_option maxRecDepth 100000 in
/-- A law whose arguments are kept, and that leaves every block that it found as it was. -/
theorem post_stay {H : Type} {enc : TypeId × Value → H} {f : Func} {s : ChangeSpec} {W W' : World} {args : Array Value} {v : Value} {ds gs : List (DataW H)} {before : List MemPlace}
    (hW : DataW.Whole enc Tryz.prog f.params.toList s.vars false W args.toList ds gs before) (hvr : s.vars = []) (hr : Readable f.params.toList) (hfa : (s.fn H (ds ++ gs)).args = ds) (hfv : (s.fn H (ds ++ gs)).vars = [])
    (hres : ∀ (b : Nat) (sp : Nat → Bool) (hd : Bool), DataW.TrodAll enc Tryz.prog W' b sp hd f.resultTypes.toList (v.resultList f.resultTypes.size) (s.fn H (ds ++ gs)).results []) (hb : Below W.heap.size W W')
    (hok : ∀ (j : Nat) (t : TypeId) (r : Value), f.resultTypes[j]? = some t → (v.resultList f.resultTypes.size)[j]? = some r → Value.okWide Tryz.prog W' .any 0 t r) :
    s.post enc Tryz.prog f false true false false W args v W' := by
  have hlt : ∀ x ∈ before, x.block < W.heap.size := fun x hx => hW.lt x hx
  have hold : ∀ x ∈ before, (fun b => decide (b < W.heap.size)) x.block = true := fun x hx => by simpa using hlt x hx
  have hW0 := hW
  obtain ⟨p, q, hA, hV, hpq, hz, hn⟩ := hW0
  have hA : DataW.TrodAll enc Tryz.prog W 0 (fun _ => true) true f.params.toList args.toList ds p := hA
  rw [hvr] at hV
  obtain ⟨rfl, rfl⟩ := trodVars_none hV
  rw [List.append_nil] at hpq
  subst hpq
  have hargs : ∀ sp : Nat → Bool, (∀ x ∈ before, sp x.block = true) → DataW.TrodAll enc Tryz.prog W' 0 sp true f.params.toList args.toList (s.fn H (ds ++ [])).args before := fun sp hs => by
    rw [hfa]; exact args_stay hb hr hlt hs hA
  have hvars : ∀ sp : Nat → Bool, DataW.TrodVars enc Tryz.prog W' sp s.vars (s.fn H (ds ++ [])).vars [] := fun sp => by
    rw [hfv, hvr]; rfl
  refine ⟨ds, [], before, [], before, [], hW, hres _ _ _, hargs _ hold, hvars _, World.keptBut_mono (fun x hx => ⟨hx, Or.inr (Or.inl hx)⟩) (hb.frame (· ∈ before)), fun _ => ⟨hok, _, _, ([] ++ before) ++ [], ⟨[] ++ before, [], trodAll_append (hargs _ (fun _ _ => rfl)) (hres _ _ _), hvars _, rfl, ?_, ?_⟩, ?_⟩⟩
  · intro b off hp
    have hin : MemPlace.cell b off ∈ before := by simpa using hp
    rw [hb.frozen (hlt _ hin)]
    exact hz b off hin
  · intro ha
    simpa using hn ha
  · intro x hx _
    simpa using hx
end Go.Proofs.YtljncdcjkdgkeaaGreatDoor.Big

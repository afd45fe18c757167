/- Walks: a strings.Builder that is written (after the library's own walks, at this program's copyCheck). Plain: decimal digits in chunks of nine. Walks: Text. What the laws above bigint use -/
import Derived.Lib.AppendStr
import Derived.Shelf.Strings.Builder1
import Derived.Lib.ItoaNum
import Derived.Lib.ItoaMem
import Derived.Deep.LoopGhost
import Derived.Deep.AppendLies
import Derived.Test.YtljncdcjkdgkeaaGreatDoorYShelf
import Derived.Test.YtljncdcjkdgkeaaGreatDoorYW15
import Derived.Below
import Derived.Lib.IndexMore
import Derived.Deep.DeepCutAuto
set_option linter.unusedVariables false
set_option linter.unusedSimpArgs false
namespace Go.Proofs.YtljncdcjkdgkeaaGreatDoor.Big
open Go.RowKit Go.Lib
section
theorem sizeB : (Tryz.prog.info? 88).map (·.size) = some 2 := by kernel_rfl
set_option maxHeartbeats 1000000 in
set_option maxRecDepth 100000 in
theorem copyCheck_used (b : Nat) (w : World) (h0 : w.cell? ⟨b, 0, none⟩ = some (.pointer (some ⟨b, 0, none⟩))) :
 Calls Tryz.prog 68 #[.pointer (some ⟨b, 0, none⟩)] w fun e w' => e = .returned (.tuple #[]) ∧ w' = w := by
 obtain ⟨j, hj, _⟩ := Option.map_eq_some_iff.1 sizeB
 go_enter Tryz.func68, Tryz.ntmps68
 go_wp2_with fail
 rw [Lib.run_neq_ptr_same w _ Tryz.underlying86 hj]
 go_wp2_with fail
 go_end0
 exact ⟨rfl, rfl⟩
set_option maxHeartbeats 1000000 in
set_option maxRecDepth 100000 in
theorem copyCheck_fresh (b : Nat) (w : World) (h0 : w.cell? ⟨b, 0, none⟩ = some (.pointer none)) (hsh : w.shape? b = some (88, 2)) (hfz : w.frozen? ⟨b, 0, none⟩ = false) :
 Calls Tryz.prog 68 #[.pointer (some ⟨b, 0, none⟩)] w fun e w' => e = .returned (.tuple #[]) ∧ w' = w.setCell ⟨b, 0, none⟩ (.pointer (some ⟨b, 0, none⟩)) := by
 obtain ⟨j, hj, hjs⟩ := Option.map_eq_some_iff.1 sizeB
 go_enter Tryz.func68, Tryz.ntmps68
 go_wp2_with fail
 rw [Lib.run_to_unsafe w ⟨b, 0, none⟩ Tryz.underlying86 Tryz.underlying160 hj (by rw [hjs]; decide) hsh (Nat.zero_lt_succ 1)]
 simp only [Result.andThen]
 rw [Oper.upon_value]
 go_wp2_with fail
 rw [run_callFunc_extern Tryz.func95 (by kernel_rfl) (by kernel_rfl) (by kernel_rfl) (e := Extern.AbiNoEscape.same) (by kernel_rfl)]
 rw [Lib.run_noEscape]
 simp only [Result.andThen]
 rw [Oper.upon_value]
 go_wp2_with fail
 rw [Lib.run_from_unsafe w ⟨b, 0, none⟩ Tryz.underlying160 Tryz.underlying86 hj hsh (by kernel_rfl)]
 simp only [Result.andThen]
 rw [Oper.upon_value]
 go_wp2_with fail
 go_end0
 exact ⟨rfl, rfl⟩
theorem copyCheck_any (B b : Nat) (bs : List Value) (w : World) (h : Lib.IsBuilder 88 5 B b bs w) :
 Calls Tryz.prog 68 #[.pointer (some ⟨b, 0, none⟩)] w fun e w' => e = .returned (.tuple #[]) ∧ (Lib.BuilderAt 88 5 B b (.pointer (some ⟨b, 0, none⟩)) bs w' ∧ Below B w w') := by
 rcases h with h | h
 ·refine (copyCheck_fresh b w h.cell0 h.shape h.frozen0).mono ?_
  rintro e w' ⟨rfl, rfl⟩
  exact ⟨rfl, h.used _, (Below.refl B w).setCell (p := ⟨b, 0, none⟩) h.1 _⟩
 ·refine (copyCheck_used b w h.cell0).mono ?_
  rintro e w' ⟨rfl, rfl⟩
  exact ⟨rfl, h, Below.refl B _⟩
theorem infoByte : (Tryz.prog.info? 5).map (fun i => (i.zero, i.size, i.bytes)) = some (some (.int .u8 0), 1, 1) := by kernel_rfl
set_option maxHeartbeats 2000000 in
set_option maxRecDepth 100000 in
theorem quc (B b : Nat) (bs : List Value) (c : Int) (w : World) (h : Lib.IsBuilder 88 5 B b bs w) (hlen : bs.length + 1 ≤ 140737488355328) (hBw : B ≤ w.heap.size) :
 Calls Tryz.prog 98 #[.pointer (some ⟨b, 0, none⟩), .int .u8 c] w fun e w' => e = .returned .nilIface ∧ (Lib.BuilderAt 88 5 B b (.pointer (some ⟨b, 0, none⟩)) (bs ++ [.int .u8 c]) w' ∧ Below B w w') := by
 obtain ⟨i0, hi, hz0, hz1, hz2⟩ := info_parts infoByte
 go_enter Tryz.func98, Tryz.ntmps98
 go_wp2_with fail
 refine (copyCheck_any B b bs _ h).mono ?_
 rintro e w1 ⟨rfl, h1, hb1⟩
 obtain ⟨hB, v, hbk, hown, hne⟩ := h1
 have c0 : w1.cell? ⟨b, 0, none⟩ = some (.pointer (some ⟨b, 0, none⟩)) := by rw [Lib.cell_of_heap hbk]; rfl
 have c1 : w1.cell? ⟨b, 1, none⟩ = some v := by rw [Lib.cell_of_heap hbk]; rfl
 go_wp2_with (at_builtin; refine wpList_append_own _ rfl _ _ 44 rfl B 5 i0 (.int .u8 0) 1 1 Tryz.underlying44 hi hz0 hz1 hz2 rfl (by decide) _ _ _ rfl (hown.alloc _) ⟨w1.heap.size, 0, none⟩ 1 1 [.int .u8 c] rfl rfl ?c1 ?c2 ?c3 ?c4 ?c5 ?_)
 case c1 =>
  intro j u hj
  match j, hj with
  | 0, hj => simp at hj; subst hj; simp [Addr.add]
 case c2 => intro u hu; simp at hu; subst hu; rfl
 case c3 => unfold maxLen; omega
 case c4 => omega
 case c5 => have := hb1.size; simp; omega
 intro v' w2 hown' hgrow _
 have hlt : b < w1.heap.size := by
  rcases Nat.lt_or_ge b w1.heap.size with h' | h'
  ·exact h'
  ·simp [Array.getElem?_eq_none h'] at hbk
 have hb2 : w2.heap[b]? = some (.cells #[.pointer (some ⟨b, 0, none⟩), v] 88 (0, 0)) := by
  rw [hgrow.block b (by simp; omega) (fun e => hne e.symm), Lib.alloc_old w1 _ b hlt]
  exact hbk
 have d0 : w2.cell? ⟨b, 0, none⟩ = some (.pointer (some ⟨b, 0, none⟩)) := by rw [Lib.cell_of_heap hb2]; rfl
 have d1 : w2.cell? ⟨b, 1, none⟩ = some v := by rw [Lib.cell_of_heap hb2]; rfl
 have f1 : w2.frozen? ⟨b, 1, none⟩ = false := Lib.frozen_of_heap hb2 1
 obtain ⟨g, cap, rfl⟩ : ∃ g cap, v' = .slice (some ⟨g, 0, none⟩) (bs.length + 1) cap := by
  rcases hown'.2 with ⟨_, h0⟩ | ⟨g, cap, cur, hv, _⟩
  ·omega
  ·exact ⟨g, cap, hv⟩
 go_wp2_with fail
 go_ret
 refine ⟨rfl, ?_, ?_⟩
 ·exact Lib.BuilderAt.put (T := 88) (e := 5) hB hb2 (bs' := bs ++ [.int .u8 c]) (by simpa using hown') (by decide)
 ·exact ((hb1.alloc (by have := hb1.size; omega) _).grown hgrow (by have := hb1.size; simp; omega) (fun k hk => (hown.lt k hk).1)).setCell (p := ⟨b, 1, none⟩) hB _
set_option maxHeartbeats 2000000 in
set_option maxRecDepth 100000 in
theorem WriteString_any (B b : Nat) (bs : List Value) (s : ByteArray) (w : World) (h : Lib.IsBuilder 88 5 B b bs w) (hlen : bs.length + s.size ≤ 140737488355328) (hBw : B ≤ w.heap.size) :
 Calls Tryz.prog 35 #[.pointer (some ⟨b, 0, none⟩), .string s] w fun e w' => e = .returned (.tuple #[.int .i64 s.size, .nilIface]) ∧ (Lib.BuilderAt 88 5 B b (.pointer (some ⟨b, 0, none⟩)) (bs ++ Lib.strCells s) w' ∧ Below B w w') := by
 obtain ⟨i0, hi, hz0, hz1, hz2⟩ := info_parts infoByte
 go_enter Tryz.func35, Tryz.ntmps35
 go_wp2_with fail
 refine (copyCheck_any B b bs _ h).mono ?_
 rintro e w1 ⟨rfl, h1, hb1⟩
 obtain ⟨hB, v, hbk, hown, hne⟩ := h1
 have c0 : w1.cell? ⟨b, 0, none⟩ = some (.pointer (some ⟨b, 0, none⟩)) := by rw [Lib.cell_of_heap hbk]; rfl
 have c1 : w1.cell? ⟨b, 1, none⟩ = some v := by rw [Lib.cell_of_heap hbk]; rfl
 go_wp2_with (at_builtin; refine Lib.wpList_append_own_string _ rfl _ _ 44 9 rfl B 5 i0 Tryz.underlying44 Tryz.underlying9 hi hz0 hz1 hz2 _ _ _ rfl hown s rfl ?c3 ?c4 ?c5 ?_)
 case c3 => unfold maxLen; omega
 case c4 => omega
 case c5 => have := hb1.size; omega
 intro v' w2 hown' hgrow _
 have hlt : b < w1.heap.size := by
  rcases Nat.lt_or_ge b w1.heap.size with h' | h'
  ·exact h'
  ·simp [Array.getElem?_eq_none h'] at hbk
 have hb2 : w2.heap[b]? = some (.cells #[.pointer (some ⟨b, 0, none⟩), v] 88 (0, 0)) := by
  rw [hgrow.block b hlt (fun e => hne e.symm)]
  exact hbk
 have d0 : w2.cell? ⟨b, 0, none⟩ = some (.pointer (some ⟨b, 0, none⟩)) := by rw [Lib.cell_of_heap hb2]; rfl
 have d1 : w2.cell? ⟨b, 1, none⟩ = some v := by rw [Lib.cell_of_heap hb2]; rfl
 have f1 : w2.frozen? ⟨b, 1, none⟩ = false := Lib.frozen_of_heap hb2 1
 obtain ⟨ao, n', cap, rfl⟩ : ∃ ao n' cap, v' = .slice ao n' cap := by
  rcases hown'.2 with ⟨hv, _⟩ | ⟨g, cap, cur, hv, _⟩
  ·exact ⟨_, _, _, hv⟩
  ·exact ⟨_, _, _, hv⟩
 go_wp2_with fail
 go_ret2
 refine ⟨rfl, ?_, ?_⟩
 ·exact Lib.BuilderAt.put (T := 88) (e := 5) hB hb2 (bs' := bs ++ Lib.strCells s) (by simpa [Lib.strCells_length] using hown') (by decide)
 ·exact (hb1.grown hgrow (by have := hb1.size; omega) (fun k hk => (hown.lt k hk).1)).setCell (p := ⟨b, 1, none⟩) hB _
end
end Go.Proofs.YtljncdcjkdgkeaaGreatDoor.Big
namespace Go.Proofs.YtljncdcjkdgkeaaGreatDoor.Big
open Go.Lib
def pad : Nat → Nat → List UInt8
 | 0, _ => []
 | k + 1, r => pad k (r / 10) ++ [UInt8.ofNat (48 + r % 10)]
theorem qu3 {u : Nat} (h : ¬ u < 10) : decDigits u = decDigits (u / 10) ++ [UInt8.ofNat (48 + u % 10)] := by rw [decDigits, dif_neg h]
theorem qm6 {q : Nat} (hq : 1 ≤ q) : ∀ (k r : Nat), r < 10 ^ k → decDigits (q * 10 ^ k + r) = decDigits q ++ pad k r := by
 intro k
 induction k with
 | zero => intro r hr; have : r = 0 := by simpa using hr
           subst this; simp [pad]
 | succ k ih =>
   intro r hr
   have h10 : 10 ^ (k + 1) = 10 * 10 ^ k := by rw [Nat.pow_succ, Nat.mul_comm]
   have e : q * 10 ^ (k + 1) + r = 10 * (q * 10 ^ k) + r := by rw [h10, Nat.mul_left_comm]
   have hpos : 1 ≤ q * 10 ^ k := Nat.mul_pos hq (Nat.pow_pos (by omega))
   rw [qu3 (by omega), e, show (10 * (q * 10 ^ k) + r) / 10 = q * 10 ^ k + r / 10 by omega, show (10 * (q * 10 ^ k) + r) % 10 = r % 10 by omega,
    ih (r / 10) (by rw [h10] at hr; omega), pad, List.append_assoc]
theorem pad_zero (k : Nat) : pad k 0 = List.replicate k 48 := by
 induction k with
 | zero => rfl
 | succ k ih => simp only [pad, Nat.zero_div, ih]; rw [List.replicate_succ']; rfl
theorem qtn {r k : Nat} (hk : 1 ≤ k) (h : r < 10 ^ k) : nDigits r ≤ k := by
 induction k generalizing r with
 | zero => omega
 | succ k ih =>
   by_cases h10 : r < 10
   ·rw [nDigits_small h10]; omega
   ·rw [nDigits_big h10]
    have hk1 : 1 ≤ k := by
     rcases Nat.eq_zero_or_pos k with h0 | h0
     ·subst h0; simp at h; omega
     ·exact h0
    have := ih hk1 (r := r / 10) (by rw [Nat.pow_succ] at h; omega)
    omega
theorem pad_eq {k : Nat} (hk : 1 ≤ k) : ∀ r, r < 10 ^ k → pad k r = List.replicate (k - nDigits r) 48 ++ decDigits r := by
 induction k with
 | zero => omega
 | succ k ih =>
   intro r h
   by_cases h10 : r < 10
   ·rw [pad, Nat.div_eq_of_lt h10, pad_zero, nDigits_small h10, decDigits_one h10, Nat.mod_eq_of_lt h10]; rfl
   ·have hk1 : 1 ≤ k := by
     rcases Nat.eq_zero_or_pos k with h0 | h0
     ·subst h0; simp at h; omega
     ·exact h0
    have hr : r / 10 < 10 ^ k := by rw [Nat.pow_succ] at h; omega
    have := qtn hk1 hr
    rw [pad, ih hk1 _ hr, qu3 h10, nDigits_big h10, List.append_assoc, show k + 1 - (nDigits (r / 10) + 1) = k - nDigits (r / 10) by omega]
def le9 : List Nat → Nat
 | [] => 0
 | c :: l => c + 1000000000 * le9 l
def be9 (l : List Nat) : Nat := l.foldl (fun a x => a * 1000000000 + x) 0
theorem q3h (l : List Nat) (x : Nat) : be9 (l ++ [x]) = be9 l * 1000000000 + x := by unfold be9; rw [List.foldl_append]; rfl
theorem qsf (l : List Nat) : be9 l.reverse = le9 l := by
 induction l with
 | nil => rfl
 | cons c l ih => rw [List.reverse_cons, q3h, ih, le9]; omega
theorem le9_snoc (l : List Nat) (x : Nat) : le9 (l ++ [x]) = le9 l + 1000000000 ^ l.length * x := by
 induction l with
 | nil => simp [le9]
 | cons c l ih => simp only [List.cons_append, le9, ih, List.length_cons, Nat.pow_succ]; rw [Nat.mul_add, ← Nat.mul_assoc, Nat.mul_comm 1000000000 (1000000000 ^ l.length)]; omega
def txt : List Nat → List UInt8
 | [] => []
 | c :: r => decDigits c ++ r.flatMap (pad 9)
theorem q7q {l : List Nat} (h : l ≠ []) (x : Nat) : txt (l ++ [x]) = txt l ++ pad 9 x := by
 cases l with
 | nil => exact absurd rfl h
 | cons c r => simp [txt]
theorem txt_eq (n : Nat) : ∀ (l : List Nat), l.length = n → (∀ x ∈ l, x < 1000000000) → ∀ c, 1 ≤ c → txt (c :: l) = decDigits (be9 (c :: l)) ∧ 1 ≤ be9 (c :: l) := by
 induction n with
 | zero =>
   intro l hn _ c hc
   have : l = [] := List.eq_nil_of_length_eq_zero hn
   subst this
   simp [txt, be9]; exact hc
 | succ n ih =>
   intro l hn hl c hc
   rcases List.eq_nil_or_concat l with h | ⟨L, x, h⟩
   ·subst h; simp at hn
   ·rw [List.concat_eq_append] at h
    subst h
    obtain ⟨i1, i2⟩ := ih L (by simp at hn; exact hn) (fun y hy => hl y (by simp [hy])) c hc
    have hx := hl x (by simp)
    rw [← List.cons_append, q7q (by simp), q3h, i1]
    exact ⟨(qm6 i2 9 x hx).symm, by omega⟩
end Go.Proofs.YtljncdcjkdgkeaaGreatDoor.Big
namespace Go.Proofs.YtljncdcjkdgkeaaGreatDoor.Big
open Go.RowKit
theorem qh9 {w w' : World} {base : Nat} {e : TypeId} {size : Nat} {v : Value} {n : Nat} {xs : List Value} (h : w.ownsRow base e size v n xs) (k : Ext w w') : w'.ownsRow base e size v n xs := by
 obtain ⟨h1, h2⟩ := h
 refine ⟨h1, ?_⟩
 rcases h2 with h2 | ⟨g, cap, cur, h3, h4, h5, h6⟩
 ·exact .inl h2
 ·have hlt : g < w.heap.size := by
   rcases Nat.lt_or_ge g w.heap.size with h' | h'
   ·exact h'
   ·rw [Array.getElem?_eq_none h'] at h5; cases h5
  exact .inr ⟨g, cap, cur, h3, h4, (Below.block k g hlt).trans h5, h6⟩
theorem qqg {w w' : World} {T e : TypeId} {B b : Nat} {bs : List Value} (h : Lib.IsBuilder T e B b bs w) (k : Ext w w') : Lib.IsBuilder T e B b bs w' := by
 have key : ∀ p, Lib.BuilderAt T e B b p bs w → Lib.BuilderAt T e B b p bs w' := by
  rintro p ⟨h1, v, h2, h3, h4⟩
  exact ⟨h1, v, (Below.block k b (Box.lt (w := w) (E := T) h2)).trans h2, qh9 h3 k, h4⟩
 exact h.imp (key _) (key _)
theorem byteCells_append (a b : List UInt8) : Lib.byteCells (a ++ b) = Lib.byteCells a ++ Lib.byteCells b := by simp [Lib.byteCells]
theorem byteCells_len (l : List UInt8) : (Lib.byteCells l).length = l.length := by simp [Lib.byteCells]
theorem repeatL_one (c : UInt8) : ∀ n, Lib.repeatL [c] n = List.replicate n c := by
 intro n
 induction n with
 | zero => rfl
 | succ n ih => rw [Lib.repeatL, ih, List.replicate_succ]; rfl
theorem info64 : (Tryz.prog.info? 145).map (fun i => (i.zero, i.size, i.bytes)) = some (some (.int .u64 0), 1, 8) := by kernel_rfl
def u64s (cs : List Nat) : List Value := cs.map fun (x : Nat) => Value.int .u64 (x : Int)
theorem Dig.grown {w w' : World} {row : Option Nat} {v : Value} {n V : Nat} (h : Dig w v n V) (hg : w.grownBy w' row) (hne : ∀ (ad : Addr) (k c : Nat), v = .slice (some ad) k c → some ad.block ≠ row) : Dig w' v n V := by
 obtain ⟨A, c, rfl, h1, h2, h3, h4⟩ := h
 refine ⟨A, c, rfl, h1, h2, h3, fun hn => ?_⟩
 obtain ⟨b, off, rfl, hc⟩ := h4 hn
 exact ⟨b, off, rfl, fun j hj => (World.cell?_of_block (w := w) (hg.block b (World.block_lt_of_cell? _ _ (hc j hj)) (hne _ _ _ rfl))).trans (hc j hj)⟩
theorem qlu {l : List Nat} (h : ∀ x ∈ l, x < 1000000000) : (txt l).length ≤ 9 * l.length := by
 have pl : ∀ k r, (pad k r).length = k := by
  intro k
  induction k with
  | zero => intro r; rfl
  | succ k ih => intro r; simp [pad, ih]
 cases l with
 | nil => simp [txt]
 | cons c r =>
   have h1 : (Lib.decDigits c).length ≤ 9 := by rw [Lib.decDigits_length]; exact qtn (by omega) (h c (by simp))
   have h2 : ∀ r : List Nat, (r.flatMap (pad 9)).length = 9 * r.length := by
    intro r
    induction r with
    | nil => rfl
    | cons x r ih => simp [List.flatMap_cons, pl, ih]; omega
   simp only [txt, List.length_append, h2, List.length_cons]
   omega
structure ChI (V R : Nat) (c : List Nat) : Prop where
 sum : V = R * 1000000000 ^ c.length + le9 c
 small : ∀ x ∈ c, x < 1000000000
 last : R = 0 → ∃ l x, c = l ++ [x] ∧ 0 < x
theorem ChI.step {V R : Nat} {c : List Nat} (h : ChI V R c) (hR : 0 < R) : ChI V (R / 1000000000) (c ++ [R % 1000000000]) := by
 refine ⟨?_, ?_, ?_⟩
 ·rw [le9_snoc, List.length_append, List.length_singleton, Nat.pow_succ, ← Nat.mul_assoc, Nat.mul_right_comm, ← Nat.add_assoc, Nat.add_right_comm, Nat.mul_comm (1000000000 ^ c.length) (R % 1000000000), ← Nat.add_mul]
  rw [h.sum, show R / 1000000000 * 1000000000 + R % 1000000000 = R by omega]
 ·intro x hx
  rcases List.mem_append.1 hx with h1 | h1
  ·exact h.small x h1
  ·have : x = R % 1000000000 := by simpa using h1
   omega
 ·intro h0
  exact ⟨c, _, rfl, by omega⟩
theorem ChI.len {V R L : Nat} {c : List Nat} (h : ChI V R c) (hR : 0 < R) (hV : V < pw L) : c.length < 2 * L := by
 have h1 : 1000000000 ^ c.length ≤ V := by
  rw [h.sum]
  have : 1 * 1000000000 ^ c.length ≤ R * 1000000000 ^ c.length := Nat.mul_le_mul_right _ hR
  omega
 have h2 : pw L ≤ 1000000000 ^ (2 * L) := by
  unfold pw; rw [Nat.pow_mul]
  exact Nat.pow_le_pow_left (by omega) L
 exact (Nat.pow_lt_pow_iff_right (a := 1000000000) (by omega)).1 (Nat.lt_of_le_of_lt h1 (Nat.lt_of_lt_of_le hV h2))
theorem ChI.text {V : Nat} {c : List Nat} (h : ChI V 0 c) : txt c.reverse = Lib.decDigits V ∧ c ≠ [] := by
 obtain ⟨l, x, rfl, hx⟩ := h.last rfl
 have hs := h.sum
 rw [Nat.zero_mul, Nat.zero_add] at hs
 refine ⟨?_, by simp⟩
 rw [hs, ← qsf, List.reverse_append]
 exact (txt_eq _ l.reverse rfl (fun y hy => h.small y (by simp at hy; simp [hy])) x hx).1
set_option maxHeartbeats 4000000 in
theorem Text_zero (x : Value) (w : World) (hx : BigV w x 0) : Calls Tryz.prog 70 #[x] w (qte w (Lib.itoa 0)) := by
 obtain ⟨A, n, c, rfl, hd, ht⟩ := hx.form
 obtain rfl : n = 0 := by
  have := ht.pos_iff hd.inj.2.2.2.1; simp at this; exact this
 go_enter Tryz.func70, Tryz.ntmps70
 go_wp2_with fail
 go_ret
 refine ⟨?_, (Ext.refl w).alloc _⟩
 have : Lib.itoa 0 = [48] := by unfold Lib.itoa; simp; rw [Lib.decDigits_one (by omega)]; rfl
 rw [this]; rfl
set_option maxRecDepth 100000 in
set_option maxHeartbeats 1000000 in
theorem Text_any (x : Value) (Z : Int) (L : Nat) (w : World) (hx : BigV w x Z) (bx : Z.natAbs < pw L) (hL : L ≤ 1099511627776) (hZ : Z ≠ 0) (htab : TabOK w) : Calls Tryz.prog 70 #[x] w (qte w (Lib.itoa Z)) := by
 obtain ⟨A, n, c, rfl, hd, ht⟩ := hx.form
 have hn0 : 0 < n := (ht.pos_iff hd.inj.2.2.2.1).2 (by omega)
 have hn1 : ((n : Int) == 0) = false := by simp; omega
 have l1 := ht.le bx
 obtain ⟨T, hT⟩ : ∃ T, T = Lib.itoa Z := ⟨_, rfl⟩
 rw [← hT]
 have HT := Lib.hid hT
 have HZ := Lib.hid hZ
 clear hT hZ
 obtain ⟨i0, hi, hz0, hz1, hz2⟩ := info_parts info64
 go_enter Tryz.func70, Tryz.ntmps70
 go_wp2_with fail
 have B0 := Box.new w 56 #[.bool (decide (Z < 0)), .slice A n c]
 have hE0 : Ext w (w.alloc (.cells #[.bool (decide (Z < 0)), .slice A n c] 56)) := (Ext.refl w).alloc _
 generalize w.alloc (.cells #[.bool (decide (Z < 0)), .slice A n c] 56) = W0 at *
 go_loopg [3, 4] (Z.natAbs) (fun g v rs wr => ∃ (A' : Option Addr) (m k R : Nat) (cs : List Nat), rs = .slice A' m k ∧ Dig wr (.slice A' m k) m R ∧ Trm m R ∧ R < pw L ∧ R ≤ g ∧ Hid (ChI Z.natAbs R cs) ∧ cs.length ≤ 2 * L ∧
  wr.ownsRow W0.heap.size 145 1 v cs.length (u64s cs) ∧ Ext W0 wr)
 case atStart => exact ⟨A, n, c, _, [], rfl, hd.ext hE0, ht, bx, Nat.le_refl _, Lib.hid ⟨by simp [le9], (fun x h => absurd h (by simp)), fun h => absurd h (by have := HZ.out; omega)⟩, by simp, World.ownsRow_nil _ _ _ _, Ext.refl _⟩
 case round =>
  obtain ⟨A', m, k, R, cs, rfl, hdR, htR, hRL, hRg, HCH, hcl, hown, hext⟩ := hrel
  have hm := htR.pos_iff hdR.inj.2.2.2.1
  have lm := htR.le hRL
  by_cases h0 : 0 < m
  ·have hR0 : 0 < R := hm.1 h0
   have hcl2 := ChI.len HCH.out hR0 bx
   clear hm
   go_wp2_with fail
   refine (qvz _ _ _ 1000000000 _ hdR (by omega) (by omega) (by omega)).mono ?_
   rintro e w2 ⟨q, nq, rfl, hdq, htq, hx2, hloc⟩
   have hdq' := hdq
   obtain ⟨Aq, cq, rfl, _⟩ := hdq'
   have hown2 := qh9 hown hx2
   have hext2 := hext.trans hx2
   go_wp2_with (at_builtin; refine wpList_append_own _ rfl _ _ 163 rfl W0.heap.size 145 i0 (.int .u64 0) 1 8 Tryz.underlying163 hi hz0 hz1 hz2 rfl (by decide) _ _ _ rfl (hown2.alloc _) ⟨w2.heap.size, 0, none⟩ 1 1 [.int .u64 (R % 1000000000 : Nat)] rfl rfl ?c1 ?c2 ?c3 ?c4 ?c5 ?_)
   case c1 =>
    intro j u hj
    match j, hj with
    | 0, hj => simp at hj; subst hj; simp [Addr.add]
   case c2 => intro u hu; simp at hu; subst hu; rfl
   case c3 => unfold maxLen; omega
   case c4 => omega
   case c5 => have := hext2.size; simp; omega
   intro v' w3 hown' hgrow _
   have hrow : ∀ k, Value.ownBlock u3 = some k → W0.heap.size ≤ k ∧ k < wr.heap.size := fun k hk => hown.lt k hk
   have hE3 : Ext W0 w3 := Below.grown (hext2.alloc _) hgrow (by have := hext2.size; simp; omega) (fun k hk => (hrow k hk).1)
   have hd3 := (hdq.ext ((Ext.refl w2).alloc (.cells #[.int .u64 ((R : Int) % 1000000000)] 145))).grown hgrow (fun ad k c hv e => by
    have h1 := hloc ad k c hv
    have h2 := (hrow _ e.symm).2
    omega)
   have hst := Lib.hid (HCH.out.step hR0)
   clear hown hown2 hdR hdq hgrow HCH
   go_wp2_with fail
   go_roundg (R / 1000000000)
   case measure => omega
   case rel => exact ⟨Aq, nq, cq, R / 1000000000, cs ++ [R % 1000000000], rfl, hd3, htq, Nat.lt_of_le_of_lt (Nat.div_le_self _ _) hRL, Nat.le_refl _, hst, by simp; omega, by simpa [u64s] using hown', hE3⟩
  ·have hR0 : R = 0 := by rcases Nat.eq_zero_or_pos R with h | h; exact h; exact absurd (hm.2 h) h0
   subst hR0
   have m0 : m = 0 := by omega
   subst m0
   obtain ⟨htxt, hne⟩ := HCH.out.text
   have hcs0 : 0 < cs.length := by
    rcases cs with _ | ⟨_, _⟩
    ·exact absurd rfl hne
    ·simp
   obtain ⟨gg, cap, rfl, hgg, hglt⟩ := hown.form hcs0
   have hcell : ∀ (j x : Nat), cs[j]? = some x → wr.cell? ⟨gg, j, none⟩ = some (.int .u64 (x : Int)) := by
    intro j x hj
    have := hown.cells (g := gg) rfl j (.int .u64 (x : Int)) (by unfold u64s; rw [List.getElem?_map, hj]; rfl)
    rw [Lib.add_plain, Nat.zero_add] at this
    exact this
   have hE : Ext w wr := hE0.trans hext
   have hbn := (B0.ext hext).c0
   have hbb := (B0.ext hext).lt
   have HTXT := Lib.hid htxt
   have HCELL0 := Lib.hid hcell
   clear hm h0 hown hne hcell htxt hdR htR
   obtain ⟨w5, rfl⟩ : ∃ w5, w5 = wr := ⟨_, rfl⟩
   have hbl0 := Lib.fresh_isBuilder 88 5 w5
   have hbw0 := (Below.refl w5.heap.size w5).alloc (Nat.le_refl _) (.cells #[.pointer none, .slice none 0 0] 88)
   have hbs0 : w5.heap.size ≤ (w5.alloc (.cells #[.pointer none, .slice none 0 0] 88)).heap.size := by simp
   by_cases hneg : Z < 0
   ·have e1 : decide (Z < 0) = true := by simpa using hneg
    go_wp2_with fail
    refine (quc _ _ _ 45 _ hbl0 (by simp) hbs0).mono ?_
    rintro e w6 ⟨rfl, hbl, hbw⟩
    have hbl1 : Lib.IsBuilder 88 5 w5.heap.size w5.heap.size (Lib.byteCells ([45] ++ txt [])) w6 := .inr hbl
    have hbw1 := hbw0.trans hbw
    obtain ⟨PRE, hPRE⟩ : ∃ PRE : List UInt8, PRE = [45] := ⟨_, rfl⟩
    rw [← hPRE] at hbl1
    have hres : T = PRE ++ txt cs.reverse := by rw [HT.out, hPRE, HTXT.out, Lib.itoa, if_pos hneg]; rfl
    have HRES := Lib.hid hres
    have hpl : PRE.length ≤ 1 := by rw [hPRE]; simp
    clear hPRE hbl0 hbl hbw hbw0 hbs0 HTXT HT
    go_wp2_with fail
    go_loopw [32] (fun s wr => ∃ i : Nat, i ≤ cs.length ∧ s = .int .i64 i ∧ Lib.IsBuilder 88 5 w5.heap.size w5.heap.size (Lib.byteCells (PRE ++ txt (cs.reverse.take i))) wr ∧ Below w5.heap.size w5 wr) (fun s _ => cs.length - (intOf s).toNat)
    case atStart => exact ⟨0, by omega, rfl, hbl1, hbw1⟩
    case round =>
     obtain ⟨i, hi, rfl, hbld, hbel⟩ := hrel
     have hsz : w5.heap.size ≤ wr.heap.size := hbel.size
     by_cases hlt : i < cs.length
     ·obtain ⟨x, hx⟩ : ∃ x, cs.reverse[i]? = some x := ⟨_, List.getElem?_eq_getElem (by simpa using hlt)⟩
      have hx9 : x < 1000000000 := HCH.out.small x (by have := List.mem_of_getElem? hx; simpa using this)
      have hxc : cs[cs.length - 1 - i]? = some x := by rw [← hx, List.getElem?_reverse hlt]
      have hcell := (Below.cell hbel (p := ⟨gg, cs.length - 1 - i, none⟩) hglt).trans (HCELL0.out (cs.length - 1 - i) x hxc)
      have htk : cs.reverse.take (i + 1) = cs.reverse.take i ++ [x] := by rw [List.take_add_one, hx]; rfl
      have htl := qlu (l := cs.reverse.take i) (fun y hy => HCH.out.small y (by have := List.mem_of_mem_take hy; simpa using this))
      have htl2 : (PRE ++ txt (cs.reverse.take i)).length ≤ 9 * cs.length + 1 := by
       have h1 : (cs.reverse.take i).length ≤ cs.length := by simp; omega
       rw [List.length_append]; omega
      obtain ⟨ND, hND⟩ : ∃ ND, ND = Lib.nDigits x := ⟨_, rfl⟩
      have hnx : ND ≤ 9 := by rw [hND]; exact qtn (by omega) hx9
      have hne0 : 0 < i → cs.reverse.take i ≠ [] := fun h e => by have := congrArg List.length e; rw [List.length_take, List.length_reverse, List.length_nil] at this; omega
      have hfirst : i = 0 → txt (cs.reverse.take i ++ [x]) = txt (cs.reverse.take i) ++ Lib.decDigits x := fun h => by subst h; simp [txt]
      have hnext : 0 < i → txt (cs.reverse.take i ++ [x]) = txt (cs.reverse.take i) ++ (List.replicate (9 - ND) 48 ++ Lib.decDigits x) := fun h => by rw [hND, q7q (hne0 h), pad_eq (by omega) x hx9]
      obtain ⟨TX, hTX⟩ : ∃ TX, TX = txt (cs.reverse.take i) := ⟨_, rfl⟩
      rw [← htk] at hfirst hnext
      rw [← hTX] at hbld htl2 hfirst hnext
      clear hx hxc htk htl hne0 hTX
      have hidx : (cs.length : Int) - 1 - i = ((cs.length - 1 - i : Nat) : Int) := by omega
      have htabw : TabOK wr := htab.ext (hE.trans hbel)
      have hig : ((0 : Int) < i) ∨ i = 0 := by omega
      have HNF := Lib.hid hfirst
      have HNN := Lib.hid hnext
      clear hfirst hnext
      go_wp2_with fail
      refine (qii x _ (by omega) htabw).mono ?_
      rintro e w7 ⟨rfl, hx7⟩
      obtain ⟨ts, hts⟩ : ∃ ts : ByteArray, ts = ⟨(Lib.decDigits x).toArray⟩ := ⟨_, rfl⟩
      rw [← hts]
      have htsz : ts.size = ND := by rw [hts, hND]; exact Lib.decDigits_length x
      have htsc : Lib.strCells ts = Lib.byteCells (Lib.decDigits x) := by rw [hts]; rfl
      have hbld7 := qqg hbld hx7
      have hbel7 := hbel.trans (Below.mono hx7 hsz)
      have hsz7 : w5.heap.size ≤ w7.heap.size := hbel7.size
      clear hts hcell hbld hbel hND
      rcases hig with hig | hig
      ·have hig2 : decide ((0 : Int) < i) = true := by simpa using hig
       have hn9 : (9 : Int) - ND = ((9 - ND : Nat) : Int) := by omega
       have hi0 : 0 < i := by omega
       obtain ⟨rp, hrp⟩ : ∃ rp : ByteArray, rp = ⟨(List.replicate (9 - ND) (48 : UInt8)).toArray⟩ := ⟨_, rfl⟩
       have hrps : rp.size = 9 - ND := by rw [hrp]; exact List.length_replicate
       have hrpc : Lib.strCells rp = Lib.byteCells (List.replicate (9 - ND) (48 : UInt8)) := by rw [hrp]; rfl
       have hrep : Calls Tryz.prog 100 #[.string ⟨#[48]⟩, .int .i64 ((9 - ND : Nat) : Int)] w7 fun e w' => e = .returned (.string rp) ∧ Below w7.heap.size w7 w' := by
        rw [hrp]
        rcases Nat.lt_or_ge 1 (9 - ND) with h | h
        ·refine (Tryz.strings_Repeat_main _ _ w7 h (by omega) (by show 1 * (9 - ND) ≤ _; omega) (by decide)).mono ?_
         rintro e w' ⟨rfl, h2⟩
         exact ⟨by rw [show (⟨#[48]⟩ : ByteArray).data.toList = [48] from rfl, repeatL_one], h2⟩
        ·rcases Nat.eq_zero_or_pos (9 - ND) with h0 | h0
         ·rw [h0]
          refine (Tryz.strings_Repeat_zero _ w7).mono ?_
          rintro e w' ⟨rfl, rfl⟩
          exact ⟨rfl, Below.refl _ _⟩
         ·rw [show 9 - ND = 1 by omega]
          refine (Tryz.strings_Repeat_one _ w7).mono ?_
          rintro e w' ⟨rfl, rfl⟩
          exact ⟨rfl, Below.refl _ _⟩
       have HREP := Lib.hid hrep
       clear hrep hrp
       go_wp2_with fail
       refine HREP.out.mono ?_
       rintro e w8 ⟨rfl, hx8⟩
       have hbld8 := qqg hbld7 hx8
       have hbel8 := hbel7.trans (Below.mono hx8 hsz7)
       have hsz8 : w5.heap.size ≤ w8.heap.size := hbel8.size
       clear HREP hbld7 hbel7
       go_wp2_with fail
       refine (WriteString_any _ _ _ rp _ hbld8 (by rw [byteCells_len]; omega) hsz8).mono ?_
       rintro e w9 ⟨rfl, hbld9, hb9⟩
       have hbel9 := hbel8.trans hb9
       have hsz9 : w5.heap.size ≤ w9.heap.size := hbel9.size
       clear hbld8 hbel8
       go_wp2_with fail
       refine (WriteString_any _ _ _ ts _ (.inr hbld9) (by rw [hrpc, List.length_append, byteCells_len, byteCells_len, List.length_replicate]; omega) hsz9).mono ?_
       rintro e w10 ⟨rfl, hbld10, hb10⟩
       have hbel10 := hbel9.trans hb10
       have hend : Lib.byteCells (PRE ++ TX) ++ Lib.strCells rp ++ Lib.strCells ts = Lib.byteCells (PRE ++ txt (cs.reverse.take (i + 1))) := by
        rw [hrpc, htsc, ← byteCells_append, ← byteCells_append, HNN.out hi0]; simp
       rw [hend] at hbld10
       clear hend hbld9 hbel9
       go_wp2_with fail
       go_round
       case measure => (show cs.length - ((i : Int) + 1).toNat < cs.length - ((i : Int)).toNat); omega
       case rel => exact ⟨i + 1, by omega, rfl, .inr hbld10, hbel10⟩
      ·have hig2 : decide ((0 : Int) < (i : Int)) = false := by simp; omega
       have hig3 : decide (0 < i) = false := by simp; omega
       have HIG := Lib.hid hig
       clear hig
       go_wp2_with fail
       refine (WriteString_any _ _ _ ts _ hbld7 (by rw [byteCells_len]; omega) hsz7).mono ?_
       rintro e w9 ⟨rfl, hbld9, hb9⟩
       have hbel9 := hbel7.trans hb9
       have hend : Lib.byteCells (PRE ++ TX) ++ Lib.strCells ts = Lib.byteCells (PRE ++ txt (cs.reverse.take (i + 1))) := by
        rw [htsc, ← byteCells_append, HNF.out HIG.out, List.append_assoc]
       rw [hend] at hbld9
       clear hend hbld7 hbel7
       go_wp2_with fail
       go_round
       case measure => (show cs.length - ((i : Int) + 1).toNat < cs.length - ((i : Int)).toNat); omega
       case rel => exact ⟨i + 1, by omega, rfl, .inr hbld9, hbel9⟩
     ·obtain rfl : i = cs.length := by omega
      rw [show cs.length = cs.reverse.length from List.length_reverse.symm, List.take_length, ← HRES.out] at hbld
      have hE5 : Ext w wr := hE.trans hbel
      clear hbel
      go_wp2_with fail
      refine (Tryz.Builder_String_any _ _ T _ hbld hsz).mono ?_
      rintro e w7 ⟨rfl, hb7⟩
      have hE7 := Below.trans hE5 (Below.mono hb7 (hE.size))
      go_wp2_with fail
      refine bodyPost_ret (v := .string ⟨T.toArray⟩) (by simp [results, Tryz.results70, go_sem]; exact HRES.out.symm) rfl ?_
      exact ⟨rfl, hE7⟩
   ·have e1 : decide (Z < 0) = false := by simpa using hneg
    have hbl1 : Lib.IsBuilder 88 5 w5.heap.size w5.heap.size (Lib.byteCells ([] ++ txt [])) (w5.alloc (.cells #[.pointer none, .slice none 0 0] 88)) := hbl0
    have hbw1 := hbw0
    obtain ⟨PRE, hPRE⟩ : ∃ PRE : List UInt8, PRE = [] := ⟨_, rfl⟩
    rw [← hPRE] at hbl1
    have hres : T = PRE ++ txt cs.reverse := by rw [HT.out, hPRE, HTXT.out, Lib.itoa, if_neg hneg, show Z.toNat = Z.natAbs by omega]; rfl
    have HRES := Lib.hid hres
    have hpl : PRE.length ≤ 1 := by rw [hPRE]; simp
    clear hPRE hbl0 hbw0 HTXT HT
    go_wp2_with fail
    go_loopw [32] (fun s wr => ∃ i : Nat, i ≤ cs.length ∧ s = .int .i64 i ∧ Lib.IsBuilder 88 5 w5.heap.size w5.heap.size (Lib.byteCells (PRE ++ txt (cs.reverse.take i))) wr ∧ Below w5.heap.size w5 wr) (fun s _ => cs.length - (intOf s).toNat)
    case atStart => exact ⟨0, by omega, rfl, hbl1, hbw1⟩
    case round =>
     obtain ⟨i, hi, rfl, hbld, hbel⟩ := hrel
     have hsz : w5.heap.size ≤ wr.heap.size := hbel.size
     by_cases hlt : i < cs.length
     ·obtain ⟨x, hx⟩ : ∃ x, cs.reverse[i]? = some x := ⟨_, List.getElem?_eq_getElem (by simpa using hlt)⟩
      have hx9 : x < 1000000000 := HCH.out.small x (by have := List.mem_of_getElem? hx; simpa using this)
      have hxc : cs[cs.length - 1 - i]? = some x := by rw [← hx, List.getElem?_reverse hlt]
      have hcell := (Below.cell hbel (p := ⟨gg, cs.length - 1 - i, none⟩) hglt).trans (HCELL0.out (cs.length - 1 - i) x hxc)
      have htk : cs.reverse.take (i + 1) = cs.reverse.take i ++ [x] := by rw [List.take_add_one, hx]; rfl
      have htl := qlu (l := cs.reverse.take i) (fun y hy => HCH.out.small y (by have := List.mem_of_mem_take hy; simpa using this))
      have htl2 : (PRE ++ txt (cs.reverse.take i)).length ≤ 9 * cs.length + 1 := by
       have h1 : (cs.reverse.take i).length ≤ cs.length := by simp; omega
       rw [List.length_append]; omega
      obtain ⟨ND, hND⟩ : ∃ ND, ND = Lib.nDigits x := ⟨_, rfl⟩
      have hnx : ND ≤ 9 := by rw [hND]; exact qtn (by omega) hx9
      have hne0 : 0 < i → cs.reverse.take i ≠ [] := fun h e => by have := congrArg List.length e; rw [List.length_take, List.length_reverse, List.length_nil] at this; omega
      have hfirst : i = 0 → txt (cs.reverse.take i ++ [x]) = txt (cs.reverse.take i) ++ Lib.decDigits x := fun h => by subst h; simp [txt]
      have hnext : 0 < i → txt (cs.reverse.take i ++ [x]) = txt (cs.reverse.take i) ++ (List.replicate (9 - ND) 48 ++ Lib.decDigits x) := fun h => by rw [hND, q7q (hne0 h), pad_eq (by omega) x hx9]
      obtain ⟨TX, hTX⟩ : ∃ TX, TX = txt (cs.reverse.take i) := ⟨_, rfl⟩
      rw [← htk] at hfirst hnext
      rw [← hTX] at hbld htl2 hfirst hnext
      clear hx hxc htk htl hne0 hTX
      have hidx : (cs.length : Int) - 1 - i = ((cs.length - 1 - i : Nat) : Int) := by omega
      have htabw : TabOK wr := htab.ext (hE.trans hbel)
      have hig : ((0 : Int) < i) ∨ i = 0 := by omega
      have HNF := Lib.hid hfirst
      have HNN := Lib.hid hnext
      clear hfirst hnext
      go_wp2_with fail
      refine (qii x _ (by omega) htabw).mono ?_
      rintro e w7 ⟨rfl, hx7⟩
      obtain ⟨ts, hts⟩ : ∃ ts : ByteArray, ts = ⟨(Lib.decDigits x).toArray⟩ := ⟨_, rfl⟩
      rw [← hts]
      have htsz : ts.size = ND := by rw [hts, hND]; exact Lib.decDigits_length x
      have htsc : Lib.strCells ts = Lib.byteCells (Lib.decDigits x) := by rw [hts]; rfl
      have hbld7 := qqg hbld hx7
      have hbel7 := hbel.trans (Below.mono hx7 hsz)
      have hsz7 : w5.heap.size ≤ w7.heap.size := hbel7.size
      clear hts hcell hbld hbel hND
      rcases hig with hig | hig
      ·have hig2 : decide ((0 : Int) < i) = true := by simpa using hig
       have hn9 : (9 : Int) - ND = ((9 - ND : Nat) : Int) := by omega
       have hi0 : 0 < i := by omega
       obtain ⟨rp, hrp⟩ : ∃ rp : ByteArray, rp = ⟨(List.replicate (9 - ND) (48 : UInt8)).toArray⟩ := ⟨_, rfl⟩
       have hrps : rp.size = 9 - ND := by rw [hrp]; exact List.length_replicate
       have hrpc : Lib.strCells rp = Lib.byteCells (List.replicate (9 - ND) (48 : UInt8)) := by rw [hrp]; rfl
       have hrep : Calls Tryz.prog 100 #[.string ⟨#[48]⟩, .int .i64 ((9 - ND : Nat) : Int)] w7 fun e w' => e = .returned (.string rp) ∧ Below w7.heap.size w7 w' := by
        rw [hrp]
        rcases Nat.lt_or_ge 1 (9 - ND) with h | h
        ·refine (Tryz.strings_Repeat_main _ _ w7 h (by omega) (by show 1 * (9 - ND) ≤ _; omega) (by decide)).mono ?_
         rintro e w' ⟨rfl, h2⟩
         exact ⟨by rw [show (⟨#[48]⟩ : ByteArray).data.toList = [48] from rfl, repeatL_one], h2⟩
        ·rcases Nat.eq_zero_or_pos (9 - ND) with h0 | h0
         ·rw [h0]
          refine (Tryz.strings_Repeat_zero _ w7).mono ?_
          rintro e w' ⟨rfl, rfl⟩
          exact ⟨rfl, Below.refl _ _⟩
         ·rw [show 9 - ND = 1 by omega]
          refine (Tryz.strings_Repeat_one _ w7).mono ?_
          rintro e w' ⟨rfl, rfl⟩
          exact ⟨rfl, Below.refl _ _⟩
       have HREP := Lib.hid hrep
       clear hrep hrp
       go_wp2_with fail
       refine HREP.out.mono ?_
       rintro e w8 ⟨rfl, hx8⟩
       have hbld8 := qqg hbld7 hx8
       have hbel8 := hbel7.trans (Below.mono hx8 hsz7)
       have hsz8 : w5.heap.size ≤ w8.heap.size := hbel8.size
       clear HREP hbld7 hbel7
       go_wp2_with fail
       refine (WriteString_any _ _ _ rp _ hbld8 (by rw [byteCells_len]; omega) hsz8).mono ?_
       rintro e w9 ⟨rfl, hbld9, hb9⟩
       have hbel9 := hbel8.trans hb9
       have hsz9 : w5.heap.size ≤ w9.heap.size := hbel9.size
       clear hbld8 hbel8
       go_wp2_with fail
       refine (WriteString_any _ _ _ ts _ (.inr hbld9) (by rw [hrpc, List.length_append, byteCells_len, byteCells_len, List.length_replicate]; omega) hsz9).mono ?_
       rintro e w10 ⟨rfl, hbld10, hb10⟩
       have hbel10 := hbel9.trans hb10
       have hend : Lib.byteCells (PRE ++ TX) ++ Lib.strCells rp ++ Lib.strCells ts = Lib.byteCells (PRE ++ txt (cs.reverse.take (i + 1))) := by
        rw [hrpc, htsc, ← byteCells_append, ← byteCells_append, HNN.out hi0]; simp
       rw [hend] at hbld10
       clear hend hbld9 hbel9
       go_wp2_with fail
       go_round
       case measure => (show cs.length - ((i : Int) + 1).toNat < cs.length - ((i : Int)).toNat); omega
       case rel => exact ⟨i + 1, by omega, rfl, .inr hbld10, hbel10⟩
      ·have hig2 : decide ((0 : Int) < (i : Int)) = false := by simp; omega
       have hig3 : decide (0 < i) = false := by simp; omega
       have HIG := Lib.hid hig
       clear hig
       go_wp2_with fail
       refine (WriteString_any _ _ _ ts _ hbld7 (by rw [byteCells_len]; omega) hsz7).mono ?_
       rintro e w9 ⟨rfl, hbld9, hb9⟩
       have hbel9 := hbel7.trans hb9
       have hend : Lib.byteCells (PRE ++ TX) ++ Lib.strCells ts = Lib.byteCells (PRE ++ txt (cs.reverse.take (i + 1))) := by
        rw [htsc, ← byteCells_append, HNF.out HIG.out, List.append_assoc]
       rw [hend] at hbld9
       clear hend hbld7 hbel7
       go_wp2_with fail
       go_round
       case measure => (show cs.length - ((i : Int) + 1).toNat < cs.length - ((i : Int)).toNat); omega
       case rel => exact ⟨i + 1, by omega, rfl, .inr hbld9, hbel9⟩
     ·obtain rfl : i = cs.length := by omega
      rw [show cs.length = cs.reverse.length from List.length_reverse.symm, List.take_length, ← HRES.out] at hbld
      have hE5 : Ext w wr := hE.trans hbel
      clear hbel
      go_wp2_with fail
      refine (Tryz.Builder_String_any _ _ T _ hbld hsz).mono ?_
      rintro e w7 ⟨rfl, hb7⟩
      have hE7 := Below.trans hE5 (Below.mono hb7 (hE.size))
      go_wp2_with fail
      refine bodyPost_ret (v := .string ⟨T.toArray⟩) (by simp [results, Tryz.results70, go_sem]; exact HRES.out.symm) rfl ?_
      exact ⟨rfl, hE7⟩
end Go.Proofs.YtljncdcjkdgkeaaGreatDoor.Big
namespace Go.Proofs.YtljncdcjkdgkeaaGreatDoor.Big
open Go.RowKit
open Go.Lib (decDigits decDigits_one itoa)
theorem BigV.shape {w : World} {v : Value} {z : Int} (h : BigV w v z) : ∃ p A n c, v = .agg #[.bool p, .slice A n c] := by
 obtain ⟨A, n, c, rfl, _⟩ := h.form
 exact ⟨_, A, n, c, rfl⟩
theorem Box.put2 {w : World} {b : Nat} {E : TypeId} {x y : Value} (h : Box w b E #[x, y]) (x' y' : Value) : Box ((w.setCell ⟨b, 0, none⟩ x').setCell ⟨b, 1, none⟩ y') b E #[x', y'] := by
 have h1 : Box _ _ _ #[x', y] := h.set 0 x'
 exact h1.set 1 y'
theorem boxN {w w' : World} {E : TypeId} {cs : Array Value} {n : Nat} (h : Ext ((w.alloc (.cells cs E)).drewN n) w') : Box w' w.heap.size E cs := ((Box.new w E cs).drewN n).ext h
theorem boxD {w w' : World} {E : TypeId} {cs : Array Value} (h : Ext ((w.alloc (.cells cs E)).drew) w') : Box w' w.heap.size E cs := (Box.new w E cs).drew.ext h
theorem box0 {w w' : World} {E : TypeId} {cs : Array Value} (h : Ext (w.alloc (.cells cs E)) w') : Box w' w.heap.size E cs := (Box.new w E cs).ext h
def B (k : Nat) (z : Int) : Prop := z.natAbs < pw k
theorem pw_le {j k : Nat} (h : j ≤ k) : pw j ≤ pw k := Nat.pow_le_pow_right (by decide) h
theorem pw_add' (j k : Nat) : pw (j + k) = pw j * pw k := Nat.pow_add _ _ _
theorem q3x {j k : Nat} {z : Int} (h : j ≤ k) (b : B j z) : B k z := Nat.lt_of_lt_of_le b (pw_le h)
theorem qe8 {k : Nat} {z : Int} (b : B k z) : B k (-z) := by unfold B; rw [Int.natAbs_neg]; exact b
theorem B_add {k : Nat} {x y : Int} (a : B k x) (b : B k y) : B (k + 1) (x + y) := by
 unfold B at *
 have h1 : pw (k + 1) = pw k * 4294967296 := Nat.pow_succ ..
 have h2 := Int.natAbs_add_le x y
 omega
theorem B_sub {k : Nat} {x y : Int} (a : B k x) (b : B k y) : B (k + 1) (x - y) := by
 rw [Int.sub_eq_add_neg]; exact B_add a (qe8 b)
theorem q4k {j k : Nat} {x y : Int} (a : B j x) (b : B k y) : B (j + k) (x * y) := by
 unfold B at *
 rw [Int.natAbs_mul, pw_add']
 exact Nat.mul_lt_mul'' a b
theorem cmpZ_self (x : Int) : cmpZ x x = 0 := by unfold cmpZ; simp
def BigB (w : World) (v : Value) (z : Int) (k : Nat) : Prop := BigV w v z ∧ B k z
theorem BigB.ext {w w' : World} {v : Value} {z : Int} {k : Nat} (h : BigB w v z k) (x : Ext w w') : BigB w' v z k := ⟨h.1.ext x, h.2⟩
def qec (w : World) (z : Int) (k : Nat) (e : Ending) (w' : World) : Prop := ∃ v, e = .returned v ∧ BigB w' v z k ∧ Ext w w'
theorem toB {w : World} {z : Int} {k : Nat} (b : B k z) {e : Ending} {w' : World} (h : qxf w z e w') : qec w z k e w' := by
 obtain ⟨v, rfl, h1, h2⟩ := h
 exact ⟨v, rfl, ⟨h1, b⟩, h2⟩
theorem qgk (x y : Value) (X Y : Int) (j k : Nat) (w : World) (hx : BigB w x X j) (hy : BigB w y Y k) (hL : max j k ≤ 1099511627776) : Calls Tryz.prog 80 #[x, y] w (qec w (X + Y) (max j k + 1)) :=
 (qo0 x y X Y (max j k) w hx.1 hy.1 (q3x (Nat.le_max_left _ _) hx.2) (q3x (Nat.le_max_right _ _) hy.2) hL).mono fun _ _ h => toB (B_add (q3x (Nat.le_max_left _ _) hx.2) (q3x (Nat.le_max_right _ _) hy.2)) h
theorem q44 (x y : Value) (X Y : Int) (j k : Nat) (w : World) (hx : BigB w x X j) (hy : BigB w y Y k) (hL : max j k ≤ 1099511627776) : Calls Tryz.prog 63 #[x, y] w (qec w (X * Y) (j + k)) :=
 (Mul_any x y X Y (max j k) w hx.1 hy.1 (q3x (Nat.le_max_left _ _) hx.2) (q3x (Nat.le_max_right _ _) hy.2) hL).mono fun _ _ h => toB (q4k hx.2 hy.2) h
theorem qyu (x : Value) (X : Int) (j : Nat) (w : World) (hx : BigB w x X j) : Calls Tryz.prog 89 #[x] w (qec w (-X) j) :=
 (qkv x X w hx.1).mono fun _ _ h => toB (qe8 hx.2) h
theorem qc9 (x y : Value) (X Y : Int) (j k : Nat) (w : World) (hx : BigB w x X j) (hy : BigB w y Y k) : Calls Tryz.prog 45 #[x, y] w (qni w (cmpZ X Y)) := Cmp_any x y X Y w hx.1 hy.1
def Later (a b : World) : Prop := Ext a b
theorem Later.refl (w : World) : Later w w := Ext.refl w
theorem Later.drew {a b : World} (h : Later a b) : Later a b.drew := Ext.drew h
theorem Later.drewN {a b : World} (h : Later a b) (n : Nat) : Later a (b.drewN n) := Ext.drewN h n
theorem Later.alloc {a b : World} (h : Later a b) (o : Obj) : Later a (b.alloc o) := Ext.alloc h o
theorem Later.step {a b c : World} (h : Later a b) (k : Ext b c) : Later a c := Ext.trans h k
theorem B_gcd {j k : Nat} {x y : Int} (a : B j x) (b : B k y) : B (max j k) ((Nat.gcd x.natAbs y.natAbs : Nat) : Int) := by
 have a := q3x (Nat.le_max_left j k) a
 have b := q3x (Nat.le_max_right j k) b
 unfold B at *
 rw [Int.natAbs_natCast]
 rcases Nat.eq_zero_or_pos x.natAbs with h | h
 ·rw [h, Nat.gcd_zero_left]; exact b
 ·exact Nat.lt_of_le_of_lt (Nat.gcd_le_left _ h) a
theorem Gcd_b (x y : Value) (X Y : Int) (j k : Nat) (w : World) (hx : BigB w x X j) (hy : BigB w y Y k) (hL : max j k ≤ 1099511627776) : Calls Tryz.prog 90 #[x, y] w (qec w ((Nat.gcd X.natAbs Y.natAbs : Nat) : Int) (max j k)) :=
 (Gcd_any x y X Y (max j k) w hx.1 hy.1 (q3x (Nat.le_max_left _ _) hx.2) (q3x (Nat.le_max_right _ _) hy.2) hL).mono fun _ _ h => toB (B_gcd hx.2 hy.2) h
theorem Of_b (n : Int) (w : World) (h0 : -9223372036854775808 ≤ n) (h1 : n ≤ 9223372036854775807) : Calls Tryz.prog 46 #[.int .i64 n] w (qec w n 2) :=
 (qob n w h0 h1).mono fun _ _ h => toB (show n.natAbs < pw 2 by rw [qfm]; omega) h
theorem qgx {k : Nat} {x : Int} (y : Int) (b : B k x) : B k (x.tdiv y) := by
 unfold B at *; rw [Int.natAbs_tdiv]; exact Nat.lt_of_le_of_lt (Nat.div_le_self _ _) b
theorem Text_all (x : Value) (Z : Int) (L : Nat) (w : World) (hx : BigV w x Z) (bx : B L Z) (hL : L ≤ 1099511627776) (htab : TabOK w) : Calls Tryz.prog 70 #[x] w (qte w (itoa Z)) := by
 by_cases h : Z = 0
 ·subst h; exact Text_zero x w hx
 ·exact Text_any x Z L w hx bx hL h htab
theorem Text_b (x : Value) (X : Int) (j : Nat) (w : World) (hx : BigB w x X j) (hL : j ≤ 1099511627776) (ht : TabOK w) : Calls Tryz.prog 70 #[x] w (qte w (itoa X)) :=
 Text_all x X j w hx.1 hx.2 hL ht
end Go.Proofs.YtljncdcjkdgkeaaGreatDoor.Big
namespace Go.Proofs.YtljncdcjkdgkeaaGreatDoor.Rt
theorem red_pos {n d : Int} (hd : 0 < d) : (Rat.divInt n d).num = n.tdiv ((Nat.gcd n.natAbs d.natAbs : Nat) : Int) ∧ ((Rat.divInt n d).den : Int) = d.tdiv ((Nat.gcd n.natAbs d.natAbs : Nat) : Int) := by
 have hg : d.gcd n = Nat.gcd n.natAbs d.natAbs := Nat.gcd_comm _ _
 have h1 : ((Nat.gcd n.natAbs d.natAbs : Nat) : Int) ∣ n := Int.natAbs_dvd_natAbs.1 (by rw [Int.natAbs_natCast]; exact Nat.gcd_dvd_left _ _)
 have h2 : ((Nat.gcd n.natAbs d.natAbs : Nat) : Int) ∣ d := Int.natAbs_dvd_natAbs.1 (by rw [Int.natAbs_natCast]; exact Nat.gcd_dvd_right _ _)
 refine ⟨?_, ?_⟩
 ·rw [Rat.num_divInt, Int.sign_eq_one_of_pos hd, Int.one_mul, hg, Int.tdiv_eq_ediv_of_dvd h1]
 ·rw [Rat.den_divInt, if_neg (by omega), hg, Int.tdiv_eq_ediv_of_dvd h2, Int.natCast_ediv]
  congr 1
  omega
theorem add_eq (x y : Rat) : x + y = Rat.divInt (x.num * y.den + y.num * x.den) (x.den * y.den) := by
 conv => lhs; rw [← Rat.num_divInt_den x, ← Rat.num_divInt_den y]
 exact Rat.divInt_add_divInt _ _ (by have := x.den_pos; omega) (by have := y.den_pos; omega)
theorem mul_eq (x y : Rat) : x * y = Rat.divInt (x.num * y.num) (x.den * y.den) := by
 conv => lhs; rw [← Rat.num_divInt_den x, ← Rat.num_divInt_den y]
 exact Rat.divInt_mul_divInt _ _
theorem div_eq (x y : Rat) : x / y = Rat.divInt (x.num * y.den) (x.den * y.num) := by
 rw [Rat.div_def, Rat.inv_def]
 conv => lhs; rw [← Rat.num_divInt_den x]
 exact Rat.divInt_mul_divInt _ _
def cmpQ (x y : Rat) : Int := if x < y then -1 else if y < x then 1 else 0
theorem qq3 (x y : Rat) : (x < y ∧ cmpQ x y = -1) ∨ (x = y ∧ cmpQ x y = 0) ∨ (y < x ∧ cmpQ x y = 1) := by
 unfold cmpQ
 by_cases h : x < y
 ·exact .inl ⟨h, by rw [if_pos h]⟩
 ·by_cases h2 : y < x
  ·exact .inr (.inr ⟨h2, by rw [if_neg h, if_pos h2]⟩)
  ·exact .inr (.inl ⟨Rat.le_antisymm (Rat.not_lt.1 h2) (Rat.not_lt.1 h), by rw [if_neg h, if_neg h2]⟩)
open Go.Proofs.YtljncdcjkdgkeaaGreatDoor.Big
open Go.Lib (decDigits decDigits_one itoa)
def q6j (q : Rat) : List UInt8 := if q.den = 1 then itoa q.num else itoa q.num ++ 47 :: itoa (q.den : Int)
end Go.Proofs.YtljncdcjkdgkeaaGreatDoor.Rt
namespace Go.Proofs.YtljncdcjkdgkeaaGreatDoor.Big
open Go.RowKit
theorem qwt (w : World) (E0 E1 : TypeId) (c0 c1 : Array Value) :
 Box ((w.alloc (.cells c0 E0)).alloc (.cells c1 E1)) w.heap.size E0 c0 ∧ Box ((w.alloc (.cells c0 E0)).alloc (.cells c1 E1)) (w.heap.size + 1) E1 c1 ∧ Ext w ((w.alloc (.cells c0 E0)).alloc (.cells c1 E1)) := by
 have s1 : (w.alloc (.cells c0 E0)).heap.size = w.heap.size + 1 := by simp
 refine ⟨(Box.new w E0 c0).alloc _, ?_, ((Ext.refl w).alloc _).alloc _⟩
 have := Box.new (w.alloc (.cells c0 E0)) E1 c1; rwa [s1] at this
theorem boxesT3 (w : World) (E0 E1 E2 : TypeId) (c0 c1 c2 : Array Value) :
 Box (((w.alloc (.cells c0 E0)).alloc (.cells c1 E1)).alloc (.cells c2 E2)) w.heap.size E0 c0 ∧ Box (((w.alloc (.cells c0 E0)).alloc (.cells c1 E1)).alloc (.cells c2 E2)) (w.heap.size + 1) E1 c1 ∧
 Box (((w.alloc (.cells c0 E0)).alloc (.cells c1 E1)).alloc (.cells c2 E2)) (w.heap.size + 1 + 1) E2 c2 ∧ Ext w (((w.alloc (.cells c0 E0)).alloc (.cells c1 E1)).alloc (.cells c2 E2)) := by
 obtain ⟨h0, h1, h2⟩ := qwt w E0 E1 c0 c1
 have s2 : ((w.alloc (.cells c0 E0)).alloc (.cells c1 E1)).heap.size = w.heap.size + 1 + 1 := by simp
 refine ⟨h0.alloc _, h1.alloc _, ?_, h2.alloc _⟩
 have := Box.new ((w.alloc (.cells c0 E0)).alloc (.cells c1 E1)) E2 c2; rwa [s2] at this
theorem Box.set4 {w : World} {b : Nat} {E : TypeId} {x y z u : Value} (h : Box w b E #[x, y, z, u]) (x' y' z' u' : Value) :
 Box ((((w.setCell ⟨b, 0, none⟩ x').setCell ⟨b, 1, none⟩ y').setCell ⟨b, 2, none⟩ z').setCell ⟨b, 3, none⟩ u') b E #[x', y', z', u'] := by
 have h1 : Box _ _ _ #[x', y, z, u] := h.set 0 x'
 have h2 : Box _ _ _ #[x', y', z, u] := h1.set 1 y'
 have h3 : Box _ _ _ #[x', y', z', u] := h2.set 2 z'
 exact h3.set 3 u'
theorem Box.c2 {w : World} {b : Nat} {E : TypeId} {x y z : Value} {r : List Value} (h : Box w b E (x :: y :: z :: r).toArray) : w.cell? ⟨b, 2, none⟩ = some z := h.cell 2
theorem Box.c3 {w : World} {b : Nat} {E : TypeId} {x y z u : Value} {r : List Value} (h : Box w b E (x :: y :: z :: u :: r).toArray) : w.cell? ⟨b, 3, none⟩ = some u := h.cell 3
theorem Dig.farB {w : World} {b : Nat} {E : TypeId} {cs : Array Value} {v : Value} {n V : Nat} (h : Dig w v n V) (hb : Box w b E cs) (hx : ∀ (i : Nat) (v : Value), cs[i]? = some v → q32 v = true) (i : Nat) (u : Value) : Dig (w.setCell ⟨b, i, none⟩ u) v n V := by
 obtain ⟨A, c, rfl, h1, h2, h3, h4⟩ := h
 refine ⟨A, c, rfl, h1, h2, h3, fun hn => ?_⟩
 obtain ⟨b', off, rfl, hc⟩ := h4 hn
 refine ⟨b', off, rfl, fun j hj => ?_⟩
 have hcj := hc j hj
 by_cases hbb : b' = b
 ·subst hbb
  exfalso
  rw [hb.cell] at hcj
  have := hx _ _ hcj
  cases this
 ·rw [World.cell?_setCell_other _ _ _ _ (fun e => hbb (by injection e with e; exact e.symm))]; exact hcj
theorem BigV.farB {w : World} {b : Nat} {E : TypeId} {cs : Array Value} {v : Value} {z : Int} (h : BigV w v z) (hb : Box w b E cs) (hx : ∀ (i : Nat) (v : Value), cs[i]? = some v → q32 v = true) (i : Nat) (u : Value) : BigV (w.setCell ⟨b, i, none⟩ u) v z := by
 obtain ⟨s, n, rfl, h1, h2⟩ := h
 exact ⟨s, n, rfl, h1.farB hb hx i u, h2⟩
theorem qrl (p p' : Bool) (A A' : Option Addr) (n c n' c' : Nat) : ∀ (i : Nat) (v : Value), (#[.bool p, .slice A n c, .bool p', .slice A' n' c'] : Array Value)[i]? = some v → q32 v = true := by
 intro i v h
 match i, h with
 | 0, h => simp at h; subst h; rfl
 | 1, h => simp at h; subst h; rfl
 | 2, h => simp at h; subst h; rfl
 | 3, h => simp at h; subst h; rfl
 | i + 4, h => simp at h
theorem BigV.far4 {w : World} {b : Nat} {E : TypeId} {p p' q q' : Bool} {A A' D D' : Option Addr} {n c n' c' m k m' k' : Nat} {v : Value} {z : Int} (h : BigV w v z) (hb : Box w b E #[.bool p, .slice A n c, .bool p', .slice A' n' c']) :
 BigV ((((w.setCell ⟨b, 0, none⟩ (.bool q)).setCell ⟨b, 1, none⟩ (.slice D m k)).setCell ⟨b, 2, none⟩ (.bool q')).setCell ⟨b, 3, none⟩ (.slice D' m' k')) v z := by
 have h1 : Box _ _ _ #[.bool q, .slice A n c, .bool p', .slice A' n' c'] := hb.set 0 (.bool q)
 have h2 : Box _ _ _ #[.bool q, .slice D m k, .bool p', .slice A' n' c'] := h1.set 1 (.slice D m k)
 have h3 : Box _ _ _ #[.bool q, .slice D m k, .bool q', .slice A' n' c'] := h2.set 2 (.bool q')
 exact (((h.farB hb (qrl _ _ _ _ _ _ _ _) 0 _).farB h1 (qrl _ _ _ _ _ _ _ _) 1 _).farB h2 (qrl _ _ _ _ _ _ _ _) 2 _).farB h3 (qrl _ _ _ _ _ _ _ _) 3 _
theorem qnz {w : World} {b c : Nat} {E : TypeId} {p q p' q' : Bool} {A A0 A' A0' : Option Addr} {n k n0 k0 n' k' n0' k0' : Nat} {z z' : Int} (hne : b ≠ c)
 (h : BigV w (.agg #[.bool p, .slice A n k]) z) (h' : BigV w (.agg #[.bool p', .slice A' n' k']) z') (hb : Box w b E #[.bool q, .slice A0 n0 k0]) (hc : Box w c E #[.bool q', .slice A0' n0' k0']) :
 ∃ w', w' = ((((w.setCell ⟨b, 0, none⟩ (.bool p)).setCell ⟨b, 1, none⟩ (.slice A n k)).setCell ⟨c, 0, none⟩ (.bool p')).setCell ⟨c, 1, none⟩ (.slice A' n' k')) ∧
  BigV w' (.agg #[.bool p, .slice A n k]) z ∧ BigV w' (.agg #[.bool p', .slice A' n' k']) z' ∧ Box w' b E #[.bool p, .slice A n k] ∧ Box w' c E #[.bool p', .slice A' n' k'] := by
 obtain ⟨w', rfl, h1, h2, _⟩ := BigV.put2 hne h h' hb hc
 refine ⟨_, rfl, h1, h2, ?_, ?_⟩
 ·exact ((hb.put2 (.bool p) (.slice A n k)).far (p := ⟨c, 0, none⟩) hne (.bool p')).far (p := ⟨c, 1, none⟩) hne (.slice A' n' k')
 ·exact ((hc.far (p := ⟨b, 0, none⟩) (fun e => hne e.symm) (.bool p)).far (p := ⟨b, 1, none⟩) (fun e => hne e.symm) (.slice A n k)).put2 (.bool p') (.slice A' n' k')
theorem Later.size {a b : World} (h : Later a b) : a.heap.size ≤ b.heap.size := Ext.size h
theorem Later.set {a w : World} (h : Later a w) {p : Addr} (hp : a.heap.size ≤ p.block) (u : Value) : Later a (w.setCell p u) := Ext.set h hp u
theorem q9n {x : Int} (h : x ≠ 0) : (x.sign == 0) = false := by
 rcases q83 x with ⟨a, b⟩ | ⟨a, b⟩ | ⟨a, b⟩ <;> rw [b] <;> first | rfl | omega
end Go.Proofs.YtljncdcjkdgkeaaGreatDoor.Big
namespace Go.Proofs.YtljncdcjkdgkeaaGreatDoor.Rt
open Go.RowKit Go.Proofs.YtljncdcjkdgkeaaGreatDoor.Big
def RatV (w : World) (v : Value) (q : Rat) : Prop := ∃ p A n c p' A' n' c' z, v = .agg #[.bool p, .slice A n c, .bool p', .slice A' n' c'] ∧ BigV w (.agg #[.bool p, .slice A n c]) q.num ∧ BigV w (.agg #[.bool p', .slice A' n' c']) z ∧ (z = (q.den : Int) ∨ (z = 0 ∧ q = 0))
theorem RatV.ext {w w' : World} {v : Value} {q : Rat} (h : RatV w v q) (k : Ext w w') : RatV w' v q := by
 obtain ⟨p, A, n, c, p', A', n', c', z, rfl, h1, h2, h3⟩ := h
 exact ⟨p, A, n, c, p', A', n', c', z, rfl, h1.ext k, h2.ext k, h3⟩
theorem RatV.shape {w : World} {v : Value} {q : Rat} (h : RatV w v q) : ∃ p A n c p' A' n' c', v = .agg #[.bool p, .slice A n c, .bool p', .slice A' n' c'] := by
 obtain ⟨p, A, n, c, p', A', n', c', z, rfl, h1, h2, h3⟩ := h
 exact ⟨p, A, n, c, p', A', n', c', rfl⟩
theorem RatV.zero (w : World) : RatV w (.agg #[.bool false, .slice none 0 0, .bool false, .slice none 0 0]) 0 := ⟨_, _, _, _, _, _, _, _, 0, rfl, BigV.zero w, BigV.zero w, .inr ⟨rfl, rfl⟩⟩
theorem RatV.parts {w : World} {p p' : Bool} {A A' : Option Addr} {n c n' c' : Nat} {q : Rat} (h : RatV w (.agg #[.bool p, .slice A n c, .bool p', .slice A' n' c']) q) :
 BigV w (.agg #[.bool p, .slice A n c]) q.num ∧ ∃ z, BigV w (.agg #[.bool p', .slice A' n' c']) z ∧ (z = (q.den : Int) ∨ (z = 0 ∧ q = 0)) := by
 obtain ⟨_, _, _, _, _, _, _, _, z, e, h1, h2, h3⟩ := h
 simp only [Value.agg.injEq, Array.mk.injEq, List.cons.injEq, Value.bool.injEq, Value.slice.injEq, and_true] at e
 obtain ⟨rfl, ⟨rfl, rfl, rfl⟩, rfl, rfl, rfl, rfl⟩ := e
 exact ⟨h1, z, h2, h3⟩
def RatPost (w : World) (q : Rat) (e : Ending) (w' : World) : Prop := ∃ v, e = .returned v ∧ RatV w' v q ∧ Ext w w'
theorem RatV.put {w : World} {b : Nat} {E : TypeId} {p p' r r' : Bool} {A A' D D' : Option Addr} {n c n' c' m k m' k' : Nat} {q : Rat} (h : RatV w (.agg #[.bool p, .slice A n c, .bool p', .slice A' n' c']) q) (hb : Box w b E #[.bool r, .slice D m k, .bool r', .slice D' m' k']) :
 RatV ((((w.setCell ⟨b, 0, none⟩ (.bool p)).setCell ⟨b, 1, none⟩ (.slice A n c)).setCell ⟨b, 2, none⟩ (.bool p')).setCell ⟨b, 3, none⟩ (.slice A' n' c')) (.agg #[.bool p, .slice A n c, .bool p', .slice A' n' c']) q ∧
 Box ((((w.setCell ⟨b, 0, none⟩ (.bool p)).setCell ⟨b, 1, none⟩ (.slice A n c)).setCell ⟨b, 2, none⟩ (.bool p')).setCell ⟨b, 3, none⟩ (.slice A' n' c')) b E #[.bool p, .slice A n c, .bool p', .slice A' n' c'] := by
 obtain ⟨h1, z, h2, h3⟩ := h.parts
 exact ⟨⟨_, _, _, _, _, _, _, _, z, rfl, h1.far4 hb, h2.far4 hb, h3⟩, hb.set4 _ _ _ _⟩
theorem RatV.mk {w : World} {p p' : Bool} {A A' : Option Addr} {n c n' c' : Nat} {q : Rat} (h1 : BigV w (.agg #[.bool p, .slice A n c]) q.num) (h2 : BigV w (.agg #[.bool p', .slice A' n' c']) (q.den : Int)) : RatV w (.agg #[.bool p, .slice A n c, .bool p', .slice A' n' c']) q :=
 ⟨_, _, _, _, _, _, _, _, _, rfl, h1, h2, .inl rfl⟩
set_option maxHeartbeats 4000000 in
theorem qo1 (x y : Value) (n d : Int) (L : Nat) (w : World) (hx : BigV w x n) (hy : BigV w y d) (bx : B L n) (bY : B L d) (hL : L ≤ 1099511627776) (hd : d ≠ 0) :
 Calls Tryz.prog 60 #[x, y] w (RatPost w (Rat.divInt n d)) := by
 obtain ⟨p1, A1, n1, c1, rfl⟩ := hx.shape
 obtain ⟨p2, A2, n2, c2, rfl⟩ := hy.shape
 obtain ⟨q, hq⟩ : ∃ q, q = Rat.divInt n d := ⟨_, rfl⟩
 rw [← hq]
 have HQ := Lib.hid hq
 have HD := Lib.hid hd
 clear hq hd
 obtain ⟨B0, B1, B2, hE0⟩ := boxesT3 w 56 56 58 #[.bool p1, .slice A1 n1 c1] #[.bool p2, .slice A2 n2 c2] #[.bool false, .slice none 0 0, .bool false, .slice none 0 0]
 go_enter Tryz.func60, Tryz.ntmps60
 go_wp2_with fail
 generalize (((w.alloc (.cells #[.bool p1, .slice A1 n1 c1] 56)).alloc (.cells #[.bool p2, .slice A2 n2 c2] 56)).alloc (.cells #[.bool false, .slice none 0 0, .bool false, .slice none 0 0] 58)) = W0 at *
 refine (qtk _ n W0 (hx.ext hE0)).mono ?_
 rintro e w1 ⟨rfl, hx1⟩
 have hE1 := hE0.trans hx1
 have C0 := B0.ext hx1
 have C1 := B1.ext hx1
 have C2 := B2.ext hx1
 have hx' := hx.ext hE1
 have hy' := hy.ext hE1
 clear B0 B1 B2 hE0 hx hy
 have q00 := C0.c0
 have q01 := C0.c1
 have q10 := C1.c0
 have q11 := C1.c1
 by_cases hn : n = 0
 ·have HN := Lib.hid hn
  have e1 : (n.sign == 0) = true := by rw [hn]; rfl
  clear hn
  have q20 := C2.c0
  have q21 := C2.c1
  have q22 := C2.c2
  have q23 := C2.c3
  have f20 := C2.frozen 0
  have f21 := C2.frozen 1
  have f22 := C2.frozen 2
  have f23 := C2.frozen 3
  go_wp2_with fail
  obtain ⟨pp, pb⟩ := RatV.put (RatV.zero w1) C2
  have pc0 := pb.c0
  have pc1 := pb.c1
  have pc2 := pb.c2
  have pc3 := pb.c3
  refine bodyPost_ret (v := .agg #[.bool false, .slice none 0 0, .bool false, .slice none 0 0]) (by simp [results, Tryz.results60, go_sem, pc0, pc1, pc2, pc3]) rfl ?_
  rw [HQ.out, HN.out, Rat.zero_divInt]
  exact ⟨_, rfl, pp, (((hE1.set (by simp; omega) _).set (by simp; omega) _).set (by simp; omega) _).set (by simp; omega) _⟩
 ·have e1 := q9n hn
  have HN := Lib.hid hn
  clear hn
  go_wp2_with fail
  refine (qtk _ d _ hy').mono ?_
  rintro e w2 ⟨rfl, hx2⟩
  have hE2 := hE1.trans hx2
  have D0 := C0.ext hx2
  have D1 := C1.ext hx2
  have D2 := C2.ext hx2
  have hx2' := hx'.ext hx2
  have hy2' := hy'.ext hx2
  clear C0 C1 C2 q00 q01 q10 q11 hx' hy' hE1 hx2 hx1
  obtain ⟨sd, hsd⟩ : ∃ s, s = d.sign := ⟨_, rfl⟩
  obtain ⟨sb, hsb⟩ : ∃ s, s = decide (d < 0) := ⟨_, rfl⟩
  have e2 : decide (sd < 0) = sb := by
   rw [hsd, hsb]; rcases q83 d with ⟨a, b⟩ | ⟨a, b⟩ | ⟨a, b⟩ <;> rw [b] <;> simp <;> omega
  rw [← hsd]
  have HSB := Lib.hid hsb
  clear hsd hsb
  go_upto_if 18 with fail
  go_cut [] (fun wx => ∃ (n' d' : Int) (p1 p2 : Bool) (A1 A2 : Option Addr) (n1 c1 n2 c2 : Nat), Box wx w.heap.size 56 #[.bool p1, .slice A1 n1 c1] ∧ Box wx (w.heap.size + 1) 56 #[.bool p2, .slice A2 n2 c2] ∧
   Box wx (w.heap.size + 1 + 1) 58 #[.bool false, .slice none 0 0, .bool false, .slice none 0 0] ∧ BigV wx (.agg #[.bool p1, .slice A1 n1 c1]) n' ∧ BigV wx (.agg #[.bool p2, .slice A2 n2 c2]) d' ∧ B L n' ∧ B L d' ∧ Hid (0 < d' ∧ n' ≠ 0 ∧ q = Rat.divInt n' d') ∧ Ext w wx)
  case first =>
   cases sb
   ·have hneg : ¬ d < 0 := by have := HSB.out; simpa using this
    have HC : Hid (0 < d ∧ n ≠ 0 ∧ q = Rat.divInt n d) := Lib.hid ⟨by have := HD.out; omega, HN.out, HQ.out⟩
    clear hneg
    go_wp2_with fail
    go_meet
    exact ⟨_, _, _, _, _, _, _, _, _, _, D0, D1, D2, hx2', hy2', bx, bY, HC, hE2⟩
   ·have hneg : d < 0 := by have := HSB.out; simpa using this
    have HC : Hid (0 < -d ∧ -n ≠ 0 ∧ q = Rat.divInt (-n) (-d)) := Lib.hid ⟨by omega, by have := HN.out; omega, by rw [HQ.out, Rat.neg_divInt_neg]⟩
    clear hneg
    have q00 := D0.c0
    have q01 := D0.c1
    have q10 := D1.c0
    have q11 := D1.c1
    go_upto_region 4 with fail
    go_region_with (first
     | (go_at_call 89; (with_reducible refine (qkv _ n _ (hx2'.ext eBx)).mono ?_); rintro e w3 ⟨v3, rfl, hb3, hx3⟩; (obtain ⟨p3, A3, n3, c3, rfl⟩ := hb3.shape); (have E0 := D0.drew.ext hx3); (have E1 := D1.drew.ext hx3); (have g0 := E0.c0; have g1 := E0.c1; have g2 := E1.c0; have g3 := E1.c1; have g4 := E0.frozen 0; have g5 := E0.frozen 1; have g6 := E1.frozen 0; have g7 := E1.frozen 1))
     | (go_at_call 89; (with_reducible refine (qkv _ d _ (hy2'.ext eAx)).mono ?_); rintro e w4 ⟨v4, rfl, hb4, hx4⟩; (obtain ⟨p4, A4, n4, c4, rfl⟩ := hb4.shape); (have E0 := E0.ext hx4); (have E1 := E1.ext hx4); (have h0 := E0.c0; have h1 := E0.c1; have h2 := E1.c0; have h3 := E1.c1; have h4 := E0.frozen 0; have h5 := E0.frozen 1; have h6 := E1.frozen 0; have h7 := E1.frozen 1)))
    all_goals (go_wp2_with fail; go_meet)
    all_goals (obtain ⟨wz, hwz, z1, z2, z3, z4⟩ := qnz (by omega) (hb3.ext hx4) hb4 E0 E1)
    all_goals (have z5 := (((((D2.drew.ext hx3).ext hx4).far (p := ⟨w.heap.size, 0, none⟩) (by simp; omega) (.bool p3)).far (p := ⟨w.heap.size, 1, none⟩) (by simp; omega) (.slice A3 n3 c3)).far (p := ⟨w.heap.size + 1, 0, none⟩) (by simp) (.bool p4)).far (p := ⟨w.heap.size + 1, 1, none⟩) (by simp) (.slice A4 n4 c4))
    all_goals (have z6 := (((((hE2.drew.trans hx3).trans hx4).set (p := ⟨w.heap.size, 0, none⟩) (Nat.le_refl _) (.bool p3)).set (p := ⟨w.heap.size, 1, none⟩) (Nat.le_refl _) (.slice A3 n3 c3)).set (p := ⟨w.heap.size + 1, 0, none⟩) (by simp) (.bool p4)).set (p := ⟨w.heap.size + 1, 1, none⟩) (by simp) (.slice A4 n4 c4))
    all_goals (rw [← hwz] at z5 z6 ⊢; exact ⟨_, _, _, _, _, _, _, _, _, _, z3, z4, z5, z1, z2, qe8 bx, qe8 bY, HC, z6⟩)
  case rest =>
   clear D0 D1 D2 hx2' hy2' HSB e2
   obtain ⟨m, k, p1, p2, A1, A2, n1, c1, n2, c2, B0, B1, B2, hm, hk, bm, bk, HC, hE⟩ := hcut
   have q00 := B0.c0
   have q01 := B0.c1
   have q10 := B1.c0
   have q11 := B1.c1
   go_wp2_with fail
   refine (Gcd_any _ _ m k L _ hm hk bm bk hL).mono ?_
   rintro e w3 ⟨v3, rfl, hg, hx3⟩
   obtain ⟨g, hgv⟩ : ∃ g : Int, g = ((Nat.gcd m.natAbs k.natAbs : Nat) : Int) := ⟨_, rfl⟩
   rw [← hgv] at hg
   have hg0 : g ≠ 0 := by
    have := Nat.gcd_pos_of_pos_left k.natAbs (show 0 < m.natAbs by have := HC.out.2.1; omega); omega
   have HG0 := Lib.hid hg0
   have HGV := Lib.hid hgv
   clear hgv hg0
   obtain ⟨p3, A3, n3, c3, rfl⟩ := hg.shape
   go_upto_region 6 with fail
   have hx4 : Ext w3 (w3.alloc (.cells #[.bool p3, .slice A3 n3 c3] 56)) := (Ext.refl w3).alloc _
   have B3 := Box.new w3 56 #[.bool p3, .slice A3 n3 c3]
   have hx34 := hx3.trans hx4
   have hg := hg.ext hx4
   have hm := hm.ext hx34
   have hk := hk.ext hx34
   have B0 := B0.ext hx34
   have B1 := B1.ext hx34
   have B2 := B2.ext hx34
   have hE := hE.trans hx34
   generalize (w3.alloc (.cells #[.bool p3, .slice A3 n3 c3] 56)) = w4 at *
   clear hx3 hx4 hx34
   have q00 := B0.c0
   have q01 := B0.c1
   have q10 := B1.c0
   have q11 := B1.c1
   have q30 := B3.c0
   have q31 := B3.c1
   go_wp2_with fail
   refine (qcp _ _ m g L _ hm hg bm hL HG0.out).mono ?_
   rintro e w5 ⟨v5, v6, rfl, h5, h6, hx5⟩
   obtain ⟨p5, A5, n5, c5, rfl⟩ := h5.shape
   obtain ⟨p6, A6, n6, c6, rfl⟩ := h6.shape
   clear h6
   obtain ⟨M, hM⟩ : ∃ M, M = m.tdiv g := ⟨_, rfl⟩
   rw [← hM] at h5
   have HM := Lib.hid hM
   clear hM
   go_upto_region 7 with fail
   obtain ⟨B5, B6, hx6⟩ := qc5 w5 56 #[.bool p5, .slice A5 n5 c5] #[.bool p6, .slice A6 n6 c6]
   have hx56 := hx5.trans hx6
   have hg := hg.ext hx56
   have hk := hk.ext hx56
   have h5 := h5.ext hx6
   have B1 := B1.ext hx56
   have B2 := B2.ext hx56
   have B3 := B3.ext hx56
   have hE := hE.trans hx56
   generalize ((w5.alloc (.cells #[.bool p5, .slice A5 n5 c5] 56)).alloc (.cells #[.bool p6, .slice A6 n6 c6] 56)) = w6 at *
   clear hx5 hx6 hx56 B0 B6 hm
   have q10 := B1.c0
   have q11 := B1.c1
   have q30 := B3.c0
   have q31 := B3.c1
   go_wp2_with fail
   refine (qcp _ _ k g L _ hk hg bk hL HG0.out).mono ?_
   rintro e w7 ⟨v7, v8, rfl, h7, h8, hx7⟩
   obtain ⟨p7, A7, n7, c7, rfl⟩ := h7.shape
   obtain ⟨p8, A8, n8, c8, rfl⟩ := h8.shape
   clear h8
   obtain ⟨D, hD⟩ : ∃ M, M = k.tdiv g := ⟨_, rfl⟩
   rw [← hD] at h7
   have HDD := Lib.hid hD
   clear hD
   go_upto_region 8 with fail
   obtain ⟨B7, B8, hx8⟩ := qc5 w7 56 #[.bool p7, .slice A7 n7 c7] #[.bool p8, .slice A8 n8 c8]
   have hx78 := hx7.trans hx8
   have h5 := h5.ext hx78
   have h7 := h7.ext hx8
   have B2 := B2.ext hx78
   have B5 := B5.ext hx78
   have hE := hE.trans hx78
   generalize ((w7.alloc (.cells #[.bool p7, .slice A7 n7 c7] 56)).alloc (.cells #[.bool p8, .slice A8 n8 c8] 56)) = w8 at *
   clear hx7 hx8 hx78 B1 B3 B8 hk hg
   have q50 := B5.c0
   have q51 := B5.c1
   have q70 := B7.c0
   have q71 := B7.c1
   have q20 := B2.c0
   have q21 := B2.c1
   have q22 := B2.c2
   have q23 := B2.c3
   have f20 := B2.frozen 0
   have f21 := B2.frozen 1
   have f22 := B2.frozen 2
   have f23 := B2.frozen 3
   have hR : RatV w8 (.agg #[.bool p5, .slice A5 n5 c5, .bool p7, .slice A7 n7 c7]) q := by
    obtain ⟨r1, r2⟩ := red_pos (n := m) HC.out.1
    rw [HM.out, HGV.out, ← r1, ← HC.out.2.2] at h5
    rw [HDD.out, HGV.out, ← r2, ← HC.out.2.2] at h7
    exact RatV.mk h5 h7
   go_wp2_with fail
   obtain ⟨pp, pb⟩ := RatV.put hR B2
   have pc0 := pb.c0
   have pc1 := pb.c1
   have pc2 := pb.c2
   have pc3 := pb.c3
   refine bodyPost_ret (v := .agg #[.bool p5, .slice A5 n5 c5, .bool p7, .slice A7 n7 c7]) (by simp [results, Tryz.results60, go_sem, pc0, pc1, pc2, pc3]) rfl ?_
   exact ⟨_, rfl, pp, (((hE.set (by simp; omega) _).set (by simp; omega) _).set (by simp; omega) _).set (by simp; omega) _⟩
def QB (k : Nat) (q : Rat) : Prop := B k q.num ∧ B k (q.den : Int)
theorem qqj {j k : Nat} {q : Rat} (h : j ≤ k) (b : QB j q) : QB k q := ⟨q3x h b.1, q3x h b.2⟩
theorem qgv {k : Nat} (h : 0 < k) : B k 1 := by
 have := pw_le h
 rw [qfj] at this
 unfold B; omega
theorem qnv {k : Nat} {q : Rat} (b : QB k q) : 0 < k := by
 rcases Nat.eq_zero_or_pos k with h | h
 ·subst h
  have := b.2
  unfold B at this
  rw [qcr] at this
  have := q.den_pos
  omega
 ·exact h
theorem qvh {j k : Nat} {n d : Int} (hn : B j n) (hd : B k d) (h : d ≠ 0) : QB (max j k) (Rat.divInt n d) := by
 have key : ∀ n d : Int, B j n → B k d → 0 < d → QB (max j k) (Rat.divInt n d) := by
  intro n d hn hd h
  obtain ⟨a, b⟩ := red_pos (n := n) h
  refine ⟨?_, ?_⟩
  ·rw [a]; exact q3x (Nat.le_max_left _ _) (qgx _ hn)
  ·rw [b]; exact q3x (Nat.le_max_right _ _) (qgx _ hd)
 rcases Int.lt_or_lt_of_ne h with h | h
 ·rw [← Rat.neg_divInt_neg]; exact key _ _ (qe8 hn) (qe8 hd) (by omega)
 ·exact key _ _ hn hd h
theorem qwg {k : Nat} {q : Rat} (b : QB k q) : QB k (-q) := ⟨by rw [Rat.neg_num]; exact qe8 b.1, by rw [Rat.neg_den]; exact b.2⟩
theorem qa4 {j k : Nat} {x y : Rat} (a : QB j x) (b : QB k y) : QB (j + k + 1) (x + y) := by
 rw [add_eq]
 have h := qvh (B_add (k := j + k) (q4k a.1 b.2) (by rw [Nat.add_comm]; exact q4k b.1 a.2)) (q4k a.2 b.2) (by have := x.den_pos; have := y.den_pos; exact Int.mul_ne_zero (by omega) (by omega))
 exact qqj (by omega) h
theorem qvy {j k : Nat} {x y : Rat} (a : QB j x) (b : QB k y) : QB (j + k) (x * y) := by
 rw [mul_eq]
 have h := qvh (q4k a.1 b.1) (q4k a.2 b.2) (by have := x.den_pos; have := y.den_pos; exact Int.mul_ne_zero (by omega) (by omega))
 exact qqj (by omega) h
theorem QB_div {j k : Nat} {x y : Rat} (a : QB j x) (b : QB k y) (hy : y.num ≠ 0) : QB (j + k) (x / y) := by
 rw [div_eq]
 have h := qvh (q4k a.1 b.2) (q4k a.2 b.1) (by have := x.den_pos; exact Int.mul_ne_zero (by omega) hy)
 exact qqj (by omega) h
def RatB (w : World) (v : Value) (q : Rat) (k : Nat) : Prop := RatV w v q ∧ QB k q
theorem RatB.ext {w w' : World} {v : Value} {q : Rat} {k : Nat} (h : RatB w v q k) (x : Ext w w') : RatB w' v q k := ⟨h.1.ext x, h.2⟩
def q3z (w : World) (q : Rat) (k : Nat) (e : Ending) (w' : World) : Prop := ∃ v, e = .returned v ∧ RatB w' v q k ∧ Ext w w'
theorem toR {w : World} {q : Rat} {k : Nat} (b : QB k q) {e : Ending} {w' : World} (h : RatPost w q e w') : q3z w q k e w' := by
 obtain ⟨v, rfl, h1, h2⟩ := h
 exact ⟨v, rfl, ⟨h1, b⟩, h2⟩
theorem red_b (x y : Value) (n d : Int) (j k : Nat) (w : World) (hx : BigB w x n j) (hy : BigB w y d k) (hL : max j k ≤ 1099511627776) (hd : d ≠ 0) : Calls Tryz.prog 60 #[x, y] w (q3z w (Rat.divInt n d) (max j k)) :=
 (qo1 x y n d (max j k) w hx.1 hy.1 (q3x (Nat.le_max_left _ _) hx.2) (q3x (Nat.le_max_right _ _) hy.2) hL hd).mono fun _ _ h => toR (qvh hx.2 hy.2 hd) h
theorem q07 (x : Value) (q : Rat) (k : Nat) (w : World) (hx : RatB w x q k) : Calls Tryz.prog 44 #[x] w (qec w (q.den : Int) k) := by
 obtain ⟨p, A, n, c, p', A', n', c', rfl⟩ := hx.1.shape
 obtain ⟨-, z, hz, hzq⟩ := hx.1.parts
 have hb := hx.2
 obtain ⟨D, hD⟩ : ∃ D : Int, D = (q.den : Int) := ⟨_, rfl⟩
 have hDp : 0 < D := by have := q.den_pos; omega
 have bD : B k D := by rw [hD]; exact hb.2
 have hzD : z = D ∨ (z = 0 ∧ D = 1) := by
  rcases hzq with h | ⟨h, h2⟩
  ·exact .inl (h.trans hD.symm)
  ·exact .inr ⟨h, by rw [hD, h2]; rfl⟩
 rw [← hD]
 clear hD hzq hx hb
 obtain ⟨B0, B1, hE0⟩ := qwt w 58 56 #[.bool p, .slice A n c, .bool p', .slice A' n' c'] #[.bool false, .slice none 0 0]
 go_enter Tryz.func44, Tryz.ntmps44
 go_wp2_with fail
 generalize ((w.alloc (.cells #[.bool p, .slice A n c, .bool p', .slice A' n' c'] 58)).alloc (.cells #[.bool false, .slice none 0 0] 56)) = W0 at *
 refine (qtk _ z W0 (hz.ext hE0)).mono ?_
 rintro e w1 ⟨rfl, hx1⟩
 have hE1 := hE0.trans hx1
 have B0 := B0.ext hx1
 have B1 := B1.ext hx1
 have hz := hz.ext hE1
 obtain ⟨sz, hsz⟩ : ∃ s, s = z.sign := ⟨_, rfl⟩
 rw [← hsz]
 rcases hzD with h | ⟨h, h'⟩
 ·subst h
  have e1 : (sz == 0) = false := by rw [hsz]; exact q9n (by omega)
  clear hsz
  have q0 := B0.c0
  have q1 := B0.c1
  have q2 := B0.c2
  have q3 := B0.c3
  have r0 := B1.c0
  have r1 := B1.c1
  have f0 := B1.frozen 0
  have f1 := B1.frozen 1
  go_wp2_with fail
  obtain ⟨p1, p2, p3⟩ := hz.put B1
  refine bodyPost_ret (v := .agg #[.bool p', .slice A' n' c']) (by simp [results, Tryz.results44, go_sem, p2, p3]) rfl ?_
  exact ⟨_, rfl, ⟨p1, bD⟩, (hE1.set (by simp) _).set (by simp) _⟩
 ·have e1 : (sz == 0) = true := by rw [hsz, h]; rfl
  subst h'
  clear hsz
  go_wp2_with fail
  refine (qob 1 _ (by decide) (by decide)).mono ?_
  rintro e w2 ⟨v2, rfl, h2, hx2⟩
  obtain ⟨p2, A2, n2, c2, rfl⟩ := h2.shape
  have B1 := B1.ext hx2
  have hE2 := hE1.trans hx2
  have r0 := B1.c0
  have r1 := B1.c1
  have f0 := B1.frozen 0
  have f1 := B1.frozen 1
  go_wp2_with fail
  obtain ⟨p1, p2', p3⟩ := h2.put B1
  refine bodyPost_ret (v := .agg #[.bool p2, .slice A2 n2 c2]) (by simp [results, Tryz.results44, go_sem, p2', p3]) rfl ?_
  exact ⟨_, rfl, ⟨p1, bD⟩, (hE2.set (by simp) _).set (by simp) _⟩
theorem RatNum_b (x : Value) (q : Rat) (k : Nat) (w : World) (hx : RatB w x q k) : Calls Tryz.prog 112 #[x] w (qec w q.num k) := by
 obtain ⟨p, A, n, c, p', A', n', c', rfl⟩ := hx.1.shape
 obtain ⟨hn, -⟩ := hx.1.parts
 have hb := hx.2.1
 clear hx
 obtain ⟨B0, B1, hE0⟩ := qwt w 58 56 #[.bool p, .slice A n c, .bool p', .slice A' n' c'] #[.bool p, .slice A n c]
 have hn := hn.ext hE0
 have p2 := B1.c0
 have p3 := B1.c1
 go_enter Tryz.func112, Tryz.ntmps112
 go_wp2_with fail
 refine bodyPost_ret (v := .agg #[.bool p, .slice A n c]) (by simp [results, Tryz.results112, go_sem]) rfl ?_
 exact ⟨_, rfl, ⟨hn, hb⟩, hE0⟩
theorem qpl (x : Value) (q : Rat) (k : Nat) (w : World) (hx : RatB w x q k) : Calls Tryz.prog 61 #[x] w (qni w q.num.sign) := by
 obtain ⟨p, A, n, c, p', A', n', c', rfl⟩ := hx.1.shape
 obtain ⟨hn, -⟩ := hx.1.parts
 clear hx
 have hE0 : Ext w (w.alloc (.cells #[.bool p, .slice A n c, .bool p', .slice A' n' c'] 58)) := (Ext.refl w).alloc _
 have hn := hn.ext hE0
 go_enter Tryz.func61, Tryz.ntmps61
 go_wp2_with fail
 refine (qtk _ _ _ hn).mono ?_
 rintro e w1 ⟨rfl, hx1⟩
 go_wp2_with fail
 go_ret
 exact ⟨rfl, hE0.trans hx1⟩
theorem qsz (x : Value) (q : Rat) (k : Nat) (w : World) (hx : RatB w x q k) : Calls Tryz.prog 168 #[x] w (q3z w (-q) k) := by
 obtain ⟨p, A, n, c, p', A', n', c', rfl⟩ := hx.1.shape
 obtain ⟨hn, z, hz, hzq⟩ := hx.1.parts
 have hb := qwg hx.2
 clear hx
 go_enter Tryz.func168, Tryz.ntmps168
 go_wp2_with fail
 obtain ⟨B0, B1, hE0⟩ := qwt w 58 58 #[.bool p, .slice A n c, .bool p', .slice A' n' c'] #[.bool false, .slice none 0 0, .bool false, .slice none 0 0]
 generalize ((w.alloc (.cells #[.bool p, .slice A n c, .bool p', .slice A' n' c'] 58)).alloc (.cells #[.bool false, .slice none 0 0, .bool false, .slice none 0 0] 58)) = W0 at *
 have k0 := KE.box (w := w) (R := [w.heap.size + 1]) B0 (by simp) 0
 have k1 := KE.box (w := w) (R := [w.heap.size + 1]) B0 (by simp) 1
 have k2 := KE.box (w := w) (R := [w.heap.size + 1]) B0 (by simp) 2
 have k3 := KE.box (w := w) (R := [w.heap.size + 1]) B0 (by simp) 3
 simp at k0 k1 k2 k3
 have ks := KE.start (R := [w.heap.size + 1]) hE0 (by simp)
 have hn0 := hn.ext hE0
 have hz0 := hz.ext hE0
 go_region_held3 (fun w' => KE [w.heap.size + 1] w W0 w') ((repeat (first | assumption | apply KE.drew | apply KE.drewN | apply KE.alloc | (refine KE.set ?_ (by simp) _) | (refine KE.step ?_ (by assumption))))) (first
  | (go_at_call 89; (with_reducible refine (qkv _ _ _ (hn0.ext eBx)).mono ?_); rintro e w1 ⟨v1, rfl, hb1, hxA⟩; (obtain ⟨p1, A1, n1, c1, rfl⟩ := hb1.shape); have b2 := B1.drew.ext hxA; have q0 := b2.c0; have q1 := b2.c1; have q2 := b2.c2; have q3 := b2.c3; have f0 := b2.frozen 0; have f1 := b2.frozen 1; have f2 := b2.frozen 2; have f3 := b2.frozen 3; have hz1 := (hz0.ext (Ext.refl _).drew).ext hxA)
  )
 have hR : RatV w1 (.agg #[.bool p1, .slice A1 n1 c1, .bool p', .slice A' n' c']) (-q) := by
  refine ⟨_, _, _, _, _, _, _, _, z, rfl, by rw [Rat.neg_num]; exact hb1, hz1, ?_⟩
  rcases hzq with h | ⟨h, h2⟩
  ·exact .inl (by rw [Rat.neg_den]; exact h)
  ·exact .inr ⟨h, by rw [h2]; rfl⟩
 go_wp2_with fail
 obtain ⟨pp, pb⟩ := RatV.put hR b2
 have pc0 := pb.c0
 have pc1 := pb.c1
 have pc2 := pb.c2
 have pc3 := pb.c3
 refine bodyPost_ret (v := .agg #[.bool p1, .slice A1 n1 c1, .bool p', .slice A' n' c']) (by simp [results, Tryz.results168, go_sem, pc0, pc1, pc2, pc3]) rfl ?_
 exact ⟨_, rfl, ⟨pp, hb⟩, KE.ext (R := [w.heap.size + 1]) (W0 := W0) (by assumption)⟩
theorem qm5 (n : Int) : Rat.divInt n 1 = (n : Rat) := by
 have h := Rat.num_divInt_den (n : Rat)
 rw [Rat.num_intCast, Rat.den_intCast] at h
 exact h
theorem qfw (n : Int) (w : World) (h0 : -9223372036854775808 ≤ n) (h1 : n ≤ 9223372036854775807) : Calls Tryz.prog 20 #[.int .i64 n] w (q3z w (n : Rat) 2) := by
 rw [← qm5]
 have hE0 : Ext w (w.alloc (.cells #[.bool false, .slice none 0 0, .bool false, .slice none 0 0] 58)) := (Ext.refl w).alloc _
 have B1 := Box.new w 58 #[.bool false, .slice none 0 0, .bool false, .slice none 0 0]
 obtain ⟨q, hq⟩ : ∃ q, q = Rat.divInt n 1 := ⟨_, rfl⟩
 rw [← hq]
 have HQ := Lib.hid hq
 clear hq
 go_enter Tryz.func20, Tryz.ntmps20
 go_wp2_with fail
 refine (Of_b n _ h0 h1).mono ?_
 rintro e w1 ⟨v1, rfl, hb1, hx1⟩
 obtain ⟨p1, A1, n1, c1, rfl⟩ := hb1.1.shape
 go_wp2_with fail
 refine (Of_b 1 _ (by decide) (by decide)).mono ?_
 rintro e w2 ⟨v2, rfl, hb2, hx2⟩
 obtain ⟨p2, A2, n2, c2, rfl⟩ := hb2.1.shape
 go_wp2_with fail
 refine (red_b _ _ _ _ _ _ _ (hb1.ext hx2) hb2 (by decide) (by decide)).mono ?_
 rintro e w3 ⟨v3, rfl, hb3, hx3⟩
 rw [← HQ.out] at hb3
 obtain ⟨p, A, n3, c3, p', A', n', c', rfl⟩ := hb3.1.shape
 have hE3 := ((hE0.trans hx1).trans hx2).trans hx3
 have b2 := ((B1.ext hx1).ext hx2).ext hx3
 have q0 := b2.c0
 have q1 := b2.c1
 have q2 := b2.c2
 have q3 := b2.c3
 have f0 := b2.frozen 0
 have f1 := b2.frozen 1
 have f2 := b2.frozen 2
 have f3 := b2.frozen 3
 go_wp2_with fail
 obtain ⟨pp, pb⟩ := RatV.put hb3.1 b2
 have pc0 := pb.c0
 have pc1 := pb.c1
 have pc2 := pb.c2
 have pc3 := pb.c3
 refine bodyPost_ret (v := .agg #[.bool p, .slice A n3 c3, .bool p', .slice A' n' c']) (by simp [results, Tryz.results20, go_sem, pc0, pc1, pc2, pc3]) rfl ?_
 exact ⟨_, rfl, ⟨pp, hb3.2⟩, (((hE3.set (by simp) _).set (by simp) _).set (by simp) _).set (by simp) _⟩
def qxu (w : World) (q : Rat) (k : Nat) (e : Ending) (w' : World) : Prop := ∃ v, e = .returned (.tuple #[v, .int .i64 0]) ∧ RatB w' v q k ∧ Ext w w'
theorem Make_b (x y : Value) (n d : Int) (j k : Nat) (w : World) (hx : BigB w x n j) (hy : BigB w y d k) (hL : max j k ≤ 1099511627776) (hd : d ≠ 0) : Calls Tryz.prog 66 #[x, y] w (qxu w (Rat.divInt n d) (max j k)) := by
 obtain ⟨p1, A1, n1, c1, rfl⟩ := hx.1.shape
 obtain ⟨p2, A2, n2, c2, rfl⟩ := hy.1.shape
 obtain ⟨sd, hsd⟩ : ∃ s, s = d.sign := ⟨_, rfl⟩
 have e1 : (sd == 0) = false := by rw [hsd]; exact q9n hd
 have HD := Lib.hid hd
 have HS := Lib.hid hsd
 clear hd hsd
 obtain ⟨B0, B1, B2, hE0⟩ := boxesT3 w 56 56 58 #[.bool p1, .slice A1 n1 c1] #[.bool p2, .slice A2 n2 c2] #[.bool false, .slice none 0 0, .bool false, .slice none 0 0]
 go_enter Tryz.func66, Tryz.ntmps66
 go_wp2_with fail
 generalize (((w.alloc (.cells #[.bool p1, .slice A1 n1 c1] 56)).alloc (.cells #[.bool p2, .slice A2 n2 c2] 56)).alloc (.cells #[.bool false, .slice none 0 0, .bool false, .slice none 0 0] 58)) = W0 at *
 refine (qtk _ d W0 (hy.1.ext hE0)).mono ?_
 rintro e w1 ⟨rfl, hx1⟩
 rw [← HS.out]
 have hE1 := hE0.trans hx1
 have B0 := B0.ext hx1
 have B1 := B1.ext hx1
 have B2 := B2.ext hx1
 have r0 := B0.c0
 have r1 := B0.c1
 have s0 := B1.c0
 have s1 := B1.c1
 go_wp2_with fail
 refine (red_b _ _ _ _ _ _ _ (hx.ext hE1) (hy.ext hE1) hL HD.out).mono ?_
 rintro e w3 ⟨v3, rfl, hb3, hx3⟩
 obtain ⟨p, A, n3, c3, p', A', n', c', rfl⟩ := hb3.1.shape
 have hE3 := hE1.trans hx3
 have b2 := B2.ext hx3
 have q0 := b2.c0
 have q1 := b2.c1
 have q2 := b2.c2
 have q3 := b2.c3
 have f0 := b2.frozen 0
 have f1 := b2.frozen 1
 have f2 := b2.frozen 2
 have f3 := b2.frozen 3
 go_wp2_with fail
 obtain ⟨pp, pb⟩ := RatV.put hb3.1 b2
 have pc0 := pb.c0
 have pc1 := pb.c1
 have pc2 := pb.c2
 have pc3 := pb.c3
 refine bodyPost_ret (v := .tuple #[.agg #[.bool p, .slice A n3 c3, .bool p', .slice A' n' c'], .int .i64 0]) (by simp [results, Tryz.results66, go_sem, pc0, pc1, pc2, pc3]) rfl ?_
 exact ⟨_, rfl, ⟨pp, hb3.2⟩, (((hE3.set (by simp; omega) _).set (by simp; omega) _).set (by simp; omega) _).set (by simp; omega) _⟩
theorem q6i (n d : Int) (w : World) (h0 : -9223372036854775808 ≤ n) (h1 : n ≤ 9223372036854775807) (d0 : -9223372036854775808 ≤ d) (d1 : d ≤ 9223372036854775807) (hd : d ≠ 0) : Calls Tryz.prog 29 #[.int .i64 n, .int .i64 d] w (qxu w (Rat.divInt n d) 2) := by
 have HD := Lib.hid hd
 clear hd
 have hE0 : Ext w (w.alloc (.cells #[.bool false, .slice none 0 0, .bool false, .slice none 0 0] 58)) := (Ext.refl w).alloc _
 have B1 := Box.new w 58 #[.bool false, .slice none 0 0, .bool false, .slice none 0 0]
 go_enter Tryz.func29, Tryz.ntmps29
 go_wp2_with fail
 refine (Of_b n _ h0 h1).mono ?_
 rintro e w1 ⟨v1, rfl, hb1, hx1⟩
 obtain ⟨p1, A1, n1, c1, rfl⟩ := hb1.1.shape
 go_wp2_with fail
 refine (Of_b d _ d0 d1).mono ?_
 rintro e w2 ⟨v2, rfl, hb2, hx2⟩
 obtain ⟨p2, A2, n2, c2, rfl⟩ := hb2.1.shape
 go_wp2_with fail
 refine (Make_b _ _ _ _ _ _ _ (hb1.ext hx2) hb2 (by decide) HD.out).mono ?_
 rintro e w3 ⟨v3, rfl, hb3, hx3⟩
 obtain ⟨p, A, n3, c3, p', A', n', c', rfl⟩ := hb3.1.shape
 have b2 := ((B1.ext hx1).ext hx2).ext hx3
 have hE3 := ((hE0.trans hx1).trans hx2).trans hx3
 have q0 := b2.c0
 have q1 := b2.c1
 have q2 := b2.c2
 have q3 := b2.c3
 have f0 := b2.frozen 0
 have f1 := b2.frozen 1
 have f2 := b2.frozen 2
 have f3 := b2.frozen 3
 go_wp2_with fail
 obtain ⟨pp, pb⟩ := RatV.put hb3.1 b2
 have pc0 := pb.c0
 have pc1 := pb.c1
 have pc2 := pb.c2
 have pc3 := pb.c3
 refine bodyPost_ret (v := .tuple #[.agg #[.bool p, .slice A n3 c3, .bool p', .slice A' n' c'], .int .i64 0]) (by simp [results, Tryz.results29, go_sem, pc0, pc1, pc2, pc3]) rfl ?_
 exact ⟨_, rfl, ⟨pp, hb3.2⟩, (((hE3.set (by simp) _).set (by simp) _).set (by simp) _).set (by simp) _⟩
end Go.Proofs.YtljncdcjkdgkeaaGreatDoor.Rt

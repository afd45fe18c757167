/- Walks: a strings.Builder that is written (after the library's own walks, at this program's copyCheck). Plain: decimal digits in chunks of nine. Walks: Text. -/
import Derived.Test.YthafabkjidifeaaShelf
import Derived.Test.YthafabkjidifeaaMem2
import Derived.Lib.AppendStr
import Derived.Shelf.Strings.Builder1
import Derived.Test.YthafabkjidifeaaVal3
import Derived.Lib.ItoaNum
import Derived.Lib.ItoaMem
import Derived.Shelf.Strings.Repeat
import Derived.Test.YthafabkjidifeaaW15
import Derived.Deep.LoopGhost
import Derived.Deep.AppendLies
set_option linter.unusedVariables false
set_option linter.unusedSimpArgs false
namespace Go.Proofs.Ythafabkjidifeaa.Big
open Go.RowKit Go.Lib

section
theorem infoByte : (Try.prog.info? 5).map (fun i => (i.zero, i.size, i.bytes)) = some (some (.int .u8 0), 1, 1) := by kernel_rfl

end
end Go.Proofs.Ythafabkjidifeaa.Big

namespace Go.Proofs.Ythafabkjidifeaa.Big
open Go.Lib

def pad : Nat → Nat → List UInt8
  | 0, _ => []
  | k + 1, r => pad k (r / 10) ++ [UInt8.ofNat (48 + r % 10)]
theorem decDigits_big {u : Nat} (h : ¬ u < 10) : decDigits u = decDigits (u / 10) ++ [UInt8.ofNat (48 + u % 10)] := by rw [decDigits, dif_neg h]
theorem decDigits_pad {q : Nat} (hq : 1 ≤ q) : ∀ (k r : Nat), r < 10 ^ k → decDigits (q * 10 ^ k + r) = decDigits q ++ pad k r := by
  intro k
  induction k with
  | zero => intro r hr; have : r = 0 := by simpa using hr
            subst this; simp [pad]
  | succ k ih =>
    intro r hr
    have h10 : 10 ^ (k + 1) = 10 * 10 ^ k := by rw [Nat.pow_succ, Nat.mul_comm]
    have e : q * 10 ^ (k + 1) + r = 10 * (q * 10 ^ k) + r := by rw [h10, Nat.mul_left_comm]
    have hpos : 1 ≤ q * 10 ^ k := Nat.mul_pos hq (Nat.pow_pos (by omega))
    rw [decDigits_big (by omega), e, show (10 * (q * 10 ^ k) + r) / 10 = q * 10 ^ k + r / 10 by omega, show (10 * (q * 10 ^ k) + r) % 10 = r % 10 by omega,
      ih (r / 10) (by rw [h10] at hr; omega), pad, List.append_assoc]
theorem pad_zero (k : Nat) : pad k 0 = List.replicate k 48 := by
  induction k with
  | zero => rfl
  | succ k ih => simp only [pad, Nat.zero_div, ih]; rw [List.replicate_succ']; rfl
theorem nDigits_le {r k : Nat} (hk : 1 ≤ k) (h : r < 10 ^ k) : nDigits r ≤ k := by
  induction k generalizing r with
  | zero => omega
  | succ k ih =>
    by_cases h10 : r < 10
    · rw [nDigits_small h10]; omega
    · rw [nDigits_big h10]
      have hk1 : 1 ≤ k := by
        rcases Nat.eq_zero_or_pos k with h0 | h0
        · subst h0; simp at h; omega
        · exact h0
      have := ih hk1 (r := r / 10) (by rw [Nat.pow_succ] at h; omega)
      omega
theorem pad_eq {k : Nat} (hk : 1 ≤ k) : ∀ r, r < 10 ^ k → pad k r = List.replicate (k - nDigits r) 48 ++ decDigits r := by
  induction k with
  | zero => omega
  | succ k ih =>
    intro r h
    by_cases h10 : r < 10
    · rw [pad, Nat.div_eq_of_lt h10, pad_zero, nDigits_small h10, decDigits_one h10, Nat.mod_eq_of_lt h10]; rfl
    · have hk1 : 1 ≤ k := by
        rcases Nat.eq_zero_or_pos k with h0 | h0
        · subst h0; simp at h; omega
        · exact h0
      have hr : r / 10 < 10 ^ k := by rw [Nat.pow_succ] at h; omega
      have := nDigits_le hk1 hr
      rw [pad, ih hk1 _ hr, decDigits_big h10, nDigits_big h10, List.append_assoc, show k + 1 - (nDigits (r / 10) + 1) = k - nDigits (r / 10) by omega]

/-- chunks, the least first, and the greatest first -/
def le9 : List Nat → Nat
  | [] => 0
  | c :: l => c + 1000000000 * le9 l
def be9 (l : List Nat) : Nat := l.foldl (fun a x => a * 1000000000 + x) 0
theorem be9_snoc (l : List Nat) (x : Nat) : be9 (l ++ [x]) = be9 l * 1000000000 + x := by unfold be9; rw [List.foldl_append]; rfl
theorem be9_reverse (l : List Nat) : be9 l.reverse = le9 l := by
  induction l with
  | nil => rfl
  | cons c l ih => rw [List.reverse_cons, be9_snoc, ih, le9]; omega
theorem le9_snoc (l : List Nat) (x : Nat) : le9 (l ++ [x]) = le9 l + 1000000000 ^ l.length * x := by
  induction l with
  | nil => simp [le9]
  | cons c l ih => simp only [List.cons_append, le9, ih, List.length_cons, Nat.pow_succ]; rw [Nat.mul_add, ← Nat.mul_assoc, Nat.mul_comm 1000000000 (1000000000 ^ l.length)]; omega
def txt : List Nat → List UInt8
  | [] => []
  | c :: r => decDigits c ++ r.flatMap (pad 9)
theorem txt_snoc {l : List Nat} (h : l ≠ []) (x : Nat) : txt (l ++ [x]) = txt l ++ pad 9 x := by
  cases l with
  | nil => exact absurd rfl h
  | cons c r => simp [txt]
theorem txt_eq (n : Nat) : ∀ (l : List Nat), l.length = n → (∀ x ∈ l, x < 1000000000) → ∀ c, 1 ≤ c → txt (c :: l) = decDigits (be9 (c :: l)) ∧ 1 ≤ be9 (c :: l) := by
  induction n with
  | zero =>
    intro l hn _ c hc
    have : l = [] := List.eq_nil_of_length_eq_zero hn
    subst this
    simp [txt, be9]; exact hc
  | succ n ih =>
    intro l hn hl c hc
    rcases List.eq_nil_or_concat l with h | ⟨L, x, h⟩
    · subst h; simp at hn
    · rw [List.concat_eq_append] at h
      subst h
      obtain ⟨i1, i2⟩ := ih L (by simp at hn; exact hn) (fun y hy => hl y (by simp [hy])) c hc
      have hx := hl x (by simp)
      rw [← List.cons_append, txt_snoc (by simp), be9_snoc, i1]
      exact ⟨(decDigits_pad i2 9 x hx).symm, by omega⟩

end Go.Proofs.Ythafabkjidifeaa.Big

namespace Go.Proofs.Ythafabkjidifeaa.Big
open Go.RowKit

theorem ownsRow_ext {w w' : World} {base : Nat} {e : TypeId} {size : Nat} {v : Value} {n : Nat} {xs : List Value} (h : w.ownsRow base e size v n xs) (k : Ext w w') : w'.ownsRow base e size v n xs := by
  obtain ⟨h1, h2⟩ := h
  refine ⟨h1, ?_⟩
  rcases h2 with h2 | ⟨g, cap, cur, h3, h4, h5, h6⟩
  · exact .inl h2
  · have hlt : g < w.heap.size := by
      rcases Nat.lt_or_ge g w.heap.size with h' | h'
      · exact h'
      · rw [Array.getElem?_eq_none h'] at h5; cases h5
    exact .inr ⟨g, cap, cur, h3, h4, (Below.block k g hlt).trans h5, h6⟩
theorem isBuilder_ext {w w' : World} {T e : TypeId} {B b : Nat} {bs : List Value} (h : Lib.IsBuilder T e B b bs w) (k : Ext w w') : Lib.IsBuilder T e B b bs w' := by
  have key : ∀ p, Lib.BuilderAt T e B b p bs w → Lib.BuilderAt T e B b p bs w' := by
    rintro p ⟨h1, v, h2, h3, h4⟩
    exact ⟨h1, v, (Below.block k b (Box.lt (w := w) (E := T) h2)).trans h2, ownsRow_ext h3 k, h4⟩
  exact h.imp (key _) (key _)
theorem strCells_eq (s : ByteArray) : Lib.strCells s = Lib.byteCells s.data.toList := rfl
theorem byteCells_append (a b : List UInt8) : Lib.byteCells (a ++ b) = Lib.byteCells a ++ Lib.byteCells b := by simp [Lib.byteCells]
theorem byteCells_len (l : List UInt8) : (Lib.byteCells l).length = l.length := by simp [Lib.byteCells]
theorem repeatL_one (c : UInt8) : ∀ n, Lib.repeatL [c] n = List.replicate n c := by
  intro n
  induction n with
  | zero => rfl
  | succ n ih => rw [Lib.repeatL, ih, List.replicate_succ]; rfl
theorem info64 : (Try.prog.info? 120).map (fun i => (i.zero, i.size, i.bytes)) = some (some (.int .u64 0), 1, 8) := by kernel_rfl

def u64s (cs : List Nat) : List Value := cs.map fun (x : Nat) => Value.int .u64 (x : Int)
theorem Dig.grown {w w' : World} {row : Option Nat} {v : Value} {n V : Nat} (h : Dig w v n V) (hg : w.grownBy w' row) (hne : ∀ (ad : Addr) (k c : Nat), v = .slice (some ad) k c → some ad.block ≠ row) : Dig w' v n V := by
  obtain ⟨A, c, rfl, h1, h2, h3, h4⟩ := h
  refine ⟨A, c, rfl, h1, h2, h3, fun hn => ?_⟩
  obtain ⟨b, off, rfl, hc⟩ := h4 hn
  exact ⟨b, off, rfl, fun j hj => (World.cell?_of_block (w := w) (hg.block b (World.block_lt_of_cell? _ _ (hc j hj)) (hne _ _ _ rfl))).trans (hc j hj)⟩
theorem txt_len {l : List Nat} (h : ∀ x ∈ l, x < 1000000000) : (txt l).length ≤ 9 * l.length := by
  have pl : ∀ k r, (pad k r).length = k := by
    intro k
    induction k with
    | zero => intro r; rfl
    | succ k ih => intro r; simp [pad, ih]
  cases l with
  | nil => simp [txt]
  | cons c r =>
    have h1 : (Lib.decDigits c).length ≤ 9 := by rw [Lib.decDigits_length]; exact nDigits_le (by omega) (h c (by simp))
    have h2 : ∀ r : List Nat, (r.flatMap (pad 9)).length = 9 * r.length := by
      intro r
      induction r with
      | nil => rfl
      | cons x r ih => simp [List.flatMap_cons, pl, ih]; omega
    simp only [txt, List.length_append, h2, List.length_cons]
    omega
/-- what the first loop has found: the chunks c of a number V, of which R is still to be cut -/
structure ChI (V R : Nat) (c : List Nat) : Prop where
  sum : V = R * 1000000000 ^ c.length + le9 c
  small : ∀ x ∈ c, x < 1000000000
  last : R = 0 → ∃ l x, c = l ++ [x] ∧ 0 < x
theorem ChI.step {V R : Nat} {c : List Nat} (h : ChI V R c) (hR : 0 < R) : ChI V (R / 1000000000) (c ++ [R % 1000000000]) := by
  refine ⟨?_, ?_, ?_⟩
  · rw [le9_snoc, List.length_append, List.length_singleton, Nat.pow_succ, ← Nat.mul_assoc, Nat.mul_right_comm, ← Nat.add_assoc, Nat.add_right_comm, Nat.mul_comm (1000000000 ^ c.length) (R % 1000000000), ← Nat.add_mul]
    rw [h.sum, show R / 1000000000 * 1000000000 + R % 1000000000 = R by omega]
  · intro x hx
    rcases List.mem_append.1 hx with h1 | h1
    · exact h.small x h1
    · have : x = R % 1000000000 := by simpa using h1
      omega
  · intro h0
    exact ⟨c, _, rfl, by omega⟩
theorem ChI.len {V R L : Nat} {c : List Nat} (h : ChI V R c) (hR : 0 < R) (hV : V < pw L) : c.length < 2 * L := by
  have h1 : 1000000000 ^ c.length ≤ V := by
    rw [h.sum]
    have : 1 * 1000000000 ^ c.length ≤ R * 1000000000 ^ c.length := Nat.mul_le_mul_right _ hR
    omega
  have h2 : pw L ≤ 1000000000 ^ (2 * L) := by
    unfold pw; rw [Nat.pow_mul]
    exact Nat.pow_le_pow_left (by omega) L
  exact (Nat.pow_lt_pow_iff_right (a := 1000000000) (by omega)).1 (Nat.lt_of_le_of_lt h1 (Nat.lt_of_lt_of_le hV h2))
theorem ChI.text {V : Nat} {c : List Nat} (h : ChI V 0 c) : txt c.reverse = Lib.decDigits V ∧ c ≠ [] := by
  obtain ⟨l, x, rfl, hx⟩ := h.last rfl
  have hs := h.sum
  rw [Nat.zero_mul, Nat.zero_add] at hs
  refine ⟨?_, by simp⟩
  rw [hs, ← be9_reverse, List.reverse_append]
  exact (txt_eq _ l.reverse rfl (fun y hy => h.small y (by simp at hy; simp [hy])) x hx).1

end Go.Proofs.Ythafabkjidifeaa.Big

/- Walks: a strings.Builder that is written (after the library's own walks, at this program's copyCheck). Plain: decimal digits in chunks of nine. Walks: Text. -/
import Derived.Test.YtljncdcjkdgkeaaGreatDoorShelf
import Derived.Test.YtljncdcjkdgkeaaGreatDoorMem2
import Derived.Lib.AppendStr
import Derived.Shelf.Strings.Builder1
import Derived.Test.YtljncdcjkdgkeaaGreatDoorVal3
import Derived.Lib.ItoaNum
import Derived.Lib.ItoaMem
import Derived.Test.YtljncdcjkdgkeaaGreatDoorW15
import Derived.Deep.LoopGhost
import Derived.Deep.AppendLies
set_option linter.unusedVariables false
set_option linter.unusedSimpArgs false
namespace Go.Proofs.YtljncdcjkdgkeaaGreatDoor.Big
open Go.RowKit Go.Lib

section
theorem sizeB : (Tryz.prog.info? 88).map (·.size) = some 2 := by kernel_rfl

set_option maxHeartbeats 1000000 in
set_option maxRecDepth 100000 in
theorem copyCheck_used (b : Nat) (w : World) (h0 : w.cell? ⟨b, 0, none⟩ = some (.pointer (some ⟨b, 0, none⟩))) :
    Calls Tryz.prog 68 #[.pointer (some ⟨b, 0, none⟩)] w fun e w' => e = .returned (.tuple #[]) ∧ w' = w := by
  obtain ⟨j, hj, _⟩ := Option.map_eq_some_iff.1 sizeB
  go_enter Tryz.func68, Tryz.ntmps68
  go_wp2_with fail
  rw [Lib.run_neq_ptr_same w _ Tryz.underlying86 hj]
  go_wp2_with fail
  go_end0
  exact ⟨rfl, rfl⟩

set_option maxHeartbeats 1000000 in
set_option maxRecDepth 100000 in
theorem copyCheck_fresh (b : Nat) (w : World) (h0 : w.cell? ⟨b, 0, none⟩ = some (.pointer none)) (hsh : w.shape? b = some (88, 2)) (hfz : w.frozen? ⟨b, 0, none⟩ = false) :
    Calls Tryz.prog 68 #[.pointer (some ⟨b, 0, none⟩)] w fun e w' => e = .returned (.tuple #[]) ∧ w' = w.setCell ⟨b, 0, none⟩ (.pointer (some ⟨b, 0, none⟩)) := by
  obtain ⟨j, hj, hjs⟩ := Option.map_eq_some_iff.1 sizeB
  go_enter Tryz.func68, Tryz.ntmps68
  go_wp2_with fail
  rw [Lib.run_to_unsafe w ⟨b, 0, none⟩ Tryz.underlying86 Tryz.underlying160 hj (by rw [hjs]; decide) hsh (Nat.zero_lt_succ 1)]
  simp only [Result.andThen]
  rw [Oper.upon_value]
  go_wp2_with fail
  rw [run_callFunc_extern Tryz.func95 (by kernel_rfl) (by kernel_rfl) (by kernel_rfl) (e := Extern.AbiNoEscape.same) (by kernel_rfl)]
  rw [Lib.run_noEscape]
  simp only [Result.andThen]
  rw [Oper.upon_value]
  go_wp2_with fail
  rw [Lib.run_from_unsafe w ⟨b, 0, none⟩ Tryz.underlying160 Tryz.underlying86 hj hsh (by kernel_rfl)]
  simp only [Result.andThen]
  rw [Oper.upon_value]
  go_wp2_with fail
  go_end0
  exact ⟨rfl, rfl⟩

theorem copyCheck_any (B b : Nat) (bs : List Value) (w : World) (h : Lib.IsBuilder 88 5 B b bs w) :
    Calls Tryz.prog 68 #[.pointer (some ⟨b, 0, none⟩)] w fun e w' => e = .returned (.tuple #[]) ∧ (Lib.BuilderAt 88 5 B b (.pointer (some ⟨b, 0, none⟩)) bs w' ∧ Below B w w') := by
  rcases h with h | h
  · refine (copyCheck_fresh b w h.cell0 h.shape h.frozen0).mono ?_
    rintro e w' ⟨rfl, rfl⟩
    exact ⟨rfl, h.used _, (Below.refl B w).setCell (p := ⟨b, 0, none⟩) h.1 _⟩
  · refine (copyCheck_used b w h.cell0).mono ?_
    rintro e w' ⟨rfl, rfl⟩
    exact ⟨rfl, h, Below.refl B _⟩
theorem infoByte : (Tryz.prog.info? 5).map (fun i => (i.zero, i.size, i.bytes)) = some (some (.int .u8 0), 1, 1) := by kernel_rfl

set_option maxHeartbeats 2000000 in
set_option maxRecDepth 100000 in
theorem WriteByte_any (B b : Nat) (bs : List Value) (c : Int) (w : World) (h : Lib.IsBuilder 88 5 B b bs w) (hlen : bs.length + 1 ≤ 140737488355328) (hBw : B ≤ w.heap.size) :
    Calls Tryz.prog 98 #[.pointer (some ⟨b, 0, none⟩), .int .u8 c] w fun e w' => e = .returned .nilIface ∧ (Lib.BuilderAt 88 5 B b (.pointer (some ⟨b, 0, none⟩)) (bs ++ [.int .u8 c]) w' ∧ Below B w w') := by
  obtain ⟨i0, hi, hz0, hz1, hz2⟩ := info_parts infoByte
  go_enter Tryz.func98, Tryz.ntmps98
  go_wp2_with fail
  refine (copyCheck_any B b bs _ h).mono ?_
  rintro e w1 ⟨rfl, h1, hb1⟩
  obtain ⟨hB, v, hbk, hown, hne⟩ := h1
  have c0 : w1.cell? ⟨b, 0, none⟩ = some (.pointer (some ⟨b, 0, none⟩)) := by rw [Lib.cell_of_heap hbk]; rfl
  have c1 : w1.cell? ⟨b, 1, none⟩ = some v := by rw [Lib.cell_of_heap hbk]; rfl
  go_wp2_with (at_builtin; refine wpList_append_own _ rfl _ _ 44 rfl B 5 i0 (.int .u8 0) 1 1 Tryz.underlying44 hi hz0 hz1 hz2 rfl (by decide) _ _ _ rfl (hown.alloc _) ⟨w1.heap.size, 0, none⟩ 1 1 [.int .u8 c] rfl rfl ?c1 ?c2 ?c3 ?c4 ?c5 ?_)
  case c1 =>
    intro j u hj
    match j, hj with
    | 0, hj => simp at hj; subst hj; simp [Addr.add]
  case c2 => intro u hu; simp at hu; subst hu; rfl
  case c3 => unfold maxLen; omega
  case c4 => omega
  case c5 => have := hb1.size; simp; omega
  intro v' w2 hown' hgrow _
  have hlt : b < w1.heap.size := by
    rcases Nat.lt_or_ge b w1.heap.size with h' | h'
    · exact h'
    · simp [Array.getElem?_eq_none h'] at hbk
  have hb2 : w2.heap[b]? = some (.cells #[.pointer (some ⟨b, 0, none⟩), v] 88 (0, 0)) := by
    rw [hgrow.block b (by simp; omega) (fun e => hne e.symm), Lib.alloc_old w1 _ b hlt]
    exact hbk
  have d0 : w2.cell? ⟨b, 0, none⟩ = some (.pointer (some ⟨b, 0, none⟩)) := by rw [Lib.cell_of_heap hb2]; rfl
  have d1 : w2.cell? ⟨b, 1, none⟩ = some v := by rw [Lib.cell_of_heap hb2]; rfl
  have f1 : w2.frozen? ⟨b, 1, none⟩ = false := Lib.frozen_of_heap hb2 1
  obtain ⟨g, cap, rfl⟩ : ∃ g cap, v' = .slice (some ⟨g, 0, none⟩) (bs.length + 1) cap := by
    rcases hown'.2 with ⟨_, h0⟩ | ⟨g, cap, cur, hv, _⟩
    · omega
    · exact ⟨g, cap, hv⟩
  go_wp2_with fail
  go_ret
  refine ⟨rfl, ?_, ?_⟩
  · exact Lib.BuilderAt.put (T := 88) (e := 5) hB hb2 (bs' := bs ++ [.int .u8 c]) (by simpa using hown') (by decide)
  · exact ((hb1.alloc (by have := hb1.size; omega) _).grown hgrow (by have := hb1.size; simp; omega) (fun k hk => (hown.lt k hk).1)).setCell (p := ⟨b, 1, none⟩) hB _

set_option maxHeartbeats 2000000 in
set_option maxRecDepth 100000 in
theorem WriteString_any (B b : Nat) (bs : List Value) (s : ByteArray) (w : World) (h : Lib.IsBuilder 88 5 B b bs w) (hlen : bs.length + s.size ≤ 140737488355328) (hBw : B ≤ w.heap.size) :
    Calls Tryz.prog 35 #[.pointer (some ⟨b, 0, none⟩), .string s] w fun e w' => e = .returned (.tuple #[.int .i64 s.size, .nilIface]) ∧ (Lib.BuilderAt 88 5 B b (.pointer (some ⟨b, 0, none⟩)) (bs ++ Lib.strCells s) w' ∧ Below B w w') := by
  obtain ⟨i0, hi, hz0, hz1, hz2⟩ := info_parts infoByte
  go_enter Tryz.func35, Tryz.ntmps35
  go_wp2_with fail
  refine (copyCheck_any B b bs _ h).mono ?_
  rintro e w1 ⟨rfl, h1, hb1⟩
  obtain ⟨hB, v, hbk, hown, hne⟩ := h1
  have c0 : w1.cell? ⟨b, 0, none⟩ = some (.pointer (some ⟨b, 0, none⟩)) := by rw [Lib.cell_of_heap hbk]; rfl
  have c1 : w1.cell? ⟨b, 1, none⟩ = some v := by rw [Lib.cell_of_heap hbk]; rfl
  go_wp2_with (at_builtin; refine Lib.wpList_append_own_string _ rfl _ _ 44 9 rfl B 5 i0 Tryz.underlying44 Tryz.underlying9 hi hz0 hz1 hz2 _ _ _ rfl hown s rfl ?c3 ?c4 ?c5 ?_)
  case c3 => unfold maxLen; omega
  case c4 => omega
  case c5 => have := hb1.size; omega
  intro v' w2 hown' hgrow _
  have hlt : b < w1.heap.size := by
    rcases Nat.lt_or_ge b w1.heap.size with h' | h'
    · exact h'
    · simp [Array.getElem?_eq_none h'] at hbk
  have hb2 : w2.heap[b]? = some (.cells #[.pointer (some ⟨b, 0, none⟩), v] 88 (0, 0)) := by
    rw [hgrow.block b hlt (fun e => hne e.symm)]
    exact hbk
  have d0 : w2.cell? ⟨b, 0, none⟩ = some (.pointer (some ⟨b, 0, none⟩)) := by rw [Lib.cell_of_heap hb2]; rfl
  have d1 : w2.cell? ⟨b, 1, none⟩ = some v := by rw [Lib.cell_of_heap hb2]; rfl
  have f1 : w2.frozen? ⟨b, 1, none⟩ = false := Lib.frozen_of_heap hb2 1
  obtain ⟨ao, n', cap, rfl⟩ : ∃ ao n' cap, v' = .slice ao n' cap := by
    rcases hown'.2 with ⟨hv, _⟩ | ⟨g, cap, cur, hv, _⟩
    · exact ⟨_, _, _, hv⟩
    · exact ⟨_, _, _, hv⟩
  go_wp2_with fail
  go_ret2
  refine ⟨rfl, ?_, ?_⟩
  · exact Lib.BuilderAt.put (T := 88) (e := 5) hB hb2 (bs' := bs ++ Lib.strCells s) (by simpa [Lib.strCells_length] using hown') (by decide)
  · exact (hb1.grown hgrow (by have := hb1.size; omega) (fun k hk => (hown.lt k hk).1)).setCell (p := ⟨b, 1, none⟩) hB _
end
end Go.Proofs.YtljncdcjkdgkeaaGreatDoor.Big

namespace Go.Proofs.YtljncdcjkdgkeaaGreatDoor.Big
open Go.Lib

def pad : Nat → Nat → List UInt8
  | 0, _ => []
  | k + 1, r => pad k (r / 10) ++ [UInt8.ofNat (48 + r % 10)]
theorem decDigits_big {u : Nat} (h : ¬ u < 10) : decDigits u = decDigits (u / 10) ++ [UInt8.ofNat (48 + u % 10)] := by rw [decDigits, dif_neg h]
theorem decDigits_pad {q : Nat} (hq : 1 ≤ q) : ∀ (k r : Nat), r < 10 ^ k → decDigits (q * 10 ^ k + r) = decDigits q ++ pad k r := by
  intro k
  induction k with
  | zero => intro r hr; have : r = 0 := by simpa using hr
            subst this; simp [pad]
  | succ k ih =>
    intro r hr
    have h10 : 10 ^ (k + 1) = 10 * 10 ^ k := by rw [Nat.pow_succ, Nat.mul_comm]
    have e : q * 10 ^ (k + 1) + r = 10 * (q * 10 ^ k) + r := by rw [h10, Nat.mul_left_comm]
    have hpos : 1 ≤ q * 10 ^ k := Nat.mul_pos hq (Nat.pow_pos (by omega))
    rw [decDigits_big (by omega), e, show (10 * (q * 10 ^ k) + r) / 10 = q * 10 ^ k + r / 10 by omega, show (10 * (q * 10 ^ k) + r) % 10 = r % 10 by omega,
      ih (r / 10) (by rw [h10] at hr; omega), pad, List.append_assoc]
theorem pad_zero (k : Nat) : pad k 0 = List.replicate k 48 := by
  induction k with
  | zero => rfl
  | succ k ih => simp only [pad, Nat.zero_div, ih]; rw [List.replicate_succ']; rfl
theorem nDigits_le {r k : Nat} (hk : 1 ≤ k) (h : r < 10 ^ k) : nDigits r ≤ k := by
  induction k generalizing r with
  | zero => omega
  | succ k ih =>
    by_cases h10 : r < 10
    · rw [nDigits_small h10]; omega
    · rw [nDigits_big h10]
      have hk1 : 1 ≤ k := by
        rcases Nat.eq_zero_or_pos k with h0 | h0
        · subst h0; simp at h; omega
        · exact h0
      have := ih hk1 (r := r / 10) (by rw [Nat.pow_succ] at h; omega)
      omega
theorem pad_eq {k : Nat} (hk : 1 ≤ k) : ∀ r, r < 10 ^ k → pad k r = List.replicate (k - nDigits r) 48 ++ decDigits r := by
  induction k with
  | zero => omega
  | succ k ih =>
    intro r h
    by_cases h10 : r < 10
    · rw [pad, Nat.div_eq_of_lt h10, pad_zero, nDigits_small h10, decDigits_one h10, Nat.mod_eq_of_lt h10]; rfl
    · have hk1 : 1 ≤ k := by
        rcases Nat.eq_zero_or_pos k with h0 | h0
        · subst h0; simp at h; omega
        · exact h0
      have hr : r / 10 < 10 ^ k := by rw [Nat.pow_succ] at h; omega
      have := nDigits_le hk1 hr
      rw [pad, ih hk1 _ hr, decDigits_big h10, nDigits_big h10, List.append_assoc, show k + 1 - (nDigits (r / 10) + 1) = k - nDigits (r / 10) by omega]

/-- chunks, the least first, and the greatest first -/
def le9 : List Nat → Nat
  | [] => 0
  | c :: l => c + 1000000000 * le9 l
def be9 (l : List Nat) : Nat := l.foldl (fun a x => a * 1000000000 + x) 0
theorem be9_snoc (l : List Nat) (x : Nat) : be9 (l ++ [x]) = be9 l * 1000000000 + x := by unfold be9; rw [List.foldl_append]; rfl
theorem be9_reverse (l : List Nat) : be9 l.reverse = le9 l := by
  induction l with
  | nil => rfl
  | cons c l ih => rw [List.reverse_cons, be9_snoc, ih, le9]; omega
theorem le9_snoc (l : List Nat) (x : Nat) : le9 (l ++ [x]) = le9 l + 1000000000 ^ l.length * x := by
  induction l with
  | nil => simp [le9]
  | cons c l ih => simp only [List.cons_append, le9, ih, List.length_cons, Nat.pow_succ]; rw [Nat.mul_add, ← Nat.mul_assoc, Nat.mul_comm 1000000000 (1000000000 ^ l.length)]; omega
def txt : List Nat → List UInt8
  | [] => []
  | c :: r => decDigits c ++ r.flatMap (pad 9)
theorem txt_snoc {l : List Nat} (h : l ≠ []) (x : Nat) : txt (l ++ [x]) = txt l ++ pad 9 x := by
  cases l with
  | nil => exact absurd rfl h
  | cons c r => simp [txt]
theorem txt_eq (n : Nat) : ∀ (l : List Nat), l.length = n → (∀ x ∈ l, x < 1000000000) → ∀ c, 1 ≤ c → txt (c :: l) = decDigits (be9 (c :: l)) ∧ 1 ≤ be9 (c :: l) := by
  induction n with
  | zero =>
    intro l hn _ c hc
    have : l = [] := List.eq_nil_of_length_eq_zero hn
    subst this
    simp [txt, be9]; exact hc
  | succ n ih =>
    intro l hn hl c hc
    rcases List.eq_nil_or_concat l with h | ⟨L, x, h⟩
    · subst h; simp at hn
    · rw [List.concat_eq_append] at h
      subst h
      obtain ⟨i1, i2⟩ := ih L (by simp at hn; exact hn) (fun y hy => hl y (by simp [hy])) c hc
      have hx := hl x (by simp)
      rw [← List.cons_append, txt_snoc (by simp), be9_snoc, i1]
      exact ⟨(decDigits_pad i2 9 x hx).symm, by omega⟩

end Go.Proofs.YtljncdcjkdgkeaaGreatDoor.Big

namespace Go.Proofs.YtljncdcjkdgkeaaGreatDoor.Big
open Go.RowKit

theorem ownsRow_ext {w w' : World} {base : Nat} {e : TypeId} {size : Nat} {v : Value} {n : Nat} {xs : List Value} (h : w.ownsRow base e size v n xs) (k : Ext w w') : w'.ownsRow base e size v n xs := by
  obtain ⟨h1, h2⟩ := h
  refine ⟨h1, ?_⟩
  rcases h2 with h2 | ⟨g, cap, cur, h3, h4, h5, h6⟩
  · exact .inl h2
  · have hlt : g < w.heap.size := by
      rcases Nat.lt_or_ge g w.heap.size with h' | h'
      · exact h'
      · rw [Array.getElem?_eq_none h'] at h5; cases h5
    exact .inr ⟨g, cap, cur, h3, h4, (Below.block k g hlt).trans h5, h6⟩
theorem isBuilder_ext {w w' : World} {T e : TypeId} {B b : Nat} {bs : List Value} (h : Lib.IsBuilder T e B b bs w) (k : Ext w w') : Lib.IsBuilder T e B b bs w' := by
  have key : ∀ p, Lib.BuilderAt T e B b p bs w → Lib.BuilderAt T e B b p bs w' := by
    rintro p ⟨h1, v, h2, h3, h4⟩
    exact ⟨h1, v, (Below.block k b (Box.lt (w := w) (E := T) h2)).trans h2, ownsRow_ext h3 k, h4⟩
  exact h.imp (key _) (key _)
theorem strCells_eq (s : ByteArray) : Lib.strCells s = Lib.byteCells s.data.toList := rfl
theorem byteCells_append (a b : List UInt8) : Lib.byteCells (a ++ b) = Lib.byteCells a ++ Lib.byteCells b := by simp [Lib.byteCells]
theorem byteCells_len (l : List UInt8) : (Lib.byteCells l).length = l.length := by simp [Lib.byteCells]
theorem repeatL_one (c : UInt8) : ∀ n, Lib.repeatL [c] n = List.replicate n c := by
  intro n
  induction n with
  | zero => rfl
  | succ n ih => rw [Lib.repeatL, ih, List.replicate_succ]; rfl
theorem info64 : (Tryz.prog.info? 145).map (fun i => (i.zero, i.size, i.bytes)) = some (some (.int .u64 0), 1, 8) := by kernel_rfl

def u64s (cs : List Nat) : List Value := cs.map fun (x : Nat) => Value.int .u64 (x : Int)
theorem Dig.grown {w w' : World} {row : Option Nat} {v : Value} {n V : Nat} (h : Dig w v n V) (hg : w.grownBy w' row) (hne : ∀ (ad : Addr) (k c : Nat), v = .slice (some ad) k c → some ad.block ≠ row) : Dig w' v n V := by
  obtain ⟨A, c, rfl, h1, h2, h3, h4⟩ := h
  refine ⟨A, c, rfl, h1, h2, h3, fun hn => ?_⟩
  obtain ⟨b, off, rfl, hc⟩ := h4 hn
  exact ⟨b, off, rfl, fun j hj => (World.cell?_of_block (w := w) (hg.block b (World.block_lt_of_cell? _ _ (hc j hj)) (hne _ _ _ rfl))).trans (hc j hj)⟩
theorem txt_len {l : List Nat} (h : ∀ x ∈ l, x < 1000000000) : (txt l).length ≤ 9 * l.length := by
  have pl : ∀ k r, (pad k r).length = k := by
    intro k
    induction k with
    | zero => intro r; rfl
    | succ k ih => intro r; simp [pad, ih]
  cases l with
  | nil => simp [txt]
  | cons c r =>
    have h1 : (Lib.decDigits c).length ≤ 9 := by rw [Lib.decDigits_length]; exact nDigits_le (by omega) (h c (by simp))
    have h2 : ∀ r : List Nat, (r.flatMap (pad 9)).length = 9 * r.length := by
      intro r
      induction r with
      | nil => rfl
      | cons x r ih => simp [List.flatMap_cons, pl, ih]; omega
    simp only [txt, List.length_append, h2, List.length_cons]
    omega
/-- what the first loop has found: the chunks c of a number V, of which R is still to be cut -/
structure ChI (V R : Nat) (c : List Nat) : Prop where
  sum : V = R * 1000000000 ^ c.length + le9 c
  small : ∀ x ∈ c, x < 1000000000
  last : R = 0 → ∃ l x, c = l ++ [x] ∧ 0 < x
theorem ChI.step {V R : Nat} {c : List Nat} (h : ChI V R c) (hR : 0 < R) : ChI V (R / 1000000000) (c ++ [R % 1000000000]) := by
  refine ⟨?_, ?_, ?_⟩
  · rw [le9_snoc, List.length_append, List.length_singleton, Nat.pow_succ, ← Nat.mul_assoc, Nat.mul_right_comm, ← Nat.add_assoc, Nat.add_right_comm, Nat.mul_comm (1000000000 ^ c.length) (R % 1000000000), ← Nat.add_mul]
    rw [h.sum, show R / 1000000000 * 1000000000 + R % 1000000000 = R by omega]
  · intro x hx
    rcases List.mem_append.1 hx with h1 | h1
    · exact h.small x h1
    · have : x = R % 1000000000 := by simpa using h1
      omega
  · intro h0
    exact ⟨c, _, rfl, by omega⟩
theorem ChI.len {V R L : Nat} {c : List Nat} (h : ChI V R c) (hR : 0 < R) (hV : V < pw L) : c.length < 2 * L := by
  have h1 : 1000000000 ^ c.length ≤ V := by
    rw [h.sum]
    have : 1 * 1000000000 ^ c.length ≤ R * 1000000000 ^ c.length := Nat.mul_le_mul_right _ hR
    omega
  have h2 : pw L ≤ 1000000000 ^ (2 * L) := by
    unfold pw; rw [Nat.pow_mul]
    exact Nat.pow_le_pow_left (by omega) L
  exact (Nat.pow_lt_pow_iff_right (a := 1000000000) (by omega)).1 (Nat.lt_of_le_of_lt h1 (Nat.lt_of_lt_of_le hV h2))
theorem ChI.text {V : Nat} {c : List Nat} (h : ChI V 0 c) : txt c.reverse = Lib.decDigits V ∧ c ≠ [] := by
  obtain ⟨l, x, rfl, hx⟩ := h.last rfl
  have hs := h.sum
  rw [Nat.zero_mul, Nat.zero_add] at hs
  refine ⟨?_, by simp⟩
  rw [hs, ← be9_reverse, List.reverse_append]
  exact (txt_eq _ l.reverse rfl (fun y hy => h.small y (by simp at hy; simp [hy])) x hx).1

set_option maxHeartbeats 4000000 in
theorem Text_zero (x : Value) (w : World) (hx : BigV w x 0) : Calls Tryz.prog 70 #[x] w (StrPost w (Lib.itoa 0)) := by
  obtain ⟨A, n, c, rfl, hd, ht⟩ := hx.form
  obtain rfl : n = 0 := by
    have := ht.pos_iff hd.inj.2.2.2.1; simp at this; exact this
  go_enter Tryz.func70, Tryz.ntmps70
  go_wp2_with fail
  go_ret
  refine ⟨?_, (Ext.refl w).alloc _⟩
  have : Lib.itoa 0 = [48] := by unfold Lib.itoa; simp; rw [Lib.decDigits_one (by omega)]; rfl
  rw [this]; rfl

set_option maxRecDepth 100000 in
set_option maxHeartbeats 1000000 in
theorem Text_any (x : Value) (Z : Int) (L : Nat) (w : World) (hx : BigV w x Z) (bx : Z.natAbs < pw L) (hL : L ≤ 1099511627776) (hZ : Z ≠ 0) (htab : TabOK w) : Calls Tryz.prog 70 #[x] w (StrPost w (Lib.itoa Z)) := by
  obtain ⟨A, n, c, rfl, hd, ht⟩ := hx.form
  have hn0 : 0 < n := (ht.pos_iff hd.inj.2.2.2.1).2 (by omega)
  have hn1 : ((n : Int) == 0) = false := by simp; omega
  have l1 := ht.le bx
  obtain ⟨T, hT⟩ : ∃ T, T = Lib.itoa Z := ⟨_, rfl⟩
  rw [← hT]
  have HT := Lib.hid hT
  have HZ := Lib.hid hZ
  clear hT hZ
  obtain ⟨i0, hi, hz0, hz1, hz2⟩ := info_parts info64
  go_enter Tryz.func70, Tryz.ntmps70
  go_wp2_with fail
  have B0 := Box.new w 56 #[.bool (decide (Z < 0)), .slice A n c]
  have hE0 : Ext w (w.alloc (.cells #[.bool (decide (Z < 0)), .slice A n c] 56)) := (Ext.refl w).alloc _
  generalize w.alloc (.cells #[.bool (decide (Z < 0)), .slice A n c] 56) = W0 at *
  go_loopg [3, 4] (Z.natAbs) (fun g v rs wr => ∃ (A' : Option Addr) (m k R : Nat) (cs : List Nat), rs = .slice A' m k ∧ Dig wr (.slice A' m k) m R ∧ Trm m R ∧ R < pw L ∧ R ≤ g ∧ Hid (ChI Z.natAbs R cs) ∧ cs.length ≤ 2 * L ∧
      wr.ownsRow W0.heap.size 145 1 v cs.length (u64s cs) ∧ Ext W0 wr)
  case atStart => exact ⟨A, n, c, _, [], rfl, hd.ext hE0, ht, bx, Nat.le_refl _, Lib.hid ⟨by simp [le9], (fun x h => absurd h (by simp)), fun h => absurd h (by have := HZ.out; omega)⟩, by simp, World.ownsRow_nil _ _ _ _, Ext.refl _⟩
  case round =>
    obtain ⟨A', m, k, R, cs, rfl, hdR, htR, hRL, hRg, HCH, hcl, hown, hext⟩ := hrel
    have hm := htR.pos_iff hdR.inj.2.2.2.1
    have lm := htR.le hRL
    by_cases h0 : 0 < m
    · have hR0 : 0 < R := hm.1 h0
      have hcl2 := ChI.len HCH.out hR0 bx
      clear hm
      go_wp2_with fail
      refine (divideSmall_any2 _ _ _ 1000000000 _ hdR (by omega) (by omega) (by omega)).mono ?_
      rintro e w2 ⟨q, nq, rfl, hdq, htq, hx2, hloc⟩
      have hdq' := hdq
      obtain ⟨Aq, cq, rfl, _⟩ := hdq'
      have hown2 := ownsRow_ext hown hx2
      have hext2 := hext.trans hx2
      go_wp2_with (at_builtin; refine wpList_append_own _ rfl _ _ 163 rfl W0.heap.size 145 i0 (.int .u64 0) 1 8 Tryz.underlying163 hi hz0 hz1 hz2 rfl (by decide) _ _ _ rfl (hown2.alloc _) ⟨w2.heap.size, 0, none⟩ 1 1 [.int .u64 (R % 1000000000 : Nat)] rfl rfl ?c1 ?c2 ?c3 ?c4 ?c5 ?_)
      case c1 =>
        intro j u hj
        match j, hj with
        | 0, hj => simp at hj; subst hj; simp [Addr.add]
      case c2 => intro u hu; simp at hu; subst hu; rfl
      case c3 => unfold maxLen; omega
      case c4 => omega
      case c5 => have := hext2.size; simp; omega
      intro v' w3 hown' hgrow _
      have hrow : ∀ k, Value.ownBlock u3 = some k → W0.heap.size ≤ k ∧ k < wr.heap.size := fun k hk => hown.lt k hk
      have hE3 : Ext W0 w3 := Below.grown (hext2.alloc _) hgrow (by have := hext2.size; simp; omega) (fun k hk => (hrow k hk).1)
      have hd3 := (hdq.ext ((Ext.refl w2).alloc (.cells #[.int .u64 ((R : Int) % 1000000000)] 145))).grown hgrow (fun ad k c hv e => by
        have h1 := hloc ad k c hv
        have h2 := (hrow _ e.symm).2
        omega)
      have hst := Lib.hid (HCH.out.step hR0)
      clear hown hown2 hdR hdq hgrow HCH
      go_wp2_with fail
      go_roundg (R / 1000000000)
      case measure => omega
      case rel => exact ⟨Aq, nq, cq, R / 1000000000, cs ++ [R % 1000000000], rfl, hd3, htq, Nat.lt_of_le_of_lt (Nat.div_le_self _ _) hRL, Nat.le_refl _, hst, by simp; omega, by simpa [u64s] using hown', hE3⟩
    · have hR0 : R = 0 := by rcases Nat.eq_zero_or_pos R with h | h; exact h; exact absurd (hm.2 h) h0
      subst hR0
      have m0 : m = 0 := by omega
      subst m0
      obtain ⟨htxt, hne⟩ := HCH.out.text
      have hcs0 : 0 < cs.length := by
        rcases cs with _ | ⟨_, _⟩
        · exact absurd rfl hne
        · simp
      obtain ⟨gg, cap, rfl, hgg, hglt⟩ := hown.form hcs0
      have hcell : ∀ (j x : Nat), cs[j]? = some x → wr.cell? ⟨gg, j, none⟩ = some (.int .u64 (x : Int)) := by
        intro j x hj
        have := hown.cells (g := gg) rfl j (.int .u64 (x : Int)) (by unfold u64s; rw [List.getElem?_map, hj]; rfl)
        rw [Lib.add_plain, Nat.zero_add] at this
        exact this
      have hE : Ext w wr := hE0.trans hext
      have hbn := (B0.ext hext).c0
      have hbb := (B0.ext hext).lt
      have HTXT := Lib.hid htxt
      have HCELL0 := Lib.hid hcell
      clear hm h0 hown hne hcell htxt hdR htR
      obtain ⟨w5, rfl⟩ : ∃ w5, w5 = wr := ⟨_, rfl⟩
      have hbl0 := Lib.fresh_isBuilder 88 5 w5
      have hbw0 := (Below.refl w5.heap.size w5).alloc (Nat.le_refl _) (.cells #[.pointer none, .slice none 0 0] 88)
      have hbs0 : w5.heap.size ≤ (w5.alloc (.cells #[.pointer none, .slice none 0 0] 88)).heap.size := by simp
      by_cases hneg : Z < 0
      · have e1 : decide (Z < 0) = true := by simpa using hneg
        go_wp2_with fail
        refine (WriteByte_any _ _ _ 45 _ hbl0 (by simp) hbs0).mono ?_
        rintro e w6 ⟨rfl, hbl, hbw⟩
        have hbl1 : Lib.IsBuilder 88 5 w5.heap.size w5.heap.size (Lib.byteCells ([45] ++ txt [])) w6 := .inr hbl
        have hbw1 := hbw0.trans hbw
        obtain ⟨PRE, hPRE⟩ : ∃ PRE : List UInt8, PRE = [45] := ⟨_, rfl⟩
        rw [← hPRE] at hbl1
        have hres : T = PRE ++ txt cs.reverse := by rw [HT.out, hPRE, HTXT.out, Lib.itoa, if_pos hneg]; rfl
        have HRES := Lib.hid hres
        have hpl : PRE.length ≤ 1 := by rw [hPRE]; simp
        clear hPRE hbl0 hbl hbw hbw0 hbs0 HTXT HT
        go_wp2_with fail
        go_loopw [32] (fun s wr => ∃ i : Nat, i ≤ cs.length ∧ s = .int .i64 i ∧ Lib.IsBuilder 88 5 w5.heap.size w5.heap.size (Lib.byteCells (PRE ++ txt (cs.reverse.take i))) wr ∧ Below w5.heap.size w5 wr) (fun s _ => cs.length - (intOf s).toNat)
        case atStart => exact ⟨0, by omega, rfl, hbl1, hbw1⟩
        case round =>
          obtain ⟨i, hi, rfl, hbld, hbel⟩ := hrel
          have hsz : w5.heap.size ≤ wr.heap.size := hbel.size
          by_cases hlt : i < cs.length
          · obtain ⟨x, hx⟩ : ∃ x, cs.reverse[i]? = some x := ⟨_, List.getElem?_eq_getElem (by simpa using hlt)⟩
            have hx9 : x < 1000000000 := HCH.out.small x (by have := List.mem_of_getElem? hx; simpa using this)
            have hxc : cs[cs.length - 1 - i]? = some x := by rw [← hx, List.getElem?_reverse hlt]
            have hcell := (Below.cell hbel (p := ⟨gg, cs.length - 1 - i, none⟩) hglt).trans (HCELL0.out (cs.length - 1 - i) x hxc)
            have htk : cs.reverse.take (i + 1) = cs.reverse.take i ++ [x] := by rw [List.take_add_one, hx]; rfl
            have htl := txt_len (l := cs.reverse.take i) (fun y hy => HCH.out.small y (by have := List.mem_of_mem_take hy; simpa using this))
            have htl2 : (PRE ++ txt (cs.reverse.take i)).length ≤ 9 * cs.length + 1 := by
              have h1 : (cs.reverse.take i).length ≤ cs.length := by simp; omega
              rw [List.length_append]; omega
            obtain ⟨ND, hND⟩ : ∃ ND, ND = Lib.nDigits x := ⟨_, rfl⟩
            have hnx : ND ≤ 9 := by rw [hND]; exact nDigits_le (by omega) hx9
            have hne0 : 0 < i → cs.reverse.take i ≠ [] := fun h e => by have := congrArg List.length e; rw [List.length_take, List.length_reverse, List.length_nil] at this; omega
            have hfirst : i = 0 → txt (cs.reverse.take i ++ [x]) = txt (cs.reverse.take i) ++ Lib.decDigits x := fun h => by subst h; simp [txt]
            have hnext : 0 < i → txt (cs.reverse.take i ++ [x]) = txt (cs.reverse.take i) ++ (List.replicate (9 - ND) 48 ++ Lib.decDigits x) := fun h => by rw [hND, txt_snoc (hne0 h), pad_eq (by omega) x hx9]
            obtain ⟨TX, hTX⟩ : ∃ TX, TX = txt (cs.reverse.take i) := ⟨_, rfl⟩
            rw [← htk] at hfirst hnext
            rw [← hTX] at hbld htl2 hfirst hnext
            clear hx hxc htk htl hne0 hTX
            have hidx : (cs.length : Int) - 1 - i = ((cs.length - 1 - i : Nat) : Int) := by omega
            have htabw : TabOK wr := htab.ext (hE.trans hbel)
            have hig : ((0 : Int) < i) ∨ i = 0 := by omega
            have HNF := Lib.hid hfirst
            have HNN := Lib.hid hnext
            clear hfirst hnext
            go_wp2_with fail
            refine (FormatUint_any x _ (by omega) htabw).mono ?_
            rintro e w7 ⟨rfl, hx7⟩
            obtain ⟨ts, hts⟩ : ∃ ts : ByteArray, ts = ⟨(Lib.decDigits x).toArray⟩ := ⟨_, rfl⟩
            rw [← hts]
            have htsz : ts.size = ND := by rw [hts, hND]; exact Lib.decDigits_length x
            have htsc : Lib.strCells ts = Lib.byteCells (Lib.decDigits x) := by rw [hts]; rfl
            have hbld7 := isBuilder_ext hbld hx7
            have hbel7 := hbel.trans (Below.mono hx7 hsz)
            have hsz7 : w5.heap.size ≤ w7.heap.size := hbel7.size
            clear hts hcell hbld hbel hND
            rcases hig with hig | hig
            · have hig2 : decide ((0 : Int) < i) = true := by simpa using hig
              have hn9 : (9 : Int) - ND = ((9 - ND : Nat) : Int) := by omega
              have hi0 : 0 < i := by omega
              obtain ⟨rp, hrp⟩ : ∃ rp : ByteArray, rp = ⟨(List.replicate (9 - ND) (48 : UInt8)).toArray⟩ := ⟨_, rfl⟩
              have hrps : rp.size = 9 - ND := by rw [hrp]; exact List.length_replicate
              have hrpc : Lib.strCells rp = Lib.byteCells (List.replicate (9 - ND) (48 : UInt8)) := by rw [hrp]; rfl
              have hrep : Calls Tryz.prog 100 #[.string ⟨#[48]⟩, .int .i64 ((9 - ND : Nat) : Int)] w7 fun e w' => e = .returned (.string rp) ∧ Below w7.heap.size w7 w' := by
                rw [hrp]
                rcases Nat.lt_or_ge 1 (9 - ND) with h | h
                · refine (Tryz.strings_Repeat_main _ _ w7 h (by omega) (by show 1 * (9 - ND) ≤ _; omega) (by decide)).mono ?_
                  rintro e w' ⟨rfl, h2⟩
                  exact ⟨by rw [show (⟨#[48]⟩ : ByteArray).data.toList = [48] from rfl, repeatL_one], h2⟩
                · rcases Nat.eq_zero_or_pos (9 - ND) with h0 | h0
                  · rw [h0]
                    refine (Tryz.strings_Repeat_zero _ w7).mono ?_
                    rintro e w' ⟨rfl, rfl⟩
                    exact ⟨rfl, Below.refl _ _⟩
                  · rw [show 9 - ND = 1 by omega]
                    refine (Tryz.strings_Repeat_one _ w7).mono ?_
                    rintro e w' ⟨rfl, rfl⟩
                    exact ⟨rfl, Below.refl _ _⟩
              have HREP := Lib.hid hrep
              clear hrep hrp
              go_wp2_with fail
              refine HREP.out.mono ?_
              rintro e w8 ⟨rfl, hx8⟩
              have hbld8 := isBuilder_ext hbld7 hx8
              have hbel8 := hbel7.trans (Below.mono hx8 hsz7)
              have hsz8 : w5.heap.size ≤ w8.heap.size := hbel8.size
              clear HREP hbld7 hbel7
              go_wp2_with fail
              refine (WriteString_any _ _ _ rp _ hbld8 (by rw [byteCells_len]; omega) hsz8).mono ?_
              rintro e w9 ⟨rfl, hbld9, hb9⟩
              have hbel9 := hbel8.trans hb9
              have hsz9 : w5.heap.size ≤ w9.heap.size := hbel9.size
              clear hbld8 hbel8
              go_wp2_with fail
              refine (WriteString_any _ _ _ ts _ (.inr hbld9) (by rw [hrpc, List.length_append, byteCells_len, byteCells_len, List.length_replicate]; omega) hsz9).mono ?_
              rintro e w10 ⟨rfl, hbld10, hb10⟩
              have hbel10 := hbel9.trans hb10
              have hend : Lib.byteCells (PRE ++ TX) ++ Lib.strCells rp ++ Lib.strCells ts = Lib.byteCells (PRE ++ txt (cs.reverse.take (i + 1))) := by
                rw [hrpc, htsc, ← byteCells_append, ← byteCells_append, HNN.out hi0]; simp
              rw [hend] at hbld10
              clear hend hbld9 hbel9
              go_wp2_with fail
              go_round
              case measure => (show cs.length - ((i : Int) + 1).toNat < cs.length - ((i : Int)).toNat); omega
              case rel => exact ⟨i + 1, by omega, rfl, .inr hbld10, hbel10⟩
            · have hig2 : decide ((0 : Int) < (i : Int)) = false := by simp; omega
              have hig3 : decide (0 < i) = false := by simp; omega
              have HIG := Lib.hid hig
              clear hig
              go_wp2_with fail
              refine (WriteString_any _ _ _ ts _ hbld7 (by rw [byteCells_len]; omega) hsz7).mono ?_
              rintro e w9 ⟨rfl, hbld9, hb9⟩
              have hbel9 := hbel7.trans hb9
              have hend : Lib.byteCells (PRE ++ TX) ++ Lib.strCells ts = Lib.byteCells (PRE ++ txt (cs.reverse.take (i + 1))) := by
                rw [htsc, ← byteCells_append, HNF.out HIG.out, List.append_assoc]
              rw [hend] at hbld9
              clear hend hbld7 hbel7
              go_wp2_with fail
              go_round
              case measure => (show cs.length - ((i : Int) + 1).toNat < cs.length - ((i : Int)).toNat); omega
              case rel => exact ⟨i + 1, by omega, rfl, .inr hbld9, hbel9⟩
          · obtain rfl : i = cs.length := by omega
            rw [show cs.length = cs.reverse.length from List.length_reverse.symm, List.take_length, ← HRES.out] at hbld
            have hE5 : Ext w wr := hE.trans hbel
            clear hbel
            go_wp2_with fail
            refine (Tryz.Builder_String_any _ _ T _ hbld hsz).mono ?_
            rintro e w7 ⟨rfl, hb7⟩
            have hE7 := Below.trans hE5 (Below.mono hb7 (hE.size))
            go_wp2_with fail
            refine bodyPost_ret (v := .string ⟨T.toArray⟩) (by simp [results, Tryz.results70, go_sem]; exact HRES.out.symm) rfl ?_
            exact ⟨rfl, hE7⟩
      · have e1 : decide (Z < 0) = false := by simpa using hneg
        have hbl1 : Lib.IsBuilder 88 5 w5.heap.size w5.heap.size (Lib.byteCells ([] ++ txt [])) (w5.alloc (.cells #[.pointer none, .slice none 0 0] 88)) := hbl0
        have hbw1 := hbw0
        obtain ⟨PRE, hPRE⟩ : ∃ PRE : List UInt8, PRE = [] := ⟨_, rfl⟩
        rw [← hPRE] at hbl1
        have hres : T = PRE ++ txt cs.reverse := by rw [HT.out, hPRE, HTXT.out, Lib.itoa, if_neg hneg, show Z.toNat = Z.natAbs by omega]; rfl
        have HRES := Lib.hid hres
        have hpl : PRE.length ≤ 1 := by rw [hPRE]; simp
        clear hPRE hbl0 hbw0 HTXT HT
        go_wp2_with fail
        go_loopw [32] (fun s wr => ∃ i : Nat, i ≤ cs.length ∧ s = .int .i64 i ∧ Lib.IsBuilder 88 5 w5.heap.size w5.heap.size (Lib.byteCells (PRE ++ txt (cs.reverse.take i))) wr ∧ Below w5.heap.size w5 wr) (fun s _ => cs.length - (intOf s).toNat)
        case atStart => exact ⟨0, by omega, rfl, hbl1, hbw1⟩
        case round =>
          obtain ⟨i, hi, rfl, hbld, hbel⟩ := hrel
          have hsz : w5.heap.size ≤ wr.heap.size := hbel.size
          by_cases hlt : i < cs.length
          · obtain ⟨x, hx⟩ : ∃ x, cs.reverse[i]? = some x := ⟨_, List.getElem?_eq_getElem (by simpa using hlt)⟩
            have hx9 : x < 1000000000 := HCH.out.small x (by have := List.mem_of_getElem? hx; simpa using this)
            have hxc : cs[cs.length - 1 - i]? = some x := by rw [← hx, List.getElem?_reverse hlt]
            have hcell := (Below.cell hbel (p := ⟨gg, cs.length - 1 - i, none⟩) hglt).trans (HCELL0.out (cs.length - 1 - i) x hxc)
            have htk : cs.reverse.take (i + 1) = cs.reverse.take i ++ [x] := by rw [List.take_add_one, hx]; rfl
            have htl := txt_len (l := cs.reverse.take i) (fun y hy => HCH.out.small y (by have := List.mem_of_mem_take hy; simpa using this))
            have htl2 : (PRE ++ txt (cs.reverse.take i)).length ≤ 9 * cs.length + 1 := by
              have h1 : (cs.reverse.take i).length ≤ cs.length := by simp; omega
              rw [List.length_append]; omega
            obtain ⟨ND, hND⟩ : ∃ ND, ND = Lib.nDigits x := ⟨_, rfl⟩
            have hnx : ND ≤ 9 := by rw [hND]; exact nDigits_le (by omega) hx9
            have hne0 : 0 < i → cs.reverse.take i ≠ [] := fun h e => by have := congrArg List.length e; rw [List.length_take, List.length_reverse, List.length_nil] at this; omega
            have hfirst : i = 0 → txt (cs.reverse.take i ++ [x]) = txt (cs.reverse.take i) ++ Lib.decDigits x := fun h => by subst h; simp [txt]
            have hnext : 0 < i → txt (cs.reverse.take i ++ [x]) = txt (cs.reverse.take i) ++ (List.replicate (9 - ND) 48 ++ Lib.decDigits x) := fun h => by rw [hND, txt_snoc (hne0 h), pad_eq (by omega) x hx9]
            obtain ⟨TX, hTX⟩ : ∃ TX, TX = txt (cs.reverse.take i) := ⟨_, rfl⟩
            rw [← htk] at hfirst hnext
            rw [← hTX] at hbld htl2 hfirst hnext
            clear hx hxc htk htl hne0 hTX
            have hidx : (cs.length : Int) - 1 - i = ((cs.length - 1 - i : Nat) : Int) := by omega
            have htabw : TabOK wr := htab.ext (hE.trans hbel)
            have hig : ((0 : Int) < i) ∨ i = 0 := by omega
            have HNF := Lib.hid hfirst
            have HNN := Lib.hid hnext
            clear hfirst hnext
            go_wp2_with fail
            refine (FormatUint_any x _ (by omega) htabw).mono ?_
            rintro e w7 ⟨rfl, hx7⟩
            obtain ⟨ts, hts⟩ : ∃ ts : ByteArray, ts = ⟨(Lib.decDigits x).toArray⟩ := ⟨_, rfl⟩
            rw [← hts]
            have htsz : ts.size = ND := by rw [hts, hND]; exact Lib.decDigits_length x
            have htsc : Lib.strCells ts = Lib.byteCells (Lib.decDigits x) := by rw [hts]; rfl
            have hbld7 := isBuilder_ext hbld hx7
            have hbel7 := hbel.trans (Below.mono hx7 hsz)
            have hsz7 : w5.heap.size ≤ w7.heap.size := hbel7.size
            clear hts hcell hbld hbel hND
            rcases hig with hig | hig
            · have hig2 : decide ((0 : Int) < i) = true := by simpa using hig
              have hn9 : (9 : Int) - ND = ((9 - ND : Nat) : Int) := by omega
              have hi0 : 0 < i := by omega
              obtain ⟨rp, hrp⟩ : ∃ rp : ByteArray, rp = ⟨(List.replicate (9 - ND) (48 : UInt8)).toArray⟩ := ⟨_, rfl⟩
              have hrps : rp.size = 9 - ND := by rw [hrp]; exact List.length_replicate
              have hrpc : Lib.strCells rp = Lib.byteCells (List.replicate (9 - ND) (48 : UInt8)) := by rw [hrp]; rfl
              have hrep : Calls Tryz.prog 100 #[.string ⟨#[48]⟩, .int .i64 ((9 - ND : Nat) : Int)] w7 fun e w' => e = .returned (.string rp) ∧ Below w7.heap.size w7 w' := by
                rw [hrp]
                rcases Nat.lt_or_ge 1 (9 - ND) with h | h
                · refine (Tryz.strings_Repeat_main _ _ w7 h (by omega) (by show 1 * (9 - ND) ≤ _; omega) (by decide)).mono ?_
                  rintro e w' ⟨rfl, h2⟩
                  exact ⟨by rw [show (⟨#[48]⟩ : ByteArray).data.toList = [48] from rfl, repeatL_one], h2⟩
                · rcases Nat.eq_zero_or_pos (9 - ND) with h0 | h0
                  · rw [h0]
                    refine (Tryz.strings_Repeat_zero _ w7).mono ?_
                    rintro e w' ⟨rfl, rfl⟩
                    exact ⟨rfl, Below.refl _ _⟩
                  · rw [show 9 - ND = 1 by omega]
                    refine (Tryz.strings_Repeat_one _ w7).mono ?_
                    rintro e w' ⟨rfl, rfl⟩
                    exact ⟨rfl, Below.refl _ _⟩
              have HREP := Lib.hid hrep
              clear hrep hrp
              go_wp2_with fail
              refine HREP.out.mono ?_
              rintro e w8 ⟨rfl, hx8⟩
              have hbld8 := isBuilder_ext hbld7 hx8
              have hbel8 := hbel7.trans (Below.mono hx8 hsz7)
              have hsz8 : w5.heap.size ≤ w8.heap.size := hbel8.size
              clear HREP hbld7 hbel7
              go_wp2_with fail
              refine (WriteString_any _ _ _ rp _ hbld8 (by rw [byteCells_len]; omega) hsz8).mono ?_
              rintro e w9 ⟨rfl, hbld9, hb9⟩
              have hbel9 := hbel8.trans hb9
              have hsz9 : w5.heap.size ≤ w9.heap.size := hbel9.size
              clear hbld8 hbel8
              go_wp2_with fail
              refine (WriteString_any _ _ _ ts _ (.inr hbld9) (by rw [hrpc, List.length_append, byteCells_len, byteCells_len, List.length_replicate]; omega) hsz9).mono ?_
              rintro e w10 ⟨rfl, hbld10, hb10⟩
              have hbel10 := hbel9.trans hb10
              have hend : Lib.byteCells (PRE ++ TX) ++ Lib.strCells rp ++ Lib.strCells ts = Lib.byteCells (PRE ++ txt (cs.reverse.take (i + 1))) := by
                rw [hrpc, htsc, ← byteCells_append, ← byteCells_append, HNN.out hi0]; simp
              rw [hend] at hbld10
              clear hend hbld9 hbel9
              go_wp2_with fail
              go_round
              case measure => (show cs.length - ((i : Int) + 1).toNat < cs.length - ((i : Int)).toNat); omega
              case rel => exact ⟨i + 1, by omega, rfl, .inr hbld10, hbel10⟩
            · have hig2 : decide ((0 : Int) < (i : Int)) = false := by simp; omega
              have hig3 : decide (0 < i) = false := by simp; omega
              have HIG := Lib.hid hig
              clear hig
              go_wp2_with fail
              refine (WriteString_any _ _ _ ts _ hbld7 (by rw [byteCells_len]; omega) hsz7).mono ?_
              rintro e w9 ⟨rfl, hbld9, hb9⟩
              have hbel9 := hbel7.trans hb9
              have hend : Lib.byteCells (PRE ++ TX) ++ Lib.strCells ts = Lib.byteCells (PRE ++ txt (cs.reverse.take (i + 1))) := by
                rw [htsc, ← byteCells_append, HNF.out HIG.out, List.append_assoc]
              rw [hend] at hbld9
              clear hend hbld7 hbel7
              go_wp2_with fail
              go_round
              case measure => (show cs.length - ((i : Int) + 1).toNat < cs.length - ((i : Int)).toNat); omega
              case rel => exact ⟨i + 1, by omega, rfl, .inr hbld9, hbel9⟩
          · obtain rfl : i = cs.length := by omega
            rw [show cs.length = cs.reverse.length from List.length_reverse.symm, List.take_length, ← HRES.out] at hbld
            have hE5 : Ext w wr := hE.trans hbel
            clear hbel
            go_wp2_with fail
            refine (Tryz.Builder_String_any _ _ T _ hbld hsz).mono ?_
            rintro e w7 ⟨rfl, hb7⟩
            have hE7 := Below.trans hE5 (Below.mono hb7 (hE.size))
            go_wp2_with fail
            refine bodyPost_ret (v := .string ⟨T.toArray⟩) (by simp [results, Tryz.results70, go_sem]; exact HRES.out.symm) rfl ?_
            exact ⟨rfl, hE7⟩

end Go.Proofs.YtljncdcjkdgkeaaGreatDoor.Big

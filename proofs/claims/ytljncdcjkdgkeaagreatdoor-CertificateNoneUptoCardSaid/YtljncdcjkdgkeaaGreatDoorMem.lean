/- What lies in memory: a slice of digits that reads as a number; worlds that grow. -/
import Derived.Test.YtljncdcjkdgkeaaGreatDoorVal3
import Derived.WalkKit
import Derived.WalkSpells
import Derived.Lib.Hide
import Derived.Deep.Draws
set_option linter.unusedVariables false
set_option linter.unusedSimpArgs false
namespace Go.Proofs.YtljncdcjkdgkeaaGreatDoor.Big
open Go.RowKit

/-- all that was there is as it was -/
def Ext (w w' : World) : Prop := Below w.heap.size w w'
theorem Ext.refl (w : World) : Ext w w := Below.refl _ _
theorem Ext.size {w w' : World} (h : Ext w w') : w.heap.size ≤ w'.heap.size := Below.size h
theorem Ext.trans {a b c : World} (h : Ext a b) (k : Ext b c) : Ext a c := Below.trans h (Below.mono k h.size)
theorem Ext.drew {a w : World} (h : Ext a w) : Ext a w.drew := Below.drew h
theorem Ext.drewN {a w : World} (h : Ext a w) (n : Nat) : Ext a (w.drewN n) := ⟨h.os, h.tape, h.output, h.size, h.block⟩
theorem Ext.alloc {a w : World} (h : Ext a w) (o : Obj) : Ext a (w.alloc o) := Below.alloc h h.size o
theorem Ext.set {a w : World} (h : Ext a w) {p : Addr} (hp : a.heap.size ≤ p.block) (u : Value) : Ext a (w.setCell p u) := Below.setCell h hp u
theorem Ext.cell {w w' : World} (h : Ext w w') {p : Addr} {v : Value} (hc : w.cell? p = some v) : w'.cell? p = some v :=
  (Below.cell h (World.block_lt_of_cell? w _ hc)).trans hc
theorem Ext.below {B : Nat} {a w w' : World} (h : Below B a w) (k : Ext w w') (hB : B ≤ w.heap.size) : Below B a w' := Below.trans h (Below.mono k hB)

/-- the slice value v, of length n, holds the digits of V -/
def Dig (w : World) (v : Value) (n V : Nat) : Prop :=
  ∃ A c, v = .slice A n c ∧ n ≤ c ∧ c ≤ 4398046511104 ∧ V < pw n ∧
    (0 < n → ∃ b off, A = some ⟨b, off, none⟩ ∧ ∀ j, j < n → w.cell? ⟨b, off + j, none⟩ = some (.int .u32 (dgt V j : Int)))
theorem Dig.ext {w w' : World} {v : Value} {n V : Nat} (h : Dig w v n V) (k : Ext w w') : Dig w' v n V := by
  obtain ⟨A, c, rfl, h1, h2, h3, h4⟩ := h
  refine ⟨A, c, rfl, h1, h2, h3, fun hn => ?_⟩
  obtain ⟨b, off, rfl, hc⟩ := h4 hn
  exact ⟨b, off, rfl, fun j hj => k.cell (hc j hj)⟩

def cmpI (X Y : Nat) : Int := if X < Y then -1 else if Y < X then 1 else 0
def cmpD (n m X Y : Nat) : Int := if n < m then -1 else if m < n then 1 else cmpI X Y
theorem cmp_lt {n k X Y : Nat} (hk : k ≤ n) (hk2 : k < n) (hd : X / pw (n - k) = Y / pw (n - k)) (h : dgt X (n - 1 - k) < dgt Y (n - 1 - k)) : cmpI X Y = -1 := by
  rw [show n - k = (n - 1 - k) + 1 by omega] at hd
  have := lt_of_top hd h
  simp [cmpI, this]
theorem cmp_gt {n k X Y : Nat} (hk : k ≤ n) (hk2 : k < n) (hd : X / pw (n - k) = Y / pw (n - k)) (h : dgt Y (n - 1 - k) < dgt X (n - 1 - k)) : cmpI X Y = 1 := by
  rw [show n - k = (n - 1 - k) + 1 by omega] at hd
  have := lt_of_top hd.symm h
  unfold cmpI
  rw [if_neg (by omega), if_pos this]
theorem cmp_step {n k X Y : Nat} (hk2 : k < n) (hd : X / pw (n - k) = Y / pw (n - k)) (h : dgt X (n - 1 - k) = dgt Y (n - 1 - k)) : X / pw (n - (k + 1)) = Y / pw (n - (k + 1)) := by
  rw [show n - k = (n - 1 - k) + 1 by omega] at hd
  rw [show n - (k + 1) = n - 1 - k by omega]
  exact div_of_top hd h

theorem dif_close {X Y k : Nat} (h : Y ≤ X) : IntKind.u64.wrap (IntKind.u64.wrap ((dgt X k : Int) - (difc X Y k : Int)) - (dgt Y k : Int)) / 9223372036854775808 = (difc X Y (k + 1) : Nat) ∧
    IntKind.u64.wrap (IntKind.u64.wrap ((dgt X k : Int) - (difc X Y k : Int)) - (dgt Y k : Int)) % 4294967296 = (dgt (X - Y) k : Nat) := by
  have hs := dif_step X Y k h
  have h1 := dgt_lt X k
  have h2 := dgt_lt Y k
  have h3 := difc_le X Y k
  have h4 := dgt_lt (X - Y) k
  rw [IntKind.wrap_u64, IntKind.wrap_u64]
  rcases Nat.lt_or_ge (dgt X k) (dgt Y k + difc X Y k) with hl | hl
  · obtain ⟨a, b⟩ := hs.1 hl; rw [a]; omega
  · obtain ⟨a, b⟩ := hs.2 hl; rw [a]; omega
theorem dif_close0 {X Y k : Nat} (h : Y ≤ X) (hy : dgt Y k = 0) : IntKind.u64.wrap ((dgt X k : Int) - (difc X Y k : Int)) / 9223372036854775808 = (difc X Y (k + 1) : Nat) ∧
    IntKind.u64.wrap ((dgt X k : Int) - (difc X Y k : Int)) % 4294967296 = (dgt (X - Y) k : Nat) := by
  have hs := dif_step X Y k h
  have h1 := dgt_lt X k
  have h3 := difc_le X Y k
  have h4 := dgt_lt (X - Y) k
  rw [hy] at hs
  rw [IntKind.wrap_u64]
  rcases Nat.lt_or_ge (dgt X k) (0 + difc X Y k) with hl | hl
  · obtain ⟨a, b⟩ := hs.1 hl; rw [a]; omega
  · obtain ⟨a, b⟩ := hs.2 hl; rw [a]; omega
theorem ret_int {k : IntKind} {a b : Int} (h : a = b) : Value.int k a = Value.int k b := by rw [h]

theorem or32 (a b : Nat) (ha : a ≤ 4294967295) (hb : b < 4294967296) : bits .or .u64 ((a : Int) * 4294967296) (b : Int) = (a : Int) * 4294967296 + (b : Int) := by
  refine bits_join .u64 64 (by decide) (fun n h0 h1 => IntWalk.u64_in n ⟨h0, by omega⟩) 32 _ _ (by omega) ?_ ?_ (by omega) ?_ ?_ <;> simp <;> omega
/-- a digit shifted by s, and a carry below 2^s -/
theorem or_shl (a b s : Nat) (hs : s ≤ 32) (ha : a < 4294967296) (hb : b < 2 ^ s) : bits .or .u64 (IntKind.u64.wrap ((a : Int) * 2 ^ s)) (b : Int) = ((a * 2 ^ s + b : Nat) : Int) := by
  have h1 : a * 2 ^ s < 2 ^ 64 := by
    have h2 : 2 ^ s ≤ 2 ^ 32 := Nat.pow_le_pow_right (by omega) hs
    have h3 : a * 2 ^ s ≤ a * 2 ^ 32 := Nat.mul_le_mul_left _ h2
    omega
  have hb2 : b < 2 ^ 64 := by
    have h2 : 2 ^ s ≤ 2 ^ 32 := Nat.pow_le_pow_right (by omega) hs
    omega
  have e : ((a : Int) * 2 ^ s) = ((a * 2 ^ s : Nat) : Int) := by simp
  rw [e, IntWalk.u64_in _ ⟨by omega, by omega⟩]
  rw [bits_join .u64 64 (by decide) (fun n h0 h1 => IntWalk.u64_in n ⟨h0, by omega⟩) s _ _ (by omega) (by simp) (by exact_mod_cast h1) (by omega) (by exact_mod_cast hb) (by exact_mod_cast hb2)]
  simp

/-- trimmed: no leading zero -/
def Trm (n V : Nat) : Prop := n = 0 ∨ pw (n - 1) ≤ V
def TrimPost (w : World) (V : Nat) (e : Ending) (w' : World) : Prop := ∃ v n, e = .returned v ∧ Dig w v n V ∧ Trm n V ∧ w = w'
theorem Dig.nil (w : World) : Dig w (.slice none 0 0) 0 0 := ⟨none, 0, rfl, by omega, by omega, by simp [pw_zero], fun h => absurd h (by omega)⟩
theorem Dig.cut {w : World} {b off n c V m : Nat} (hc : ∀ j, j < n → w.cell? ⟨b, off + j, none⟩ = some (.int .u32 (dgt V j : Int))) (hm : m ≤ n) (hn : n ≤ c) (hc2 : c ≤ 4398046511104) (hV : V < pw m) :
    Dig w (.slice (some ⟨b, off, none⟩) m c) m V := ⟨_, c, rfl, by omega, hc2, hV, fun _ => ⟨b, off, rfl, fun j hj => hc j (by omega)⟩⟩
theorem Dig.inj {w : World} {A : Option Addr} {n m c V : Nat} (h : Dig w (.slice A m c) n V) : m = n ∧ n ≤ c ∧ c ≤ 4398046511104 ∧ V < pw n ∧
    (0 < n → ∃ b off, A = some ⟨b, off, none⟩ ∧ ∀ j, j < n → w.cell? ⟨b, off + j, none⟩ = some (.int .u32 (dgt V j : Int))) := by
  obtain ⟨A', c', e1, h1, h2, h3, h4⟩ := h
  injection e1 with a b c
  subst a b c
  exact ⟨rfl, h1, h2, h3, h4⟩

def NumPost (w : World) (V : Nat) (e : Ending) (w' : World) : Prop := ∃ v n, e = .returned v ∧ Dig w' v n V ∧ Trm n V ∧ Ext w w'
def DivPost (w : World) (V r : Nat) (e : Ending) (w' : World) : Prop := ∃ v n, e = .returned (.tuple #[v, .int .u64 r]) ∧ Dig w' v n V ∧ Trm n V ∧ Ext w w'
/-- block b is an array of the call's own: n numbers of 32 bits, f j at place j -/
def Arr (w : World) (b n : Nat) (E : TypeId) (f : Nat → Nat) : Prop :=
  ∃ cs : Array Value, w.heap[b]? = some (.cells cs E (0, 0)) ∧ cs.size = n ∧ ∀ j, j < n → cs[j]? = some (.int .u32 (f j : Int))
section
variable {w w' : World} {b n : Nat} {E : TypeId} {f g : Nat → Nat}
theorem Arr.lt (h : Arr w b n E f) : b < w.heap.size := by
  obtain ⟨cs, h1, _⟩ := h
  rcases Nat.lt_or_ge b w.heap.size with hlt | hge
  · exact hlt
  · rw [Array.getElem?_eq_none hge] at h1; cases h1
theorem Arr.cell (h : Arr w b n E f) {j : Nat} (hj : j < n) : w.cell? ⟨b, j, none⟩ = some (.int .u32 (f j : Int)) := by
  obtain ⟨cs, h1, _, h3⟩ := h
  unfold World.cell?
  rw [h1]
  simpa using h3 j hj
theorem Arr.frozen (h : Arr w b n E f) (j : Nat) : w.frozen? ⟨b, j, none⟩ = false := by
  obtain ⟨cs, h1, _⟩ := h
  simp [World.frozen?, h1]
theorem Arr.ext (h : Arr w b n E f) (k : Ext w w') : Arr w' b n E f := by
  have hl := h.lt
  obtain ⟨cs, h1, h2⟩ := h
  exact ⟨cs, (Below.block k b hl).trans h1, h2⟩
theorem Arr.drew (h : Arr w b n E f) : Arr w.drew b n E f := h
theorem Arr.drewN (h : Arr w b n E f) (k : Nat) : Arr (w.drewN k) b n E f := h
theorem Arr.congr (h : Arr w b n E f) (hfg : ∀ j, j < n → f j = g j) : Arr w b n E g := by
  obtain ⟨cs, h1, h2, h3⟩ := h
  exact ⟨cs, h1, h2, fun j hj => by rw [h3 j hj, hfg j hj]⟩
theorem Arr.set (h : Arr w b n E f) (i u : Nat) : Arr (w.setCell ⟨b, i, none⟩ (.int .u32 (u : Int))) b n E (fun j => if j = i then u else f j) := by
  obtain ⟨cs, h1, h2, h3⟩ := h
  refine ⟨cs.setIfInBounds i (.int .u32 (u : Int)), ?_, by simpa using h2, fun j hj => ?_⟩
  · simp [World.setCell, Array.getElem?_modify, h1]
  · by_cases hji : j = i
    · subst hji; simp [Array.getElem?_setIfInBounds_self, h2, hj]
    · rw [Array.getElem?_setIfInBounds_ne (Ne.symm hji), h3 j hj]; simp [hji]
theorem Arr.setI (h : Arr w b n E f) (i : Nat) (e : Int) (u : Nat) (he : e = (u : Int)) : Arr (w.setCell ⟨b, i, none⟩ (.int .u32 e)) b n E (fun j => if j = i then u else f j) := by
  subst he; exact h.set i u
theorem Arr.other {p : Addr} (h : Arr w b n E f) (hp : b ≠ p.block) (u : Value) : Arr (w.setCell p u) b n E f := by
  obtain ⟨cs, h1, h2⟩ := h
  exact ⟨cs, (Below.heap_setCell w p u b hp).trans h1, h2⟩
theorem Arr.dig {V : Nat} (h : Arr w b n E f) (hn : n ≤ 4398046511104) (hV : V < pw n) (hf : ∀ j, j < n → f j = dgt V j) : Dig w (.slice (some ⟨b, 0, none⟩) n n) n V :=
  ⟨_, n, rfl, Nat.le_refl _, hn, hV, fun _ => ⟨b, 0, rfl, fun j hj => by rw [Nat.zero_add, h.cell hj, hf j hj]⟩⟩
end
/-- the digits of V below k are there; the digits of V from k on are there -/
def ArrTo (w : World) (b n : Nat) (E : TypeId) (V k : Nat) : Prop := ∃ f, Arr w b n E f ∧ ∀ j, j < k → f j = dgt V j
def ArrFrom (w : World) (b n : Nat) (E : TypeId) (V k : Nat) : Prop := ∃ f, Arr w b n E f ∧ ∀ j, k ≤ j → j < n → f j = dgt V j
section
variable {w w' : World} {b n : Nat} {E : TypeId} {V k : Nat}
theorem ArrTo.start {f : Nat → Nat} (h : Arr w b n E f) : ArrTo w b n E V 0 := ⟨f, h, fun j hj => absurd hj (by omega)⟩
theorem ArrFrom.start {f : Nat → Nat} (h : Arr w b n E f) : ArrFrom w b n E V n := ⟨f, h, fun j h1 h2 => absurd h2 (by omega)⟩
theorem ArrTo.cell (h : ArrTo w b n E V k) {j : Nat} (hj : j < n) : ∃ u : Nat, w.cell? ⟨b, j, none⟩ = some (.int .u32 (u : Int)) := by
  obtain ⟨f, h, _⟩ := h; exact ⟨_, h.cell hj⟩
theorem ArrFrom.cell (h : ArrFrom w b n E V k) {j : Nat} (hj : j < n) : ∃ u : Nat, w.cell? ⟨b, j, none⟩ = some (.int .u32 (u : Int)) := by
  obtain ⟨f, h, _⟩ := h; exact ⟨_, h.cell hj⟩
theorem ArrTo.frozen (h : ArrTo w b n E V k) (j : Nat) : w.frozen? ⟨b, j, none⟩ = false := by obtain ⟨f, h, _⟩ := h; exact h.frozen j
theorem ArrFrom.frozen (h : ArrFrom w b n E V k) (j : Nat) : w.frozen? ⟨b, j, none⟩ = false := by obtain ⟨f, h, _⟩ := h; exact h.frozen j
theorem ArrTo.step (h : ArrTo w b n E V k) {e : Int} (he : e = (dgt V k : Nat)) : ArrTo (w.setCell ⟨b, k, none⟩ (.int .u32 e)) b n E V (k + 1) := by
  obtain ⟨f, h, hf⟩ := h
  refine ⟨_, h.setI k e _ he, fun j hj => ?_⟩
  by_cases hjk : j = k
  · subst hjk; simp
  · simp [hjk]; exact hf j (by omega)
theorem ArrFrom.step {i : Nat} (h : ArrFrom w b n E V (i + 1)) {e : Int} (he : e = (dgt V i : Nat)) : ArrFrom (w.setCell ⟨b, i, none⟩ (.int .u32 e)) b n E V i := by
  obtain ⟨f, h, hf⟩ := h
  refine ⟨_, h.setI i e _ he, fun j h1 h2 => ?_⟩
  by_cases hjk : j = i
  · subst hjk; simp
  · simp [hjk]; exact hf j (by omega) h2
theorem ArrTo.dig (h : ArrTo w b n E V n) (hn : n ≤ 4398046511104) (hV : V < pw n) : Dig w (.slice (some ⟨b, 0, none⟩) n n) n V := by
  obtain ⟨f, h, hf⟩ := h; exact h.dig hn hV hf
theorem ArrFrom.dig (h : ArrFrom w b n E V 0) (hn : n ≤ 4398046511104) (hV : V < pw n) : Dig w (.slice (some ⟨b, 0, none⟩) n n) n V := by
  obtain ⟨f, h, hf⟩ := h; exact h.dig hn hV (fun j hj => hf j (by omega) hj)
end
/-- row i of a product, place j: below i + j the new digits, from there on the old ones -/
def MulRow (w : World) (b n : Nat) (E : TypeId) (X Y i j : Nat) : Prop := ∃ f, Arr w b n E f ∧ ∀ p, p < n → f p = if p < i + j then dgt (prow X Y (i + 1)) p else dgt (prow X Y i) p
section
variable {w : World} {b n : Nat} {E : TypeId} {X Y i j : Nat}
theorem MulRow.cell (h : MulRow w b n E X Y i j) (hj : i + j < n) : w.cell? ⟨b, i + j, none⟩ = some (.int .u32 (dgt (prow X Y i) (i + j) : Nat)) := by
  obtain ⟨f, h, hf⟩ := h
  rw [h.cell hj, hf _ hj, if_neg (by omega)]
theorem MulRow.frozen (h : MulRow w b n E X Y i j) (p : Nat) : w.frozen? ⟨b, p, none⟩ = false := by obtain ⟨f, h, _⟩ := h; exact h.frozen p
theorem MulRow.drewN (h : MulRow w b n E X Y i j) (k : Nat) : MulRow (w.drewN k) b n E X Y i j := h
theorem MulRow.step (h : MulRow w b n E X Y i j) {e : Int} (he : e = (dgt (prow X Y (i + 1)) (i + j) : Nat)) : MulRow (w.setCell ⟨b, i + j, none⟩ (.int .u32 e)) b n E X Y i (j + 1) := by
  obtain ⟨f, h, hf⟩ := h
  refine ⟨_, h.setI (i + j) e _ he, fun p hp => ?_⟩
  by_cases hpk : p = i + j
  · subst hpk; simp
  · simp [hpk, hf p hp]
    by_cases h1 : p < i + j
    · rw [if_pos h1, if_pos (by omega)]
    · rw [if_neg h1, if_neg (by omega)]
theorem MulRow.next {m : Nat} (h : MulRow w b n E X Y i (m + 1)) (hY : Y < pw m) : MulRow w b n E X Y (i + 1) 0 := by
  obtain ⟨f, h, hf⟩ := h
  refine ⟨f, h, fun p hp => ?_⟩
  rw [hf p hp]
  by_cases h1 : p < i + 1 + 0
  · rw [if_pos (show p < i + (m + 1) by omega), if_pos h1]
    refine dgt_congr ?_
    rw [prow_succ X Y (i + 1)]
    obtain ⟨k, hk⟩ : ∃ k, i + 1 = p + 1 + k := ⟨i - p, by omega⟩
    rw [hk, pw_add (p + 1) k, show dgt X (p + 1 + k) * (pw (p + 1) * pw k) * Y = pw (p + 1) * (dgt X (p + 1 + k) * pw k * Y) by ac_rfl, Nat.add_mul_mod_self_left]
  · rw [if_neg h1]
    by_cases h2 : p < i + (m + 1)
    · rw [if_pos h2]
    · rw [if_neg h2]; exact prow_high hY (by omega)
theorem MulRow.start {f : Nat → Nat} (h : Arr w b n E f) (hf : ∀ p, p < n → f p = 0) : MulRow w b n E X Y 0 0 :=
  ⟨f, h, fun p hp => by rw [if_neg (by omega), hf p hp, prow_zero, dgt_zero_of_lt (pw_pos _)]⟩
theorem MulRow.dig {m k : Nat} (h : MulRow w b n E X Y k 0) (hn : n = k + m) (hc : n ≤ 4398046511104) (hX : X < pw k) (hY : Y < pw m) : Dig w (.slice (some ⟨b, 0, none⟩) n n) n (X * Y) := by
  obtain ⟨f, h, hf⟩ := h
  refine h.dig hc (by rw [hn]; exact mul_lt_pw hX hY) (fun j hj => ?_)
  rw [hf j hj]
  have e := prow_full (Y := Y) hX
  by_cases h1 : j < k + 0
  · rw [if_pos h1]
    have : prow X Y (k + 1) = prow X Y k := by rw [prow_succ, dgt_zero_of_lt hX]; simp
    rw [this, e]
  · rw [if_neg h1, e]
end
/-- only block b has been written, new blocks may have come -/
def Upd (b : Nat) (w w' : World) : Prop := w.grownBy w' (some b)
section
variable {b : Nat} {w w' w'' : World}
theorem Upd.refl (b : Nat) (w : World) : Upd b w w := World.grownBy.refl _ _
theorem Upd.size (h : Upd b w w') : w.heap.size ≤ w'.heap.size := World.grownBy.size h
theorem Upd.block (h : Upd b w w') {k : Nat} (hk : k < w.heap.size) (hb : k ≠ b) : w'.heap[k]? = w.heap[k]? := World.grownBy.block h k hk (fun e => hb (by injection e))
theorem Upd.drewN (h : Upd b w w') (k : Nat) : Upd b w (w'.drewN k) := by
  have h' : w.grownBy w' (some b) := h
  exact ⟨h'.os, h'.tape, h'.output, h'.size, h'.block⟩
theorem Upd.set (h : Upd b w w') (i : Nat) (u : Value) : Upd b w (w'.setCell ⟨b, i, none⟩ u) := by
  have h' : w.grownBy w' (some b) := h
  exact ⟨h'.os, h'.tape, h'.output, by simpa [World.setCell] using h'.size, fun k hk hb => (Below.heap_setCell w' _ u k (fun e => hb (by simp [e]))).trans (h'.block k hk hb)⟩
theorem Upd.trans (h : Upd b w w') (k : Upd b w' w'') : Upd b w w'' :=
  ⟨(World.grownBy.os k).trans (World.grownBy.os h), (World.grownBy.tape k).trans (World.grownBy.tape h), (World.grownBy.output k).trans (World.grownBy.output h), Nat.le_trans h.size k.size, fun i hi hb => (World.grownBy.block k i (Nat.lt_of_lt_of_le hi h.size) hb).trans (World.grownBy.block h i hi hb)⟩
theorem Upd.ext (h : Upd b w w') (k : Ext w' w'') : Upd b w w'' :=
  h.trans ⟨k.os, k.tape, k.output, k.size, fun i hi _ => k.block i hi⟩
theorem Upd.cell (h : Upd b w w') {p : Addr} {v : Value} (hc : w.cell? p = some v) (hb : p.block ≠ b) : w'.cell? p = some v :=
  (World.cell?_of_block (w := w) (h.block (World.block_lt_of_cell? w _ hc) hb)).trans hc
theorem Upd.below {B : Nat} {a : World} (h : Upd b w w') (k : Below B a w) (hB : B ≤ w.heap.size) (hb : B ≤ b) : Below B a w' :=
  k.grown h hB (fun j e => by injection e with e; omega)
theorem Upd.ext_of {a : World} (h : Upd b w w') (k : Ext a w) (hb : a.heap.size ≤ b) : Ext a w' := h.below k k.size hb
end
theorem Ext.of_grown {w w' : World} (h : w.grownBy w' none) : Ext w w' := (Below.refl _ _).grown h (Nat.le_refl _) (fun _ e => by cases e)

theorem wpList_make32 {P : Program} (w : World) {ops : Array Oper} {rest : List Oper} {o : Oper} {a : Act} {Q : Exit → Act → World → Prop}
    (hg : o.guard = none) (l c : Operand) (t : TypeId) (hop : o.op = Op.makeSlice t l c)
    (e : TypeId) (h1 : P.underlying t = some (.slice e)) (hinfo : (P.info? e).map (fun i => (i.zero, i.size, i.bytes)) = some (some (.int .u32 0), 1, 4))
    (L C : Int) (hl : a.eval l = .int .i64 L) (hc : a.eval c = .int .i64 C) (n : Nat) (hL : L = (n : Int)) (hC : C = (n : Int)) (hn : n ≤ 4398046511104)
    (hK : ∀ w', Arr w' w.heap.size n e (fun _ => 0) → Ext w w' → wpList P ops Q rest (a.put o.dst (.slice (some ⟨w.heap.size, 0, none⟩) n n)) w') :
    wpList P ops Q (o :: rest) a w := by
  obtain ⟨i0, hi, hz0, hz1, hz2⟩ := info_parts hinfo
  refine wpList_make_full w hg l c t hop w.heap.size e i0 _ 1 h1 hi hz0 hz1 .i64 .i64 L C n hl hc hL hC (by rw [hz2]; omega) (by unfold maxLen; omega) (Nat.le_refl _) ?_
  intro w' hown hgr
  refine hK w' ?_ (Ext.of_grown hgr)
  obtain ⟨hlen, hh⟩ := hown
  rcases hh with ⟨h, _⟩ | ⟨g, cap, cur, hv, _, hh, hcap, _, hsz, htake⟩
  · cases h
  · injection hv with e1 e2 e3
    injection e1 with e1
    injection e1 with e1
    subst e1 e3
    refine ⟨cur, hh, by omega, fun j hj => ?_⟩
    have : cur.toList = (madeCells (Value.int IntKind.u32 0).cells (n * 1)).toList := by
      rw [← htake, List.take_of_length_le (by simp; omega)]
    rw [← Array.getElem?_toList, this]
    simp [madeCells, Value.cells, hj, Nat.mod_one]

/-- the struct value v is the integer z -/
def BigV (w : World) (v : Value) (z : Int) : Prop := ∃ s n, v = .agg #[.bool (decide (z < 0)), s] ∧ Dig w s n z.natAbs ∧ Trm n z.natAbs
theorem BigV.ext {w w' : World} {v : Value} {z : Int} (h : BigV w v z) (k : Ext w w') : BigV w' v z := by
  obtain ⟨s, n, rfl, h1, h2⟩ := h; exact ⟨s, n, rfl, h1.ext k, h2⟩
theorem BigV.zero (w : World) : BigV w (.agg #[.bool false, .slice none 0 0]) 0 := ⟨_, 0, rfl, Dig.nil w, .inl rfl⟩
def sgn (neg : Bool) (V : Nat) : Int := if neg then -(V : Int) else (V : Int)
theorem sgn_natAbs (neg : Bool) (V : Nat) : (sgn neg V).natAbs = V := by unfold sgn; split <;> omega
theorem sgn_neg (neg : Bool) (V : Nat) : decide (sgn neg V < 0) = (neg && decide (0 < V)) := by
  unfold sgn; cases neg <;> simp <;> omega
theorem sgn_self (z : Int) : sgn (decide (z < 0)) z.natAbs = z := by
  unfold sgn; by_cases h : z < 0 <;> simp [h] <;> omega
/-- the value of a call that makes an integer -/
def BigPost (w : World) (z : Int) (e : Ending) (w' : World) : Prop := ∃ v, e = .returned v ∧ BigV w' v z ∧ Ext w w'
theorem Trm.le {n V L : Nat} (h : Trm n V) (hV : V < pw L) : n ≤ L := by
  rcases h with h | h
  · omega
  · exact le_of_pw h hV
theorem Trm.pos_iff {n V : Nat} (h : Trm n V) (hV : V < pw n) : 0 < n ↔ 0 < V := by
  constructor
  · intro h0
    rcases h with h | h
    · omega
    · exact Nat.lt_of_lt_of_le (pw_pos _) h
  · intro h0
    rcases Nat.eq_zero_or_pos n with h1 | h1
    · subst h1; rw [pw_zero] at hV; omega
    · exact h1

end Go.Proofs.YtljncdcjkdgkeaaGreatDoor.Big

/- Walk: number. Walks: product, Value. Plain: Bnd, from bounds of a problem's numbers. Solve and Farkas: contracts in one form. What the laws' numbers are bounded by; the examples of the chapter (plain). Walk: combine. Maps whose keys are pointers: an empty map, a map with one entry. The cells of a node. Walks: wellFormed and fits, at a leaf. -/
import Derived.Test.YtljncdcjkdgkeaaGreatDoorKLN3
import Derived.Deep.CutBlock
import Derived.Deep.RegionLaw
import Derived.Test.YtljncdcjkdgkeaaGreatDoorKLN2
import Derived.Test.YtljncdcjkdgkeaaGreatDoorKW17
import Derived.MapKept
import Derived.LaidEqlPtr
import Derived.Carry
import Derived.Test.YtljncdcjkdgkeaaGreatDoorKShelf
import Derived.BigQuiet
set_option linter.unusedVariables false
set_option linter.unusedSimpArgs false
namespace Go.Proofs.YtljncdcjkdgkeaaGreatDoor.Lp
open Go.RowKit Go.Proofs.YtljncdcjkdgkeaaGreatDoor.Big Go.Proofs.YtljncdcjkdgkeaaGreatDoor.Rt

/-- the number that a law writes -/
def qn4 (n : Int) (d : Nat) : Rat := Rat.divInt n (1 + ((d % 4 : Nat) : Int))
set_option maxHeartbeats 4000000 in
theorem number4_b (n : Int) (d : Nat) (w : World) (hn : in32 n) (hd : d ≤ 255) : Calls Tryz.prog 54 #[.int .i32 n, .int .u8 (d : Int)] w (RatBPost w (qn4 n d) 2) := by
  obtain ⟨Q, hQ⟩ : ∃ Q, Q = qn4 n d := ⟨_, rfl⟩
  rw [← hQ]
  obtain ⟨m, hm⟩ : ∃ m : Int, m = 1 + ((d % 4 : Nat) : Int) := ⟨_, rfl⟩
  have hm0 : 0 < m := by omega
  have hm1 : m < 5 := by omega
  have HQ : Hid (Q = Rat.divInt n m) := Lib.hid (by rw [hQ, hm]; rfl)
  have B0 := Box.new w 58 #[.bool false, .slice none 0 0, .bool false, .slice none 0 0]
  have hE0 : Ext w (w.alloc (.cells #[.bool false, .slice none 0 0, .bool false, .slice none 0 0] 58)) := (Ext.refl w).alloc _
  obtain ⟨n1, n2⟩ := hn
  go_enter Tryz.func54, Tryz.ntmps54
  go_upto_region 1 with fail
  generalize (w.alloc (.cells #[.bool false, .slice none 0 0, .bool false, .slice none 0 0] 58)) = V at *
  go_wp2_with fail
  refine (Frac_b _ _ _ (by omega) (by omega) (by omega) (by omega) (by omega)).mono ?_
  rintro e w1 ⟨v1, rfl, hb1, hx1⟩
  obtain ⟨p1, A1, m1, c1, p1', A1', m1', c1', rfl⟩ := hb1.1.shape
  rw [show Rat.divInt n (1 + (d : Int) % 4) = Q by rw [HQ.out, hm]; congr 1] at hb1
  have hE1 := hE0.trans hx1
  have B1 := B0.ext hx1
  go_upto_region 2 with fail
  have B5 := Box.new w1 58 #[.bool p1, .slice A1 m1 c1, .bool p1', .slice A1' m1' c1']
  have hE5 : Ext w1 (w1.alloc (.cells #[.bool p1, .slice A1 m1 c1, .bool p1', .slice A1' m1' c1'] 58)) := (Ext.refl w1).alloc _
  generalize (w1.alloc (.cells #[.bool p1, .slice A1 m1 c1, .bool p1', .slice A1' m1' c1'] 58)) = U at *
  have B2 := B1.ext hE5
  have hb2 := hb1.ext hE5
  have hE := hE1.trans hE5
  have x0 := B5.c0
  have x1 := B5.c1
  have x2 := B5.c2
  have x3 := B5.c3
  have z0 := B2.c0
  have z1 := B2.c1
  have z2 := B2.c2
  have z3 := B2.c3
  have f0 := B2.frozen 0
  have f1 := B2.frozen 1
  have f2 := B2.frozen 2
  have f3 := B2.frozen 3
  go_wp2_with fail
  obtain ⟨pp, pb⟩ := RatV.put hb2.1 B2
  have pc0 := pb.c0
  have pc1 := pb.c1
  have pc2 := pb.c2
  have pc3 := pb.c3
  refine bodyPost_ret (v := .agg #[.bool p1, .slice A1 m1 c1, .bool p1', .slice A1' m1' c1']) (by simp [results, Tryz.results54, go_sem, pc0, pc1, pc2, pc3]) rfl ?_
  exact ⟨_, rfl, ⟨pp, hb2.2⟩, (((hE.set (by simp) _).set (by simp) _).set (by simp) _).set (by simp) _⟩
end Go.Proofs.YtljncdcjkdgkeaaGreatDoor.Lp
namespace Go.Proofs.YtljncdcjkdgkeaaGreatDoor.Lp
open Go.RowKit Go.Proofs.YtljncdcjkdgkeaaGreatDoor.Big Go.Proofs.YtljncdcjkdgkeaaGreatDoor.Rt

theorem QB_zero {k : Nat} (h : 0 < k) : QB k 0 := by
  have h1 := pw_le h
  rw [pw_one] at h1
  exact ⟨by show (0 : Int).natAbs < pw k; simp; omega, by show ((1 : Nat) : Int).natAbs < pw k; simp; omega⟩
theorem QB_mag : Mag QB :=
  ⟨fun h b => QB_mono h b, QB_neg, fun {j k x y} a b => by rw [Rat.sub_eq_add_neg]; exact QB_add a (QB_neg b), QB_add, QB_mul, fun a b h => QB_div a b (fun e => h (Rat.num_eq_zero.1 e)), QB_zero⟩
end Go.Proofs.YtljncdcjkdgkeaaGreatDoor.Lp

namespace Go.Proofs.YtljncdcjkdgkeaaGreatDoor.Lp
open Go.Proofs.YtljncdcjkdgkeaaGreatDoor.Big Go.Proofs.YtljncdcjkdgkeaaGreatDoor.Rt

end Go.Proofs.YtljncdcjkdgkeaaGreatDoor.Lp

namespace Go.Proofs.YtljncdcjkdgkeaaGreatDoor.Lp
open Go.RowKit Go.Proofs.YtljncdcjkdgkeaaGreatDoor.Big Go.Proofs.YtljncdcjkdgkeaaGreatDoor.Rt

end Go.Proofs.YtljncdcjkdgkeaaGreatDoor.Lp

namespace Go.Proofs.YtljncdcjkdgkeaaGreatDoor.Lp
open Go.RowKit Go.Proofs.YtljncdcjkdgkeaaGreatDoor.Big Go.Proofs.YtljncdcjkdgkeaaGreatDoor.Rt

end Go.Proofs.YtljncdcjkdgkeaaGreatDoor.Lp
namespace Go.Proofs.YtljncdcjkdgkeaaGreatDoor.Lp
open Go.RowKit Go.Proofs.YtljncdcjkdgkeaaGreatDoor.Big Go.Proofs.YtljncdcjkdgkeaaGreatDoor.Rt

def sg1 (p : Prob) (y : Nat → Rat) (i : Nat) : Bool := decide ((p.rel i = 1 → 0 ≤ y i) ∧ (p.rel i = 3 → y i ≤ 0))
def sgB (p : Prob) (y : Nat → Rat) : Nat → Bool
  | 0 => true
  | i + 1 => sgB p y i && sg1 p y i
theorem sgB_iff {p : Prob} {y : Nat → Rat} {m : Nat} : sgB p y m = true ↔ ∀ i, i < m → (p.rel i = 1 → 0 ≤ y i) ∧ (p.rel i = 3 → y i ≤ 0) := by
  induction m with
  | zero => exact ⟨fun _ i hi => absurd hi (by omega), fun _ => rfl⟩
  | succ m ih =>
    show (sgB p y m && sg1 p y m) = true ↔ _
    rw [Bool.and_eq_true, ih]
    unfold sg1
    rw [decide_eq_true_eq]
    constructor
    · rintro ⟨a, b⟩ i hi
      by_cases e : i = m
      · subst e; exact b
      · exact a i (by omega)
    · intro h; exact ⟨fun i hi => h i (by omega), h m (by omega)⟩
theorem sgB_no {p : Prob} {y : Nat → Rat} {i m : Nat} (h : sg1 p y i = false) (hi : i < m) : sgB p y m = false := by
  cases e : sgB p y m with
  | false => rfl
  | true =>
    have := sgB_iff.1 e i hi
    unfold sg1 at h
    exact absurd this (of_decide_eq_false h)
/-- the right number of multipliers, of the right signs -/
def combB (p : Prob) (ny : Nat) (y : Nat → Rat) : Bool := (ny == p.m) && sgB p y p.m
theorem ext4 {w0 w : World} {b : Nat} (hb : w0.heap.size ≤ b) (h : Ext w0 w) (u0 u1 u2 u3 : Value) : Ext w0 ((((w.setCell ⟨b, 0, none⟩ u0).setCell ⟨b, 1, none⟩ u1).setCell ⟨b, 2, none⟩ u2).setCell ⟨b, 3, none⟩ u3) :=
  (((h.set (p := ⟨b, 0, none⟩) hb u0).set (p := ⟨b, 1, none⟩) hb u1).set (p := ⟨b, 2, none⟩) hb u2).set (p := ⟨b, 3, none⟩) hb u3
theorem RBox.fr {P : Nat → Prop} {w w' : World} {b : Nat} {q : Rat} {k : Nat} (h : RBox w b q k) (f : Fr P w w') (hb : ¬ P b) : RBox w' b q k := by
  obtain ⟨x1, y1, A, A', d, e, d', e', h1, h2⟩ := h
  exact ⟨x1, y1, A, A', d, e, d', e', f.box h1 hb, f.ratB h2⟩
theorem fr4 {w : World} {b : Nat} {E : TypeId} {x y : Bool} {A A' : Option Addr} {d e d' e' : Nat} (B : Box w b E #[.bool x, .slice A d e, .bool y, .slice A' d' e']) (u0 u1 u2 u3 : Value) :
    Fr (fun k => k = b) w ((((w.setCell ⟨b, 0, none⟩ u0).setCell ⟨b, 1, none⟩ u1).setCell ⟨b, 2, none⟩ u2).setCell ⟨b, 3, none⟩ u3) := by
  have h0 := B.set 0 u0
  have h1 := h0.set 1 u1
  have h2 := h1.set 2 u2
  refine ((((Fr.refl (fun k => k = b) w).set (p := ⟨b, 0, none⟩) rfl (fun z => ?_) u0).set (p := ⟨b, 1, none⟩) rfl (fun z => ?_) u1).set (p := ⟨b, 2, none⟩) rfl (fun z => ?_) u2).set (p := ⟨b, 3, none⟩) rfl (fun z => ?_) u3
  · rw [B.cell 0]; intro e; cases e
  · rw [h0.cell 1]; intro e; cases e
  · rw [h1.cell 2]; intro e; cases e
  · rw [h2.cell 3]; intro e; cases e
end Go.Proofs.YtljncdcjkdgkeaaGreatDoor.Lp
namespace Go.Proofs.YtljncdcjkdgkeaaGreatDoor.Big
open Go.RowKit

/-- the world in which block r is a map with these entries -/
def mapWorld (w : World) (r : Nat) (es : Array MapEntry) (clock : Nat) : World := { w with heap := w.heap.setIfInBounds r (.map es clock) }
section
variable {P : Program} {w : World} {mt kt et pt : TypeId} {r clock c0 : Nat} {es0 : Array MapEntry}
theorem mapWorld_map (hb : w.heap[r]? = some (.map es0 c0)) (es : Array MapEntry) (clock : Nat) : (mapWorld w r es clock).heap[r]? = some (.map es clock) := (MapKept.heap_set hb).1
theorem mapWorld_far (hb : w.heap[r]? = some (.map es0 c0)) (es : Array MapEntry) (clock : Nat) {k : Nat} (hk : k ≠ r) : (mapWorld w r es clock).heap[k]? = w.heap[k]? := (MapKept.heap_set hb).2 k hk
theorem run_checkKey_ptr (hk : P.underlying kt = some (.pointer pt)) (e : Bool) (n : Nat) (a : Option Addr) : (Instr.checkKey e (n + 1) kt (.pointer a)).run P w = .ok () w := by
  unfold Instr.checkKey
  simp [run_underlying hk, Result.andThen]
theorem run_findKey_empty (hk : P.underlying kt = some (.pointer pt)) (k : Value) : (Instr.findKey kt k []).run P w = .ok none w := by
  simp [Instr.findKey, run_underlying hk, Result.andThen, Instr.findNow]
theorem run_equal_ptr {j : TypeInfo} (hk : P.underlying kt = some (.pointer pt)) (hj : P.info? pt = some j) (a : Addr) : (Op.equal kt (.pointer (some a)) (.pointer (some a))).run P w = .ok true w := by
  have h : ∀ d : Nat, (Op.equalIn (d + 1) kt (.pointer (some a)) (.pointer (some a))).run P w = .ok true w := fun d => by
    simp [Op.equalIn, run_underlying hk, sizeOf, typeInfo, hj, run_sameAddr_same]
  simp [Op.equal, Op.maxDepth, h 9999]
theorem run_findKey_one {j : TypeInfo} (hk : P.underlying kt = some (.pointer pt)) (hj : P.info? pt = some j) (a : Addr) (v : Value) (c : Nat) : (Instr.findKey kt (.pointer (some a)) [{ key := .pointer (some a), val := v, born := c }]).run P w = .ok (some (0, v)) w := by
  simp [Instr.findKey, run_underlying hk, Result.andThen, Instr.findNow, Instr.sameNow, Instr.findAsking, run_equal_ptr hk hj a]
theorem run_lookup_empty {z : Value} (hm : P.underlying mt = some (.map kt et)) (hk : P.underlying kt = some (.pointer pt)) (hb : w.heap[r]? = some (.map #[] clock)) (hz : (zeroValue et).run P w = .ok z w) (a : Option Addr) :
    (Instr.lookup mt (.map (some r)) (.pointer a) true).run P w = .ok (.tuple #[z, .bool false]) w := by
  simp [Instr.lookup, run_underlying hm, Result.andThen, MapKept.run_getObj_map hb, run_checkKey_ptr (n := 9999) hk, run_findKey_empty hk, hz]
theorem run_lookup_one {j : TypeInfo} (hm : P.underlying mt = some (.map kt et)) (hk : P.underlying kt = some (.pointer pt)) (hj : P.info? pt = some j) (a : Addr) (v : Value) (c : Nat) (hb : w.heap[r]? = some (.map #[{ key := .pointer (some a), val := v, born := c }] clock)) :
    (Instr.lookup mt (.map (some r)) (.pointer (some a)) false).run P w = .ok v w := by
  simp [Instr.lookup, run_underlying hm, Result.andThen, MapKept.run_getObj_map hb, run_checkKey_ptr (n := 9999) hk, run_findKey_one hk hj]
theorem run_update_empty (hm : P.underlying mt = some (.map kt et)) (hk : P.underlying kt = some (.pointer pt)) (hb : w.heap[r]? = some (.map #[] clock)) (a : Option Addr) (v : Value) :
    (Instr.mapUpdate mt (.map (some r)) (.pointer a) v).run P w = .ok () (mapWorld w r #[{ key := .pointer a, val := v, born := clock }] (clock + 1)) := by
  simp [Instr.mapUpdate, run_underlying hm, Result.andThen, MapKept.run_getObj_map hb, run_checkKey_ptr (n := 9999) hk, run_findKey_empty hk, MapKept.run_setObj_map _ hb, mapWorld]
theorem run_update_one {j : TypeInfo} (hm : P.underlying mt = some (.map kt et)) (hk : P.underlying kt = some (.pointer pt)) (hj : P.info? pt = some j) (a : Addr) (v0 v : Value) (c : Nat) (hb : w.heap[r]? = some (.map #[{ key := .pointer (some a), val := v0, born := c }] clock)) :
    (Instr.mapUpdate mt (.map (some r)) (.pointer (some a)) v).run P w = .ok () (mapWorld w r #[{ key := .pointer (some a), val := v, born := c }] clock) := by
  have hs : (Instr.keyThatStays (.pointer (some a)) (.pointer (some a))).run P w = .ok (.pointer (some a)) w := by
    simp [Instr.keyThatStays, Instr.sameBits]
  simp [Instr.mapUpdate, run_underlying hm, Result.andThen, MapKept.run_getObj_map hb, run_checkKey_ptr (n := 9999) hk, run_findKey_one hk hj, hs, MapKept.run_setObj_map _ hb, mapWorld]
theorem run_findKey_nil {d : TypeDesc} (hk : P.underlying kt = some d) (k : Value) : (Instr.findKey kt k []).run P w = .ok none w := by
  simp [Instr.findKey, run_underlying hk, Result.andThen, Instr.findNow]
/-- a key of any kind, in an empty map -/
theorem run_lookup_emptyK {d : TypeDesc} {z k : Value} (hm : P.underlying mt = some (.map kt et)) (hk : P.underlying kt = some d) (hc : (Instr.checkKey true 10000 kt k).run P w = .ok () w) (hb : w.heap[r]? = some (.map #[] clock)) (hz : (zeroValue et).run P w = .ok z w) :
    (Instr.lookup mt (.map (some r)) k false).run P w = .ok z w := by
  simp [Instr.lookup, run_underlying hm, Result.andThen, MapKept.run_getObj_map hb, hc, run_findKey_nil hk, hz]
theorem run_update_emptyK {d : TypeDesc} {k : Value} (hm : P.underlying mt = some (.map kt et)) (hk : P.underlying kt = some d) (hc : (Instr.checkKey false 10000 kt k).run P w = .ok () w) (hb : w.heap[r]? = some (.map #[] clock)) (v : Value) :
    (Instr.mapUpdate mt (.map (some r)) k v).run P w = .ok () (mapWorld w r #[{ key := k, val := v, born := clock }] (clock + 1)) := by
  simp [Instr.mapUpdate, run_underlying hm, Result.andThen, MapKept.run_getObj_map hb, hc, run_findKey_nil hk, MapKept.run_setObj_map _ hb, mapWorld]
end
end Go.Proofs.YtljncdcjkdgkeaaGreatDoor.Big
namespace Go.Proofs.YtljncdcjkdgkeaaGreatDoor.Lp
open Go.RowKit
/-- a node in memory -/
def NodeC (vr fl : Int) (lo hi : Option Addr) (em : Bool) (A : Option Addr) (n c : Nat) : Array Value := #[.int .i64 vr, .int .i64 fl, .pointer lo, .pointer hi, .bool em, .slice A n c]
end Go.Proofs.YtljncdcjkdgkeaaGreatDoor.Lp
namespace Go.Proofs.YtljncdcjkdgkeaaGreatDoor.Lp
open Go.RowKit Go.Proofs.YtljncdcjkdgkeaaGreatDoor.Big Go.Proofs.YtljncdcjkdgkeaaGreatDoor.Rt

theorem Ext.map {a w : World} {r : Nat} (h : Ext a w) (hr : a.heap.size ≤ r) (es : Array MapEntry) (c : Nat) : Ext a (mapWorld w r es c) :=
  ⟨h.os, h.tape, h.output, by have := h.size; simpa [mapWorld] using this, fun k hk => by
    have hne : k ≠ r := by omega
    have := Below.block h k hk
    rw [← this]
    simp [mapWorld, Ne.symm hne]⟩
theorem zero_int (w : World) : (zeroValue 3).run Tryz.prog w = .ok (.int .i64 0) w := by kernel_rfl
theorem zero_bool (w : World) : (zeroValue 4).run Tryz.prog w = .ok (.bool false) w := by kernel_rfl
theorem infoNode : (Tryz.prog.info? 79).map (·.size) = some 6 := by kernel_rfl
theorem Box.mapW {w : World} {b r : Nat} {E : TypeId} {cs : Array Value} {es0 : Array MapEntry} {c0 : Nat} (h : Box w b E cs) (hr : w.heap[r]? = some (.map es0 c0)) (es : Array MapEntry) (c : Nat) : Box (mapWorld w r es c) b E cs := by
  have hne : b ≠ r := fun e => by
    subst e
    unfold Box at h
    rw [hr] at h
    injection h with h
    cases h
  exact (mapWorld_far hr es c hne).trans h
set_option maxHeartbeats 4000000 in
set_option maxRecDepth 100000 in
theorem height_leaf (tb hb fb mb : Nat) (fl lev : Int) (em : Bool) (A : Option Addr) (n c ck : Nat) (v : Value) (w : World) (hT : Box w tb 79 (NodeC (-1) fl none none em A n c)) (hH : Box w hb 131 #[.map (some mb)]) (hM : w.heap[mb]? = some (.map #[] ck)) (hl : lev ≤ 200) :
    Calls Tryz.prog 67 #[.pointer (some ⟨tb, 0, none⟩), .int .i64 lev, .pointer (some ⟨hb, 0, none⟩), v] w (fun e w' => e = .returned (.int .i64 (if fl = 0 then 0 else -1)) ∧ ∀ a, Ext a w → a.heap.size ≤ mb → Ext a w') := by
  obtain ⟨j, hj, -⟩ := Option.map_eq_some_iff.1 infoNode
  have e1 : decide ((200 : Int) < lev) = false := by simp; omega
  have h1 := run_lookup_empty (P := Tryz.prog) (mt := 131) Tryz.underlying131 Tryz.underlying25 hM (zero_int w) (some ⟨tb, 0, none⟩)
  have h2 := run_update_empty (P := Tryz.prog) (mt := 131) Tryz.underlying131 Tryz.underlying25 hM (some ⟨tb, 0, none⟩) (.int .i64 (-1))
  obtain ⟨w1, hw1⟩ : ∃ x, x = mapWorld w mb #[{ key := .pointer (some ⟨tb, 0, none⟩), val := .int .i64 (-1), born := ck }] (ck + 1) := ⟨_, rfl⟩
  have hM1 : w1.heap[mb]? = some (.map #[{ key := .pointer (some ⟨tb, 0, none⟩), val := .int .i64 (-1), born := ck }] (ck + 1)) := by rw [hw1]; exact mapWorld_map hM _ _
  have hT1 : Box w1 tb 79 (NodeC (-1) fl none none em A n c) := by rw [hw1]; exact Box.mapW hT hM _ _
  have hH1 : Box w1 hb 131 #[.map (some mb)] := by rw [hw1]; exact Box.mapW hH hM _ _
  have hx1 : ∀ a, Ext a w → a.heap.size ≤ mb → Ext a w1 := fun a ha hr => by rw [hw1]; exact Ext.map ha hr _ _
  rw [← hw1] at h2
  have h3 := run_update_one (P := Tryz.prog) (mt := 131) Tryz.underlying131 Tryz.underlying25 hj ⟨tb, 0, none⟩ (.int .i64 (-1)) (.int .i64 0) ck hM1
  obtain ⟨w2, hw2⟩ : ∃ x, x = mapWorld w1 mb #[{ key := .pointer (some ⟨tb, 0, none⟩), val := .int .i64 0, born := ck }] (ck + 1) := ⟨_, rfl⟩
  have hM2 : w2.heap[mb]? = some (.map #[{ key := .pointer (some ⟨tb, 0, none⟩), val := .int .i64 0, born := ck }] (ck + 1)) := by rw [hw2]; exact mapWorld_map hM1 _ _
  have hH2 : Box w2 hb 131 #[.map (some mb)] := by rw [hw2]; exact Box.mapW hH1 hM1 _ _
  have hx2 : ∀ a, Ext a w1 → a.heap.size ≤ mb → Ext a w2 := fun a ha hr => by rw [hw2]; exact Ext.map ha hr _ _
  rw [← hw2] at h3
  have h4 := run_lookup_one (P := Tryz.prog) (mt := 131) Tryz.underlying131 Tryz.underlying25 hj ⟨tb, 0, none⟩ (.int .i64 0) ck hM2
  have h5 := run_lookup_one (P := Tryz.prog) (mt := 131) Tryz.underlying131 Tryz.underlying25 hj ⟨tb, 0, none⟩ (.int .i64 (-1)) ck hM1
  have c0 := hH.c0
  have c1 := hH1.c0
  have c2 := hH2.c0
  have t0 : w1.cell? ⟨tb, 0, none⟩ = some (.int .i64 (-1)) := hT1.cell 0
  have t1 : w1.cell? ⟨tb, 1, none⟩ = some (.int .i64 fl) := hT1.cell 1
  have t2 : w1.cell? ⟨tb, 2, none⟩ = some (.pointer none) := hT1.cell 2
  have t3 : w1.cell? ⟨tb, 3, none⟩ = some (.pointer none) := hT1.cell 3
  clear hw1 hw2
  by_cases hf : fl = 0
  · subst hf
    go_enter Tryz.func67, Tryz.ntmps67
    go_wp2_with fail
    go_ret
    exact ⟨rfl, fun a ha hr => hx2 a (hx1 a ha hr) hr⟩
  · have e2 : (fl == 0) = false := by simpa using hf
    go_enter Tryz.func67, Tryz.ntmps67
    go_wp2_with fail
    go_ret
    exact ⟨rfl, fun a ha hr => hx1 a ha hr⟩
theorem ck_place (w : World) (e : Bool) (a : Option Addr) (z : Int) : (Instr.checkKey e 10000 143 (.agg #[.pointer a, .int .i64 z])).run Tryz.prog w = .ok () w := by kernel_rfl
set_option maxHeartbeats 4000000 in
set_option maxRecDepth 100000 in
theorem visit_leaf (tb sb pb mb : Nat) (fl lev : Int) (em : Bool) (A : Option Addr) (n c ck : Nat) (Ao Ar : Option Addr) (no co m cr : Nat) (v : Value) (w : World) (hT : Box w tb 79 (NodeC (-1) fl none none em A n c)) (hS : Box w sb 140 #[.map (some mb)]) (hM : w.heap[mb]? = some (.map #[] ck)) (hP : Box w pb 41 #[.slice Ao no co, .slice Ar m cr]) (h0 : 0 ≤ lev) (h1 : lev ≤ 1000) (hm : m ≤ 9000000000000000000) :
    Calls Tryz.prog 76 #[.pointer (some ⟨tb, 0, none⟩), .int .i64 lev, .pointer (some ⟨sb, 0, none⟩), .pointer (some ⟨pb, 0, none⟩), v] w (fun e w' => e = .returned (.bool ((n : Int) == (m : Int) + lev)) ∧ ∀ a, Ext a w → a.heap.size ≤ mb → Ext a w') := by
  obtain ⟨W, hW⟩ : ∃ x, x = w.alloc (.cells #[.pointer (some ⟨tb, 0, none⟩), .int .i64 lev] 143) := ⟨_, rfl⟩
  have hE : Ext w W := by rw [hW]; exact (Ext.refl w).alloc _
  have hB : Box W w.heap.size 143 #[.pointer (some ⟨tb, 0, none⟩), .int .i64 lev] := by rw [hW]; exact Box.new _ _ _
  have hmb : mb < w.heap.size := by
    rcases Nat.lt_or_ge mb w.heap.size with h' | h'
    · exact h'
    · rw [Array.getElem?_eq_none h'] at hM; cases hM
  have hM0 : W.heap[mb]? = some (.map #[] ck) := (Below.block hE mb hmb).trans hM
  have e1 := run_lookup_emptyK (P := Tryz.prog) (mt := 140) Tryz.underlying140 Tryz.underlying143 (ck_place W true (some ⟨tb, 0, none⟩) lev) hM0 (zero_bool W)
  have e2 := run_update_emptyK (P := Tryz.prog) (mt := 140) Tryz.underlying140 Tryz.underlying143 (ck_place W false (some ⟨tb, 0, none⟩) lev) hM0 (.bool true)
  obtain ⟨w1, hw1⟩ : ∃ x, x = mapWorld W mb #[{ key := .agg #[.pointer (some ⟨tb, 0, none⟩), .int .i64 lev], val := .bool true, born := ck }] (ck + 1) := ⟨_, rfl⟩
  have hT1 : Box w1 tb 79 (NodeC (-1) fl none none em A n c) := by rw [hw1]; exact Box.mapW (hT.ext hE) hM0 _ _
  have hP1 : Box w1 pb 41 #[.slice Ao no co, .slice Ar m cr] := by rw [hw1]; exact Box.mapW (hP.ext hE) hM0 _ _
  have hx1 : ∀ a, Ext a w → a.heap.size ≤ mb → Ext a w1 := fun a ha hr => by rw [hw1]; exact Ext.map (ha.trans hE) hr _ _
  rw [← hw1] at e2
  have c0 := (hS.ext hE).c0
  have b0 := hB.c0
  have b1 := hB.c1
  have t0 : w1.cell? ⟨tb, 0, none⟩ = some (.int .i64 (-1)) := hT1.cell 0
  have t5 : w1.cell? ⟨tb, 5, none⟩ = some (.slice A n c) := hT1.cell 5
  have p1 := hP1.c1
  have r1 : IntKind.i64.wrap ((m : Int) + lev) = (m : Int) + lev := IntWalk.i64_in _ (by omega)
  clear hw1
  go_enter Tryz.func76, Tryz.ntmps76
  go_upto_region 2 with fail
  simp only [← hW]
  clear hW
  go_upto_region 6 with fail
  go_quiet (fail)
  go_wp2_with fail
  go_ret
  exact ⟨rfl, fun a ha hr => (by repeat (first | exact hx1 a ha hr | apply Ext.drewN | apply Ext.drew))⟩
end Go.Proofs.YtljncdcjkdgkeaaGreatDoor.Lp

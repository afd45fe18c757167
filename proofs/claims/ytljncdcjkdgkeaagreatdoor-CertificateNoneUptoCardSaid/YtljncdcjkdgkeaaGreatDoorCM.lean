/- Maps whose keys are pointers: an empty map, a map with one entry. -/
import Derived.Test.YtljncdcjkdgkeaaGreatDoorMem
import Derived.MapKept
import Derived.LaidEqlPtr
import Derived.Carry
set_option linter.unusedVariables false
set_option linter.unusedSimpArgs false
namespace Go.Proofs.YtljncdcjkdgkeaaGreatDoor.Big
open Go.RowKit

/-- the world in which block r is a map with these entries -/
def mapWorld (w : World) (r : Nat) (es : Array MapEntry) (clock : Nat) : World := { w with heap := w.heap.setIfInBounds r (.map es clock) }
section
variable {P : Program} {w : World} {mt kt et pt : TypeId} {r clock c0 : Nat} {es0 : Array MapEntry}
theorem mapWorld_map (hb : w.heap[r]? = some (.map es0 c0)) (es : Array MapEntry) (clock : Nat) : (mapWorld w r es clock).heap[r]? = some (.map es clock) := (MapKept.heap_set hb).1
theorem mapWorld_far (hb : w.heap[r]? = some (.map es0 c0)) (es : Array MapEntry) (clock : Nat) {k : Nat} (hk : k ≠ r) : (mapWorld w r es clock).heap[k]? = w.heap[k]? := (MapKept.heap_set hb).2 k hk
theorem run_checkKey_ptr (hk : P.underlying kt = some (.pointer pt)) (e : Bool) (n : Nat) (a : Option Addr) : (Instr.checkKey e (n + 1) kt (.pointer a)).run P w = .ok () w := by
  unfold Instr.checkKey
  simp [run_underlying hk, Result.andThen]
theorem run_findKey_empty (hk : P.underlying kt = some (.pointer pt)) (k : Value) : (Instr.findKey kt k []).run P w = .ok none w := by
  simp [Instr.findKey, run_underlying hk, Result.andThen, Instr.findNow]
theorem run_equal_ptr {j : TypeInfo} (hk : P.underlying kt = some (.pointer pt)) (hj : P.info? pt = some j) (a : Addr) : (Op.equal kt (.pointer (some a)) (.pointer (some a))).run P w = .ok true w := by
  have h : ∀ d : Nat, (Op.equalIn (d + 1) kt (.pointer (some a)) (.pointer (some a))).run P w = .ok true w := fun d => by
    simp [Op.equalIn, run_underlying hk, sizeOf, typeInfo, hj, run_sameAddr_same]
  simp [Op.equal, Op.maxDepth, h 9999]
theorem run_findKey_one {j : TypeInfo} (hk : P.underlying kt = some (.pointer pt)) (hj : P.info? pt = some j) (a : Addr) (v : Value) (c : Nat) : (Instr.findKey kt (.pointer (some a)) [{ key := .pointer (some a), val := v, born := c }]).run P w = .ok (some (0, v)) w := by
  simp [Instr.findKey, run_underlying hk, Result.andThen, Instr.findNow, Instr.sameNow, Instr.findAsking, run_equal_ptr hk hj a]
theorem run_lookup_empty {z : Value} (hm : P.underlying mt = some (.map kt et)) (hk : P.underlying kt = some (.pointer pt)) (hb : w.heap[r]? = some (.map #[] clock)) (hz : (zeroValue et).run P w = .ok z w) (a : Option Addr) :
    (Instr.lookup mt (.map (some r)) (.pointer a) true).run P w = .ok (.tuple #[z, .bool false]) w := by
  simp [Instr.lookup, run_underlying hm, Result.andThen, MapKept.run_getObj_map hb, run_checkKey_ptr (n := 9999) hk, run_findKey_empty hk, hz]
theorem run_lookup_one {j : TypeInfo} (hm : P.underlying mt = some (.map kt et)) (hk : P.underlying kt = some (.pointer pt)) (hj : P.info? pt = some j) (a : Addr) (v : Value) (c : Nat) (hb : w.heap[r]? = some (.map #[{ key := .pointer (some a), val := v, born := c }] clock)) :
    (Instr.lookup mt (.map (some r)) (.pointer (some a)) false).run P w = .ok v w := by
  simp [Instr.lookup, run_underlying hm, Result.andThen, MapKept.run_getObj_map hb, run_checkKey_ptr (n := 9999) hk, run_findKey_one hk hj]
theorem run_update_empty (hm : P.underlying mt = some (.map kt et)) (hk : P.underlying kt = some (.pointer pt)) (hb : w.heap[r]? = some (.map #[] clock)) (a : Option Addr) (v : Value) :
    (Instr.mapUpdate mt (.map (some r)) (.pointer a) v).run P w = .ok () (mapWorld w r #[{ key := .pointer a, val := v, born := clock }] (clock + 1)) := by
  simp [Instr.mapUpdate, run_underlying hm, Result.andThen, MapKept.run_getObj_map hb, run_checkKey_ptr (n := 9999) hk, run_findKey_empty hk, MapKept.run_setObj_map _ hb, mapWorld]
theorem run_update_one {j : TypeInfo} (hm : P.underlying mt = some (.map kt et)) (hk : P.underlying kt = some (.pointer pt)) (hj : P.info? pt = some j) (a : Addr) (v0 v : Value) (c : Nat) (hb : w.heap[r]? = some (.map #[{ key := .pointer (some a), val := v0, born := c }] clock)) :
    (Instr.mapUpdate mt (.map (some r)) (.pointer (some a)) v).run P w = .ok () (mapWorld w r #[{ key := .pointer (some a), val := v, born := c }] clock) := by
  have hs : (Instr.keyThatStays (.pointer (some a)) (.pointer (some a))).run P w = .ok (.pointer (some a)) w := by
    simp [Instr.keyThatStays, Instr.sameBits]
  simp [Instr.mapUpdate, run_underlying hm, Result.andThen, MapKept.run_getObj_map hb, run_checkKey_ptr (n := 9999) hk, run_findKey_one hk hj, hs, MapKept.run_setObj_map _ hb, mapWorld]
theorem run_findKey_nil {d : TypeDesc} (hk : P.underlying kt = some d) (k : Value) : (Instr.findKey kt k []).run P w = .ok none w := by
  simp [Instr.findKey, run_underlying hk, Result.andThen, Instr.findNow]
/-- a key of any kind, in an empty map -/
theorem run_lookup_emptyK {d : TypeDesc} {z k : Value} (hm : P.underlying mt = some (.map kt et)) (hk : P.underlying kt = some d) (hc : (Instr.checkKey true 10000 kt k).run P w = .ok () w) (hb : w.heap[r]? = some (.map #[] clock)) (hz : (zeroValue et).run P w = .ok z w) :
    (Instr.lookup mt (.map (some r)) k false).run P w = .ok z w := by
  simp [Instr.lookup, run_underlying hm, Result.andThen, MapKept.run_getObj_map hb, hc, run_findKey_nil hk, hz]
theorem run_update_emptyK {d : TypeDesc} {k : Value} (hm : P.underlying mt = some (.map kt et)) (hk : P.underlying kt = some d) (hc : (Instr.checkKey false 10000 kt k).run P w = .ok () w) (hb : w.heap[r]? = some (.map #[] clock)) (v : Value) :
    (Instr.mapUpdate mt (.map (some r)) k v).run P w = .ok () (mapWorld w r #[{ key := k, val := v, born := clock }] (clock + 1)) := by
  simp [Instr.mapUpdate, run_underlying hm, Result.andThen, MapKept.run_getObj_map hb, hc, run_findKey_nil hk, MapKept.run_setObj_map _ hb, mapWorld]
end
end Go.Proofs.YtljncdcjkdgkeaaGreatDoor.Big

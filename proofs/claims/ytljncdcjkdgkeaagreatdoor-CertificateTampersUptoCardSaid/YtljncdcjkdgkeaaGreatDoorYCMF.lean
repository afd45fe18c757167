/- Maps: what is kept; maps with keys of several parts. Walk: wellFormed of any tree. -/
import Derived.Test.YtljncdcjkdgkeaaGreatDoorYCardU
import Derived.Test.YtljncdcjkdgkeaaGreatDoorYII
set_option linter.unusedVariables false
set_option linter.unusedSimpArgs false
namespace Go.Proofs.YtljncdcjkdgkeaaGreatDoor.Lp
open Go.RowKit Go.Proofs.YtljncdcjkdgkeaaGreatDoor.Big Go.Proofs.YtljncdcjkdgkeaaGreatDoor.Rt
theorem qp1.frC {r : Nat} {w w' : World} (h : qp1 r w w') {P : Nat → Prop} (hP : P r) : Fr P w w' := by
 have hs := h.size
 have hf := fun i => h.far (k := i)
 obtain ⟨⟨es, c, h1⟩, es', c', rfl⟩ := h
 refine ⟨rfl, rfl, rfl, by omega, fun k hk hne => hf k (fun e => hne (e ▸ hP)), fun b i z hz => ?_⟩
 by_cases e : b = r
 ·subst e
  unfold World.cell? at hz
  rw [h1] at hz
  cases hz
 ·exact (World.cell?_of_block (a := ⟨b, i, none⟩) (hf b e)).trans hz
theorem Fr.cellsC {P : Nat → Prop} {w w' : World} (h : Fr P w w') {k : Nat} (hk : qes w k) (hn : ¬ P k) : qes w' k := by
 obtain ⟨cs, E, h1⟩ := hk
 exact ⟨cs, E, h.row hn h1⟩
theorem qft {w : World} {r : Nat} {S : List (Nat × Value)} (h : PMap w r S) {k : Nat} (hk : qes w k) : k ≠ r := by
 obtain ⟨cs, E, h1⟩ := hk
 exact h.nobox (E := E) (cs := cs) h1
theorem qby {k : Nat} {S : List (Nat × Value)} (h : ∀ p ∈ S, p.1 < k) : qoh k S = none := pfind_none_iff.2 fun p hp e => by have := h p hp; omega
theorem qry {k : Nat} {S B : List (Nat × Value)} {v : Value} (h : ∀ p ∈ S, p.1 < k) : qoh k (S ++ (k, v) :: B) = some (S.length, v) := by
 induction S with
 | nil => simp [qoh]
 | cons p S ih =>
   have h0 : p.1 ≠ k := by have := h p (by simp); omega
   simp [qoh, h0, ih (fun q hq => h q (by simp [hq]))]
theorem qzr (w : World) : (zeroValue 3).run Tryz.prog w = .ok (.int .i64 0) w := by kernel_rfl
theorem zeroBC (w : World) : (zeroValue 4).run Tryz.prog w = .ok (.bool false) w := by kernel_rfl
theorem qxs : (Tryz.prog.info? 79).map (·.size) = some 6 := by kernel_rfl
def plK (p : Nat × Int) : Value := .agg #[.pointer (some ⟨p.1, 0, none⟩), .int .i64 p.2]
def QMap (w : World) (r : Nat) (S : List (Nat × Int)) : Prop := ∃ es clock, w.heap[r]? = some (.map es clock) ∧ es.toList.map (fun e => e.key) = S.map plK
theorem QMap.lt {w : World} {r : Nat} {S : List (Nat × Int)} (h : QMap w r S) : r < w.heap.size := by
 obtain ⟨es, c, h1, -⟩ := h
 rcases Nat.lt_or_ge r w.heap.size with h' | h'
 ·exact h'
 ·rw [Array.getElem?_eq_none h'] at h1; cases h1
theorem QMap.ext {w w' : World} {r : Nat} {S : List (Nat × Int)} (h : QMap w r S) (k : Ext w w') : QMap w' r S := by
 have hl := h.lt
 obtain ⟨es, c, h1, h2⟩ := h
 exact ⟨es, c, (Below.block k r hl).trans h1, h2⟩
theorem QMap.nobox {w : World} {r : Nat} {S : List (Nat × Int)} (h : QMap w r S) {b : Nat} {E : TypeId} {cs : Array Value} (hb : Box w b E cs) : b ≠ r := by
 rintro rfl
 obtain ⟨es, c, h1, -⟩ := h
 unfold Box at hb
 rw [hb] at h1; cases h1
theorem QMap.cells {w : World} {r : Nat} {S : List (Nat × Int)} (h : QMap w r S) {k : Nat} (hk : qes w k) : k ≠ r := by
 obtain ⟨cs, E, h1⟩ := hk
 exact h.nobox (E := E) (cs := cs) h1
theorem eq_place (w : World) {a b : Nat} (hne : a ≠ b) (x y : Int) (ha : qes w a) (hb : qes w b) : (Op.equal 143 (plK (a, x)) (plK (b, y))).run Tryz.prog w = .ok false w := by
 obtain ⟨j, hj, hsz⟩ := Option.map_eq_some_iff.1 qxs
 have hsz : j.size ≠ 0 := by omega
 obtain ⟨ca, ta, ha⟩ := ha
 obtain ⟨cb, tb, hb⟩ := hb
 have hne' : (⟨a, 0, none⟩ : Addr) ≠ ⟨b, 0, none⟩ := fun h => hne (by injection h)
 have hs : Tryz.prog.stoodInHeld 143 = false := by kernel_rfl
 have hq : ∀ d : Nat, (Op.equalIn (d + 1 + 1) 143 (plK (a, x)) (plK (b, y))).run Tryz.prog w = .ok false w := fun d => by
  have hu := run_underlying (w := w) Tryz.underlying143
  unfold plK
  have hpa : (part 25 #[.pointer (some ⟨a, 0, none⟩), .int .i64 x] 0).run Tryz.prog w = .ok (.pointer (some ⟨a, 0, none⟩)) w := by kernel_rfl
  have hpb : (part 25 #[.pointer (some ⟨b, 0, none⟩), .int .i64 y] 0).run Tryz.prog w = .ok (.pointer (some ⟨b, 0, none⟩)) w := by kernel_rfl
  simp [Op.equalIn.eq_2, hu, hs, Result.andThen, hpa, hpb, sizeOf, typeInfo, hj, hsz, run_sameAddr_other w hne' ha hb]
 exact hq 9998
theorem qku {w : World} (k : Nat) (z : Int) (hkB : qes w k) (es : List MapEntry) (S : List (Nat × Int)) (i : Nat) (h : es.map (fun e => e.key) = S.map plK) (hS : ∀ p ∈ S, qes w p.1 ∧ p.1 ≠ k) :
 (Instr.findAsking 143 (plK (k, z)) es i).run Tryz.prog w = .ok none w := by
 induction es generalizing S i with
 | nil => simp [Instr.findAsking]
 | cons e es ih =>
   cases S with
   | nil => simp at h
   | cons p S =>
     simp only [List.map_cons, List.cons.injEq] at h
     obtain ⟨h1, h3⟩ := h
     have hp := hS p (by simp)
     have he := eq_place w (Ne.symm hp.2) z p.2 hkB hp.1
     have hi := ih S (i + 1) h3 (fun q hq => hS q (by simp [hq]))
     simp only [Instr.findAsking, h1, Sem.run_bind, he, Result.andThen, Bool.false_eq_true, if_false, hi]
theorem qul {w : World} (k : Nat) (z : Int) (hkB : qes w k) (es : List MapEntry) (S : List (Nat × Int)) (h : es.map (fun e => e.key) = S.map plK) (hS : ∀ p ∈ S, qes w p.1 ∧ p.1 ≠ k) :
 (Instr.findKey 143 (plK (k, z)) es).run Tryz.prog w = .ok none w := by
 cases es with
 | nil => exact qfs Tryz.underlying143 _
 | cons e es =>
   have hf := qku k z hkB (e :: es) S 0 h hS
   cases S with
   | nil => simp at h
   | cons p S =>
     simp only [List.map_cons, List.cons.injEq] at h
     unfold Instr.findKey
     simp only [Sem.run_bind, run_underlying Tryz.underlying143, Result.andThen]
     simp only [Instr.findNow, h.1, plK, Instr.sameNow]
     exact hf
theorem qw5 {w : World} {r : Nat} {S : List (Nat × Int)} (hb : QMap w r S) (k : Nat) (z : Int) (hkB : qes w k) (hS : ∀ p ∈ S, qes w p.1 ∧ p.1 ≠ k) :
 (Instr.lookup 140 (.map (some r)) (.agg #[.pointer (some ⟨k, 0, none⟩), .int .i64 z]) false).run Tryz.prog w = .ok (.bool false) w := by
 obtain ⟨es, c, h1, h2⟩ := hb
 have hf := qul k z hkB es.toList S h2 hS
 unfold plK at hf
 simp [Instr.lookup, run_underlying Tryz.underlying140, Result.andThen, MapKept.run_getObj_map h1, qnt, hf, zeroBC]
theorem qb4 {w : World} {r : Nat} {S : List (Nat × Int)} (hb : QMap w r S) (k : Nat) (z : Int) (hkB : qes w k) (hS : ∀ p ∈ S, qes w p.1 ∧ p.1 ≠ k) (v : Value) :
 ∃ w', (Instr.mapUpdate 140 (.map (some r)) (.agg #[.pointer (some ⟨k, 0, none⟩), .int .i64 z]) v).run Tryz.prog w = .ok () w' ∧ QMap w' r (S ++ [(k, z)]) ∧ qp1 r w w' := by
 obtain ⟨es, c, h1, h2⟩ := hb
 have hf := qul k z hkB es.toList S h2 hS
 unfold plK at hf
 refine ⟨qao w r (es.push { key := plK (k, z), val := v, born := c }) (c + 1), ?_, ⟨_, _, qs7 h1 _ _, ?_⟩, ⟨⟨es, c, h1⟩, _, _, rfl⟩⟩
 ·simp [Instr.mapUpdate, run_underlying Tryz.underlying140, Result.andThen, MapKept.run_getObj_map h1, qnt, hf, MapKept.run_setObj_map _ h1, qao, plK]
 ·simp [h2]
theorem qjq.frG {P : Nat → Prop} {w w' : World} {lo : Nat} {A : Option Addr} {n c : Nat} {f : Nat → Rat} (x : qjq w lo A n c f) (k : Fr P w w') (hP : ∀ k, qes w k → ¬ P k) : qjq w' lo A n c f :=
 ⟨x.1, x.2.1, fun hn => by
  obtain ⟨b, e, hr, hb⟩ := x.2.2 hn
  have hr' := hr
  obtain ⟨cs, h1, -⟩ := hr
  exact ⟨b, e, hr'.fr k (hP b ⟨cs, _, h1⟩), hb⟩⟩
theorem qjd.frG {P : Nat → Prop} {w w' : World} : ∀ {t : CT} {A : Option Addr} {b h : Nat}, qjd w t A b h → Fr P w w' → (∀ k, qes w k → ¬ P k) → qjd w' t A b h
 | .nil, _, _, _, x, _, _ => x
 | .node .., _, _, _, x, f, hP => by
   obtain ⟨k, L, H, Y, c, m1, m2, e, h1, h2, B, hY, hl, hh⟩ := x
   exact ⟨k, L, H, Y, c, m1, m2, e, h1, h2, f.box B (hP k ⟨_, _, B⟩), ⟨hY.1.frG f hP, hY.2⟩, qjd.frG hl f hP, qjd.frG hh f hP⟩
def hgK (hb fb : Nat) : Value := .func (.func 67) #[] #[.pointer (some ⟨hb, 0, none⟩), .pointer (some ⟨fb, 0, none⟩)]
def PM (mb k : Nat) : Prop := k = mb
def qcq (mb : Nat) (S : List (Nat × Value)) (z : Int) (b h : Nat) (w : World) (e : Ending) (w' : World) : Prop :=
 e = .returned (.int .i64 z) ∧ (∃ N, PMap w' mb (S ++ N) ∧ ∀ p ∈ N, b ≤ p.1 ∧ p.1 < h ∧ qes w' p.1) ∧ Fr (PM mb) w w'
theorem qgw (mb k b h : Nat) (S : List (Nat × Value)) (w w' : World) (z : Int) (v : Value) (hF : Fr (PM mb) w w') (hM : PMap w' mb (S ++ [(k, v)])) (hk : b ≤ k) (hkh : k < h) (hkB : qes w' k) : qcq mb S z b h w (.returned (.int .i64 z)) w' :=
 ⟨rfl, ⟨[(k, v)], hM, fun p hp => by obtain rfl := List.mem_singleton.1 hp; exact ⟨hk, hkh, hkB⟩⟩, hF⟩
set_option maxHeartbeats 2000000 in
set_option maxRecDepth 100000 in
theorem height_lf (mb hb fb k b h lev : Nat) (w : World) (S : List (Nat × Value)) (fl : Int) (em : Bool) (L H Y : Option Addr) (n c : Nat) (B : Bool) (hB : B = true ↔ fl = 0 ∧ L = none ∧ H = none) (hL : ∀ a, L = some a → ∃ x, a = ⟨x, 0, none⟩) (hH : ∀ a, H = some a → ∃ x, a = ⟨x, 0, none⟩)
 (NB : Box w k 79 (q89 (-1) fl L H em Y n c)) (HB : Box w hb 131 #[.map (some mb)]) (FB : Box w fb 132 #[hgK hb fb]) (hM : PMap w mb S) (hS : ∀ p ∈ S, p.1 < k ∧ qes w p.1) (hk : b ≤ k) (hkh : k < h) (hl : lev ≤ 199) :
 Calls Tryz.prog 67 #[.pointer (some ⟨k, 0, none⟩), .int .i64 (lev : Int), .pointer (some ⟨hb, 0, none⟩), .pointer (some ⟨fb, 0, none⟩)] w (qcq mb S (if B = true then 0 else -1) b h w) := by
 obtain ⟨vr, hvr⟩ : ∃ v : Int, v = -1 := ⟨_, rfl⟩
 rw [← hvr] at NB
 obtain ⟨j, hj, hsz⟩ := Option.map_eq_some_iff.1 qxs
 have hsz : j.size ≠ 0 := by omega
 have hnl : ∀ W x, (binOp BinOp.eql 25 (.pointer (some ⟨x, 0, none⟩)) (.pointer none)).run Tryz.prog W = .ok (.bool false) W := fun _ _ => by kernel_rfl
 have hnn : ∀ W, (binOp BinOp.eql 25 (.pointer none) (.pointer none)).run Tryz.prog W = .ok (.bool true) W := fun _ => by kernel_rfl
 have hkB : qes w k := ⟨_, _, NB⟩
 have e1 : decide ((200 : Int) < (lev : Int)) = false := by simp; omega
 have hl1 := qsu (P := Tryz.prog) (mt := 131) Tryz.underlying131 Tryz.underlying25 hj hsz hM (fun p hp => (hS p hp).2) k hkB (qzr w) true
 rw [qby (fun p hp => (hS p hp).1)] at hl1
 simp only [if_true] at hl1
 obtain ⟨w1, hu1, hM1, hm1⟩ := qgl (P := Tryz.prog) (mt := 131) Tryz.underlying131 Tryz.underlying25 hj hsz hM (fun p hp => (hS p hp).2) k hkB (fun p hp e => by have := (hS p hp).1; omega) (.int .i64 (-1))
 have s0 := HB.c0
 have hhb : hb ≠ mb := hM.nobox HB
 have hfb : fb ≠ mb := hM.nobox FB
 have hnb : k ≠ mb := hM.nobox NB
 have HB1 := hm1.box HB
 have FB1 := hm1.box FB
 have NB1 := hm1.box NB
 have hF1 : Fr (PM mb) w w1 := qp1.frC hm1 rfl
 have hkB1 := hm1.cells hkB
 have HSS : Hid (∀ p ∈ S, p.1 < k ∧ qes w p.1) := Lib.hid hS
 have HS1 : Hid (∀ p ∈ S, qes w1 p.1) := Lib.hid (fun p hp => hm1.cells (hS p hp).2)
 have s1 := HB1.c0
 have t0 : w1.cell? ⟨k, 0, none⟩ = some (.int .i64 vr) := NB1.cell 0
 subst hvr
 have t1 : w1.cell? ⟨k, 1, none⟩ = some (.int .i64 fl) := NB1.cell 1
 have t2 : w1.cell? ⟨k, 2, none⟩ = some (.pointer L) := NB1.cell 2
 have t3 : w1.cell? ⟨k, 3, none⟩ = some (.pointer H) := NB1.cell 3
 have hl2 := qsu (P := Tryz.prog) (mt := 131) Tryz.underlying131 Tryz.underlying25 hj hsz hM1 (fun p hp => by
  rcases List.mem_append.1 hp with q | q
  ·exact HS1.out p q
  ·obtain rfl := List.mem_singleton.1 q
   exact hkB1) k hkB1 (qzr w1) false
 rw [qry (fun p hp => (HSS.out p hp).1)] at hl2
 simp only [Bool.false_eq_true, if_false] at hl2
 clear hm1
 cases B with
 | true =>
   obtain ⟨rfl, rfl, rfl⟩ := hB.1 rfl
   obtain ⟨w2, hu2, hM2, hm2⟩ := qkl (P := Tryz.prog) (mt := 131) Tryz.underlying131 Tryz.underlying25 hj hsz k S [] (.int .i64 (-1)) hM1 (fun p hp => by
    rcases List.mem_append.1 hp with q | q
    ·exact HS1.out p q
    ·obtain rfl := List.mem_singleton.1 q
     exact hkB1) (fun p hp e => by have := (HSS.out p hp).1; omega) (.int .i64 0)
   have hl3 := qsu (P := Tryz.prog) (mt := 131) Tryz.underlying131 Tryz.underlying25 hj hsz hM2 (fun p hp => by
    rcases List.mem_append.1 hp with q | q
    ·exact hm2.cells (HS1.out p q)
    ·obtain rfl := List.mem_singleton.1 q
     exact hm2.cells hkB1) k (hm2.cells hkB1) (qzr w2) false
   rw [qry (fun p hp => (HSS.out p hp).1)] at hl3
   simp only [Bool.false_eq_true, if_false] at hl3
   have s2 := (hm2.box HB1).c0
   have hF2 := hF1.trans (qp1.frC hm2 (P := PM mb) rfl)
   have hkB2 := hm2.cells hkB1
   clear hm2 hl2 hS
   go_enter Tryz.func67, Tryz.ntmps67
   go_wp2_with fail
   go_ret
   exact qgw mb k b h S w w2 0 (.int .i64 0) hF2 hM2 hk hkh hkB2
 | false =>
   have hno : fl = 0 → L = none → H = none → False := fun a1 a2 a3 => by have := hB.2 ⟨a1, a2, a3⟩; cases this
   have hend := qgw mb k b h S w w1 (-1) (.int .i64 (-1)) hF1 hM1 hk hkh hkB1
   clear hS
   by_cases hf : fl = 0
   ·subst hf
    rcases L with _ | a
    ·rcases H with _ | a
     ·exact absurd (hno rfl rfl rfl) id
     ·obtain ⟨x, rfl⟩ := hH a rfl
      go_enter Tryz.func67, Tryz.ntmps67
      go_wp2_with fail
      go_ret
      exact hend
    ·obtain ⟨x, rfl⟩ := hL a rfl
     go_enter Tryz.func67, Tryz.ntmps67
     go_wp2_with fail
     go_ret
     exact hend
   ·have e2 : (fl == 0) = false := by simpa using hf
    go_enter Tryz.func67, Tryz.ntmps67
    go_wp2_with fail
    go_ret
    exact hend
theorem height_no (mb hb fb k b h lev : Nat) (w : World) (S : List (Nat × Value)) (vr fl : Int) (em : Bool) (L H Y : Option Addr) (n c : Nat) (hv : vr ≠ -1) (hno : ¬ (0 ≤ vr ∧ vr ≤ 9999 ∧ em = false ∧ n = 0))
 (NB : Box w k 79 (q89 vr fl L H em Y n c)) (HB : Box w hb 131 #[.map (some mb)]) (FB : Box w fb 132 #[hgK hb fb]) (hM : PMap w mb S) (hS : ∀ p ∈ S, p.1 < k ∧ qes w p.1) (hk : b ≤ k) (hkh : k < h) (hl : lev ≤ 199) :
 Calls Tryz.prog 67 #[.pointer (some ⟨k, 0, none⟩), .int .i64 (lev : Int), .pointer (some ⟨hb, 0, none⟩), .pointer (some ⟨fb, 0, none⟩)] w (qcq mb S (-1) b h w) := by
 obtain ⟨j, hj, hsz⟩ := Option.map_eq_some_iff.1 qxs
 have hsz : j.size ≠ 0 := by omega
 have hnl : ∀ W x, (binOp BinOp.eql 25 (.pointer (some ⟨x, 0, none⟩)) (.pointer none)).run Tryz.prog W = .ok (.bool false) W := fun _ _ => by kernel_rfl
 have hnn : ∀ W, (binOp BinOp.eql 25 (.pointer none) (.pointer none)).run Tryz.prog W = .ok (.bool true) W := fun _ => by kernel_rfl
 have hkB : qes w k := ⟨_, _, NB⟩
 have e1 : decide ((200 : Int) < (lev : Int)) = false := by simp; omega
 have hl1 := qsu (P := Tryz.prog) (mt := 131) Tryz.underlying131 Tryz.underlying25 hj hsz hM (fun p hp => (hS p hp).2) k hkB (qzr w) true
 rw [qby (fun p hp => (hS p hp).1)] at hl1
 simp only [if_true] at hl1
 obtain ⟨w1, hu1, hM1, hm1⟩ := qgl (P := Tryz.prog) (mt := 131) Tryz.underlying131 Tryz.underlying25 hj hsz hM (fun p hp => (hS p hp).2) k hkB (fun p hp e => by have := (hS p hp).1; omega) (.int .i64 (-1))
 have s0 := HB.c0
 have hhb : hb ≠ mb := hM.nobox HB
 have hfb : fb ≠ mb := hM.nobox FB
 have hnb : k ≠ mb := hM.nobox NB
 have HB1 := hm1.box HB
 have FB1 := hm1.box FB
 have NB1 := hm1.box NB
 have hF1 : Fr (PM mb) w w1 := qp1.frC hm1 rfl
 have hkB1 := hm1.cells hkB
 have HSS : Hid (∀ p ∈ S, p.1 < k ∧ qes w p.1) := Lib.hid hS
 have HS1 : Hid (∀ p ∈ S, qes w1 p.1) := Lib.hid (fun p hp => hm1.cells (hS p hp).2)
 have s1 := HB1.c0
 have t0 : w1.cell? ⟨k, 0, none⟩ = some (.int .i64 vr) := NB1.cell 0
 have e3 : (vr == -1) = false := by simpa using hv
 have t4 : w1.cell? ⟨k, 4, none⟩ = some (.bool em) := NB1.cell 4
 have t5 : w1.cell? ⟨k, 5, none⟩ = some (.slice Y n c) := NB1.cell 5
 have hend := qgw mb k b h S w w1 (-1) (.int .i64 (-1)) hF1 hM1 hk hkh hkB1
 clear hm1 hS
 by_cases g1 : vr < 0
 ·have g1' : decide (vr < 0) = true := by simpa using g1
  go_enter Tryz.func67, Tryz.ntmps67
  go_wp2_with fail
  go_ret
  exact hend
 ·have g1' : decide (vr < 0) = false := by simpa using g1
  by_cases g2 : 9999 < vr
  ·have g2' : decide (9999 < vr) = true := by simpa using g2
   go_enter Tryz.func67, Tryz.ntmps67
   go_wp2_with fail
   go_ret
   exact hend
  ·have g2' : decide (9999 < vr) = false := by simpa using g2
   cases em with
   | true =>
     go_enter Tryz.func67, Tryz.ntmps67
     go_wp2_with fail
     go_ret
     exact hend
   | false =>
     have g3 : ((n : Int) != 0) = true := by
      have : n ≠ 0 := fun h => hno ⟨by omega, by omega, rfl, h⟩
      simp; omega
     go_enter Tryz.func67, Tryz.ntmps67
     go_wp2_with fail
     go_ret
     exact hend
set_option maxHeartbeats 2000000 in
set_option maxRecDepth 100000 in
theorem height_in (mb hb fb k b h lev m1 m2 : Nat) (w : World) (S : List (Nat × Value)) (vr fl za zb : Int) (L H Y : Option Addr) (c : Nat) (hv0 : 0 ≤ vr) (hv1 : vr ≤ 9999)
 (NB : Box w k 79 (q89 vr fl L H false Y 0 c)) (HB : Box w hb 131 #[.map (some mb)]) (FB : Box w fb 132 #[hgK hb fb]) (hM : PMap w mb S) (hS : ∀ p ∈ S, p.1 < k ∧ qes w p.1) (hk : b ≤ k) (hk1 : k < m1) (hm12 : m1 ≤ m2) (hm2h : m2 ≤ h) (hl : lev ≤ 199) (ha0 : -1 ≤ za) (ha1 : za < 199) (hb0 : -1 ≤ zb) (hb1 : zb < 199)
 (H1 : ∀ W, PMap W mb (S ++ [(k, .int .i64 (-1))]) → Fr (PM mb) w W → Calls Tryz.prog 67 #[.pointer L, .int .i64 ((lev : Int) + 1), .pointer (some ⟨hb, 0, none⟩), .pointer (some ⟨fb, 0, none⟩)] W (qcq mb (S ++ [(k, .int .i64 (-1))]) za m1 m2 W))
 (H2 : ∀ W N, PMap W mb (S ++ [(k, .int .i64 (-1))] ++ N) → (∀ p ∈ N, m1 ≤ p.1 ∧ p.1 < m2 ∧ qes W p.1) → Fr (PM mb) w W → Calls Tryz.prog 67 #[.pointer H, .int .i64 ((lev : Int) + 1), .pointer (some ⟨hb, 0, none⟩), .pointer (some ⟨fb, 0, none⟩)] W (qcq mb (S ++ [(k, .int .i64 (-1))] ++ N) zb m2 h W)) :
 Calls Tryz.prog 67 #[.pointer (some ⟨k, 0, none⟩), .int .i64 (lev : Int), .pointer (some ⟨hb, 0, none⟩), .pointer (some ⟨fb, 0, none⟩)] w (qcq mb S (if 0 ≤ za ∧ 0 ≤ zb then max za zb + 1 else -1) b h w) := by
 obtain ⟨Z, hZ⟩ : ∃ Z, Z = (if 0 ≤ za ∧ 0 ≤ zb then max za zb + 1 else -1) := ⟨_, rfl⟩
 rw [← hZ]
 have HZ := Lib.hid hZ
 clear hZ
 obtain ⟨j, hj, hsz⟩ := Option.map_eq_some_iff.1 qxs
 have hsz : j.size ≠ 0 := by omega
 have hnl : ∀ W x, (binOp BinOp.eql 25 (.pointer (some ⟨x, 0, none⟩)) (.pointer none)).run Tryz.prog W = .ok (.bool false) W := fun _ _ => by kernel_rfl
 have hnn : ∀ W, (binOp BinOp.eql 25 (.pointer none) (.pointer none)).run Tryz.prog W = .ok (.bool true) W := fun _ => by kernel_rfl
 have hkB : qes w k := ⟨_, _, NB⟩
 have e1 : decide ((200 : Int) < (lev : Int)) = false := by simp; omega
 have hl1 := qsu (P := Tryz.prog) (mt := 131) Tryz.underlying131 Tryz.underlying25 hj hsz hM (fun p hp => (hS p hp).2) k hkB (qzr w) true
 rw [qby (fun p hp => (hS p hp).1)] at hl1
 simp only [if_true] at hl1
 obtain ⟨w1, hu1, hM1, hm1⟩ := qgl (P := Tryz.prog) (mt := 131) Tryz.underlying131 Tryz.underlying25 hj hsz hM (fun p hp => (hS p hp).2) k hkB (fun p hp e => by have := (hS p hp).1; omega) (.int .i64 (-1))
 have s0 := HB.c0
 have hhb : hb ≠ mb := hM.nobox HB
 have hfb : fb ≠ mb := hM.nobox FB
 have hnb : k ≠ mb := hM.nobox NB
 have HB1 := hm1.box HB
 have FB1 := hm1.box FB
 have NB1 := hm1.box NB
 have hF1 : Fr (PM mb) w w1 := qp1.frC hm1 rfl
 have hkB1 := hm1.cells hkB
 have HSS : Hid (∀ p ∈ S, p.1 < k ∧ qes w p.1) := Lib.hid hS
 have HS1 : Hid (∀ p ∈ S, qes w1 p.1) := Lib.hid (fun p hp => hm1.cells (hS p hp).2)
 have s1 := HB1.c0
 have t0 : w1.cell? ⟨k, 0, none⟩ = some (.int .i64 vr) := NB1.cell 0
 have HH1 := Lib.hid H1
 have HH2 := Lib.hid H2
 have e3 : (vr == -1) = false := by simp; omega
 have t4 : w1.cell? ⟨k, 4, none⟩ = some (.bool false) := NB1.cell 4
 have t5 : w1.cell? ⟨k, 5, none⟩ = some (.slice Y 0 c) := NB1.cell 5
 have g1' : decide (vr < 0) = false := by simpa using hv0
 have g2' : decide (9999 < vr) = false := by simp; omega
 have r1 : IntKind.i64.wrap ((lev : Int) + 1) = (lev : Int) + 1 := IntWalk.i64_in _ (by omega)
 clear hm1 hS H1 H2
 go_enter Tryz.func67, Tryz.ntmps67
 go_upto_region 13 with fail
 clear hl1 hu1 t0 t4 t5 s1 g1' g2' e3 e1
 have k0 : ∀ w', Fr (PM mb) w1 w' → w'.cell? ⟨fb, 0, none⟩ = some (.func (.func 67) #[] #[.pointer (some ⟨hb, 0, none⟩), .pointer (some ⟨fb, 0, none⟩)]) := fun w' h => (h.box FB1 hfb).c0
 have k1 : ∀ w', Fr (PM mb) w1 w' → w'.cell? ⟨k, 2, none⟩ = some (.pointer L) := fun w' h => (h.box NB1 hnb).cell 2
 have k2 : ∀ w', Fr (PM mb) w1 w' → w'.cell? ⟨k, 3, none⟩ = some (.pointer H) := fun w' h => (h.box NB1 hnb).cell 3
 have ks := Fr.refl (PM mb) w1
 go_region_held3 (fun w' => Fr (PM mb) w1 w') ((repeat (first | (with_reducible assumption) | (with_reducible apply Fr.drew) | (with_reducible apply Fr.drewN) | (with_reducible refine Fr.trans ?_ (by with_reducible assumption))))) (first
  | (go_at_call 67; (with_reducible refine (HH1.out _ (hM1.ext eBx) (hF1.trans (by repeat (first | (with_reducible exact Fr.refl _ _) | (with_reducible apply Fr.drew) | (with_reducible apply Fr.drewN))))).mono ?_); rintro e wk ⟨rfl, ⟨N1, hMk, hN1⟩, hFk⟩; (have hFk1 : Fr (PM mb) w1 wk := Fr.trans (by repeat (first | (with_reducible exact Fr.refl _ _) | (with_reducible apply Fr.drew) | (with_reducible apply Fr.drewN))) hFk))
  | (go_at_call 67; (with_reducible refine (HH2.out _ N1 (hMk.ext eBx) (fun p hp => ⟨(hN1 p hp).1, (hN1 p hp).2.1, (hN1 p hp).2.2.ext eBx⟩) (hF1.trans (hFk1.trans (by repeat (first | (with_reducible exact Fr.refl _ _) | (with_reducible apply Fr.drew) | (with_reducible apply Fr.drewN)))))).mono ?_); rintro e wm ⟨rfl, ⟨N2, hMm, hN2⟩, hFm⟩; (have hFm1 : Fr (PM mb) wk wm := Fr.trans (by repeat (first | (with_reducible exact Fr.refl _ _) | (with_reducible apply Fr.drew) | (with_reducible apply Fr.drewN))) hFm))
  )
 all_goals (
  have hFw : Fr (PM mb) w wm := hF1.trans (hFk1.trans hFm1)
  have hno : ∀ k, qes w k → ¬ PM mb k := fun k hk e => qft hM hk e
  have hCb : qes wm k := Fr.cellsC hFw hkB (hno k hkB)
  have hN1m : ∀ p ∈ N1, m1 ≤ p.1 ∧ p.1 < m2 ∧ qes wm p.1 := fun p hp => ⟨(hN1 p hp).1, (hN1 p hp).2.1, Fr.cellsC hFm1 (hN1 p hp).2.2 (fun e => qft hMk (hN1 p hp).2.2 e)⟩
  have hSm : ∀ p ∈ S, qes wm p.1 := fun p hp => Fr.cellsC hFw (HSS.out p hp).2 (hno _ (HSS.out p hp).2)
  have hMm : PMap wm mb (S ++ (k, .int .i64 (-1)) :: (N1 ++ N2)) := by simpa [List.append_assoc] using hMm
  have hall : ∀ p ∈ S ++ (k, .int .i64 (-1)) :: (N1 ++ N2), qes wm p.1 := fun p hp => by
   rcases List.mem_append.1 hp with q | q
   ·exact hSm p q
   ·rcases List.mem_cons.1 q with q | q
    ·rw [q]; exact hCb
    ·rcases List.mem_append.1 q with q | q
     ·exact (hN1m p q).2.2
     ·exact (hN2 p q).2.2
  clear k0 k1 k2 r1 HH1 HH2
  by_cases hz : 0 ≤ za ∧ 0 ≤ zb
  ·have hZ1 : Z = max za zb + 1 := by rw [HZ.out, if_pos hz]
   have q1 : decide (za < 0) = false := by simpa using hz.1
   have q2 : decide (zb < 0) = false := by simpa using hz.2
   have q3 : decide ((200 : Int) ≤ max za zb) = false := by rw [decide_eq_false_iff_not]; omega
   have q4 : IntKind.i64.wrap (max za zb + 1) = max za zb + 1 := IntWalk.i64_in _ (by omega)
   obtain ⟨w3, hu3, hM3, hm3⟩ := qkl (P := Tryz.prog) (mt := 131) Tryz.underlying131 Tryz.underlying25 hj hsz k S (N1 ++ N2) (.int .i64 (-1)) hMm hall (fun p hp e => by have := (HSS.out p hp).1; omega) (.int .i64 (max za zb + 1))
   have hl3 := qsu (P := Tryz.prog) (mt := 131) Tryz.underlying131 Tryz.underlying25 hj hsz hM3 (fun p hp => by
    rcases List.mem_append.1 hp with q | q
    ·exact hm3.cells (hSm p q)
    ·rcases List.mem_cons.1 q with q | q
     ·rw [q]; exact hm3.cells hCb
     ·rcases List.mem_append.1 q with q | q
      ·exact hm3.cells (hN1m p q).2.2
      ·exact hm3.cells (hN2 p q).2.2) k (hm3.cells hCb) (qzr w3) false
   rw [qry (fun p hp => (HSS.out p hp).1)] at hl3
   simp only [Bool.false_eq_true, if_false] at hl3
   have s2 := (hFw.box HB hhb).c0
   have s3 := (hm3.box (hFw.box HB hhb)).c0
   have hF3 := hFw.trans (qp1.frC hm3 (P := PM mb) rfl)
   have hkm := hm3.cells hCb
   have hNN : ∀ p ∈ (k, Value.int .i64 (max za zb + 1)) :: (N1 ++ N2), b ≤ p.1 ∧ p.1 < h ∧ qes w3 p.1 := fun p hp => by
    rcases List.mem_cons.1 hp with q | q
    ·rw [q]; exact ⟨hk, by show k < h; omega, hkm⟩
    ·rcases List.mem_append.1 q with q | q
     ·have := hN1m p q
      exact ⟨by omega, by omega, hm3.cells this.2.2⟩
     ·have := hN2 p q
      exact ⟨by omega, by omega, hm3.cells this.2.2⟩
   clear hm3 hall hz
   go_wp2_with fail
   go_ret
   exact ⟨by rw [hZ1] <;> rfl, ⟨_, hM3, hNN⟩, hF3⟩
  ·have hZ1 : Z = -1 := by rw [HZ.out, if_neg hz]
   have hNN : ∀ p ∈ (k, Value.int .i64 (-1)) :: (N1 ++ N2), b ≤ p.1 ∧ p.1 < h ∧ qes wm p.1 := fun p hp => by
    rcases List.mem_cons.1 hp with q | q
    ·rw [q]; exact ⟨hk, by show k < h; omega, hCb⟩
    ·rcases List.mem_append.1 q with q | q
     ·have := hN1m p q
      exact ⟨by omega, by omega, this.2.2⟩
     ·have := hN2 p q
      exact ⟨by omega, by omega, this.2.2⟩
   by_cases q1 : za < 0
   ·have q1' : decide (za < 0) = true := by simpa using q1
    clear hz q1
    go_wp2_with fail
    go_ret
    exact ⟨by rw [hZ1] <;> rfl, ⟨_, hMm, hNN⟩, hFw⟩
   ·have q1' : decide (za < 0) = false := by simpa using q1
    have q2' : decide (zb < 0) = true := by simp; omega
    clear hz q1
    go_wp2_with fail
    go_ret
    exact ⟨by rw [hZ1] <;> rfl, ⟨_, hMm, hNN⟩, hFw⟩)
theorem qjd.addr {w : World} {t : CT} {A : Option Addr} {b h : Nat} (x : qjd w t A b h) : ∀ a, A = some a → ∃ k, a = ⟨k, 0, none⟩ := by
 cases t with
 | nil => intro a e; rw [x.1] at e; cases e
 | node vr fl em n y lo hi =>
   obtain ⟨k, L, H, Y, c, m1, m2, e, -⟩ := x
   intro a e'
   rw [e] at e'
   exact ⟨k, (Option.some.inj e').symm⟩
theorem height_b (mb hb fb : Nat) (t : CT) : ∀ (A : Option Addr) (b h lev : Nat) (w : World) (S : List (Nat × Value)), qjd w t A b h → lev + t.dep ≤ 200 → Box w hb 131 #[.map (some mb)] → Box w fb 132 #[hgK hb fb] → PMap w mb S → (∀ p ∈ S, p.1 < b ∧ qes w p.1) →
 Calls Tryz.prog 67 #[.pointer A, .int .i64 (lev : Int), .pointer (some ⟨hb, 0, none⟩), .pointer (some ⟨fb, 0, none⟩)] w (qcq mb S t.hgt b h w) := by
 induction t with
 | nil =>
   intro A b h lev w S hT hl HB FB hM hS
   obtain ⟨rfl, -⟩ := hT
   have key : Calls Tryz.prog 67 #[.pointer none, .int .i64 (lev : Int), .pointer (some ⟨hb, 0, none⟩), .pointer (some ⟨fb, 0, none⟩)] w (fun e w' => e = .returned (.int .i64 (-1)) ∧ w' = w) := by
    go_enter Tryz.func67, Tryz.ntmps67
    go_wp2_with fail
    go_ret
    exact ⟨rfl, rfl⟩
   refine key.mono ?_
   rintro e w' ⟨rfl, rfl⟩
   exact ⟨rfl, ⟨[], by simpa using hM, fun p hp => by cases hp⟩, Fr.refl _ _⟩
 | node vr fl em n y lo hi iha ihb =>
   intro A b h lev w S hT hl HB FB hM hS
   obtain ⟨k, L, H, Y, c, m1, m2, rfl, h1, h2, NB, hY, hlo, hhi⟩ := hT
   have hd : (CT.node vr fl em n y lo hi).dep = 1 + max lo.dep hi.dep := rfl
   rw [hd] at hl
   have l1 := hlo.le
   have l2 := hhi.le
   have hS' : ∀ p ∈ S, p.1 < k ∧ qes w p.1 := fun p hp => ⟨by have := (hS p hp).1; omega, (hS p hp).2⟩
   by_cases hv : vr = -1
   ·subst hv
    have e : (CT.node (-1) fl em n y lo hi).hgt = if (decide (fl = 0) && (lo.isNil && hi.isNil)) = true then 0 else -1 := by
     unfold CT.hgt
     rw [if_pos rfl]
     simp only [Bool.and_eq_true, decide_eq_true_eq]
    rw [e]
    refine height_lf mb hb fb k b h lev w S fl em L H Y n c _ ?_ hlo.addr hhi.addr NB HB FB hM hS' h1 (by omega) (by omega)
    simp only [Bool.and_eq_true, decide_eq_true_eq]
    refine and_congr Iff.rfl (and_congr ?_ ?_)
    ·rw [hlo.nilA]; cases lo <;> simp [CT.isNil]
    ·rw [hhi.nilA]; cases hi <;> simp [CT.isNil]
   ·by_cases hg : 0 ≤ vr ∧ vr ≤ 9999 ∧ em = false ∧ n = 0
    ·have e : (CT.node vr fl em n y lo hi).hgt = if 0 ≤ lo.hgt ∧ 0 ≤ hi.hgt then max lo.hgt hi.hgt + 1 else -1 := by
      conv => lhs; unfold CT.hgt
      rw [if_neg hv, if_pos hg]
     rw [e]
     obtain ⟨g1, g2, rfl, rfl⟩ := hg
     have a1 := lo.hgt_hi
     have a2 := hi.hgt_hi
     have hkB : qes w k := ⟨_, _, NB⟩
     have hno : ∀ i, qes w i → ¬ PM mb i := fun i hi e => qft hM hi e
     have hmb : ∀ {W : World} {i : Nat}, b ≤ i → i < h → True := fun _ _ => trivial
     have hkeep : ∀ W, Fr (PM mb) w W → Box W hb 131 #[.map (some mb)] ∧ Box W fb 132 #[hgK hb fb] := fun W hF => ⟨hF.box HB (hM.nobox HB), hF.box FB (hM.nobox FB)⟩
     refine height_in mb hb fb k b h lev m1 m2 w S vr fl lo.hgt hi.hgt L H Y c g1 g2 NB HB FB hM hS' h1 h2 l1 l2 (by omega) lo.hgt_lo (by omega) hi.hgt_lo (by omega) ?_ ?_
     ·intro W hW hF
      obtain ⟨q1, q2⟩ := hkeep W hF
      have := iha L m1 m2 (lev + 1) W _ (hlo.frG hF hno) (by omega) q1 q2 hW (fun p hp => by
       rcases List.mem_append.1 hp with q | q
       ·exact ⟨by have := (hS' p q).1; omega, Fr.cellsC hF (hS' p q).2 (hno _ (hS' p q).2)⟩
       ·obtain rfl := List.mem_singleton.1 q
        exact ⟨h2, Fr.cellsC hF hkB (hno _ hkB)⟩)
      rw [show ((lev + 1 : Nat) : Int) = (lev : Int) + 1 by omega] at this
      exact this
     ·intro W N hW hN hF
      obtain ⟨q1, q2⟩ := hkeep W hF
      have := ihb H m2 h (lev + 1) W _ (hhi.frG hF hno) (by omega) q1 q2 hW (fun p hp => by
       rcases List.mem_append.1 hp with q | q
       ·rcases List.mem_append.1 q with q | q
        ·exact ⟨by have := (hS' p q).1; omega, Fr.cellsC hF (hS' p q).2 (hno _ (hS' p q).2)⟩
        ·obtain rfl := List.mem_singleton.1 q
         exact ⟨by show k < m2; omega, Fr.cellsC hF hkB (hno _ hkB)⟩
       ·exact ⟨(hN p q).2.1, (hN p q).2.2⟩)
      rw [show ((lev + 1 : Nat) : Int) = (lev : Int) + 1 by omega] at this
      exact this
    ·have e : (CT.node vr fl em n y lo hi).hgt = -1 := by
      unfold CT.hgt
      rw [if_neg hv, if_neg hg]
     rw [e]
     exact height_no mb hb fb k b h lev w S vr fl em L H Y n c hv hg NB HB FB hM hS' h1 (by omega) (by omega)
set_option maxHeartbeats 4000000 in
set_option maxRecDepth 100000 in
theorem qbw (t : CT) (A : Option Addr) (b h : Nat) (w : World) (hT : qjd w t A b h) (hd : t.dep ≤ 200) :
 Calls Tryz.prog 32 #[.pointer A] w (fun e w' => e = .returned (.bool t.wf) ∧ Ext w w') := by
 obtain ⟨F, hFF⟩ : ∃ F, F = t.wf := ⟨_, rfl⟩
 have HF : Hid (decide (0 ≤ t.hgt) = F) := Lib.hid (by
  rw [hFF]
  cases h1 : t.wf with
  | true => exact decide_eq_true (t.hgt_wf.2 h1)
  | false => exact decide_eq_false (fun h2 => by rw [t.hgt_wf.1 h2] at h1; cases h1))
 rw [← hFF]
 clear hFF
 obtain ⟨Z, hZ⟩ : ∃ Z, Z = t.hgt := ⟨_, rfl⟩
 rw [← hZ] at HF
 have HZ := Lib.hid hZ
 clear hZ
 have hmm := @run_makeMap Tryz.prog
 obtain ⟨V, hV, hM, hB, hF, hE⟩ := ql8 w 131 132
 go_enter Tryz.func32, Tryz.ntmps32
 go_upto_region 3 with fail
 simp only [← hV]
 clear hV hmm
 obtain ⟨mb, hmb⟩ : ∃ x, x = w.heap.size := ⟨_, rfl⟩
 obtain ⟨hb, hhb⟩ : ∃ x, x = w.heap.size + 1 := ⟨_, rfl⟩
 obtain ⟨fb, hfb⟩ : ∃ x, x = w.heap.size + 1 + 1 := ⟨_, rfl⟩
 rw [← hfb, ← hhb]
 rw [← hfb] at hF
 rw [← hhb] at hB
 rw [← hmb] at hM hB
 have hms : w.heap.size ≤ mb := by omega
 have hfs : w.heap.size ≤ fb := by omega
 have n1 : hb ≠ fb := by omega
 have n2 : mb ≠ fb := by omega
 clear hmb hhb hfb
 have f0 := hF.c0
 have f1 := hF.frozen 0
 obtain ⟨K, hK⟩ : ∃ K : Value, K = hgK hb fb := ⟨_, rfl⟩
 have hF2 := hF.set 0 K
 have hB2 : Box (V.setCell ⟨fb, 0, none⟩ K) hb 131 #[.map (some mb)] := hB.far (p := ⟨fb, 0, none⟩) n1 K
 have hM2 : (V.setCell ⟨fb, 0, none⟩ K).heap[mb]? = some (.map #[] 0) := (Below.heap_setCell V ⟨fb, 0, none⟩ K mb n2).trans hM
 have hE2 : Ext w (V.setCell ⟨fb, 0, none⟩ K) := hE.set (p := ⟨fb, 0, none⟩) hfs K
 have hT2 := hT.ext hE2
 go_upto_region 4 with fail
 rw [show Value.func (.func 67) #[] #[.pointer (some ⟨hb, 0, none⟩), .pointer (some ⟨fb, 0, none⟩)] = K from hK.symm]
 generalize (V.setCell ⟨fb, 0, none⟩ K) = V2 at *
 have hF3 : Box V2 fb 132 #[K] := hF2
 rw [hK] at hF3
 clear hF2 f0 f1 hK hF hB hM
 have k0 : V2.cell? ⟨fb, 0, none⟩ = some (.func (.func 67) #[] #[.pointer (some ⟨hb, 0, none⟩), .pointer (some ⟨fb, 0, none⟩)]) := hF3.c0
 go_wp2_with fail
 refine (height_b mb hb fb t A b h 0 _ [] hT2 (by omega) hB2 hF3 ⟨#[], 0, hM2, rfl⟩ (fun p hp => by cases hp)).mono ?_
 rintro e w3 ⟨rfl, -, hFF⟩
 rw [← HZ.out]
 have hx := hFF.ext hE2 (fun b hb => by rw [hb]; exact hms)
 go_wp2_with fail
 go_ret
 exact ⟨by rw [HF.out] <;> rfl, hx⟩
end Go.Proofs.YtljncdcjkdgkeaaGreatDoor.Lp

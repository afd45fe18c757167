/- Walks: a strings.Builder that is written (after the library's own walks, at this program's copyCheck). Walk: Encode's closure at a leaf. Walk: Encode, over what it asks of the tree. Walk: -/
import Derived.Lib.AppendStr
import Derived.Shelf.Strings.Builder1
import Derived.Test.YtljncdcjkdgkeaaGreatDoorYT6
import Derived.Test.YtljncdcjkdgkeaaGreatDoorYShelf
import Derived.Test.YtljncdcjkdgkeaaGreatDoorYCardU
import Derived.Test.YtljncdcjkdgkeaaGreatDoorYCV8
import Derived.Test.YtljncdcjkdgkeaaGreatDoorYLV5
import Derived.Test.YtljncdcjkdgkeaaGreatDoorYCPG
import Derived.Test.YtljncdcjkdgkeaaGreatDoorYCPV
import Derived.Test.YtljncdcjkdgkeaaGreatDoorYCSV1
set_option linter.unusedVariables false
set_option linter.unusedSimpArgs false
set_option maxRecDepth 100000
namespace Go.Proofs.YtljncdcjkdgkeaaGreatDoor.Bld
open Go.RowKit Go.Lib Go.Proofs.YtljncdcjkdgkeaaGreatDoor.Big
abbrev BL := List UInt8
section
theorem sizeB : (Tryz.prog.info? 88).map (·.size) = some 2 := by kernel_rfl
set_option maxHeartbeats 1000000 in
theorem copyCheck_used (b : Nat) (w : World) (h0 : w.cell? ⟨b, 0, none⟩ = some (.pointer (some ⟨b, 0, none⟩))) :
 Calls Tryz.prog 68 #[.pointer (some ⟨b, 0, none⟩)] w fun e w' => e = .returned (.tuple #[]) ∧ w' = w := by
 obtain ⟨j, hj, _⟩ := Option.map_eq_some_iff.1 sizeB
 go_enter Tryz.func68, Tryz.ntmps68
 go_wp2_with fail
 rw [Lib.run_neq_ptr_same w _ Tryz.underlying86 hj]
 go_wp2_with fail
 go_end0
 exact ⟨rfl, rfl⟩
set_option maxHeartbeats 1000000 in
theorem copyCheck_fresh (b : Nat) (w : World) (h0 : w.cell? ⟨b, 0, none⟩ = some (.pointer none)) (hsh : w.shape? b = some (88, 2)) (hfz : w.frozen? ⟨b, 0, none⟩ = false) :
 Calls Tryz.prog 68 #[.pointer (some ⟨b, 0, none⟩)] w fun e w' => e = .returned (.tuple #[]) ∧ w' = w.setCell ⟨b, 0, none⟩ (.pointer (some ⟨b, 0, none⟩)) := by
 obtain ⟨j, hj, hjs⟩ := Option.map_eq_some_iff.1 sizeB
 go_enter Tryz.func68, Tryz.ntmps68
 go_wp2_with fail
 rw [Lib.run_to_unsafe w ⟨b, 0, none⟩ Tryz.underlying86 Tryz.underlying160 hj (by rw [hjs]; decide) hsh (Nat.zero_lt_succ 1)]
 simp only [Result.andThen]
 rw [Oper.upon_value]
 go_wp2_with fail
 rw [run_callFunc_extern Tryz.func95 (by kernel_rfl) (by kernel_rfl) (by kernel_rfl) (e := Extern.AbiNoEscape.same) (by kernel_rfl)]
 rw [Lib.run_noEscape]
 simp only [Result.andThen]
 rw [Oper.upon_value]
 go_wp2_with fail
 rw [Lib.run_from_unsafe w ⟨b, 0, none⟩ Tryz.underlying160 Tryz.underlying86 hj hsh (by kernel_rfl)]
 simp only [Result.andThen]
 rw [Oper.upon_value]
 go_wp2_with fail
 go_end0
 exact ⟨rfl, rfl⟩
theorem copyCheck_any (B b : Nat) (bs : List Value) (w : World) (h : Lib.IsBuilder 88 5 B b bs w) :
 Calls Tryz.prog 68 #[.pointer (some ⟨b, 0, none⟩)] w fun e w' => e = .returned (.tuple #[]) ∧ (Lib.BuilderAt 88 5 B b (.pointer (some ⟨b, 0, none⟩)) bs w' ∧ Below B w w' ∧ (∀ k, k ≠ b → w'.heap[k]? = w.heap[k]?) ∧ w'.heap.size = w.heap.size) := by
 rcases h with h | h
 ·refine (copyCheck_fresh b w h.cell0 h.shape h.frozen0).mono ?_
  rintro e w' ⟨rfl, rfl⟩
  exact ⟨rfl, h.used _, (Below.refl B w).setCell (p := ⟨b, 0, none⟩) h.1 _, fun k hk => Below.heap_setCell w ⟨b, 0, none⟩ _ k hk, by simp [World.setCell]⟩
 ·refine (copyCheck_used b w h.cell0).mono ?_
  rintro e w' ⟨rfl, rfl⟩
  exact ⟨rfl, h, Below.refl B _, fun _ _ => rfl, rfl⟩
theorem infoByte : (Tryz.prog.info? 5).map (fun i => (i.zero, i.size, i.bytes)) = some (some (.int .u8 0), 1, 1) := by kernel_rfl
set_option maxHeartbeats 2000000 in
theorem WriteString_any (B b : Nat) (bs : List Value) (s : ByteArray) (w : World) (h : Lib.IsBuilder 88 5 B b bs w) (hlen : bs.length + s.size ≤ 140737488355328) (hBw : B ≤ w.heap.size) :
 Calls Tryz.prog 35 #[.pointer (some ⟨b, 0, none⟩), .string s] w fun e w' => e = .returned (.tuple #[.int .i64 s.size, .nilIface]) ∧ (Lib.BuilderAt 88 5 B b (.pointer (some ⟨b, 0, none⟩)) (bs ++ Lib.strCells s) w' ∧ Below B w w' ∧ w.heap.size ≤ w'.heap.size ∧ (∀ k E cs, k ≠ b → E ≠ 5 → Box w k E cs → Box w' k E cs)) := by
 obtain ⟨i0, hi, hz0, hz1, hz2⟩ := info_parts infoByte
 go_enter Tryz.func35, Tryz.ntmps35
 go_wp2_with fail
 refine (copyCheck_any B b bs _ h).mono ?_
 rintro e w1 ⟨rfl, h1, hb1, hkeep1, hsz1⟩
 have HK1 := Lib.hid hkeep1
 clear hkeep1
 obtain ⟨hB, v, hbk, hown, hne⟩ := h1
 have c0 : w1.cell? ⟨b, 0, none⟩ = some (.pointer (some ⟨b, 0, none⟩)) := by rw [Lib.cell_of_heap hbk]; rfl
 have c1 : w1.cell? ⟨b, 1, none⟩ = some v := by rw [Lib.cell_of_heap hbk]; rfl
 go_wp2_with (at_builtin; refine Lib.wpList_append_own_string _ rfl _ _ 44 9 rfl B 5 i0 Tryz.underlying44 Tryz.underlying9 hi hz0 hz1 hz2 _ _ _ rfl hown s rfl ?c3 ?c4 ?c5 ?_)
 case c3 => unfold maxLen; omega
 case c4 => omega
 case c5 => have := hb1.size; omega
 intro v' w2 hown' hgrow _
 have hlt : b < w1.heap.size := by
  rcases Nat.lt_or_ge b w1.heap.size with h' | h'
  ·exact h'
  ·simp [Array.getElem?_eq_none h'] at hbk
 have hb2 : w2.heap[b]? = some (.cells #[.pointer (some ⟨b, 0, none⟩), v] 88 (0, 0)) := by
  rw [hgrow.block b hlt (fun e => hne e.symm)]
  exact hbk
 have d0 : w2.cell? ⟨b, 0, none⟩ = some (.pointer (some ⟨b, 0, none⟩)) := by rw [Lib.cell_of_heap hb2]; rfl
 have d1 : w2.cell? ⟨b, 1, none⟩ = some v := by rw [Lib.cell_of_heap hb2]; rfl
 have f1 : w2.frozen? ⟨b, 1, none⟩ = false := Lib.frozen_of_heap hb2 1
 obtain ⟨ao, n', cap, rfl⟩ : ∃ ao n' cap, v' = .slice ao n' cap := by
  rcases hown'.2 with ⟨hv, _⟩ | ⟨g, cap, cur, hv, _⟩
  ·exact ⟨_, _, _, hv⟩
  ·exact ⟨_, _, _, hv⟩
 go_wp2_with fail
 go_ret2
 refine ⟨rfl, ?_, ?_, ?_, ?_⟩
 ·exact Lib.BuilderAt.put (T := 88) (e := 5) hB hb2 (bs' := bs ++ Lib.strCells s) (by simpa [Lib.strCells_length] using hown') (by decide)
 ·exact (hb1.grown hgrow (by have := hb1.size; omega) (fun k hk => (hown.lt k hk).1)).setCell (p := ⟨b, 1, none⟩) hB _
 ·have := hgrow.size; simp [World.setCell]; omega
 ·intro k E cs hkb hE hbox
  have hbox1 : Box w1 k E cs := (HK1.out k hkb).trans hbox
  have hrow : some k ≠ v.ownBlock := by
   intro e
   rcases hown.2 with ⟨hv, _⟩ | ⟨g, cap, cur, hv, _, hg, _⟩
   ·rw [hv] at e; cases e
   ·rw [hv] at e
    injection e with e
    subst e
    unfold Box at hbox1
    rw [hg] at hbox1
    injection hbox1 with hbox1
    injection hbox1 with _ h2
    exact hE h2.symm
  have hbox2 : Box w2 k E cs := (hgrow.block k hbox1.lt hrow).trans hbox1
  exact hbox2.far (p := ⟨b, 1, none⟩) hkb _
end
theorem byteCells_append (a b : List UInt8) : Lib.byteCells (a ++ b) = Lib.byteCells a ++ Lib.byteCells b := by simp [Lib.byteCells]
theorem byteCells_len (l : List UInt8) : (Lib.byteCells l).length = l.length := by simp [Lib.byteCells]
def IsB (B b : Nat) (X : BL) (w : World) : Prop := Lib.IsBuilder 88 5 B b (Lib.byteCells X) w
theorem IsB.ext {B b : Nat} {X : BL} {w w' : World} (h : IsB B b X w) (k : Ext w w') : IsB B b X w' := by
 have key : ∀ p, Lib.BuilderAt 88 5 B b p (Lib.byteCells X) w → Lib.BuilderAt 88 5 B b p (Lib.byteCells X) w' := by
  rintro p ⟨h1, v, h2, h3, h4⟩
  exact ⟨h1, v, (Below.block k b (Box.lt (w := w) (E := 88) h2)).trans h2, qh9 h3 k, h4⟩
 exact h.imp (key _) (key _)
theorem IsB.fresh (w : World) : IsB w.heap.size w.heap.size [] (w.alloc (.cells #[.pointer none, .slice none 0 0] 88)) := Lib.fresh_isBuilder 88 5 w
def WrPost (B b : Nat) (X : BL) (w : World) (e : Ending) (w' : World) : Prop := (∃ n, e = .returned (.tuple #[.int .i64 n, .nilIface])) ∧ IsB B b X w' ∧ Below B w w' ∧ w.heap.size ≤ w'.heap.size ∧ (∀ k E cs, k ≠ b → E ≠ 5 → Box w k E cs → Box w' k E cs)
theorem qek (B b : Nat) (X : BL) (s : ByteArray) (w : World) (h : IsB B b X w) (hlen : X.length + s.size ≤ 140737488355328) (hB : B ≤ w.heap.size) : Calls Tryz.prog 35 #[.pointer (some ⟨b, 0, none⟩), .string s] w (WrPost B b (X ++ s.data.toList) w) := by
 refine (WriteString_any B b _ s w h (by rw [byteCells_len]; exact hlen) hB).mono ?_
 rintro e w' ⟨rfl, h1, h2, h3, h4⟩
 refine ⟨⟨_, rfl⟩, ?_, h2, h3, h4⟩
 show Lib.IsBuilder _ _ _ _ _ _
 rw [byteCells_append]
 exact .inr h1
end Go.Proofs.YtljncdcjkdgkeaaGreatDoor.Bld
namespace Go.Proofs.YtljncdcjkdgkeaaGreatDoor.Lp
open Go.RowKit Go.Proofs.YtljncdcjkdgkeaaGreatDoor.Big Go.Proofs.YtljncdcjkdgkeaaGreatDoor.Rt Go.Proofs.YtljncdcjkdgkeaaGreatDoor.Bld
def q4v (em : Bool) : List UInt8 := if em = true then [101, 109, 112, 116, 121] else [98, 111, 117, 110, 100]
def qx5 (y : Nat → Rat) : Nat → List UInt8
 | 0 => []
 | n + 1 => qx5 y n ++ (32 :: q6j (y n))
def leafT (em : Bool) (y : Nat → Rat) (n : Nat) : List UInt8 := q4v em ++ qx5 y n ++ [10]
theorem qhp {q : Rat} {k : Nat} (hk : 0 < k) (h : QB k q) : (q6j q).length ≤ 20 * k + 3 := by
 have h1 := qbl hk h.1
 have h2 := qbl hk h.2
 unfold q6j
 split
 ·omega
 ·rw [List.length_append, List.length_cons]
  omega
theorem numsT_len {y : Nat → Rat} {n k : Nat} (hk : 0 < k) (h : ∀ j, j < n → QB k (y j)) : (qx5 y n).length ≤ n * (20 * k + 4) := by
 induction n with
 | zero => simp [qx5]
 | succ n ih =>
   have h1 := ih (fun j hj => h j (by omega))
   have h2 := qhp hk (h n (by omega))
   show (qx5 y n ++ (32 :: q6j (y n))).length ≤ _
   rw [List.length_append, List.length_cons, Nat.add_mul]
   omega
def qfp (b : Nat) (w w' : World) : Prop := ∀ k E cs, k ≠ b → E ≠ 5 → Box w k E cs → Box w' k E cs
theorem qfp.of {b : Nat} {w w' : World} (h : Ext w w') : qfp b w w' := fun k E cs _ _ hB => hB.ext h
theorem qfp.trans {b : Nat} {w w' w'' : World} (h : qfp b w w') (k : qfp b w' w'') : qfp b w w'' := fun i E cs h1 h2 h3 => k i E cs h1 h2 (h i E cs h1 h2 h3)
def EncP (w0 : World) (b : Nat) (X : List UInt8) (w : World) (e : Ending) (w' : World) : Prop := e = .returned (.tuple #[]) ∧ IsB w0.heap.size b X w' ∧ Ext w0 w' ∧ w.heap.size ≤ w'.heap.size ∧ qfp b w w'
theorem qkp {w0 w w' : World} (h : Ext w0 w) (k : Below w0.heap.size w w') : Ext w0 w' := Below.trans h k
set_option maxHeartbeats 2000000 in
theorem qu1 (w0 w : World) (b tb : Nat) (fv : Value) (X : List UInt8) (fl : Int) (em : Bool) (A : Option Addr) (ny c K : Nat) (y : Nat → Rat) (hE : Ext w0 w) (hB : IsB w0.heap.size b X w) (hX : X.length ≤ 65536) (hT : Box w0 tb 79 (q89 (-1) fl none none em A ny c)) (hY : q94 w0 A ny c y) (hK0 : 0 < K) (hK : K ≤ 1000) (hny : ny ≤ 1000) (hq : ∀ j, j < ny → QB K (y j)) (htab : TabOK w0) :
 Calls Tryz.prog 33 #[.pointer (some ⟨tb, 0, none⟩), .pointer (some ⟨b, 0, none⟩), fv] w (EncP w0 b (X ++ leafT em y ny) w) := by
 have HQ := Lib.hid hq
 have HK := Lib.hid hK0
 clear hq
 go_enter Tryz.func33, Tryz.ntmps33
 go_wp2_with fail
 refine (Tryz.Builder_Len _ b _ w hB).mono ?_
 rintro e w1 ⟨rfl, rfl⟩
 have i1 : decide ((65536 : Int) < ((Lib.byteCells X).length : Int)) = false := by rw [Bld.byteCells_len]; simp; omega
 have t0 : w1.cell? ⟨tb, 0, none⟩ = some (.int .i64 (-1)) := hE.cell (hT.cell 0)
 have t4 : w1.cell? ⟨tb, 4, none⟩ = some (.bool em) := hE.cell (hT.cell 4)
 go_upto_if 44 with fail
 rename_i hK'
 obtain ⟨WS, hWS⟩ : ∃ s : ByteArray, s = ⟨(q4v em).toArray⟩ := ⟨_, rfl⟩
 have hws : WS.size = 5 := by rw [hWS]; cases em <;> rfl
 have HWS : Hid (WS.data.toList = q4v em) := Lib.hid (by rw [hWS])
 go_cut [4] (fun v4 wx => v4 = .string WS ∧ wx = w1)
 case first =>
  cases em with
  | true =>
    go_wp2_with fail
    go_meet
    exact ⟨by rw [hWS]; rfl, rfl⟩
  | false =>
    go_wp2_with fail
    go_meet
    exact ⟨by rw [hWS]; rfl, rfl⟩
 case rest =>
 obtain ⟨rfl, rfl⟩ := hcut
 refine hK' _ _ ?_
 clear hK' t0 t4 i1 hWS
 go_wp2_with fail
 refine (qek _ b X WS _ hB (by omega) hE.size).mono ?_
 rintro e w2 ⟨⟨n2, rfl⟩, hB2, hb2, hs2, hk2⟩
 rw [HWS.out] at hB2
 have hE2 := qkp hE hb2
 have t5 : w2.cell? ⟨tb, 5, none⟩ = some (.slice A ny c) := hE2.cell (hT.cell 5)
 have hYc := hY.1
 have HKP : Hid (qfp b wc w2) := Lib.hid hk2
 clear hb2 hk2 hB hws
 go_upto_region 10 with fail
 clear t5
 go_loopw [52] (fun i wr => ∃ j : Nat, j ≤ ny ∧ i = .int .i64 j ∧ IsB w0.heap.size b (X ++ q4v em ++ qx5 y j) wr ∧ Ext w0 wr ∧ wc.heap.size ≤ wr.heap.size ∧ Hid (qfp b wc wr)) (fun i _ => ny - (intOf i).toNat)
 case atStart => exact ⟨0, by omega, rfl, by show IsB _ _ (_ ++ []) _; rw [List.append_nil]; exact hB2, hE2, hs2, HKP⟩
 case round =>
  clear hB2 hE2 hs2 HKP
  obtain ⟨j, hj, rfl, hBr, hEr, hsr, HKr⟩ := hrel
  have hnl := numsT_len (n := j) HK.out (fun i hi => HQ.out i (by omega))
  have hnb : (X ++ q4v em ++ qx5 y j).length ≤ 100000000 := by
   have h1 : j * (20 * K + 4) ≤ 1000 * 20004 := Nat.mul_le_mul (by omega) (by omega)
   have h2 : (q4v em).length = 5 := by cases em <;> rfl
   rw [List.length_append, List.length_append]
   omega
  by_cases hlt : j < ny
  ·obtain ⟨yb, rfl, hR⟩ := hY.2.2 (by omega)
   obtain ⟨p3, A3, m3, c3, p3', A3', m3', c3', a0, a1, a2, a3, hr3⟩ := (hR.ext hEr).at hlt
   have i3 : (0 : Int) ≤ (j : Int) := by omega
   have i4 : (j : Int) < (ny : Int) := by omega
   go_upto_region 12 with fail
   have XB := Box.new wr 58 #[.bool p3, .slice A3 m3 c3, .bool p3', .slice A3' m3' c3']
   have hxT : Ext wr (wr.alloc (.cells #[.bool p3, .slice A3 m3 c3, .bool p3', .slice A3' m3' c3'] 58)) := (Ext.refl wr).alloc _
   generalize (wr.alloc (.cells #[.bool p3, .slice A3 m3 c3, .bool p3', .slice A3' m3' c3'] 58)) = T at *
   obtain ⟨xb, hxb⟩ : ∃ x, x = wr.heap.size := ⟨_, rfl⟩
   rw [← hxb] at XB ⊢
   clear hxb a0 a1 a2 a3
   have hxB : RatB T (.agg #[.bool p3, .slice A3 m3 c3, .bool p3', .slice A3' m3' c3']) (y j) K := ⟨hr3.ext hxT, HQ.out j hlt⟩
   have x0 := XB.c0
   have x1 := XB.c1
   have x2 := XB.c2
   have x3 := XB.c3
   obtain ⟨S, hS⟩ : ∃ S : ByteArray, S = ⟨(q6j (y j)).toArray⟩ := ⟨_, rfl⟩
   have hSl : S.size ≤ 20 * K + 3 := by rw [hS]; show (q6j (y j)).toArray.size ≤ _; simpa using qhp HK.out (HQ.out j hlt)
   have HS : Hid (S.data.toList = q6j (y j)) := Lib.hid (by rw [hS])
   have hcall := RatText_b _ (y j) K _ hxB (by omega) ((htab.ext hEr).ext hxT)
   rw [show qte T (q6j (y j)) = (fun e w' => e = .returned (.string S) ∧ Ext T w') by funext e w'; unfold qte; rw [hS]] at hcall
   have hno : ¬ 9223372036854775807 < 1 + S.size := by omega
   clear hS
   go_wp2_with fail
   refine hcall.mono ?_
   rintro e w5 ⟨rfl, hx5⟩
   clear hcall x0 x1 x2 x3
   go_wp2_with fail
   have hBT := (hBr.ext hxT).ext hx5
   have hE5 := (hEr.trans hxT).trans hx5
   have hs5 : wr.heap.size ≤ w5.heap.size := (hxT.trans hx5).size
   have hsz : (({ data := #[32] } : ByteArray) ++ S).size = 1 + S.size := by rw [ByteArray.size_append]; rfl
   have hdt : (({ data := #[32] } : ByteArray) ++ S).data.toList = 32 :: q6j (y j) := by rw [ByteArray.data_append, Array.toList_append, HS.out]; rfl
   refine (qek _ b _ _ _ hBT (by rw [hsz]; omega) hE5.size).mono ?_
   rintro e w6 ⟨⟨n6, rfl⟩, hB6, hb6, hs6, hk6⟩
   rw [hdt, List.append_assoc] at hB6
   have hE6 := qkp hE5 hb6
   have HK6 : Hid (qfp b wc w6) := Lib.hid ((HKr.out.trans (qfp.of (hxT.trans hx5))).trans hk6)
   have hs7 : wc.heap.size ≤ w6.heap.size := by omega
   clear hBT hE5 hs5 hsz hdt hb6 hs6 hk6 hx5 hxT hBr hEr
   go_wp2_with fail
   go_roundw
   case rel => first | exact ⟨j + 1, by omega, by go_num, hB6, hE6, hs7, HK6⟩ | ((repeat (apply Exists.intro (α := Value))); exact ⟨⟨j + 1, by omega, by go_num, hB6, hE6, hs7, HK6⟩, rfl⟩)
   case measure => simp [intOf]; omega
  ·obtain rfl : j = ny := by omega
   go_wp2_with fail
   refine (qek _ b _ ⟨#[10]⟩ _ hBr (by show _ + 1 ≤ _; omega) hEr.size).mono ?_
   rintro e w6 ⟨⟨n6, rfl⟩, hB6, hb6, hs6, hk6⟩
   go_wp2_with fail
   go_end0
   refine ⟨rfl, ?_, qkp hEr hb6, by omega, HKr.out.trans hk6⟩
   have e1 : X ++ leafT em y j = X ++ q4v em ++ qx5 y j ++ [10] := by unfold leafT; simp
   rw [e1]
   exact hB6
def EnPost (wf : Bool) (T : List UInt8) (w : World) (e : Ending) (w' : World) : Prop := Ext w w' ∧ ((wf = true ∧ e = .returned (.tuple #[.string ⟨T.toArray⟩, .int .i64 0])) ∨ (wf = false ∧ e = .returned (.tuple #[.string ⟨#[]⟩, .int .i64 3])))
set_option maxHeartbeats 2000000 in
theorem q3y (t : Value) (wf : Bool) (T : List UInt8) (w : World) (hT : T.length ≤ 65536)
 (hwf : ∀ W, Ext w W → Calls Tryz.prog 32 #[t] W (fun e w' => e = .returned (.bool wf) ∧ Ext W w'))
 (hwr : wf = true → ∀ (w0 W : World) (b fb : Nat), Ext w w0 → Ext w0 W → IsB w0.heap.size b [] W → w0.heap.size ≤ fb → w0.heap.size ≤ b → fb ≠ b → Box W fb 89 #[.func (.func 33) #[] #[.pointer (some ⟨b, 0, none⟩), .pointer (some ⟨fb, 0, none⟩)]] →
  Calls Tryz.prog 33 #[t, .pointer (some ⟨b, 0, none⟩), .pointer (some ⟨fb, 0, none⟩)] W (EncP w0 b T W)) :
 Calls Tryz.prog 12 #[t] w (EnPost wf T w) := by
 have HWR := Lib.hid hwr
 clear hwr
 go_enter Tryz.func12, Tryz.ntmps12
 go_wp2_with fail
 refine (hwf w (Ext.refl w)).mono ?_
 rintro e w2 ⟨rfl, hE2⟩
 clear hwf
 cases wf with
 | false =>
   go_wp2_with fail
   refine bodyPost_ret (v := .tuple #[.string ⟨#[]⟩, .int .i64 3]) (by simp [results, Tryz.results12, go_sem]) rfl ?_
   exact ⟨hE2, .inr ⟨rfl, rfl⟩⟩
 | true =>
 go_upto_region 4 with fail
 have hB3 := IsB.fresh w2
 have hx3 : Ext w2 (w2.alloc (.cells #[.pointer none, .slice none 0 0] 88)) := (Ext.refl w2).alloc _
 generalize (w2.alloc (.cells #[.pointer none, .slice none 0 0] 88)) = W3 at *
 obtain ⟨b, hb⟩ : ∃ x, x = w2.heap.size := ⟨_, rfl⟩
 have hB3' : IsB w2.heap.size b [] W3 := by rw [hb]; exact hB3
 rw [← hb]
 have hbw : w2.heap.size ≤ b := by omega
 have hb3 : b < W3.heap.size := by
  rcases hB3' with h | h
  ·exact h.lt
  ·exact h.lt
 clear hb hB3
 go_upto_region 5 with fail
 have FB := Box.new W3 89 #[.nilFunc]
 have hxf : Ext W3 (W3.alloc (.cells #[.nilFunc] 89)) := (Ext.refl W3).alloc _
 generalize (W3.alloc (.cells #[.nilFunc] 89)) = W4 at *
 obtain ⟨fb, hfb⟩ : ∃ x, x = W3.heap.size := ⟨_, rfl⟩
 rw [← hfb] at FB ⊢
 have hfw : W3.heap.size ≤ fb := by omega
 have hfne : fb ≠ b := by omega
 have hf2 : w2.heap.size ≤ fb := by have := hx3.size; omega
 clear hfb
 obtain ⟨K, hKK⟩ : ∃ K : Value, K = .func (.func 33) #[] #[.pointer (some ⟨b, 0, none⟩), .pointer (some ⟨fb, 0, none⟩)] := ⟨_, rfl⟩
 have f0 := FB.c0
 have f1 := FB.frozen 0
 have FB5 := FB.set 0 K
 have hx5 : Ext W3 (W4.setCell ⟨fb, 0, none⟩ K) := hxf.set (p := ⟨fb, 0, none⟩) hfw K
 go_upto_region 6 with fail
 rw [← hKK]
 generalize (W4.setCell ⟨fb, 0, none⟩ K) = W5 at *
 subst hKK
 have hB5 := hB3'.ext hx5
 have hE5 := hx3.trans hx5
 have k0 := FB5.c0
 clear f0 f1 FB hxf hB3' hx3 hx5
 have hcall := HWR.out (by first | rfl | trivial) w2 W5 b fb hE2 hE5 hB5 hf2 hbw hfne FB5
 go_wp2_with fail
 refine hcall.mono ?_
 rintro e w6 ⟨rfl, hB6, hE6, hs6, -⟩
 clear hcall k0
 go_wp2_with fail
 refine (Tryz.Builder_Len _ b _ w6 hB6).mono ?_
 rintro e w7 ⟨rfl, rfl⟩
 have i1 : decide ((65536 : Int) < ((Lib.byteCells T).length : Int)) = false := by rw [Bld.byteCells_len]; simp; omega
 obtain ⟨S, hS⟩ : ∃ S : ByteArray, S = ⟨T.toArray⟩ := ⟨_, rfl⟩
 have hstr := Tryz.Builder_String_any w2.heap.size b T w7 hB6 hE6.size
 rw [← hS] at hstr
 have HS := Lib.hid hS
 clear hS
 go_wp2_with fail
 refine hstr.mono ?_
 rintro e w8 ⟨rfl, hx8⟩
 have hE8 := hE2.trans (qkp hE6 hx8)
 clear hstr i1
 go_wp2_with fail
 refine bodyPost_ret (v := .tuple #[.string S, .int .i64 0]) (by simp [results, Tryz.results12, go_sem]) rfl ?_
 exact ⟨hE8, .inl ⟨rfl, by rw [HS.out]⟩⟩
open Go.RowKit Go.Proofs.YtljncdcjkdgkeaaGreatDoor.Big Go.Proofs.YtljncdcjkdgkeaaGreatDoor.Rt
def pA : Prob := ⟨1, 1, fun _ => ((1 : Int) : Rat), fun _ => 1, fun _ _ => ((2 : Int) : Rat), fun _ => 1, fun _ => ((5 : Int) : Rat)⟩
def yA : Nat → Rat := fun _ => Rat.divInt 1 2
theorem row1 {w : World} {b : Nat} {p p' : Bool} {A A' : Option Addr} {m c m' c' : Nat} {q : Rat} (B : Box w b 58 #[.bool p, .slice A m c, .bool p', .slice A' m' c']) (h : RatV w (.agg #[.bool p, .slice A m c, .bool p', .slice A' m' c']) q) : RowR w b 1 (fun _ => q) := by
 refine ⟨_, B, by simp, fun j hj => ?_⟩
 obtain rfl : j = 0 := by omega
 exact ⟨p, A, m, c, p', A', m', c', rfl, rfl, rfl, rfl, h⟩
theorem q53 : qba pA = true := by decide +kernel
theorem awk_leaf : q42 pA 1 yA (Rat.divInt 5 2) = true := by decide +kernel
theorem awk_two : chkB (bndB pA 1 yA) (pA.rhs yA) (limZ 2 (alZ pA.obj pA.n)) (alZ pA.obj pA.n) = true := by decide +kernel
theorem awk_one : chkB (bndB pA 1 yA) (pA.rhs yA) (limZ 1 (alZ pA.obj pA.n)) (alZ pA.obj pA.n) = false := by decide +kernel
theorem awk_text : leafT false yA 1 = [98, 111, 117, 110, 100, 32, 49, 47, 50, 10] := by decide +kernel
set_option maxHeartbeats 2000000 in
theorem awake_c (w : World) (htab : TabOK w) : Calls Tryz.prog 9 #[] w (fun e w' => e = .returned (.bool true) ∧ Ext w w') := by
 go_enter Tryz.func9, Tryz.ntmps9
 go_wp2_with fail
 refine (qfw 1 _ (by omega) (by omega)).mono ?_
 rintro e w1 ⟨v1, rfl, hb1, hx1⟩
 obtain ⟨p1, A1, n1, c1, p1', A1', n1', c1', rfl⟩ := hb1.1.shape
 have B1 := Box.new w1 58 #[.bool p1, .slice A1 n1 c1, .bool p1', .slice A1' n1' c1']
 have hy1 : Ext w1 (w1.alloc (.cells #[.bool p1, .slice A1 n1 c1, .bool p1', .slice A1' n1' c1'] 58)) := (Ext.refl w1).alloc _
 go_wp2_with fail
 generalize (w1.alloc (.cells #[.bool p1, .slice A1 n1 c1, .bool p1', .slice A1' n1' c1'] 58)) = V1 at *
 obtain ⟨ob, hob⟩ : ∃ x, x = w1.heap.size := ⟨_, rfl⟩
 rw [← hob] at B1 ⊢
 clear hob
 have hR1 := row1 B1 (hb1.1.ext hy1)
 have q1 := hb1.2
 have hE1 := hx1.trans hy1
 clear B1 hb1 hx1 hy1
 refine (qfw 2 _ (by omega) (by omega)).mono ?_
 rintro e w2 ⟨v2, rfl, hb2, hx2⟩
 obtain ⟨p2, A2, n2, c2, p2', A2', n2', c2', rfl⟩ := hb2.1.shape
 have B2 := Box.new w2 58 #[.bool p2, .slice A2 n2 c2, .bool p2', .slice A2' n2' c2']
 have hy2 : Ext w2 (w2.alloc (.cells #[.bool p2, .slice A2 n2 c2, .bool p2', .slice A2' n2' c2'] 58)) := (Ext.refl w2).alloc _
 go_wp2_with fail
 generalize (w2.alloc (.cells #[.bool p2, .slice A2 n2 c2, .bool p2', .slice A2' n2' c2'] 58)) = V2 at *
 obtain ⟨cb, hcb⟩ : ∃ x, x = w2.heap.size := ⟨_, rfl⟩
 rw [← hcb] at B2 ⊢
 clear hcb
 have hR2 := row1 B2 (hb2.1.ext hy2)
 have q2 := hb2.2
 have hR1 := (hR1.ext hx2).ext hy2
 have hE2 := (hE1.trans hx2).trans hy2
 clear B2 hb2 hx2 hy2 hE1
 refine (qfw 5 _ (by omega) (by omega)).mono ?_
 rintro e w3 ⟨v3, rfl, hb3, hx3⟩
 obtain ⟨p3, A3, n3, c3, p3', A3', n3', c3', rfl⟩ := hb3.1.shape
 obtain ⟨B3, PB, hy3⟩ := qwt w3 75 41 #[.slice (some ⟨cb, 0, none⟩) 1 1, .int .u8 1, .bool p3, .slice A3 n3 c3, .bool p3', .slice A3' n3' c3'] #[.slice (some ⟨ob, 0, none⟩) 1 1, .slice (some ⟨w3.heap.size, 0, none⟩) 1 1]
 go_upto_region 2 with fail
 generalize ((w3.alloc (.cells #[.slice (some ⟨cb, 0, none⟩) 1 1, .int .u8 1, .bool p3, .slice A3 n3 c3, .bool p3', .slice A3' n3' c3'] 75)).alloc (.cells #[.slice (some ⟨ob, 0, none⟩) 1 1, .slice (some ⟨w3.heap.size, 0, none⟩) 1 1] 41)) = V3 at *
 obtain ⟨pb, hpb⟩ : ∃ x, x = w3.heap.size + 1 := ⟨_, rfl⟩
 rw [← hpb] at PB ⊢
 clear hpb
 obtain ⟨rb, hrb⟩ : ∃ x, x = w3.heap.size := ⟨_, rfl⟩
 rw [← hrb] at PB B3
 clear hrb
 have hR2 := (hR2.ext hx3).ext hy3
 have hR1 := (hR1.ext hx3).ext hy3
 have hE3 := (hE2.trans hx3).trans hy3
 have hb3 := hb3.ext hy3
 have hv3 : qga V3 (.agg #[.slice (some ⟨ob, 0, none⟩) 1 1, .slice (some ⟨rb, 0, none⟩) 1 1]) pA := by
  refine ⟨_, 1, _, 1, rfl, ⟨by decide, by omega, fun _ => ⟨_, rfl, hR1⟩⟩, by decide, by omega, fun _ => ⟨_, rfl, fun i hi => ?_⟩⟩
  have hi : i < 1 := hi
  obtain rfl : i = 0 := by omega
  exact ⟨_, 1, p3, A3, n3, c3, p3', A3', n3', c3', B3.cell 0, B3.cell 1, B3.cell 2, B3.cell 3, B3.cell 4, B3.cell 5, ⟨by decide, by omega, fun _ => ⟨_, rfl, hR2⟩⟩, by decide, hb3.1⟩
 have HC : Hid (∀ i, i < pA.m → ∀ j, j < pA.n → QB 2 (pA.coef i j)) := Lib.hid fun _ _ _ _ => q2
 have HR : Hid (∀ i, i < pA.m → QB 2 (pA.right i)) := Lib.hid fun _ _ => hb3.2
 have HO : Hid (∀ j, j < pA.n → QB 2 (pA.obj j)) := Lib.hid fun _ _ => q1
 clear q1 q2 hb3 B3 hR1 hR2 hx3 hy3 hE2
 go_wp2_with fail
 refine (q6i 1 2 _ (by omega) (by omega) (by omega) (by omega) (by omega)).mono ?_
 rintro e w4 ⟨v4, rfl, hb4, hx4⟩
 obtain ⟨p4, A4, n4, c4, p4', A4', n4', c4', rfl⟩ := hb4.1.shape
 go_upto_region 3 with fail
 have HB := Box.new w4 58 #[.bool p4, .slice A4 n4 c4, .bool p4', .slice A4' n4' c4']
 have hy4 : Ext w4 (w4.alloc (.cells #[.bool p4, .slice A4 n4 c4, .bool p4', .slice A4' n4' c4'] 58)) := (Ext.refl w4).alloc _
 generalize (w4.alloc (.cells #[.bool p4, .slice A4 n4 c4, .bool p4', .slice A4' n4' c4'] 58)) = V4 at *
 obtain ⟨hb, hhb⟩ : ∃ x, x = w4.heap.size := ⟨_, rfl⟩
 rw [← hhb] at HB ⊢
 clear hhb
 have hx4 := hx4.trans hy4
 have hb4 := hb4.ext hy4
 have hv4 := hv3.ext hx4
 have PB4 := PB.ext hx4
 have hE4 := hE3.trans hx4
 clear hv3 PB hE3 hx4 hy4
 go_wp2_with fail
 refine (q6i 5 2 _ (by omega) (by omega) (by omega) (by omega) (by omega)).mono ?_
 rintro e w5 ⟨v5, rfl, hb5, hx5⟩
 obtain ⟨p5, A5, n5, c5, p5', A5', n5', c5', rfl⟩ := hb5.1.shape
 go_upto_region 4 with fail
 have LB := Box.new w5 58 #[.bool p5, .slice A5 n5 c5, .bool p5', .slice A5' n5' c5']
 have hy5 : Ext w5 (w5.alloc (.cells #[.bool p5, .slice A5 n5 c5, .bool p5', .slice A5' n5' c5'] 58)) := (Ext.refl w5).alloc _
 generalize (w5.alloc (.cells #[.bool p5, .slice A5 n5 c5, .bool p5', .slice A5' n5' c5'] 58)) = V5 at *
 obtain ⟨lb, hlb⟩ : ∃ x, x = w5.heap.size := ⟨_, rfl⟩
 rw [← hlb] at LB ⊢
 clear hlb
 have hx5 := hx5.trans hy5
 have hb5 := hb5.ext hy5
 have hv5 := hv4.ext hx5
 have PB5 := PB4.ext hx5
 have HB5 := HB.ext hx5
 have hb45 := hb4.ext hx5
 have hE5 := hE4.trans hx5
 clear hv4 PB4 HB hb4 hE4 hx5 hy5
 have h0 := HB5.c0
 have h1 := HB5.c1
 have h2 := HB5.c2
 have h3 := HB5.c3
 obtain ⟨YB, TB, hy6⟩ := qwt V5 58 79 #[.bool p4, .slice A4 n4 c4, .bool p4', .slice A4' n4' c4'] (q89 (-1) 0 none none false (some ⟨V5.heap.size, 0, none⟩) 1 1)
 unfold q89 at TB YB hy6
 go_upto_region 5 with fail
 generalize ((V5.alloc (.cells #[.bool p4, .slice A4 n4 c4, .bool p4', .slice A4' n4' c4'] 58)).alloc (.cells #[.int .i64 (-1), .int .i64 0, .pointer none, .pointer none, .bool false, .slice (some ⟨V5.heap.size, 0, none⟩) 1 1] 79)) = V6 at *
 obtain ⟨tb, htb⟩ : ∃ x, x = V5.heap.size + 1 := ⟨_, rfl⟩
 rw [← htb] at TB ⊢
 clear htb
 obtain ⟨yb, hyb⟩ : ∃ x, x = V5.heap.size := ⟨_, rfl⟩
 rw [← hyb] at TB YB
 clear hyb
 have hv6 := hv5.ext hy6
 have PB6 := PB5.ext hy6
 have LB6 := LB.ext hy6
 have hb6 := hb5.ext hy6
 have hY6 : q94 V6 (some ⟨yb, 0, none⟩) 1 1 yA := ⟨by omega, by omega, fun _ => ⟨_, rfl, row1 YB (hb45.ext hy6).1⟩⟩
 have HY : Hid (∀ j, j < 1 → QB 2 (yA j)) := Lib.hid fun _ _ => hb45.2
 have hE6 := hE5.trans hy6
 clear hv5 PB5 LB hb5 hb45 hE5 hy6 h0 h1 h2 h3 HB5 YB
 have hwf : ∀ W, Ext V6 W → Calls Tryz.prog 32 #[.pointer (some ⟨tb, 0, none⟩)] W (fun e w' => e = .returned (.bool true) ∧ Ext W w') := fun W hW => by
  have h := q84 tb 0 false (some ⟨yb, 0, none⟩) 1 1 W (TB.ext hW)
  rw [show decide ((0 : Int) = 0) = true by decide] at h
  exact h
 have hen : Calls Tryz.prog 12 #[.pointer (some ⟨tb, 0, none⟩)] V6 (EnPost true [98, 111, 117, 110, 100, 32, 49, 47, 50, 10] V6) :=
  q3y _ true _ _ (by decide) hwf (fun _ w0 W b fb e0 e1 hB _ _ _ _ => by
   have h := qu1 w0 W b tb (.pointer (some ⟨fb, 0, none⟩)) [] 0 false (some ⟨yb, 0, none⟩) 1 1 2 yA e1 hB (by simp) (TB.ext e0) (hY6.ext e0) (by omega) (by omega) (by omega) HY.out (htab.ext (hE6.trans e0))
   rw [List.nil_append, awk_text] at h
   exact h)
 go_wp2_with fail
 refine hen.mono ?_
 rintro e w7 ⟨hx7, ⟨-, rfl⟩ | ⟨h, -⟩⟩
 ·have HL : ∀ W, Ext V6 W → Calls Tryz.prog 30 #[.agg #[.slice (some ⟨ob, 0, none⟩) 1 1, .slice (some ⟨rb, 0, none⟩) 1 1], .agg #[.bool p5, .slice A5 n5 c5, .bool p5', .slice A5' n5' c5'], .slice (some ⟨yb, 0, none⟩) 1 1] W (qjz W (.bool true)) := fun W hW => by
   have h := Leaf_b _ pA _ (Rat.divInt 5 2) (some ⟨yb, 0, none⟩) 1 1 yA 2 2 2 2 2 8 W (hv6.ext hW) (hb6.ext hW) (hY6.ext hW) HC.out HR.out HO.out HY.out (by decide) (by decide) (by decide) (by decide) (by decide)
   rw [awk_leaf] at h
   exact h
  have HK : ∀ (z : Int) (R : Bool), z = 1 ∨ z = 2 → chkB (bndB pA 1 yA) (pA.rhs yA) (limZ z (alZ pA.obj pA.n)) (alZ pA.obj pA.n) = R → ∀ W, Ext V6 W → Calls Tryz.prog 16 #[.agg #[.slice (some ⟨ob, 0, none⟩) 1 1, .slice (some ⟨rb, 0, none⟩) 1 1], .int .i64 z, .pointer (some ⟨tb, 0, none⟩)] W (qjz W (.int .i64 (chkE true R))) := fun z R hz hR W hW => by
   have h := qtr _ (.pointer (some ⟨tb, 0, none⟩)) pA z true true R 2 W (hv6.ext hW) (by omega) (by omega) (by decide) HO.out (fun W' h' => hwf W' (hW.trans h'))
    (fun _ _ W' h' => by
     have h := fits_leaf tb 0 false (some ⟨yb, 0, none⟩) 1 1 (some ⟨ob, 0, none⟩) (some ⟨rb, 0, none⟩) 1 1 1 1 W' ((TB.ext hW).ext h') (by omega)
     rw [show decide ((1 : Nat) = 1) = true by decide] at h
     exact h)
    (fun _ _ _ W' fb lb sb u1 u3 U2 U4 l2 l3 l4 l5 h' _ _ _ _ BL hz' BS => by
     have h := qq5 _ (.pointer (some ⟨fb, 0, none⟩)) tb lb sb 0 pA (some ⟨yb, 0, none⟩) 1 1 yA 2 2 2 2 5 8 _ (alZ pA.obj pA.n) u1 u3 U2 U4 l2 l3 l4 l5 W' ((TB.ext hW).ext h') ((hv6.ext hW).ext h') q53 ((hY6.ext hW).ext h') BL hz' BS HC.out HR.out HO.out HY.out (by decide) (by decide) (by decide) (by decide) (by decide)
     rw [hR] at h
     exact h)
   rw [q53] at h
   exact h
  have HK2 : ∀ W, Ext V6 W → Calls Tryz.prog 16 #[.agg #[.slice (some ⟨ob, 0, none⟩) 1 1, .slice (some ⟨rb, 0, none⟩) 1 1], .int .i64 2, .pointer (some ⟨tb, 0, none⟩)] W (qjz W (.int .i64 0)) := HK 2 true (by omega) awk_two
  have HK1 : ∀ W, Ext V6 W → Calls Tryz.prog 16 #[.agg #[.slice (some ⟨ob, 0, none⟩) 1 1, .slice (some ⟨rb, 0, none⟩) 1 1], .int .i64 1, .pointer (some ⟨tb, 0, none⟩)] W (qjz W (.int .i64 19)) := HK 1 false (by omega) awk_one
  have k0 : ∀ w', Later V6 w' → w'.cell? ⟨pb, 0, none⟩ = some _ := fun w' h => (PB6.ext h).c0
  have k1 : ∀ w', Later V6 w' → w'.cell? ⟨pb, 1, none⟩ = some _ := fun w' h => (PB6.ext h).c1
  have k2 : ∀ w', Later V6 w' → w'.cell? ⟨lb, 0, none⟩ = some _ := fun w' h => (LB6.ext h).c0
  have k3 : ∀ w', Later V6 w' → w'.cell? ⟨lb, 1, none⟩ = some _ := fun w' h => (LB6.ext h).c1
  have k4 : ∀ w', Later V6 w' → w'.cell? ⟨lb, 2, none⟩ = some _ := fun w' h => (LB6.ext h).c2
  have k5 : ∀ w', Later V6 w' → w'.cell? ⟨lb, 3, none⟩ = some _ := fun w' h => (LB6.ext h).c3
  have k6 : ∀ w', Later V6 w' → w'.cell? ⟨tb, 5, none⟩ = some (.slice (some ⟨yb, 0, none⟩) 1 1) := fun w' h => (TB.ext h).cell 5
  have ks : Later V6 w7 := hx7
  clear HK hen hwf hv6 PB6 LB6 TB hb6 hY6
  go_upto_region 6 with fail
  go_region_held3 (fun w' => Later V6 w') ((repeat (first | assumption | apply Later.drew | apply Later.drewN | apply Later.alloc | (refine Later.step ?_ (by assumption))))) (first
   | (go_at_call 30; (with_reducible refine (HL _ eAx).mono ?_); rintro e wk ⟨rfl, hxk⟩)
   | (go_at_call 16; (with_reducible refine (HK2 _ eAx).mono ?_); rintro e wk ⟨rfl, hxk⟩)
   | (go_at_call 16; (with_reducible refine (HK1 _ eAx).mono ?_); rintro e wk ⟨rfl, hxk⟩)
   )
  all_goals (
   go_wp2_with fail
   go_ret
   refine ⟨rfl, hE6.trans ?_⟩
   repeat (first | assumption | (with_reducible refine Ext.trans ?_ (by assumption)) | (with_reducible apply Ext.drew) | (with_reducible apply Ext.drewN)))
 ·cases h
def shB (p : Prob) : Nat → Bool
 | 0 => true
 | i + 1 => shB p i && decide (p.len i ≤ 8)
theorem shB_iff {p : Prob} {n : Nat} : shB p n = true ↔ ∀ i, i < n → p.len i ≤ 8 := by
 induction n with
 | zero => exact ⟨fun _ i hi => absurd hi (by omega), fun _ => rfl⟩
 | succ n ih =>
   show (shB p n && decide (p.len n ≤ 8)) = true ↔ _
   rw [Bool.and_eq_true, ih, decide_eq_true_eq]
   constructor
   ·rintro ⟨a, b⟩ i hi
    by_cases e : i = n
    ·subst e; exact b
    ·exact a i (by omega)
   ·intro h; exact ⟨fun i hi => h i (by omega), h n (by omega)⟩
def qv8 (p : Prob) : Bool := decide (p.m ≤ 8) && (decide (p.n ≤ 6) && shB p p.m)
set_option maxHeartbeats 8000000 in
theorem smallC_b (v : Value) (p : Prob) (w : World) (hv : qga w v p) :
 Calls Tryz.prog 15 #[v] w (qjz w (.int .i64 (if qv8 p then 1 else 0))) := by
 obtain ⟨Ao, co, Ar, cr, rfl, hob, hmc, hcr, hrows⟩ := hv
 have hoc := hob.1
 have hoc2 := hob.2.1
 obtain ⟨F, hF⟩ : ∃ F, F = qv8 p := ⟨_, rfl⟩
 rw [← hF]
 obtain ⟨R, hR⟩ : ∃ R : Int, R = if F then 1 else 0 := ⟨_, rfl⟩
 have HR0 : Hid (F = false → R = 0) := Lib.hid (fun h => by rw [hR, h]; rfl)
 have HR1 : Hid (F = true → R = 1) := Lib.hid (fun h => by rw [hR, h]; rfl)
 rw [← hR]
 clear hR
 obtain ⟨n, hn⟩ : ∃ n, n = p.n := ⟨_, rfl⟩
 obtain ⟨m, hm⟩ : ∃ n, n = p.m := ⟨_, rfl⟩
 have HF : Hid (F = (decide (m ≤ 8) && (decide (n ≤ 6) && shB p m))) := Lib.hid (by rw [hF, hn, hm]; rfl)
 rw [← hn] at hoc
 rw [← hm] at hmc hrows
 rw [← hn, ← hm]
 have HROW := Lib.hid hrows
 clear hn hm hF hob hrows
 have PB := Box.new w 41 #[.slice Ao n co, .slice Ar m cr]
 have hE0 : Ext w (w.alloc (.cells #[.slice Ao n co, .slice Ar m cr] 41)) := (Ext.refl w).alloc _
 go_enter Tryz.func15, Tryz.ntmps15
 go_upto_region 1 with fail
 generalize (w.alloc (.cells #[.slice Ao n co, .slice Ar m cr] 41)) = V at *
 have c0 := PB.c0
 have c1 := PB.c1
 by_cases h1 : m ≤ 8
 case neg =>
  have e1 : decide ((8 : Int) < (m : Int)) = true := by simp; omega
  have HE : Hid (F = false) := Lib.hid (by rw [HF.out, decide_eq_false h1]; rfl)
  clear h1
  go_wp2_with fail
  go_ret
  exact ⟨by rw [HR0.out HE.out]; rfl, hE0⟩
 case pos =>
 have e1 : decide ((8 : Int) < (m : Int)) = false := by simp; omega
 have HF2 : Hid (F = (decide (n ≤ 6) && shB p m)) := Lib.hid (by rw [HF.out, decide_eq_true h1]; rfl)
 by_cases h2 : n ≤ 6
 case neg =>
  have e2 : decide ((6 : Int) < (n : Int)) = true := by simp; omega
  have HE : Hid (F = false) := Lib.hid (by rw [HF2.out, decide_eq_false h2]; rfl)
  clear h1 h2
  go_wp2_with fail
  go_ret
  exact ⟨by rw [HR0.out HE.out]; rfl, hE0⟩
 case pos =>
 have e2 : decide ((6 : Int) < (n : Int)) = false := by simp; omega
 have HF3 : Hid (F = shB p m) := Lib.hid (by rw [HF2.out, decide_eq_true h2]; rfl)
 clear h2 HF HF2
 go_upto_region 3 with fail
 clear e1 e2
 go_wp2_with fail
 go_loopw [3] (fun i wr => ∃ j : Nat, j ≤ m ∧ i = .int .i64 j ∧ Hid (shB p j = true) ∧ wr = V) (fun i _ => m - (intOf i).toNat)
 case atStart => exact ⟨0, by omega, rfl, Lib.hid rfl, rfl⟩
 case round =>
  obtain ⟨j, hj, rfl, HJ, rfl⟩ := hrel
  by_cases hlt : j < m
  ·obtain ⟨br, rfl, hrow⟩ := HROW.out (by omega)
   obtain ⟨Ac, cc, bx, A, d, e, by', A', d', e', g0, g1, g2, g3, g4, g5, r1, r2, r3⟩ := hrow j hlt
   have g0 := hE0.cell g0
   have hcc := r1.1
   have hcc2 := r1.2.1
   obtain ⟨l, hl⟩ : ∃ l, l = p.len j := ⟨_, rfl⟩
   have i1 : (0 : Int) ≤ (j : Int) := by omega
   have i2 : (j : Int) < (m : Int) := by omega
   rw [← hl] at g0 hcc
   clear g1 g2 g3 g4 g5 r1 r2 r3 hrow
   by_cases h3 : l ≤ 8
   ·have e3 : decide ((8 : Int) < (l : Int)) = false := by simp; omega
    have HN1 : Hid (shB p (j + 1) = true) := Lib.hid (by show (shB p j && decide (p.len j ≤ 8)) = true; rw [HJ.out, ← hl, decide_eq_true h3]; rfl)
    clear h3 hl
    go_wp2_with fail
    go_roundw
    case rel => exact ⟨j + 1, by omega, by go_num, HN1, trivial⟩
    case measure => simp [intOf]; omega
   ·have e3 : decide ((8 : Int) < (l : Int)) = true := by simp; omega
    have HE : Hid (F = false) := Lib.hid (by
     rw [HF3.out]
     cases e : shB p m with
     | false => rfl
     | true => exact absurd (hl ▸ shB_iff.1 e j hlt) h3)
    clear h3 hl
    go_wp2_with fail
    go_ret
    exact ⟨by rw [HR0.out HE.out]; rfl, hE0⟩
  ·obtain rfl : j = m := by omega
   have HE : Hid (F = true) := Lib.hid (by rw [HF3.out, HJ.out])
   go_wp2_with fail
   go_ret
   exact ⟨by rw [HR1.out HE.out]; rfl, hE0⟩
def tl3 : Oper := ⟨some 46, .call { callee := Callee.value (.func 16), args := #[.tmp 43, .tmp 44, .tmp 45], argTypes := #[41, 3, 25] }, 27, "law.go:236", #[⟨0, .data⟩, ⟨1, .data⟩, ⟨2, .data⟩], none⟩
def tl4 : Oper := ⟨some 47, .buildSlice 51 3 #[(0, .const (Value.int IntKind.i64 0)), (1, .const (Value.int IntKind.i64 19)), (2, .const (Value.int IntKind.i64 3))], 51, "law.go:236", #[], none⟩
def tl8 : Oper := ⟨some 51, .call { callee := Callee.value (.func 19), args := #[.tmp 48, .tmp 49, .tmp 50, .const (Value.int IntKind.i64 0)], argTypes := #[41, 3, 25, 3] }, 3, "law.go:236", #[⟨5, .data⟩, ⟨6, .data⟩, ⟨7, .data⟩, ⟨3, .chain⟩], none⟩
def tl10 : Oper := ⟨some 53, .load 27 (.tmp 52), 27, "law.go:236", #[⟨9, .data⟩], none⟩
theorem qbu (N : Nat) (h : N ≤ 2) : (#[Value.int .i64 0, .int .i64 19, .int .i64 3] : Array Value)[N]? = some (.int .i64 (errN N)) := by
 rcases (show N = 0 ∨ N = 1 ∨ N = 2 by omega) with rfl | rfl | rfl <;> rfl
theorem fit_wrap (z : Int) : fit (wrap64 z) = true := by
 rw [fit_iff]
 unfold wrap64
 omega
set_option maxHeartbeats 1000000 in
theorem tampers_any (v : Value) (ip : IP) (lf at' : Nat) (ch by' : Int) (w : World) (h : IPV w v ip) (hok : ip.ok) (hl8 : lf ≤ 255) (ha8 : at' ≤ 255) (hc0 : -128 ≤ ch) (hc1 : ch ≤ 127) (hb0 : -128 ≤ by') (hb1 : by' ≤ 127) (htab : TabOK w) :
 Calls Tryz.prog 5 #[v, .int .u8 (lf : Int), .int .u8 (at' : Int), .int .i8 ch, .int .i8 by'] w (qjz w (.bool true)) := by
 have h0 := h
 obtain ⟨Ao, co, Ar, cr, rfl, -, -, -, -⟩ := h0
 obtain ⟨n0, hn0⟩ : ∃ n, n = ip.obj.length := ⟨_, rfl⟩
 obtain ⟨m0, hm0⟩ : ∃ n, n = ip.rows.length := ⟨_, rfl⟩
 obtain ⟨d0, hd0⟩ : ∃ n, n = ip.den := ⟨_, rfl⟩
 rw [← hn0, ← hm0, ← hd0] at h ⊢
 have HOK := Lib.hid hok
 clear hn0 hm0 hd0 hok
 have PBq := Box.new w 37 #[.slice Ao n0 co, .slice Ar m0 cr, .int .u8 (d0 : Int)]
 have hE : Ext w (w.alloc (.cells #[.slice Ao n0 co, .slice Ar m0 cr, .int .u8 (d0 : Int)] 37)) := (Ext.refl w).alloc _
 go_enter Tryz.func5, Tryz.ntmps5
 go_upto_region 1 with fail
 generalize (w.alloc (.cells #[.slice Ao n0 co, .slice Ar m0 cr, .int .u8 (d0 : Int)] 37)) = V at *
 obtain ⟨ab, hab⟩ : ∃ x, x = w.heap.size := ⟨_, rfl⟩
 rw [← hab] at PBq ⊢
 clear hab
 go_wp2_with fail
 refine (awake_c _ (htab.ext hE)).mono ?_
 rintro e w1 ⟨rfl, hx1⟩
 have hE1 := hE.trans hx1
 have PB1 := PBq.ext hx1
 have c0 := PB1.c0
 have c1 := PB1.c1
 have c2 := PB1.c2
 clear hx1 hE
 go_wp2_with fail
 refine (Make_b _ ip _ (h.ext hE1) HOK.out).mono ?_
 rintro e w2 ⟨v2, a, rfl, hM, hx2⟩
 have hE2 := hE1.trans hx2
 have hP := hM.prob
 have hv := hM.val
 clear hM c0 c1 c2 PB1 PBq hE1 hx2
 obtain ⟨p, hp⟩ : ∃ p, p = ip.pl.toP := ⟨_, rfl⟩
 have HC : Hid (∀ i, i < p.m → ∀ j, j < p.n → QB 2 (p.coef i j)) := Lib.hid (fun i hi j _ => by rw [hp] at hi ⊢; exact IP.coef_b HOK.out hi j)
 have HR : Hid (∀ i, i < p.m → QB 2 (p.right i)) := Lib.hid (fun i hi => by rw [hp] at hi ⊢; exact IP.right_b HOK.out hi)
 have HO : Hid (∀ j, j < p.n → QB 2 (p.obj j)) := Lib.hid (fun j _ => by rw [hp]; exact IP.obj_b HOK.out j)
 have HCI : Hid (p.n ≤ 6 → qba p = true → ∀ M, M ≤ 68 → p.m ≤ M → CanI p 6 M 134217728) := Lib.hid (fun hn hv M h1 h2 => by
  have hM : bK3 M 6 2 3 2 ≤ bK3 68 6 2 3 2 := qrw h1 (Nat.le_refl _) (Nat.le_refl _)
  have hM2 : bK3 68 6 2 3 2 ≤ 134217728 := by decide
  rw [hp] at hn hv h2 ⊢
  exact IP.can HOK.out hn h2 (by omega) (by omega) (by omega) hv)
 rw [← hp] at hP hv
 clear hp
 obtain ⟨Ap, hAp⟩ : ∃ x, x = a.Ao := ⟨_, rfl⟩
 obtain ⟨cp, hcp⟩ : ∃ x, x = a.co := ⟨_, rfl⟩
 obtain ⟨Aq, hAq⟩ : ∃ x, x = a.Ar := ⟨_, rfl⟩
 obtain ⟨cq, hcq⟩ : ∃ x, x = a.cr := ⟨_, rfl⟩
 rw [← hAp, ← hcp, ← hAq, ← hcq] at hv
 clear hAp hcp hAq hcq
 subst hv
 go_upto_region 4 with fail
 have PB := Box.new w2 41 #[.slice Ap p.n cp, .slice Aq p.m cq]
 have hy : Ext w2 (w2.alloc (.cells #[.slice Ap p.n cp, .slice Aq p.m cq] 41)) := (Ext.refl w2).alloc _
 generalize (w2.alloc (.cells #[.slice Ap p.n cp, .slice Aq p.m cq] 41)) = V2 at *
 obtain ⟨pb, hpb⟩ : ∃ x, x = w2.heap.size := ⟨_, rfl⟩
 rw [← hpb] at PB ⊢
 clear hpb
 have hP := hP.ext hy
 have hE2 := hE2.trans hy
 clear hy
 have q0 := PB.c0
 have q1 := PB.c1
 go_wp2_with fail
 refine (smallC_b _ p _ hP).mono ?_
 rintro e w5 ⟨rfl, hx5⟩
 have PB5 := PB.ext hx5
 have hP5 := hP.ext hx5
 have hE5 := hE2.trans hx5
 clear q0 q1 PB hP hE2 hx5
 obtain ⟨F, hF⟩ : ∃ F, F = qv8 p := ⟨_, rfl⟩
 rw [← hF]
 have HF := Lib.hid hF
 clear hF
 cases F with
 | false =>
   simp only [Bool.false_eq_true, if_false]
   go_wp2_with fail
   go_ret
   exact ⟨rfl, hE5⟩
 | true =>
 simp only [if_true]
 have hsm : p.m ≤ 8 ∧ p.n ≤ 6 := by
  have := HF.out
  unfold qv8 at this
  simp at this
  exact ⟨this.1, this.2.1⟩
 have q0 := PB5.c0
 have q1 := PB5.c1
 go_wp2_with fail
 refine (q72 _ p _ hP5).mono ?_
 rintro e w6 ⟨rfl, hx6⟩
 have PB6 := PB5.ext hx6
 have hP6 := hP5.ext hx6
 have hE6 := hE5.trans hx6
 clear PB5 hP5 hE5 hx6 q0 q1
 obtain ⟨B, hB⟩ : ∃ B, B = qba p := ⟨_, rfl⟩
 rw [← hB]
 have HB := Lib.hid hB
 clear hB
 cases B with
 | false =>
   go_wp2_with fail
   go_ret
   exact ⟨rfl, hE6⟩
 | true =>
 have q0 := PB6.c0
 have q1 := PB6.c1
 have hsv := solved_b _ p lf at' ch w6 hP6 HB.out.symm hsm.1 (HCI.out hsm.2 HB.out.symm) hl8 ha8 hc0 hc1
 go_wp2_with fail
 refine hsv.mono ?_
 clear hsv
 rintro e w7 ⟨hx7, rfl | ⟨A, zv, b1, b2, t, rfl, hfz, hT, hto, -, htd⟩⟩
 ·have hE7 := hE6.trans hx7
  clear q0 q1
  go_wp2_with fail
  go_ret
  exact ⟨rfl, hE7⟩
 have PB7 := PB6.ext hx7
 have hP7 := hP6.ext hx7
 have hE9 := hE6.trans hx7
 clear PB6 hP6 hE6 hx7 q0 q1
 have r1 : IntKind.i64.wrap by' = by' := IntWalk.i64_in _ (by omega)
 obtain ⟨z, hz⟩ : ∃ z, z = wrap64 (zv + by') := ⟨_, rfl⟩
 have HFZ : Hid (fit z = true) := Lib.hid (by rw [hz]; exact fit_wrap _)
 go_upto_region 10 with fail
 rw [← hz]
 clear r1 hz hfz
 obtain ⟨W9, rfl⟩ : ∃ W, W = w7 := ⟨_, rfl⟩
 obtain ⟨E, hEE⟩ : ∃ E, E = chkE (qba p && t.wf && t.fit p.n p.m) (prvC (limZ z (alZ p.obj p.n)) (alZ p.obj p.n) p t) := ⟨_, rfl⟩
 obtain ⟨N, hN⟩ : ∃ N, N = prvN z p t := ⟨_, rfl⟩
 have hN2 : N ≤ 2 := by rw [hN]; exact qot z t p
 have HEN : Hid (E = errN N) := Lib.hid (by rw [hEE, hN]; exact prv_err z t p HB.out.symm (by omega))
 have HCK : Hid (∀ W, Ext W9 W → Calls Tryz.prog 16 #[.agg #[.slice Ap p.n cp, .slice Aq p.m cq], .int .i64 z, .pointer A] W (qjz W (.int .i64 E))) := Lib.hid (fun W hW => by
  rw [hEE]
  exact Check_t t A b1 b2 200 _ p z W (hP7.ext hW) (hT.ext hW) HFZ.out (by omega) hsm.2 (by omega) (by omega) 134217740 (by omega) hto HO.out HC.out HR.out)
 have hcan : CanC p 200 := ⟨HB.out.symm, hsm.2, by omega, by omega, fun j hj => qqj (by omega) (HO.out j hj), fun i hi j hj => qqj (by omega) (HC.out i hi j hj), fun i hi => qqj (by omega) (HR.out i hi)⟩
 have HPV : Hid (∀ W, Ext W9 W → Calls Tryz.prog 19 #[.agg #[.slice Ap p.n cp, .slice Aq p.m cq], .int .i64 z, .pointer A, .int .i64 0] W (qjz W (.int .i64 (N : Int)))) := Lib.hid (fun W hW => by
  rw [hN]
  exact prove_b 134217740 (by omega) z 200 HFZ.out t p _ A b1 b2 0 W hcan (hP7.ext hW) (hT.ext hW) hto (by omega) (by omega))
 have n1 : (0 : Int) ≤ (N : Int) := by omega
 have n2 : (N : Int) < 3 := by omega
 have k0 : ∀ w', Later W9 w' → w'.cell? ⟨pb, 0, none⟩ = some (.slice Ap p.n cp) := fun w' h => (PB7.ext h).c0
 have k1 : ∀ w', Later W9 w' → w'.cell? ⟨pb, 1, none⟩ = some (.slice Aq p.m cq) := fun w' h => (PB7.ext h).c1
 clear hcan hN hEE PB7 hP7 hT hto
 refine wp_region_held_drew (S := fun w' => Later W9 w') (by kernel_rfl) ?_ (fun hHeld => ?_)
 ·exact (Later.refl W9).drew
 have hE : Ext W9 W9.drew := (Ext.refl W9).drew
 generalize W9.drew = Z1 at *
 refine tkx (i := 0) (oi := ⟨some 43, .load 41 (.tmp 11), 41, "law.go:236", #[], none⟩) (v := ?_) rfl ?_ (by assumption) ?_
 rotate_left
 ·intro w hSw; (try dsimp only at hSw); go_simp; try (with_reducible rfl)
 try simp only [Act.put, sqa, sqb, sqc]
 refine tkx (i := 1) (oi := ⟨some 44, .move (.tmp 15), 3, "law.go:236", #[], none⟩) (v := ?_) rfl ?_ (by assumption) ?_
 rotate_left
 ·intro w hSw; (try dsimp only at hSw); go_simp; try (with_reducible rfl)
 try simp only [Act.put, sqa, sqb, sqc]
 refine tkx (i := 2) (oi := ⟨some 45, .move (.tmp 12), 25, "law.go:236", #[], none⟩) (v := ?_) rfl ?_ (by assumption) ?_
 rotate_left
 ·intro w hSw; (try dsimp only at hSw); go_simp; try (with_reducible rfl)
 try simp only [Act.put, sqa, sqb, sqc]
 refine tkx (i := 5) (oi := ⟨some 48, .load 41 (.tmp 11), 41, "law.go:236", #[], none⟩) (v := ?_) rfl ?_ (by assumption) ?_
 rotate_left
 ·intro w hSw; (try dsimp only at hSw); go_simp; try (with_reducible rfl)
 try simp only [Act.put, sqa, sqb, sqc]
 refine tkx (i := 6) (oi := ⟨some 49, .move (.tmp 15), 3, "law.go:236", #[], none⟩) (v := ?_) rfl ?_ (by assumption) ?_
 rotate_left
 ·intro w hSw; (try dsimp only at hSw); go_simp; try (with_reducible rfl)
 try simp only [Act.put, sqa, sqb, sqc]
 refine tkx (i := 7) (oi := ⟨some 50, .move (.tmp 12), 25, "law.go:236", #[], none⟩) (v := ?_) rfl ?_ (by assumption) ?_
 rotate_left
 ·intro w hSw; (try dsimp only at hSw); go_simp; try (with_reducible rfl)
 try simp only [Act.put, sqa, sqb, sqc]
 refine wpAnyH_ready (rs := [3, 4]) (by kernel_rfl) (by simp) ?_
 refine AllReadyH.cons (o := tl3) rfl (fun K hK => ?_) ?_
 ·unfold tl3
  go_simp
  go_at_call 16
  refine (HCK.out Z1 (by first | exact hE | exact Ext.refl _)).mono ?_
  rintro e Z2 ⟨rfl, hx⟩
  have hE := hE.trans hx
  clear hx
  have hLt : Later W9 Z2 := hE
  try (go_wp2_with fail)
  refine hK.out _ _ hLt (fun hHeld => ?_)
  clear hK K hLt
  try simp only [Act.put, sqa, sqb, sqc]
  refine wpAnyH_ready (rs := [4, 8]) (by kernel_rfl) (by simp) ?_
  refine AllReadyH.cons (o := tl4) rfl (fun K hK => ?_) ?_
  ·unfold tl4
   go_simp
   have EB := Box.new Z2 27 #[.int .i64 0, .int .i64 19, .int .i64 3]
   have hx : Ext Z2 (Z2.alloc (.cells #[.int .i64 0, .int .i64 19, .int .i64 3] 27)) := (Ext.refl Z2).alloc _
   generalize (Z2.alloc (.cells #[.int .i64 0, .int .i64 19, .int .i64 3] 27)) = Z3 at *
   obtain ⟨bE, hbE⟩ : ∃ x, x = Z2.heap.size := ⟨_, rfl⟩
   rw [← hbE] at EB ⊢
   have hwE : W9.heap.size ≤ bE := by have := hE.size; omega
   clear hbE
   have hE := hE.trans hx
   clear hx
   have hLt : Later W9 Z3 := hE
   refine hK.out _ _ hLt (fun hHeld => ?_)
   clear hK K hLt
   try simp only [Act.put, sqa, sqb, sqc]
   refine wpAnyH_ready (rs := [8]) (by kernel_rfl) (by simp) ?_
   refine AllReadyH.cons (o := tl8) rfl (fun K hK => ?_) ?_
   ·unfold tl8
    go_simp
    go_at_call 19
    refine (HPV.out Z3 (by first | exact hE | exact Ext.refl _)).mono ?_
    rintro e Z4 ⟨rfl, hx⟩
    have EB := EB.ext hx
    have hE := hE.trans hx
    clear hx
    have hLt : Later W9 Z4 := hE
    try (go_wp2_with fail)
    refine hK.out _ _ hLt (fun hHeld => ?_)
    clear hK K hLt
    try simp only [Act.put, sqa, sqb, sqc]
    refine tkx (i := 9) (oi := ⟨some 52, .indexAddr 51 (.tmp 47) (.tmp 51), 0, "law.go:236", #[⟨4, .data⟩, ⟨8, .data⟩], none⟩) (v := ?_) rfl ?_ (by assumption) ?_
    rotate_left
    ·intro w hSw; (try dsimp only at hSw); go_simp; try (with_reducible rfl)
    try simp only [Act.put, sqa, sqb, sqc]
    refine wpAnyH_ready (rs := [10]) (by kernel_rfl) (by simp) ?_
    refine AllReadyH.cons (o := tl10) rfl (fun K hK => ?_) ?_
    ·unfold tl10
     have yN : (Z4).cell? ⟨bE, N, none⟩ = some (.int .i64 (errN N)) := by rw [EB.cell N]; exact qbu N hN2
     go_simp
     have hLt : Later W9 Z4 := hE
     refine hK.out _ _ (by first | exact hLt | exact Later.drew hLt) (fun hHeld => ?_)
     clear hK K hLt
     try simp only [Act.put, sqa, sqb, sqc]
     refine tkx (i := 11) (oi := ⟨some 54, .binOp BinOp.eql 27 (.tmp 46) (.tmp 53) 27, 4, "law.go:236", #[⟨3, .data⟩, ⟨10, .data⟩], none⟩) (v := ?_) rfl ?_ (by assumption) ?_
     rotate_left
     ·intro w hSw; (try dsimp only at hSw); go_simp; try (with_reducible rfl)
     try simp only [Act.put, sqa, sqb, sqc]
     refine tkx (i := 12) (oi := ⟨some 10, .assign (.tmp 54), 4, "law.go:236", #[⟨11, .data⟩, ⟨8, .chain⟩, ⟨0, .phase⟩, ⟨1, .phase⟩, ⟨2, .phase⟩, ⟨3, .phase⟩, ⟨4, .phase⟩, ⟨5, .phase⟩, ⟨6, .phase⟩, ⟨7, .phase⟩, ⟨8, .phase⟩, ⟨9, .phase⟩, ⟨10, .phase⟩, ⟨11, .phase⟩], none⟩) (v := ?_) rfl ?_ (by assumption) ?_
     rotate_left
     ·intro w hSw; (try dsimp only at hSw); go_simp; try (with_reducible rfl)
     try simp only [Act.put, sqa, sqb, sqc]
     refine wpAnyH_done (by kernel_rfl) ?_ _
     go_wp2_with fail
     go_ret
     exact ⟨by rw [HEN.out]; simp, Ext.trans hE9 hE⟩
    exact AllReadyH.nil
   exact AllReadyH.nil
  refine AllReadyH.cons (o := tl8) rfl (fun K hK => ?_) ?_
  ·unfold tl8
   go_simp
   go_at_call 19
   refine (HPV.out Z2 (by first | exact hE | exact Ext.refl _)).mono ?_
   rintro e Z6 ⟨rfl, hx⟩
   have hE := hE.trans hx
   clear hx
   have hLt : Later W9 Z6 := hE
   try (go_wp2_with fail)
   refine hK.out _ _ hLt (fun hHeld => ?_)
   clear hK K hLt
   try simp only [Act.put, sqa, sqb, sqc]
   refine wpAnyH_ready (rs := [4]) (by kernel_rfl) (by simp) ?_
   refine AllReadyH.cons (o := tl4) rfl (fun K hK => ?_) ?_
   ·unfold tl4
    go_simp
    have EB := Box.new Z6 27 #[.int .i64 0, .int .i64 19, .int .i64 3]
    have hx : Ext Z6 (Z6.alloc (.cells #[.int .i64 0, .int .i64 19, .int .i64 3] 27)) := (Ext.refl Z6).alloc _
    generalize (Z6.alloc (.cells #[.int .i64 0, .int .i64 19, .int .i64 3] 27)) = Z7 at *
    obtain ⟨bE, hbE⟩ : ∃ x, x = Z6.heap.size := ⟨_, rfl⟩
    rw [← hbE] at EB ⊢
    have hwE : W9.heap.size ≤ bE := by have := hE.size; omega
    clear hbE
    have hE := hE.trans hx
    clear hx
    have hLt : Later W9 Z7 := hE
    refine hK.out _ _ hLt (fun hHeld => ?_)
    clear hK K hLt
    try simp only [Act.put, sqa, sqb, sqc]
    refine tkx (i := 9) (oi := ⟨some 52, .indexAddr 51 (.tmp 47) (.tmp 51), 0, "law.go:236", #[⟨4, .data⟩, ⟨8, .data⟩], none⟩) (v := ?_) rfl ?_ (by assumption) ?_
    rotate_left
    ·intro w hSw; (try dsimp only at hSw); go_simp; try (with_reducible rfl)
    try simp only [Act.put, sqa, sqb, sqc]
    refine wpAnyH_ready (rs := [10]) (by kernel_rfl) (by simp) ?_
    refine AllReadyH.cons (o := tl10) rfl (fun K hK => ?_) ?_
    ·unfold tl10
     have yN : (Z7).cell? ⟨bE, N, none⟩ = some (.int .i64 (errN N)) := by rw [EB.cell N]; exact qbu N hN2
     go_simp
     have hLt : Later W9 Z7 := hE
     refine hK.out _ _ (by first | exact hLt | exact Later.drew hLt) (fun hHeld => ?_)
     clear hK K hLt
     try simp only [Act.put, sqa, sqb, sqc]
     refine tkx (i := 11) (oi := ⟨some 54, .binOp BinOp.eql 27 (.tmp 46) (.tmp 53) 27, 4, "law.go:236", #[⟨3, .data⟩, ⟨10, .data⟩], none⟩) (v := ?_) rfl ?_ (by assumption) ?_
     rotate_left
     ·intro w hSw; (try dsimp only at hSw); go_simp; try (with_reducible rfl)
     try simp only [Act.put, sqa, sqb, sqc]
     refine tkx (i := 12) (oi := ⟨some 10, .assign (.tmp 54), 4, "law.go:236", #[⟨11, .data⟩, ⟨8, .chain⟩, ⟨0, .phase⟩, ⟨1, .phase⟩, ⟨2, .phase⟩, ⟨3, .phase⟩, ⟨4, .phase⟩, ⟨5, .phase⟩, ⟨6, .phase⟩, ⟨7, .phase⟩, ⟨8, .phase⟩, ⟨9, .phase⟩, ⟨10, .phase⟩, ⟨11, .phase⟩], none⟩) (v := ?_) rfl ?_ (by assumption) ?_
     rotate_left
     ·intro w hSw; (try dsimp only at hSw); go_simp; try (with_reducible rfl)
     try simp only [Act.put, sqa, sqb, sqc]
     refine wpAnyH_done (by kernel_rfl) ?_ _
     go_wp2_with fail
     go_ret
     exact ⟨by rw [HEN.out]; simp, Ext.trans hE9 hE⟩
    exact AllReadyH.nil
   exact AllReadyH.nil
  exact AllReadyH.nil
 refine AllReadyH.cons (o := tl4) rfl (fun K hK => ?_) ?_
 ·unfold tl4
  go_simp
  have EB := Box.new Z1 27 #[.int .i64 0, .int .i64 19, .int .i64 3]
  have hx : Ext Z1 (Z1.alloc (.cells #[.int .i64 0, .int .i64 19, .int .i64 3] 27)) := (Ext.refl Z1).alloc _
  generalize (Z1.alloc (.cells #[.int .i64 0, .int .i64 19, .int .i64 3] 27)) = Z9 at *
  obtain ⟨bE, hbE⟩ : ∃ x, x = Z1.heap.size := ⟨_, rfl⟩
  rw [← hbE] at EB ⊢
  have hwE : W9.heap.size ≤ bE := by have := hE.size; omega
  clear hbE
  have hE := hE.trans hx
  clear hx
  have hLt : Later W9 Z9 := hE
  refine hK.out _ _ hLt (fun hHeld => ?_)
  clear hK K hLt
  try simp only [Act.put, sqa, sqb, sqc]
  refine wpAnyH_ready (rs := [3]) (by kernel_rfl) (by simp) ?_
  refine AllReadyH.cons (o := tl3) rfl (fun K hK => ?_) ?_
  ·unfold tl3
   go_simp
   go_at_call 16
   refine (HCK.out Z9 (by first | exact hE | exact Ext.refl _)).mono ?_
   rintro e Z10 ⟨rfl, hx⟩
   have EB := EB.ext hx
   have hE := hE.trans hx
   clear hx
   have hLt : Later W9 Z10 := hE
   try (go_wp2_with fail)
   refine hK.out _ _ hLt (fun hHeld => ?_)
   clear hK K hLt
   try simp only [Act.put, sqa, sqb, sqc]
   refine wpAnyH_ready (rs := [8]) (by kernel_rfl) (by simp) ?_
   refine AllReadyH.cons (o := tl8) rfl (fun K hK => ?_) ?_
   ·unfold tl8
    go_simp
    go_at_call 19
    refine (HPV.out Z10 (by first | exact hE | exact Ext.refl _)).mono ?_
    rintro e Z11 ⟨rfl, hx⟩
    have EB := EB.ext hx
    have hE := hE.trans hx
    clear hx
    have hLt : Later W9 Z11 := hE
    try (go_wp2_with fail)
    refine hK.out _ _ hLt (fun hHeld => ?_)
    clear hK K hLt
    try simp only [Act.put, sqa, sqb, sqc]
    refine tkx (i := 9) (oi := ⟨some 52, .indexAddr 51 (.tmp 47) (.tmp 51), 0, "law.go:236", #[⟨4, .data⟩, ⟨8, .data⟩], none⟩) (v := ?_) rfl ?_ (by assumption) ?_
    rotate_left
    ·intro w hSw; (try dsimp only at hSw); go_simp; try (with_reducible rfl)
    try simp only [Act.put, sqa, sqb, sqc]
    refine wpAnyH_ready (rs := [10]) (by kernel_rfl) (by simp) ?_
    refine AllReadyH.cons (o := tl10) rfl (fun K hK => ?_) ?_
    ·unfold tl10
     have yN : (Z11).cell? ⟨bE, N, none⟩ = some (.int .i64 (errN N)) := by rw [EB.cell N]; exact qbu N hN2
     go_simp
     have hLt : Later W9 Z11 := hE
     refine hK.out _ _ (by first | exact hLt | exact Later.drew hLt) (fun hHeld => ?_)
     clear hK K hLt
     try simp only [Act.put, sqa, sqb, sqc]
     refine tkx (i := 11) (oi := ⟨some 54, .binOp BinOp.eql 27 (.tmp 46) (.tmp 53) 27, 4, "law.go:236", #[⟨3, .data⟩, ⟨10, .data⟩], none⟩) (v := ?_) rfl ?_ (by assumption) ?_
     rotate_left
     ·intro w hSw; (try dsimp only at hSw); go_simp; try (with_reducible rfl)
     try simp only [Act.put, sqa, sqb, sqc]
     refine tkx (i := 12) (oi := ⟨some 10, .assign (.tmp 54), 4, "law.go:236", #[⟨11, .data⟩, ⟨8, .chain⟩, ⟨0, .phase⟩, ⟨1, .phase⟩, ⟨2, .phase⟩, ⟨3, .phase⟩, ⟨4, .phase⟩, ⟨5, .phase⟩, ⟨6, .phase⟩, ⟨7, .phase⟩, ⟨8, .phase⟩, ⟨9, .phase⟩, ⟨10, .phase⟩, ⟨11, .phase⟩], none⟩) (v := ?_) rfl ?_ (by assumption) ?_
     rotate_left
     ·intro w hSw; (try dsimp only at hSw); go_simp; try (with_reducible rfl)
     try simp only [Act.put, sqa, sqb, sqc]
     refine wpAnyH_done (by kernel_rfl) ?_ _
     go_wp2_with fail
     go_ret
     exact ⟨by rw [HEN.out]; simp, Ext.trans hE9 hE⟩
    exact AllReadyH.nil
   exact AllReadyH.nil
  exact AllReadyH.nil
 exact AllReadyH.nil
end Go.Proofs.YtljncdcjkdgkeaaGreatDoor.Lp

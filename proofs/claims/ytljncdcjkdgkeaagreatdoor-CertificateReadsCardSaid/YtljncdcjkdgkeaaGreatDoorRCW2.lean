/- Walks: wellFormed, fits: their bodies, at a leaf. Walk: Check, over what it asks of the tree. Plain: branch and bound as a function on problems; what it answers. append of many elements; copies of rows. Rows of problems, as lists: copied, appended to. A row of numbers of one kind that the call has made; make's law for it. Trees of a search, and its state, in memory. Problems of a search: numbers of few digits, not more than M rows. Plain: trees of certificates; what Check and the law's prove say of them. Maps whose keys are pointers: any number of entries. Maps: what is kept; maps with keys of several parts. Walk: wellFormed of any tree. Walks: a strings.Builder that is written (after the library's own walks, at this program's copyCheck). -/
import Derived.Laws.EntriesVeiled
import Derived.Test.YtljncdcjkdgkeaaGreatDoorRLV5
import Derived.Test.YtljncdcjkdgkeaaGreatDoorRCV9
import Derived.Test.YtljncdcjkdgkeaaGreatDoorRLJ
import Derived.Laws.AppendOwnNone
import Derived.Test.YtljncdcjkdgkeaaGreatDoorRLN2
import Derived.Test.YtljncdcjkdgkeaaGreatDoorRLN3
import Derived.Test.YtljncdcjkdgkeaaGreatDoorRShelf
import Derived.Test.YtljncdcjkdgkeaaGreatDoorRCBT
import Derived.Lib.AppendStr
import Derived.Shelf.Strings.Builder1
import Derived.Test.YtljncdcjkdgkeaaGreatDoorRT6
set_option linter.unusedVariables false
set_option linter.unusedSimpArgs false
namespace Go.Proofs.YtljncdcjkdgkeaaGreatDoor.Lp
open Go.RowKit Go.Proofs.YtljncdcjkdgkeaaGreatDoor.Big Go.Proofs.YtljncdcjkdgkeaaGreatDoor.Rt

/-- a map, the box of the map, the box of a function that is not there yet -/
theorem boxesM (w : World) (E F : TypeId) : ∃ V, V = (((w.alloc (.map #[] 0)).alloc (.cells #[.map (some w.heap.size)] E)).alloc (.cells #[.nilFunc] F)) ∧ V.heap[w.heap.size]? = some (.map #[] 0) ∧ Box V (w.heap.size + 1) E #[.map (some w.heap.size)] ∧ Box V (w.heap.size + 1 + 1) F #[.nilFunc] ∧ Ext w V := by
  have s1 : (w.alloc (.map #[] 0)).heap.size = w.heap.size + 1 := by simp
  have s2 : ((w.alloc (.map #[] 0)).alloc (.cells #[.map (some w.heap.size)] E)).heap.size = w.heap.size + 1 + 1 := by simp
  refine ⟨_, rfl, ?_, ?_, ?_, (((Ext.refl w).alloc _).alloc _).alloc _⟩
  · have h0 : (w.alloc (.map #[] 0)).heap[w.heap.size]? = some (.map #[] 0) := heap_alloc_new w _
    have h1 := (Below.block ((((Ext.refl (w.alloc (.map #[] 0))).alloc (.cells #[.map (some w.heap.size)] E)).alloc (.cells #[.nilFunc] F))) w.heap.size (by rw [s1]; omega))
    exact h1.trans h0
  · have := (Box.new (w.alloc (.map #[] 0)) E #[.map (some w.heap.size)]).alloc (.cells #[.nilFunc] F)
    rwa [s1] at this
  · have := Box.new ((w.alloc (.map #[] 0)).alloc (.cells #[.map (some w.heap.size)] E)) F #[.nilFunc]
    rwa [s2] at this
set_option maxHeartbeats 4000000 in
set_option maxRecDepth 100000 in
theorem wellFormed_leaf (tb : Nat) (fl : Int) (em : Bool) (A : Option Addr) (n c : Nat) (w : World) (hT : Box w tb 79 (NodeC (-1) fl none none em A n c)) :
    Calls Tryz.prog 32 #[.pointer (some ⟨tb, 0, none⟩)] w (fun e w' => e = .returned (.bool (decide (fl = 0))) ∧ Ext w w') := by
  have hmm := @run_makeMap Tryz.prog
  obtain ⟨V, hV, hM, hB, hF, hE⟩ := boxesM w 131 132
  go_enter Tryz.func32, Tryz.ntmps32
  go_upto_region 3 with fail
  simp only [← hV]
  clear hV hmm
  obtain ⟨mb, hmb⟩ : ∃ x, x = w.heap.size := ⟨_, rfl⟩
  obtain ⟨hb, hhb⟩ : ∃ x, x = w.heap.size + 1 := ⟨_, rfl⟩
  obtain ⟨fb, hfb⟩ : ∃ x, x = w.heap.size + 1 + 1 := ⟨_, rfl⟩
  rw [← hfb, ← hhb, ← hmb]
  rw [← hfb] at hF
  rw [← hhb] at hB
  rw [← hmb] at hM hB
  have hms : w.heap.size ≤ mb := by omega
  have hfs : w.heap.size ≤ fb := by omega
  have n1 : hb ≠ fb := by omega
  have n2 : mb ≠ fb := by omega
  have hT0 := hT.ext hE
  have n3 : tb ≠ fb := by have := hT.lt; omega
  clear hmb hhb hfb
  have f0 := hF.c0
  have f1 := hF.frozen 0
  obtain ⟨K, hK⟩ : ∃ K : Value, K = .func (.func 67) #[] #[.pointer (some ⟨hb, 0, none⟩), .pointer (some ⟨fb, 0, none⟩)] := ⟨_, rfl⟩
  have hF2 := hF.set 0 K
  have hB2 : Box (V.setCell ⟨fb, 0, none⟩ K) hb 131 #[.map (some mb)] := hB.far (p := ⟨fb, 0, none⟩) n1 K
  have hM2 : (V.setCell ⟨fb, 0, none⟩ K).heap[mb]? = some (.map #[] 0) := (Below.heap_setCell V ⟨fb, 0, none⟩ K mb n2).trans hM
  have hT2 : Box (V.setCell ⟨fb, 0, none⟩ K) tb 79 (NodeC (-1) fl none none em A n c) := hT0.far (p := ⟨fb, 0, none⟩) n3 K
  have hE2 : Ext w (V.setCell ⟨fb, 0, none⟩ K) := hE.set (p := ⟨fb, 0, none⟩) hfs K
  go_upto_region 4 with fail
  rw [← hK]
  generalize (V.setCell ⟨fb, 0, none⟩ K) = V2 at *
  have k0 := hF2.c0
  subst hK
  go_wp2_with fail
  refine (height_leaf tb hb fb mb fl 0 em A n c 0 _ _ hT2 hB2 hM2 (by omega)).mono ?_
  rintro e w3 ⟨rfl, hx3⟩
  have hx := hx3 w hE2 hms
  by_cases hf : fl = 0
  · subst hf
    go_wp2_with fail
    go_ret
    exact ⟨rfl, hx⟩
  · rw [if_neg hf]
    go_wp2_with fail
    go_ret
    exact ⟨by rw [decide_eq_false hf]; rfl, hx⟩
set_option maxHeartbeats 4000000 in
set_option maxRecDepth 100000 in
theorem fits_leaf (tb : Nat) (fl : Int) (em : Bool) (A : Option Addr) (n c : Nat) (Ao Ar : Option Addr) (no co m cr : Nat) (w : World) (hT : Box w tb 79 (NodeC (-1) fl none none em A n c)) (hm : m ≤ 9000000000000000000) :
    Calls Tryz.prog 43 #[.agg #[.slice Ao no co, .slice Ar m cr], .pointer (some ⟨tb, 0, none⟩)] w (fun e w' => e = .returned (.bool (decide (n = m))) ∧ Ext w w') := by
  have hmm := @run_makeMap Tryz.prog
  have hPB := Box.new w 41 #[.slice Ao no co, .slice Ar m cr]
  have hE0 : Ext w (w.alloc (.cells #[.slice Ao no co, .slice Ar m cr] 41)) := (Ext.refl w).alloc _
  go_enter Tryz.func43, Tryz.ntmps43
  go_upto_region 1 with fail
  obtain ⟨pb, hpb⟩ : ∃ x, x = w.heap.size := ⟨_, rfl⟩
  rw [← hpb] at hPB ⊢
  generalize hU : (w.alloc (.cells #[.slice Ao no co, .slice Ar m cr] 41)) = U at *
  have hT := hT.ext hE0
  clear hU hpb
  obtain ⟨V, hV, hM, hB, hF, hE⟩ := boxesM U 140 141
  go_upto_region 3 with fail
  simp only [← hV]
  clear hV hmm
  have n4 : pb < U.heap.size := hPB.lt
  have hPB := hPB.ext hE
  obtain ⟨mb, hmb⟩ : ∃ x, x = U.heap.size := ⟨_, rfl⟩
  obtain ⟨hb, hhb⟩ : ∃ x, x = U.heap.size + 1 := ⟨_, rfl⟩
  obtain ⟨fb, hfb⟩ : ∃ x, x = U.heap.size + 1 + 1 := ⟨_, rfl⟩
  rw [← hfb, ← hhb, ← hmb]
  rw [← hfb] at hF
  rw [← hhb] at hB
  rw [← hmb] at hM hB
  have hms : U.heap.size ≤ mb := by omega
  have hfs : U.heap.size ≤ fb := by omega
  have n1 : hb ≠ fb := by omega
  have n2 : mb ≠ fb := by omega
  have n5 : pb ≠ fb := by omega
  have hT0 := hT.ext hE
  have n3 : tb ≠ fb := by have := hT.lt; omega
  clear hmb hhb hfb
  have f0 := hF.c0
  have f1 := hF.frozen 0
  obtain ⟨K, hK⟩ : ∃ K : Value, K = .func (.func 76) #[] #[.pointer (some ⟨hb, 0, none⟩), .pointer (some ⟨pb, 0, none⟩), .pointer (some ⟨fb, 0, none⟩)] := ⟨_, rfl⟩
  have hF2 := hF.set 0 K
  have hB2 : Box (V.setCell ⟨fb, 0, none⟩ K) hb 140 #[.map (some mb)] := hB.far (p := ⟨fb, 0, none⟩) n1 K
  have hM2 : (V.setCell ⟨fb, 0, none⟩ K).heap[mb]? = some (.map #[] 0) := (Below.heap_setCell V ⟨fb, 0, none⟩ K mb n2).trans hM
  have hT2 : Box (V.setCell ⟨fb, 0, none⟩ K) tb 79 (NodeC (-1) fl none none em A n c) := hT0.far (p := ⟨fb, 0, none⟩) n3 K
  have hP2 : Box (V.setCell ⟨fb, 0, none⟩ K) pb 41 #[.slice Ao no co, .slice Ar m cr] := hPB.far (p := ⟨fb, 0, none⟩) n5 K
  have hE2 : Ext U (V.setCell ⟨fb, 0, none⟩ K) := hE.set (p := ⟨fb, 0, none⟩) hfs K
  go_upto_region 4 with fail
  rw [← hK]
  generalize (V.setCell ⟨fb, 0, none⟩ K) = V2 at *
  have k0 := hF2.c0
  subst hK
  go_wp2_with fail
  refine (visit_leaf tb hb pb mb fl 0 em A n c 0 Ao Ar no co m cr _ _ hT2 hB2 hM2 hP2 (by omega) (by omega) hm).mono ?_
  rintro e w3 ⟨rfl, hx3⟩
  have hx := hE0.trans (hx3 U hE2 hms)
  rw [show ((n : Int) == (m : Int) + 0) = decide (n = m) by rw [Bool.eq_iff_iff]; simp; omega]
  go_wp2_with fail
  go_ret
  exact ⟨rfl, hx⟩
end Go.Proofs.YtljncdcjkdgkeaaGreatDoor.Lp
namespace Go.Proofs.YtljncdcjkdgkeaaGreatDoor.Lp
open Go.RowKit Go.Proofs.YtljncdcjkdgkeaaGreatDoor.Big Go.Proofs.YtljncdcjkdgkeaaGreatDoor.Rt

def alZ (f : Nat → Rat) : Nat → Bool
  | 0 => true
  | n + 1 => alZ f n && decide ((f n).den = 1)
/-- the bound that a leaf is held against -/
def limZ (z : Int) (s : Bool) : Rat := if s = true then (z : Rat) + ((1 : Int) : Rat) else (z : Rat)
def chkE (b R : Bool) : Int := if b = true then (if R = true then 0 else 19) else 3
theorem ProbV.objC {w : World} {p : Prob} {Ao : Option Addr} {n co : Nat} {r : Value} (h : ProbV w (.agg #[.slice Ao n co, r]) p) : RatsV w Ao n co p.obj := by
  obtain ⟨Ao', co', Ar', cr', e, h1, -⟩ := h
  injection e with e
  have e1 : Value.slice Ao n co = Value.slice Ao' p.n co' := by
    have := congrArg (fun a : Array Value => a[0]?) e
    simpa using this
  injection e1 with e1 e2 e3
  subst e1 e3
  rw [e2]
  exact h1
set_option maxHeartbeats 2000000 in
set_option maxRecDepth 100000 in
theorem Check_any (v t : Value) (p : Prob) (z : Int) (wf ft R : Bool) (Ko : Nat) (w : World) (hv : ProbV w v p) (hz0 : -9223372036854775808 ≤ z) (hz1 : z ≤ 9223372036854775807) (hKo : Ko ≤ 549755813888) (ho : ∀ j, j < p.n → QB Ko (p.obj j))
    (hwf : ∀ W, Ext w W → Calls Tryz.prog 32 #[t] W (fun e w' => e = .returned (.bool wf) ∧ Ext W w'))
    (hft : validB p = true → wf = true → ∀ W, Ext w W → Calls Tryz.prog 43 #[v, t] W (fun e w' => e = .returned (.bool ft) ∧ Ext W w'))
    (hpr : validB p = true → wf = true → ft = true → ∀ W (fb lb sb : Nat) (u1 u3 : Bool) (U2 U4 : Option Addr) (l2 l3 l4 l5 : Nat), Ext w W → w.heap.size ≤ fb → w.heap.size ≤ lb → w.heap.size ≤ sb → Box W fb 106 #[.func (.func 48) #[] #[.pointer (some ⟨fb, 0, none⟩), .pointer (some ⟨lb, 0, none⟩), .pointer (some ⟨sb, 0, none⟩)]] →
      Box W lb 58 #[.bool u1, .slice U2 l2 l3, .bool u3, .slice U4 l4 l5] → RatB W (.agg #[.bool u1, .slice U2 l2 l3, .bool u3, .slice U4 l4 l5]) (limZ z (alZ p.obj p.n)) 5 → Box W sb 4 #[.bool (alZ p.obj p.n)] →
      Calls Tryz.prog 48 #[v, t, .pointer (some ⟨fb, 0, none⟩), .pointer (some ⟨lb, 0, none⟩), .pointer (some ⟨sb, 0, none⟩)] W (ValPost W (.bool R))) :
    Calls Tryz.prog 16 #[v, .int .i64 z, t] w (ValPost w (.int .i64 (chkE (validB p && wf && ft) R))) := by
  obtain ⟨E, hEq⟩ : ∃ E, E = chkE (validB p && wf && ft) R := ⟨_, rfl⟩
  rw [← hEq]
  have HEQ := Lib.hid hEq
  clear hEq
  obtain ⟨Ao, co, Ar, cr, rfl, -⟩ := id hv
  have HO := Lib.hid ho
  have HPR := Lib.hid hpr
  have HFT := Lib.hid hft
  have HWF := Lib.hid hwf
  clear ho hpr hft hwf
  have PB := Box.new w 41 #[.slice Ao p.n co, .slice Ar p.m cr]
  have hE0 : Ext w (w.alloc (.cells #[.slice Ao p.n co, .slice Ar p.m cr] 41)) := (Ext.refl w).alloc _
  go_enter Tryz.func16, Tryz.ntmps16
  go_upto_region 1 with fail
  generalize (w.alloc (.cells #[.slice Ao p.n co, .slice Ar p.m cr] 41)) = V at *
  obtain ⟨pb, hpb⟩ : ∃ x, x = w.heap.size := ⟨_, rfl⟩
  rw [← hpb] at PB ⊢
  clear hpb
  have c0 := PB.c0
  have c1 := PB.c1
  go_wp2_with fail
  refine (Valid_b _ p _ (hv.ext hE0)).mono ?_
  rintro e w1 ⟨rfl, hx1⟩
  have PB1 := PB.ext hx1
  have hE1 := hE0.trans hx1
  obtain ⟨B, hB⟩ : ∃ B, B = validB p := ⟨_, rfl⟩
  rw [← hB]
  have HB := Lib.hid hB
  clear hB c0 c1 PB hE0 hx1
  cases B with
  | false =>
    have HE9 : Hid (E = 3) := Lib.hid (by rw [HEQ.out, ← HB.out]; simp [chkE])
    go_wp2_with fail
    go_ret
    exact ⟨by rw [HE9.out]; rfl, hE1⟩
  | true =>
  obtain ⟨a1, a2, a3, a4⟩ := validB_iff.1 HB.out.symm
  go_wp2_with fail
  refine (HWF.out _ hE1).mono ?_
  rintro e w2 ⟨rfl, hx2⟩
  have PB2 := PB1.ext hx2
  have hE2 := hE1.trans hx2
  clear PB1 hE1 hx2
  cases wf with
  | false =>
    have HE9 : Hid (E = 3) := Lib.hid (by rw [HEQ.out, ← HB.out]; simp [chkE])
    go_wp2_with fail
    go_ret
    exact ⟨by rw [HE9.out]; rfl, hE2⟩
  | true =>
  have c0 := PB2.c0
  have c1 := PB2.c1
  go_wp2_with fail
  refine (HFT.out HB.out.symm (by first | rfl | trivial) _ hE2).mono ?_
  rintro e w3 ⟨rfl, hx3⟩
  have PB3 := PB2.ext hx3
  have hE3 := hE2.trans hx3
  clear PB2 hE2 hx3 c0 c1
  cases ft with
  | false =>
    have HE9 : Hid (E = 3) := Lib.hid (by rw [HEQ.out, ← HB.out]; simp [chkE])
    go_wp2_with fail
    go_ret
    exact ⟨by rw [HE9.out]; rfl, hE3⟩
  | true =>
  go_wp2_with fail
  refine (RatOf_b z _ hz0 hz1).mono ?_
  rintro e w4 ⟨v4, rfl, hb4, hx4⟩
  obtain ⟨p4, A4, n4, c4, p4', A4', n4', c4', rfl⟩ := hb4.1.shape
  obtain ⟨LB, SB, hx5⟩ := boxesT2 w4 58 4 #[.bool p4, .slice A4 n4 c4, .bool p4', .slice A4' n4' c4'] #[.bool true]
  go_upto_region 4 with fail
  generalize ((w4.alloc (.cells #[.bool p4, .slice A4 n4 c4, .bool p4', .slice A4' n4' c4'] 58)).alloc (.cells #[.bool true] 4)) = W5 at *
  obtain ⟨sb, hsb⟩ : ∃ x, x = w4.heap.size + 1 := ⟨_, rfl⟩
  obtain ⟨lb, hlb⟩ : ∃ x, x = w4.heap.size := ⟨_, rfl⟩
  rw [← hsb] at SB ⊢
  rw [← hlb] at LB ⊢
  have hls : lb ≠ sb := by omega
  have hw4l : w4.heap.size ≤ lb := by omega
  have hw4s : w4.heap.size ≤ sb := by omega
  clear hsb hlb
  have PB5 := (PB3.ext hx4).ext hx5
  have hE5 := (hE3.trans hx4).trans hx5
  have hE4 := hE3.trans hx4
  have hwl : w.heap.size ≤ lb := Nat.le_trans hE4.size hw4l
  have hws : w.heap.size ≤ sb := Nat.le_trans hE4.size hw4s
  have hpl : pb ≠ lb := by have := (PB3.ext hx4).lt; omega
  have hps : pb ≠ sb := by have := (PB3.ext hx4).lt; omega
  have hb5 := hb4.ext hx5
  clear PB3 hE3 hx4 hb4 hx5
  have c0 := PB5.c0
  go_upto_region 5 with fail
  clear c0
  go_loopw [31] (fun i wr => ∃ j : Nat, j ≤ p.n ∧ i = .int .i64 j ∧ Box wr sb 4 #[.bool (alZ p.obj j)] ∧ Fr (fun k => k = sb) W5 wr) (fun i _ => p.n - (intOf i).toNat)
  case atStart => exact ⟨0, by omega, rfl, SB, Fr.refl _ _⟩
  case round =>
    clear SB
    obtain ⟨j, hj, rfl, SBr, hFr⟩ := hrel
    have hEr := hFr.ext hE5 (fun b hb => by rw [hb]; exact hws)
    obtain ⟨S, hS⟩ : ∃ S, S = alZ p.obj j := ⟨_, rfl⟩
    rw [← hS] at SBr
    have HS := Lib.hid hS
    clear hS
    by_cases hlt : j < p.n
    · have hob := (hv.ext hEr).objC
      have hoc := hob.1
      obtain ⟨qo, rfl, hqo⟩ := hob.2.2 (by omega)
      obtain ⟨p5, A5, m5, c5, p5', A5', m5', c5', o0, o1, o2, o3, hr5⟩ := hqo.at hlt
      have i1 : (0 : Int) ≤ (j : Int) := by omega
      have i2 : (j : Int) < (p.n : Int) := by omega
      go_upto_region 7 with fail
      have XB := Box.new wr 58 #[.bool p5, .slice A5 m5 c5, .bool p5', .slice A5' m5' c5']
      have hxT : Ext wr (wr.alloc (.cells #[.bool p5, .slice A5 m5 c5, .bool p5', .slice A5' m5' c5'] 58)) := (Ext.refl wr).alloc _
      generalize (wr.alloc (.cells #[.bool p5, .slice A5 m5 c5, .bool p5', .slice A5' m5' c5'] 58)) = T at *
      obtain ⟨xb, hxb⟩ : ∃ x, x = wr.heap.size := ⟨_, rfl⟩
      rw [← hxb] at XB ⊢
      clear hxb o0 o1 o2 o3
      have SBT := SBr.ext hxT
      have hxB : RatB T (.agg #[.bool p5, .slice A5 m5 c5, .bool p5', .slice A5' m5' c5']) (p.obj j) Ko := ⟨hr5.ext hxT, HO.out j hlt⟩
      have hFT := hFr.trans (Fr.of hxT)
      have s0 := SBT.c0
      have z0 := SBT.frozen 0
      cases S with
      | false =>
        have HN1 : Hid (alZ p.obj (j + 1) = false) := Lib.hid (by show (alZ p.obj j && decide ((p.obj j).den = 1)) = false; rw [← HS.out]; rfl)
        have SB2 := SBT.set 0 (.bool false)
        have hF2 := hFT.set (p := ⟨sb, 0, none⟩) rfl (fun z => by rw [s0]; intro e; cases e) (.bool false)
        have SB2 : Box (T.setCell ⟨sb, 0, none⟩ (.bool false)) sb 4 #[.bool (alZ p.obj (j + 1))] := by rw [HN1.out]; exact SB2
        go_wp2_with fail
        go_roundw
        case rel => first | exact ⟨j + 1, by omega, by go_num, SB2, hF2⟩ | ((repeat (apply Exists.intro (α := Value))); exact ⟨⟨j + 1, by omega, by go_num, SB2, hF2⟩, rfl⟩)
        case measure => simp [intOf]; omega
      | true =>
        obtain ⟨D, hD⟩ : ∃ D, D = decide ((p.obj j).den = 1) := ⟨_, rfl⟩
        obtain ⟨g, hg⟩ : ∃ g, g = cmpZ ((p.obj j).den : Int) 1 := ⟨_, rfl⟩
        have eD : (g == 0) = D := by
          rw [hg, hD]
          by_cases h1 : (p.obj j).den = 1
          · have : cmpZ ((p.obj j).den : Int) 1 = 0 := by rw [h1]; exact cmpZ_self _
            rw [this]; simp [h1]
          · have : cmpZ ((p.obj j).den : Int) 1 ≠ 0 := fun h => by
              have h2 : ((p.obj j).den : Int) = 1 := cmpZ_zero.1 h
              omega
            simp [this, h1]
        have HG := Lib.hid hg
        have HN1 : Hid (alZ p.obj (j + 1) = D) := Lib.hid (by show (alZ p.obj j && decide ((p.obj j).den = 1)) = D; rw [← HS.out, hD]; rfl)
        have x0 := XB.c0
        have x1 := XB.c1
        have x2 := XB.c2
        have x3 := XB.c3
        clear hg hD
        go_wp2_with fail
        refine (RatDen_b _ _ _ _ hxB).mono ?_
        rintro e w6 ⟨v6, rfl, hb6, hx6⟩
        obtain ⟨p6, A6, n6, c6, rfl⟩ := hb6.1.shape
        clear x0 x1 x2 x3
        go_wp2_with fail
        refine (Of_b 1 _ (by omega) (by omega)).mono ?_
        rintro e w7 ⟨v7, rfl, hb7, hx7⟩
        obtain ⟨p7, A7, n7, c7, rfl⟩ := hb7.1.shape
        go_wp2_with fail
        refine (Cmp_b _ _ _ _ _ _ _ (hb6.ext hx7) hb7).mono ?_
        rintro e w8 ⟨rfl, hx8⟩
        rw [← HG.out]
        have hx68 := (hx6.trans hx7).trans hx8
        have SB8 := SBT.ext hx68
        have hF8 := hFT.trans (Fr.of hx68)
        clear s0 z0
        have s0 := SB8.c0
        have z0 := SB8.frozen 0
        have SB9 := SB8.set 0 (.bool D)
        have hF9 := hF8.set (p := ⟨sb, 0, none⟩) rfl (fun z => by rw [s0]; intro e; cases e) (.bool D)
        have SB9 : Box (w8.setCell ⟨sb, 0, none⟩ (.bool D)) sb 4 #[.bool (alZ p.obj (j + 1))] := by rw [HN1.out]; exact SB9
        go_wp2_with fail
        go_roundw
        case rel => first | exact ⟨j + 1, by omega, by go_num, SB9, hF9⟩ | ((repeat (apply Exists.intro (α := Value))); exact ⟨⟨j + 1, by omega, by go_num, SB9, hF9⟩, rfl⟩)
        case measure => simp [intOf]; omega
    · obtain rfl : j = p.n := by omega
      have LBr := hFr.box LB hls
      have PBr := hFr.box PB5 hps
      have hb6 := hFr.ratB hb5
      have s0 := SBr.c0
      have hvr := hv.ext hEr
      clear LB PB5 hb5 hE5 hFr
      go_upto_if 44 with fail
      rename_i hK
      go_cut [] (fun wx => ∃ (u1 u3 : Bool) (U2 U4 : Option Addr) (l2 l3 l4 l5 : Nat), Box wx lb 58 #[.bool u1, .slice U2 l2 l3, .bool u3, .slice U4 l4 l5] ∧ RatB wx (.agg #[.bool u1, .slice U2 l2 l3, .bool u3, .slice U4 l4 l5]) (limZ z S) 5 ∧ Box wx sb 4 #[.bool S] ∧ Box wx pb 41 #[.slice Ao p.n co, .slice Ar p.m cr] ∧ Ext w wx)
      case first =>
        cases S with
        | false =>
          go_wp2_with fail
          go_meet
          exact ⟨_, _, _, _, _, _, _, _, LBr, ⟨hb6.1, QB_mono (by omega) hb6.2⟩, SBr, PBr, hEr⟩
        | true =>
          go_upto_region 10 with fail
          have q0 := LBr.c0
          have q1 := LBr.c1
          have q2 := LBr.c2
          have q3 := LBr.c3
          go_region_law (first
            | (go_simp; go_at_call 20; (with_reducible refine (RatOf_b 1 _ (by omega) (by omega)).mono ?_); rintro e wl ⟨vl, rfl, hbl, hxl⟩; (obtain ⟨pl, Al, nl, cl, pl', Al', nl', cl', rfl⟩ := hbl.1.shape); (have hlL : Ext wr wl := Ext.trans (by repeat (first | (with_reducible exact Ext.refl _) | (with_reducible apply Ext.drew) | (with_reducible apply Ext.drewN))) hxl); (have q0 := hlL.cell q0); (have q1 := hlL.cell q1); (have q2 := hlL.cell q2); (have q3 := hlL.cell q3))
            | (go_simp; go_at_call 47; (with_reducible refine (RatAdd_b _ _ _ _ _ _ _ (RatB.ext hb6 (by repeat (first | (with_reducible exact Ext.refl _) | (with_reducible apply Ext.drew) | (with_reducible apply Ext.drewN) | (with_reducible refine Ext.trans ?_ (by assumption))))) (RatB.ext hbl (by repeat (first | (with_reducible exact Ext.refl _) | (with_reducible apply Ext.drew) | (with_reducible apply Ext.drewN)))) (by omega)).mono ?_); rintro e wm ⟨vm, rfl, hbm, hxm⟩; (obtain ⟨pm, Am, nm, cm, pm', Am', nm', cm', rfl⟩ := hbm.1.shape); (have hmL : Ext wl wm := Ext.trans (by repeat (first | (with_reducible exact Ext.refl _) | (with_reducible apply Ext.drew) | (with_reducible apply Ext.drewN))) hxm); (have DBm := (LBr.ext hlL).ext hmL); (have q0 := DBm.c0); (have q1 := DBm.c1); (have q2 := DBm.c2); (have q3 := DBm.c3); (have z0 := DBm.frozen 0); (have z1 := DBm.frozen 1); (have z2 := DBm.frozen 2); (have z3 := DBm.frozen 3))
            )
          all_goals (
            obtain ⟨hf, pbx⟩ := put4 DBm (.bool pm) (.slice Am nm cm) (.bool pm') (.slice Am' nm' cm')
            have pp := hf.ratB hbm
            have SB9 := hf.box ((SBr.ext hlL).ext hmL) (Ne.symm hls)
            have PB9 := hf.box ((PBr.ext hlL).ext hmL) hpl
            have hE9 := hf.ext ((hEr.trans hlL).trans hmL) (fun b hb => by rw [hb]; exact hwl)
            clear DBm q0 q1 q2 q3 z0 z1 z2 z3 hf
            go_wp2_with fail
            go_meet
            exact ⟨_, _, _, _, _, _, _, _, pbx, pp, SB9, PB9, hE9⟩)
      case rest =>
      obtain ⟨u1, u3, U2, U4, l2, l3, l4, l5, LBc, hLz, SBc, PBc, hEc⟩ := hcut
      refine hK _ _ ?_
      clear hK LBr PBr SBr hb6 hEr hvr s0
      have hvc := hv.ext hEc
      go_upto_region 12 with fail
      have FB := Box.new wc 106 #[.nilFunc]
      have hxf : Ext wc (wc.alloc (.cells #[.nilFunc] 106)) := (Ext.refl wc).alloc _
      generalize (wc.alloc (.cells #[.nilFunc] 106)) = W6 at *
      obtain ⟨fb, hfb⟩ : ∃ x, x = wc.heap.size := ⟨_, rfl⟩
      rw [← hfb] at FB ⊢
      have hfw : w.heap.size ≤ fb := by have := hEc.size; omega
      have hfl : lb ≠ fb := by have := LBc.lt; omega
      have hfs : sb ≠ fb := by have := SBc.lt; omega
      have hfp : pb ≠ fb := by have := PBc.lt; omega
      clear hfb
      have LB6 := LBc.ext hxf
      have SB6 := SBc.ext hxf
      have PB6 := PBc.ext hxf
      have hL6 := hLz.ext hxf
      have hE6 := hEc.trans hxf
      clear LBc SBc PBc hLz hEc hxf
      obtain ⟨K, hKK⟩ : ∃ K : Value, K = .func (.func 48) #[] #[.pointer (some ⟨fb, 0, none⟩), .pointer (some ⟨lb, 0, none⟩), .pointer (some ⟨sb, 0, none⟩)] := ⟨_, rfl⟩
      have f0 := FB.c0
      have f1 := FB.frozen 0
      have hF : Fr (fun k => k = fb) W6 (W6.setCell ⟨fb, 0, none⟩ K) := (Fr.refl (fun k => k = fb) W6).set (p := ⟨fb, 0, none⟩) rfl (fun z => by rw [f0]; intro e; cases e) _
      have FB7 := FB.set 0 K
      have LB7 := hF.box LB6 hfl
      have SB7 := hF.box SB6 hfs
      have PB7 := hF.box PB6 hfp
      have hL7 := hF.ratB hL6
      have hE7 := hF.ext hE6 (fun b hb => by rw [hb]; exact hfw)
      go_upto_region 13 with fail
      rw [← hKK]
      generalize (W6.setCell ⟨fb, 0, none⟩ K) = W7 at *
      subst hKK
      clear hF f0 f1 FB LB6 SB6 PB6 hL6 hE6
      have k0 := FB7.c0
      have c0 := PB7.c0
      have c1 := PB7.c1
      rw [HS.out] at hL7 SB7
      have hcall := HPR.out HB.out.symm (by first | rfl | trivial) (by first | rfl | trivial) W7 fb lb sb u1 u3 U2 U4 l2 l3 l4 l5 hE7 hfw hwl hws FB7 LB7 hL7 SB7
      go_wp2_with fail
      refine hcall.mono ?_
      rintro e w8 ⟨rfl, hx8⟩
      have hE8 := hE7.trans hx8
      cases R with
      | false =>
        have HE9 : Hid (E = 19) := Lib.hid (by rw [HEQ.out, ← HB.out]; simp [chkE])
        go_wp2_with fail
        go_ret
        exact ⟨by rw [HE9.out]; rfl, hE8⟩
      | true =>
        have HE9 : Hid (E = 0) := Lib.hid (by rw [HEQ.out, ← HB.out]; simp [chkE])
        go_wp2_with fail
        go_ret
        exact ⟨by rw [HE9.out]; rfl, hE8⟩
end Go.Proofs.YtljncdcjkdgkeaaGreatDoor.Lp
namespace Go.Proofs.YtljncdcjkdgkeaaGreatDoor.Lp

/-- the integer fits into 64 bits -/
def fit (z : Int) : Bool := decide (-9223372036854775808 ≤ z) && decide (z ≤ 9223372036854775807)
theorem fit_iff {z : Int} : fit z = true ↔ -9223372036854775808 ≤ z ∧ z ≤ 9223372036854775807 := by
  unfold fit; rw [Bool.and_eq_true, decide_eq_true_eq, decide_eq_true_eq]
/-- the state of a search: the nodes solved, and the best point -/
structure BS where
  solved : Nat
  best : Option (Int × (Nat → Int))
inductive BT where
  | leaf (empty : Bool) (m : Nat) (y : Nat → Rat)
  | node (v : Nat) (f : Int) (low high : BT)
def BT.size : BT → Nat
  | .leaf _ _ _ => 1
  | .node _ _ a b => a.size + b.size + 1
/-- a side of a problem -/
def Prob.side (p : Prob) (v : Nat) (f : Int) (high : Bool) : Prob :=
  { p with m := p.m + 1, len := fun i => if i = p.m then p.n else p.len i, coef := fun i => if i = p.m then (fun j => if j = v then 1 else 0) else p.coef i, rel := fun i => if i = p.m then (if high = true then 3 else 1) else p.rel i, right := fun i => if i = p.m then ((f + (if high = true then 1 else 0) : Int) : Rat) else p.right i }
theorem int_of_den {q : Rat} (h : q.den = 1) : ((q.num : Int) : Rat) = q := by
  exact Rat.ext rfl h.symm
section
variable {p : Prob} {v : Nat} {f : Int} {high : Bool}
theorem Prob.side_vrel (h : p.Vrel) : (p.side v f high).Vrel := by
  intro i hi
  have hi : i < p.m + 1 := hi
  show 1 ≤ (if i = p.m then (if high = true then 3 else 1) else p.rel i) ∧ (if i = p.m then (if high = true then 3 else 1) else p.rel i) ≤ 3
  by_cases e : i = p.m
  · rw [if_pos e]; split <;> exact ⟨by omega, by omega⟩
  · rw [if_neg e]; exact h i (by omega)
theorem Prob.side_dot (hv : v < p.n) (x : Nat → Rat) : dot (p.side v f high).n ((p.side v f high).coef p.m) x = x v := by
  have e : (p.side v f high).coef p.m = fun j => if j = v then 1 else 0 := if_pos rfl
  rw [e]
  show sm p.n (fun j => (if j = v then 1 else 0) * x j) = x v
  rw [sm_only hv (fun j _ hne => by rw [if_neg hne]; exact Rat.zero_mul _), if_pos rfl]
  exact Rat.one_mul _
theorem Prob.side_feas (hv : v < p.n) {x : Nat → Rat} : (p.side v f high).Feas x ↔ p.Feas x ∧ (if high = true then ((f + 1 : Int) : Rat) ≤ x v else x v ≤ (f : Rat)) := by
  have key : Holds ((p.side v f high).rel p.m) (dot (p.side v f high).n ((p.side v f high).coef p.m) x) ((p.side v f high).right p.m) ↔ (if high = true then ((f + 1 : Int) : Rat) ≤ x v else x v ≤ (f : Rat)) := by
    rw [Prob.side_dot hv]
    have e1 : (p.side v f high).rel p.m = if high = true then 3 else 1 := if_pos rfl
    have e2 : (p.side v f high).right p.m = ((f + (if high = true then 1 else 0) : Int) : Rat) := if_pos rfl
    rw [e1, e2]
    unfold Holds
    cases high with
    | true => exact ⟨fun h => h.2.2 rfl, fun h => ⟨fun e => (by cases e), fun e => (by cases e), fun _ => h⟩⟩
    | false =>
      rw [if_neg (by decide), if_neg (by decide), if_neg (by decide), Int.add_zero]
      exact ⟨fun h => h.1 rfl, fun h => ⟨fun _ => h, fun e => (by cases e), fun e => (by cases e)⟩⟩
  have old : ∀ i, i < p.m → (Holds ((p.side v f high).rel i) (dot (p.side v f high).n ((p.side v f high).coef i) x) ((p.side v f high).right i) ↔ Holds (p.rel i) (dot p.n (p.coef i) x) (p.right i)) := fun i hi => by
    have e0 : (p.side v f high).rel i = p.rel i := if_neg (by omega)
    have e1 : (p.side v f high).coef i = p.coef i := if_neg (by omega)
    have e2 : (p.side v f high).right i = p.right i := if_neg (by omega)
    rw [e0, e1, e2]; exact Iff.rfl
  constructor
  · rintro ⟨h1, h2⟩
    exact ⟨⟨h1, fun i hi => (old i hi).1 (h2 i (by show i < p.m + 1; omega))⟩, key.1 (h2 p.m (by show p.m < p.m + 1; omega))⟩
  · rintro ⟨⟨h1, h2⟩, h3⟩
    refine ⟨h1, fun i hi => ?_⟩
    have hi : i < p.m + 1 := hi
    rcases Nat.lt_or_ge i p.m with hlt | hge
    · exact (old i hlt).2 (h2 i hlt)
    · obtain rfl : i = p.m := by omega
      exact key.2 h3
end
/-- an integer point -/
def Prob.FeasI (p : Prob) (x : Nat → Int) : Prop := p.Feas (fun j => (x j : Rat))
def Prob.objI (p : Prob) (x : Nat → Int) : Rat := dot p.n p.obj (fun j => (x j : Rat))
def Prob.IntObj (p : Prob) : Prop := ∀ j, j < p.n → (p.obj j).den = 1
theorem Prob.side_int {p : Prob} {v : Nat} {f : Int} (hv : v < p.n) {x : Nat → Int} (h : p.FeasI x) : (p.side v f false).FeasI x ∨ (p.side v f true).FeasI x := by
  rcases Int.lt_or_le f (x v) with h1 | h1
  · refine .inr ((Prob.side_feas hv).2 ⟨h, ?_⟩)
    rw [if_pos rfl]
    exact Rat.intCast_le_intCast.2 (by omega)
  · refine .inl ((Prob.side_feas hv).2 ⟨h, ?_⟩)
    rw [if_neg (by decide)]
    exact Rat.intCast_le_intCast.2 (by omega)
theorem sm_den {n : Nat} {f : Nat → Rat} (h : ∀ j, j < n → (f j).den = 1) : (sm n f).den = 1 := by
  have : ∃ z : Int, sm n f = (z : Rat) := by
    induction n with
    | zero => exact ⟨0, rfl⟩
    | succ n ih =>
      obtain ⟨z, hz⟩ := ih (fun j hj => h j (by omega))
      refine ⟨z + (f n).num, ?_⟩
      show sm n f + f n = _
      rw [hz, Rat.intCast_add, int_of_den (h n (by omega))]
  obtain ⟨z, hz⟩ := this
  rw [hz]; rfl
theorem mul_den {a b : Rat} (ha : a.den = 1) (hb : b.den = 1) : (a * b).den = 1 := by
  rw [← int_of_den ha, ← int_of_den hb, ← Rat.intCast_mul]; rfl
theorem Prob.objI_int {p : Prob} (h : p.IntObj) (x : Nat → Int) : ((p.objI x).floor : Rat) = p.objI x := by
  have : (p.objI x).den = 1 := sm_den fun j hj => mul_den (h j hj) rfl
  have e := int_of_den this
  rw [← e, Rat.floor_intCast]

/-! what the tree shows -/
/-- the tree proves that no integer point of p has a greater objective than V; without V: that there is no point -/
def BT.Ok : BT → Prob → Option Int → Prop
  | .leaf true m y, p, _ => m = p.m ∧ p.Refutes y
  | .leaf false m y, p, V => m = p.m ∧ ∃ z v, p.Proves y z ∧ V = some v ∧ z.floor ≤ v
  | .node v f a b, p, V => v < p.n ∧ fit f = true ∧ a.Ok (p.side v f false) V ∧ b.Ok (p.side v f true) V
theorem BT.Ok.up {t : BT} {p : Prob} {V V' : Option Int} (h : t.Ok p V) (hV : ∀ v, V = some v → ∃ v', V' = some v' ∧ v ≤ v') : t.Ok p V' := by
  induction t generalizing p with
  | leaf e m y =>
    cases e with
    | true => exact h
    | false =>
      obtain ⟨h0, z, v, h1, h2, h3⟩ := h
      obtain ⟨v', h4, h5⟩ := hV v h2
      exact ⟨h0, z, v', h1, h4, Int.le_trans h3 h5⟩
  | node v f a b iha ihb => exact ⟨h.1, h.2.1, iha h.2.2.1, ihb h.2.2.2⟩
theorem BT.Ok.bound {t : BT} {p : Prob} {V : Option Int} (h : t.Ok p V) (hv : p.Vrel) (ho : p.IntObj) {x : Nat → Int} (hx : p.FeasI x) : ∃ v : Int, V = some v ∧ p.objI x ≤ (v : Rat) := by
  induction t generalizing p with
  | leaf e m y =>
    cases e with
    | true => exact (Prob.Refutes.none hv h.2 hx).elim
    | false =>
      obtain ⟨-, z, v, h1, h2, h3⟩ := h
      refine ⟨v, h2, ?_⟩
      have h4 : p.objI x ≤ z := h1.bound hv hx
      have h5 := Rat.floor_monotone h4
      rw [← Prob.objI_int ho x]
      exact Rat.intCast_le_intCast.2 (Int.le_trans h5 h3)
  | node u f a b iha ihb =>
    rcases Prob.side_int (f := f) h.1 hx with h1 | h1
    · exact iha (p := p.side u f false) h.2.2.1 (Prob.side_vrel hv) ho h1
    · exact ihb (p := p.side u f true) h.2.2.2 (Prob.side_vrel hv) ho h1

def BS.val (s : BS) : Option Int := s.best.map Prod.fst
def upd (f : Nat → Int) (v : Nat) (z : Int) (j : Nat) : Int := if j = v then z else f j
end Go.Proofs.YtljncdcjkdgkeaaGreatDoor.Lp
namespace Go.Proofs.YtljncdcjkdgkeaaGreatDoor.Lp
open Go.RowKit Go.Proofs.YtljncdcjkdgkeaaGreatDoor.Big Go.Proofs.YtljncdcjkdgkeaaGreatDoor.Rt

theorem wp_pushN {w : World} {o : Oper} {a : Act} {K : Act → World → Prop} {Q : Exit → Act → World → Prop}
    (s x : Operand) (t : TypeId) (hop : o.op = Op.call { callee := Callee.builtin Builtin.append, args := #[s, x], argTypes := #[t, t] })
    (base : Nat) (e : TypeId) (i : TypeInfo) (z : Value) (k bytes : Nat) (h1 : Tryz.prog.underlying t = some (.slice e)) (h2 : Tryz.prog.info? e = some i) (h3 : i.zero = some z) (h4 : i.size = k) (h5 : i.bytes = bytes) (h6 : z.cells.size = k) (hz : ∀ u ∈ z.cells.toList, noU u = true)
    (v : Value) (n : Nat) (xs : List Value) (hs : a.eval s = v) (hown : OwnX w base e k v n xs) (ad : Addr) (m : Nat) (news : List Value) (c : Nat) (hx : a.eval x = .slice (some ad) m c) (hm0 : 0 < m) (hnl : news.length = m * k) (hnews : ∀ j y, news[j]? = some y → w.cell? (ad.add j) = some y) (h1c : ∀ y ∈ news, y.oneCell' = true) (hnu : ∀ y ∈ news, noU y = true)
    (b1 : n + m ≤ 1099511627776) (b2 : bytes ≤ 128) (hbase : base ≤ w.heap.size)
    (hK : ∀ v' w', OwnX w' base e k v' (n + m) (xs ++ news) → Fr (fun g => v.ownBlock = some g) w w' → Fresh w v v' → K (a.put o.dst v') w') :
    Oper.wp Tryz.prog o a w K Q := by
  subst h4 h5
  have hbyt : (n + m) * i.bytes ≤ 140737488355328 := Nat.le_trans (Nat.mul_le_mul b1 b2) (by decide)
  have hml : n + m ≤ maxLen := by unfold maxLen; omega
  have hlen : (xs ++ news).length = (n + m) * i.size := by rw [List.length_append, hown.1, hnl, Nat.add_mul]
  have hl1 : news.length = m * i.size := hnl
  -- where a new block comes
  have grown : ∀ old, (∀ u ∈ xs, noU u = true) → OwnX (w.drew.alloc (.cells (xs.toArray ++ news.toArray ++ Builtin.zeroCells z.cells (grownCap w (n + m) old e - (n + m))) e)) base e i.size (.slice (some ⟨w.heap.size, 0, none⟩) (n + m) (grownCap w (n + m) old e)) (n + m) (xs ++ news) := by
    intro old hxu
    have hge := grownCap_ge w (n + m) old e
    have hcm : grownCap w (n + m) old e ≤ maxLen := grownCap_le_maxLen w (n + m) old e hml
    refine ⟨hlen, .inr ⟨w.heap.size, _, _, rfl, hbase, heap_alloc_new w.drew _, hge, hcm, ?_, ?_, ?_⟩⟩
    · simp only [Array.size_append, List.size_toArray, size_zeroCells, h6, hown.1, hnl]
      obtain ⟨d, hd⟩ : ∃ d, grownCap w (n + m) old e = n + m + d := ⟨grownCap w (n + m) old e - (n + m), by omega⟩
      rw [hd, show n + m + d - (n + m) = d by omega, Nat.add_mul, Nat.add_mul]
    · simp only [Array.toList_append, List.append_assoc]
      rw [← List.append_assoc, ← hlen]
      exact List.take_left
    · intro u hu
      simp only [Array.toList_append, List.mem_append] at hu
      rcases hu with (hu | hu) | hu
      · exact hxu u hu
      · exact hnu u hu
      · exact zeroCells_noU hz _ u hu
  have frN : ∀ (obj : Obj) (P : Nat → Prop), Fr P w (w.drew.alloc obj) := fun obj P => ((Fr.refl P w).drew).alloc obj
  have fin : ∀ (v' : Value) (w' : World), (Builtin.append_ #[t, t] o.type #[v, .slice (some ad) m c]).run Tryz.prog w = .ok v' w' → K (a.put o.dst v') w' → Oper.wp Tryz.prog o a w K Q := by
    intro v' w' hrun hr
    unfold Oper.wp
    simp [execOp, hop, resolve, invoke, builtin, hs, hx, hrun, Result.andThen]
    exact hr
  rcases hown.2 with ⟨rfl, rfl⟩ | ⟨g, cap, cur, rfl, hb, g5, g6, g7, g8, g9, g10⟩
  · have hx0 : xs = [] := List.eq_nil_of_length_eq_zero (by simpa using hown.1)
    subst hx0
    have hr := run_append_nil (P := Tryz.prog) w t o.type e i z h1 h2 h3 ad m c news hl1 hnews hm0 (by omega) (by rw [Nat.zero_add] at hbyt; omega)
    have hgr := grown 0 (fun u hu => by cases hu)
    simp only [Nat.zero_add, List.nil_append, Array.empty_append] at hgr hr hK
    refine fin _ _ hr (hK _ _ hgr (frN _ _) (.inr ⟨_, rfl, Nat.le_refl _⟩))
  · by_cases hcap : n + m ≤ cap
    · have hnk : n * i.size + m * i.size ≤ cap * i.size := by rw [← Nat.add_mul]; exact Nat.mul_le_mul_right _ hcap
      have hr := run_append_room (P := Tryz.prog) w t o.type e i h1 h2 g n cap cur g5 ad m c news hl1 hnews h1c hcap (by rw [hnl, g8]; exact hnk)
      have hcn : (cur.toList.take (n * i.size)).length = n * i.size := by rw [List.length_take, Array.length_toList, g8]; omega
      have hmem : ∀ u ∈ cur.toList.take (n * i.size) ++ news ++ cur.toList.drop (n * i.size + news.length), noU u = true := by
        intro u hu
        simp only [List.mem_append] at hu
        rcases hu with (hu | hu) | hu
        · exact g10 u (List.mem_of_mem_take hu)
        · exact hnu u hu
        · exact g10 u (List.mem_of_mem_drop hu)
      refine fin _ _ hr (hK _ _ ⟨hlen, .inr ⟨g, cap, _, rfl, hb, setRow_heap w g cur _ e _ g5, hcap, g7, ?_, ?_, by simpa using hmem⟩⟩ ?_ (.inl rfl))
      · simp only [List.size_toArray, List.length_append, hcn, List.length_drop, Array.length_toList, hnl, g8]; omega
      · rw [g9, ← hlen]; exact List.take_left
      · refine ⟨rfl, rfl, rfl, by simp [World.setRow], fun k _ hne => setRow_other w g k _ (fun e' => hne (by rw [e']; rfl)), fun b' j zz hzz => ?_⟩
        by_cases e' : b' = g
        · subst e'
          rw [cell_of_row w b' j cur _ (0, 0) g5] at hzz
          have := g10 _ (Array.mem_toList_iff.2 (Array.mem_of_getElem? hzz))
          cases this
        · rw [World.cell?_of_block (w := w) (w' := w.setRow g _) (a := ⟨b', j, none⟩) (setRow_other w g b' _ e')]; exact hzz
    · have holds : ∀ j u, xs[j]? = some u → w.cell? ((⟨g, 0, none⟩ : Addr).add j) = some u := fun j u hj => by
        rw [Lib.add_plain, Nat.zero_add, cell_of_row w g j cur _ (0, 0) g5, ← Array.getElem?_toList]
        rw [← g9, List.getElem?_take] at hj
        split at hj
        · exact hj
        · cases hj
      have hlt : cap < n + m := Nat.lt_of_not_le hcap
      have hr := run_append_grow (P := Tryz.prog) w t o.type e i z h1 h2 h3 ⟨g, 0, none⟩ n cap xs hown.1 holds ad m c news hl1 hnews hlt (by omega) (growslice_fits hlt hbyt)
      refine fin _ _ hr (hK _ _ (grown cap (fun u hu => g10 u (by rw [← g9] at hu; exact List.mem_of_mem_take hu))) (frN _ _) (.inr ⟨_, rfl, Nat.le_refl _⟩))
theorem run_append_zero {w : World} {base : Nat} {t ty e : TypeId} {i : TypeInfo} {k n : Nat} {v : Value} {xs : List Value} (ht : Tryz.prog.underlying t = some (.slice e)) (hi : Tryz.prog.info? e = some i) (hown : OwnX w base e k v n xs) (A : Option Addr) (c : Nat) :
    (Builtin.append_ #[t, t] ty #[v, .slice A 0 c]).run Tryz.prog w = .ok v w := by
  rcases hown.2 with ⟨rfl, rfl⟩ | ⟨g, cap, cur, rfl, _, _, hnc, _⟩
  · cases A with
    | none => simp [Builtin.append_, run_underlying ht, sizeOf, typeInfo, hi, Builtin.lenOf, Builtin.firstCells]
    | some ad =>
      have hf := run_firstCells_some (P := Tryz.prog) w i.size 0 ad 0 c [] (by simp) (fun j v hj => by simp at hj)
      simp [Builtin.append_, run_underlying ht, sizeOf, typeInfo, hi, Builtin.lenOf, hf]
  · cases A with
    | none => simp [Builtin.append_, run_underlying ht, sizeOf, typeInfo, hi, Builtin.lenOf, Builtin.firstCells, hnc, storeCells]
    | some ad =>
      have hf := run_firstCells_some (P := Tryz.prog) w i.size 0 ad 0 c [] (by simp) (fun j v hj => by simp at hj)
      simp [Builtin.append_, run_underlying ht, sizeOf, typeInfo, hi, Builtin.lenOf, hf, hnc, storeCells]
/-- append of a list that may be empty -/
theorem wp_pushA {w : World} {o : Oper} {a : Act} {K : Act → World → Prop} {Q : Exit → Act → World → Prop}
    (s x : Operand) (t : TypeId) (hop : o.op = Op.call { callee := Callee.builtin Builtin.append, args := #[s, x], argTypes := #[t, t] })
    (base : Nat) (e : TypeId) (i : TypeInfo) (z : Value) (k bytes : Nat) (h1 : Tryz.prog.underlying t = some (.slice e)) (h2 : Tryz.prog.info? e = some i) (h3 : i.zero = some z) (h4 : i.size = k) (h5 : i.bytes = bytes) (h6 : z.cells.size = k) (hz : ∀ u ∈ z.cells.toList, noU u = true)
    (v : Value) (n : Nat) (xs : List Value) (hs : a.eval s = v) (hown : OwnX w base e k v n xs) (A : Option Addr) (m : Nat) (news : List Value) (c : Nat) (hx : a.eval x = .slice A m c) (hnl : news.length = m * k) (hsrc : 0 < m → ∃ ad, A = some ad ∧ ∀ j y, news[j]? = some y → w.cell? (ad.add j) = some y) (h1c : ∀ y ∈ news, y.oneCell' = true) (hnu : ∀ y ∈ news, noU y = true)
    (b1 : n + m ≤ 1099511627776) (b2 : bytes ≤ 128) (hbase : base ≤ w.heap.size)
    (hK : ∀ v' w', OwnX w' base e k v' (n + m) (xs ++ news) → Fr (fun g => v.ownBlock = some g) w w' → Fresh w v v' → K (a.put o.dst v') w') :
    Oper.wp Tryz.prog o a w K Q := by
  rcases Nat.eq_zero_or_pos m with hm | hm
  · subst hm
    have hn0 : news = [] := List.eq_nil_of_length_eq_zero (by simpa using hnl)
    subst hn0
    have hr := run_append_zero (ty := o.type) h1 h2 hown A c
    unfold Oper.wp
    simp [execOp, hop, resolve, invoke, builtin, hs, hx, hr, Result.andThen]
    exact hK v w (by simpa using hown) (Fr.refl _ _) (.inl rfl)
  · obtain ⟨ad, rfl, hnews⟩ := hsrc hm
    exact wp_pushN s x t hop base e i z k bytes h1 h2 h3 h4 h5 h6 hz v n xs hs hown ad m news c hx hm hnl hnews h1c hnu b1 b2 hbase hK
end Go.Proofs.YtljncdcjkdgkeaaGreatDoor.Lp
namespace Go.Proofs.YtljncdcjkdgkeaaGreatDoor.Lp
open Go.RowKit Go.Proofs.YtljncdcjkdgkeaaGreatDoor.Big Go.Proofs.YtljncdcjkdgkeaaGreatDoor.Rt

def IRX (w : World) (X : Nat → Option Value) (off : Nat) (r : IRow) : Prop :=
  ∃ A c, X off = some (.slice A r.coef.length c) ∧ X (off + 1) = some (.int .u8 (r.rel : Int)) ∧ X (off + 2) = some (.int .i32 r.right) ∧ Row w (.slice A r.coef.length c) (wV r.coef)
def IRows (w : World) (X : Nat → Option Value) (rows : List IRow) : Prop := ∀ j r, rows[j]? = some r → IRX w X (j * 3) r
theorem IRX.ext {w w' : World} {X : Nat → Option Value} {off : Nat} {r : IRow} (h : IRX w X off r) (k : Ext w w') : IRX w' X off r := by
  obtain ⟨A, c, h1, h2, h3, h4⟩ := h
  exact ⟨A, c, h1, h2, h3, h4.ext k⟩
theorem IRX.X {w : World} {X Y : Nat → Option Value} {off off' : Nat} {r : IRow} (h : IRX w X off r) (e : ∀ i, i < 3 → Y (off' + i) = X (off + i)) : IRX w Y off' r := by
  obtain ⟨A, c, h1, h2, h3, h4⟩ := h
  exact ⟨A, c, (e 0 (by omega)).trans h1, (e 1 (by omega)).trans h2, (e 2 (by omega)).trans h3, h4⟩
theorem IRows.ext {w w' : World} {X : Nat → Option Value} {rows : List IRow} (h : IRows w X rows) (k : Ext w w') : IRows w' X rows := fun j r hj => (h j r hj).ext k
theorem IRows.push {w : World} {xs ys : List Value} {rows : List IRow} {r : IRow} (h : IRows w (fun i => xs[i]?) rows) (hl : xs.length = rows.length * 3) (hr : IRX w (fun i => ys[i]?) 0 r) : IRows w (fun i => (xs ++ ys)[i]?) (rows ++ [r]) := by
  intro j s hj
  rcases Nat.lt_or_ge j rows.length with hlt | hge
  · rw [List.getElem?_append_left hlt] at hj
    exact (h j s hj).X fun i hi => List.getElem?_append_left (by omega)
  · rw [List.getElem?_append_right hge] at hj
    have hj0 : j - rows.length = 0 := by
      have := (List.getElem?_eq_some_iff.1 hj).1; simp at this; omega
    rw [hj0] at hj
    obtain rfl := Option.some.inj hj
    refine hr.X fun i hi => ?_
    show (xs ++ ys)[j * 3 + i]? = ys[0 + i]?
    rw [List.getElem?_append_right (by omega), hl]
    congr 1; omega
def PRX (w : World) (X : Nat → Option Value) (off : Nat) (r : RL) : Prop :=
  ∃ A c x B d e y B' d' e', X off = some (.slice A r.coef.length c) ∧ X (off + 1) = some (.int .u8 (r.rel : Int)) ∧ X (off + 2) = some (.bool x) ∧ X (off + 3) = some (.slice B d e) ∧ X (off + 4) = some (.bool y) ∧ X (off + 5) = some (.slice B' d' e') ∧ r.rel ≤ 255 ∧
    RatsV w A r.coef.length c (fun j => r.coef.getD j 0) ∧ RatV w (.agg #[.bool x, .slice B d e, .bool y, .slice B' d' e']) r.right
def PRows (w : World) (X : Nat → Option Value) (rows : List RL) : Prop := ∀ j r, rows[j]? = some r → PRX w X (j * 6) r
theorem RatsV.fr {P : Nat → Prop} {w w' : World} {A : Option Addr} {n c : Nat} {f : Nat → Rat} (h : RatsV w A n c f) (k : Fr P w w') (hP : ∀ b n f, RowR w b n f → ¬ P b) : RatsV w' A n c f :=
  ⟨h.1, h.2.1, fun hn => by obtain ⟨b, e, hr⟩ := h.2.2 hn; exact ⟨b, e, hr.fr k (hP _ _ _ hr)⟩⟩
theorem PRX.fr {P : Nat → Prop} {w w' : World} {X : Nat → Option Value} {off : Nat} {r : RL} (h : PRX w X off r) (k : Fr P w w') (hP : ∀ b n f, RowR w b n f → ¬ P b) : PRX w' X off r := by
  obtain ⟨A, c, x, B, d, e, y, B', d', e', h0, h1, h2, h3, h4, h5, h6, h7, h8⟩ := h
  exact ⟨A, c, x, B, d, e, y, B', d', e', h0, h1, h2, h3, h4, h5, h6, h7.fr k hP, k.rat h8⟩
theorem PRX.ext {w w' : World} {X : Nat → Option Value} {off : Nat} {r : RL} (h : PRX w X off r) (k : Ext w w') : PRX w' X off r := h.fr (P := fun _ => False) (Fr.of k) (fun _ _ _ _ => id)
theorem PRX.X {w : World} {X Y : Nat → Option Value} {off off' : Nat} {r : RL} (h : PRX w X off r) (e : ∀ i, i < 6 → ∀ u, X (off + i) = some u → Y (off' + i) = some u) : PRX w Y off' r := by
  obtain ⟨A, c, x, B, d, e1, y, B', d', e', h0, h1, h2, h3, h4, h5, h6, h7, h8⟩ := h
  exact ⟨A, c, x, B, d, e1, y, B', d', e', e 0 (by omega) _ h0, e 1 (by omega) _ h1, e 2 (by omega) _ h2, e 3 (by omega) _ h3, e 4 (by omega) _ h4, e 5 (by omega) _ h5, h6, h7, h8⟩
theorem PRows.fr {P : Nat → Prop} {w w' : World} {X : Nat → Option Value} {rows : List RL} (h : PRows w X rows) (k : Fr P w w') (hP : ∀ b n f, RowR w b n f → ¬ P b) : PRows w' X rows := fun j r hj => (h j r hj).fr k hP
theorem PRows.ext {w w' : World} {X : Nat → Option Value} {rows : List RL} (h : PRows w X rows) (k : Ext w w') : PRows w' X rows := fun j r hj => (h j r hj).ext k
theorem PRows.push {w : World} {xs ys : List Value} {rows : List RL} {r : RL} (h : PRows w (fun i => xs[i]?) rows) (hl : xs.length = rows.length * 6) (hr : PRX w (fun i => ys[i]?) 0 r) : PRows w (fun i => (xs ++ ys)[i]?) (rows ++ [r]) := by
  intro j s hj
  rcases Nat.lt_or_ge j rows.length with hlt | hge
  · rw [List.getElem?_append_left hlt] at hj
    exact (h j s hj).X fun i hi u hu => (List.getElem?_append_left (by omega)).trans hu
  · rw [List.getElem?_append_right hge] at hj
    have hj0 : j - rows.length = 0 := by
      have := (List.getElem?_eq_some_iff.1 hj).1; simp at this; omega
    rw [hj0] at hj
    obtain rfl := Option.some.inj hj
    refine hr.X fun i hi u hu => ?_
    show (xs ++ ys)[j * 6 + i]? = some u
    rw [List.getElem?_append_right (by omega), hl, ← hu]
    show ys[j * 6 + i - rows.length * 6]? = ys[0 + i]?
    congr 1; omega
end Go.Proofs.YtljncdcjkdgkeaaGreatDoor.Lp
namespace Go.Proofs.YtljncdcjkdgkeaaGreatDoor.Big
open Go.RowKit

/-- block b is an array of the call's own: n numbers of kind k, f j at place j -/
def ArrK (k : IntKind) (w : World) (b n : Nat) (E : TypeId) (f : Nat → Nat) : Prop :=
  ∃ cs : Array Value, w.heap[b]? = some (.cells cs E (0, 0)) ∧ cs.size = n ∧ ∀ j, j < n → cs[j]? = some (.int k (f j : Int))
section
variable {kd : IntKind} {w w' : World} {b n : Nat} {E : TypeId} {f g : Nat → Nat}
theorem ArrK.lt (h : ArrK kd w b n E f) : b < w.heap.size := by
  obtain ⟨cs, h1, _⟩ := h
  rcases Nat.lt_or_ge b w.heap.size with hlt | hge
  · exact hlt
  · rw [Array.getElem?_eq_none hge] at h1; cases h1
theorem ArrK.cell (h : ArrK kd w b n E f) {j : Nat} (hj : j < n) : w.cell? ⟨b, j, none⟩ = some (.int kd (f j : Int)) := by
  obtain ⟨cs, h1, _, h3⟩ := h
  unfold World.cell?
  rw [h1]
  simpa using h3 j hj
theorem ArrK.frozen (h : ArrK kd w b n E f) (j : Nat) : w.frozen? ⟨b, j, none⟩ = false := by
  obtain ⟨cs, h1, _⟩ := h
  simp [World.frozen?, h1]
theorem ArrK.ext (h : ArrK kd w b n E f) (k : Ext w w') : ArrK kd w' b n E f := by
  have hl := h.lt
  obtain ⟨cs, h1, h2⟩ := h
  exact ⟨cs, (Below.block k b hl).trans h1, h2⟩
theorem ArrK.congr (h : ArrK kd w b n E f) (hfg : ∀ j, j < n → f j = g j) : ArrK kd w b n E g := by
  obtain ⟨cs, h1, h2, h3⟩ := h
  exact ⟨cs, h1, h2, fun j hj => by rw [h3 j hj, hfg j hj]⟩
theorem ArrK.set (h : ArrK kd w b n E f) (i u : Nat) : ArrK kd (w.setCell ⟨b, i, none⟩ (.int kd (u : Int))) b n E (fun j => if j = i then u else f j) := by
  obtain ⟨cs, h1, h2, h3⟩ := h
  refine ⟨cs.setIfInBounds i (.int kd (u : Int)), ?_, by simpa using h2, fun j hj => ?_⟩
  · simp [World.setCell, Array.getElem?_modify, h1]
  · by_cases hji : j = i
    · subst hji; simp [Array.getElem?_setIfInBounds_self, h2, hj]
    · rw [Array.getElem?_setIfInBounds_ne (Ne.symm hji), h3 j hj]; simp [hji]
theorem ArrK.row (h : ArrK kd w b n E f) : ∃ cs, w.heap[b]? = some (.cells cs E (0, 0)) := by
  obtain ⟨cs, h1, _⟩ := h
  exact ⟨cs, h1⟩
end
end Go.Proofs.YtljncdcjkdgkeaaGreatDoor.Big
namespace Go.Proofs.YtljncdcjkdgkeaaGreatDoor.Lp
open Go.RowKit Go.Proofs.YtljncdcjkdgkeaaGreatDoor.Big Go.Proofs.YtljncdcjkdgkeaaGreatDoor.Rt

/-- block b is an array of n ints, f j at place j -/
def Pts (w : World) (b n : Nat) (f : Nat → Int) : Prop := ∃ cs : Array Value, w.heap[b]? = some (.cells cs 3 (0, 0)) ∧ cs.size = n ∧ ∀ j, j < n → cs[j]? = some (.int .i64 (f j))
section
variable {w w' : World} {b n : Nat} {f g : Nat → Int}
theorem Pts.cell (h : Pts w b n f) {j : Nat} (hj : j < n) : w.cell? ⟨b, j, none⟩ = some (.int .i64 (f j)) := by
  obtain ⟨cs, h1, _, h3⟩ := h; exact (cell_of_row w b j cs _ (0, 0) h1).trans (h3 j hj)
theorem Pts.frozen (h : Pts w b n f) (j : Nat) : w.frozen? ⟨b, j, none⟩ = false := by
  obtain ⟨cs, h1, _⟩ := h; simp [World.frozen?, h1]
theorem Pts.fr {P : Nat → Prop} (h : Pts w b n f) (k : Fr P w w') (hp : ¬ P b) : Pts w' b n f := by
  obtain ⟨cs, h1, h2⟩ := h; exact ⟨cs, k.row hp h1, h2⟩
theorem Pts.ext (h : Pts w b n f) (k : Ext w w') : Pts w' b n f := h.fr (P := fun _ => False) (Fr.of k) id
theorem Pts.congr (h : Pts w b n f) (e : ∀ j, j < n → f j = g j) : Pts w b n g := by
  obtain ⟨cs, h1, h2, h3⟩ := h; exact ⟨cs, h1, h2, fun j hj => by rw [h3 j hj, e j hj]⟩
theorem Pts.lt (h : Pts w b n f) : b < w.heap.size := by
  obtain ⟨cs, h1, _⟩ := h
  rcases Nat.lt_or_ge b w.heap.size with hlt | hge
  · exact hlt
  · rw [Array.getElem?_eq_none hge] at h1; cases h1
theorem Pts.set (h : Pts w b n f) {j : Nat} (hj : j < n) (x : Int) : Pts (w.setCell ⟨b, j, none⟩ (.int .i64 x)) b n (fun i => if i = j then x else f i) := by
  obtain ⟨cs, h1, h2, h3⟩ := h
  refine ⟨cs.setIfInBounds j (.int .i64 x), ?_, by simpa using h2, fun i hi => (?_ : _ = some (Value.int .i64 (if i = j then x else f i)))⟩
  · simp [World.setCell, Array.getElem?_modify, h1]
  · by_cases e : i = j
    · subst e; rw [if_pos rfl]; simp [h2, hi]
    · rw [if_neg e, Array.getElem?_setIfInBounds_ne (Ne.symm e)]; exact h3 i hi
end

/-- the blocks b to h hold a tree -/
def TreeV (K : Nat) (w : World) : BT → Nat → Nat → Prop
  | .leaf e m y, b, h => b < h ∧ ∃ A c, Box w b 79 (NodeC (-1) 0 none none e A m c) ∧ RatsV w A m c y ∧ ∀ j, j < m → QB K (y j)
  | .node v f x z, b, h => ∃ bx hx bz, b < bx ∧ TreeV K w x bx hx ∧ hx ≤ bz ∧ TreeV K w z bz h ∧ Box w b 79 (NodeC v f (some ⟨bx, 0, none⟩) (some ⟨bz, 0, none⟩) false none 0 0)
theorem TreeV.lt {K : Nat} {w : World} {t : BT} {b h : Nat} (k : TreeV K w t b h) : b < h := by
  induction t generalizing b h with
  | leaf e m y => exact k.1
  | node v f x z ihx ihz =>
    obtain ⟨bx, hx, bz, h1, h2, h3, h4, -⟩ := k
    have := ihx h2
    have := ihz h4
    omega
theorem TreeV.up {K : Nat} {w : World} {t : BT} {b h h' : Nat} (k : TreeV K w t b h) (e : h ≤ h') : TreeV K w t b h' := by
  induction t generalizing b h with
  | leaf _ m y => exact ⟨Nat.lt_of_lt_of_le k.1 e, k.2⟩
  | node v f x z ihx ihz =>
    obtain ⟨bx, hx, bz, h1, h2, h3, h4, h5⟩ := k
    exact ⟨bx, hx, bz, h1, h2, h3, ihz h4 e, h5⟩
theorem TreeV.fr {P : Nat → Prop} {K : Nat} {w w' : World} {t : BT} {b h : Nat} (k : TreeV K w t b h) (r : Fr P w w') (hn : ∀ k cs, w.heap[k]? = some (.cells cs 79 (0, 0)) → ¬ P k) (hr : ∀ b n f, RowR w b n f → ¬ P b) : TreeV K w' t b h := by
  induction t generalizing b h with
  | leaf _ m y =>
    obtain ⟨h1, A, c, h2, h3, h4⟩ := k
    exact ⟨h1, A, c, r.box h2 (hn _ _ h2), h3.fr r hr, h4⟩
  | node v f x z ihx ihz =>
    obtain ⟨bx, hx, bz, h1, h2, h3, h4, h5⟩ := k
    exact ⟨bx, hx, bz, h1, ihx h2, h3, ihz h4, r.box h5 (hn _ _ h5)⟩
theorem TreeV.ext {K : Nat} {w w' : World} {t : BT} {b h : Nat} (k : TreeV K w t b h) (r : Ext w w') : TreeV K w' t b h := k.fr (P := fun _ => False) (Fr.of r) (fun _ _ _ => id) (fun _ _ _ _ => id)

/-- block sb holds the state of a search -/
def SearchV (w : World) (sb L n : Nat) (s : BS) : Prop :=
  ∃ fo va A m c, Box w sb 153 #[.int .i64 (L : Int), .int .i64 (s.solved : Int), .bool fo, .int .i64 va, .slice A m c] ∧ (s.best = none → fo = false) ∧
    ∀ v x, s.best = some (v, x) → fo = true ∧ va = v ∧ fit v = true ∧ m = n ∧ c = n ∧ ∃ g, A = some ⟨g, 0, none⟩ ∧ Pts w g n x
theorem SearchV.ext {w w' : World} {sb L n : Nat} {s : BS} (h : SearchV w sb L n s) (k : Ext w w') : SearchV w' sb L n s := by
  obtain ⟨fo, va, A, m, c, h1, h2, h3⟩ := h
  refine ⟨fo, va, A, m, c, h1.ext k, h2, fun v x e => ?_⟩
  obtain ⟨a1, a2, a0, a3, a4, g, a5, a6⟩ := h3 v x e
  exact ⟨a1, a2, a0, a3, a4, g, a5, a6.ext k⟩
theorem ProbV.congr {w : World} {v : Value} {p q : Prob} (h : ProbV w v p) (hn : p.n = q.n) (hm : p.m = q.m) (ho : ∀ j, j < p.n → p.obj j = q.obj j) (hr : ∀ i, i < p.m → p.len i = q.len i ∧ p.rel i = q.rel i ∧ p.right i = q.right i ∧ ∀ j, j < p.len i → p.coef i j = q.coef i j) : ProbV w v q := by
  obtain ⟨Ao, co, Ar, cr, rfl, h1, h2, h3, h4⟩ := h
  refine ⟨Ao, co, Ar, cr, by rw [hn, hm], ?_, by omega, h3, fun hq => ?_⟩
  · rw [← hn]; exact h1.congr ho
  · obtain ⟨br, e, hrow⟩ := h4 (by omega)
    refine ⟨br, e, fun i hi => ?_⟩
    obtain ⟨Ac, cc, x, A, d, e', y, A', d', e'', g0, g1, g2, g3, g4, g5, k1, k2, k3⟩ := hrow i (by omega)
    obtain ⟨r1, r2, r3, r4⟩ := hr i (by omega)
    refine ⟨Ac, cc, x, A, d, e', y, A', d', e'', by rw [← r1]; exact g0, by rw [← r2]; exact g1, g2, g3, g4, g5, ?_, by rw [← r2]; exact k2, by rw [← r3]; exact k3⟩
    rw [← r1]; exact k1.congr r4
/-- a problem as lists -/
def Prob.toL (p : Prob) : PL := ⟨(List.range p.n).map p.obj, (List.range p.m).map fun i => ⟨(List.range (p.len i)).map (p.coef i), p.rel i, p.right i⟩⟩
theorem getD_range {α : Type} (f : Nat → α) (z : α) {n i : Nat} (h : i < n) : ((List.range n).map f).getD i z = f i := by
  rw [List.getD_eq_getElem?_getD, List.getElem?_map, List.getElem?_range h]; rfl
theorem Prob.toL_row (p : Prob) {i : Nat} (h : i < p.m) : p.toL.rows.getD i RL.zero = ⟨(List.range (p.len i)).map (p.coef i), p.rel i, p.right i⟩ := getD_range _ _ h
theorem ProbV.toL {w : World} {v : Value} {p : Prob} (h : ProbV w v p) : ProbV w v p.toL.toP := by
  refine h.congr (by show _ = ((List.range p.n).map p.obj).length; simp) (by show _ = ((List.range p.m).map _).length; simp) (fun j hj => (getD_range _ _ hj).symm) (fun i hi => ?_)
  show _ = (p.toL.rows.getD i RL.zero).coef.length ∧ _ = (p.toL.rows.getD i RL.zero).rel ∧ _ = (p.toL.rows.getD i RL.zero).right ∧ ∀ j, j < p.len i → p.coef i j = (p.toL.rows.getD i RL.zero).coef.getD j 0
  rw [p.toL_row hi]
  exact ⟨by simp, rfl, rfl, fun j hj => (getD_range _ _ hj).symm⟩
/-- the row that a branch adds -/
def branL (n v : Nat) (f : Int) (b : Bool) : RL := ⟨(List.range n).map (fun j => if j = v then 1 else 0), if b = true then 3 else 1, ((f + (if b = true then 1 else 0) : Int) : Rat)⟩
theorem ProbV.side {w : World} {x : Value} {p : Prob} {v : Nat} {f : Int} {b : Bool} (h : ProbV w x (⟨p.toL.obj, p.toL.rows ++ [branL p.n v f b]⟩ : PL).toP) : ProbV w x (p.side v f b) := by
  have hlm : p.toL.rows.length = p.m := by show ((List.range p.m).map _).length = _; simp
  have hln : p.toL.obj.length = p.n := by show ((List.range p.n).map _).length = _; simp
  refine h.congr hln (by show (p.toL.rows ++ [branL p.n v f b]).length = p.m + 1; rw [List.length_append, hlm]; rfl) (fun j hj => getD_range _ _ (by rw [← hln]; exact hj)) (fun i hi => ?_)
  have hi : i < (p.toL.rows ++ [branL p.n v f b]).length := hi
  rw [List.length_append, hlm] at hi
  have hi : i < p.m + 1 := hi
  show ((p.toL.rows ++ [branL p.n v f b]).getD i RL.zero).coef.length = (if i = p.m then p.n else p.len i) ∧ ((p.toL.rows ++ [branL p.n v f b]).getD i RL.zero).rel = (if i = p.m then (if b = true then 3 else 1) else p.rel i) ∧ ((p.toL.rows ++ [branL p.n v f b]).getD i RL.zero).right = (if i = p.m then ((f + (if b = true then 1 else 0) : Int) : Rat) else p.right i) ∧
    ∀ j, j < ((p.toL.rows ++ [branL p.n v f b]).getD i RL.zero).coef.length → ((p.toL.rows ++ [branL p.n v f b]).getD i RL.zero).coef.getD j 0 = (if i = p.m then (fun j => if j = v then 1 else 0) else p.coef i) j
  by_cases e : i = p.m
  · have hg : (p.toL.rows ++ [branL p.n v f b]).getD i RL.zero = branL p.n v f b := by
      rw [List.getD_eq_getElem?_getD, List.getElem?_append_right (by omega), hlm, e, Nat.sub_self]; rfl
    rw [hg, if_pos e, if_pos e, if_pos e, if_pos e]
    refine ⟨by show ((List.range p.n).map _).length = _; simp, rfl, rfl, fun j hj => getD_range _ _ ?_⟩
    have hj : j < ((List.range p.n).map fun j => if j = v then (1 : Rat) else 0).length := hj
    simpa using hj
  · have hg : (p.toL.rows ++ [branL p.n v f b]).getD i RL.zero = p.toL.rows.getD i RL.zero := by
      rw [List.getD_eq_getElem?_getD, List.getD_eq_getElem?_getD, List.getElem?_append_left (by omega)]
    rw [hg, p.toL_row (by omega), if_neg e, if_neg e, if_neg e, if_neg e]
    refine ⟨by simp, rfl, rfl, fun j hj => getD_range _ _ ?_⟩
    have hj : j < ((List.range (p.len i)).map (p.coef i)).length := hj
    simpa using hj
end Go.Proofs.YtljncdcjkdgkeaaGreatDoor.Lp
namespace Go.Proofs.YtljncdcjkdgkeaaGreatDoor.Lp
open Go.RowKit Go.Proofs.YtljncdcjkdgkeaaGreatDoor.Big Go.Proofs.YtljncdcjkdgkeaaGreatDoor.Rt

/-- problems of a search: numbers of few digits, not more than M rows -/
structure CanI (p : Prob) (k M K : Nat) : Prop where
  val : validB p = true
  n : p.n ≤ k
  m : p.m ≤ M
  lim : M ≤ 1000
  obj : ∀ j, j < p.n → QB 2 (p.obj j)
  coef : ∀ i, i < p.m → ∀ j, j < p.n → QB 2 (p.coef i j)
  right : ∀ i, i < p.m → QB 3 (p.right i)
  big : bK3 M k 2 3 2 ≤ K
  top : K ≤ 134217728
theorem CanI.bnd {p : Prob} {k M K : Nat} (h : CanI p k M K) : Bnd p K := by
  have hr := (validB_iff.1 h.val).vrel
  have h1 : bK3 p.m k 2 3 2 ≤ bK3 M k 2 3 2 := bK3_mono h.m (Nat.le_refl _) (Nat.le_refl _)
  have := h.big
  have := h.top
  exact (Bnd.of hr k 2 3 2 (.inl h.n) (by omega) (by omega) (by omega) (by omega) h.obj h.coef h.right).up (by omega) (by omega)
theorem CanI.vrel {p : Prob} {k M K : Nat} (h : CanI p k M K) : p.Vrel := (validB_iff.1 h.val).vrel
theorem fit_QB {f : Int} (h : fit f = true) (b : Bool) : QB 3 (((f + (if b = true then 1 else 0) : Int)) : Rat) := by
  obtain ⟨h1, h2⟩ := fit_iff.1 h
  refine ⟨?_, B_one (by omega)⟩
  show B 3 (f + (if b = true then 1 else 0))
  unfold B
  have : pw 3 = 79228162514264337593543950336 := by decide
  rw [this]
  split <;> omega
theorem CanI.side {p : Prob} {k M K : Nat} (h : CanI p k M K) (hm : p.m + 1 ≤ M) {v : Nat} {f : Int} (hf : fit f = true) (b : Bool) : CanI (p.side v f b) k M K := by
  obtain ⟨a1, a2, a3, a4⟩ := validB_iff.1 h.val
  have hM := h.lim
  refine ⟨validB_iff.2 ⟨a1, a2, ?_, fun i hi => ?_⟩, h.n, hm, h.lim, h.obj, fun i hi j hj => ?_, fun i hi => ?_, h.big, h.top⟩
  · show p.m + 1 ≤ 1000; omega
  · have hi : i < p.m + 1 := hi
    show (if i = p.m then p.n else p.len i) = p.n ∧ 1 ≤ (if i = p.m then (if b = true then 3 else 1) else p.rel i) ∧ (if i = p.m then (if b = true then 3 else 1) else p.rel i) ≤ 3
    by_cases e : i = p.m
    · rw [if_pos e, if_pos e]; refine ⟨rfl, ?_⟩; split <;> exact ⟨by omega, by omega⟩
    · rw [if_neg e, if_neg e]; exact a4 i (by omega)
  · have hi : i < p.m + 1 := hi
    show QB 2 ((if i = p.m then (fun j => if j = v then 1 else 0) else p.coef i) j)
    by_cases e : i = p.m
    · rw [if_pos e]
      show QB 2 (if j = v then 1 else 0)
      split
      · exact QB_one (by omega)
      · exact QB_zero (by omega)
    · rw [if_neg e]; exact h.coef i (by omega) j hj
  · have hi : i < p.m + 1 := hi
    show QB 3 (if i = p.m then ((f + (if b = true then 1 else 0) : Int) : Rat) else p.right i)
    by_cases e : i = p.m
    · rw [if_pos e]; exact fit_QB hf b
    · rw [if_neg e]; exact h.right i (by omega)
end Go.Proofs.YtljncdcjkdgkeaaGreatDoor.Lp
namespace Go.Proofs.YtljncdcjkdgkeaaGreatDoor.Lp
open Go.RowKit Go.Proofs.YtljncdcjkdgkeaaGreatDoor.Big Go.Proofs.YtljncdcjkdgkeaaGreatDoor.Rt

def CT.dep : CT → Nat
  | .nil => 0
  | .node _ _ _ _ _ a b => 1 + max a.dep b.dep
def CT.isNil : CT → Bool
  | .nil => true
  | .node .. => false
/-- well-formed -/
def CT.wf : CT → Bool
  | .nil => false
  | .node vr fl em n _ a b => if vr = -1 then decide (fl = 0) && (a.isNil && b.isNil) else decide (0 ≤ vr) && (decide (vr ≤ 9999) && (!em && (decide (n = 0) && (a.wf && b.wf))))
/-- the height; -1 for what is not well-formed -/
def CT.hgt : CT → Int
  | .nil => -1
  | .node vr fl em n _ a b => if vr = -1 then (if fl = 0 ∧ a.isNil = true ∧ b.isNil = true then 0 else -1) else if 0 ≤ vr ∧ vr ≤ 9999 ∧ em = false ∧ n = 0 then (if 0 ≤ a.hgt ∧ 0 ≤ b.hgt then max a.hgt b.hgt + 1 else -1) else -1
theorem CT.hgt_lo (t : CT) : -1 ≤ t.hgt := by
  cases t with
  | nil => exact Int.le_refl _
  | node vr fl em n y a b =>
    unfold CT.hgt
    split
    · split <;> omega
    · split
      · split
        · omega
        · omega
      · omega
theorem CT.hgt_hi (t : CT) : t.hgt < (t.dep : Int) := by
  induction t with
  | nil => show (-1 : Int) < ((0 : Nat) : Int); omega
  | node vr fl em n y a b iha ihb =>
    have e : (CT.node vr fl em n y a b).dep = 1 + max a.dep b.dep := rfl
    rw [e]
    unfold CT.hgt
    split
    · split <;> omega
    · split
      · split
        · omega
        · omega
      · omega
theorem CT.hgt_wf (t : CT) : 0 ≤ t.hgt ↔ t.wf = true := by
  induction t with
  | nil => exact ⟨fun h => absurd h (by decide), fun h => by cases h⟩
  | node vr fl em n y a b iha ihb =>
    unfold CT.hgt CT.wf
    by_cases h1 : vr = -1
    · rw [if_pos h1, if_pos h1]
      by_cases h2 : fl = 0 ∧ a.isNil = true ∧ b.isNil = true
      · rw [if_pos h2]; simp [h2]
      · rw [if_neg h2]
        simp only [Bool.and_eq_true, decide_eq_true_eq]
        exact ⟨fun h => absurd h (by decide), fun h => absurd h h2⟩
    · rw [if_neg h1, if_neg h1]
      simp only [Bool.and_eq_true, decide_eq_true_eq, Bool.not_eq_true', ← iha, ← ihb]
      by_cases h2 : 0 ≤ vr ∧ vr ≤ 9999 ∧ em = false ∧ n = 0
      · rw [if_pos h2]
        by_cases h3 : 0 ≤ a.hgt ∧ 0 ≤ b.hgt
        · rw [if_pos h3]
          exact ⟨fun _ => ⟨h2.1, h2.2.1, h2.2.2.1, h2.2.2.2, h3⟩, fun _ => by omega⟩
        · rw [if_neg h3]
          exact ⟨fun h => absurd h (by decide), fun h => absurd h.2.2.2.2 h3⟩
      · rw [if_neg h2]
        exact ⟨fun h => absurd h (by decide), fun h => absurd ⟨h.1, h.2.1, h.2.2.1, h.2.2.2.1⟩ h2⟩
/-- a column at each inner node, a multiplier for each row at each leaf -/
def CT.fit (n : Nat) : CT → Nat → Bool
  | .nil, _ => false
  | .node vr _ _ ny _ a b, m => if vr = -1 then decide (ny = m) else decide (vr < n) && (a.fit n (m + 1) && b.fit n (m + 1))
/-- floors are ints, multipliers are bounded -/
def CT.okY (K : Nat) : CT → Prop
  | .nil => True
  | .node _ fl _ n y a b => Lp.fit fl = true ∧ n ≤ 1000 ∧ (∀ j, j < n → QB K (y j)) ∧ a.okY K ∧ b.okY K
theorem sideC_valid {p : Prob} {k : Nat} {f : Int} {b : Bool} (h : validB p = true) (hm : p.m + 1 ≤ 1000) : validB (p.side k f b) = true := by
  obtain ⟨a1, a2, a3, a4⟩ := validB_iff.1 h
  refine validB_iff.2 ⟨a1, a2, ?_, fun i hi => ?_⟩
  · show p.m + 1 ≤ 1000; omega
  · have hi : i < p.m + 1 := hi
    show (if i = p.m then p.n else p.len i) = p.n ∧ 1 ≤ (if i = p.m then (if b = true then 3 else 1) else p.rel i) ∧ (if i = p.m then (if b = true then 3 else 1) else p.rel i) ≤ 3
    by_cases e : i = p.m
    · rw [if_pos e, if_pos e]; refine ⟨rfl, ?_⟩; split <;> exact ⟨by omega, by omega⟩
    · rw [if_neg e, if_neg e]; exact a4 i (by omega)
/-- bounds of a problem of a certificate -/
structure CanC (p : Prob) (M : Nat) : Prop where
  val : validB p = true
  n : p.n ≤ 6
  m : p.m ≤ M
  lim : M ≤ 300
  obj : ∀ j, j < p.n → QB 3 (p.obj j)
  coef : ∀ i, i < p.m → ∀ j, j < p.n → QB 3 (p.coef i j)
  right : ∀ i, i < p.m → QB 3 (p.right i)
theorem CanC.side {p : Prob} {M : Nat} (h : CanC p M) (hm : p.m + 1 ≤ M) {v : Nat} {f : Int} (hf : Lp.fit f = true) (b : Bool) : CanC (p.side v f b) M := by
  have hl := h.lim
  refine ⟨sideC_valid h.val (by omega), h.n, hm, h.lim, h.obj, fun i hi j hj => ?_, fun i hi => ?_⟩
  · have hi : i < p.m + 1 := hi
    show QB 3 ((if i = p.m then (fun j => if j = v then 1 else 0) else p.coef i) j)
    by_cases e : i = p.m
    · rw [if_pos e]
      show QB 3 (if j = v then (1 : Rat) else 0)
      split
      · exact QB_one (by omega)
      · exact QB_zero (by omega)
    · rw [if_neg e]; exact h.coef i (by omega) j hj
  · have hi : i < p.m + 1 := hi
    show QB 3 (if i = p.m then ((f + (if b = true then 1 else 0) : Int) : Rat) else p.right i)
    by_cases e : i = p.m
    · rw [if_pos e]; exact fit_QB hf b
    · rw [if_neg e]; exact h.right i (by omega)
end Go.Proofs.YtljncdcjkdgkeaaGreatDoor.Lp
namespace Go.Proofs.YtljncdcjkdgkeaaGreatDoor.Big
open Go.RowKit

def keyP (k : Nat) : Value := .pointer (some ⟨k, 0, none⟩)
/-- block r is a map with these keys and values -/
def PMap (w : World) (r : Nat) (S : List (Nat × Value)) : Prop :=
  ∃ es clock, w.heap[r]? = some (.map es clock) ∧ es.toList.map (fun e => (e.key, e.val)) = S.map fun p => (keyP p.1, p.2)
def CellsB (w : World) (k : Nat) : Prop := ∃ cs E, w.heap[k]? = some (.cells cs E (0, 0))
def pfind (k : Nat) : List (Nat × Value) → Option (Nat × Value)
  | [] => none
  | p :: S => if p.1 = k then some (0, p.2) else (pfind k S).map fun q => (q.1 + 1, q.2)
/-- a world in which block r alone is another map -/
def MapTo (r : Nat) (w w' : World) : Prop := (∃ es c, w.heap[r]? = some (.map es c)) ∧ ∃ es c, w' = mapWorld w r es c
section
variable {P : Program} {w w' : World} {mt kt et pt : TypeId} {r : Nat} {S : List (Nat × Value)} {j : TypeInfo}
theorem MapTo.far (h : MapTo r w w') {k : Nat} (hk : k ≠ r) : w'.heap[k]? = w.heap[k]? := by
  obtain ⟨⟨es, c, h1⟩, es', c', rfl⟩ := h
  exact mapWorld_far h1 es' c' hk
theorem MapTo.size (h : MapTo r w w') : w'.heap.size = w.heap.size := by
  obtain ⟨⟨es, c, h1⟩, es', c', rfl⟩ := h
  simp [mapWorld]
theorem MapTo.ext {a : World} (h : MapTo r w w') (k : Ext a w) (hr : a.heap.size ≤ r) : Ext a w' := by
  have hs := h.size
  have hf := fun i => h.far (k := i)
  obtain ⟨⟨es, c, h1⟩, es', c', rfl⟩ := h
  exact ⟨k.os, k.tape, k.output, by have := k.size; omega, fun i hi => (hf i (by omega)).trans (Below.block k i hi)⟩
theorem MapTo.box (h : MapTo r w w') {b : Nat} {E : TypeId} {cs : Array Value} (hb : Box w b E cs) : Box w' b E cs := by
  have hne : b ≠ r := by
    rintro rfl
    obtain ⟨⟨es, c, h1⟩, -⟩ := h
    unfold Box at hb
    rw [hb] at h1; cases h1
  exact (h.far hne).trans hb
theorem MapTo.cells (h : MapTo r w w') {b : Nat} (hb : CellsB w b) : CellsB w' b := by
  obtain ⟨cs, E, hb⟩ := hb
  exact ⟨cs, E, h.box (E := E) (cs := cs) hb⟩
theorem PMap.lt (h : PMap w r S) : r < w.heap.size := by
  obtain ⟨es, c, h1, -⟩ := h
  rcases Nat.lt_or_ge r w.heap.size with h' | h'
  · exact h'
  · rw [Array.getElem?_eq_none h'] at h1; cases h1
theorem PMap.ext (h : PMap w r S) (k : Ext w w') : PMap w' r S := by
  have hl := h.lt
  obtain ⟨es, c, h1, h2⟩ := h
  exact ⟨es, c, (Below.block k r hl).trans h1, h2⟩
theorem PMap.new (w : World) : PMap (w.alloc (.map #[] 0)) w.heap.size [] := ⟨#[], 0, heap_alloc_new w _, rfl⟩
theorem PMap.nobox (h : PMap w r S) {b : Nat} {E : TypeId} {cs : Array Value} (hb : Box w b E cs) : b ≠ r := by
  rintro rfl
  obtain ⟨es, c, h1, -⟩ := h
  unfold Box at hb
  rw [hb] at h1; cases h1
theorem CellsB.ext {k : Nat} (h : CellsB w k) (x : Ext w w') : CellsB w' k := by
  obtain ⟨cs, E, h1⟩ := h
  exact ⟨cs, E, Box.ext (E := E) (cs := cs) h1 x⟩
theorem run_equal_ptrs (hk : P.underlying kt = some (.pointer pt)) (hj : P.info? pt = some j) (hsz : j.size ≠ 0) {a b : Nat} (ha : CellsB w a) (hb : CellsB w b) : (Op.equal kt (keyP a) (keyP b)).run P w = .ok (decide (b = a)) w := by
  unfold keyP
  by_cases e : b = a
  · subst e
    rw [run_equal_ptr hk hj]; simp
  · obtain ⟨ca, ta, ha⟩ := ha
    obtain ⟨cb, tb, hb⟩ := hb
    have hne : (⟨a, 0, none⟩ : Addr) ≠ ⟨b, 0, none⟩ := fun h => e (by injection h with h; exact h.symm)
    have h : ∀ d : Nat, (Op.equalIn (d + 1) kt (.pointer (some ⟨a, 0, none⟩)) (.pointer (some ⟨b, 0, none⟩))).run P w = .ok false w := fun d => by
      simp [Op.equalIn, run_underlying hk, sizeOf, typeInfo, hj, hsz, run_sameAddr_other w hne ha hb]
    simp [Op.equal, Op.maxDepth, h 9999, e]
theorem run_findAsking_p (hk : P.underlying kt = some (.pointer pt)) (hj : P.info? pt = some j) (hsz : j.size ≠ 0) (k : Nat) (hkB : CellsB w k) (es : List MapEntry) (S : List (Nat × Value)) (i : Nat) (h : es.map (fun e => (e.key, e.val)) = S.map fun p => (keyP p.1, p.2)) (hS : ∀ p ∈ S, CellsB w p.1) :
    (Instr.findAsking kt (keyP k) es i).run P w = .ok ((pfind k S).map fun q => (i + q.1, q.2)) w := by
  induction es generalizing S i with
  | nil =>
    cases S with
    | nil => simp [Instr.findAsking, pfind]
    | cons p S => simp at h
  | cons e es ih =>
    cases S with
    | nil => simp at h
    | cons p S =>
      simp only [List.map_cons, List.cons.injEq, Prod.mk.injEq] at h
      obtain ⟨⟨h1, h2⟩, h3⟩ := h
      have he := run_equal_ptrs (P := P) (w := w) hk hj hsz hkB (hS p (by simp))
      have hi := ih S (i + 1) h3 (fun q hq => hS q (by simp [hq]))
      unfold pfind
      by_cases e1 : p.1 = k
      · rw [e1] at he h1
        simp only [decide_true] at he
        simp [Instr.findAsking, h1, h2, he, e1]
      · rw [decide_eq_false e1] at he
        rw [if_neg e1]
        simp only [Instr.findAsking, h1, Sem.run_bind, he, Result.andThen, Bool.false_eq_true, if_false, hi]
        congr 1
        cases pfind k S with
        | none => rfl
        | some q => simp; omega
theorem run_findKey_p (hk : P.underlying kt = some (.pointer pt)) (hj : P.info? pt = some j) (hsz : j.size ≠ 0) (k : Nat) (hkB : CellsB w k) (es : List MapEntry) (S : List (Nat × Value)) (h : es.map (fun e => (e.key, e.val)) = S.map fun p => (keyP p.1, p.2)) (hS : ∀ p ∈ S, CellsB w p.1) :
    (Instr.findKey kt (keyP k) es).run P w = .ok (pfind k S) w := by
  cases es with
  | nil =>
    cases S with
    | nil => exact run_findKey_empty hk _
    | cons p S => simp at h
  | cons e es =>
    cases S with
    | nil => simp at h
    | cons p S =>
      have hf := run_findAsking_p hk hj hsz k hkB (e :: es) (p :: S) 0 h hS
      have he : e.key = keyP p.1 := by
        simp only [List.map_cons, List.cons.injEq, Prod.mk.injEq] at h
        exact h.1.1
      have hn : Instr.findNow (.pointer pt) (keyP k) (e :: es) 0 = none := by
        simp [Instr.findNow, he, keyP, Instr.sameNow]
      simp only [Nat.zero_add] at hf
      have hid : ((pfind k (p :: S)).map fun q => (q.1, q.2)) = pfind k (p :: S) := by cases pfind k (p :: S) <;> rfl
      rw [hid] at hf
      simp only [Instr.findKey, Sem.run_bind, run_underlying hk, Result.andThen, hn]
      exact hf
theorem run_lookup_p {z : Value} (hm : P.underlying mt = some (.map kt et)) (hk : P.underlying kt = some (.pointer pt)) (hj : P.info? pt = some j) (hsz : j.size ≠ 0) (hb : PMap w r S) (hS : ∀ p ∈ S, CellsB w p.1) (k : Nat) (hkB : CellsB w k) (hz : (zeroValue et).run P w = .ok z w) :
    (∀ ok, (Instr.lookup mt (.map (some r)) (.pointer (some ⟨k, 0, none⟩)) ok).run P w = .ok (match pfind k S with | some q => (if ok then .tuple #[q.2, .bool true] else q.2) | none => (if ok then .tuple #[z, .bool false] else z)) w) := by
  intro ok
  obtain ⟨es, c, h1, h2⟩ := hb
  have hf := run_findKey_p hk hj hsz k hkB es.toList S h2 hS
  unfold keyP at hf
  cases e : pfind k S with
  | none =>
    rw [e] at hf
    cases ok <;> simp [Instr.lookup, run_underlying hm, Result.andThen, MapKept.run_getObj_map h1, run_checkKey_ptr (n := 9999) hk, hf, hz]
  | some q =>
    rw [e] at hf
    cases ok <;> simp [Instr.lookup, run_underlying hm, Result.andThen, MapKept.run_getObj_map h1, run_checkKey_ptr (n := 9999) hk, hf]
theorem pfind_none_iff {k : Nat} {S : List (Nat × Value)} : pfind k S = none ↔ ∀ p ∈ S, p.1 ≠ k := by
  induction S with
  | nil => simp [pfind]
  | cons p S ih =>
    unfold pfind
    by_cases e : p.1 = k
    · simp [e]
    · simp [e, ih]
/-- a key that is not there -/
theorem run_update_new (hm : P.underlying mt = some (.map kt et)) (hk : P.underlying kt = some (.pointer pt)) (hj : P.info? pt = some j) (hsz : j.size ≠ 0) (hb : PMap w r S) (hS : ∀ p ∈ S, CellsB w p.1) (k : Nat) (hkB : CellsB w k) (hno : ∀ p ∈ S, p.1 ≠ k) (v : Value) :
    ∃ w', (Instr.mapUpdate mt (.map (some r)) (.pointer (some ⟨k, 0, none⟩)) v).run P w = .ok () w' ∧ PMap w' r (S ++ [(k, v)]) ∧ MapTo r w w' := by
  obtain ⟨es, c, h1, h2⟩ := hb
  have hf := run_findKey_p hk hj hsz k hkB es.toList S h2 hS
  rw [pfind_none_iff.2 hno] at hf
  unfold keyP at hf
  refine ⟨mapWorld w r (es.push { key := keyP k, val := v, born := c }) (c + 1), ?_, ⟨_, _, mapWorld_map h1 _ _, ?_⟩, ⟨⟨es, c, h1⟩, _, _, rfl⟩⟩
  · simp [Instr.mapUpdate, run_underlying hm, Result.andThen, MapKept.run_getObj_map h1, run_checkKey_ptr (n := 9999) hk, hf, MapKept.run_setObj_map _ h1, mapWorld, keyP]
  · simp [h2]
/-- a key that is there: the last one -/
theorem run_update_at (hm : P.underlying mt = some (.map kt et)) (hk : P.underlying kt = some (.pointer pt)) (hj : P.info? pt = some j) (hsz : j.size ≠ 0) (k : Nat) (A B : List (Nat × Value)) (v0 : Value) (hb : PMap w r (A ++ (k, v0) :: B)) (hS : ∀ p ∈ A ++ (k, v0) :: B, CellsB w p.1) (hno : ∀ p ∈ A, p.1 ≠ k) (v : Value) :
    ∃ w', (Instr.mapUpdate mt (.map (some r)) (.pointer (some ⟨k, 0, none⟩)) v).run P w = .ok () w' ∧ PMap w' r (A ++ (k, v) :: B) ∧ MapTo r w w' := by
  obtain ⟨es, c, h1, h2⟩ := hb
  have hf := run_findKey_p hk hj hsz k (hS (k, v0) (by simp)) es.toList _ h2 hS
  have hp : pfind k (A ++ (k, v0) :: B) = some (A.length, v0) := by
    clear hS h2 hf
    induction A with
    | nil => simp [pfind]
    | cons p A ih =>
      have h0 : p.1 ≠ k := hno p (by simp)
      simp [pfind, h0, ih (fun q hq => hno q (by simp [hq]))]
  rw [hp] at hf
  unfold keyP at hf
  have hat : es[A.length]? = some { key := keyP k, val := v0, born := ((es[A.length]?).map (·.born)).getD 0 } := by
    have h3 : (es.toList.map (fun e => (e.key, e.val)))[A.length]? = some (keyP k, v0) := by rw [h2]; simp
    rw [List.getElem?_map, Array.getElem?_toList] at h3
    cases e : es[A.length]? with
    | none => rw [e] at h3; cases h3
    | some x =>
      rw [e] at h3
      simp only [Option.map_some, Option.some.injEq, Prod.mk.injEq] at h3
      simp [← h3.1, ← h3.2]
  have hs : (Instr.keyThatStays (keyP k) (.pointer (some ⟨k, 0, none⟩))).run P w = .ok (.pointer (some ⟨k, 0, none⟩)) w := by
    simp [Instr.keyThatStays, Instr.sameBits, keyP]
  have hkey : ((es[A.length]?).map (·.key)).getD (.pointer (some ⟨k, 0, none⟩)) = keyP k := by rw [hat]; rfl
  refine ⟨mapWorld w r (es.modify A.length fun e => { e with key := .pointer (some ⟨k, 0, none⟩), val := v }) c, ?_, ⟨_, _, mapWorld_map h1 _ _, ?_⟩, ⟨⟨es, c, h1⟩, _, _, rfl⟩⟩
  · simp [Instr.mapUpdate, run_underlying hm, Result.andThen, MapKept.run_getObj_map h1, run_checkKey_ptr (n := 9999) hk, hf, hkey, hs, MapKept.run_setObj_map _ h1, mapWorld]
  · apply List.ext_getElem?
    intro i
    have h3 := congrArg (fun l : List (Value × Value) => l[i]?) h2
    simp only [List.getElem?_map, Array.getElem?_toList] at h3
    simp only [List.getElem?_map, Array.getElem?_toList, Array.getElem?_modify]
    by_cases e : A.length = i
    · subst e
      rw [if_pos rfl, hat]
      simp [keyP]
    · rw [if_neg e]
      have hg : (A ++ (k, v0) :: B)[i]? = (A ++ (k, v) :: B)[i]? := by
        rcases Nat.lt_or_ge i A.length with hl | hg
        · rw [List.getElem?_append_left hl, List.getElem?_append_left hl]
        · rw [List.getElem?_append_right hg, List.getElem?_append_right hg]
          obtain ⟨d, hd⟩ : ∃ d, i - A.length = d + 1 := ⟨i - A.length - 1, by omega⟩
          rw [hd]; rfl
      rw [← hg]
      cases e2 : es[i]? with
      | none => rw [e2] at h3; simpa using h3
      | some x => rw [e2] at h3; simpa using h3
end
end Go.Proofs.YtljncdcjkdgkeaaGreatDoor.Big
namespace Go.Proofs.YtljncdcjkdgkeaaGreatDoor.Lp
open Go.RowKit Go.Proofs.YtljncdcjkdgkeaaGreatDoor.Big Go.Proofs.YtljncdcjkdgkeaaGreatDoor.Rt

theorem MapTo.frC {r : Nat} {w w' : World} (h : MapTo r w w') {P : Nat → Prop} (hP : P r) : Fr P w w' := by
  have hs := h.size
  have hf := fun i => h.far (k := i)
  obtain ⟨⟨es, c, h1⟩, es', c', rfl⟩ := h
  refine ⟨rfl, rfl, rfl, by omega, fun k hk hne => hf k (fun e => hne (e ▸ hP)), fun b i z hz => ?_⟩
  by_cases e : b = r
  · subst e
    unfold World.cell? at hz
    rw [h1] at hz
    cases hz
  · exact (World.cell?_of_block (a := ⟨b, i, none⟩) (hf b e)).trans hz
theorem Fr.cellsC {P : Nat → Prop} {w w' : World} (h : Fr P w w') {k : Nat} (hk : CellsB w k) (hn : ¬ P k) : CellsB w' k := by
  obtain ⟨cs, E, h1⟩ := hk
  exact ⟨cs, E, h.row hn h1⟩
theorem PMap_cellsC {w : World} {r : Nat} {S : List (Nat × Value)} (h : PMap w r S) {k : Nat} (hk : CellsB w k) : k ≠ r := by
  obtain ⟨cs, E, h1⟩ := hk
  exact h.nobox (E := E) (cs := cs) h1
theorem pfind_ltC {k : Nat} {S : List (Nat × Value)} (h : ∀ p ∈ S, p.1 < k) : pfind k S = none := pfind_none_iff.2 fun p hp e => by have := h p hp; omega
theorem pfind_atC {k : Nat} {S B : List (Nat × Value)} {v : Value} (h : ∀ p ∈ S, p.1 < k) : pfind k (S ++ (k, v) :: B) = some (S.length, v) := by
  induction S with
  | nil => simp [pfind]
  | cons p S ih =>
    have h0 : p.1 ≠ k := by have := h p (by simp); omega
    simp [pfind, h0, ih (fun q hq => h q (by simp [hq]))]
theorem zeroNC (w : World) : (zeroValue 3).run Tryz.prog w = .ok (.int .i64 0) w := by kernel_rfl
theorem infoNdC : (Tryz.prog.info? 79).map (·.size) = some 6 := by kernel_rfl
/-- a place of a walk: a node and its level -/
def plK (p : Nat × Int) : Value := .agg #[.pointer (some ⟨p.1, 0, none⟩), .int .i64 p.2]
/-- block r is a map with these places as keys -/
def QMap (w : World) (r : Nat) (S : List (Nat × Int)) : Prop := ∃ es clock, w.heap[r]? = some (.map es clock) ∧ es.toList.map (fun e => e.key) = S.map plK
theorem QMap.lt {w : World} {r : Nat} {S : List (Nat × Int)} (h : QMap w r S) : r < w.heap.size := by
  obtain ⟨es, c, h1, -⟩ := h
  rcases Nat.lt_or_ge r w.heap.size with h' | h'
  · exact h'
  · rw [Array.getElem?_eq_none h'] at h1; cases h1
theorem QMap.ext {w w' : World} {r : Nat} {S : List (Nat × Int)} (h : QMap w r S) (k : Ext w w') : QMap w' r S := by
  have hl := h.lt
  obtain ⟨es, c, h1, h2⟩ := h
  exact ⟨es, c, (Below.block k r hl).trans h1, h2⟩
theorem QMap.nobox {w : World} {r : Nat} {S : List (Nat × Int)} (h : QMap w r S) {b : Nat} {E : TypeId} {cs : Array Value} (hb : Box w b E cs) : b ≠ r := by
  rintro rfl
  obtain ⟨es, c, h1, -⟩ := h
  unfold Box at hb
  rw [hb] at h1; cases h1
theorem QMap.cells {w : World} {r : Nat} {S : List (Nat × Int)} (h : QMap w r S) {k : Nat} (hk : CellsB w k) : k ≠ r := by
  obtain ⟨cs, E, h1⟩ := hk
  exact h.nobox (E := E) (cs := cs) h1
end Go.Proofs.YtljncdcjkdgkeaaGreatDoor.Lp
namespace Go.Proofs.YtljncdcjkdgkeaaGreatDoor.Lp
open Go.RowKit Go.Proofs.YtljncdcjkdgkeaaGreatDoor.Big Go.Proofs.YtljncdcjkdgkeaaGreatDoor.Rt

theorem RatsO.frG {P : Nat → Prop} {w w' : World} {lo : Nat} {A : Option Addr} {n c : Nat} {f : Nat → Rat} (x : RatsO w lo A n c f) (k : Fr P w w') (hP : ∀ k, CellsB w k → ¬ P k) : RatsO w' lo A n c f :=
  ⟨x.1, x.2.1, fun hn => by
    obtain ⟨b, e, hr, hb⟩ := x.2.2 hn
    have hr' := hr
    obtain ⟨cs, h1, -⟩ := hr
    exact ⟨b, e, hr'.fr k (hP b ⟨cs, _, h1⟩), hb⟩⟩
theorem TreeI.frG {P : Nat → Prop} {w w' : World} : ∀ {t : CT} {A : Option Addr} {b h : Nat}, TreeI w t A b h → Fr P w w' → (∀ k, CellsB w k → ¬ P k) → TreeI w' t A b h
  | .nil, _, _, _, x, _, _ => x
  | .node .., _, _, _, x, f, hP => by
    obtain ⟨k, L, H, Y, c, m1, m2, e, h1, h2, B, hY, hl, hh⟩ := x
    exact ⟨k, L, H, Y, c, m1, m2, e, h1, h2, f.box B (hP k ⟨_, _, B⟩), ⟨hY.1.frG f hP, hY.2⟩, TreeI.frG hl f hP, TreeI.frG hh f hP⟩
def hgK (hb fb : Nat) : Value := .func (.func 67) #[] #[.pointer (some ⟨hb, 0, none⟩), .pointer (some ⟨fb, 0, none⟩)]
/-- the map's block -/
def PM (mb k : Nat) : Prop := k = mb
def HgPost (mb : Nat) (S : List (Nat × Value)) (z : Int) (b h : Nat) (w : World) (e : Ending) (w' : World) : Prop :=
  e = .returned (.int .i64 z) ∧ (∃ N, PMap w' mb (S ++ N) ∧ ∀ p ∈ N, b ≤ p.1 ∧ p.1 < h ∧ CellsB w' p.1) ∧ Fr (PM mb) w w'
theorem HgPost.up {mb : Nat} {S : List (Nat × Value)} {z : Int} {b b' h h' : Nat} {w w' : World} {e : Ending} (k : HgPost mb S z b h w e w') (h1 : b' ≤ b) (h2 : h ≤ h') : HgPost mb S z b' h' w e w' := by
  obtain ⟨k1, ⟨N, k3, k4⟩, k5⟩ := k
  exact ⟨k1, ⟨N, k3, fun p hp => ⟨Nat.le_trans h1 (k4 p hp).1, Nat.lt_of_lt_of_le (k4 p hp).2.1 h2, (k4 p hp).2.2⟩⟩, k5⟩
/-- a leaf, or what is wrong at once -/
theorem hg_stop (mb k b h : Nat) (S : List (Nat × Value)) (w w' : World) (z : Int) (v : Value) (hF : Fr (PM mb) w w') (hM : PMap w' mb (S ++ [(k, v)])) (hk : b ≤ k) (hkh : k < h) (hkB : CellsB w' k) : HgPost mb S z b h w (.returned (.int .i64 z)) w' :=
  ⟨rfl, ⟨[(k, v)], hM, fun p hp => by obtain rfl := List.mem_singleton.1 hp; exact ⟨hk, hkh, hkB⟩⟩, hF⟩
set_option maxHeartbeats 2000000 in
set_option maxRecDepth 100000 in
theorem height_lf (mb hb fb k b h lev : Nat) (w : World) (S : List (Nat × Value)) (fl : Int) (em : Bool) (L H Y : Option Addr) (n c : Nat) (B : Bool) (hB : B = true ↔ fl = 0 ∧ L = none ∧ H = none) (hL : ∀ a, L = some a → ∃ x, a = ⟨x, 0, none⟩) (hH : ∀ a, H = some a → ∃ x, a = ⟨x, 0, none⟩)
    (NB : Box w k 79 (NodeC (-1) fl L H em Y n c)) (HB : Box w hb 131 #[.map (some mb)]) (FB : Box w fb 132 #[hgK hb fb]) (hM : PMap w mb S) (hS : ∀ p ∈ S, p.1 < k ∧ CellsB w p.1) (hk : b ≤ k) (hkh : k < h) (hl : lev ≤ 199) :
    Calls Tryz.prog 67 #[.pointer (some ⟨k, 0, none⟩), .int .i64 (lev : Int), .pointer (some ⟨hb, 0, none⟩), .pointer (some ⟨fb, 0, none⟩)] w (HgPost mb S (if B = true then 0 else -1) b h w) := by
  obtain ⟨vr, hvr⟩ : ∃ v : Int, v = -1 := ⟨_, rfl⟩
  rw [← hvr] at NB
  obtain ⟨j, hj, hsz⟩ := Option.map_eq_some_iff.1 infoNdC
  have hsz : j.size ≠ 0 := by omega
  have hnl : ∀ W x, (binOp BinOp.eql 25 (.pointer (some ⟨x, 0, none⟩)) (.pointer none)).run Tryz.prog W = .ok (.bool false) W := fun _ _ => by kernel_rfl
  have hnn : ∀ W, (binOp BinOp.eql 25 (.pointer none) (.pointer none)).run Tryz.prog W = .ok (.bool true) W := fun _ => by kernel_rfl
  have hkB : CellsB w k := ⟨_, _, NB⟩
  have e1 : decide ((200 : Int) < (lev : Int)) = false := by simp; omega
  have hl1 := run_lookup_p (P := Tryz.prog) (mt := 131) Tryz.underlying131 Tryz.underlying25 hj hsz hM (fun p hp => (hS p hp).2) k hkB (zeroNC w) true
  rw [pfind_ltC (fun p hp => (hS p hp).1)] at hl1
  simp only [if_true] at hl1
  obtain ⟨w1, hu1, hM1, hm1⟩ := run_update_new (P := Tryz.prog) (mt := 131) Tryz.underlying131 Tryz.underlying25 hj hsz hM (fun p hp => (hS p hp).2) k hkB (fun p hp e => by have := (hS p hp).1; omega) (.int .i64 (-1))
  have s0 := HB.c0
  have hhb : hb ≠ mb := hM.nobox HB
  have hfb : fb ≠ mb := hM.nobox FB
  have hnb : k ≠ mb := hM.nobox NB
  have HB1 := hm1.box HB
  have FB1 := hm1.box FB
  have NB1 := hm1.box NB
  have hF1 : Fr (PM mb) w w1 := MapTo.frC hm1 rfl
  have hkB1 := hm1.cells hkB
  have HSS : Hid (∀ p ∈ S, p.1 < k ∧ CellsB w p.1) := Lib.hid hS
  have HS1 : Hid (∀ p ∈ S, CellsB w1 p.1) := Lib.hid (fun p hp => hm1.cells (hS p hp).2)
  have s1 := HB1.c0
  have t0 : w1.cell? ⟨k, 0, none⟩ = some (.int .i64 vr) := NB1.cell 0
  subst hvr
  have t1 : w1.cell? ⟨k, 1, none⟩ = some (.int .i64 fl) := NB1.cell 1
  have t2 : w1.cell? ⟨k, 2, none⟩ = some (.pointer L) := NB1.cell 2
  have t3 : w1.cell? ⟨k, 3, none⟩ = some (.pointer H) := NB1.cell 3
  have hl2 := run_lookup_p (P := Tryz.prog) (mt := 131) Tryz.underlying131 Tryz.underlying25 hj hsz hM1 (fun p hp => by
    rcases List.mem_append.1 hp with q | q
    · exact HS1.out p q
    · obtain rfl := List.mem_singleton.1 q
      exact hkB1) k hkB1 (zeroNC w1) false
  rw [pfind_atC (fun p hp => (HSS.out p hp).1)] at hl2
  simp only [Bool.false_eq_true, if_false] at hl2
  clear hm1
  cases B with
  | true =>
    obtain ⟨rfl, rfl, rfl⟩ := hB.1 rfl
    obtain ⟨w2, hu2, hM2, hm2⟩ := run_update_at (P := Tryz.prog) (mt := 131) Tryz.underlying131 Tryz.underlying25 hj hsz k S [] (.int .i64 (-1)) hM1 (fun p hp => by
      rcases List.mem_append.1 hp with q | q
      · exact HS1.out p q
      · obtain rfl := List.mem_singleton.1 q
        exact hkB1) (fun p hp e => by have := (HSS.out p hp).1; omega) (.int .i64 0)
    have hl3 := run_lookup_p (P := Tryz.prog) (mt := 131) Tryz.underlying131 Tryz.underlying25 hj hsz hM2 (fun p hp => by
      rcases List.mem_append.1 hp with q | q
      · exact hm2.cells (HS1.out p q)
      · obtain rfl := List.mem_singleton.1 q
        exact hm2.cells hkB1) k (hm2.cells hkB1) (zeroNC w2) false
    rw [pfind_atC (fun p hp => (HSS.out p hp).1)] at hl3
    simp only [Bool.false_eq_true, if_false] at hl3
    have s2 := (hm2.box HB1).c0
    have hF2 := hF1.trans (MapTo.frC hm2 (P := PM mb) rfl)
    have hkB2 := hm2.cells hkB1
    clear hm2 hl2 hS
    go_enter Tryz.func67, Tryz.ntmps67
    go_wp2_with fail
    go_ret
    exact hg_stop mb k b h S w w2 0 (.int .i64 0) hF2 hM2 hk hkh hkB2
  | false =>
    have hno : fl = 0 → L = none → H = none → False := fun a1 a2 a3 => by have := hB.2 ⟨a1, a2, a3⟩; cases this
    have hend := hg_stop mb k b h S w w1 (-1) (.int .i64 (-1)) hF1 hM1 hk hkh hkB1
    clear hS
    by_cases hf : fl = 0
    · subst hf
      rcases L with _ | a
      · rcases H with _ | a
        · exact absurd (hno rfl rfl rfl) id
        · obtain ⟨x, rfl⟩ := hH a rfl
          go_enter Tryz.func67, Tryz.ntmps67
          go_wp2_with fail
          go_ret
          exact hend
      · obtain ⟨x, rfl⟩ := hL a rfl
        go_enter Tryz.func67, Tryz.ntmps67
        go_wp2_with fail
        go_ret
        exact hend
    · have e2 : (fl == 0) = false := by simpa using hf
      go_enter Tryz.func67, Tryz.ntmps67
      go_wp2_with fail
      go_ret
      exact hend
/-- an inner node that is wrong at once -/
theorem height_no (mb hb fb k b h lev : Nat) (w : World) (S : List (Nat × Value)) (vr fl : Int) (em : Bool) (L H Y : Option Addr) (n c : Nat) (hv : vr ≠ -1) (hno : ¬ (0 ≤ vr ∧ vr ≤ 9999 ∧ em = false ∧ n = 0))
    (NB : Box w k 79 (NodeC vr fl L H em Y n c)) (HB : Box w hb 131 #[.map (some mb)]) (FB : Box w fb 132 #[hgK hb fb]) (hM : PMap w mb S) (hS : ∀ p ∈ S, p.1 < k ∧ CellsB w p.1) (hk : b ≤ k) (hkh : k < h) (hl : lev ≤ 199) :
    Calls Tryz.prog 67 #[.pointer (some ⟨k, 0, none⟩), .int .i64 (lev : Int), .pointer (some ⟨hb, 0, none⟩), .pointer (some ⟨fb, 0, none⟩)] w (HgPost mb S (-1) b h w) := by
  obtain ⟨j, hj, hsz⟩ := Option.map_eq_some_iff.1 infoNdC
  have hsz : j.size ≠ 0 := by omega
  have hnl : ∀ W x, (binOp BinOp.eql 25 (.pointer (some ⟨x, 0, none⟩)) (.pointer none)).run Tryz.prog W = .ok (.bool false) W := fun _ _ => by kernel_rfl
  have hnn : ∀ W, (binOp BinOp.eql 25 (.pointer none) (.pointer none)).run Tryz.prog W = .ok (.bool true) W := fun _ => by kernel_rfl
  have hkB : CellsB w k := ⟨_, _, NB⟩
  have e1 : decide ((200 : Int) < (lev : Int)) = false := by simp; omega
  have hl1 := run_lookup_p (P := Tryz.prog) (mt := 131) Tryz.underlying131 Tryz.underlying25 hj hsz hM (fun p hp => (hS p hp).2) k hkB (zeroNC w) true
  rw [pfind_ltC (fun p hp => (hS p hp).1)] at hl1
  simp only [if_true] at hl1
  obtain ⟨w1, hu1, hM1, hm1⟩ := run_update_new (P := Tryz.prog) (mt := 131) Tryz.underlying131 Tryz.underlying25 hj hsz hM (fun p hp => (hS p hp).2) k hkB (fun p hp e => by have := (hS p hp).1; omega) (.int .i64 (-1))
  have s0 := HB.c0
  have hhb : hb ≠ mb := hM.nobox HB
  have hfb : fb ≠ mb := hM.nobox FB
  have hnb : k ≠ mb := hM.nobox NB
  have HB1 := hm1.box HB
  have FB1 := hm1.box FB
  have NB1 := hm1.box NB
  have hF1 : Fr (PM mb) w w1 := MapTo.frC hm1 rfl
  have hkB1 := hm1.cells hkB
  have HSS : Hid (∀ p ∈ S, p.1 < k ∧ CellsB w p.1) := Lib.hid hS
  have HS1 : Hid (∀ p ∈ S, CellsB w1 p.1) := Lib.hid (fun p hp => hm1.cells (hS p hp).2)
  have s1 := HB1.c0
  have t0 : w1.cell? ⟨k, 0, none⟩ = some (.int .i64 vr) := NB1.cell 0
  have e3 : (vr == -1) = false := by simpa using hv
  have t4 : w1.cell? ⟨k, 4, none⟩ = some (.bool em) := NB1.cell 4
  have t5 : w1.cell? ⟨k, 5, none⟩ = some (.slice Y n c) := NB1.cell 5
  have hend := hg_stop mb k b h S w w1 (-1) (.int .i64 (-1)) hF1 hM1 hk hkh hkB1
  clear hm1 hS
  by_cases g1 : vr < 0
  · have g1' : decide (vr < 0) = true := by simpa using g1
    go_enter Tryz.func67, Tryz.ntmps67
    go_wp2_with fail
    go_ret
    exact hend
  · have g1' : decide (vr < 0) = false := by simpa using g1
    by_cases g2 : 9999 < vr
    · have g2' : decide (9999 < vr) = true := by simpa using g2
      go_enter Tryz.func67, Tryz.ntmps67
      go_wp2_with fail
      go_ret
      exact hend
    · have g2' : decide (9999 < vr) = false := by simpa using g2
      cases em with
      | true =>
        go_enter Tryz.func67, Tryz.ntmps67
        go_wp2_with fail
        go_ret
        exact hend
      | false =>
        have g3 : ((n : Int) != 0) = true := by
          have : n ≠ 0 := fun h => hno ⟨by omega, by omega, rfl, h⟩
          simp; omega
        go_enter Tryz.func67, Tryz.ntmps67
        go_wp2_with fail
        go_ret
        exact hend
set_option maxHeartbeats 2000000 in
set_option maxRecDepth 100000 in
theorem height_in (mb hb fb k b h lev m1 m2 : Nat) (w : World) (S : List (Nat × Value)) (vr fl za zb : Int) (L H Y : Option Addr) (c : Nat) (hv0 : 0 ≤ vr) (hv1 : vr ≤ 9999)
    (NB : Box w k 79 (NodeC vr fl L H false Y 0 c)) (HB : Box w hb 131 #[.map (some mb)]) (FB : Box w fb 132 #[hgK hb fb]) (hM : PMap w mb S) (hS : ∀ p ∈ S, p.1 < k ∧ CellsB w p.1) (hk : b ≤ k) (hk1 : k < m1) (hm12 : m1 ≤ m2) (hm2h : m2 ≤ h) (hl : lev ≤ 199) (ha0 : -1 ≤ za) (ha1 : za < 199) (hb0 : -1 ≤ zb) (hb1 : zb < 199)
    (H1 : ∀ W, PMap W mb (S ++ [(k, .int .i64 (-1))]) → Fr (PM mb) w W → Calls Tryz.prog 67 #[.pointer L, .int .i64 ((lev : Int) + 1), .pointer (some ⟨hb, 0, none⟩), .pointer (some ⟨fb, 0, none⟩)] W (HgPost mb (S ++ [(k, .int .i64 (-1))]) za m1 m2 W))
    (H2 : ∀ W N, PMap W mb (S ++ [(k, .int .i64 (-1))] ++ N) → (∀ p ∈ N, m1 ≤ p.1 ∧ p.1 < m2 ∧ CellsB W p.1) → Fr (PM mb) w W → Calls Tryz.prog 67 #[.pointer H, .int .i64 ((lev : Int) + 1), .pointer (some ⟨hb, 0, none⟩), .pointer (some ⟨fb, 0, none⟩)] W (HgPost mb (S ++ [(k, .int .i64 (-1))] ++ N) zb m2 h W)) :
    Calls Tryz.prog 67 #[.pointer (some ⟨k, 0, none⟩), .int .i64 (lev : Int), .pointer (some ⟨hb, 0, none⟩), .pointer (some ⟨fb, 0, none⟩)] w (HgPost mb S (if 0 ≤ za ∧ 0 ≤ zb then max za zb + 1 else -1) b h w) := by
  obtain ⟨Z, hZ⟩ : ∃ Z, Z = (if 0 ≤ za ∧ 0 ≤ zb then max za zb + 1 else -1) := ⟨_, rfl⟩
  rw [← hZ]
  have HZ := Lib.hid hZ
  clear hZ
  obtain ⟨j, hj, hsz⟩ := Option.map_eq_some_iff.1 infoNdC
  have hsz : j.size ≠ 0 := by omega
  have hnl : ∀ W x, (binOp BinOp.eql 25 (.pointer (some ⟨x, 0, none⟩)) (.pointer none)).run Tryz.prog W = .ok (.bool false) W := fun _ _ => by kernel_rfl
  have hnn : ∀ W, (binOp BinOp.eql 25 (.pointer none) (.pointer none)).run Tryz.prog W = .ok (.bool true) W := fun _ => by kernel_rfl
  have hkB : CellsB w k := ⟨_, _, NB⟩
  have e1 : decide ((200 : Int) < (lev : Int)) = false := by simp; omega
  have hl1 := run_lookup_p (P := Tryz.prog) (mt := 131) Tryz.underlying131 Tryz.underlying25 hj hsz hM (fun p hp => (hS p hp).2) k hkB (zeroNC w) true
  rw [pfind_ltC (fun p hp => (hS p hp).1)] at hl1
  simp only [if_true] at hl1
  obtain ⟨w1, hu1, hM1, hm1⟩ := run_update_new (P := Tryz.prog) (mt := 131) Tryz.underlying131 Tryz.underlying25 hj hsz hM (fun p hp => (hS p hp).2) k hkB (fun p hp e => by have := (hS p hp).1; omega) (.int .i64 (-1))
  have s0 := HB.c0
  have hhb : hb ≠ mb := hM.nobox HB
  have hfb : fb ≠ mb := hM.nobox FB
  have hnb : k ≠ mb := hM.nobox NB
  have HB1 := hm1.box HB
  have FB1 := hm1.box FB
  have NB1 := hm1.box NB
  have hF1 : Fr (PM mb) w w1 := MapTo.frC hm1 rfl
  have hkB1 := hm1.cells hkB
  have HSS : Hid (∀ p ∈ S, p.1 < k ∧ CellsB w p.1) := Lib.hid hS
  have HS1 : Hid (∀ p ∈ S, CellsB w1 p.1) := Lib.hid (fun p hp => hm1.cells (hS p hp).2)
  have s1 := HB1.c0
  have t0 : w1.cell? ⟨k, 0, none⟩ = some (.int .i64 vr) := NB1.cell 0
  have HH1 := Lib.hid H1
  have HH2 := Lib.hid H2
  have e3 : (vr == -1) = false := by simp; omega
  have t4 : w1.cell? ⟨k, 4, none⟩ = some (.bool false) := NB1.cell 4
  have t5 : w1.cell? ⟨k, 5, none⟩ = some (.slice Y 0 c) := NB1.cell 5
  have g1' : decide (vr < 0) = false := by simpa using hv0
  have g2' : decide (9999 < vr) = false := by simp; omega
  have r1 : IntKind.i64.wrap ((lev : Int) + 1) = (lev : Int) + 1 := IntWalk.i64_in _ (by omega)
  clear hm1 hS H1 H2
  go_enter Tryz.func67, Tryz.ntmps67
  go_upto_region 13 with fail
  clear hl1 hu1 t0 t4 t5 s1 g1' g2' e3 e1
  have k0 : ∀ w', Fr (PM mb) w1 w' → w'.cell? ⟨fb, 0, none⟩ = some (.func (.func 67) #[] #[.pointer (some ⟨hb, 0, none⟩), .pointer (some ⟨fb, 0, none⟩)]) := fun w' h => (h.box FB1 hfb).c0
  have k1 : ∀ w', Fr (PM mb) w1 w' → w'.cell? ⟨k, 2, none⟩ = some (.pointer L) := fun w' h => (h.box NB1 hnb).cell 2
  have k2 : ∀ w', Fr (PM mb) w1 w' → w'.cell? ⟨k, 3, none⟩ = some (.pointer H) := fun w' h => (h.box NB1 hnb).cell 3
  have ks := Fr.refl (PM mb) w1
  go_region_held3 (fun w' => Fr (PM mb) w1 w') ((repeat (first | (with_reducible assumption) | (with_reducible apply Fr.drew) | (with_reducible apply Fr.drewN) | (with_reducible refine Fr.trans ?_ (by with_reducible assumption))))) (first
    | (go_at_call 67; (with_reducible refine (HH1.out _ (hM1.ext (by repeat (first | (with_reducible exact Ext.refl _) | (with_reducible apply Ext.drew) | (with_reducible apply Ext.drewN)))) (hF1.trans (by repeat (first | (with_reducible exact Fr.refl _ _) | (with_reducible apply Fr.drew) | (with_reducible apply Fr.drewN))))).mono ?_); rintro e wk ⟨rfl, ⟨N1, hMk, hN1⟩, hFk⟩; (have hFk1 : Fr (PM mb) w1 wk := Fr.trans (by repeat (first | (with_reducible exact Fr.refl _ _) | (with_reducible apply Fr.drew) | (with_reducible apply Fr.drewN))) hFk))
    | (go_at_call 67; (with_reducible refine (HH2.out _ N1 (hMk.ext (by repeat (first | (with_reducible exact Ext.refl _) | (with_reducible apply Ext.drew) | (with_reducible apply Ext.drewN)))) (fun p hp => ⟨(hN1 p hp).1, (hN1 p hp).2.1, (hN1 p hp).2.2.ext (by repeat (first | (with_reducible exact Ext.refl _) | (with_reducible apply Ext.drew) | (with_reducible apply Ext.drewN)))⟩) (hF1.trans (hFk1.trans (by repeat (first | (with_reducible exact Fr.refl _ _) | (with_reducible apply Fr.drew) | (with_reducible apply Fr.drewN)))))).mono ?_); rintro e wm ⟨rfl, ⟨N2, hMm, hN2⟩, hFm⟩; (have hFm1 : Fr (PM mb) wk wm := Fr.trans (by repeat (first | (with_reducible exact Fr.refl _ _) | (with_reducible apply Fr.drew) | (with_reducible apply Fr.drewN))) hFm))
    )
  all_goals (
    have hFw : Fr (PM mb) w wm := hF1.trans (hFk1.trans hFm1)
    have hno : ∀ k, CellsB w k → ¬ PM mb k := fun k hk e => PMap_cellsC hM hk e
    have hCb : CellsB wm k := Fr.cellsC hFw hkB (hno k hkB)
    have hN1m : ∀ p ∈ N1, m1 ≤ p.1 ∧ p.1 < m2 ∧ CellsB wm p.1 := fun p hp => ⟨(hN1 p hp).1, (hN1 p hp).2.1, Fr.cellsC hFm1 (hN1 p hp).2.2 (fun e => PMap_cellsC hMk (hN1 p hp).2.2 e)⟩
    have hSm : ∀ p ∈ S, CellsB wm p.1 := fun p hp => Fr.cellsC hFw (HSS.out p hp).2 (hno _ (HSS.out p hp).2)
    have hMm : PMap wm mb (S ++ (k, .int .i64 (-1)) :: (N1 ++ N2)) := by simpa [List.append_assoc] using hMm
    have hall : ∀ p ∈ S ++ (k, .int .i64 (-1)) :: (N1 ++ N2), CellsB wm p.1 := fun p hp => by
      rcases List.mem_append.1 hp with q | q
      · exact hSm p q
      · rcases List.mem_cons.1 q with q | q
        · rw [q]; exact hCb
        · rcases List.mem_append.1 q with q | q
          · exact (hN1m p q).2.2
          · exact (hN2 p q).2.2
    clear k0 k1 k2 r1 HH1 HH2
    by_cases hz : 0 ≤ za ∧ 0 ≤ zb
    · have hZ1 : Z = max za zb + 1 := by rw [HZ.out, if_pos hz]
      have q1 : decide (za < 0) = false := by simpa using hz.1
      have q2 : decide (zb < 0) = false := by simpa using hz.2
      have q3 : decide ((200 : Int) ≤ max za zb) = false := by rw [decide_eq_false_iff_not]; omega
      have q4 : IntKind.i64.wrap (max za zb + 1) = max za zb + 1 := IntWalk.i64_in _ (by omega)
      obtain ⟨w3, hu3, hM3, hm3⟩ := run_update_at (P := Tryz.prog) (mt := 131) Tryz.underlying131 Tryz.underlying25 hj hsz k S (N1 ++ N2) (.int .i64 (-1)) hMm hall (fun p hp e => by have := (HSS.out p hp).1; omega) (.int .i64 (max za zb + 1))
      have hl3 := run_lookup_p (P := Tryz.prog) (mt := 131) Tryz.underlying131 Tryz.underlying25 hj hsz hM3 (fun p hp => by
        rcases List.mem_append.1 hp with q | q
        · exact hm3.cells (hSm p q)
        · rcases List.mem_cons.1 q with q | q
          · rw [q]; exact hm3.cells hCb
          · rcases List.mem_append.1 q with q | q
            · exact hm3.cells (hN1m p q).2.2
            · exact hm3.cells (hN2 p q).2.2) k (hm3.cells hCb) (zeroNC w3) false
      rw [pfind_atC (fun p hp => (HSS.out p hp).1)] at hl3
      simp only [Bool.false_eq_true, if_false] at hl3
      have s2 := (hFw.box HB hhb).c0
      have s3 := (hm3.box (hFw.box HB hhb)).c0
      have hF3 := hFw.trans (MapTo.frC hm3 (P := PM mb) rfl)
      have hkm := hm3.cells hCb
      have hNN : ∀ p ∈ (k, Value.int .i64 (max za zb + 1)) :: (N1 ++ N2), b ≤ p.1 ∧ p.1 < h ∧ CellsB w3 p.1 := fun p hp => by
        rcases List.mem_cons.1 hp with q | q
        · rw [q]; exact ⟨hk, by show k < h; omega, hkm⟩
        · rcases List.mem_append.1 q with q | q
          · have := hN1m p q
            exact ⟨by omega, by omega, hm3.cells this.2.2⟩
          · have := hN2 p q
            exact ⟨by omega, by omega, hm3.cells this.2.2⟩
      clear hm3 hall hz
      go_wp2_with fail
      go_ret
      exact ⟨by rw [hZ1] <;> rfl, ⟨_, hM3, hNN⟩, hF3⟩
    · have hZ1 : Z = -1 := by rw [HZ.out, if_neg hz]
      have hNN : ∀ p ∈ (k, Value.int .i64 (-1)) :: (N1 ++ N2), b ≤ p.1 ∧ p.1 < h ∧ CellsB wm p.1 := fun p hp => by
        rcases List.mem_cons.1 hp with q | q
        · rw [q]; exact ⟨hk, by show k < h; omega, hCb⟩
        · rcases List.mem_append.1 q with q | q
          · have := hN1m p q
            exact ⟨by omega, by omega, this.2.2⟩
          · have := hN2 p q
            exact ⟨by omega, by omega, this.2.2⟩
      by_cases q1 : za < 0
      · have q1' : decide (za < 0) = true := by simpa using q1
        clear hz q1
        go_wp2_with fail
        go_ret
        exact ⟨by rw [hZ1] <;> rfl, ⟨_, hMm, hNN⟩, hFw⟩
      · have q1' : decide (za < 0) = false := by simpa using q1
        have q2' : decide (zb < 0) = true := by simp; omega
        clear hz q1
        go_wp2_with fail
        go_ret
        exact ⟨by rw [hZ1] <;> rfl, ⟨_, hMm, hNN⟩, hFw⟩)
theorem TreeI.addr {w : World} {t : CT} {A : Option Addr} {b h : Nat} (x : TreeI w t A b h) : ∀ a, A = some a → ∃ k, a = ⟨k, 0, none⟩ := by
  cases t with
  | nil => intro a e; rw [x.1] at e; cases e
  | node vr fl em n y lo hi =>
    obtain ⟨k, L, H, Y, c, m1, m2, e, -⟩ := x
    intro a e'
    rw [e] at e'
    exact ⟨k, (Option.some.inj e').symm⟩
theorem height_b (mb hb fb : Nat) (t : CT) : ∀ (A : Option Addr) (b h lev : Nat) (w : World) (S : List (Nat × Value)), TreeI w t A b h → lev + t.dep ≤ 200 → Box w hb 131 #[.map (some mb)] → Box w fb 132 #[hgK hb fb] → PMap w mb S → (∀ p ∈ S, p.1 < b ∧ CellsB w p.1) →
    Calls Tryz.prog 67 #[.pointer A, .int .i64 (lev : Int), .pointer (some ⟨hb, 0, none⟩), .pointer (some ⟨fb, 0, none⟩)] w (HgPost mb S t.hgt b h w) := by
  induction t with
  | nil =>
    intro A b h lev w S hT hl HB FB hM hS
    obtain ⟨rfl, -⟩ := hT
    have key : Calls Tryz.prog 67 #[.pointer none, .int .i64 (lev : Int), .pointer (some ⟨hb, 0, none⟩), .pointer (some ⟨fb, 0, none⟩)] w (fun e w' => e = .returned (.int .i64 (-1)) ∧ w' = w) := by
      go_enter Tryz.func67, Tryz.ntmps67
      go_wp2_with fail
      go_ret
      exact ⟨rfl, rfl⟩
    refine key.mono ?_
    rintro e w' ⟨rfl, rfl⟩
    exact ⟨rfl, ⟨[], by simpa using hM, fun p hp => by cases hp⟩, Fr.refl _ _⟩
  | node vr fl em n y lo hi iha ihb =>
    intro A b h lev w S hT hl HB FB hM hS
    obtain ⟨k, L, H, Y, c, m1, m2, rfl, h1, h2, NB, hY, hlo, hhi⟩ := hT
    have hd : (CT.node vr fl em n y lo hi).dep = 1 + max lo.dep hi.dep := rfl
    rw [hd] at hl
    have l1 := hlo.le
    have l2 := hhi.le
    have hS' : ∀ p ∈ S, p.1 < k ∧ CellsB w p.1 := fun p hp => ⟨by have := (hS p hp).1; omega, (hS p hp).2⟩
    by_cases hv : vr = -1
    · subst hv
      have e : (CT.node (-1) fl em n y lo hi).hgt = if (decide (fl = 0) && (lo.isNil && hi.isNil)) = true then 0 else -1 := by
        unfold CT.hgt
        rw [if_pos rfl]
        simp only [Bool.and_eq_true, decide_eq_true_eq]
      rw [e]
      refine height_lf mb hb fb k b h lev w S fl em L H Y n c _ ?_ hlo.addr hhi.addr NB HB FB hM hS' h1 (by omega) (by omega)
      simp only [Bool.and_eq_true, decide_eq_true_eq]
      refine and_congr Iff.rfl (and_congr ?_ ?_)
      · rw [hlo.nilA]; cases lo <;> simp [CT.isNil]
      · rw [hhi.nilA]; cases hi <;> simp [CT.isNil]
    · by_cases hg : 0 ≤ vr ∧ vr ≤ 9999 ∧ em = false ∧ n = 0
      · have e : (CT.node vr fl em n y lo hi).hgt = if 0 ≤ lo.hgt ∧ 0 ≤ hi.hgt then max lo.hgt hi.hgt + 1 else -1 := by
          conv => lhs; unfold CT.hgt
          rw [if_neg hv, if_pos hg]
        rw [e]
        obtain ⟨g1, g2, rfl, rfl⟩ := hg
        have a1 := lo.hgt_hi
        have a2 := hi.hgt_hi
        have hkB : CellsB w k := ⟨_, _, NB⟩
        have hno : ∀ i, CellsB w i → ¬ PM mb i := fun i hi e => PMap_cellsC hM hi e
        have hmb : ∀ {W : World} {i : Nat}, b ≤ i → i < h → True := fun _ _ => trivial
        have hkeep : ∀ W, Fr (PM mb) w W → Box W hb 131 #[.map (some mb)] ∧ Box W fb 132 #[hgK hb fb] := fun W hF => ⟨hF.box HB (hM.nobox HB), hF.box FB (hM.nobox FB)⟩
        refine height_in mb hb fb k b h lev m1 m2 w S vr fl lo.hgt hi.hgt L H Y c g1 g2 NB HB FB hM hS' h1 h2 l1 l2 (by omega) lo.hgt_lo (by omega) hi.hgt_lo (by omega) ?_ ?_
        · intro W hW hF
          obtain ⟨q1, q2⟩ := hkeep W hF
          have := iha L m1 m2 (lev + 1) W _ (hlo.frG hF hno) (by omega) q1 q2 hW (fun p hp => by
            rcases List.mem_append.1 hp with q | q
            · exact ⟨by have := (hS' p q).1; omega, Fr.cellsC hF (hS' p q).2 (hno _ (hS' p q).2)⟩
            · obtain rfl := List.mem_singleton.1 q
              exact ⟨h2, Fr.cellsC hF hkB (hno _ hkB)⟩)
          rw [show ((lev + 1 : Nat) : Int) = (lev : Int) + 1 by omega] at this
          exact this
        · intro W N hW hN hF
          obtain ⟨q1, q2⟩ := hkeep W hF
          have := ihb H m2 h (lev + 1) W _ (hhi.frG hF hno) (by omega) q1 q2 hW (fun p hp => by
            rcases List.mem_append.1 hp with q | q
            · rcases List.mem_append.1 q with q | q
              · exact ⟨by have := (hS' p q).1; omega, Fr.cellsC hF (hS' p q).2 (hno _ (hS' p q).2)⟩
              · obtain rfl := List.mem_singleton.1 q
                exact ⟨by show k < m2; omega, Fr.cellsC hF hkB (hno _ hkB)⟩
            · exact ⟨(hN p q).2.1, (hN p q).2.2⟩)
          rw [show ((lev + 1 : Nat) : Int) = (lev : Int) + 1 by omega] at this
          exact this
      · have e : (CT.node vr fl em n y lo hi).hgt = -1 := by
          unfold CT.hgt
          rw [if_neg hv, if_neg hg]
        rw [e]
        exact height_no mb hb fb k b h lev w S vr fl em L H Y n c hv hg NB HB FB hM hS' h1 (by omega) (by omega)
set_option maxHeartbeats 4000000 in
set_option maxRecDepth 100000 in
theorem wellFormed_t (t : CT) (A : Option Addr) (b h : Nat) (w : World) (hT : TreeI w t A b h) (hd : t.dep ≤ 200) :
    Calls Tryz.prog 32 #[.pointer A] w (fun e w' => e = .returned (.bool t.wf) ∧ Ext w w') := by
  obtain ⟨F, hFF⟩ : ∃ F, F = t.wf := ⟨_, rfl⟩
  have HF : Hid (decide (0 ≤ t.hgt) = F) := Lib.hid (by
    rw [hFF]
    cases h1 : t.wf with
    | true => exact decide_eq_true (t.hgt_wf.2 h1)
    | false => exact decide_eq_false (fun h2 => by rw [t.hgt_wf.1 h2] at h1; cases h1))
  rw [← hFF]
  clear hFF
  obtain ⟨Z, hZ⟩ : ∃ Z, Z = t.hgt := ⟨_, rfl⟩
  rw [← hZ] at HF
  have HZ := Lib.hid hZ
  clear hZ
  have hmm := @run_makeMap Tryz.prog
  obtain ⟨V, hV, hM, hB, hF, hE⟩ := boxesM w 131 132
  go_enter Tryz.func32, Tryz.ntmps32
  go_upto_region 3 with fail
  simp only [← hV]
  clear hV hmm
  obtain ⟨mb, hmb⟩ : ∃ x, x = w.heap.size := ⟨_, rfl⟩
  obtain ⟨hb, hhb⟩ : ∃ x, x = w.heap.size + 1 := ⟨_, rfl⟩
  obtain ⟨fb, hfb⟩ : ∃ x, x = w.heap.size + 1 + 1 := ⟨_, rfl⟩
  rw [← hfb, ← hhb]
  rw [← hfb] at hF
  rw [← hhb] at hB
  rw [← hmb] at hM hB
  have hms : w.heap.size ≤ mb := by omega
  have hfs : w.heap.size ≤ fb := by omega
  have n1 : hb ≠ fb := by omega
  have n2 : mb ≠ fb := by omega
  clear hmb hhb hfb
  have f0 := hF.c0
  have f1 := hF.frozen 0
  obtain ⟨K, hK⟩ : ∃ K : Value, K = hgK hb fb := ⟨_, rfl⟩
  have hF2 := hF.set 0 K
  have hB2 : Box (V.setCell ⟨fb, 0, none⟩ K) hb 131 #[.map (some mb)] := hB.far (p := ⟨fb, 0, none⟩) n1 K
  have hM2 : (V.setCell ⟨fb, 0, none⟩ K).heap[mb]? = some (.map #[] 0) := (Below.heap_setCell V ⟨fb, 0, none⟩ K mb n2).trans hM
  have hE2 : Ext w (V.setCell ⟨fb, 0, none⟩ K) := hE.set (p := ⟨fb, 0, none⟩) hfs K
  have hT2 := hT.ext hE2
  go_upto_region 4 with fail
  rw [show Value.func (.func 67) #[] #[.pointer (some ⟨hb, 0, none⟩), .pointer (some ⟨fb, 0, none⟩)] = K from hK.symm]
  generalize (V.setCell ⟨fb, 0, none⟩ K) = V2 at *
  have hF3 : Box V2 fb 132 #[K] := hF2
  rw [hK] at hF3
  clear hF2 f0 f1 hK hF hB hM
  have k0 : V2.cell? ⟨fb, 0, none⟩ = some (.func (.func 67) #[] #[.pointer (some ⟨hb, 0, none⟩), .pointer (some ⟨fb, 0, none⟩)]) := hF3.c0
  go_wp2_with fail
  refine (height_b mb hb fb t A b h 0 _ [] hT2 (by omega) hB2 hF3 ⟨#[], 0, hM2, rfl⟩ (fun p hp => by cases hp)).mono ?_
  rintro e w3 ⟨rfl, -, hFF⟩
  rw [← HZ.out]
  have hx := hFF.ext hE2 (fun b hb => by rw [hb]; exact hms)
  go_wp2_with fail
  go_ret
  exact ⟨by rw [HF.out] <;> rfl, hx⟩
end Go.Proofs.YtljncdcjkdgkeaaGreatDoor.Lp
namespace Go.Proofs.YtljncdcjkdgkeaaGreatDoor.Bld
open Go.RowKit Go.Lib Go.Proofs.YtljncdcjkdgkeaaGreatDoor.Big
abbrev BL := List UInt8

section
theorem sizeB : (Tryz.prog.info? 88).map (·.size) = some 2 := by kernel_rfl

set_option maxHeartbeats 1000000 in
set_option maxRecDepth 100000 in
theorem copyCheck_used (b : Nat) (w : World) (h0 : w.cell? ⟨b, 0, none⟩ = some (.pointer (some ⟨b, 0, none⟩))) :
    Calls Tryz.prog 68 #[.pointer (some ⟨b, 0, none⟩)] w fun e w' => e = .returned (.tuple #[]) ∧ w' = w := by
  obtain ⟨j, hj, _⟩ := Option.map_eq_some_iff.1 sizeB
  go_enter Tryz.func68, Tryz.ntmps68
  go_wp2_with fail
  rw [Lib.run_neq_ptr_same w _ Tryz.underlying86 hj]
  go_wp2_with fail
  go_end0
  exact ⟨rfl, rfl⟩

set_option maxHeartbeats 1000000 in
set_option maxRecDepth 100000 in
theorem copyCheck_fresh (b : Nat) (w : World) (h0 : w.cell? ⟨b, 0, none⟩ = some (.pointer none)) (hsh : w.shape? b = some (88, 2)) (hfz : w.frozen? ⟨b, 0, none⟩ = false) :
    Calls Tryz.prog 68 #[.pointer (some ⟨b, 0, none⟩)] w fun e w' => e = .returned (.tuple #[]) ∧ w' = w.setCell ⟨b, 0, none⟩ (.pointer (some ⟨b, 0, none⟩)) := by
  obtain ⟨j, hj, hjs⟩ := Option.map_eq_some_iff.1 sizeB
  go_enter Tryz.func68, Tryz.ntmps68
  go_wp2_with fail
  rw [Lib.run_to_unsafe w ⟨b, 0, none⟩ Tryz.underlying86 Tryz.underlying160 hj (by rw [hjs]; decide) hsh (Nat.zero_lt_succ 1)]
  simp only [Result.andThen]
  rw [Oper.upon_value]
  go_wp2_with fail
  rw [run_callFunc_extern Tryz.func95 (by kernel_rfl) (by kernel_rfl) (by kernel_rfl) (e := Extern.AbiNoEscape.same) (by kernel_rfl)]
  rw [Lib.run_noEscape]
  simp only [Result.andThen]
  rw [Oper.upon_value]
  go_wp2_with fail
  rw [Lib.run_from_unsafe w ⟨b, 0, none⟩ Tryz.underlying160 Tryz.underlying86 hj hsh (by kernel_rfl)]
  simp only [Result.andThen]
  rw [Oper.upon_value]
  go_wp2_with fail
  go_end0
  exact ⟨rfl, rfl⟩

theorem copyCheck_any (B b : Nat) (bs : List Value) (w : World) (h : Lib.IsBuilder 88 5 B b bs w) :
    Calls Tryz.prog 68 #[.pointer (some ⟨b, 0, none⟩)] w fun e w' => e = .returned (.tuple #[]) ∧ (Lib.BuilderAt 88 5 B b (.pointer (some ⟨b, 0, none⟩)) bs w' ∧ Below B w w' ∧ (∀ k, k ≠ b → w'.heap[k]? = w.heap[k]?) ∧ w'.heap.size = w.heap.size) := by
  rcases h with h | h
  · refine (copyCheck_fresh b w h.cell0 h.shape h.frozen0).mono ?_
    rintro e w' ⟨rfl, rfl⟩
    exact ⟨rfl, h.used _, (Below.refl B w).setCell (p := ⟨b, 0, none⟩) h.1 _, fun k hk => Below.heap_setCell w ⟨b, 0, none⟩ _ k hk, by simp [World.setCell]⟩
  · refine (copyCheck_used b w h.cell0).mono ?_
    rintro e w' ⟨rfl, rfl⟩
    exact ⟨rfl, h, Below.refl B _, fun _ _ => rfl, rfl⟩
theorem infoByte : (Tryz.prog.info? 5).map (fun i => (i.zero, i.size, i.bytes)) = some (some (.int .u8 0), 1, 1) := by kernel_rfl

set_option maxHeartbeats 2000000 in
set_option maxRecDepth 100000 in
theorem WriteString_any (B b : Nat) (bs : List Value) (s : ByteArray) (w : World) (h : Lib.IsBuilder 88 5 B b bs w) (hlen : bs.length + s.size ≤ 140737488355328) (hBw : B ≤ w.heap.size) :
    Calls Tryz.prog 35 #[.pointer (some ⟨b, 0, none⟩), .string s] w fun e w' => e = .returned (.tuple #[.int .i64 s.size, .nilIface]) ∧ (Lib.BuilderAt 88 5 B b (.pointer (some ⟨b, 0, none⟩)) (bs ++ Lib.strCells s) w' ∧ Below B w w' ∧ w.heap.size ≤ w'.heap.size ∧ (∀ k E cs, k ≠ b → E ≠ 5 → Box w k E cs → Box w' k E cs)) := by
  obtain ⟨i0, hi, hz0, hz1, hz2⟩ := info_parts infoByte
  go_enter Tryz.func35, Tryz.ntmps35
  go_wp2_with fail
  refine (copyCheck_any B b bs _ h).mono ?_
  rintro e w1 ⟨rfl, h1, hb1, hkeep1, hsz1⟩
  have HK1 := Lib.hid hkeep1
  clear hkeep1
  obtain ⟨hB, v, hbk, hown, hne⟩ := h1
  have c0 : w1.cell? ⟨b, 0, none⟩ = some (.pointer (some ⟨b, 0, none⟩)) := by rw [Lib.cell_of_heap hbk]; rfl
  have c1 : w1.cell? ⟨b, 1, none⟩ = some v := by rw [Lib.cell_of_heap hbk]; rfl
  go_wp2_with (at_builtin; refine Lib.wpList_append_own_string _ rfl _ _ 44 9 rfl B 5 i0 Tryz.underlying44 Tryz.underlying9 hi hz0 hz1 hz2 _ _ _ rfl hown s rfl ?c3 ?c4 ?c5 ?_)
  case c3 => unfold maxLen; omega
  case c4 => omega
  case c5 => have := hb1.size; omega
  intro v' w2 hown' hgrow _
  have hlt : b < w1.heap.size := by
    rcases Nat.lt_or_ge b w1.heap.size with h' | h'
    · exact h'
    · simp [Array.getElem?_eq_none h'] at hbk
  have hb2 : w2.heap[b]? = some (.cells #[.pointer (some ⟨b, 0, none⟩), v] 88 (0, 0)) := by
    rw [hgrow.block b hlt (fun e => hne e.symm)]
    exact hbk
  have d0 : w2.cell? ⟨b, 0, none⟩ = some (.pointer (some ⟨b, 0, none⟩)) := by rw [Lib.cell_of_heap hb2]; rfl
  have d1 : w2.cell? ⟨b, 1, none⟩ = some v := by rw [Lib.cell_of_heap hb2]; rfl
  have f1 : w2.frozen? ⟨b, 1, none⟩ = false := Lib.frozen_of_heap hb2 1
  obtain ⟨ao, n', cap, rfl⟩ : ∃ ao n' cap, v' = .slice ao n' cap := by
    rcases hown'.2 with ⟨hv, _⟩ | ⟨g, cap, cur, hv, _⟩
    · exact ⟨_, _, _, hv⟩
    · exact ⟨_, _, _, hv⟩
  go_wp2_with fail
  go_ret2
  refine ⟨rfl, ?_, ?_, ?_, ?_⟩
  · exact Lib.BuilderAt.put (T := 88) (e := 5) hB hb2 (bs' := bs ++ Lib.strCells s) (by simpa [Lib.strCells_length] using hown') (by decide)
  · exact (hb1.grown hgrow (by have := hb1.size; omega) (fun k hk => (hown.lt k hk).1)).setCell (p := ⟨b, 1, none⟩) hB _
  · have := hgrow.size; simp [World.setCell]; omega
  · intro k E cs hkb hE hbox
    have hbox1 : Box w1 k E cs := (HK1.out k hkb).trans hbox
    have hrow : some k ≠ v.ownBlock := by
      intro e
      rcases hown.2 with ⟨hv, _⟩ | ⟨g, cap, cur, hv, _, hg, _⟩
      · rw [hv] at e; cases e
      · rw [hv] at e
        injection e with e
        subst e
        unfold Box at hbox1
        rw [hg] at hbox1
        injection hbox1 with hbox1
        injection hbox1 with _ h2
        exact hE h2.symm
    have hbox2 : Box w2 k E cs := (hgrow.block k hbox1.lt hrow).trans hbox1
    exact hbox2.far (p := ⟨b, 1, none⟩) hkb _
end
theorem byteCells_append (a b : List UInt8) : Lib.byteCells (a ++ b) = Lib.byteCells a ++ Lib.byteCells b := by simp [Lib.byteCells]
theorem byteCells_len (l : List UInt8) : (Lib.byteCells l).length = l.length := by simp [Lib.byteCells]
/-- a builder in block b that holds the bytes X -/
def IsB (B b : Nat) (X : BL) (w : World) : Prop := Lib.IsBuilder 88 5 B b (Lib.byteCells X) w
theorem IsB.ext {B b : Nat} {X : BL} {w w' : World} (h : IsB B b X w) (k : Ext w w') : IsB B b X w' := by
  have key : ∀ p, Lib.BuilderAt 88 5 B b p (Lib.byteCells X) w → Lib.BuilderAt 88 5 B b p (Lib.byteCells X) w' := by
    rintro p ⟨h1, v, h2, h3, h4⟩
    exact ⟨h1, v, (Below.block k b (Box.lt (w := w) (E := 88) h2)).trans h2, ownsRow_ext h3 k, h4⟩
  exact h.imp (key _) (key _)
theorem IsB.fresh (w : World) : IsB w.heap.size w.heap.size [] (w.alloc (.cells #[.pointer none, .slice none 0 0] 88)) := Lib.fresh_isBuilder 88 5 w
def WrPost (B b : Nat) (X : BL) (w : World) (e : Ending) (w' : World) : Prop := (∃ n, e = .returned (.tuple #[.int .i64 n, .nilIface])) ∧ IsB B b X w' ∧ Below B w w' ∧ w.heap.size ≤ w'.heap.size ∧ (∀ k E cs, k ≠ b → E ≠ 5 → Box w k E cs → Box w' k E cs)
theorem Write_any (B b : Nat) (X : BL) (s : ByteArray) (w : World) (h : IsB B b X w) (hlen : X.length + s.size ≤ 140737488355328) (hB : B ≤ w.heap.size) : Calls Tryz.prog 35 #[.pointer (some ⟨b, 0, none⟩), .string s] w (WrPost B b (X ++ s.data.toList) w) := by
  refine (WriteString_any B b _ s w h (by rw [byteCells_len]; exact hlen) hB).mono ?_
  rintro e w' ⟨rfl, h1, h2, h3, h4⟩
  refine ⟨⟨_, rfl⟩, ?_, h2, h3, h4⟩
  show Lib.IsBuilder _ _ _ _ _ _
  rw [byteCells_append]
  exact .inr h1
end Go.Proofs.YtljncdcjkdgkeaaGreatDoor.Bld

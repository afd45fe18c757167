/- Lists of small integers among the arguments, opened. Walks: wellFormed, fits: their bodies, at a leaf. Walk: Check, over what it asks of the tree. Plain: branch and bound as a function on problems; what it answers. Plain: trees of certificates; what Check and the law's prove say of them. Plain: the trees that the laws build are small. Lists of nodes among the arguments, opened. Lists of nodes among the arguments, of any length, opened. Maps whose keys are pointers: any number of entries. Maps: what is kept; maps with keys of several parts. Walk: wellFormed of any tree. Walks: a strings.Builder that is written (after the library's own walks, at this program's copyCheck). Walk: Encode's closure at a leaf. Walk: Encode, over what it asks of the tree. Walk: Encode's closure at any tree; Encode of any tree. -/
import Derived.Test.YtljncdcjkdgkeaaGreatDoorKLN2
import Derived.Test.YtljncdcjkdgkeaaGreatDoorKCBT
import Derived.Laws.EntriesVeiled
import Derived.Test.YtljncdcjkdgkeaaGreatDoorKCN0
import Derived.Test.YtljncdcjkdgkeaaGreatDoorKCV9
import Derived.Test.YtljncdcjkdgkeaaGreatDoorKW17
import Derived.Laws.AppendOwnNone
import Derived.Test.YtljncdcjkdgkeaaGreatDoorKShelf
import Derived.Test.YtljncdcjkdgkeaaGreatDoorKLN3
import Derived.Lib.AppendStr
import Derived.Shelf.Strings.Builder1
import Derived.Deep.DeepCutAuto
set_option linter.unusedVariables false
set_option linter.unusedSimpArgs false
namespace Go.Proofs.YtljncdcjkdgkeaaGreatDoor.Big
open Go.ChangeShapes Go.WideShapes Go.ChangeAt Go.RowKit Go.Proofs.YtljncdcjkdgkeaaGreatDoor.Lp

def kV (k : IntKind) (xs : List Int) : List Value := xs.map (Value.int k)
theorem kV_len (k : IntKind) (xs : List Int) : (kV k xs).length = xs.length := by simp [kV]
theorem kV_get {k : IntKind} {xs : List Int} {j : Nat} {x : Int} (h : xs[j]? = some x) : (kV k xs)[j]? = some (.int k x) := by simp [kV, h]
section
variable {H : Type} {enc : TypeId × Value → H} {W : World} {base : Nat} {r : Reach} {b0 : Nat}
theorem kV_nat {xs : List Int} (h : ∀ z ∈ xs, 0 ≤ z ∧ z ≤ 255) : kV .u8 xs = uV (xs.map Int.toNat) := by
  unfold kV uV
  rw [List.map_map]
  refine List.map_congr_left fun z hz => ?_
  show Value.int .u8 z = Value.int .u8 ((z.toNat : Nat) : Int)
  rw [Int.toNat_of_nonneg (h z hz).1]
theorem nat_8 {xs : List Int} (h : ∀ z ∈ xs, 0 ≤ z ∧ z ≤ 255) : ∀ d ∈ xs.map Int.toNat, d ≤ 255 := fun d hd => by
  obtain ⟨z, hz, rfl⟩ := List.mem_map.1 hd
  have := h z hz
  omega
end
end Go.Proofs.YtljncdcjkdgkeaaGreatDoor.Big
namespace Go.Proofs.YtljncdcjkdgkeaaGreatDoor.Lp
open Go.RowKit Go.Proofs.YtljncdcjkdgkeaaGreatDoor.Big Go.Proofs.YtljncdcjkdgkeaaGreatDoor.Rt

/-- a map, the box of the map, the box of a function that is not there yet -/
theorem boxesM (w : World) (E F : TypeId) : ∃ V, V = (((w.alloc (.map #[] 0)).alloc (.cells #[.map (some w.heap.size)] E)).alloc (.cells #[.nilFunc] F)) ∧ V.heap[w.heap.size]? = some (.map #[] 0) ∧ Box V (w.heap.size + 1) E #[.map (some w.heap.size)] ∧ Box V (w.heap.size + 1 + 1) F #[.nilFunc] ∧ Ext w V := by
  have s1 : (w.alloc (.map #[] 0)).heap.size = w.heap.size + 1 := by simp
  have s2 : ((w.alloc (.map #[] 0)).alloc (.cells #[.map (some w.heap.size)] E)).heap.size = w.heap.size + 1 + 1 := by simp
  refine ⟨_, rfl, ?_, ?_, ?_, (((Ext.refl w).alloc _).alloc _).alloc _⟩
  · have h0 : (w.alloc (.map #[] 0)).heap[w.heap.size]? = some (.map #[] 0) := heap_alloc_new w _
    have h1 := (Below.block ((((Ext.refl (w.alloc (.map #[] 0))).alloc (.cells #[.map (some w.heap.size)] E)).alloc (.cells #[.nilFunc] F))) w.heap.size (by rw [s1]; omega))
    exact h1.trans h0
  · have := (Box.new (w.alloc (.map #[] 0)) E #[.map (some w.heap.size)]).alloc (.cells #[.nilFunc] F)
    rwa [s1] at this
  · have := Box.new ((w.alloc (.map #[] 0)).alloc (.cells #[.map (some w.heap.size)] E)) F #[.nilFunc]
    rwa [s2] at this
set_option maxHeartbeats 4000000 in
set_option maxRecDepth 100000 in
theorem wellFormed_leaf (tb : Nat) (fl : Int) (em : Bool) (A : Option Addr) (n c : Nat) (w : World) (hT : Box w tb 79 (NodeC (-1) fl none none em A n c)) :
    Calls Tryz.prog 32 #[.pointer (some ⟨tb, 0, none⟩)] w (fun e w' => e = .returned (.bool (decide (fl = 0))) ∧ Ext w w') := by
  have hmm := @run_makeMap Tryz.prog
  obtain ⟨V, hV, hM, hB, hF, hE⟩ := boxesM w 131 132
  go_enter Tryz.func32, Tryz.ntmps32
  go_upto_region 3 with fail
  simp only [← hV]
  clear hV hmm
  obtain ⟨mb, hmb⟩ : ∃ x, x = w.heap.size := ⟨_, rfl⟩
  obtain ⟨hb, hhb⟩ : ∃ x, x = w.heap.size + 1 := ⟨_, rfl⟩
  obtain ⟨fb, hfb⟩ : ∃ x, x = w.heap.size + 1 + 1 := ⟨_, rfl⟩
  rw [← hfb, ← hhb, ← hmb]
  rw [← hfb] at hF
  rw [← hhb] at hB
  rw [← hmb] at hM hB
  have hms : w.heap.size ≤ mb := by omega
  have hfs : w.heap.size ≤ fb := by omega
  have n1 : hb ≠ fb := by omega
  have n2 : mb ≠ fb := by omega
  have hT0 := hT.ext hE
  have n3 : tb ≠ fb := by have := hT.lt; omega
  clear hmb hhb hfb
  have f0 := hF.c0
  have f1 := hF.frozen 0
  obtain ⟨K, hK⟩ : ∃ K : Value, K = .func (.func 67) #[] #[.pointer (some ⟨hb, 0, none⟩), .pointer (some ⟨fb, 0, none⟩)] := ⟨_, rfl⟩
  have hF2 := hF.set 0 K
  have hB2 : Box (V.setCell ⟨fb, 0, none⟩ K) hb 131 #[.map (some mb)] := hB.far (p := ⟨fb, 0, none⟩) n1 K
  have hM2 : (V.setCell ⟨fb, 0, none⟩ K).heap[mb]? = some (.map #[] 0) := (Below.heap_setCell V ⟨fb, 0, none⟩ K mb n2).trans hM
  have hT2 : Box (V.setCell ⟨fb, 0, none⟩ K) tb 79 (NodeC (-1) fl none none em A n c) := hT0.far (p := ⟨fb, 0, none⟩) n3 K
  have hE2 : Ext w (V.setCell ⟨fb, 0, none⟩ K) := hE.set (p := ⟨fb, 0, none⟩) hfs K
  go_upto_region 4 with fail
  rw [← hK]
  generalize (V.setCell ⟨fb, 0, none⟩ K) = V2 at *
  have k0 := hF2.c0
  subst hK
  go_wp2_with fail
  refine (height_leaf tb hb fb mb fl 0 em A n c 0 _ _ hT2 hB2 hM2 (by omega)).mono ?_
  rintro e w3 ⟨rfl, hx3⟩
  have hx := hx3 w hE2 hms
  by_cases hf : fl = 0
  · subst hf
    go_wp2_with fail
    go_ret
    exact ⟨rfl, hx⟩
  · rw [if_neg hf]
    go_wp2_with fail
    go_ret
    exact ⟨by rw [decide_eq_false hf]; rfl, hx⟩
set_option maxHeartbeats 4000000 in
set_option maxRecDepth 100000 in
theorem fits_leaf (tb : Nat) (fl : Int) (em : Bool) (A : Option Addr) (n c : Nat) (Ao Ar : Option Addr) (no co m cr : Nat) (w : World) (hT : Box w tb 79 (NodeC (-1) fl none none em A n c)) (hm : m ≤ 9000000000000000000) :
    Calls Tryz.prog 43 #[.agg #[.slice Ao no co, .slice Ar m cr], .pointer (some ⟨tb, 0, none⟩)] w (fun e w' => e = .returned (.bool (decide (n = m))) ∧ Ext w w') := by
  have hmm := @run_makeMap Tryz.prog
  have hPB := Box.new w 41 #[.slice Ao no co, .slice Ar m cr]
  have hE0 : Ext w (w.alloc (.cells #[.slice Ao no co, .slice Ar m cr] 41)) := (Ext.refl w).alloc _
  go_enter Tryz.func43, Tryz.ntmps43
  go_upto_region 1 with fail
  obtain ⟨pb, hpb⟩ : ∃ x, x = w.heap.size := ⟨_, rfl⟩
  rw [← hpb] at hPB ⊢
  generalize hU : (w.alloc (.cells #[.slice Ao no co, .slice Ar m cr] 41)) = U at *
  have hT := hT.ext hE0
  clear hU hpb
  obtain ⟨V, hV, hM, hB, hF, hE⟩ := boxesM U 140 141
  go_upto_region 3 with fail
  simp only [← hV]
  clear hV hmm
  have n4 : pb < U.heap.size := hPB.lt
  have hPB := hPB.ext hE
  obtain ⟨mb, hmb⟩ : ∃ x, x = U.heap.size := ⟨_, rfl⟩
  obtain ⟨hb, hhb⟩ : ∃ x, x = U.heap.size + 1 := ⟨_, rfl⟩
  obtain ⟨fb, hfb⟩ : ∃ x, x = U.heap.size + 1 + 1 := ⟨_, rfl⟩
  rw [← hfb, ← hhb, ← hmb]
  rw [← hfb] at hF
  rw [← hhb] at hB
  rw [← hmb] at hM hB
  have hms : U.heap.size ≤ mb := by omega
  have hfs : U.heap.size ≤ fb := by omega
  have n1 : hb ≠ fb := by omega
  have n2 : mb ≠ fb := by omega
  have n5 : pb ≠ fb := by omega
  have hT0 := hT.ext hE
  have n3 : tb ≠ fb := by have := hT.lt; omega
  clear hmb hhb hfb
  have f0 := hF.c0
  have f1 := hF.frozen 0
  obtain ⟨K, hK⟩ : ∃ K : Value, K = .func (.func 76) #[] #[.pointer (some ⟨hb, 0, none⟩), .pointer (some ⟨pb, 0, none⟩), .pointer (some ⟨fb, 0, none⟩)] := ⟨_, rfl⟩
  have hF2 := hF.set 0 K
  have hB2 : Box (V.setCell ⟨fb, 0, none⟩ K) hb 140 #[.map (some mb)] := hB.far (p := ⟨fb, 0, none⟩) n1 K
  have hM2 : (V.setCell ⟨fb, 0, none⟩ K).heap[mb]? = some (.map #[] 0) := (Below.heap_setCell V ⟨fb, 0, none⟩ K mb n2).trans hM
  have hT2 : Box (V.setCell ⟨fb, 0, none⟩ K) tb 79 (NodeC (-1) fl none none em A n c) := hT0.far (p := ⟨fb, 0, none⟩) n3 K
  have hP2 : Box (V.setCell ⟨fb, 0, none⟩ K) pb 41 #[.slice Ao no co, .slice Ar m cr] := hPB.far (p := ⟨fb, 0, none⟩) n5 K
  have hE2 : Ext U (V.setCell ⟨fb, 0, none⟩ K) := hE.set (p := ⟨fb, 0, none⟩) hfs K
  go_upto_region 4 with fail
  rw [← hK]
  generalize (V.setCell ⟨fb, 0, none⟩ K) = V2 at *
  have k0 := hF2.c0
  subst hK
  go_wp2_with fail
  refine (visit_leaf tb hb pb mb fl 0 em A n c 0 Ao Ar no co m cr _ _ hT2 hB2 hM2 hP2 (by omega) (by omega) hm).mono ?_
  rintro e w3 ⟨rfl, hx3⟩
  have hx := hE0.trans (hx3 U hE2 hms)
  rw [show ((n : Int) == (m : Int) + 0) = decide (n = m) by rw [Bool.eq_iff_iff]; simp; omega]
  go_wp2_with fail
  go_ret
  exact ⟨rfl, hx⟩
end Go.Proofs.YtljncdcjkdgkeaaGreatDoor.Lp
namespace Go.Proofs.YtljncdcjkdgkeaaGreatDoor.Lp
open Go.RowKit Go.Proofs.YtljncdcjkdgkeaaGreatDoor.Big Go.Proofs.YtljncdcjkdgkeaaGreatDoor.Rt

def alZ (f : Nat → Rat) : Nat → Bool
  | 0 => true
  | n + 1 => alZ f n && decide ((f n).den = 1)
/-- the bound that a leaf is held against -/
def limZ (z : Int) (s : Bool) : Rat := if s = true then (z : Rat) + ((1 : Int) : Rat) else (z : Rat)
def chkE (b R : Bool) : Int := if b = true then (if R = true then 0 else 19) else 3
theorem ProbV.objC {w : World} {p : Prob} {Ao : Option Addr} {n co : Nat} {r : Value} (h : ProbV w (.agg #[.slice Ao n co, r]) p) : RatsV w Ao n co p.obj := by
  obtain ⟨Ao', co', Ar', cr', e, h1, -⟩ := h
  injection e with e
  have e1 : Value.slice Ao n co = Value.slice Ao' p.n co' := by
    have := congrArg (fun a : Array Value => a[0]?) e
    simpa using this
  injection e1 with e1 e2 e3
  subst e1 e3
  rw [e2]
  exact h1
set_option maxHeartbeats 2000000 in
set_option maxRecDepth 100000 in
theorem Check_any (v t : Value) (p : Prob) (z : Int) (wf ft R : Bool) (Ko : Nat) (w : World) (hv : ProbV w v p) (hz0 : -9223372036854775808 ≤ z) (hz1 : z ≤ 9223372036854775807) (hKo : Ko ≤ 549755813888) (ho : ∀ j, j < p.n → QB Ko (p.obj j))
    (hwf : ∀ W, Ext w W → Calls Tryz.prog 32 #[t] W (fun e w' => e = .returned (.bool wf) ∧ Ext W w'))
    (hft : validB p = true → wf = true → ∀ W, Ext w W → Calls Tryz.prog 43 #[v, t] W (fun e w' => e = .returned (.bool ft) ∧ Ext W w'))
    (hpr : validB p = true → wf = true → ft = true → ∀ W (fb lb sb : Nat) (u1 u3 : Bool) (U2 U4 : Option Addr) (l2 l3 l4 l5 : Nat), Ext w W → w.heap.size ≤ fb → w.heap.size ≤ lb → w.heap.size ≤ sb → Box W fb 106 #[.func (.func 48) #[] #[.pointer (some ⟨fb, 0, none⟩), .pointer (some ⟨lb, 0, none⟩), .pointer (some ⟨sb, 0, none⟩)]] →
      Box W lb 58 #[.bool u1, .slice U2 l2 l3, .bool u3, .slice U4 l4 l5] → RatB W (.agg #[.bool u1, .slice U2 l2 l3, .bool u3, .slice U4 l4 l5]) (limZ z (alZ p.obj p.n)) 5 → Box W sb 4 #[.bool (alZ p.obj p.n)] →
      Calls Tryz.prog 48 #[v, t, .pointer (some ⟨fb, 0, none⟩), .pointer (some ⟨lb, 0, none⟩), .pointer (some ⟨sb, 0, none⟩)] W (ValPost W (.bool R))) :
    Calls Tryz.prog 16 #[v, .int .i64 z, t] w (ValPost w (.int .i64 (chkE (validB p && wf && ft) R))) := by
  obtain ⟨E, hEq⟩ : ∃ E, E = chkE (validB p && wf && ft) R := ⟨_, rfl⟩
  rw [← hEq]
  have HEQ := Lib.hid hEq
  clear hEq
  obtain ⟨Ao, co, Ar, cr, rfl, -⟩ := id hv
  have HO := Lib.hid ho
  have HPR := Lib.hid hpr
  have HFT := Lib.hid hft
  have HWF := Lib.hid hwf
  clear ho hpr hft hwf
  have PB := Box.new w 41 #[.slice Ao p.n co, .slice Ar p.m cr]
  have hE0 : Ext w (w.alloc (.cells #[.slice Ao p.n co, .slice Ar p.m cr] 41)) := (Ext.refl w).alloc _
  go_enter Tryz.func16, Tryz.ntmps16
  go_upto_region 1 with fail
  generalize (w.alloc (.cells #[.slice Ao p.n co, .slice Ar p.m cr] 41)) = V at *
  obtain ⟨pb, hpb⟩ : ∃ x, x = w.heap.size := ⟨_, rfl⟩
  rw [← hpb] at PB ⊢
  clear hpb
  have c0 := PB.c0
  have c1 := PB.c1
  go_wp2_with fail
  refine (Valid_b _ p _ (hv.ext hE0)).mono ?_
  rintro e w1 ⟨rfl, hx1⟩
  have PB1 := PB.ext hx1
  have hE1 := hE0.trans hx1
  obtain ⟨B, hB⟩ : ∃ B, B = validB p := ⟨_, rfl⟩
  rw [← hB]
  have HB := Lib.hid hB
  clear hB c0 c1 PB hE0 hx1
  cases B with
  | false =>
    have HE9 : Hid (E = 3) := Lib.hid (by rw [HEQ.out, ← HB.out]; simp [chkE])
    go_wp2_with fail
    go_ret
    exact ⟨by rw [HE9.out]; rfl, hE1⟩
  | true =>
  obtain ⟨a1, a2, a3, a4⟩ := validB_iff.1 HB.out.symm
  go_wp2_with fail
  refine (HWF.out _ hE1).mono ?_
  rintro e w2 ⟨rfl, hx2⟩
  have PB2 := PB1.ext hx2
  have hE2 := hE1.trans hx2
  clear PB1 hE1 hx2
  cases wf with
  | false =>
    have HE9 : Hid (E = 3) := Lib.hid (by rw [HEQ.out, ← HB.out]; simp [chkE])
    go_wp2_with fail
    go_ret
    exact ⟨by rw [HE9.out]; rfl, hE2⟩
  | true =>
  have c0 := PB2.c0
  have c1 := PB2.c1
  go_wp2_with fail
  refine (HFT.out HB.out.symm (by first | rfl | trivial) _ hE2).mono ?_
  rintro e w3 ⟨rfl, hx3⟩
  have PB3 := PB2.ext hx3
  have hE3 := hE2.trans hx3
  clear PB2 hE2 hx3 c0 c1
  cases ft with
  | false =>
    have HE9 : Hid (E = 3) := Lib.hid (by rw [HEQ.out, ← HB.out]; simp [chkE])
    go_wp2_with fail
    go_ret
    exact ⟨by rw [HE9.out]; rfl, hE3⟩
  | true =>
  go_wp2_with fail
  refine (RatOf_b z _ hz0 hz1).mono ?_
  rintro e w4 ⟨v4, rfl, hb4, hx4⟩
  obtain ⟨p4, A4, n4, c4, p4', A4', n4', c4', rfl⟩ := hb4.1.shape
  obtain ⟨LB, SB, hx5⟩ := boxesT2 w4 58 4 #[.bool p4, .slice A4 n4 c4, .bool p4', .slice A4' n4' c4'] #[.bool true]
  go_upto_region 4 with fail
  generalize ((w4.alloc (.cells #[.bool p4, .slice A4 n4 c4, .bool p4', .slice A4' n4' c4'] 58)).alloc (.cells #[.bool true] 4)) = W5 at *
  obtain ⟨sb, hsb⟩ : ∃ x, x = w4.heap.size + 1 := ⟨_, rfl⟩
  obtain ⟨lb, hlb⟩ : ∃ x, x = w4.heap.size := ⟨_, rfl⟩
  rw [← hsb] at SB ⊢
  rw [← hlb] at LB ⊢
  have hls : lb ≠ sb := by omega
  have hw4l : w4.heap.size ≤ lb := by omega
  have hw4s : w4.heap.size ≤ sb := by omega
  clear hsb hlb
  have PB5 := (PB3.ext hx4).ext hx5
  have hE5 := (hE3.trans hx4).trans hx5
  have hE4 := hE3.trans hx4
  have hwl : w.heap.size ≤ lb := Nat.le_trans hE4.size hw4l
  have hws : w.heap.size ≤ sb := Nat.le_trans hE4.size hw4s
  have hpl : pb ≠ lb := by have := (PB3.ext hx4).lt; omega
  have hps : pb ≠ sb := by have := (PB3.ext hx4).lt; omega
  have hb5 := hb4.ext hx5
  clear PB3 hE3 hx4 hb4 hx5
  have c0 := PB5.c0
  go_upto_region 5 with fail
  clear c0
  go_loopw [31] (fun i wr => ∃ j : Nat, j ≤ p.n ∧ i = .int .i64 j ∧ Box wr sb 4 #[.bool (alZ p.obj j)] ∧ Fr (fun k => k = sb) W5 wr) (fun i _ => p.n - (intOf i).toNat)
  case atStart => exact ⟨0, by omega, rfl, SB, Fr.refl _ _⟩
  case round =>
    clear SB
    obtain ⟨j, hj, rfl, SBr, hFr⟩ := hrel
    have hEr := hFr.ext hE5 (fun b hb => by rw [hb]; exact hws)
    obtain ⟨S, hS⟩ : ∃ S, S = alZ p.obj j := ⟨_, rfl⟩
    rw [← hS] at SBr
    have HS := Lib.hid hS
    clear hS
    by_cases hlt : j < p.n
    · have hob := (hv.ext hEr).objC
      have hoc := hob.1
      obtain ⟨qo, rfl, hqo⟩ := hob.2.2 (by omega)
      obtain ⟨p5, A5, m5, c5, p5', A5', m5', c5', o0, o1, o2, o3, hr5⟩ := hqo.at hlt
      have i1 : (0 : Int) ≤ (j : Int) := by omega
      have i2 : (j : Int) < (p.n : Int) := by omega
      go_upto_region 7 with fail
      have XB := Box.new wr 58 #[.bool p5, .slice A5 m5 c5, .bool p5', .slice A5' m5' c5']
      have hxT : Ext wr (wr.alloc (.cells #[.bool p5, .slice A5 m5 c5, .bool p5', .slice A5' m5' c5'] 58)) := (Ext.refl wr).alloc _
      generalize (wr.alloc (.cells #[.bool p5, .slice A5 m5 c5, .bool p5', .slice A5' m5' c5'] 58)) = T at *
      obtain ⟨xb, hxb⟩ : ∃ x, x = wr.heap.size := ⟨_, rfl⟩
      rw [← hxb] at XB ⊢
      clear hxb o0 o1 o2 o3
      have SBT := SBr.ext hxT
      have hxB : RatB T (.agg #[.bool p5, .slice A5 m5 c5, .bool p5', .slice A5' m5' c5']) (p.obj j) Ko := ⟨hr5.ext hxT, HO.out j hlt⟩
      have hFT := hFr.trans (Fr.of hxT)
      have s0 := SBT.c0
      have z0 := SBT.frozen 0
      cases S with
      | false =>
        have HN1 : Hid (alZ p.obj (j + 1) = false) := Lib.hid (by show (alZ p.obj j && decide ((p.obj j).den = 1)) = false; rw [← HS.out]; rfl)
        have SB2 := SBT.set 0 (.bool false)
        have hF2 := hFT.set (p := ⟨sb, 0, none⟩) rfl (fun z => by rw [s0]; intro e; cases e) (.bool false)
        have SB2 : Box (T.setCell ⟨sb, 0, none⟩ (.bool false)) sb 4 #[.bool (alZ p.obj (j + 1))] := by rw [HN1.out]; exact SB2
        go_wp2_with fail
        go_roundw
        case rel => first | exact ⟨j + 1, by omega, by go_num, SB2, hF2⟩ | ((repeat (apply Exists.intro (α := Value))); exact ⟨⟨j + 1, by omega, by go_num, SB2, hF2⟩, rfl⟩)
        case measure => simp [intOf]; omega
      | true =>
        obtain ⟨D, hD⟩ : ∃ D, D = decide ((p.obj j).den = 1) := ⟨_, rfl⟩
        obtain ⟨g, hg⟩ : ∃ g, g = cmpZ ((p.obj j).den : Int) 1 := ⟨_, rfl⟩
        have eD : (g == 0) = D := by
          rw [hg, hD]
          by_cases h1 : (p.obj j).den = 1
          · have : cmpZ ((p.obj j).den : Int) 1 = 0 := by rw [h1]; exact cmpZ_self _
            rw [this]; simp [h1]
          · have : cmpZ ((p.obj j).den : Int) 1 ≠ 0 := fun h => by
              have h2 : ((p.obj j).den : Int) = 1 := cmpZ_zero.1 h
              omega
            simp [this, h1]
        have HG := Lib.hid hg
        have HN1 : Hid (alZ p.obj (j + 1) = D) := Lib.hid (by show (alZ p.obj j && decide ((p.obj j).den = 1)) = D; rw [← HS.out, hD]; rfl)
        have x0 := XB.c0
        have x1 := XB.c1
        have x2 := XB.c2
        have x3 := XB.c3
        clear hg hD
        go_wp2_with fail
        refine (RatDen_b _ _ _ _ hxB).mono ?_
        rintro e w6 ⟨v6, rfl, hb6, hx6⟩
        obtain ⟨p6, A6, n6, c6, rfl⟩ := hb6.1.shape
        clear x0 x1 x2 x3
        go_wp2_with fail
        refine (Of_b 1 _ (by omega) (by omega)).mono ?_
        rintro e w7 ⟨v7, rfl, hb7, hx7⟩
        obtain ⟨p7, A7, n7, c7, rfl⟩ := hb7.1.shape
        go_wp2_with fail
        refine (Cmp_b _ _ _ _ _ _ _ (hb6.ext hx7) hb7).mono ?_
        rintro e w8 ⟨rfl, hx8⟩
        rw [← HG.out]
        have hx68 := (hx6.trans hx7).trans hx8
        have SB8 := SBT.ext hx68
        have hF8 := hFT.trans (Fr.of hx68)
        clear s0 z0
        have s0 := SB8.c0
        have z0 := SB8.frozen 0
        have SB9 := SB8.set 0 (.bool D)
        have hF9 := hF8.set (p := ⟨sb, 0, none⟩) rfl (fun z => by rw [s0]; intro e; cases e) (.bool D)
        have SB9 : Box (w8.setCell ⟨sb, 0, none⟩ (.bool D)) sb 4 #[.bool (alZ p.obj (j + 1))] := by rw [HN1.out]; exact SB9
        go_wp2_with fail
        go_roundw
        case rel => first | exact ⟨j + 1, by omega, by go_num, SB9, hF9⟩ | ((repeat (apply Exists.intro (α := Value))); exact ⟨⟨j + 1, by omega, by go_num, SB9, hF9⟩, rfl⟩)
        case measure => simp [intOf]; omega
    · obtain rfl : j = p.n := by omega
      have LBr := hFr.box LB hls
      have PBr := hFr.box PB5 hps
      have hb6 := hFr.ratB hb5
      have s0 := SBr.c0
      have hvr := hv.ext hEr
      clear LB PB5 hb5 hE5 hFr
      go_upto_if 44 with fail
      rename_i hK
      go_cut [] (fun wx => ∃ (u1 u3 : Bool) (U2 U4 : Option Addr) (l2 l3 l4 l5 : Nat), Box wx lb 58 #[.bool u1, .slice U2 l2 l3, .bool u3, .slice U4 l4 l5] ∧ RatB wx (.agg #[.bool u1, .slice U2 l2 l3, .bool u3, .slice U4 l4 l5]) (limZ z S) 5 ∧ Box wx sb 4 #[.bool S] ∧ Box wx pb 41 #[.slice Ao p.n co, .slice Ar p.m cr] ∧ Ext w wx)
      case first =>
        cases S with
        | false =>
          go_wp2_with fail
          go_meet
          exact ⟨_, _, _, _, _, _, _, _, LBr, ⟨hb6.1, QB_mono (by omega) hb6.2⟩, SBr, PBr, hEr⟩
        | true =>
          go_upto_region 10 with fail
          have q0 := LBr.c0
          have q1 := LBr.c1
          have q2 := LBr.c2
          have q3 := LBr.c3
          go_region_law (first
            | (go_simp; go_at_call 20; (with_reducible refine (RatOf_b 1 _ (by omega) (by omega)).mono ?_); rintro e wl ⟨vl, rfl, hbl, hxl⟩; (obtain ⟨pl, Al, nl, cl, pl', Al', nl', cl', rfl⟩ := hbl.1.shape); (have hlL : Ext wr wl := Ext.trans (by repeat (first | (with_reducible exact Ext.refl _) | (with_reducible apply Ext.drew) | (with_reducible apply Ext.drewN))) hxl); (have q0 := hlL.cell q0); (have q1 := hlL.cell q1); (have q2 := hlL.cell q2); (have q3 := hlL.cell q3))
            | (go_simp; go_at_call 47; (with_reducible refine (RatAdd_b _ _ _ _ _ _ _ (RatB.ext hb6 (by repeat (first | (with_reducible exact Ext.refl _) | (with_reducible apply Ext.drew) | (with_reducible apply Ext.drewN) | (with_reducible refine Ext.trans ?_ (by assumption))))) (RatB.ext hbl (by repeat (first | (with_reducible exact Ext.refl _) | (with_reducible apply Ext.drew) | (with_reducible apply Ext.drewN)))) (by omega)).mono ?_); rintro e wm ⟨vm, rfl, hbm, hxm⟩; (obtain ⟨pm, Am, nm, cm, pm', Am', nm', cm', rfl⟩ := hbm.1.shape); (have hmL : Ext wl wm := Ext.trans (by repeat (first | (with_reducible exact Ext.refl _) | (with_reducible apply Ext.drew) | (with_reducible apply Ext.drewN))) hxm); (have DBm := (LBr.ext hlL).ext hmL); (have q0 := DBm.c0); (have q1 := DBm.c1); (have q2 := DBm.c2); (have q3 := DBm.c3); (have z0 := DBm.frozen 0); (have z1 := DBm.frozen 1); (have z2 := DBm.frozen 2); (have z3 := DBm.frozen 3))
            )
          all_goals (
            obtain ⟨hf, pbx⟩ := put4 DBm (.bool pm) (.slice Am nm cm) (.bool pm') (.slice Am' nm' cm')
            have pp := hf.ratB hbm
            have SB9 := hf.box ((SBr.ext hlL).ext hmL) (Ne.symm hls)
            have PB9 := hf.box ((PBr.ext hlL).ext hmL) hpl
            have hE9 := hf.ext ((hEr.trans hlL).trans hmL) (fun b hb => by rw [hb]; exact hwl)
            clear DBm q0 q1 q2 q3 z0 z1 z2 z3 hf
            go_wp2_with fail
            go_meet
            exact ⟨_, _, _, _, _, _, _, _, pbx, pp, SB9, PB9, hE9⟩)
      case rest =>
      obtain ⟨u1, u3, U2, U4, l2, l3, l4, l5, LBc, hLz, SBc, PBc, hEc⟩ := hcut
      refine hK _ _ ?_
      clear hK LBr PBr SBr hb6 hEr hvr s0
      have hvc := hv.ext hEc
      go_upto_region 12 with fail
      have FB := Box.new wc 106 #[.nilFunc]
      have hxf : Ext wc (wc.alloc (.cells #[.nilFunc] 106)) := (Ext.refl wc).alloc _
      generalize (wc.alloc (.cells #[.nilFunc] 106)) = W6 at *
      obtain ⟨fb, hfb⟩ : ∃ x, x = wc.heap.size := ⟨_, rfl⟩
      rw [← hfb] at FB ⊢
      have hfw : w.heap.size ≤ fb := by have := hEc.size; omega
      have hfl : lb ≠ fb := by have := LBc.lt; omega
      have hfs : sb ≠ fb := by have := SBc.lt; omega
      have hfp : pb ≠ fb := by have := PBc.lt; omega
      clear hfb
      have LB6 := LBc.ext hxf
      have SB6 := SBc.ext hxf
      have PB6 := PBc.ext hxf
      have hL6 := hLz.ext hxf
      have hE6 := hEc.trans hxf
      clear LBc SBc PBc hLz hEc hxf
      obtain ⟨K, hKK⟩ : ∃ K : Value, K = .func (.func 48) #[] #[.pointer (some ⟨fb, 0, none⟩), .pointer (some ⟨lb, 0, none⟩), .pointer (some ⟨sb, 0, none⟩)] := ⟨_, rfl⟩
      have f0 := FB.c0
      have f1 := FB.frozen 0
      have hF : Fr (fun k => k = fb) W6 (W6.setCell ⟨fb, 0, none⟩ K) := (Fr.refl (fun k => k = fb) W6).set (p := ⟨fb, 0, none⟩) rfl (fun z => by rw [f0]; intro e; cases e) _
      have FB7 := FB.set 0 K
      have LB7 := hF.box LB6 hfl
      have SB7 := hF.box SB6 hfs
      have PB7 := hF.box PB6 hfp
      have hL7 := hF.ratB hL6
      have hE7 := hF.ext hE6 (fun b hb => by rw [hb]; exact hfw)
      go_upto_region 13 with fail
      rw [← hKK]
      generalize (W6.setCell ⟨fb, 0, none⟩ K) = W7 at *
      subst hKK
      clear hF f0 f1 FB LB6 SB6 PB6 hL6 hE6
      have k0 := FB7.c0
      have c0 := PB7.c0
      have c1 := PB7.c1
      rw [HS.out] at hL7 SB7
      have hcall := HPR.out HB.out.symm (by first | rfl | trivial) (by first | rfl | trivial) W7 fb lb sb u1 u3 U2 U4 l2 l3 l4 l5 hE7 hfw hwl hws FB7 LB7 hL7 SB7
      go_wp2_with fail
      refine hcall.mono ?_
      rintro e w8 ⟨rfl, hx8⟩
      have hE8 := hE7.trans hx8
      cases R with
      | false =>
        have HE9 : Hid (E = 19) := Lib.hid (by rw [HEQ.out, ← HB.out]; simp [chkE])
        go_wp2_with fail
        go_ret
        exact ⟨by rw [HE9.out]; rfl, hE8⟩
      | true =>
        have HE9 : Hid (E = 0) := Lib.hid (by rw [HEQ.out, ← HB.out]; simp [chkE])
        go_wp2_with fail
        go_ret
        exact ⟨by rw [HE9.out]; rfl, hE8⟩
end Go.Proofs.YtljncdcjkdgkeaaGreatDoor.Lp
namespace Go.Proofs.YtljncdcjkdgkeaaGreatDoor.Lp

/-- the integer fits into 64 bits -/
def fit (z : Int) : Bool := decide (-9223372036854775808 ≤ z) && decide (z ≤ 9223372036854775807)
theorem fit_iff {z : Int} : fit z = true ↔ -9223372036854775808 ≤ z ∧ z ≤ 9223372036854775807 := by
  unfold fit; rw [Bool.and_eq_true, decide_eq_true_eq, decide_eq_true_eq]
end Go.Proofs.YtljncdcjkdgkeaaGreatDoor.Lp
namespace Go.Proofs.YtljncdcjkdgkeaaGreatDoor.Lp
open Go.RowKit Go.Proofs.YtljncdcjkdgkeaaGreatDoor.Big Go.Proofs.YtljncdcjkdgkeaaGreatDoor.Rt

def CT.dep : CT → Nat
  | .nil => 0
  | .node _ _ _ _ _ a b => 1 + max a.dep b.dep
def CT.isNil : CT → Bool
  | .nil => true
  | .node .. => false
/-- well-formed -/
def CT.wf : CT → Bool
  | .nil => false
  | .node vr fl em n _ a b => if vr = -1 then decide (fl = 0) && (a.isNil && b.isNil) else decide (0 ≤ vr) && (decide (vr ≤ 9999) && (!em && (decide (n = 0) && (a.wf && b.wf))))
/-- the height; -1 for what is not well-formed -/
def CT.hgt : CT → Int
  | .nil => -1
  | .node vr fl em n _ a b => if vr = -1 then (if fl = 0 ∧ a.isNil = true ∧ b.isNil = true then 0 else -1) else if 0 ≤ vr ∧ vr ≤ 9999 ∧ em = false ∧ n = 0 then (if 0 ≤ a.hgt ∧ 0 ≤ b.hgt then max a.hgt b.hgt + 1 else -1) else -1
theorem CT.hgt_lo (t : CT) : -1 ≤ t.hgt := by
  cases t with
  | nil => exact Int.le_refl _
  | node vr fl em n y a b =>
    unfold CT.hgt
    split
    · split <;> omega
    · split
      · split
        · omega
        · omega
      · omega
theorem CT.hgt_hi (t : CT) : t.hgt < (t.dep : Int) := by
  induction t with
  | nil => show (-1 : Int) < ((0 : Nat) : Int); omega
  | node vr fl em n y a b iha ihb =>
    have e : (CT.node vr fl em n y a b).dep = 1 + max a.dep b.dep := rfl
    rw [e]
    unfold CT.hgt
    split
    · split <;> omega
    · split
      · split
        · omega
        · omega
      · omega
theorem CT.hgt_wf (t : CT) : 0 ≤ t.hgt ↔ t.wf = true := by
  induction t with
  | nil => exact ⟨fun h => absurd h (by decide), fun h => by cases h⟩
  | node vr fl em n y a b iha ihb =>
    unfold CT.hgt CT.wf
    by_cases h1 : vr = -1
    · rw [if_pos h1, if_pos h1]
      by_cases h2 : fl = 0 ∧ a.isNil = true ∧ b.isNil = true
      · rw [if_pos h2]; simp [h2]
      · rw [if_neg h2]
        simp only [Bool.and_eq_true, decide_eq_true_eq]
        exact ⟨fun h => absurd h (by decide), fun h => absurd h h2⟩
    · rw [if_neg h1, if_neg h1]
      simp only [Bool.and_eq_true, decide_eq_true_eq, Bool.not_eq_true', ← iha, ← ihb]
      by_cases h2 : 0 ≤ vr ∧ vr ≤ 9999 ∧ em = false ∧ n = 0
      · rw [if_pos h2]
        by_cases h3 : 0 ≤ a.hgt ∧ 0 ≤ b.hgt
        · rw [if_pos h3]
          exact ⟨fun _ => ⟨h2.1, h2.2.1, h2.2.2.1, h2.2.2.2, h3⟩, fun _ => by omega⟩
        · rw [if_neg h3]
          exact ⟨fun h => absurd h (by decide), fun h => absurd h.2.2.2.2 h3⟩
      · rw [if_neg h2]
        exact ⟨fun h => absurd h (by decide), fun h => absurd ⟨h.1, h.2.1, h.2.2.1, h.2.2.2.1⟩ h2⟩
/-- floors are ints, multipliers are bounded -/
def CT.okY (K : Nat) : CT → Prop
  | .nil => True
  | .node _ fl _ n y a b => Lp.fit fl = true ∧ n ≤ 1000 ∧ (∀ j, j < n → QB K (y j)) ∧ a.okY K ∧ b.okY K
end Go.Proofs.YtljncdcjkdgkeaaGreatDoor.Lp
namespace Go.Proofs.YtljncdcjkdgkeaaGreatDoor.Lp
open Go.RowKit Go.Proofs.YtljncdcjkdgkeaaGreatDoor.Big Go.Proofs.YtljncdcjkdgkeaaGreatDoor.Rt

theorem qn4_boundC {n : Int} {d : Nat} (h : in32 n) : QB 2 (qn4 n d) := by
  have h1 : B 2 n := by
    unfold B; rw [pw_two_eq]
    have := h.1; have := h.2; omega
  have h2 : B 2 (1 + ((d % 4 : Nat) : Int)) := by
    unfold B; rw [pw_two_eq]; omega
  have := QB_red h1 h2 (by omega)
  simpa [qn4] using this
def CT.size : CT → Nat
  | .nil => 0
  | .node _ _ _ _ _ a b => 1 + a.size + b.size
/-- at most k multipliers at each node -/
def CT.few (k : Nat) : CT → Prop
  | .nil => True
  | .node _ _ _ n _ a b => n ≤ k ∧ a.few k ∧ b.few k
theorem buildT_all (Q : CT → Prop) (h0 : Q .nil) (l0 : List ND) (h1 : ∀ x ∈ l0, ∀ a b, Q a → Q b → Q (.node x.var x.fl x.em x.num.length (yq x) a b)) (f : Nat) (l : List ND) (hl : ∀ x ∈ l, x ∈ l0) : Q (buildT f l).1 := by
  induction f generalizing l with
  | zero => exact h0
  | succ f ih =>
    cases l with
    | nil => exact h0
    | cons x r =>
      have hx := hl x (List.mem_cons_self ..)
      have hr : ∀ y ∈ r, y ∈ l0 := fun y hy => hl y (List.mem_cons_of_mem _ hy)
      unfold buildT
      split
      · exact h1 x hx _ _ (ih r hr) (ih _ (fun y hy => hr y (buildT_sub f r y hy)))
      · exact h1 x hx _ _ h0 h0
theorem buildT_dep (f : Nat) (l : List ND) : (buildT f l).1.dep ≤ f := by
  induction f generalizing l with
  | zero => exact Nat.le_refl _
  | succ f ih =>
    cases l with
    | nil => exact Nat.zero_le _
    | cons x r =>
      unfold buildT
      split
      · have a1 := ih r
        have a2 := ih (buildT f r).2
        show 1 + max (buildT f r).1.dep (buildT f (buildT f r).2).1.dep ≤ f + 1
        omega
      · show 1 + max 0 0 ≤ f + 1
        omega
theorem buildT_size (f : Nat) (l : List ND) : (buildT f l).1.size + (buildT f l).2.length ≤ l.length := by
  induction f generalizing l with
  | zero => show 0 + l.length ≤ l.length; omega
  | succ f ih =>
    cases l with
    | nil => exact Nat.le_refl _
    | cons x r =>
      unfold buildT
      split
      · have a1 := ih r
        have a2 := ih (buildT f r).2
        show 1 + (buildT f r).1.size + (buildT f (buildT f r).2).1.size + (buildT f (buildT f r).2).2.length ≤ r.length + 1
        omega
      · show 1 + 0 + 0 + r.length ≤ r.length + 1
        omega
theorem in32_getD {xs : List Int} (h : ∀ z ∈ xs, in32 z) (j : Nat) : in32 (xs.getD j 0) := by
  rw [List.getD_eq_getElem?_getD]
  cases e : xs[j]? with
  | none => exact ⟨by decide, by decide⟩
  | some z => exact h z (List.mem_of_getElem? e)
theorem buildT_okY (f : Nat) (l : List ND) (h : ∀ x ∈ l, okN x ∧ Lp.fit x.fl = true ∧ x.num.length ≤ 12) : (buildT f l).1.okY 2 ∧ (buildT f l).1.few 12 := by
  refine buildT_all (fun t => t.okY 2 ∧ t.few 12) ⟨trivial, trivial⟩ l (fun x hx a b ha hb => ?_) f l (fun _ h => h)
  obtain ⟨h1, h2, h3⟩ := h x hx
  exact ⟨⟨h2, by omega, fun j _ => qn4_boundC (in32_getD h1.1 j), ha.1, hb.1⟩, ⟨h3, ha.2, hb.2⟩⟩
end Go.Proofs.YtljncdcjkdgkeaaGreatDoor.Lp
namespace Go.Proofs.YtljncdcjkdgkeaaGreatDoor.Big
open Go.ChangeShapes Go.WideShapes Go.ChangeAt Go.RowKit Go.Deep Go.Proofs.YtljncdcjkdgkeaaGreatDoor.Lp
theorem ndCells : Tryz.prog.cellsOf 82 = 6 := by kernel_rfl
theorem intCells : Tryz.prog.cellsOf 3 = 1 := by kernel_rfl
theorem boolCells : Tryz.prog.cellsOf 4 = 1 := by kernel_rfl
theorem sl8Cells : Tryz.prog.cellsOf 44 = 1 := by kernel_rfl
section
variable {H : Type} {enc : TypeId × Value → H} {W : World} {base : Nat} {r : Reach} {b0 : Nat}
set_option maxRecDepth 100000 in
theorem u8s_trod {sp : Nat → Bool} {fuel : Nat} {v : Value} {y : DataW H × List MemPlace} (h : DataW.trod enc Tryz.prog W base sp true fuel 44 [v] = some y) :
    ∃ A n c xs, v = .slice A n c ∧ Lp.Row W (.slice A n c) (uV xs) ∧ (∀ z ∈ xs, z ≤ 255) := by
  rcases open_ints Tryz.underlying44 Tryz.underlying5 (by kernel_rfl) h with ⟨h1, _⟩ | ⟨a, len, cap, zs, h1, _, h2, h3, h4, h5, h6, h7⟩
  · injection h1 with h1
    exact ⟨none, 0, 0, [], h1, Row.nil W none 0 (by omega), (fun z hz => by cases hz)⟩
  · injection h1 with h1
    subst h1
    have hzl : len ≤ zs.length := by rw [h4]; split <;> omega
    have h8 : ∀ z ∈ zs.take len, 0 ≤ z ∧ z ≤ 255 := fun z hz => wf8 (h7 z (List.mem_of_mem_take hz))
    refine ⟨some a, len, cap, (zs.take len).map Int.toNat, rfl, ?_, nat_8 h8⟩
    rw [← kV_nat h8]
    refine ⟨some a, cap, by rw [kV_len, List.length_take, Nat.min_eq_left hzl], by rw [kV_len, List.length_take]; omega, by unfold maxLen at h3; exact h3, fun hn => ?_⟩
    rw [kV_len, List.length_take] at hn
    obtain ⟨b, off, spot⟩ := a
    have hspot : spot = none := by simpa [Addr.add] using World.cell?_spot (h6 0 (by omega))
    subst hspot
    refine ⟨b, off, rfl, fun j u hj => ?_⟩
    have hjl : j < (kV .u8 (zs.take len)).length := (List.getElem?_eq_some_iff.1 hj).1
    rw [kV_len, List.length_take] at hjl
    have hc := h6 j (by omega)
    rw [show (⟨b, off, none⟩ : Addr).add j = ⟨b, off + j, none⟩ by simp [Addr.add]] at hc
    rw [hc]
    have h9 : (zs.take len)[j]? = some (zs.getD j 0) := by
      rw [List.getElem?_take, if_pos (by omega), List.getElem?_eq_getElem (by omega)]
      simp [List.getD, show j < zs.length by omega]
    rw [kV_get h9] at hj
    exact hj
set_option maxRecDepth 100000 in
/-- one node among the arguments, read -/
theorem nd_of {sp : Nat → Bool} {fuel : Nat} {a : Addr} {cs : List Value} {x : DataW H × List MemPlace}
    (hc : W.cells? base a (Tryz.prog.cellsOf 82) = some cs) (h : DataW.trod enc Tryz.prog W base sp true fuel 82 cs = some x) :
    ∃ (v0 v1 v2 v3 v4 v5 : Value) (y0 y1 y2 y3 y4 y5 : DataW H × List MemPlace) (n : Nat), x.1 = .agg [y0.1, y1.1, y2.1, y3.1, y4.1, y5.1] ∧ W.cell? (a.add 0) = some v0 ∧ W.cell? (a.add 1) = some v1 ∧ W.cell? (a.add 2) = some v2 ∧ W.cell? (a.add 3) = some v3 ∧ W.cell? (a.add 4) = some v4 ∧ W.cell? (a.add 5) = some v5 ∧
      DataW.trod enc Tryz.prog W base sp true n 3 [v0] = some y0 ∧ DataW.trod enc Tryz.prog W base sp true n 3 [v1] = some y1 ∧ DataW.trod enc Tryz.prog W base sp true n 4 [v2] = some y2 ∧ DataW.trod enc Tryz.prog W base sp true n 34 [v3] = some y3 ∧ DataW.trod enc Tryz.prog W base sp true n 44 [v4] = some y4 ∧ DataW.trod enc Tryz.prog W base sp true n 4 [v5] = some y5 := by
  obtain ⟨ys, n, _, hx, hl, hyl, hf⟩ := DataW.trod_struct Tryz.underlying82 h
  rw [ndCells] at hc hl
  obtain ⟨_, _, hat⟩ := World.cells?_some hc
  match cs, hl, hat, hf with
  | [v0, v1, v2, v3, v4, v5], _, hat, hf =>
    match ys, hyl, hx, hf with
    | [y0, y1, y2, y3, y4, y5], _, hx, hf =>
      have f0 := hf 0 _ rfl
      have f1 := hf 1 _ rfl
      have f2 := hf 2 _ rfl
      have f3 := hf 3 _ rfl
      have f4 := hf 4 _ rfl
      have f5 := hf 5 _ rfl
      change DataW.trod enc Tryz.prog W base sp true n 3 (List.take (Tryz.prog.cellsOf 3) (List.drop 0 [v0, v1, v2, v3, v4, v5])) = some y0 at f0
      change DataW.trod enc Tryz.prog W base sp true n 3 (List.take (Tryz.prog.cellsOf 3) (List.drop 1 [v0, v1, v2, v3, v4, v5])) = some y1 at f1
      change DataW.trod enc Tryz.prog W base sp true n 4 (List.take (Tryz.prog.cellsOf 4) (List.drop 2 [v0, v1, v2, v3, v4, v5])) = some y2 at f2
      change DataW.trod enc Tryz.prog W base sp true n 34 (List.take (Tryz.prog.cellsOf 34) (List.drop 3 [v0, v1, v2, v3, v4, v5])) = some y3 at f3
      change DataW.trod enc Tryz.prog W base sp true n 44 (List.take (Tryz.prog.cellsOf 44) (List.drop 4 [v0, v1, v2, v3, v4, v5])) = some y4 at f4
      change DataW.trod enc Tryz.prog W base sp true n 4 (List.take (Tryz.prog.cellsOf 4) (List.drop 5 [v0, v1, v2, v3, v4, v5])) = some y5 at f5
      rw [intCells] at f0 f1
      rw [boolCells] at f2 f5
      rw [sliCells] at f3
      rw [sl8Cells] at f4
      exact ⟨v0, v1, v2, v3, v4, v5, y0, y1, y2, y3, y4, y5, n, congrArg Prod.fst hx, hat (i := 0) (by omega), hat (i := 1) (by omega), hat (i := 2) (by omega), hat (i := 3) (by omega), hat (i := 4) (by omega), hat (i := 5) (by omega), f0, f1, f2, f3, f4, f5⟩
end
end Go.Proofs.YtljncdcjkdgkeaaGreatDoor.Big
namespace Go.Proofs.YtljncdcjkdgkeaaGreatDoor.Lp
/-- a node of a law's list; its list of numbers may be of any length -/
def okM (x : ND) : Prop := (∀ z ∈ x.num, in32 z) ∧ (∀ d ∈ x.den, d ≤ 255)
end Go.Proofs.YtljncdcjkdgkeaaGreatDoor.Lp
namespace Go.Proofs.YtljncdcjkdgkeaaGreatDoor.Big
open Go.ChangeShapes Go.WideShapes Go.ChangeAt Go.RowKit Go.Deep Go.Proofs.YtljncdcjkdgkeaaGreatDoor.Lp
section
variable {H : Type} {enc : TypeId × Value → H} {W : World} {base : Nat} {r : Reach} {b0 : Nat}
set_option maxRecDepth 100000 in
theorem nds_rowF {v : Value} {d : DataW H} {p : List MemPlace} (h : DataW.Trod enc Tryz.prog W base (fun _ => true) true 22 v d p) (hv : Value.okWide Tryz.prog W r b0 22 v) :
    ∃ l : List ND, NodesV W v l ∧ ∀ x ∈ l, okM x ∧ Lp.fit x.fl = true := by
  obtain ⟨A0, n0, c0, rfl⟩ := okWide_slice Tryz.underlying22 hv
  obtain ⟨fuel, h⟩ := h
  rcases open_slice Tryz.underlying22 h with ⟨h1, _⟩ | ⟨a, len, cap, m, k, D, Pl, h1, _, h2, h3, h4, h5, h6⟩
  · have h1 : [Value.slice A0 n0 c0] = [Value.slice none 0 0] := h1
    injection h1 with h1
    exact ⟨[], ⟨none, 0, h1, by simp, by omega, fun h => absurd h (by simp)⟩, fun x hx => by cases hx⟩
  · have h1 : [Value.slice A0 n0 c0] = [Value.slice (some a) len cap] := h1
    injection h1 with h1
    injection h1 with e1 e2 e3
    subst e1 e2 e3
    have hm : n0 ≤ m := by rw [h4]; split <;> omega
    have hd : d = .slice ((List.range n0).map D) ((List.range (m - n0)).map fun j => D (n0 + j)) := congrArg Prod.fst h5
    have each : ∀ i, ∃ x : ND, i < n0 → ∃ An cn Ad cd, W.cell? (a.add (i * 6 + 0)) = some (.int .i64 x.var) ∧ W.cell? (a.add (i * 6 + 1)) = some (.int .i64 x.fl) ∧ W.cell? (a.add (i * 6 + 2)) = some (.bool x.em) ∧ W.cell? (a.add (i * 6 + 3)) = some (.slice An x.num.length cn) ∧ W.cell? (a.add (i * 6 + 4)) = some (.slice Ad x.den.length cd) ∧ W.cell? (a.add (i * 6 + 5)) = some (.bool x.kids) ∧
        Lp.Row W (.slice An x.num.length cn) (wV x.num) ∧ Lp.Row W (.slice Ad x.den.length cd) (uV x.den) ∧ okM x ∧ Lp.fit x.fl = true := by
      intro i
      by_cases hi : i < n0
      · obtain ⟨cs', hcs, htr⟩ := h6 i (by omega)
        obtain ⟨v0, v1, v2, v3, v4, v5, y0, y1, y2, y3, y4, y5, fu, hD, c0, c1, c2, c3, c4, c5, t0, t1, t2, t3, t4, t5⟩ := nd_of hcs htr
        rw [ndCells, Go.Deep.add_add] at c0 c1 c2 c3 c4 c5
        have hD : D i = .agg [y0.1, y1.1, y2.1, y3.1, y4.1, y5.1] := hD
        obtain ⟨z0, q0, -, wf0⟩ := DataW.trod_int Tryz.underlying3 t0
        obtain ⟨z1, q1, -, wf1⟩ := DataW.trod_int Tryz.underlying3 t1
        obtain ⟨b2, q2, -⟩ := DataW.trod_bool Tryz.underlying4 t2
        obtain ⟨A3, n3, c3', xs, q3, hrow3, hin3, hlen3⟩ := i32s_row t3
        obtain ⟨A4, n4, c4', ys, q4, hrow4, hin4⟩ := u8s_trod t4
        obtain ⟨b5, q5, -⟩ := DataW.trod_bool Tryz.underlying4 t5
        injection q0 with q0
        injection q1 with q1
        injection q2 with q2
        injection q5 with q5
        subst q0 q1 q2 q3 q4 q5
        obtain ⟨hn3, -⟩ := hrow3.inj
        rw [wV_len] at hn3
        subst hn3
        obtain ⟨hn4, -⟩ := hrow4.inj
        rw [uV_len] at hn4
        subst hn4
        exact ⟨⟨z0, z1, b2, xs, ys, b5⟩, fun _ => ⟨A3, c3', A4, c4', c0, c1, c2, c3, c4, c5, hrow3, hrow4, ⟨hin3, hin4⟩, fit_iff.2 (wf64 wf1)⟩⟩
      · exact ⟨⟨0, 0, false, [], [], false⟩, fun h => absurd h hi⟩
    obtain ⟨f, hf'⟩ := Classical.axiomOfChoice each
    refine ⟨(List.range n0).map f, ⟨some a, c0, by simp, by simpa using h2, by unfold maxLen at h3; exact h3, fun hn => ?_⟩, ?_⟩
    · simp at hn
      obtain ⟨b, off, spot⟩ := a
      obtain ⟨An, cn, Ad, cd, c00, _⟩ := hf' 0 hn
      have hspot : spot = none := by simpa [Addr.add] using World.cell?_spot c00
      subst hspot
      refine ⟨b, off, rfl, fun j x hj => ?_⟩
      have hjn : j < n0 := by simpa using (List.getElem?_eq_some_iff.1 hj).1
      rw [List.getElem?_map, List.getElem?_range hjn] at hj
      injection hj with hj
      subst hj
      obtain ⟨An, cn, Ad, cd, k0, k1, k2, k3, k4, k5, k6, k7, _⟩ := hf' j hjn
      have hadd : ∀ i, (⟨b, off, none⟩ : Addr).add i = ⟨b, off + i, none⟩ := fun i => by unfold Addr.add; split <;> simp_all
      rw [hadd] at k0 k1 k2 k3 k4 k5
      exact ⟨An, cn, Ad, cd, k0, k1, k2, k3, k4, k5, k6, k7⟩
    · intro x hx
      obtain ⟨i, hi, rfl⟩ := List.mem_map.1 hx
      obtain ⟨_, _, _, _, _, _, _, _, _, _, _, _, hb⟩ := hf' i (List.mem_range.1 hi)
      exact hb
end
end Go.Proofs.YtljncdcjkdgkeaaGreatDoor.Big
namespace Go.Proofs.YtljncdcjkdgkeaaGreatDoor.Big
open Go.RowKit

def keyP (k : Nat) : Value := .pointer (some ⟨k, 0, none⟩)
/-- block r is a map with these keys and values -/
def PMap (w : World) (r : Nat) (S : List (Nat × Value)) : Prop :=
  ∃ es clock, w.heap[r]? = some (.map es clock) ∧ es.toList.map (fun e => (e.key, e.val)) = S.map fun p => (keyP p.1, p.2)
def CellsB (w : World) (k : Nat) : Prop := ∃ cs E, w.heap[k]? = some (.cells cs E (0, 0))
def pfind (k : Nat) : List (Nat × Value) → Option (Nat × Value)
  | [] => none
  | p :: S => if p.1 = k then some (0, p.2) else (pfind k S).map fun q => (q.1 + 1, q.2)
/-- a world in which block r alone is another map -/
def MapTo (r : Nat) (w w' : World) : Prop := (∃ es c, w.heap[r]? = some (.map es c)) ∧ ∃ es c, w' = mapWorld w r es c
section
variable {P : Program} {w w' : World} {mt kt et pt : TypeId} {r : Nat} {S : List (Nat × Value)} {j : TypeInfo}
theorem MapTo.far (h : MapTo r w w') {k : Nat} (hk : k ≠ r) : w'.heap[k]? = w.heap[k]? := by
  obtain ⟨⟨es, c, h1⟩, es', c', rfl⟩ := h
  exact mapWorld_far h1 es' c' hk
theorem MapTo.size (h : MapTo r w w') : w'.heap.size = w.heap.size := by
  obtain ⟨⟨es, c, h1⟩, es', c', rfl⟩ := h
  simp [mapWorld]
theorem MapTo.box (h : MapTo r w w') {b : Nat} {E : TypeId} {cs : Array Value} (hb : Box w b E cs) : Box w' b E cs := by
  have hne : b ≠ r := by
    rintro rfl
    obtain ⟨⟨es, c, h1⟩, -⟩ := h
    unfold Box at hb
    rw [hb] at h1; cases h1
  exact (h.far hne).trans hb
theorem MapTo.cells (h : MapTo r w w') {b : Nat} (hb : CellsB w b) : CellsB w' b := by
  obtain ⟨cs, E, hb⟩ := hb
  exact ⟨cs, E, h.box (E := E) (cs := cs) hb⟩
theorem PMap.lt (h : PMap w r S) : r < w.heap.size := by
  obtain ⟨es, c, h1, -⟩ := h
  rcases Nat.lt_or_ge r w.heap.size with h' | h'
  · exact h'
  · rw [Array.getElem?_eq_none h'] at h1; cases h1
theorem PMap.ext (h : PMap w r S) (k : Ext w w') : PMap w' r S := by
  have hl := h.lt
  obtain ⟨es, c, h1, h2⟩ := h
  exact ⟨es, c, (Below.block k r hl).trans h1, h2⟩
theorem PMap.nobox (h : PMap w r S) {b : Nat} {E : TypeId} {cs : Array Value} (hb : Box w b E cs) : b ≠ r := by
  rintro rfl
  obtain ⟨es, c, h1, -⟩ := h
  unfold Box at hb
  rw [hb] at h1; cases h1
theorem CellsB.ext {k : Nat} (h : CellsB w k) (x : Ext w w') : CellsB w' k := by
  obtain ⟨cs, E, h1⟩ := h
  exact ⟨cs, E, Box.ext (E := E) (cs := cs) h1 x⟩
theorem run_equal_ptrs (hk : P.underlying kt = some (.pointer pt)) (hj : P.info? pt = some j) (hsz : j.size ≠ 0) {a b : Nat} (ha : CellsB w a) (hb : CellsB w b) : (Op.equal kt (keyP a) (keyP b)).run P w = .ok (decide (b = a)) w := by
  unfold keyP
  by_cases e : b = a
  · subst e
    rw [run_equal_ptr hk hj]; simp
  · obtain ⟨ca, ta, ha⟩ := ha
    obtain ⟨cb, tb, hb⟩ := hb
    have hne : (⟨a, 0, none⟩ : Addr) ≠ ⟨b, 0, none⟩ := fun h => e (by injection h with h; exact h.symm)
    have h : ∀ d : Nat, (Op.equalIn (d + 1) kt (.pointer (some ⟨a, 0, none⟩)) (.pointer (some ⟨b, 0, none⟩))).run P w = .ok false w := fun d => by
      simp [Op.equalIn, run_underlying hk, sizeOf, typeInfo, hj, hsz, run_sameAddr_other w hne ha hb]
    simp [Op.equal, Op.maxDepth, h 9999, e]
theorem run_findAsking_p (hk : P.underlying kt = some (.pointer pt)) (hj : P.info? pt = some j) (hsz : j.size ≠ 0) (k : Nat) (hkB : CellsB w k) (es : List MapEntry) (S : List (Nat × Value)) (i : Nat) (h : es.map (fun e => (e.key, e.val)) = S.map fun p => (keyP p.1, p.2)) (hS : ∀ p ∈ S, CellsB w p.1) :
    (Instr.findAsking kt (keyP k) es i).run P w = .ok ((pfind k S).map fun q => (i + q.1, q.2)) w := by
  induction es generalizing S i with
  | nil =>
    cases S with
    | nil => simp [Instr.findAsking, pfind]
    | cons p S => simp at h
  | cons e es ih =>
    cases S with
    | nil => simp at h
    | cons p S =>
      simp only [List.map_cons, List.cons.injEq, Prod.mk.injEq] at h
      obtain ⟨⟨h1, h2⟩, h3⟩ := h
      have he := run_equal_ptrs (P := P) (w := w) hk hj hsz hkB (hS p (by simp))
      have hi := ih S (i + 1) h3 (fun q hq => hS q (by simp [hq]))
      unfold pfind
      by_cases e1 : p.1 = k
      · rw [e1] at he h1
        simp only [decide_true] at he
        simp [Instr.findAsking, h1, h2, he, e1]
      · rw [decide_eq_false e1] at he
        rw [if_neg e1]
        simp only [Instr.findAsking, h1, Sem.run_bind, he, Result.andThen, Bool.false_eq_true, if_false, hi]
        congr 1
        cases pfind k S with
        | none => rfl
        | some q => simp; omega
theorem run_findKey_p (hk : P.underlying kt = some (.pointer pt)) (hj : P.info? pt = some j) (hsz : j.size ≠ 0) (k : Nat) (hkB : CellsB w k) (es : List MapEntry) (S : List (Nat × Value)) (h : es.map (fun e => (e.key, e.val)) = S.map fun p => (keyP p.1, p.2)) (hS : ∀ p ∈ S, CellsB w p.1) :
    (Instr.findKey kt (keyP k) es).run P w = .ok (pfind k S) w := by
  cases es with
  | nil =>
    cases S with
    | nil => exact run_findKey_empty hk _
    | cons p S => simp at h
  | cons e es =>
    cases S with
    | nil => simp at h
    | cons p S =>
      have hf := run_findAsking_p hk hj hsz k hkB (e :: es) (p :: S) 0 h hS
      have he : e.key = keyP p.1 := by
        simp only [List.map_cons, List.cons.injEq, Prod.mk.injEq] at h
        exact h.1.1
      have hn : Instr.findNow (.pointer pt) (keyP k) (e :: es) 0 = none := by
        simp [Instr.findNow, he, keyP, Instr.sameNow]
      simp only [Nat.zero_add] at hf
      have hid : ((pfind k (p :: S)).map fun q => (q.1, q.2)) = pfind k (p :: S) := by cases pfind k (p :: S) <;> rfl
      rw [hid] at hf
      simp only [Instr.findKey, Sem.run_bind, run_underlying hk, Result.andThen, hn]
      exact hf
theorem run_lookup_p {z : Value} (hm : P.underlying mt = some (.map kt et)) (hk : P.underlying kt = some (.pointer pt)) (hj : P.info? pt = some j) (hsz : j.size ≠ 0) (hb : PMap w r S) (hS : ∀ p ∈ S, CellsB w p.1) (k : Nat) (hkB : CellsB w k) (hz : (zeroValue et).run P w = .ok z w) :
    (∀ ok, (Instr.lookup mt (.map (some r)) (.pointer (some ⟨k, 0, none⟩)) ok).run P w = .ok (match pfind k S with | some q => (if ok then .tuple #[q.2, .bool true] else q.2) | none => (if ok then .tuple #[z, .bool false] else z)) w) := by
  intro ok
  obtain ⟨es, c, h1, h2⟩ := hb
  have hf := run_findKey_p hk hj hsz k hkB es.toList S h2 hS
  unfold keyP at hf
  cases e : pfind k S with
  | none =>
    rw [e] at hf
    cases ok <;> simp [Instr.lookup, run_underlying hm, Result.andThen, MapKept.run_getObj_map h1, run_checkKey_ptr (n := 9999) hk, hf, hz]
  | some q =>
    rw [e] at hf
    cases ok <;> simp [Instr.lookup, run_underlying hm, Result.andThen, MapKept.run_getObj_map h1, run_checkKey_ptr (n := 9999) hk, hf]
theorem pfind_none_iff {k : Nat} {S : List (Nat × Value)} : pfind k S = none ↔ ∀ p ∈ S, p.1 ≠ k := by
  induction S with
  | nil => simp [pfind]
  | cons p S ih =>
    unfold pfind
    by_cases e : p.1 = k
    · simp [e]
    · simp [e, ih]
/-- a key that is not there -/
theorem run_update_new (hm : P.underlying mt = some (.map kt et)) (hk : P.underlying kt = some (.pointer pt)) (hj : P.info? pt = some j) (hsz : j.size ≠ 0) (hb : PMap w r S) (hS : ∀ p ∈ S, CellsB w p.1) (k : Nat) (hkB : CellsB w k) (hno : ∀ p ∈ S, p.1 ≠ k) (v : Value) :
    ∃ w', (Instr.mapUpdate mt (.map (some r)) (.pointer (some ⟨k, 0, none⟩)) v).run P w = .ok () w' ∧ PMap w' r (S ++ [(k, v)]) ∧ MapTo r w w' := by
  obtain ⟨es, c, h1, h2⟩ := hb
  have hf := run_findKey_p hk hj hsz k hkB es.toList S h2 hS
  rw [pfind_none_iff.2 hno] at hf
  unfold keyP at hf
  refine ⟨mapWorld w r (es.push { key := keyP k, val := v, born := c }) (c + 1), ?_, ⟨_, _, mapWorld_map h1 _ _, ?_⟩, ⟨⟨es, c, h1⟩, _, _, rfl⟩⟩
  · simp [Instr.mapUpdate, run_underlying hm, Result.andThen, MapKept.run_getObj_map h1, run_checkKey_ptr (n := 9999) hk, hf, MapKept.run_setObj_map _ h1, mapWorld, keyP]
  · simp [h2]
/-- a key that is there: the last one -/
theorem run_update_at (hm : P.underlying mt = some (.map kt et)) (hk : P.underlying kt = some (.pointer pt)) (hj : P.info? pt = some j) (hsz : j.size ≠ 0) (k : Nat) (A B : List (Nat × Value)) (v0 : Value) (hb : PMap w r (A ++ (k, v0) :: B)) (hS : ∀ p ∈ A ++ (k, v0) :: B, CellsB w p.1) (hno : ∀ p ∈ A, p.1 ≠ k) (v : Value) :
    ∃ w', (Instr.mapUpdate mt (.map (some r)) (.pointer (some ⟨k, 0, none⟩)) v).run P w = .ok () w' ∧ PMap w' r (A ++ (k, v) :: B) ∧ MapTo r w w' := by
  obtain ⟨es, c, h1, h2⟩ := hb
  have hf := run_findKey_p hk hj hsz k (hS (k, v0) (by simp)) es.toList _ h2 hS
  have hp : pfind k (A ++ (k, v0) :: B) = some (A.length, v0) := by
    clear hS h2 hf
    induction A with
    | nil => simp [pfind]
    | cons p A ih =>
      have h0 : p.1 ≠ k := hno p (by simp)
      simp [pfind, h0, ih (fun q hq => hno q (by simp [hq]))]
  rw [hp] at hf
  unfold keyP at hf
  have hat : es[A.length]? = some { key := keyP k, val := v0, born := ((es[A.length]?).map (·.born)).getD 0 } := by
    have h3 : (es.toList.map (fun e => (e.key, e.val)))[A.length]? = some (keyP k, v0) := by rw [h2]; simp
    rw [List.getElem?_map, Array.getElem?_toList] at h3
    cases e : es[A.length]? with
    | none => rw [e] at h3; cases h3
    | some x =>
      rw [e] at h3
      simp only [Option.map_some, Option.some.injEq, Prod.mk.injEq] at h3
      simp [← h3.1, ← h3.2]
  have hs : (Instr.keyThatStays (keyP k) (.pointer (some ⟨k, 0, none⟩))).run P w = .ok (.pointer (some ⟨k, 0, none⟩)) w := by
    simp [Instr.keyThatStays, Instr.sameBits, keyP]
  have hkey : ((es[A.length]?).map (·.key)).getD (.pointer (some ⟨k, 0, none⟩)) = keyP k := by rw [hat]; rfl
  refine ⟨mapWorld w r (es.modify A.length fun e => { e with key := .pointer (some ⟨k, 0, none⟩), val := v }) c, ?_, ⟨_, _, mapWorld_map h1 _ _, ?_⟩, ⟨⟨es, c, h1⟩, _, _, rfl⟩⟩
  · simp [Instr.mapUpdate, run_underlying hm, Result.andThen, MapKept.run_getObj_map h1, run_checkKey_ptr (n := 9999) hk, hf, hkey, hs, MapKept.run_setObj_map _ h1, mapWorld]
  · apply List.ext_getElem?
    intro i
    have h3 := congrArg (fun l : List (Value × Value) => l[i]?) h2
    simp only [List.getElem?_map, Array.getElem?_toList] at h3
    simp only [List.getElem?_map, Array.getElem?_toList, Array.getElem?_modify]
    by_cases e : A.length = i
    · subst e
      rw [if_pos rfl, hat]
      simp [keyP]
    · rw [if_neg e]
      have hg : (A ++ (k, v0) :: B)[i]? = (A ++ (k, v) :: B)[i]? := by
        rcases Nat.lt_or_ge i A.length with hl | hg
        · rw [List.getElem?_append_left hl, List.getElem?_append_left hl]
        · rw [List.getElem?_append_right hg, List.getElem?_append_right hg]
          obtain ⟨d, hd⟩ : ∃ d, i - A.length = d + 1 := ⟨i - A.length - 1, by omega⟩
          rw [hd]; rfl
      rw [← hg]
      cases e2 : es[i]? with
      | none => rw [e2] at h3; simpa using h3
      | some x => rw [e2] at h3; simpa using h3
end
end Go.Proofs.YtljncdcjkdgkeaaGreatDoor.Big
namespace Go.Proofs.YtljncdcjkdgkeaaGreatDoor.Lp
open Go.RowKit Go.Proofs.YtljncdcjkdgkeaaGreatDoor.Big Go.Proofs.YtljncdcjkdgkeaaGreatDoor.Rt

theorem MapTo.frC {r : Nat} {w w' : World} (h : MapTo r w w') {P : Nat → Prop} (hP : P r) : Fr P w w' := by
  have hs := h.size
  have hf := fun i => h.far (k := i)
  obtain ⟨⟨es, c, h1⟩, es', c', rfl⟩ := h
  refine ⟨rfl, rfl, rfl, by omega, fun k hk hne => hf k (fun e => hne (e ▸ hP)), fun b i z hz => ?_⟩
  by_cases e : b = r
  · subst e
    unfold World.cell? at hz
    rw [h1] at hz
    cases hz
  · exact (World.cell?_of_block (a := ⟨b, i, none⟩) (hf b e)).trans hz
theorem Fr.cellsC {P : Nat → Prop} {w w' : World} (h : Fr P w w') {k : Nat} (hk : CellsB w k) (hn : ¬ P k) : CellsB w' k := by
  obtain ⟨cs, E, h1⟩ := hk
  exact ⟨cs, E, h.row hn h1⟩
theorem PMap_cellsC {w : World} {r : Nat} {S : List (Nat × Value)} (h : PMap w r S) {k : Nat} (hk : CellsB w k) : k ≠ r := by
  obtain ⟨cs, E, h1⟩ := hk
  exact h.nobox (E := E) (cs := cs) h1
theorem pfind_ltC {k : Nat} {S : List (Nat × Value)} (h : ∀ p ∈ S, p.1 < k) : pfind k S = none := pfind_none_iff.2 fun p hp e => by have := h p hp; omega
theorem pfind_atC {k : Nat} {S B : List (Nat × Value)} {v : Value} (h : ∀ p ∈ S, p.1 < k) : pfind k (S ++ (k, v) :: B) = some (S.length, v) := by
  induction S with
  | nil => simp [pfind]
  | cons p S ih =>
    have h0 : p.1 ≠ k := by have := h p (by simp); omega
    simp [pfind, h0, ih (fun q hq => h q (by simp [hq]))]
theorem zeroNC (w : World) : (zeroValue 3).run Tryz.prog w = .ok (.int .i64 0) w := by kernel_rfl
theorem infoNdC : (Tryz.prog.info? 79).map (·.size) = some 6 := by kernel_rfl
end Go.Proofs.YtljncdcjkdgkeaaGreatDoor.Lp
namespace Go.Proofs.YtljncdcjkdgkeaaGreatDoor.Lp
open Go.RowKit Go.Proofs.YtljncdcjkdgkeaaGreatDoor.Big Go.Proofs.YtljncdcjkdgkeaaGreatDoor.Rt

theorem RatsO.frG {P : Nat → Prop} {w w' : World} {lo : Nat} {A : Option Addr} {n c : Nat} {f : Nat → Rat} (x : RatsO w lo A n c f) (k : Fr P w w') (hP : ∀ k, CellsB w k → ¬ P k) : RatsO w' lo A n c f :=
  ⟨x.1, x.2.1, fun hn => by
    obtain ⟨b, e, hr, hb⟩ := x.2.2 hn
    have hr' := hr
    obtain ⟨cs, h1, -⟩ := hr
    exact ⟨b, e, hr'.fr k (hP b ⟨cs, _, h1⟩), hb⟩⟩
theorem TreeI.frG {P : Nat → Prop} {w w' : World} : ∀ {t : CT} {A : Option Addr} {b h : Nat}, TreeI w t A b h → Fr P w w' → (∀ k, CellsB w k → ¬ P k) → TreeI w' t A b h
  | .nil, _, _, _, x, _, _ => x
  | .node .., _, _, _, x, f, hP => by
    obtain ⟨k, L, H, Y, c, m1, m2, e, h1, h2, B, hY, hl, hh⟩ := x
    exact ⟨k, L, H, Y, c, m1, m2, e, h1, h2, f.box B (hP k ⟨_, _, B⟩), ⟨hY.1.frG f hP, hY.2⟩, TreeI.frG hl f hP, TreeI.frG hh f hP⟩
def hgK (hb fb : Nat) : Value := .func (.func 67) #[] #[.pointer (some ⟨hb, 0, none⟩), .pointer (some ⟨fb, 0, none⟩)]
/-- the map's block -/
def PM (mb k : Nat) : Prop := k = mb
def HgPost (mb : Nat) (S : List (Nat × Value)) (z : Int) (b h : Nat) (w : World) (e : Ending) (w' : World) : Prop :=
  e = .returned (.int .i64 z) ∧ (∃ N, PMap w' mb (S ++ N) ∧ ∀ p ∈ N, b ≤ p.1 ∧ p.1 < h ∧ CellsB w' p.1) ∧ Fr (PM mb) w w'
/-- a leaf, or what is wrong at once -/
theorem hg_stop (mb k b h : Nat) (S : List (Nat × Value)) (w w' : World) (z : Int) (v : Value) (hF : Fr (PM mb) w w') (hM : PMap w' mb (S ++ [(k, v)])) (hk : b ≤ k) (hkh : k < h) (hkB : CellsB w' k) : HgPost mb S z b h w (.returned (.int .i64 z)) w' :=
  ⟨rfl, ⟨[(k, v)], hM, fun p hp => by obtain rfl := List.mem_singleton.1 hp; exact ⟨hk, hkh, hkB⟩⟩, hF⟩
set_option maxHeartbeats 2000000 in
set_option maxRecDepth 100000 in
theorem height_lf (mb hb fb k b h lev : Nat) (w : World) (S : List (Nat × Value)) (fl : Int) (em : Bool) (L H Y : Option Addr) (n c : Nat) (B : Bool) (hB : B = true ↔ fl = 0 ∧ L = none ∧ H = none) (hL : ∀ a, L = some a → ∃ x, a = ⟨x, 0, none⟩) (hH : ∀ a, H = some a → ∃ x, a = ⟨x, 0, none⟩)
    (NB : Box w k 79 (NodeC (-1) fl L H em Y n c)) (HB : Box w hb 131 #[.map (some mb)]) (FB : Box w fb 132 #[hgK hb fb]) (hM : PMap w mb S) (hS : ∀ p ∈ S, p.1 < k ∧ CellsB w p.1) (hk : b ≤ k) (hkh : k < h) (hl : lev ≤ 199) :
    Calls Tryz.prog 67 #[.pointer (some ⟨k, 0, none⟩), .int .i64 (lev : Int), .pointer (some ⟨hb, 0, none⟩), .pointer (some ⟨fb, 0, none⟩)] w (HgPost mb S (if B = true then 0 else -1) b h w) := by
  obtain ⟨vr, hvr⟩ : ∃ v : Int, v = -1 := ⟨_, rfl⟩
  rw [← hvr] at NB
  obtain ⟨j, hj, hsz⟩ := Option.map_eq_some_iff.1 infoNdC
  have hsz : j.size ≠ 0 := by omega
  have hnl : ∀ W x, (binOp BinOp.eql 25 (.pointer (some ⟨x, 0, none⟩)) (.pointer none)).run Tryz.prog W = .ok (.bool false) W := fun _ _ => by kernel_rfl
  have hnn : ∀ W, (binOp BinOp.eql 25 (.pointer none) (.pointer none)).run Tryz.prog W = .ok (.bool true) W := fun _ => by kernel_rfl
  have hkB : CellsB w k := ⟨_, _, NB⟩
  have e1 : decide ((200 : Int) < (lev : Int)) = false := by simp; omega
  have hl1 := run_lookup_p (P := Tryz.prog) (mt := 131) Tryz.underlying131 Tryz.underlying25 hj hsz hM (fun p hp => (hS p hp).2) k hkB (zeroNC w) true
  rw [pfind_ltC (fun p hp => (hS p hp).1)] at hl1
  simp only [if_true] at hl1
  obtain ⟨w1, hu1, hM1, hm1⟩ := run_update_new (P := Tryz.prog) (mt := 131) Tryz.underlying131 Tryz.underlying25 hj hsz hM (fun p hp => (hS p hp).2) k hkB (fun p hp e => by have := (hS p hp).1; omega) (.int .i64 (-1))
  have s0 := HB.c0
  have hhb : hb ≠ mb := hM.nobox HB
  have hfb : fb ≠ mb := hM.nobox FB
  have hnb : k ≠ mb := hM.nobox NB
  have HB1 := hm1.box HB
  have FB1 := hm1.box FB
  have NB1 := hm1.box NB
  have hF1 : Fr (PM mb) w w1 := MapTo.frC hm1 rfl
  have hkB1 := hm1.cells hkB
  have HSS : Hid (∀ p ∈ S, p.1 < k ∧ CellsB w p.1) := Lib.hid hS
  have HS1 : Hid (∀ p ∈ S, CellsB w1 p.1) := Lib.hid (fun p hp => hm1.cells (hS p hp).2)
  have s1 := HB1.c0
  have t0 : w1.cell? ⟨k, 0, none⟩ = some (.int .i64 vr) := NB1.cell 0
  subst hvr
  have t1 : w1.cell? ⟨k, 1, none⟩ = some (.int .i64 fl) := NB1.cell 1
  have t2 : w1.cell? ⟨k, 2, none⟩ = some (.pointer L) := NB1.cell 2
  have t3 : w1.cell? ⟨k, 3, none⟩ = some (.pointer H) := NB1.cell 3
  have hl2 := run_lookup_p (P := Tryz.prog) (mt := 131) Tryz.underlying131 Tryz.underlying25 hj hsz hM1 (fun p hp => by
    rcases List.mem_append.1 hp with q | q
    · exact HS1.out p q
    · obtain rfl := List.mem_singleton.1 q
      exact hkB1) k hkB1 (zeroNC w1) false
  rw [pfind_atC (fun p hp => (HSS.out p hp).1)] at hl2
  simp only [Bool.false_eq_true, if_false] at hl2
  clear hm1
  cases B with
  | true =>
    obtain ⟨rfl, rfl, rfl⟩ := hB.1 rfl
    obtain ⟨w2, hu2, hM2, hm2⟩ := run_update_at (P := Tryz.prog) (mt := 131) Tryz.underlying131 Tryz.underlying25 hj hsz k S [] (.int .i64 (-1)) hM1 (fun p hp => by
      rcases List.mem_append.1 hp with q | q
      · exact HS1.out p q
      · obtain rfl := List.mem_singleton.1 q
        exact hkB1) (fun p hp e => by have := (HSS.out p hp).1; omega) (.int .i64 0)
    have hl3 := run_lookup_p (P := Tryz.prog) (mt := 131) Tryz.underlying131 Tryz.underlying25 hj hsz hM2 (fun p hp => by
      rcases List.mem_append.1 hp with q | q
      · exact hm2.cells (HS1.out p q)
      · obtain rfl := List.mem_singleton.1 q
        exact hm2.cells hkB1) k (hm2.cells hkB1) (zeroNC w2) false
    rw [pfind_atC (fun p hp => (HSS.out p hp).1)] at hl3
    simp only [Bool.false_eq_true, if_false] at hl3
    have s2 := (hm2.box HB1).c0
    have hF2 := hF1.trans (MapTo.frC hm2 (P := PM mb) rfl)
    have hkB2 := hm2.cells hkB1
    clear hm2 hl2 hS
    go_enter Tryz.func67, Tryz.ntmps67
    go_wp2_with fail
    go_ret
    exact hg_stop mb k b h S w w2 0 (.int .i64 0) hF2 hM2 hk hkh hkB2
  | false =>
    have hno : fl = 0 → L = none → H = none → False := fun a1 a2 a3 => by have := hB.2 ⟨a1, a2, a3⟩; cases this
    have hend := hg_stop mb k b h S w w1 (-1) (.int .i64 (-1)) hF1 hM1 hk hkh hkB1
    clear hS
    by_cases hf : fl = 0
    · subst hf
      rcases L with _ | a
      · rcases H with _ | a
        · exact absurd (hno rfl rfl rfl) id
        · obtain ⟨x, rfl⟩ := hH a rfl
          go_enter Tryz.func67, Tryz.ntmps67
          go_wp2_with fail
          go_ret
          exact hend
      · obtain ⟨x, rfl⟩ := hL a rfl
        go_enter Tryz.func67, Tryz.ntmps67
        go_wp2_with fail
        go_ret
        exact hend
    · have e2 : (fl == 0) = false := by simpa using hf
      go_enter Tryz.func67, Tryz.ntmps67
      go_wp2_with fail
      go_ret
      exact hend
/-- an inner node that is wrong at once -/
theorem height_no (mb hb fb k b h lev : Nat) (w : World) (S : List (Nat × Value)) (vr fl : Int) (em : Bool) (L H Y : Option Addr) (n c : Nat) (hv : vr ≠ -1) (hno : ¬ (0 ≤ vr ∧ vr ≤ 9999 ∧ em = false ∧ n = 0))
    (NB : Box w k 79 (NodeC vr fl L H em Y n c)) (HB : Box w hb 131 #[.map (some mb)]) (FB : Box w fb 132 #[hgK hb fb]) (hM : PMap w mb S) (hS : ∀ p ∈ S, p.1 < k ∧ CellsB w p.1) (hk : b ≤ k) (hkh : k < h) (hl : lev ≤ 199) :
    Calls Tryz.prog 67 #[.pointer (some ⟨k, 0, none⟩), .int .i64 (lev : Int), .pointer (some ⟨hb, 0, none⟩), .pointer (some ⟨fb, 0, none⟩)] w (HgPost mb S (-1) b h w) := by
  obtain ⟨j, hj, hsz⟩ := Option.map_eq_some_iff.1 infoNdC
  have hsz : j.size ≠ 0 := by omega
  have hnl : ∀ W x, (binOp BinOp.eql 25 (.pointer (some ⟨x, 0, none⟩)) (.pointer none)).run Tryz.prog W = .ok (.bool false) W := fun _ _ => by kernel_rfl
  have hnn : ∀ W, (binOp BinOp.eql 25 (.pointer none) (.pointer none)).run Tryz.prog W = .ok (.bool true) W := fun _ => by kernel_rfl
  have hkB : CellsB w k := ⟨_, _, NB⟩
  have e1 : decide ((200 : Int) < (lev : Int)) = false := by simp; omega
  have hl1 := run_lookup_p (P := Tryz.prog) (mt := 131) Tryz.underlying131 Tryz.underlying25 hj hsz hM (fun p hp => (hS p hp).2) k hkB (zeroNC w) true
  rw [pfind_ltC (fun p hp => (hS p hp).1)] at hl1
  simp only [if_true] at hl1
  obtain ⟨w1, hu1, hM1, hm1⟩ := run_update_new (P := Tryz.prog) (mt := 131) Tryz.underlying131 Tryz.underlying25 hj hsz hM (fun p hp => (hS p hp).2) k hkB (fun p hp e => by have := (hS p hp).1; omega) (.int .i64 (-1))
  have s0 := HB.c0
  have hhb : hb ≠ mb := hM.nobox HB
  have hfb : fb ≠ mb := hM.nobox FB
  have hnb : k ≠ mb := hM.nobox NB
  have HB1 := hm1.box HB
  have FB1 := hm1.box FB
  have NB1 := hm1.box NB
  have hF1 : Fr (PM mb) w w1 := MapTo.frC hm1 rfl
  have hkB1 := hm1.cells hkB
  have HSS : Hid (∀ p ∈ S, p.1 < k ∧ CellsB w p.1) := Lib.hid hS
  have HS1 : Hid (∀ p ∈ S, CellsB w1 p.1) := Lib.hid (fun p hp => hm1.cells (hS p hp).2)
  have s1 := HB1.c0
  have t0 : w1.cell? ⟨k, 0, none⟩ = some (.int .i64 vr) := NB1.cell 0
  have e3 : (vr == -1) = false := by simpa using hv
  have t4 : w1.cell? ⟨k, 4, none⟩ = some (.bool em) := NB1.cell 4
  have t5 : w1.cell? ⟨k, 5, none⟩ = some (.slice Y n c) := NB1.cell 5
  have hend := hg_stop mb k b h S w w1 (-1) (.int .i64 (-1)) hF1 hM1 hk hkh hkB1
  clear hm1 hS
  by_cases g1 : vr < 0
  · have g1' : decide (vr < 0) = true := by simpa using g1
    go_enter Tryz.func67, Tryz.ntmps67
    go_wp2_with fail
    go_ret
    exact hend
  · have g1' : decide (vr < 0) = false := by simpa using g1
    by_cases g2 : 9999 < vr
    · have g2' : decide (9999 < vr) = true := by simpa using g2
      go_enter Tryz.func67, Tryz.ntmps67
      go_wp2_with fail
      go_ret
      exact hend
    · have g2' : decide (9999 < vr) = false := by simpa using g2
      cases em with
      | true =>
        go_enter Tryz.func67, Tryz.ntmps67
        go_wp2_with fail
        go_ret
        exact hend
      | false =>
        have g3 : ((n : Int) != 0) = true := by
          have : n ≠ 0 := fun h => hno ⟨by omega, by omega, rfl, h⟩
          simp; omega
        go_enter Tryz.func67, Tryz.ntmps67
        go_wp2_with fail
        go_ret
        exact hend
set_option maxHeartbeats 2000000 in
set_option maxRecDepth 100000 in
theorem height_in (mb hb fb k b h lev m1 m2 : Nat) (w : World) (S : List (Nat × Value)) (vr fl za zb : Int) (L H Y : Option Addr) (c : Nat) (hv0 : 0 ≤ vr) (hv1 : vr ≤ 9999)
    (NB : Box w k 79 (NodeC vr fl L H false Y 0 c)) (HB : Box w hb 131 #[.map (some mb)]) (FB : Box w fb 132 #[hgK hb fb]) (hM : PMap w mb S) (hS : ∀ p ∈ S, p.1 < k ∧ CellsB w p.1) (hk : b ≤ k) (hk1 : k < m1) (hm12 : m1 ≤ m2) (hm2h : m2 ≤ h) (hl : lev ≤ 199) (ha0 : -1 ≤ za) (ha1 : za < 199) (hb0 : -1 ≤ zb) (hb1 : zb < 199)
    (H1 : ∀ W, PMap W mb (S ++ [(k, .int .i64 (-1))]) → Fr (PM mb) w W → Calls Tryz.prog 67 #[.pointer L, .int .i64 ((lev : Int) + 1), .pointer (some ⟨hb, 0, none⟩), .pointer (some ⟨fb, 0, none⟩)] W (HgPost mb (S ++ [(k, .int .i64 (-1))]) za m1 m2 W))
    (H2 : ∀ W N, PMap W mb (S ++ [(k, .int .i64 (-1))] ++ N) → (∀ p ∈ N, m1 ≤ p.1 ∧ p.1 < m2 ∧ CellsB W p.1) → Fr (PM mb) w W → Calls Tryz.prog 67 #[.pointer H, .int .i64 ((lev : Int) + 1), .pointer (some ⟨hb, 0, none⟩), .pointer (some ⟨fb, 0, none⟩)] W (HgPost mb (S ++ [(k, .int .i64 (-1))] ++ N) zb m2 h W)) :
    Calls Tryz.prog 67 #[.pointer (some ⟨k, 0, none⟩), .int .i64 (lev : Int), .pointer (some ⟨hb, 0, none⟩), .pointer (some ⟨fb, 0, none⟩)] w (HgPost mb S (if 0 ≤ za ∧ 0 ≤ zb then max za zb + 1 else -1) b h w) := by
  obtain ⟨Z, hZ⟩ : ∃ Z, Z = (if 0 ≤ za ∧ 0 ≤ zb then max za zb + 1 else -1) := ⟨_, rfl⟩
  rw [← hZ]
  have HZ := Lib.hid hZ
  clear hZ
  obtain ⟨j, hj, hsz⟩ := Option.map_eq_some_iff.1 infoNdC
  have hsz : j.size ≠ 0 := by omega
  have hnl : ∀ W x, (binOp BinOp.eql 25 (.pointer (some ⟨x, 0, none⟩)) (.pointer none)).run Tryz.prog W = .ok (.bool false) W := fun _ _ => by kernel_rfl
  have hnn : ∀ W, (binOp BinOp.eql 25 (.pointer none) (.pointer none)).run Tryz.prog W = .ok (.bool true) W := fun _ => by kernel_rfl
  have hkB : CellsB w k := ⟨_, _, NB⟩
  have e1 : decide ((200 : Int) < (lev : Int)) = false := by simp; omega
  have hl1 := run_lookup_p (P := Tryz.prog) (mt := 131) Tryz.underlying131 Tryz.underlying25 hj hsz hM (fun p hp => (hS p hp).2) k hkB (zeroNC w) true
  rw [pfind_ltC (fun p hp => (hS p hp).1)] at hl1
  simp only [if_true] at hl1
  obtain ⟨w1, hu1, hM1, hm1⟩ := run_update_new (P := Tryz.prog) (mt := 131) Tryz.underlying131 Tryz.underlying25 hj hsz hM (fun p hp => (hS p hp).2) k hkB (fun p hp e => by have := (hS p hp).1; omega) (.int .i64 (-1))
  have s0 := HB.c0
  have hhb : hb ≠ mb := hM.nobox HB
  have hfb : fb ≠ mb := hM.nobox FB
  have hnb : k ≠ mb := hM.nobox NB
  have HB1 := hm1.box HB
  have FB1 := hm1.box FB
  have NB1 := hm1.box NB
  have hF1 : Fr (PM mb) w w1 := MapTo.frC hm1 rfl
  have hkB1 := hm1.cells hkB
  have HSS : Hid (∀ p ∈ S, p.1 < k ∧ CellsB w p.1) := Lib.hid hS
  have HS1 : Hid (∀ p ∈ S, CellsB w1 p.1) := Lib.hid (fun p hp => hm1.cells (hS p hp).2)
  have s1 := HB1.c0
  have t0 : w1.cell? ⟨k, 0, none⟩ = some (.int .i64 vr) := NB1.cell 0
  have HH1 := Lib.hid H1
  have HH2 := Lib.hid H2
  have e3 : (vr == -1) = false := by simp; omega
  have t4 : w1.cell? ⟨k, 4, none⟩ = some (.bool false) := NB1.cell 4
  have t5 : w1.cell? ⟨k, 5, none⟩ = some (.slice Y 0 c) := NB1.cell 5
  have g1' : decide (vr < 0) = false := by simpa using hv0
  have g2' : decide (9999 < vr) = false := by simp; omega
  have r1 : IntKind.i64.wrap ((lev : Int) + 1) = (lev : Int) + 1 := IntWalk.i64_in _ (by omega)
  clear hm1 hS H1 H2
  go_enter Tryz.func67, Tryz.ntmps67
  go_upto_region 13 with fail
  clear hl1 hu1 t0 t4 t5 s1 g1' g2' e3 e1
  have k0 : ∀ w', Fr (PM mb) w1 w' → w'.cell? ⟨fb, 0, none⟩ = some (.func (.func 67) #[] #[.pointer (some ⟨hb, 0, none⟩), .pointer (some ⟨fb, 0, none⟩)]) := fun w' h => (h.box FB1 hfb).c0
  have k1 : ∀ w', Fr (PM mb) w1 w' → w'.cell? ⟨k, 2, none⟩ = some (.pointer L) := fun w' h => (h.box NB1 hnb).cell 2
  have k2 : ∀ w', Fr (PM mb) w1 w' → w'.cell? ⟨k, 3, none⟩ = some (.pointer H) := fun w' h => (h.box NB1 hnb).cell 3
  have ks := Fr.refl (PM mb) w1
  go_region_held3 (fun w' => Fr (PM mb) w1 w') ((repeat (first | (with_reducible assumption) | (with_reducible apply Fr.drew) | (with_reducible apply Fr.drewN) | (with_reducible refine Fr.trans ?_ (by with_reducible assumption))))) (first
    | (go_at_call 67; (with_reducible refine (HH1.out _ (hM1.ext (by repeat (first | (with_reducible exact Ext.refl _) | (with_reducible apply Ext.drew) | (with_reducible apply Ext.drewN)))) (hF1.trans (by repeat (first | (with_reducible exact Fr.refl _ _) | (with_reducible apply Fr.drew) | (with_reducible apply Fr.drewN))))).mono ?_); rintro e wk ⟨rfl, ⟨N1, hMk, hN1⟩, hFk⟩; (have hFk1 : Fr (PM mb) w1 wk := Fr.trans (by repeat (first | (with_reducible exact Fr.refl _ _) | (with_reducible apply Fr.drew) | (with_reducible apply Fr.drewN))) hFk))
    | (go_at_call 67; (with_reducible refine (HH2.out _ N1 (hMk.ext (by repeat (first | (with_reducible exact Ext.refl _) | (with_reducible apply Ext.drew) | (with_reducible apply Ext.drewN)))) (fun p hp => ⟨(hN1 p hp).1, (hN1 p hp).2.1, (hN1 p hp).2.2.ext (by repeat (first | (with_reducible exact Ext.refl _) | (with_reducible apply Ext.drew) | (with_reducible apply Ext.drewN)))⟩) (hF1.trans (hFk1.trans (by repeat (first | (with_reducible exact Fr.refl _ _) | (with_reducible apply Fr.drew) | (with_reducible apply Fr.drewN)))))).mono ?_); rintro e wm ⟨rfl, ⟨N2, hMm, hN2⟩, hFm⟩; (have hFm1 : Fr (PM mb) wk wm := Fr.trans (by repeat (first | (with_reducible exact Fr.refl _ _) | (with_reducible apply Fr.drew) | (with_reducible apply Fr.drewN))) hFm))
    )
  all_goals (
    have hFw : Fr (PM mb) w wm := hF1.trans (hFk1.trans hFm1)
    have hno : ∀ k, CellsB w k → ¬ PM mb k := fun k hk e => PMap_cellsC hM hk e
    have hCb : CellsB wm k := Fr.cellsC hFw hkB (hno k hkB)
    have hN1m : ∀ p ∈ N1, m1 ≤ p.1 ∧ p.1 < m2 ∧ CellsB wm p.1 := fun p hp => ⟨(hN1 p hp).1, (hN1 p hp).2.1, Fr.cellsC hFm1 (hN1 p hp).2.2 (fun e => PMap_cellsC hMk (hN1 p hp).2.2 e)⟩
    have hSm : ∀ p ∈ S, CellsB wm p.1 := fun p hp => Fr.cellsC hFw (HSS.out p hp).2 (hno _ (HSS.out p hp).2)
    have hMm : PMap wm mb (S ++ (k, .int .i64 (-1)) :: (N1 ++ N2)) := by simpa [List.append_assoc] using hMm
    have hall : ∀ p ∈ S ++ (k, .int .i64 (-1)) :: (N1 ++ N2), CellsB wm p.1 := fun p hp => by
      rcases List.mem_append.1 hp with q | q
      · exact hSm p q
      · rcases List.mem_cons.1 q with q | q
        · rw [q]; exact hCb
        · rcases List.mem_append.1 q with q | q
          · exact (hN1m p q).2.2
          · exact (hN2 p q).2.2
    clear k0 k1 k2 r1 HH1 HH2
    by_cases hz : 0 ≤ za ∧ 0 ≤ zb
    · have hZ1 : Z = max za zb + 1 := by rw [HZ.out, if_pos hz]
      have q1 : decide (za < 0) = false := by simpa using hz.1
      have q2 : decide (zb < 0) = false := by simpa using hz.2
      have q3 : decide ((200 : Int) ≤ max za zb) = false := by rw [decide_eq_false_iff_not]; omega
      have q4 : IntKind.i64.wrap (max za zb + 1) = max za zb + 1 := IntWalk.i64_in _ (by omega)
      obtain ⟨w3, hu3, hM3, hm3⟩ := run_update_at (P := Tryz.prog) (mt := 131) Tryz.underlying131 Tryz.underlying25 hj hsz k S (N1 ++ N2) (.int .i64 (-1)) hMm hall (fun p hp e => by have := (HSS.out p hp).1; omega) (.int .i64 (max za zb + 1))
      have hl3 := run_lookup_p (P := Tryz.prog) (mt := 131) Tryz.underlying131 Tryz.underlying25 hj hsz hM3 (fun p hp => by
        rcases List.mem_append.1 hp with q | q
        · exact hm3.cells (hSm p q)
        · rcases List.mem_cons.1 q with q | q
          · rw [q]; exact hm3.cells hCb
          · rcases List.mem_append.1 q with q | q
            · exact hm3.cells (hN1m p q).2.2
            · exact hm3.cells (hN2 p q).2.2) k (hm3.cells hCb) (zeroNC w3) false
      rw [pfind_atC (fun p hp => (HSS.out p hp).1)] at hl3
      simp only [Bool.false_eq_true, if_false] at hl3
      have s2 := (hFw.box HB hhb).c0
      have s3 := (hm3.box (hFw.box HB hhb)).c0
      have hF3 := hFw.trans (MapTo.frC hm3 (P := PM mb) rfl)
      have hkm := hm3.cells hCb
      have hNN : ∀ p ∈ (k, Value.int .i64 (max za zb + 1)) :: (N1 ++ N2), b ≤ p.1 ∧ p.1 < h ∧ CellsB w3 p.1 := fun p hp => by
        rcases List.mem_cons.1 hp with q | q
        · rw [q]; exact ⟨hk, by show k < h; omega, hkm⟩
        · rcases List.mem_append.1 q with q | q
          · have := hN1m p q
            exact ⟨by omega, by omega, hm3.cells this.2.2⟩
          · have := hN2 p q
            exact ⟨by omega, by omega, hm3.cells this.2.2⟩
      clear hm3 hall hz
      go_wp2_with fail
      go_ret
      exact ⟨by rw [hZ1] <;> rfl, ⟨_, hM3, hNN⟩, hF3⟩
    · have hZ1 : Z = -1 := by rw [HZ.out, if_neg hz]
      have hNN : ∀ p ∈ (k, Value.int .i64 (-1)) :: (N1 ++ N2), b ≤ p.1 ∧ p.1 < h ∧ CellsB wm p.1 := fun p hp => by
        rcases List.mem_cons.1 hp with q | q
        · rw [q]; exact ⟨hk, by show k < h; omega, hCb⟩
        · rcases List.mem_append.1 q with q | q
          · have := hN1m p q
            exact ⟨by omega, by omega, this.2.2⟩
          · have := hN2 p q
            exact ⟨by omega, by omega, this.2.2⟩
      by_cases q1 : za < 0
      · have q1' : decide (za < 0) = true := by simpa using q1
        clear hz q1
        go_wp2_with fail
        go_ret
        exact ⟨by rw [hZ1] <;> rfl, ⟨_, hMm, hNN⟩, hFw⟩
      · have q1' : decide (za < 0) = false := by simpa using q1
        have q2' : decide (zb < 0) = true := by simp; omega
        clear hz q1
        go_wp2_with fail
        go_ret
        exact ⟨by rw [hZ1] <;> rfl, ⟨_, hMm, hNN⟩, hFw⟩)
theorem TreeI.addr {w : World} {t : CT} {A : Option Addr} {b h : Nat} (x : TreeI w t A b h) : ∀ a, A = some a → ∃ k, a = ⟨k, 0, none⟩ := by
  cases t with
  | nil => intro a e; rw [x.1] at e; cases e
  | node vr fl em n y lo hi =>
    obtain ⟨k, L, H, Y, c, m1, m2, e, -⟩ := x
    intro a e'
    rw [e] at e'
    exact ⟨k, (Option.some.inj e').symm⟩
theorem height_b (mb hb fb : Nat) (t : CT) : ∀ (A : Option Addr) (b h lev : Nat) (w : World) (S : List (Nat × Value)), TreeI w t A b h → lev + t.dep ≤ 200 → Box w hb 131 #[.map (some mb)] → Box w fb 132 #[hgK hb fb] → PMap w mb S → (∀ p ∈ S, p.1 < b ∧ CellsB w p.1) →
    Calls Tryz.prog 67 #[.pointer A, .int .i64 (lev : Int), .pointer (some ⟨hb, 0, none⟩), .pointer (some ⟨fb, 0, none⟩)] w (HgPost mb S t.hgt b h w) := by
  induction t with
  | nil =>
    intro A b h lev w S hT hl HB FB hM hS
    obtain ⟨rfl, -⟩ := hT
    have key : Calls Tryz.prog 67 #[.pointer none, .int .i64 (lev : Int), .pointer (some ⟨hb, 0, none⟩), .pointer (some ⟨fb, 0, none⟩)] w (fun e w' => e = .returned (.int .i64 (-1)) ∧ w' = w) := by
      go_enter Tryz.func67, Tryz.ntmps67
      go_wp2_with fail
      go_ret
      exact ⟨rfl, rfl⟩
    refine key.mono ?_
    rintro e w' ⟨rfl, rfl⟩
    exact ⟨rfl, ⟨[], by simpa using hM, fun p hp => by cases hp⟩, Fr.refl _ _⟩
  | node vr fl em n y lo hi iha ihb =>
    intro A b h lev w S hT hl HB FB hM hS
    obtain ⟨k, L, H, Y, c, m1, m2, rfl, h1, h2, NB, hY, hlo, hhi⟩ := hT
    have hd : (CT.node vr fl em n y lo hi).dep = 1 + max lo.dep hi.dep := rfl
    rw [hd] at hl
    have l1 := hlo.le
    have l2 := hhi.le
    have hS' : ∀ p ∈ S, p.1 < k ∧ CellsB w p.1 := fun p hp => ⟨by have := (hS p hp).1; omega, (hS p hp).2⟩
    by_cases hv : vr = -1
    · subst hv
      have e : (CT.node (-1) fl em n y lo hi).hgt = if (decide (fl = 0) && (lo.isNil && hi.isNil)) = true then 0 else -1 := by
        unfold CT.hgt
        rw [if_pos rfl]
        simp only [Bool.and_eq_true, decide_eq_true_eq]
      rw [e]
      refine height_lf mb hb fb k b h lev w S fl em L H Y n c _ ?_ hlo.addr hhi.addr NB HB FB hM hS' h1 (by omega) (by omega)
      simp only [Bool.and_eq_true, decide_eq_true_eq]
      refine and_congr Iff.rfl (and_congr ?_ ?_)
      · rw [hlo.nilA]; cases lo <;> simp [CT.isNil]
      · rw [hhi.nilA]; cases hi <;> simp [CT.isNil]
    · by_cases hg : 0 ≤ vr ∧ vr ≤ 9999 ∧ em = false ∧ n = 0
      · have e : (CT.node vr fl em n y lo hi).hgt = if 0 ≤ lo.hgt ∧ 0 ≤ hi.hgt then max lo.hgt hi.hgt + 1 else -1 := by
          conv => lhs; unfold CT.hgt
          rw [if_neg hv, if_pos hg]
        rw [e]
        obtain ⟨g1, g2, rfl, rfl⟩ := hg
        have a1 := lo.hgt_hi
        have a2 := hi.hgt_hi
        have hkB : CellsB w k := ⟨_, _, NB⟩
        have hno : ∀ i, CellsB w i → ¬ PM mb i := fun i hi e => PMap_cellsC hM hi e
        have hmb : ∀ {W : World} {i : Nat}, b ≤ i → i < h → True := fun _ _ => trivial
        have hkeep : ∀ W, Fr (PM mb) w W → Box W hb 131 #[.map (some mb)] ∧ Box W fb 132 #[hgK hb fb] := fun W hF => ⟨hF.box HB (hM.nobox HB), hF.box FB (hM.nobox FB)⟩
        refine height_in mb hb fb k b h lev m1 m2 w S vr fl lo.hgt hi.hgt L H Y c g1 g2 NB HB FB hM hS' h1 h2 l1 l2 (by omega) lo.hgt_lo (by omega) hi.hgt_lo (by omega) ?_ ?_
        · intro W hW hF
          obtain ⟨q1, q2⟩ := hkeep W hF
          have := iha L m1 m2 (lev + 1) W _ (hlo.frG hF hno) (by omega) q1 q2 hW (fun p hp => by
            rcases List.mem_append.1 hp with q | q
            · exact ⟨by have := (hS' p q).1; omega, Fr.cellsC hF (hS' p q).2 (hno _ (hS' p q).2)⟩
            · obtain rfl := List.mem_singleton.1 q
              exact ⟨h2, Fr.cellsC hF hkB (hno _ hkB)⟩)
          rw [show ((lev + 1 : Nat) : Int) = (lev : Int) + 1 by omega] at this
          exact this
        · intro W N hW hN hF
          obtain ⟨q1, q2⟩ := hkeep W hF
          have := ihb H m2 h (lev + 1) W _ (hhi.frG hF hno) (by omega) q1 q2 hW (fun p hp => by
            rcases List.mem_append.1 hp with q | q
            · rcases List.mem_append.1 q with q | q
              · exact ⟨by have := (hS' p q).1; omega, Fr.cellsC hF (hS' p q).2 (hno _ (hS' p q).2)⟩
              · obtain rfl := List.mem_singleton.1 q
                exact ⟨by show k < m2; omega, Fr.cellsC hF hkB (hno _ hkB)⟩
            · exact ⟨(hN p q).2.1, (hN p q).2.2⟩)
          rw [show ((lev + 1 : Nat) : Int) = (lev : Int) + 1 by omega] at this
          exact this
      · have e : (CT.node vr fl em n y lo hi).hgt = -1 := by
          unfold CT.hgt
          rw [if_neg hv, if_neg hg]
        rw [e]
        exact height_no mb hb fb k b h lev w S vr fl em L H Y n c hv hg NB HB FB hM hS' h1 (by omega) (by omega)
set_option maxHeartbeats 4000000 in
set_option maxRecDepth 100000 in
theorem wellFormed_t (t : CT) (A : Option Addr) (b h : Nat) (w : World) (hT : TreeI w t A b h) (hd : t.dep ≤ 200) :
    Calls Tryz.prog 32 #[.pointer A] w (fun e w' => e = .returned (.bool t.wf) ∧ Ext w w') := by
  obtain ⟨F, hFF⟩ : ∃ F, F = t.wf := ⟨_, rfl⟩
  have HF : Hid (decide (0 ≤ t.hgt) = F) := Lib.hid (by
    rw [hFF]
    cases h1 : t.wf with
    | true => exact decide_eq_true (t.hgt_wf.2 h1)
    | false => exact decide_eq_false (fun h2 => by rw [t.hgt_wf.1 h2] at h1; cases h1))
  rw [← hFF]
  clear hFF
  obtain ⟨Z, hZ⟩ : ∃ Z, Z = t.hgt := ⟨_, rfl⟩
  rw [← hZ] at HF
  have HZ := Lib.hid hZ
  clear hZ
  have hmm := @run_makeMap Tryz.prog
  obtain ⟨V, hV, hM, hB, hF, hE⟩ := boxesM w 131 132
  go_enter Tryz.func32, Tryz.ntmps32
  go_upto_region 3 with fail
  simp only [← hV]
  clear hV hmm
  obtain ⟨mb, hmb⟩ : ∃ x, x = w.heap.size := ⟨_, rfl⟩
  obtain ⟨hb, hhb⟩ : ∃ x, x = w.heap.size + 1 := ⟨_, rfl⟩
  obtain ⟨fb, hfb⟩ : ∃ x, x = w.heap.size + 1 + 1 := ⟨_, rfl⟩
  rw [← hfb, ← hhb]
  rw [← hfb] at hF
  rw [← hhb] at hB
  rw [← hmb] at hM hB
  have hms : w.heap.size ≤ mb := by omega
  have hfs : w.heap.size ≤ fb := by omega
  have n1 : hb ≠ fb := by omega
  have n2 : mb ≠ fb := by omega
  clear hmb hhb hfb
  have f0 := hF.c0
  have f1 := hF.frozen 0
  obtain ⟨K, hK⟩ : ∃ K : Value, K = hgK hb fb := ⟨_, rfl⟩
  have hF2 := hF.set 0 K
  have hB2 : Box (V.setCell ⟨fb, 0, none⟩ K) hb 131 #[.map (some mb)] := hB.far (p := ⟨fb, 0, none⟩) n1 K
  have hM2 : (V.setCell ⟨fb, 0, none⟩ K).heap[mb]? = some (.map #[] 0) := (Below.heap_setCell V ⟨fb, 0, none⟩ K mb n2).trans hM
  have hE2 : Ext w (V.setCell ⟨fb, 0, none⟩ K) := hE.set (p := ⟨fb, 0, none⟩) hfs K
  have hT2 := hT.ext hE2
  go_upto_region 4 with fail
  rw [show Value.func (.func 67) #[] #[.pointer (some ⟨hb, 0, none⟩), .pointer (some ⟨fb, 0, none⟩)] = K from hK.symm]
  generalize (V.setCell ⟨fb, 0, none⟩ K) = V2 at *
  have hF3 : Box V2 fb 132 #[K] := hF2
  rw [hK] at hF3
  clear hF2 f0 f1 hK hF hB hM
  have k0 : V2.cell? ⟨fb, 0, none⟩ = some (.func (.func 67) #[] #[.pointer (some ⟨hb, 0, none⟩), .pointer (some ⟨fb, 0, none⟩)]) := hF3.c0
  go_wp2_with fail
  refine (height_b mb hb fb t A b h 0 _ [] hT2 (by omega) hB2 hF3 ⟨#[], 0, hM2, rfl⟩ (fun p hp => by cases hp)).mono ?_
  rintro e w3 ⟨rfl, -, hFF⟩
  rw [← HZ.out]
  have hx := hFF.ext hE2 (fun b hb => by rw [hb]; exact hms)
  go_wp2_with fail
  go_ret
  exact ⟨by rw [HF.out] <;> rfl, hx⟩
end Go.Proofs.YtljncdcjkdgkeaaGreatDoor.Lp
namespace Go.Proofs.YtljncdcjkdgkeaaGreatDoor.Bld
open Go.RowKit Go.Lib Go.Proofs.YtljncdcjkdgkeaaGreatDoor.Big
abbrev BL := List UInt8

section
theorem sizeB : (Tryz.prog.info? 88).map (·.size) = some 2 := by kernel_rfl

set_option maxHeartbeats 1000000 in
set_option maxRecDepth 100000 in
theorem copyCheck_used (b : Nat) (w : World) (h0 : w.cell? ⟨b, 0, none⟩ = some (.pointer (some ⟨b, 0, none⟩))) :
    Calls Tryz.prog 68 #[.pointer (some ⟨b, 0, none⟩)] w fun e w' => e = .returned (.tuple #[]) ∧ w' = w := by
  obtain ⟨j, hj, _⟩ := Option.map_eq_some_iff.1 sizeB
  go_enter Tryz.func68, Tryz.ntmps68
  go_wp2_with fail
  rw [Lib.run_neq_ptr_same w _ Tryz.underlying86 hj]
  go_wp2_with fail
  go_end0
  exact ⟨rfl, rfl⟩

set_option maxHeartbeats 1000000 in
set_option maxRecDepth 100000 in
theorem copyCheck_fresh (b : Nat) (w : World) (h0 : w.cell? ⟨b, 0, none⟩ = some (.pointer none)) (hsh : w.shape? b = some (88, 2)) (hfz : w.frozen? ⟨b, 0, none⟩ = false) :
    Calls Tryz.prog 68 #[.pointer (some ⟨b, 0, none⟩)] w fun e w' => e = .returned (.tuple #[]) ∧ w' = w.setCell ⟨b, 0, none⟩ (.pointer (some ⟨b, 0, none⟩)) := by
  obtain ⟨j, hj, hjs⟩ := Option.map_eq_some_iff.1 sizeB
  go_enter Tryz.func68, Tryz.ntmps68
  go_wp2_with fail
  rw [Lib.run_to_unsafe w ⟨b, 0, none⟩ Tryz.underlying86 Tryz.underlying160 hj (by rw [hjs]; decide) hsh (Nat.zero_lt_succ 1)]
  simp only [Result.andThen]
  rw [Oper.upon_value]
  go_wp2_with fail
  rw [run_callFunc_extern Tryz.func95 (by kernel_rfl) (by kernel_rfl) (by kernel_rfl) (e := Extern.AbiNoEscape.same) (by kernel_rfl)]
  rw [Lib.run_noEscape]
  simp only [Result.andThen]
  rw [Oper.upon_value]
  go_wp2_with fail
  rw [Lib.run_from_unsafe w ⟨b, 0, none⟩ Tryz.underlying160 Tryz.underlying86 hj hsh (by kernel_rfl)]
  simp only [Result.andThen]
  rw [Oper.upon_value]
  go_wp2_with fail
  go_end0
  exact ⟨rfl, rfl⟩

theorem copyCheck_any (B b : Nat) (bs : List Value) (w : World) (h : Lib.IsBuilder 88 5 B b bs w) :
    Calls Tryz.prog 68 #[.pointer (some ⟨b, 0, none⟩)] w fun e w' => e = .returned (.tuple #[]) ∧ (Lib.BuilderAt 88 5 B b (.pointer (some ⟨b, 0, none⟩)) bs w' ∧ Below B w w' ∧ (∀ k, k ≠ b → w'.heap[k]? = w.heap[k]?) ∧ w'.heap.size = w.heap.size) := by
  rcases h with h | h
  · refine (copyCheck_fresh b w h.cell0 h.shape h.frozen0).mono ?_
    rintro e w' ⟨rfl, rfl⟩
    exact ⟨rfl, h.used _, (Below.refl B w).setCell (p := ⟨b, 0, none⟩) h.1 _, fun k hk => Below.heap_setCell w ⟨b, 0, none⟩ _ k hk, by simp [World.setCell]⟩
  · refine (copyCheck_used b w h.cell0).mono ?_
    rintro e w' ⟨rfl, rfl⟩
    exact ⟨rfl, h, Below.refl B _, fun _ _ => rfl, rfl⟩
theorem infoByte : (Tryz.prog.info? 5).map (fun i => (i.zero, i.size, i.bytes)) = some (some (.int .u8 0), 1, 1) := by kernel_rfl

set_option maxHeartbeats 2000000 in
set_option maxRecDepth 100000 in
theorem WriteString_any (B b : Nat) (bs : List Value) (s : ByteArray) (w : World) (h : Lib.IsBuilder 88 5 B b bs w) (hlen : bs.length + s.size ≤ 140737488355328) (hBw : B ≤ w.heap.size) :
    Calls Tryz.prog 35 #[.pointer (some ⟨b, 0, none⟩), .string s] w fun e w' => e = .returned (.tuple #[.int .i64 s.size, .nilIface]) ∧ (Lib.BuilderAt 88 5 B b (.pointer (some ⟨b, 0, none⟩)) (bs ++ Lib.strCells s) w' ∧ Below B w w' ∧ w.heap.size ≤ w'.heap.size ∧ (∀ k E cs, k ≠ b → E ≠ 5 → Box w k E cs → Box w' k E cs)) := by
  obtain ⟨i0, hi, hz0, hz1, hz2⟩ := info_parts infoByte
  go_enter Tryz.func35, Tryz.ntmps35
  go_wp2_with fail
  refine (copyCheck_any B b bs _ h).mono ?_
  rintro e w1 ⟨rfl, h1, hb1, hkeep1, hsz1⟩
  have HK1 := Lib.hid hkeep1
  clear hkeep1
  obtain ⟨hB, v, hbk, hown, hne⟩ := h1
  have c0 : w1.cell? ⟨b, 0, none⟩ = some (.pointer (some ⟨b, 0, none⟩)) := by rw [Lib.cell_of_heap hbk]; rfl
  have c1 : w1.cell? ⟨b, 1, none⟩ = some v := by rw [Lib.cell_of_heap hbk]; rfl
  go_wp2_with (at_builtin; refine Lib.wpList_append_own_string _ rfl _ _ 44 9 rfl B 5 i0 Tryz.underlying44 Tryz.underlying9 hi hz0 hz1 hz2 _ _ _ rfl hown s rfl ?c3 ?c4 ?c5 ?_)
  case c3 => unfold maxLen; omega
  case c4 => omega
  case c5 => have := hb1.size; omega
  intro v' w2 hown' hgrow _
  have hlt : b < w1.heap.size := by
    rcases Nat.lt_or_ge b w1.heap.size with h' | h'
    · exact h'
    · simp [Array.getElem?_eq_none h'] at hbk
  have hb2 : w2.heap[b]? = some (.cells #[.pointer (some ⟨b, 0, none⟩), v] 88 (0, 0)) := by
    rw [hgrow.block b hlt (fun e => hne e.symm)]
    exact hbk
  have d0 : w2.cell? ⟨b, 0, none⟩ = some (.pointer (some ⟨b, 0, none⟩)) := by rw [Lib.cell_of_heap hb2]; rfl
  have d1 : w2.cell? ⟨b, 1, none⟩ = some v := by rw [Lib.cell_of_heap hb2]; rfl
  have f1 : w2.frozen? ⟨b, 1, none⟩ = false := Lib.frozen_of_heap hb2 1
  obtain ⟨ao, n', cap, rfl⟩ : ∃ ao n' cap, v' = .slice ao n' cap := by
    rcases hown'.2 with ⟨hv, _⟩ | ⟨g, cap, cur, hv, _⟩
    · exact ⟨_, _, _, hv⟩
    · exact ⟨_, _, _, hv⟩
  go_wp2_with fail
  go_ret2
  refine ⟨rfl, ?_, ?_, ?_, ?_⟩
  · exact Lib.BuilderAt.put (T := 88) (e := 5) hB hb2 (bs' := bs ++ Lib.strCells s) (by simpa [Lib.strCells_length] using hown') (by decide)
  · exact (hb1.grown hgrow (by have := hb1.size; omega) (fun k hk => (hown.lt k hk).1)).setCell (p := ⟨b, 1, none⟩) hB _
  · have := hgrow.size; simp [World.setCell]; omega
  · intro k E cs hkb hE hbox
    have hbox1 : Box w1 k E cs := (HK1.out k hkb).trans hbox
    have hrow : some k ≠ v.ownBlock := by
      intro e
      rcases hown.2 with ⟨hv, _⟩ | ⟨g, cap, cur, hv, _, hg, _⟩
      · rw [hv] at e; cases e
      · rw [hv] at e
        injection e with e
        subst e
        unfold Box at hbox1
        rw [hg] at hbox1
        injection hbox1 with hbox1
        injection hbox1 with _ h2
        exact hE h2.symm
    have hbox2 : Box w2 k E cs := (hgrow.block k hbox1.lt hrow).trans hbox1
    exact hbox2.far (p := ⟨b, 1, none⟩) hkb _
end
theorem byteCells_append (a b : List UInt8) : Lib.byteCells (a ++ b) = Lib.byteCells a ++ Lib.byteCells b := by simp [Lib.byteCells]
theorem byteCells_len (l : List UInt8) : (Lib.byteCells l).length = l.length := by simp [Lib.byteCells]
/-- a builder in block b that holds the bytes X -/
def IsB (B b : Nat) (X : BL) (w : World) : Prop := Lib.IsBuilder 88 5 B b (Lib.byteCells X) w
theorem IsB.ext {B b : Nat} {X : BL} {w w' : World} (h : IsB B b X w) (k : Ext w w') : IsB B b X w' := by
  have key : ∀ p, Lib.BuilderAt 88 5 B b p (Lib.byteCells X) w → Lib.BuilderAt 88 5 B b p (Lib.byteCells X) w' := by
    rintro p ⟨h1, v, h2, h3, h4⟩
    exact ⟨h1, v, (Below.block k b (Box.lt (w := w) (E := 88) h2)).trans h2, ownsRow_ext h3 k, h4⟩
  exact h.imp (key _) (key _)
theorem IsB.fresh (w : World) : IsB w.heap.size w.heap.size [] (w.alloc (.cells #[.pointer none, .slice none 0 0] 88)) := Lib.fresh_isBuilder 88 5 w
def WrPost (B b : Nat) (X : BL) (w : World) (e : Ending) (w' : World) : Prop := (∃ n, e = .returned (.tuple #[.int .i64 n, .nilIface])) ∧ IsB B b X w' ∧ Below B w w' ∧ w.heap.size ≤ w'.heap.size ∧ (∀ k E cs, k ≠ b → E ≠ 5 → Box w k E cs → Box w' k E cs)
theorem Write_any (B b : Nat) (X : BL) (s : ByteArray) (w : World) (h : IsB B b X w) (hlen : X.length + s.size ≤ 140737488355328) (hB : B ≤ w.heap.size) : Calls Tryz.prog 35 #[.pointer (some ⟨b, 0, none⟩), .string s] w (WrPost B b (X ++ s.data.toList) w) := by
  refine (WriteString_any B b _ s w h (by rw [byteCells_len]; exact hlen) hB).mono ?_
  rintro e w' ⟨rfl, h1, h2, h3, h4⟩
  refine ⟨⟨_, rfl⟩, ?_, h2, h3, h4⟩
  show Lib.IsBuilder _ _ _ _ _ _
  rw [byteCells_append]
  exact .inr h1
end Go.Proofs.YtljncdcjkdgkeaaGreatDoor.Bld
namespace Go.Proofs.YtljncdcjkdgkeaaGreatDoor.Lp
open Go.RowKit Go.Proofs.YtljncdcjkdgkeaaGreatDoor.Big Go.Proofs.YtljncdcjkdgkeaaGreatDoor.Rt Go.Proofs.YtljncdcjkdgkeaaGreatDoor.Bld

def leafW (em : Bool) : List UInt8 := if em = true then [101, 109, 112, 116, 121] else [98, 111, 117, 110, 100]
def numsT (y : Nat → Rat) : Nat → List UInt8
  | 0 => []
  | n + 1 => numsT y n ++ (32 :: ratText (y n))
def leafT (em : Bool) (y : Nat → Rat) (n : Nat) : List UInt8 := leafW em ++ numsT y n ++ [10]
theorem ratText_len {q : Rat} {k : Nat} (hk : 0 < k) (h : QB k q) : (ratText q).length ≤ 20 * k + 3 := by
  have h1 := itoa_len hk h.1
  have h2 := itoa_len hk h.2
  unfold ratText
  split
  · omega
  · rw [List.length_append, List.length_cons]
    omega
theorem numsT_len {y : Nat → Rat} {n k : Nat} (hk : 0 < k) (h : ∀ j, j < n → QB k (y j)) : (numsT y n).length ≤ n * (20 * k + 4) := by
  induction n with
  | zero => simp [numsT]
  | succ n ih =>
    have h1 := ih (fun j hj => h j (by omega))
    have h2 := ratText_len hk (h n (by omega))
    show (numsT y n ++ (32 :: ratText (y n))).length ≤ _
    rw [List.length_append, List.length_cons, Nat.add_mul]
    omega
/-- what is kept besides the builder and its bytes -/
def KeepB (b : Nat) (w w' : World) : Prop := ∀ k E cs, k ≠ b → E ≠ 5 → Box w k E cs → Box w' k E cs
theorem KeepB.of {b : Nat} {w w' : World} (h : Ext w w') : KeepB b w w' := fun k E cs _ _ hB => hB.ext h
theorem KeepB.trans {b : Nat} {w w' w'' : World} (h : KeepB b w w') (k : KeepB b w' w'') : KeepB b w w'' := fun i E cs h1 h2 h3 => k i E cs h1 h2 (h i E cs h1 h2 h3)
/-- what a call leaves that writes to the builder -/
def EncP (w0 : World) (b : Nat) (X : List UInt8) (w : World) (e : Ending) (w' : World) : Prop := e = .returned (.tuple #[]) ∧ IsB w0.heap.size b X w' ∧ Ext w0 w' ∧ w.heap.size ≤ w'.heap.size ∧ KeepB b w w'
theorem ext_of_below {w0 w w' : World} (h : Ext w0 w) (k : Below w0.heap.size w w') : Ext w0 w' := Below.trans h k
set_option maxHeartbeats 2000000 in
set_option maxRecDepth 100000 in
theorem write_leaf (w0 w : World) (b tb : Nat) (fv : Value) (X : List UInt8) (fl : Int) (em : Bool) (A : Option Addr) (ny c K : Nat) (y : Nat → Rat) (hE : Ext w0 w) (hB : IsB w0.heap.size b X w) (hX : X.length ≤ 65536) (hT : Box w0 tb 79 (NodeC (-1) fl none none em A ny c)) (hY : RatsV w0 A ny c y) (hK0 : 0 < K) (hK : K ≤ 1000) (hny : ny ≤ 1000) (hq : ∀ j, j < ny → QB K (y j)) (htab : TabOK w0) :
    Calls Tryz.prog 33 #[.pointer (some ⟨tb, 0, none⟩), .pointer (some ⟨b, 0, none⟩), fv] w (EncP w0 b (X ++ leafT em y ny) w) := by
  have HQ := Lib.hid hq
  have HK := Lib.hid hK0
  clear hq
  go_enter Tryz.func33, Tryz.ntmps33
  go_wp2_with fail
  refine (Tryz.Builder_Len _ b _ w hB).mono ?_
  rintro e w1 ⟨rfl, rfl⟩
  have i1 : decide ((65536 : Int) < ((Lib.byteCells X).length : Int)) = false := by rw [Bld.byteCells_len]; simp; omega
  have t0 : w1.cell? ⟨tb, 0, none⟩ = some (.int .i64 (-1)) := hE.cell (hT.cell 0)
  have t4 : w1.cell? ⟨tb, 4, none⟩ = some (.bool em) := hE.cell (hT.cell 4)
  go_upto_if 44 with fail
  rename_i hK'
  obtain ⟨WS, hWS⟩ : ∃ s : ByteArray, s = ⟨(leafW em).toArray⟩ := ⟨_, rfl⟩
  have hws : WS.size = 5 := by rw [hWS]; cases em <;> rfl
  have HWS : Hid (WS.data.toList = leafW em) := Lib.hid (by rw [hWS])
  go_cut [4] (fun v4 wx => v4 = .string WS ∧ wx = w1)
  case first =>
    cases em with
    | true =>
      go_wp2_with fail
      go_meet
      exact ⟨by rw [hWS]; rfl, rfl⟩
    | false =>
      go_wp2_with fail
      go_meet
      exact ⟨by rw [hWS]; rfl, rfl⟩
  case rest =>
  obtain ⟨rfl, rfl⟩ := hcut
  refine hK' _ _ ?_
  clear hK' t0 t4 i1 hWS
  go_wp2_with fail
  refine (Write_any _ b X WS _ hB (by omega) hE.size).mono ?_
  rintro e w2 ⟨⟨n2, rfl⟩, hB2, hb2, hs2, hk2⟩
  rw [HWS.out] at hB2
  have hE2 := ext_of_below hE hb2
  have t5 : w2.cell? ⟨tb, 5, none⟩ = some (.slice A ny c) := hE2.cell (hT.cell 5)
  have hYc := hY.1
  have HKP : Hid (KeepB b wc w2) := Lib.hid hk2
  clear hb2 hk2 hB hws
  go_upto_region 10 with fail
  clear t5
  go_loopw [52] (fun i wr => ∃ j : Nat, j ≤ ny ∧ i = .int .i64 j ∧ IsB w0.heap.size b (X ++ leafW em ++ numsT y j) wr ∧ Ext w0 wr ∧ wc.heap.size ≤ wr.heap.size ∧ Hid (KeepB b wc wr)) (fun i _ => ny - (intOf i).toNat)
  case atStart => exact ⟨0, by omega, rfl, by show IsB _ _ (_ ++ []) _; rw [List.append_nil]; exact hB2, hE2, hs2, HKP⟩
  case round =>
    clear hB2 hE2 hs2 HKP
    obtain ⟨j, hj, rfl, hBr, hEr, hsr, HKr⟩ := hrel
    have hnl := numsT_len (n := j) HK.out (fun i hi => HQ.out i (by omega))
    have hnb : (X ++ leafW em ++ numsT y j).length ≤ 100000000 := by
      have h1 : j * (20 * K + 4) ≤ 1000 * 20004 := Nat.mul_le_mul (by omega) (by omega)
      have h2 : (leafW em).length = 5 := by cases em <;> rfl
      rw [List.length_append, List.length_append]
      omega
    by_cases hlt : j < ny
    · obtain ⟨yb, rfl, hR⟩ := hY.2.2 (by omega)
      obtain ⟨p3, A3, m3, c3, p3', A3', m3', c3', a0, a1, a2, a3, hr3⟩ := (hR.ext hEr).at hlt
      have i3 : (0 : Int) ≤ (j : Int) := by omega
      have i4 : (j : Int) < (ny : Int) := by omega
      go_upto_region 12 with fail
      have XB := Box.new wr 58 #[.bool p3, .slice A3 m3 c3, .bool p3', .slice A3' m3' c3']
      have hxT : Ext wr (wr.alloc (.cells #[.bool p3, .slice A3 m3 c3, .bool p3', .slice A3' m3' c3'] 58)) := (Ext.refl wr).alloc _
      generalize (wr.alloc (.cells #[.bool p3, .slice A3 m3 c3, .bool p3', .slice A3' m3' c3'] 58)) = T at *
      obtain ⟨xb, hxb⟩ : ∃ x, x = wr.heap.size := ⟨_, rfl⟩
      rw [← hxb] at XB ⊢
      clear hxb a0 a1 a2 a3
      have hxB : RatB T (.agg #[.bool p3, .slice A3 m3 c3, .bool p3', .slice A3' m3' c3']) (y j) K := ⟨hr3.ext hxT, HQ.out j hlt⟩
      have x0 := XB.c0
      have x1 := XB.c1
      have x2 := XB.c2
      have x3 := XB.c3
      obtain ⟨S, hS⟩ : ∃ S : ByteArray, S = ⟨(ratText (y j)).toArray⟩ := ⟨_, rfl⟩
      have hSl : S.size ≤ 20 * K + 3 := by rw [hS]; show (ratText (y j)).toArray.size ≤ _; simpa using ratText_len HK.out (HQ.out j hlt)
      have HS : Hid (S.data.toList = ratText (y j)) := Lib.hid (by rw [hS])
      have hcall := RatText_b _ (y j) K _ hxB (by omega) ((htab.ext hEr).ext hxT)
      rw [show StrPost T (ratText (y j)) = (fun e w' => e = .returned (.string S) ∧ Ext T w') by funext e w'; unfold StrPost; rw [hS]] at hcall
      have hno : ¬ 9223372036854775807 < 1 + S.size := by omega
      clear hS
      go_wp2_with fail
      refine hcall.mono ?_
      rintro e w5 ⟨rfl, hx5⟩
      clear hcall x0 x1 x2 x3
      go_wp2_with fail
      have hBT := (hBr.ext hxT).ext hx5
      have hE5 := (hEr.trans hxT).trans hx5
      have hs5 : wr.heap.size ≤ w5.heap.size := (hxT.trans hx5).size
      have hsz : (({ data := #[32] } : ByteArray) ++ S).size = 1 + S.size := by rw [ByteArray.size_append]; rfl
      have hdt : (({ data := #[32] } : ByteArray) ++ S).data.toList = 32 :: ratText (y j) := by rw [ByteArray.data_append, Array.toList_append, HS.out]; rfl
      refine (Write_any _ b _ _ _ hBT (by rw [hsz]; omega) hE5.size).mono ?_
      rintro e w6 ⟨⟨n6, rfl⟩, hB6, hb6, hs6, hk6⟩
      rw [hdt, List.append_assoc] at hB6
      have hE6 := ext_of_below hE5 hb6
      have HK6 : Hid (KeepB b wc w6) := Lib.hid ((HKr.out.trans (KeepB.of (hxT.trans hx5))).trans hk6)
      have hs7 : wc.heap.size ≤ w6.heap.size := by omega
      clear hBT hE5 hs5 hsz hdt hb6 hs6 hk6 hx5 hxT hBr hEr
      go_wp2_with fail
      go_roundw
      case rel => first | exact ⟨j + 1, by omega, by go_num, hB6, hE6, hs7, HK6⟩ | ((repeat (apply Exists.intro (α := Value))); exact ⟨⟨j + 1, by omega, by go_num, hB6, hE6, hs7, HK6⟩, rfl⟩)
      case measure => simp [intOf]; omega
    · obtain rfl : j = ny := by omega
      go_wp2_with fail
      refine (Write_any _ b _ ⟨#[10]⟩ _ hBr (by show _ + 1 ≤ _; omega) hEr.size).mono ?_
      rintro e w6 ⟨⟨n6, rfl⟩, hB6, hb6, hs6, hk6⟩
      go_wp2_with fail
      go_end0
      refine ⟨rfl, ?_, ext_of_below hEr hb6, by omega, HKr.out.trans hk6⟩
      have e1 : X ++ leafT em y j = X ++ leafW em ++ numsT y j ++ [10] := by unfold leafT; simp
      rw [e1]
      exact hB6
end Go.Proofs.YtljncdcjkdgkeaaGreatDoor.Lp
namespace Go.Proofs.YtljncdcjkdgkeaaGreatDoor.Lp
open Go.RowKit Go.Proofs.YtljncdcjkdgkeaaGreatDoor.Big Go.Proofs.YtljncdcjkdgkeaaGreatDoor.Rt Go.Proofs.YtljncdcjkdgkeaaGreatDoor.Bld

def EnPost (wf : Bool) (T : List UInt8) (w : World) (e : Ending) (w' : World) : Prop := Ext w w' ∧ ((wf = true ∧ e = .returned (.tuple #[.string ⟨T.toArray⟩, .int .i64 0])) ∨ (wf = false ∧ e = .returned (.tuple #[.string ⟨#[]⟩, .int .i64 3])))
set_option maxHeartbeats 2000000 in
set_option maxRecDepth 100000 in
theorem Encode_any (t : Value) (wf : Bool) (T : List UInt8) (w : World) (hT : T.length ≤ 65536)
    (hwf : ∀ W, Ext w W → Calls Tryz.prog 32 #[t] W (fun e w' => e = .returned (.bool wf) ∧ Ext W w'))
    (hwr : wf = true → ∀ (w0 W : World) (b fb : Nat), Ext w w0 → Ext w0 W → IsB w0.heap.size b [] W → w0.heap.size ≤ fb → w0.heap.size ≤ b → fb ≠ b → Box W fb 89 #[.func (.func 33) #[] #[.pointer (some ⟨b, 0, none⟩), .pointer (some ⟨fb, 0, none⟩)]] →
      Calls Tryz.prog 33 #[t, .pointer (some ⟨b, 0, none⟩), .pointer (some ⟨fb, 0, none⟩)] W (EncP w0 b T W)) :
    Calls Tryz.prog 12 #[t] w (EnPost wf T w) := by
  have HWR := Lib.hid hwr
  clear hwr
  go_enter Tryz.func12, Tryz.ntmps12
  go_wp2_with fail
  refine (hwf w (Ext.refl w)).mono ?_
  rintro e w2 ⟨rfl, hE2⟩
  clear hwf
  cases wf with
  | false =>
    go_wp2_with fail
    refine bodyPost_ret (v := .tuple #[.string ⟨#[]⟩, .int .i64 3]) (by simp [results, Tryz.results12, go_sem]) rfl ?_
    exact ⟨hE2, .inr ⟨rfl, rfl⟩⟩
  | true =>
  go_upto_region 4 with fail
  have hB3 := IsB.fresh w2
  have hx3 : Ext w2 (w2.alloc (.cells #[.pointer none, .slice none 0 0] 88)) := (Ext.refl w2).alloc _
  generalize (w2.alloc (.cells #[.pointer none, .slice none 0 0] 88)) = W3 at *
  obtain ⟨b, hb⟩ : ∃ x, x = w2.heap.size := ⟨_, rfl⟩
  have hB3' : IsB w2.heap.size b [] W3 := by rw [hb]; exact hB3
  rw [← hb]
  have hbw : w2.heap.size ≤ b := by omega
  have hb3 : b < W3.heap.size := by
    rcases hB3' with h | h
    · exact h.lt
    · exact h.lt
  clear hb hB3
  go_upto_region 5 with fail
  have FB := Box.new W3 89 #[.nilFunc]
  have hxf : Ext W3 (W3.alloc (.cells #[.nilFunc] 89)) := (Ext.refl W3).alloc _
  generalize (W3.alloc (.cells #[.nilFunc] 89)) = W4 at *
  obtain ⟨fb, hfb⟩ : ∃ x, x = W3.heap.size := ⟨_, rfl⟩
  rw [← hfb] at FB ⊢
  have hfw : W3.heap.size ≤ fb := by omega
  have hfne : fb ≠ b := by omega
  have hf2 : w2.heap.size ≤ fb := by have := hx3.size; omega
  clear hfb
  obtain ⟨K, hKK⟩ : ∃ K : Value, K = .func (.func 33) #[] #[.pointer (some ⟨b, 0, none⟩), .pointer (some ⟨fb, 0, none⟩)] := ⟨_, rfl⟩
  have f0 := FB.c0
  have f1 := FB.frozen 0
  have FB5 := FB.set 0 K
  have hx5 : Ext W3 (W4.setCell ⟨fb, 0, none⟩ K) := hxf.set (p := ⟨fb, 0, none⟩) hfw K
  go_upto_region 6 with fail
  rw [← hKK]
  generalize (W4.setCell ⟨fb, 0, none⟩ K) = W5 at *
  subst hKK
  have hB5 := hB3'.ext hx5
  have hE5 := hx3.trans hx5
  have k0 := FB5.c0
  clear f0 f1 FB hxf hB3' hx3 hx5
  have hcall := HWR.out (by first | rfl | trivial) w2 W5 b fb hE2 hE5 hB5 hf2 hbw hfne FB5
  go_wp2_with fail
  refine hcall.mono ?_
  rintro e w6 ⟨rfl, hB6, hE6, hs6, -⟩
  clear hcall k0
  go_wp2_with fail
  refine (Tryz.Builder_Len _ b _ w6 hB6).mono ?_
  rintro e w7 ⟨rfl, rfl⟩
  have i1 : decide ((65536 : Int) < ((Lib.byteCells T).length : Int)) = false := by rw [Bld.byteCells_len]; simp; omega
  obtain ⟨S, hS⟩ : ∃ S : ByteArray, S = ⟨T.toArray⟩ := ⟨_, rfl⟩
  have hstr := Tryz.Builder_String_any w2.heap.size b T w7 hB6 hE6.size
  rw [← hS] at hstr
  have HS := Lib.hid hS
  clear hS
  go_wp2_with fail
  refine hstr.mono ?_
  rintro e w8 ⟨rfl, hx8⟩
  have hE8 := hE2.trans (ext_of_below hE6 hx8)
  clear hstr i1
  go_wp2_with fail
  refine bodyPost_ret (v := .tuple #[.string S, .int .i64 0]) (by simp [results, Tryz.results12, go_sem]) rfl ?_
  exact ⟨hE8, .inl ⟨rfl, by rw [HS.out]⟩⟩
end Go.Proofs.YtljncdcjkdgkeaaGreatDoor.Lp
namespace Go.Proofs.YtljncdcjkdgkeaaGreatDoor.Lp
open Go.RowKit Go.Proofs.YtljncdcjkdgkeaaGreatDoor.Big Go.Proofs.YtljncdcjkdgkeaaGreatDoor.Rt Go.Proofs.YtljncdcjkdgkeaaGreatDoor.Bld
open Go.Lib (itoa)

theorem Ext.growC (w : World) (os : Array Obj) : Ext w (Go.Sort.grow w os) := ⟨rfl, rfl, rfl, by simp [Go.Sort.grow], fun k hk => by simp [Go.Sort.grow, Array.getElem?_append_left hk]⟩
theorem ItoaC (n : Int) (w : World) (hn : fit n = true) (htab : TabOK w) : Calls Tryz.prog 36 #[.int .i64 n] w (fun e w' => e = .returned (.string ⟨(itoa n).toArray⟩) ∧ Ext w w') := by
  obtain ⟨h1, h2⟩ := fit_iff.1 hn
  refine (Tryz.strconv_Itoa n h1 h2 w htab).mono ?_
  rintro e w' ⟨rfl, k, os, rfl⟩
  exact ⟨rfl, ((Ext.refl w).drewN k).trans (Ext.growC _ os)⟩
theorem fit_B {z : Int} (h : fit z = true) : B 3 z := by
  obtain ⟨h1, h2⟩ := fit_iff.1 h
  unfold B
  have : pw 3 = 79228162514264337593543950336 := by decide
  omega
theorem fit_len {z : Int} (h : fit z = true) : (itoa z).length ≤ 31 := itoa_len (k := 3) (by decide) (fit_B h)
/-- the line of an inner node -/
def inT (vr fl : Int) : List UInt8 := [115, 112, 108, 105, 116, 32] ++ (itoa vr ++ (32 :: (itoa fl ++ [10])))
def treeT : CT → List UInt8
  | .nil => []
  | .node vr fl em n y a b => if 0 ≤ vr then inT vr fl ++ (treeT a ++ treeT b) else leafT em y n
def wrK (b fb : Nat) : Value := .func (.func 33) #[] #[.pointer (some ⟨b, 0, none⟩), .pointer (some ⟨fb, 0, none⟩)]
def EncS (w0 : World) (fb : Nat) (K : Value) (w' : World) : Prop := Ext w0 w' ∧ w'.cell? ⟨fb, 0, none⟩ = some K
theorem EncS.drew {w0 w : World} {fb : Nat} {K : Value} (h : EncS w0 fb K w) : EncS w0 fb K w.drew := ⟨h.1.drew, h.2⟩
theorem EncS.drewN {w0 w : World} {fb : Nat} {K : Value} (h : EncS w0 fb K w) (n : Nat) : EncS w0 fb K (w.drewN n) := ⟨h.1.drewN n, h.2⟩
set_option maxHeartbeats 2000000 in
set_option maxRecDepth 100000 in
theorem write_in (w0 w : World) (b fb tb : Nat) (X ta tz : List UInt8) (vr fl : Int) (em : Bool) (L H A : Option Addr) (ny c : Nat) (hE : Ext w0 w) (hB : IsB w0.heap.size b X w) (hX : X.length ≤ 65536) (NB : Box w0 tb 79 (NodeC vr fl L H em A ny c)) (hv0 : 0 ≤ vr) (hv1 : fit vr = true) (hf : fit fl = true) (FB : Box w fb 89 #[wrK b fb]) (hfb : fb ≠ b) (htab : TabOK w0)
    (H1 : ∀ W, Ext w0 W → IsB w0.heap.size b (X ++ inT vr fl) W → Box W fb 89 #[wrK b fb] → Calls Tryz.prog 33 #[.pointer L, .pointer (some ⟨b, 0, none⟩), .pointer (some ⟨fb, 0, none⟩)] W (EncP w0 b (X ++ inT vr fl ++ ta) W))
    (H2 : ∀ W, Ext w0 W → IsB w0.heap.size b (X ++ inT vr fl ++ ta) W → Box W fb 89 #[wrK b fb] → Calls Tryz.prog 33 #[.pointer H, .pointer (some ⟨b, 0, none⟩), .pointer (some ⟨fb, 0, none⟩)] W (EncP w0 b (X ++ inT vr fl ++ ta ++ tz) W)) :
    Calls Tryz.prog 33 #[.pointer (some ⟨tb, 0, none⟩), .pointer (some ⟨b, 0, none⟩), .pointer (some ⟨fb, 0, none⟩)] w (EncP w0 b (X ++ inT vr fl ++ ta ++ tz) w) := by
  have HH1 := Lib.hid H1
  have HH2 := Lib.hid H2
  clear H1 H2
  obtain ⟨Y, hY⟩ : ∃ Y, Y = X ++ inT vr fl := ⟨_, rfl⟩
  rw [← hY] at HH1 HH2 ⊢
  have HY := Lib.hid hY
  clear hY
  go_enter Tryz.func33, Tryz.ntmps33
  go_wp2_with fail
  refine (Tryz.Builder_Len _ b _ w hB).mono ?_
  rintro e w1 ⟨rfl, rfl⟩
  have i1 : decide ((65536 : Int) < ((Lib.byteCells X).length : Int)) = false := by rw [Bld.byteCells_len]; simp; omega
  have t0 : w1.cell? ⟨tb, 0, none⟩ = some (.int .i64 vr) := hE.cell (NB.cell 0)
  have i2 : decide ((0 : Int) ≤ vr) = true := by simpa using hv0
  go_upto_region 2 with fail
  clear t0 i1 i2
  have k0 : ∀ w', Ext w0 w' → w'.cell? ⟨tb, 0, none⟩ = some (.int .i64 vr) := fun w' h => h.cell (NB.cell 0)
  have k1 : ∀ w', Ext w0 w' → w'.cell? ⟨tb, 1, none⟩ = some (.int .i64 fl) := fun w' h => h.cell (NB.cell 1)
  have k2 : ∀ w', EncS w0 fb (wrK b fb) w' → w'.cell? ⟨tb, 2, none⟩ = some (.pointer L) := fun w' h => h.1.cell (NB.cell 2)
  have k3 : ∀ w', EncS w0 fb (wrK b fb) w' → w'.cell? ⟨tb, 3, none⟩ = some (.pointer H) := fun w' h => h.1.cell (NB.cell 3)
  have k4 : ∀ w', EncS w0 fb (wrK b fb) w' → w'.cell? ⟨fb, 0, none⟩ = some (.func (.func 33) #[] #[.pointer (some ⟨b, 0, none⟩), .pointer (some ⟨fb, 0, none⟩)]) := fun w' h => h.2
  go_cut [] (fun wx => IsB w0.heap.size b Y wx ∧ Ext w0 wx ∧ w1.heap.size ≤ wx.heap.size ∧ KeepB b w1 wx)
  case first =>
    clear k2 k3 k4
    obtain ⟨S1, hS1⟩ : ∃ S : ByteArray, S = ⟨(itoa vr).toArray⟩ := ⟨_, rfl⟩
    obtain ⟨S2, hS2⟩ : ∃ S : ByteArray, S = ⟨(itoa fl).toArray⟩ := ⟨_, rfl⟩
    have hl1 : S1.size ≤ 31 := by rw [hS1]; have := fit_len hv1; simpa [ByteArray.size] using this
    have hl2 : S2.size ≤ 31 := by rw [hS2]; have := fit_len hf; simpa [ByteArray.size] using this
    have HI1 : Hid (∀ W, Ext w0 W → Calls Tryz.prog 36 #[.int .i64 vr] W (fun e w' => e = .returned (.string S1) ∧ Ext W w')) := Lib.hid (fun W hW => by rw [hS1]; exact ItoaC vr W hv1 (htab.ext hW))
    have HI2 : Hid (∀ W, Ext w0 W → Calls Tryz.prog 36 #[.int .i64 fl] W (fun e w' => e = .returned (.string S2) ∧ Ext W w')) := Lib.hid (fun W hW => by rw [hS2]; exact ItoaC fl W hf (htab.ext hW))
    have HTX : Hid (X ++ (((((⟨#[115, 112, 108, 105, 116, 32]⟩ : ByteArray) ++ S1) ++ ⟨#[32]⟩) ++ S2) ++ ⟨#[10]⟩).data.toList = Y) := Lib.hid (by rw [HY.out, hS1, hS2]; simp [ByteArray.data_append, inT])
    have z1 : ({ data := #[115, 112, 108, 105, 116, 32] } : ByteArray).size = 6 := rfl
    have z2 : ({ data := #[32] } : ByteArray).size = 1 := rfl
    have z3 : ({ data := #[10] } : ByteArray).size = 1 := rfl
    have n1 : ¬ 9223372036854775807 < 6 + S1.size := by omega
    have n2 : ¬ 9223372036854775807 < 6 + S1.size + 1 := by omega
    have n3 : ¬ 9223372036854775807 < 6 + S1.size + 1 + S2.size := by omega
    have n4 : ¬ 9223372036854775807 < 6 + S1.size + 1 + S2.size + 1 := by omega
    have hB0 := hB
    clear hS1 hS2 HY HH1 HH2 hB FB
    go_region_held3 (fun w' => Ext w0 w') ((repeat (first | (with_reducible assumption) | (with_reducible apply Ext.drew) | (with_reducible apply Ext.drewN) | (with_reducible refine Ext.trans ?_ (by with_reducible assumption))))) (first
      | (go_at_call 36; (with_reducible refine (HI1.out _ (by repeat (first | (with_reducible assumption) | (with_reducible apply Ext.drew) | (with_reducible apply Ext.drewN) | (with_reducible refine Ext.trans ?_ (by with_reducible assumption))))).mono ?_); rintro e wk ⟨rfl, hxk⟩; (have hxk1 : Ext w1 wk := Ext.trans (by repeat (first | (with_reducible exact Ext.refl _) | (with_reducible apply Ext.drew) | (with_reducible apply Ext.drewN) | (with_reducible refine Ext.trans ?_ (by with_reducible assumption)))) hxk))
      | (go_at_call 36; (with_reducible refine (HI2.out _ (by repeat (first | (with_reducible assumption) | (with_reducible apply Ext.drew) | (with_reducible apply Ext.drewN) | (with_reducible refine Ext.trans ?_ (by with_reducible assumption))))).mono ?_); rintro e wl ⟨rfl, hxl⟩; (have hxl1 : Ext w1 wl := Ext.trans (by repeat (first | (with_reducible assumption) | (with_reducible exact Ext.refl _) | (with_reducible apply Ext.drew) | (with_reducible apply Ext.drewN))) hxl))
      | (go_at_call 35; (with_reducible refine (Write_any _ b X _ _ (IsB.ext hB0 (by repeat (first | (with_reducible assumption) | (with_reducible exact Ext.refl _) | (with_reducible apply Ext.drew) | (with_reducible apply Ext.drewN)))) (by simp only [ByteArray.size_append, z1, z2, z3]; omega) (Nat.le_trans (Ext.size hE) (Ext.size hxl1))).mono ?_); rintro e wm ⟨⟨nm, rfl⟩, hBm, hbm, hsm, hkm⟩; (have hEm := ext_of_below (Ext.trans hE hxl1) hbm))
      )
    all_goals (
      go_wp2_with fail
      go_meet
      rw [HTX.out] at hBm
      exact ⟨hBm, hEm, Nat.le_trans (Ext.size hxl1) hsm, (KeepB.of hxl1).trans hkm⟩)
  case rest =>
  obtain ⟨hB2, hE2, hs2, hk2⟩ := hcut
  rename_i hK
  refine hK _ _ ?_
  clear hK hB k0 k1
  obtain ⟨Wa, rfl⟩ : ∃ W, W = wc := ⟨_, rfl⟩
  have FB2 := hk2 fb 89 #[wrK b fb] hfb (by decide) FB
  have hS2 : EncS w0 fb (wrK b fb) Wa := ⟨hE2, FB2.c0⟩
  go_upto_region 3 with fail
  go_cut [] (fun wx => IsB w0.heap.size b (Y ++ ta) wx ∧ Ext w0 wx ∧ Wa.heap.size ≤ wx.heap.size ∧ KeepB b Wa wx)
  case first =>
    go_region_held3 (fun w' => EncS w0 fb (wrK b fb) w') ((repeat (first | (with_reducible assumption) | (with_reducible apply EncS.drew) | (with_reducible apply EncS.drewN)))) (first
      | (go_at_call 33; (with_reducible refine (HH1.out _ (by repeat (first | (with_reducible assumption) | (with_reducible apply Ext.drew) | (with_reducible apply Ext.drewN))) (IsB.ext hB2 (by repeat (first | (with_reducible exact Ext.refl _) | (with_reducible apply Ext.drew) | (with_reducible apply Ext.drewN)))) (Box.ext FB2 (by repeat (first | (with_reducible exact Ext.refl _) | (with_reducible apply Ext.drew) | (with_reducible apply Ext.drewN))))).mono ?_); rintro e wm ⟨rfl, hBm, hEm, hsm, hkm⟩; (have hSm : EncS w0 fb (wrK b fb) wm := ⟨hEm, Box.c0 (hkm fb 89 #[wrK b fb] hfb (by decide) (Box.ext FB2 (by repeat (first | (with_reducible exact Ext.refl _) | (with_reducible apply Ext.drew) | (with_reducible apply Ext.drewN)))))⟩); (have hkm' : KeepB b Wa wm := KeepB.trans (KeepB.of (by repeat (first | (with_reducible exact Ext.refl _) | (with_reducible apply Ext.drew) | (with_reducible apply Ext.drewN)))) hkm))
      )
    all_goals (
      go_wp2_with fail
      go_meet
      exact ⟨hBm, hEm, hsm, hkm'⟩)
  case rest =>
  obtain ⟨hB3, hE3, hs3, hk3⟩ := hcut
  rename_i hK
  refine hK _ _ ?_
  clear hK hS2
  obtain ⟨Wb, rfl⟩ : ∃ W, W = wc := ⟨_, rfl⟩
  have FB3 := hk3 fb 89 #[wrK b fb] hfb (by decide) FB2
  have hS3 : EncS w0 fb (wrK b fb) Wb := ⟨hE3, FB3.c0⟩
  go_upto_region 4 with fail
  go_region_held3 (fun w' => EncS w0 fb (wrK b fb) w') ((repeat (first | (with_reducible assumption) | (with_reducible apply EncS.drew) | (with_reducible apply EncS.drewN)))) (first
    | (go_at_call 33; (with_reducible refine (HH2.out _ (by repeat (first | (with_reducible assumption) | (with_reducible apply Ext.drew) | (with_reducible apply Ext.drewN))) (IsB.ext hB3 (by repeat (first | (with_reducible exact Ext.refl _) | (with_reducible apply Ext.drew) | (with_reducible apply Ext.drewN)))) (Box.ext FB3 (by repeat (first | (with_reducible exact Ext.refl _) | (with_reducible apply Ext.drew) | (with_reducible apply Ext.drewN))))).mono ?_); rintro e wm ⟨rfl, hBm, hEm, hsm, hkm⟩; (have hSm : EncS w0 fb (wrK b fb) wm := ⟨hEm, Box.c0 (hkm fb 89 #[wrK b fb] hfb (by decide) (Box.ext FB3 (by repeat (first | (with_reducible exact Ext.refl _) | (with_reducible apply Ext.drew) | (with_reducible apply Ext.drewN)))))⟩); (have hkm' : KeepB b Wb wm := KeepB.trans (KeepB.of (by repeat (first | (with_reducible exact Ext.refl _) | (with_reducible apply Ext.drew) | (with_reducible apply Ext.drewN)))) hkm))
    )
  all_goals (
    go_wp2_with fail
    go_end0
    exact ⟨rfl, hBm, hEm, Nat.le_trans hs2 (Nat.le_trans hs3 hsm), (hk2.trans hk3).trans hkm'⟩)
/-- the text of a tree is short -/
theorem treeT_len (t : CT) (h : t.okY 2 ∧ t.few 12 ∧ t.wf = true) : (treeT t).length ≤ t.size * 600 := by
  induction t with
  | nil => exact Nat.zero_le _
  | node vr fl em n y a b iha ihb =>
    obtain ⟨⟨o1, o2, o3, o4, o5⟩, ⟨f1, f2, f3⟩, hwf⟩ := h
    unfold treeT
    unfold CT.wf at hwf
    have hs : (CT.node vr fl em n y a b).size = 1 + a.size + b.size := rfl
    rw [hs]
    by_cases hv : vr = -1
    · rw [if_neg (by omega)]
      unfold leafT
      have h1 := numsT_len (k := 2) (n := n) (by decide) o3
      have h2 : (leafW em).length = 5 := by cases em <;> rfl
      have h3 : n * (20 * 2 + 4) ≤ 12 * 44 := Nat.mul_le_mul f1 (by decide)
      rw [List.length_append, List.length_append, h2]
      show 5 + _ + 1 ≤ _
      omega
    · rw [if_neg hv] at hwf
      simp only [Bool.and_eq_true, decide_eq_true_eq, Bool.not_eq_true'] at hwf
      obtain ⟨g1, g2, g3, g4, g5, g6⟩ := hwf
      rw [if_pos g1]
      have ha := iha ⟨o4, f2, g5⟩
      have hb := ihb ⟨o5, f3, g6⟩
      have h1 : (itoa vr).length ≤ 31 := fit_len (fit_iff.2 (by omega))
      have h2 := fit_len o1
      unfold inT
      simp only [List.length_append, List.length_cons, List.length_nil]
      omega
theorem write_b (w0 : World) (b fb : Nat) (hfb : fb ≠ b) (htab : TabOK w0) (t : CT) : ∀ (A : Option Addr) (bb h : Nat) (X : List UInt8) (w : World), TreeI w0 t A bb h → t.wf = true → t.okY 2 → X.length + (treeT t).length ≤ 65536 → Ext w0 w → IsB w0.heap.size b X w → Box w fb 89 #[wrK b fb] →
    Calls Tryz.prog 33 #[.pointer A, .pointer (some ⟨b, 0, none⟩), .pointer (some ⟨fb, 0, none⟩)] w (EncP w0 b (X ++ treeT t) w) := by
  induction t with
  | nil => intro A bb h X w hT hwf; cases hwf
  | node vr fl em n y lo hi iha ihb =>
    intro A bb h X w hT hwf hok hlen hE hB FB
    obtain ⟨k, L, H, Y, c, m1, m2, rfl, h1, h2, NB, hY, hlo, hhi⟩ := hT
    obtain ⟨o1, o2, o3, o4, o5⟩ := hok
    unfold treeT at hlen ⊢
    unfold CT.wf at hwf
    by_cases hv : vr = -1
    · subst hv
      rw [if_pos rfl] at hwf
      simp only [Bool.and_eq_true, decide_eq_true_eq] at hwf
      obtain ⟨rfl, a1, a2⟩ := hwf
      rw [if_neg (by decide)] at hlen ⊢
      have e1 : L = none := hlo.nilA.2 (by cases lo with | nil => rfl | node vr fl em n y a b => cases a1)
      have e2 : H = none := hhi.nilA.2 (by cases hi with | nil => rfl | node vr fl em n y a b => cases a2)
      subst e1 e2
      exact write_leaf w0 w b k _ X 0 em Y n c 2 y hE hB (by omega) NB hY.1.rats (by decide) (by decide) o2 o3 htab
    · rw [if_neg hv] at hwf
      simp only [Bool.and_eq_true, decide_eq_true_eq, Bool.not_eq_true'] at hwf
      obtain ⟨g1, g2, rfl, rfl, g5, g6⟩ := hwf
      rw [if_pos g1] at hlen ⊢
      rw [List.length_append, List.length_append] at hlen
      have key := write_in w0 w b fb k X (treeT lo) (treeT hi) vr fl false L H Y 0 c hE hB (by omega) NB g1 (fit_iff.2 (by omega)) o1 FB hfb htab
        (fun W hW hBW FW => iha L m1 m2 (X ++ inT vr fl) W hlo g5 o4 (by rw [List.length_append]; omega) hW hBW FW)
        (fun W hW hBW FW => ihb H m2 h (X ++ inT vr fl ++ treeT lo) W hhi g6 o5 (by rw [List.length_append, List.length_append]; omega) hW hBW FW)
      rw [show X ++ (inT vr fl ++ (treeT lo ++ treeT hi)) = X ++ inT vr fl ++ treeT lo ++ treeT hi by simp]
      exact key
/-- Encode of any tree -/
theorem Encode_t (t : CT) (A : Option Addr) (bb h : Nat) (w : World) (hT : TreeI w t A bb h) (hd : t.dep ≤ 200) (hok : t.okY 2) (hlen : (treeT t).length ≤ 65536) (htab : TabOK w) :
    Calls Tryz.prog 12 #[.pointer A] w (EnPost t.wf (treeT t) w) := by
  refine Encode_any (.pointer A) t.wf (treeT t) w hlen (fun W hW => wellFormed_t t A bb h W (hT.ext hW) hd) (fun hwf w0 W b fb hw0 hW hB hf1 hb1 hne FB => ?_)
  have := write_b w0 b fb hne (htab.ext hw0) t A bb h [] W (hT.ext hw0) hwf hok (by simpa using hlen) hW hB FB
  rwa [List.nil_append] at this
end Go.Proofs.YtljncdcjkdgkeaaGreatDoor.Lp

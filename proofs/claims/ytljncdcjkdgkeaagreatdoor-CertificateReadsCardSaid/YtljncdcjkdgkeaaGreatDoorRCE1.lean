/- Walk: Encode's closure at a leaf. Walk: Encode, over what it asks of the tree. Plain: the trees that the laws build are small. Walk: Encode's closure at any tree; Encode of any tree. Strings in plain Lean (cut, split, decimal forms); walks: Cut, Split, decimal. What the cards of the laws that decode need: what is read of package variables. Walk: Decode of no text and of a text that is too long. Walk: the rational numbers' Parse. Decoding in plain Lean; walk: leaf of a decoder. -/
import Derived.Test.YtljncdcjkdgkeaaGreatDoorRT6
import Derived.Test.YtljncdcjkdgkeaaGreatDoorRCW2
import Derived.Deep.DeepCutAuto
import Derived.Lib.AtoiAllCases
import Derived.Lib.ItoaMem
import Derived.Lib.ItoaLen
import Derived.Lib.IndexBytes
import Derived.Lib.IndexMore
import Derived.Lib.SplitLaws
import Derived.Lay
import Derived.Stop.LaidErr
import Derived.Deep.DeepWitnessRowRef
import Derived.Test.YtljncdcjkdgkeaaGreatDoorRW17
set_option linter.unusedVariables false
set_option linter.unusedSimpArgs false
namespace Go.Proofs.YtljncdcjkdgkeaaGreatDoor.Lp
open Go.RowKit Go.Proofs.YtljncdcjkdgkeaaGreatDoor.Big Go.Proofs.YtljncdcjkdgkeaaGreatDoor.Rt Go.Proofs.YtljncdcjkdgkeaaGreatDoor.Bld

def leafW (em : Bool) : List UInt8 := if em = true then [101, 109, 112, 116, 121] else [98, 111, 117, 110, 100]
def numsT (y : Nat → Rat) : Nat → List UInt8
  | 0 => []
  | n + 1 => numsT y n ++ (32 :: ratText (y n))
def leafT (em : Bool) (y : Nat → Rat) (n : Nat) : List UInt8 := leafW em ++ numsT y n ++ [10]
theorem ratText_len {q : Rat} {k : Nat} (hk : 0 < k) (h : QB k q) : (ratText q).length ≤ 20 * k + 3 := by
  have h1 := itoa_len hk h.1
  have h2 := itoa_len hk h.2
  unfold ratText
  split
  · omega
  · rw [List.length_append, List.length_cons]
    omega
theorem numsT_len {y : Nat → Rat} {n k : Nat} (hk : 0 < k) (h : ∀ j, j < n → QB k (y j)) : (numsT y n).length ≤ n * (20 * k + 4) := by
  induction n with
  | zero => simp [numsT]
  | succ n ih =>
    have h1 := ih (fun j hj => h j (by omega))
    have h2 := ratText_len hk (h n (by omega))
    show (numsT y n ++ (32 :: ratText (y n))).length ≤ _
    rw [List.length_append, List.length_cons, Nat.add_mul]
    omega
/-- what is kept besides the builder and its bytes -/
def KeepB (b : Nat) (w w' : World) : Prop := ∀ k E cs, k ≠ b → E ≠ 5 → Box w k E cs → Box w' k E cs
theorem KeepB.of {b : Nat} {w w' : World} (h : Ext w w') : KeepB b w w' := fun k E cs _ _ hB => hB.ext h
theorem KeepB.trans {b : Nat} {w w' w'' : World} (h : KeepB b w w') (k : KeepB b w' w'') : KeepB b w w'' := fun i E cs h1 h2 h3 => k i E cs h1 h2 (h i E cs h1 h2 h3)
/-- what a call leaves that writes to the builder -/
def EncP (w0 : World) (b : Nat) (X : List UInt8) (w : World) (e : Ending) (w' : World) : Prop := e = .returned (.tuple #[]) ∧ IsB w0.heap.size b X w' ∧ Ext w0 w' ∧ w.heap.size ≤ w'.heap.size ∧ KeepB b w w'
theorem ext_of_below {w0 w w' : World} (h : Ext w0 w) (k : Below w0.heap.size w w') : Ext w0 w' := Below.trans h k
set_option maxHeartbeats 2000000 in
set_option maxRecDepth 100000 in
theorem write_leaf (w0 w : World) (b tb : Nat) (fv : Value) (X : List UInt8) (fl : Int) (em : Bool) (A : Option Addr) (ny c K : Nat) (y : Nat → Rat) (hE : Ext w0 w) (hB : IsB w0.heap.size b X w) (hX : X.length ≤ 65536) (hT : Box w0 tb 79 (NodeC (-1) fl none none em A ny c)) (hY : RatsV w0 A ny c y) (hK0 : 0 < K) (hK : K ≤ 1000) (hny : ny ≤ 1000) (hq : ∀ j, j < ny → QB K (y j)) (htab : TabOK w0) :
    Calls Tryz.prog 33 #[.pointer (some ⟨tb, 0, none⟩), .pointer (some ⟨b, 0, none⟩), fv] w (EncP w0 b (X ++ leafT em y ny) w) := by
  have HQ := Lib.hid hq
  have HK := Lib.hid hK0
  clear hq
  go_enter Tryz.func33, Tryz.ntmps33
  go_wp2_with fail
  refine (Tryz.Builder_Len _ b _ w hB).mono ?_
  rintro e w1 ⟨rfl, rfl⟩
  have i1 : decide ((65536 : Int) < ((Lib.byteCells X).length : Int)) = false := by rw [Bld.byteCells_len]; simp; omega
  have t0 : w1.cell? ⟨tb, 0, none⟩ = some (.int .i64 (-1)) := hE.cell (hT.cell 0)
  have t4 : w1.cell? ⟨tb, 4, none⟩ = some (.bool em) := hE.cell (hT.cell 4)
  go_upto_if 44 with fail
  rename_i hK'
  obtain ⟨WS, hWS⟩ : ∃ s : ByteArray, s = ⟨(leafW em).toArray⟩ := ⟨_, rfl⟩
  have hws : WS.size = 5 := by rw [hWS]; cases em <;> rfl
  have HWS : Hid (WS.data.toList = leafW em) := Lib.hid (by rw [hWS])
  go_cut [4] (fun v4 wx => v4 = .string WS ∧ wx = w1)
  case first =>
    cases em with
    | true =>
      go_wp2_with fail
      go_meet
      exact ⟨by rw [hWS]; rfl, rfl⟩
    | false =>
      go_wp2_with fail
      go_meet
      exact ⟨by rw [hWS]; rfl, rfl⟩
  case rest =>
  obtain ⟨rfl, rfl⟩ := hcut
  refine hK' _ _ ?_
  clear hK' t0 t4 i1 hWS
  go_wp2_with fail
  refine (Write_any _ b X WS _ hB (by omega) hE.size).mono ?_
  rintro e w2 ⟨⟨n2, rfl⟩, hB2, hb2, hs2, hk2⟩
  rw [HWS.out] at hB2
  have hE2 := ext_of_below hE hb2
  have t5 : w2.cell? ⟨tb, 5, none⟩ = some (.slice A ny c) := hE2.cell (hT.cell 5)
  have hYc := hY.1
  have HKP : Hid (KeepB b wc w2) := Lib.hid hk2
  clear hb2 hk2 hB hws
  go_upto_region 10 with fail
  clear t5
  go_loopw [52] (fun i wr => ∃ j : Nat, j ≤ ny ∧ i = .int .i64 j ∧ IsB w0.heap.size b (X ++ leafW em ++ numsT y j) wr ∧ Ext w0 wr ∧ wc.heap.size ≤ wr.heap.size ∧ Hid (KeepB b wc wr)) (fun i _ => ny - (intOf i).toNat)
  case atStart => exact ⟨0, by omega, rfl, by show IsB _ _ (_ ++ []) _; rw [List.append_nil]; exact hB2, hE2, hs2, HKP⟩
  case round =>
    clear hB2 hE2 hs2 HKP
    obtain ⟨j, hj, rfl, hBr, hEr, hsr, HKr⟩ := hrel
    have hnl := numsT_len (n := j) HK.out (fun i hi => HQ.out i (by omega))
    have hnb : (X ++ leafW em ++ numsT y j).length ≤ 100000000 := by
      have h1 : j * (20 * K + 4) ≤ 1000 * 20004 := Nat.mul_le_mul (by omega) (by omega)
      have h2 : (leafW em).length = 5 := by cases em <;> rfl
      rw [List.length_append, List.length_append]
      omega
    by_cases hlt : j < ny
    · obtain ⟨yb, rfl, hR⟩ := hY.2.2 (by omega)
      obtain ⟨p3, A3, m3, c3, p3', A3', m3', c3', a0, a1, a2, a3, hr3⟩ := (hR.ext hEr).at hlt
      have i3 : (0 : Int) ≤ (j : Int) := by omega
      have i4 : (j : Int) < (ny : Int) := by omega
      go_upto_region 12 with fail
      have XB := Box.new wr 58 #[.bool p3, .slice A3 m3 c3, .bool p3', .slice A3' m3' c3']
      have hxT : Ext wr (wr.alloc (.cells #[.bool p3, .slice A3 m3 c3, .bool p3', .slice A3' m3' c3'] 58)) := (Ext.refl wr).alloc _
      generalize (wr.alloc (.cells #[.bool p3, .slice A3 m3 c3, .bool p3', .slice A3' m3' c3'] 58)) = T at *
      obtain ⟨xb, hxb⟩ : ∃ x, x = wr.heap.size := ⟨_, rfl⟩
      rw [← hxb] at XB ⊢
      clear hxb a0 a1 a2 a3
      have hxB : RatB T (.agg #[.bool p3, .slice A3 m3 c3, .bool p3', .slice A3' m3' c3']) (y j) K := ⟨hr3.ext hxT, HQ.out j hlt⟩
      have x0 := XB.c0
      have x1 := XB.c1
      have x2 := XB.c2
      have x3 := XB.c3
      obtain ⟨S, hS⟩ : ∃ S : ByteArray, S = ⟨(ratText (y j)).toArray⟩ := ⟨_, rfl⟩
      have hSl : S.size ≤ 20 * K + 3 := by rw [hS]; show (ratText (y j)).toArray.size ≤ _; simpa using ratText_len HK.out (HQ.out j hlt)
      have HS : Hid (S.data.toList = ratText (y j)) := Lib.hid (by rw [hS])
      have hcall := RatText_b _ (y j) K _ hxB (by omega) ((htab.ext hEr).ext hxT)
      rw [show StrPost T (ratText (y j)) = (fun e w' => e = .returned (.string S) ∧ Ext T w') by funext e w'; unfold StrPost; rw [hS]] at hcall
      have hno : ¬ 9223372036854775807 < 1 + S.size := by omega
      clear hS
      go_wp2_with fail
      refine hcall.mono ?_
      rintro e w5 ⟨rfl, hx5⟩
      clear hcall x0 x1 x2 x3
      go_wp2_with fail
      have hBT := (hBr.ext hxT).ext hx5
      have hE5 := (hEr.trans hxT).trans hx5
      have hs5 : wr.heap.size ≤ w5.heap.size := (hxT.trans hx5).size
      have hsz : (({ data := #[32] } : ByteArray) ++ S).size = 1 + S.size := by rw [ByteArray.size_append]; rfl
      have hdt : (({ data := #[32] } : ByteArray) ++ S).data.toList = 32 :: ratText (y j) := by rw [ByteArray.data_append, Array.toList_append, HS.out]; rfl
      refine (Write_any _ b _ _ _ hBT (by rw [hsz]; omega) hE5.size).mono ?_
      rintro e w6 ⟨⟨n6, rfl⟩, hB6, hb6, hs6, hk6⟩
      rw [hdt, List.append_assoc] at hB6
      have hE6 := ext_of_below hE5 hb6
      have HK6 : Hid (KeepB b wc w6) := Lib.hid ((HKr.out.trans (KeepB.of (hxT.trans hx5))).trans hk6)
      have hs7 : wc.heap.size ≤ w6.heap.size := by omega
      clear hBT hE5 hs5 hsz hdt hb6 hs6 hk6 hx5 hxT hBr hEr
      go_wp2_with fail
      go_roundw
      case rel => first | exact ⟨j + 1, by omega, by go_num, hB6, hE6, hs7, HK6⟩ | ((repeat (apply Exists.intro (α := Value))); exact ⟨⟨j + 1, by omega, by go_num, hB6, hE6, hs7, HK6⟩, rfl⟩)
      case measure => simp [intOf]; omega
    · obtain rfl : j = ny := by omega
      go_wp2_with fail
      refine (Write_any _ b _ ⟨#[10]⟩ _ hBr (by show _ + 1 ≤ _; omega) hEr.size).mono ?_
      rintro e w6 ⟨⟨n6, rfl⟩, hB6, hb6, hs6, hk6⟩
      go_wp2_with fail
      go_end0
      refine ⟨rfl, ?_, ext_of_below hEr hb6, by omega, HKr.out.trans hk6⟩
      have e1 : X ++ leafT em y j = X ++ leafW em ++ numsT y j ++ [10] := by unfold leafT; simp
      rw [e1]
      exact hB6
end Go.Proofs.YtljncdcjkdgkeaaGreatDoor.Lp
namespace Go.Proofs.YtljncdcjkdgkeaaGreatDoor.Lp
open Go.RowKit Go.Proofs.YtljncdcjkdgkeaaGreatDoor.Big Go.Proofs.YtljncdcjkdgkeaaGreatDoor.Rt Go.Proofs.YtljncdcjkdgkeaaGreatDoor.Bld

def EnPost (wf : Bool) (T : List UInt8) (w : World) (e : Ending) (w' : World) : Prop := Ext w w' ∧ ((wf = true ∧ e = .returned (.tuple #[.string ⟨T.toArray⟩, .int .i64 0])) ∨ (wf = false ∧ e = .returned (.tuple #[.string ⟨#[]⟩, .int .i64 3])))
set_option maxHeartbeats 2000000 in
set_option maxRecDepth 100000 in
theorem Encode_any (t : Value) (wf : Bool) (T : List UInt8) (w : World) (hT : T.length ≤ 65536)
    (hwf : ∀ W, Ext w W → Calls Tryz.prog 32 #[t] W (fun e w' => e = .returned (.bool wf) ∧ Ext W w'))
    (hwr : wf = true → ∀ (w0 W : World) (b fb : Nat), Ext w w0 → Ext w0 W → IsB w0.heap.size b [] W → w0.heap.size ≤ fb → w0.heap.size ≤ b → fb ≠ b → Box W fb 89 #[.func (.func 33) #[] #[.pointer (some ⟨b, 0, none⟩), .pointer (some ⟨fb, 0, none⟩)]] →
      Calls Tryz.prog 33 #[t, .pointer (some ⟨b, 0, none⟩), .pointer (some ⟨fb, 0, none⟩)] W (EncP w0 b T W)) :
    Calls Tryz.prog 12 #[t] w (EnPost wf T w) := by
  have HWR := Lib.hid hwr
  clear hwr
  go_enter Tryz.func12, Tryz.ntmps12
  go_wp2_with fail
  refine (hwf w (Ext.refl w)).mono ?_
  rintro e w2 ⟨rfl, hE2⟩
  clear hwf
  cases wf with
  | false =>
    go_wp2_with fail
    refine bodyPost_ret (v := .tuple #[.string ⟨#[]⟩, .int .i64 3]) (by simp [results, Tryz.results12, go_sem]) rfl ?_
    exact ⟨hE2, .inr ⟨rfl, rfl⟩⟩
  | true =>
  go_upto_region 4 with fail
  have hB3 := IsB.fresh w2
  have hx3 : Ext w2 (w2.alloc (.cells #[.pointer none, .slice none 0 0] 88)) := (Ext.refl w2).alloc _
  generalize (w2.alloc (.cells #[.pointer none, .slice none 0 0] 88)) = W3 at *
  obtain ⟨b, hb⟩ : ∃ x, x = w2.heap.size := ⟨_, rfl⟩
  have hB3' : IsB w2.heap.size b [] W3 := by rw [hb]; exact hB3
  rw [← hb]
  have hbw : w2.heap.size ≤ b := by omega
  have hb3 : b < W3.heap.size := by
    rcases hB3' with h | h
    · exact h.lt
    · exact h.lt
  clear hb hB3
  go_upto_region 5 with fail
  have FB := Box.new W3 89 #[.nilFunc]
  have hxf : Ext W3 (W3.alloc (.cells #[.nilFunc] 89)) := (Ext.refl W3).alloc _
  generalize (W3.alloc (.cells #[.nilFunc] 89)) = W4 at *
  obtain ⟨fb, hfb⟩ : ∃ x, x = W3.heap.size := ⟨_, rfl⟩
  rw [← hfb] at FB ⊢
  have hfw : W3.heap.size ≤ fb := by omega
  have hfne : fb ≠ b := by omega
  have hf2 : w2.heap.size ≤ fb := by have := hx3.size; omega
  clear hfb
  obtain ⟨K, hKK⟩ : ∃ K : Value, K = .func (.func 33) #[] #[.pointer (some ⟨b, 0, none⟩), .pointer (some ⟨fb, 0, none⟩)] := ⟨_, rfl⟩
  have f0 := FB.c0
  have f1 := FB.frozen 0
  have FB5 := FB.set 0 K
  have hx5 : Ext W3 (W4.setCell ⟨fb, 0, none⟩ K) := hxf.set (p := ⟨fb, 0, none⟩) hfw K
  go_upto_region 6 with fail
  rw [← hKK]
  generalize (W4.setCell ⟨fb, 0, none⟩ K) = W5 at *
  subst hKK
  have hB5 := hB3'.ext hx5
  have hE5 := hx3.trans hx5
  have k0 := FB5.c0
  clear f0 f1 FB hxf hB3' hx3 hx5
  have hcall := HWR.out (by first | rfl | trivial) w2 W5 b fb hE2 hE5 hB5 hf2 hbw hfne FB5
  go_wp2_with fail
  refine hcall.mono ?_
  rintro e w6 ⟨rfl, hB6, hE6, hs6, -⟩
  clear hcall k0
  go_wp2_with fail
  refine (Tryz.Builder_Len _ b _ w6 hB6).mono ?_
  rintro e w7 ⟨rfl, rfl⟩
  have i1 : decide ((65536 : Int) < ((Lib.byteCells T).length : Int)) = false := by rw [Bld.byteCells_len]; simp; omega
  obtain ⟨S, hS⟩ : ∃ S : ByteArray, S = ⟨T.toArray⟩ := ⟨_, rfl⟩
  have hstr := Tryz.Builder_String_any w2.heap.size b T w7 hB6 hE6.size
  rw [← hS] at hstr
  have HS := Lib.hid hS
  clear hS
  go_wp2_with fail
  refine hstr.mono ?_
  rintro e w8 ⟨rfl, hx8⟩
  have hE8 := hE2.trans (ext_of_below hE6 hx8)
  clear hstr i1
  go_wp2_with fail
  refine bodyPost_ret (v := .tuple #[.string S, .int .i64 0]) (by simp [results, Tryz.results12, go_sem]) rfl ?_
  exact ⟨hE8, .inl ⟨rfl, by rw [HS.out]⟩⟩
end Go.Proofs.YtljncdcjkdgkeaaGreatDoor.Lp
namespace Go.Proofs.YtljncdcjkdgkeaaGreatDoor.Lp
open Go.RowKit Go.Proofs.YtljncdcjkdgkeaaGreatDoor.Big Go.Proofs.YtljncdcjkdgkeaaGreatDoor.Rt

def CT.size : CT → Nat
  | .nil => 0
  | .node _ _ _ _ _ a b => 1 + a.size + b.size
end Go.Proofs.YtljncdcjkdgkeaaGreatDoor.Lp
namespace Go.Proofs.YtljncdcjkdgkeaaGreatDoor.Lp
open Go.RowKit Go.Proofs.YtljncdcjkdgkeaaGreatDoor.Big Go.Proofs.YtljncdcjkdgkeaaGreatDoor.Rt Go.Proofs.YtljncdcjkdgkeaaGreatDoor.Bld
open Go.Lib (itoa)

theorem Ext.growC (w : World) (os : Array Obj) : Ext w (Go.Sort.grow w os) := ⟨rfl, rfl, rfl, by simp [Go.Sort.grow], fun k hk => by simp [Go.Sort.grow, Array.getElem?_append_left hk]⟩
theorem ItoaC (n : Int) (w : World) (hn : fit n = true) (htab : TabOK w) : Calls Tryz.prog 36 #[.int .i64 n] w (fun e w' => e = .returned (.string ⟨(itoa n).toArray⟩) ∧ Ext w w') := by
  obtain ⟨h1, h2⟩ := fit_iff.1 hn
  refine (Tryz.strconv_Itoa n h1 h2 w htab).mono ?_
  rintro e w' ⟨rfl, k, os, rfl⟩
  exact ⟨rfl, ((Ext.refl w).drewN k).trans (Ext.growC _ os)⟩
theorem fit_B {z : Int} (h : fit z = true) : B 3 z := by
  obtain ⟨h1, h2⟩ := fit_iff.1 h
  unfold B
  have : pw 3 = 79228162514264337593543950336 := by decide
  omega
theorem fit_len {z : Int} (h : fit z = true) : (itoa z).length ≤ 31 := itoa_len (k := 3) (by decide) (fit_B h)
/-- the line of an inner node -/
def inT (vr fl : Int) : List UInt8 := [115, 112, 108, 105, 116, 32] ++ (itoa vr ++ (32 :: (itoa fl ++ [10])))
def treeT : CT → List UInt8
  | .nil => []
  | .node vr fl em n y a b => if 0 ≤ vr then inT vr fl ++ (treeT a ++ treeT b) else leafT em y n
def wrK (b fb : Nat) : Value := .func (.func 33) #[] #[.pointer (some ⟨b, 0, none⟩), .pointer (some ⟨fb, 0, none⟩)]
def EncS (w0 : World) (fb : Nat) (K : Value) (w' : World) : Prop := Ext w0 w' ∧ w'.cell? ⟨fb, 0, none⟩ = some K
theorem EncS.drew {w0 w : World} {fb : Nat} {K : Value} (h : EncS w0 fb K w) : EncS w0 fb K w.drew := ⟨h.1.drew, h.2⟩
theorem EncS.drewN {w0 w : World} {fb : Nat} {K : Value} (h : EncS w0 fb K w) (n : Nat) : EncS w0 fb K (w.drewN n) := ⟨h.1.drewN n, h.2⟩
theorem EncP.drewN {w0 w w' : World} {b n : Nat} {X : List UInt8} {e : Ending} (h : EncP w0 b X (w.drewN n) e w') : EncP w0 b X w e w' := h
set_option maxHeartbeats 2000000 in
set_option maxRecDepth 100000 in
theorem write_in (w0 w : World) (b fb tb : Nat) (X ta tz : List UInt8) (vr fl : Int) (em : Bool) (L H A : Option Addr) (ny c : Nat) (hE : Ext w0 w) (hB : IsB w0.heap.size b X w) (hX : X.length ≤ 65536) (NB : Box w0 tb 79 (NodeC vr fl L H em A ny c)) (hv0 : 0 ≤ vr) (hv1 : fit vr = true) (hf : fit fl = true) (FB : Box w fb 89 #[wrK b fb]) (hfb : fb ≠ b) (htab : TabOK w0)
    (H1 : ∀ W, Ext w0 W → IsB w0.heap.size b (X ++ inT vr fl) W → Box W fb 89 #[wrK b fb] → Calls Tryz.prog 33 #[.pointer L, .pointer (some ⟨b, 0, none⟩), .pointer (some ⟨fb, 0, none⟩)] W (EncP w0 b (X ++ inT vr fl ++ ta) W))
    (H2 : ∀ W, Ext w0 W → IsB w0.heap.size b (X ++ inT vr fl ++ ta) W → Box W fb 89 #[wrK b fb] → Calls Tryz.prog 33 #[.pointer H, .pointer (some ⟨b, 0, none⟩), .pointer (some ⟨fb, 0, none⟩)] W (EncP w0 b (X ++ inT vr fl ++ ta ++ tz) W)) :
    Calls Tryz.prog 33 #[.pointer (some ⟨tb, 0, none⟩), .pointer (some ⟨b, 0, none⟩), .pointer (some ⟨fb, 0, none⟩)] w (EncP w0 b (X ++ inT vr fl ++ ta ++ tz) w) := by
  have HH1 := Lib.hid H1
  have HH2 := Lib.hid H2
  clear H1 H2
  obtain ⟨Y, hY⟩ : ∃ Y, Y = X ++ inT vr fl := ⟨_, rfl⟩
  rw [← hY] at HH1 HH2 ⊢
  have HY := Lib.hid hY
  clear hY
  go_enter Tryz.func33, Tryz.ntmps33
  go_wp2_with fail
  refine (Tryz.Builder_Len _ b _ w hB).mono ?_
  rintro e w1 ⟨rfl, rfl⟩
  have i1 : decide ((65536 : Int) < ((Lib.byteCells X).length : Int)) = false := by rw [Bld.byteCells_len]; simp; omega
  have t0 : w1.cell? ⟨tb, 0, none⟩ = some (.int .i64 vr) := hE.cell (NB.cell 0)
  have i2 : decide ((0 : Int) ≤ vr) = true := by simpa using hv0
  go_upto_region 2 with fail
  clear t0 i1 i2
  have k0 : ∀ w', Ext w0 w' → w'.cell? ⟨tb, 0, none⟩ = some (.int .i64 vr) := fun w' h => h.cell (NB.cell 0)
  have k1 : ∀ w', Ext w0 w' → w'.cell? ⟨tb, 1, none⟩ = some (.int .i64 fl) := fun w' h => h.cell (NB.cell 1)
  have k2 : ∀ w', EncS w0 fb (wrK b fb) w' → w'.cell? ⟨tb, 2, none⟩ = some (.pointer L) := fun w' h => h.1.cell (NB.cell 2)
  have k3 : ∀ w', EncS w0 fb (wrK b fb) w' → w'.cell? ⟨tb, 3, none⟩ = some (.pointer H) := fun w' h => h.1.cell (NB.cell 3)
  have k4 : ∀ w', EncS w0 fb (wrK b fb) w' → w'.cell? ⟨fb, 0, none⟩ = some (.func (.func 33) #[] #[.pointer (some ⟨b, 0, none⟩), .pointer (some ⟨fb, 0, none⟩)]) := fun w' h => h.2
  go_cut [] (fun wx => IsB w0.heap.size b Y wx ∧ Ext w0 wx ∧ w1.heap.size ≤ wx.heap.size ∧ KeepB b w1 wx)
  case first =>
    clear k2 k3 k4
    obtain ⟨S1, hS1⟩ : ∃ S : ByteArray, S = ⟨(itoa vr).toArray⟩ := ⟨_, rfl⟩
    obtain ⟨S2, hS2⟩ : ∃ S : ByteArray, S = ⟨(itoa fl).toArray⟩ := ⟨_, rfl⟩
    have hl1 : S1.size ≤ 31 := by rw [hS1]; have := fit_len hv1; simpa [ByteArray.size] using this
    have hl2 : S2.size ≤ 31 := by rw [hS2]; have := fit_len hf; simpa [ByteArray.size] using this
    have HI1 : Hid (∀ W, Ext w0 W → Calls Tryz.prog 36 #[.int .i64 vr] W (fun e w' => e = .returned (.string S1) ∧ Ext W w')) := Lib.hid (fun W hW => by rw [hS1]; exact ItoaC vr W hv1 (htab.ext hW))
    have HI2 : Hid (∀ W, Ext w0 W → Calls Tryz.prog 36 #[.int .i64 fl] W (fun e w' => e = .returned (.string S2) ∧ Ext W w')) := Lib.hid (fun W hW => by rw [hS2]; exact ItoaC fl W hf (htab.ext hW))
    have HTX : Hid (X ++ (((((⟨#[115, 112, 108, 105, 116, 32]⟩ : ByteArray) ++ S1) ++ ⟨#[32]⟩) ++ S2) ++ ⟨#[10]⟩).data.toList = Y) := Lib.hid (by rw [HY.out, hS1, hS2]; simp [ByteArray.data_append, inT])
    have z1 : ({ data := #[115, 112, 108, 105, 116, 32] } : ByteArray).size = 6 := rfl
    have z2 : ({ data := #[32] } : ByteArray).size = 1 := rfl
    have z3 : ({ data := #[10] } : ByteArray).size = 1 := rfl
    have n1 : ¬ 9223372036854775807 < 6 + S1.size := by omega
    have n2 : ¬ 9223372036854775807 < 6 + S1.size + 1 := by omega
    have n3 : ¬ 9223372036854775807 < 6 + S1.size + 1 + S2.size := by omega
    have n4 : ¬ 9223372036854775807 < 6 + S1.size + 1 + S2.size + 1 := by omega
    have hB0 := hB
    clear hS1 hS2 HY HH1 HH2 hB FB
    go_region_held3 (fun w' => Ext w0 w') ((repeat (first | (with_reducible assumption) | (with_reducible apply Ext.drew) | (with_reducible apply Ext.drewN) | (with_reducible refine Ext.trans ?_ (by with_reducible assumption))))) (first
      | (go_at_call 36; (with_reducible refine (HI1.out _ (by repeat (first | (with_reducible assumption) | (with_reducible apply Ext.drew) | (with_reducible apply Ext.drewN) | (with_reducible refine Ext.trans ?_ (by with_reducible assumption))))).mono ?_); rintro e wk ⟨rfl, hxk⟩; (have hxk1 : Ext w1 wk := Ext.trans (by repeat (first | (with_reducible exact Ext.refl _) | (with_reducible apply Ext.drew) | (with_reducible apply Ext.drewN) | (with_reducible refine Ext.trans ?_ (by with_reducible assumption)))) hxk))
      | (go_at_call 36; (with_reducible refine (HI2.out _ (by repeat (first | (with_reducible assumption) | (with_reducible apply Ext.drew) | (with_reducible apply Ext.drewN) | (with_reducible refine Ext.trans ?_ (by with_reducible assumption))))).mono ?_); rintro e wl ⟨rfl, hxl⟩; (have hxl1 : Ext w1 wl := Ext.trans (by repeat (first | (with_reducible assumption) | (with_reducible exact Ext.refl _) | (with_reducible apply Ext.drew) | (with_reducible apply Ext.drewN))) hxl))
      | (go_at_call 35; (with_reducible refine (Write_any _ b X _ _ (IsB.ext hB0 (by repeat (first | (with_reducible assumption) | (with_reducible exact Ext.refl _) | (with_reducible apply Ext.drew) | (with_reducible apply Ext.drewN)))) (by simp only [ByteArray.size_append, z1, z2, z3]; omega) (Nat.le_trans (Ext.size hE) (Ext.size hxl1))).mono ?_); rintro e wm ⟨⟨nm, rfl⟩, hBm, hbm, hsm, hkm⟩; (have hEm := ext_of_below (Ext.trans hE hxl1) hbm))
      )
    all_goals (
      go_wp2_with fail
      go_meet
      rw [HTX.out] at hBm
      exact ⟨hBm, hEm, Nat.le_trans (Ext.size hxl1) hsm, (KeepB.of hxl1).trans hkm⟩)
  case rest =>
  obtain ⟨hB2, hE2, hs2, hk2⟩ := hcut
  rename_i hK
  refine hK _ _ ?_
  clear hK hB k0 k1
  obtain ⟨Wa, rfl⟩ : ∃ W, W = wc := ⟨_, rfl⟩
  have FB2 := hk2 fb 89 #[wrK b fb] hfb (by decide) FB
  have hS2 : EncS w0 fb (wrK b fb) Wa := ⟨hE2, FB2.c0⟩
  go_upto_region 3 with fail
  go_cut [] (fun wx => IsB w0.heap.size b (Y ++ ta) wx ∧ Ext w0 wx ∧ Wa.heap.size ≤ wx.heap.size ∧ KeepB b Wa wx)
  case first =>
    go_region_held3 (fun w' => EncS w0 fb (wrK b fb) w') ((repeat (first | (with_reducible assumption) | (with_reducible apply EncS.drew) | (with_reducible apply EncS.drewN)))) (first
      | (go_at_call 33; (with_reducible refine (HH1.out _ (by repeat (first | (with_reducible assumption) | (with_reducible apply Ext.drew) | (with_reducible apply Ext.drewN))) (IsB.ext hB2 (by repeat (first | (with_reducible exact Ext.refl _) | (with_reducible apply Ext.drew) | (with_reducible apply Ext.drewN)))) (Box.ext FB2 (by repeat (first | (with_reducible exact Ext.refl _) | (with_reducible apply Ext.drew) | (with_reducible apply Ext.drewN))))).mono ?_); rintro e wm ⟨rfl, hBm, hEm, hsm, hkm⟩; (have hSm : EncS w0 fb (wrK b fb) wm := ⟨hEm, Box.c0 (hkm fb 89 #[wrK b fb] hfb (by decide) (Box.ext FB2 (by repeat (first | (with_reducible exact Ext.refl _) | (with_reducible apply Ext.drew) | (with_reducible apply Ext.drewN)))))⟩); (have hkm' : KeepB b Wa wm := KeepB.trans (KeepB.of (by repeat (first | (with_reducible exact Ext.refl _) | (with_reducible apply Ext.drew) | (with_reducible apply Ext.drewN)))) hkm))
      )
    all_goals (
      go_wp2_with fail
      go_meet
      exact ⟨hBm, hEm, hsm, hkm'⟩)
  case rest =>
  obtain ⟨hB3, hE3, hs3, hk3⟩ := hcut
  rename_i hK
  refine hK _ _ ?_
  clear hK hS2
  obtain ⟨Wb, rfl⟩ : ∃ W, W = wc := ⟨_, rfl⟩
  have FB3 := hk3 fb 89 #[wrK b fb] hfb (by decide) FB2
  have hS3 : EncS w0 fb (wrK b fb) Wb := ⟨hE3, FB3.c0⟩
  go_upto_region 4 with fail
  go_region_held3 (fun w' => EncS w0 fb (wrK b fb) w') ((repeat (first | (with_reducible assumption) | (with_reducible apply EncS.drew) | (with_reducible apply EncS.drewN)))) (first
    | (go_at_call 33; (with_reducible refine (HH2.out _ (by repeat (first | (with_reducible assumption) | (with_reducible apply Ext.drew) | (with_reducible apply Ext.drewN))) (IsB.ext hB3 (by repeat (first | (with_reducible exact Ext.refl _) | (with_reducible apply Ext.drew) | (with_reducible apply Ext.drewN)))) (Box.ext FB3 (by repeat (first | (with_reducible exact Ext.refl _) | (with_reducible apply Ext.drew) | (with_reducible apply Ext.drewN))))).mono ?_); rintro e wm ⟨rfl, hBm, hEm, hsm, hkm⟩; (have hSm : EncS w0 fb (wrK b fb) wm := ⟨hEm, Box.c0 (hkm fb 89 #[wrK b fb] hfb (by decide) (Box.ext FB3 (by repeat (first | (with_reducible exact Ext.refl _) | (with_reducible apply Ext.drew) | (with_reducible apply Ext.drewN)))))⟩); (have hkm' : KeepB b Wb wm := KeepB.trans (KeepB.of (by repeat (first | (with_reducible exact Ext.refl _) | (with_reducible apply Ext.drew) | (with_reducible apply Ext.drewN)))) hkm))
    )
  all_goals (
    go_wp2_with fail
    go_end0
    exact ⟨rfl, hBm, hEm, Nat.le_trans hs2 (Nat.le_trans hs3 hsm), (hk2.trans hk3).trans hkm'⟩)
theorem write_b (w0 : World) (b fb : Nat) (hfb : fb ≠ b) (htab : TabOK w0) (t : CT) : ∀ (A : Option Addr) (bb h : Nat) (X : List UInt8) (w : World), TreeI w0 t A bb h → t.wf = true → t.okY 2 → X.length + (treeT t).length ≤ 65536 → Ext w0 w → IsB w0.heap.size b X w → Box w fb 89 #[wrK b fb] →
    Calls Tryz.prog 33 #[.pointer A, .pointer (some ⟨b, 0, none⟩), .pointer (some ⟨fb, 0, none⟩)] w (EncP w0 b (X ++ treeT t) w) := by
  induction t with
  | nil => intro A bb h X w hT hwf; cases hwf
  | node vr fl em n y lo hi iha ihb =>
    intro A bb h X w hT hwf hok hlen hE hB FB
    obtain ⟨k, L, H, Y, c, m1, m2, rfl, h1, h2, NB, hY, hlo, hhi⟩ := hT
    obtain ⟨o1, o2, o3, o4, o5⟩ := hok
    unfold treeT at hlen ⊢
    unfold CT.wf at hwf
    by_cases hv : vr = -1
    · subst hv
      rw [if_pos rfl] at hwf
      simp only [Bool.and_eq_true, decide_eq_true_eq] at hwf
      obtain ⟨rfl, a1, a2⟩ := hwf
      rw [if_neg (by decide)] at hlen ⊢
      have e1 : L = none := hlo.nilA.2 (by cases lo with | nil => rfl | node vr fl em n y a b => cases a1)
      have e2 : H = none := hhi.nilA.2 (by cases hi with | nil => rfl | node vr fl em n y a b => cases a2)
      subst e1 e2
      exact write_leaf w0 w b k _ X 0 em Y n c 2 y hE hB (by omega) NB hY.1.rats (by decide) (by decide) o2 o3 htab
    · rw [if_neg hv] at hwf
      simp only [Bool.and_eq_true, decide_eq_true_eq, Bool.not_eq_true'] at hwf
      obtain ⟨g1, g2, rfl, rfl, g5, g6⟩ := hwf
      rw [if_pos g1] at hlen ⊢
      rw [List.length_append, List.length_append] at hlen
      have key := write_in w0 w b fb k X (treeT lo) (treeT hi) vr fl false L H Y 0 c hE hB (by omega) NB g1 (fit_iff.2 (by omega)) o1 FB hfb htab
        (fun W hW hBW FW => iha L m1 m2 (X ++ inT vr fl) W hlo g5 o4 (by rw [List.length_append]; omega) hW hBW FW)
        (fun W hW hBW FW => ihb H m2 h (X ++ inT vr fl ++ treeT lo) W hhi g6 o5 (by rw [List.length_append, List.length_append]; omega) hW hBW FW)
      rw [show X ++ (inT vr fl ++ (treeT lo ++ treeT hi)) = X ++ inT vr fl ++ treeT lo ++ treeT hi by simp]
      exact key
/-- Encode of any tree -/
theorem Encode_t (t : CT) (A : Option Addr) (bb h : Nat) (w : World) (hT : TreeI w t A bb h) (hd : t.dep ≤ 200) (hok : t.okY 2) (hlen : (treeT t).length ≤ 65536) (htab : TabOK w) :
    Calls Tryz.prog 12 #[.pointer A] w (EnPost t.wf (treeT t) w) := by
  refine Encode_any (.pointer A) t.wf (treeT t) w hlen (fun W hW => wellFormed_t t A bb h W (hT.ext hW) hd) (fun hwf w0 W b fb hw0 hW hB hf1 hb1 hne FB => ?_)
  have := write_b w0 b fb hne (htab.ext hw0) t A bb h [] W (hT.ext hw0) hwf hok (by simpa using hlen) hW hB FB
  rwa [List.nil_append] at this
end Go.Proofs.YtljncdcjkdgkeaaGreatDoor.Lp
namespace Go.Proofs.YtljncdcjkdgkeaaGreatDoor.Dc
open Go.RowKit Go.Proofs.YtljncdcjkdgkeaaGreatDoor.Big Go.Proofs.YtljncdcjkdgkeaaGreatDoor.Lp
open Go.Lib (itoa decDigits)
abbrev BL := List UInt8
/-- a list of bytes as a string -/
def str (l : BL) : ByteArray := ⟨l.toArray⟩
theorem str_list (l : BL) : (str l).data.toList = l := by simp [str]
theorem str_size (l : BL) : (str l).size = l.length := rfl
theorem str_of (s : ByteArray) : str s.data.toList = s := by cases s; simp [str]
def sV (xs : List BL) : List Value := xs.map fun s => Value.string (str s)
theorem sV_get {xs : List BL} {j : Nat} {x : BL} (h : xs[j]? = some x) : (sV xs)[j]? = some (.string (str x)) := by simp [sV, h]
theorem sV_len (xs : List BL) : (sV xs).length = xs.length := by simp [sV]
/-- the list ahead of the first c, and the list behind it -/
def cutB (c : UInt8) : BL → Option (BL × BL)
  | [] => none
  | x :: r => if x = c then some ([], r) else (cutB c r).map fun p => (x :: p.1, p.2)
/-- the parts between c's -/
def parts (c : UInt8) : BL → List BL
  | [] => [[]]
  | x :: r => if x = c then [] :: parts c r else match parts c r with | [] => [[x]] | p :: ps => (x :: p) :: ps
theorem cutB_none {c : UInt8} : ∀ {l : BL}, c ∉ l → cutB c l = none
  | [], _ => rfl
  | x :: r, h => by
    simp only [List.mem_cons, not_or] at h
    unfold cutB
    rw [if_neg (fun e => h.1 e.symm), cutB_none h.2]; rfl
theorem cutB_some {c : UInt8} : ∀ {a : BL} {b : BL}, c ∉ a → cutB c (a ++ c :: b) = some (a, b)
  | [], b, _ => by simp [cutB]
  | x :: r, b, h => by
    simp only [List.mem_cons, not_or] at h
    rw [List.cons_append]
    unfold cutB
    rw [if_neg (fun e => h.1 e.symm), cutB_some h.2]; rfl
theorem cutB_spec {c : UInt8} : ∀ {l a b : BL}, cutB c l = some (a, b) → l = a ++ c :: b ∧ c ∉ a
  | [], a, b, h => by cases h
  | x :: r, a, b, h => by
    unfold cutB at h
    split at h
    · next e => injection h with h; injection h with h1 h2; subst h1 h2 e; simp
    · next e =>
      cases hr : cutB c r with
      | none => rw [hr] at h; cases h
      | some p =>
        obtain ⟨p1, p2⟩ := p
        rw [hr] at h
        injection h with h; injection h with h1 h2
        obtain ⟨h3, h4⟩ := cutB_spec hr
        subst h1 h2
        refine ⟨by rw [h3]; rfl, ?_⟩
        simp only [List.mem_cons, not_or]
        exact ⟨fun e' => e e'.symm, h4⟩
theorem cutB_none_iff {c : UInt8} {l : BL} : cutB c l = none ↔ c ∉ l := by
  refine ⟨fun h hm => ?_, cutB_none⟩
  obtain ⟨a, b, rfl, hn⟩ : ∃ a b, l = a ++ c :: b ∧ c ∉ a := by
    clear h
    induction l with
    | nil => cases hm
    | cons x r ih =>
      by_cases e : x = c
      · exact ⟨[], r, by rw [e]; rfl, by simp⟩
      · obtain ⟨a, b, h1, h2⟩ := ih (by simpa [Ne.symm e] using hm)
        refine ⟨x :: a, b, by rw [h1]; rfl, ?_⟩
        simp only [List.mem_cons, not_or]
        exact ⟨Ne.symm e, h2⟩
  rw [cutB_some hn] at h; cases h
theorem indexByte_eq (c : UInt8) : ∀ (l : BL), Lib.indexByte l c = match cutB c l with | some (a, _) => (a.length : Int) | none => -1
  | [] => rfl
  | x :: r => by
    unfold Lib.indexByte cutB
    by_cases e : x = c
    · simp [e]
    · simp only [e, if_false, beq_iff_eq]
      rw [indexByte_eq c r]
      cases cutB c r with
      | none => simp
      | some p => simp <;> omega
theorem cut_eq (l : BL) (c : UInt8) : Lib.cut l [c] = match cutB c l with | some (a, b) => (a, b, true) | none => (l, [], false) := by
  unfold Lib.cut
  rw [Lib.index_one, indexByte_eq]
  cases h : cutB c l with
  | none => simp
  | some p =>
    obtain ⟨a, b⟩ := p
    obtain ⟨h1, _⟩ := cutB_spec h
    simp only [Int.natCast_nonneg, if_true, Int.toNat_natCast, List.length_singleton]
    subst h1
    rw [List.take_left, show a ++ c :: b = (a ++ [c]) ++ b by simp, show a.length + 1 = (a ++ [c]).length by simp, List.drop_left]
theorem parts_ne (c : UInt8) : ∀ l, parts c l ≠ []
  | [] => by simp [parts]
  | x :: r => by
    unfold parts
    split
    · simp
    · split <;> simp
theorem parts_none {c : UInt8} : ∀ {l : BL}, c ∉ l → parts c l = [l]
  | [], _ => rfl
  | x :: r, h => by
    simp only [List.mem_cons, not_or] at h
    unfold parts
    rw [if_neg (fun e => h.1 e.symm), parts_none h.2]
theorem parts_some {c : UInt8} : ∀ {a b : BL}, c ∉ a → parts c (a ++ c :: b) = a :: parts c b
  | [], b, _ => by simp [parts]
  | x :: r, b, h => by
    simp only [List.mem_cons, not_or] at h
    rw [List.cons_append]
    conv => lhs; unfold parts
    rw [if_neg (fun e => h.1 e.symm), parts_some h.2]
/-- numbers -/
def inI (v : Int) : Prop := -9223372036854775808 ≤ v ∧ v ≤ 9223372036854775807
def num (l : BL) : Option Int := match Lib.atoiAll l with | .ok v => if itoa v = l then some v else none | _ => none
theorem parseUint10_append : ∀ (l m : BL) (acc : Nat), Lib.parseUint10 acc (l ++ m) = match Lib.parseUint10 acc l with | .ok a => Lib.parseUint10 a m | .syntax => .syntax | .range => .range
  | [], m, acc => rfl
  | c :: r, m, acc => by
    rw [List.cons_append]
    simp only [Lib.parseUint10]
    by_cases h1 : 48 ≤ c.toNat ∧ c.toNat ≤ 57
    · by_cases h2 : 1844674407370955162 ≤ acc
      · simp only [h1, h2, if_true, and_self]
      · by_cases h3 : 18446744073709551616 ≤ acc * 10 + (c.toNat - 48)
        · simp only [h1, h2, h3, if_true, and_self, if_false]
        · simp only [h1, h2, h3, if_true, and_self, if_false]
          exact parseUint10_append r m _
    · simp only [h1, if_false]
theorem dig_toNat (k : Nat) (h : k < 10) : (UInt8.ofNat (48 + k)).toNat = 48 + k := by
  simp [UInt8.toNat_ofNat']; omega
theorem parse_dec (u : Nat) (h : u < 18446744073709551616) : Lib.parseUint10 0 (decDigits u) = .ok u := by
  induction u using Nat.strongRecOn with
  | _ u ih =>
    by_cases hu : u < 10
    · rw [decDigits, dif_pos hu]
      simp only [Lib.parseUint10, dig_toNat u hu]
      rw [if_pos (by omega), if_neg (by omega), if_neg (by omega)]
      congr 1; omega
    · rw [decDigits, dif_neg hu, parseUint10_append, ih (u / 10) (by omega) (by omega)]
      have := dig_toNat (u % 10) (by omega)
      simp only [Lib.parseUint10, this]
      rw [if_pos (by omega), if_neg (by omega), if_neg (by omega)]
      congr 1; omega
theorem dec_ne (u : Nat) : decDigits u ≠ [] := by rw [decDigits]; split <;> simp
theorem dec_dig (u : Nat) : ∀ c ∈ decDigits u, 48 ≤ c.toNat ∧ c.toNat ≤ 57 := by
  induction u using Nat.strongRecOn with
  | _ u ih =>
    intro c hc
    by_cases hu : u < 10
    · rw [decDigits, dif_pos hu] at hc
      simp only [List.mem_singleton] at hc
      subst hc; rw [dig_toNat u hu]; omega
    · rw [decDigits, dif_neg hu] at hc
      simp only [List.mem_append, List.mem_singleton] at hc
      rcases hc with hc | hc
      · exact ih (u / 10) (by omega) c hc
      · subst hc; rw [dig_toNat _ (by omega)]; omega
theorem dec_parse : ∀ u, decDigits u ≠ [] ∧ (∀ c r, decDigits u = c :: r → c.toNat ≠ 43 ∧ c.toNat ≠ 45) := fun u => ⟨dec_ne u, fun c r h => by
  have := dec_dig u c (by rw [h]; simp)
  omega⟩
theorem atoi_itoa {v : Int} (h : inI v) : Lib.atoiAll (itoa v) = .ok v := by
  obtain ⟨h1, h2⟩ := h
  unfold itoa
  split
  · next hn =>
    unfold Lib.atoiAll
    simp only []
    have e : (45 : UInt8).toNat = 45 := rfl
    rw [e]
    simp only [or_true, if_true, Lib.parseMag, dec_ne, if_false, parse_dec _ (show v.natAbs < 18446744073709551616 by omega)]
    rw [if_neg (by simp), if_neg (by omega)]
    congr 1; omega
  · next hn =>
    obtain ⟨hne, hc⟩ := dec_parse v.toNat
    cases hd : decDigits v.toNat with
    | nil => exact absurd hd hne
    | cons c r =>
      obtain ⟨c1, c2⟩ := hc c r hd
      unfold Lib.atoiAll
      simp only [c1, c2, or_self, if_false, Lib.parseMag]
      rw [if_neg (by simp), ← hd, parse_dec _ (show v.toNat < 18446744073709551616 by omega)]
      simp only []
      rw [if_neg (by omega), if_neg (by simp)]
      congr 1; omega
theorem num_itoa {v : Int} (h : inI v) : num (itoa v) = some v := by unfold num; rw [atoi_itoa h]; simp
theorem num_some {l : BL} {v : Int} (h : num l = some v) : l = itoa v ∧ inI v := by
  unfold num at h
  split at h
  · next v' hv =>
    split at h
    · next he => injection h with h; subst h; exact ⟨he.symm, Lib.atoiAll_bounds hv⟩
    · cases h
  · cases h
theorem index_cut (c : UInt8) (l : BL) : Lib.index l [c] = match cutB c l with | some (a, _) => (a.length : Int) | none => -1 := by
  rw [Lib.index_one, indexByte_eq] <;> (cases cutB c l <;> rfl)
theorem splitK_parts (c : UInt8) : ∀ (N : Nat) (l : BL), l.length = N → Lib.splitK [c] 0 (Lib.count l [c]) l = parts c l := by
  intro N
  induction N using Nat.strongRecOn with
  | _ N ih =>
    intro l hl
    have hi := index_cut c l
    cases h : cutB c l with
    | none =>
      rw [h] at hi
      rw [Lib.count_miss hi, parts_none (cutB_none_iff.1 h)]
      rfl
    | some p =>
      obtain ⟨a, b⟩ := p
      rw [h] at hi
      obtain ⟨rfl, ha⟩ := cutB_spec h
      have hd : (a ++ c :: b).drop (a.length + 1) = b := by
        rw [show a ++ c :: b = (a ++ [c]) ++ b by simp, show a.length + 1 = (a ++ [c]).length by simp, List.drop_left]
      rw [Lib.count_hit (by simp) hi, parts_some ha]
      have hd2 : (a ++ c :: b).drop (a.length + [c].length) = b := hd
      rw [hd2, Nat.add_comm, Lib.splitK, hi]
      rw [if_neg (by simp <;> omega)]
      simp only [Int.toNat_natCast, Nat.add_zero, List.take_left]
      rw [hd2, ih b.length (by rw [← hl]; simp; omega) b rfl]
theorem splitB_parts (s : ByteArray) (c : UInt8) : (Lib.splitB ⟨#[c]⟩ 0 (Lib.countB s ⟨#[c]⟩) s).map Value.string = sV (parts c s.data.toList) := by
  have h1 := Lib.splitB_data ⟨#[c]⟩ 0 (Lib.countB s ⟨#[c]⟩) s
  have h2 : Lib.splitK (⟨#[c]⟩ : ByteArray).data.toList 0 (Lib.countB s ⟨#[c]⟩) s.data.toList = parts c s.data.toList := splitK_parts c _ s.data.toList rfl
  rw [h2] at h1
  rw [← h1]
  unfold sV
  rw [List.map_map]
  apply List.map_congr_left
  intro x _
  simp [str_of]
theorem parts_len (c : UInt8) : ∀ l, (parts c l).length ≤ l.length + 1
  | [] => by simp [parts]
  | x :: r => by
    have h := parts_len c r
    conv => lhs; unfold parts
    split
    · simp; omega
    · split
      · simp
      · next e => rw [e] at h; simp at h ⊢; omega
theorem parts_mem_len (c : UInt8) : ∀ l, ∀ x ∈ parts c l, x.length ≤ l.length
  | [], x, h => by simp [parts] at h; subst h; simp
  | y :: r, x, h => by
    have ih := parts_mem_len c r
    unfold parts at h
    split at h
    · simp only [List.mem_cons] at h
      rcases h with rfl | h
      · simp
      · have := ih x h; simp; omega
    · split at h
      · simp only [List.mem_singleton] at h; subst h; simp
      · next p ps e =>
        rw [e] at ih
        simp only [List.mem_cons] at h
        rcases h with rfl | h
        · have := ih p (by simp); simp; omega
        · have := ih x (by simp [h]); simp; omega
theorem Ext.bytesC (w : World) (e : TypeId) (s : ByteArray) : Ext w (Lib.bytesWorld w e s) := by
  unfold Lib.bytesWorld
  refine ⟨rfl, rfl, rfl, by simp [World.freeze], fun k hk => ?_⟩
  have h1 : k ≠ w.heap.size := by omega
  simp [World.freeze, World.alloc, Array.getElem?_modify, Ne.symm h1, Array.getElem?_push, h1]
  rfl
/-- what decoding reads of package variables -/
structure Env (w : World) : Prop where
  mx : ∃ m : Int, w.cell? ⟨1, 0, none⟩ = some (.int .i64 m)
  tab : Lib.TabIs Tryz.prog w "internal/strconv.uint64pow10" .u64 Lib.pow10Tab
  er : ∃ tp p, w.var? Tryz.prog "strconv.ErrRange" = some #[.iface tp p]
  es : ∃ tp p, w.var? Tryz.prog "strconv.ErrSyntax" = some #[.iface tp p]
theorem var_ext {w w' : World} {n : String} {cs : Array Value} (h : w.var? Tryz.prog n = some cs) (k : Ext w w') : w'.var? Tryz.prog n = some cs := by
  unfold World.var? at h ⊢
  cases hg : Tryz.prog.globalNamed n with
  | none => rw [hg] at h; cases h
  | some g =>
    rw [hg] at h
    simp only [Option.bind_some] at h ⊢
    have hlt : g < w.heap.size := by
      rcases Nat.lt_or_ge g w.heap.size with h' | h'
      · exact h'
      · rw [Array.getElem?_eq_none h'] at h; cases h
    rw [Below.block k g hlt]; exact h
theorem Env.ext {w w' : World} (h : Env w) (k : Ext w w') : Env w' := by
  obtain ⟨⟨m, h1⟩, h2, ⟨tp, p, h4⟩, ⟨tp', p', h5⟩⟩ := h
  exact ⟨⟨m, k.cell h1⟩, var_ext h2 k, ⟨tp, p, var_ext h4 k⟩, ⟨tp', p', var_ext h5 k⟩⟩
theorem Itoa_any (n : Int) (w : World) (hn : inI n) (he : Env w) : Calls Tryz.prog 36 #[.int .i64 n] w (fun e w' => e = .returned (.string (str (Lib.itoa n))) ∧ Ext w w') := by
  refine (Tryz.strconv_Itoa n hn.1 hn.2 w he.tab).mono ?_
  rintro e w' ⟨rfl, k, os, rfl⟩
  exact ⟨rfl, ((Ext.refl w).drewN k).trans (Ext.growC _ os)⟩
def NumPost (w : World) (o : Option Int) (e : Ending) (w' : World) : Prop := (∃ v b, e = .returned (.tuple #[.int .i64 v, .bool b]) ∧ b = o.isSome ∧ (∀ u, o = some u → v = u)) ∧ Ext w w'
set_option maxHeartbeats 1000000 in
set_option maxRecDepth 100000 in
theorem decimal_any (s : ByteArray) (w : World) (hs : s.size ≤ 1099511627776) (he : Env w) : Calls Tryz.prog 75 #[.string s] w (NumPost w (num s.data.toList)) := by
  obtain ⟨o, ho⟩ : ∃ o, o = num s.data.toList := ⟨_, rfl⟩
  have HO := Lib.hid ho
  rw [← ho]
  clear ho
  cases ha : Lib.atoiAll s.data.toList with
  | ok v =>
    have hv := Lib.atoiAll_bounds ha
    have HO2 : Hid (o = if Lib.itoa v = s.data.toList then some v else none) := Lib.hid (by rw [HO.out]; unfold num; rw [ha])
    have HA := Lib.hid ha
    obtain ⟨t, ht⟩ : ∃ t, t = str (Lib.itoa v) := ⟨_, rfl⟩
    have HT := Lib.hid ht
    have htl : t.toList = Lib.itoa v := by rw [ht, Lib.toList_data, str_list]
    have HTL := Lib.hid htl
    clear ha HO ht htl
    go_enter Tryz.func75, Tryz.ntmps75
    go_wp2_with fail
    refine (Tryz.strconv_Atoi_ok s (by omega) v HA.out _).mono ?_
    rintro e w1 ⟨rfl, hw1⟩
    have hx1 : Ext w w1 := by
      rcases hw1 with rfl | ⟨t, rfl⟩
      · exact Ext.refl _
      · exact Ext.bytesC _ _ _
    clear hw1
    go_wp2_with fail
    refine (Itoa_any v _ hv (he.ext hx1)).mono ?_
    rintro e w2 ⟨rfl, hx2⟩
    rw [← HT.out]
    by_cases hq : t.toList = s.toList
    · have hq' : (t.toList == s.toList) = true := by simp [hq]
      have HF : Hid (o = some v) := Lib.hid (by rw [HO2.out, if_pos (by rw [← HTL.out, hq, Lib.toList_data])])
      clear hq HO2
      go_wp2_with fail
      go_ret2
      exact ⟨⟨v, true, rfl, by rw [HF.out]; rfl, fun u h => by rw [HF.out] at h; injection h⟩, hx1.trans hx2⟩
    · have hq' : (t.toList == s.toList) = false := by simp [hq]
      have HF : Hid (o = none) := Lib.hid (by rw [HO2.out, if_neg (by rw [← HTL.out]; rw [Lib.toList_data s] at hq; exact hq)])
      clear hq HO2
      go_wp2_with fail
      go_ret2
      exact ⟨⟨_, false, rfl, by rw [HF.out]; rfl, fun u h => by rw [HF.out] at h; cases h⟩, hx1.trans hx2⟩
  | «syntax» =>
    have HF : Hid (o = none) := Lib.hid (by rw [HO.out]; unfold num; rw [ha])
    have HA := Lib.hid ha
    obtain ⟨tp, p, hvar⟩ := he.es
    have HV := Lib.hid hvar
    clear ha HO hvar
    go_enter Tryz.func75, Tryz.ntmps75
    go_wp2_with fail
    refine (Tryz.strconv_Atoi_syntax_var s (by omega) HA.out tp p _ HV.out).mono ?_
    rintro e w1 ⟨N, rfl, _, _, hx1⟩
    go_wp2_with fail
    go_ret2
    exact ⟨⟨_, false, rfl, by rw [HF.out]; rfl, fun u h => by rw [HF.out] at h; cases h⟩, hx1⟩
  | range =>
    have HF : Hid (o = none) := Lib.hid (by rw [HO.out]; unfold num; rw [ha])
    have HA := Lib.hid ha
    obtain ⟨tp, p, hvar⟩ := he.er
    have HV := Lib.hid hvar
    clear ha HO hvar
    go_enter Tryz.func75, Tryz.ntmps75
    go_wp2_with fail
    refine (Tryz.strconv_Atoi_range_var s (by omega) HA.out tp p _ HV.out).mono ?_
    rintro e w1 ⟨N, rfl, _, _, hx1⟩
    go_wp2_with fail
    go_ret2
    exact ⟨⟨_, false, rfl, by rw [HF.out]; rfl, fun u h => by rw [HF.out] at h; cases h⟩, hx1⟩
def RowPost (w : World) (vs : List Value) (e : Ending) (w' : World) : Prop := (∃ v, e = .returned v ∧ Row w' v vs) ∧ Ext w w'
theorem Split_any (s : ByteArray) (c : UInt8) (w : World) (hs : s.size < 4294967281) (he : Env w) : Calls Tryz.prog 73 #[.string s, .string ⟨#[c]⟩] w (RowPost w (sV (parts c s.data.toList))) := by
  obtain ⟨m, hm⟩ := he.mx
  refine (Tryz.strings_Split s ⟨#[c]⟩ m w hs hm (Nat.le_refl _)).mono ?_
  rintro e w' ⟨rfl, rfl⟩
  refine ⟨⟨_, rfl, ?_⟩, (Ext.refl w).alloc _⟩
  have hlen : (sV (parts c s.data.toList)).length = Lib.countB s ⟨#[c]⟩ + 1 := by
    rw [← splitB_parts, List.length_map]
    exact Lib.splitB_all ⟨#[c]⟩ (Nat.le_refl _) 0 _ s rfl
  rw [← splitB_parts] at hlen ⊢
  have hc := Lib.countB_le ⟨#[c]⟩ (Nat.le_refl _) s.size s (Nat.le_refl _)
  refine ⟨_, _, by rw [hlen], by rw [hlen]; exact Nat.le_refl _, by omega, fun _ => ⟨_, 0, rfl, fun j u hj => ?_⟩⟩
  rw [Nat.zero_add, World.cell?_alloc_new]
  simpa using hj

/-- strings.Cut at one byte -/
def CutPost (w : World) (l : BL) (c : UInt8) (e : Ending) (w' : World) : Prop :=
  (∃ a b : BL, ∃ f : Bool, e = .returned (.tuple #[.string (str a), .string (str b), .bool f]) ∧ (f = true → cutB c l = some (a, b)) ∧ (f = false → cutB c l = none ∧ a = l ∧ b = [])) ∧ Ext w w'
theorem Cut_any (s : ByteArray) (c : UInt8) (w : World) (hs : s.size < 4294967281) (he : Env w) : Calls Tryz.prog 72 #[.string s, .string ⟨#[c]⟩] w (CutPost w s.data.toList c) := by
  obtain ⟨m, hm⟩ := he.mx
  refine (Tryz.strings_Cut s ⟨#[c]⟩ m w hs hm).mono ?_
  rintro e w' ⟨rfl, n, rfl⟩
  refine ⟨?_, (Ext.refl w).drewN n⟩
  have hc := cut_eq s.data.toList c
  have e1 : (⟨#[c]⟩ : ByteArray).data.toList = [c] := rfl
  rw [e1, hc]
  cases h : cutB c s.data.toList with
  | none => exact ⟨_, _, false, rfl, fun h => (by cases h), fun _ => ⟨rfl, rfl, rfl⟩⟩
  | some p => exact ⟨p.1, p.2, true, rfl, fun _ => rfl, fun h => (by cases h)⟩
end Go.Proofs.YtljncdcjkdgkeaaGreatDoor.Dc
namespace Go.Proofs.YtljncdcjkdgkeaaGreatDoor.Dc
open Go.ChangeShapes Go.WideShapes Go.ChangeAt Go.RowKit Go.Proofs.YtljncdcjkdgkeaaGreatDoor.Big Go.Proofs.YtljncdcjkdgkeaaGreatDoor.Lp
theorem cellsStr : Tryz.prog.cellsOf 9 = 1 := by kernel_rfl
theorem laidER : laidAll.filter (fun x => x.1 == "strconv.ErrRange") = [("strconv.ErrRange", Rows.laid_strconv_ErrRange)] := by kernel_rfl
theorem laidES : laidAll.filter (fun x => x.1 == "strconv.ErrSyntax") = [("strconv.ErrSyntax", Rows.laid_strconv_ErrSyntax)] := by kernel_rfl
theorem laidHead {W : World} (h : laidMet Tryz.prog laidAll W) {n : String} {d : DataW Unit} (hf : laidAll.filter (fun x => x.1 == n) = [(n, d)]) : laidMet Tryz.prog [(n, d)] W := by
  have h1 := h.filter (fun x => x.1 == n)
  rw [hf] at h1; exact h1
theorem gER : Tryz.prog.globalNamed "strconv.ErrRange" = some 3 := by kernel_rfl
theorem gERType : (Tryz.prog.globals[(3 : Nat)]?).map (·.type) = some 92 := by kernel_rfl
theorem gES : Tryz.prog.globalNamed "strconv.ErrSyntax" = some 2 := by kernel_rfl
theorem gESType : (Tryz.prog.globals[(2 : Nat)]?).map (·.type) = some 92 := by kernel_rfl
theorem starES : "*" ++ "errors.errorString" = "*errors.errorString" := by decide
theorem rowES (u : TypeId) (h : Tryz.prog.typeName? 3 u = some "*errors.errorString") : u = 249 :=
  typeName_ptr_named (nm := "errors.errorString") (by rw [starES]; kernel_rfl) (by kernel_rfl) (by decide) u (by rw [starES]; exact h)
theorem cellsES : Tryz.prog.cellsOf 251 = 1 := by kernel_rfl
theorem errRange_of {W : World} (h : laidMet Tryz.prog laidAll W) : ∃ tp p, W.var? Tryz.prog "strconv.ErrRange" = some #[.iface tp p] := by
  obtain ⟨a1, s1, hv1, _⟩ := laid_sentinel (laidHead h laidER) gER gERType Tryz.underlying92 rowES Tryz.underlying249 Tryz.underlying251 rfl rfl Tryz.underlying9 cellsES cellsStr
  exact ⟨_, _, hv1⟩
theorem errSyntax_of {W : World} (h : laidMet Tryz.prog laidAll W) : ∃ tp p, W.var? Tryz.prog "strconv.ErrSyntax" = some #[.iface tp p] := by
  obtain ⟨a1, s1, hv1, _⟩ := laid_sentinel (laidHead h laidES) gES gESType Tryz.underlying92 rowES Tryz.underlying249 Tryz.underlying251 rfl rfl Tryz.underlying9 cellsES cellsStr
  exact ⟨_, _, hv1⟩
theorem mx_of_shaped {W : World} (h : W.ShapedOpen Tryz.prog) : ∃ m : Int, W.cell? ⟨1, 0, none⟩ = some (.int .i64 m) := by
  obtain ⟨m, hm⟩ := Tryz.laysM219.s1_3 W h
  exact ⟨m, hm⟩
theorem env_of {W : World} (h : laidMet Tryz.prog laidAll W) (hs : W.ShapedOpen Tryz.prog) : Env W := ⟨mx_of_shaped hs, tab_of_laid h, errRange_of h, errSyntax_of h⟩
end Go.Proofs.YtljncdcjkdgkeaaGreatDoor.Dc
namespace Go.Proofs.YtljncdcjkdgkeaaGreatDoor.Lp
open Go.RowKit Go.Proofs.YtljncdcjkdgkeaaGreatDoor.Big Go.Proofs.YtljncdcjkdgkeaaGreatDoor.Rt

/-- the library's variable internal/bytealg.MaxLen holds a number -/
def MxC (w : World) : Prop := ∃ m : Int, w.cell? ⟨1, 0, none⟩ = some (.int .i64 m)
theorem MxC.later {w w' : World} (h : MxC w) (k : Ext w w') : MxC w' := by
  obtain ⟨m, hm⟩ := h
  exact ⟨m, k.cell hm⟩
theorem cut_none : Lib.cut ([] : List UInt8) [10] = ([], [], false) := by decide
set_option maxRecDepth 100000 in
theorem node_none (db : Nat) (lev : Int) (w : World) (hD : Box w db 100 #[.string ⟨#[]⟩, .int .i64 0]) (hm : MxC w) :
    Calls Tryz.prog 40 #[.pointer (some ⟨db, 0, none⟩), .int .i64 lev] w (fun e w' => e = .returned (.pointer none) ∧ Box w' db 100 #[.string ⟨#[]⟩, .int .i64 4] ∧ ∀ a, Ext a w → a.heap.size ≤ db → Ext a w') := by
  obtain ⟨m, hm⟩ := hm
  have c0 := hD.c0
  have hcut := Tryz.strings_Cut ⟨#[]⟩ ⟨#[10]⟩ m w (by decide) hm
  rw [show (⟨#[]⟩ : ByteArray).data.toList = [] from rfl, show (⟨#[10]⟩ : ByteArray).data.toList = [10] from rfl, cut_none] at hcut
  go_enter Tryz.func40, Tryz.ntmps40
  go_wp2_with fail
  refine hcut.mono ?_
  rintro e w1 ⟨rfl, nd, rfl⟩
  have hD1 : Box (w.drewN nd) db 100 #[.string ⟨#[]⟩, .int .i64 0] := hD.ext ((Ext.refl w).drewN nd)
  have c1 := hD1.c1
  have z1 := hD1.frozen 1
  clear c0
  go_wp2_with fail
  go_ret
  exact ⟨rfl, hD1.set 1 (.int .i64 4), fun a ha hs => ((ha.drewN nd).set (p := ⟨db, 1, none⟩) hs _)⟩
set_option maxRecDepth 100000 in
theorem decode_none (w : World) (hm : MxC w) : Calls Tryz.prog 13 #[.string ⟨#[]⟩] w (fun e w' => e = .returned (.tuple #[.pointer none, .int .i64 4]) ∧ Ext w w') := by
  go_enter Tryz.func13, Tryz.ntmps13
  go_upto_region 6 with fail
  have DB := Box.new w 100 #[.string ⟨#[]⟩, .int .i64 0]
  have hE : Ext w (w.alloc (.cells #[.string ⟨#[]⟩, .int .i64 0] 100)) := (Ext.refl w).alloc _
  generalize (w.alloc (.cells #[.string ⟨#[]⟩, .int .i64 0] 100)) = V at *
  obtain ⟨db, hdb⟩ : ∃ x, x = w.heap.size := ⟨_, rfl⟩
  rw [← hdb] at DB ⊢
  have hdw : w.heap.size ≤ db := by omega
  clear hdb
  go_wp2_with fail
  refine (node_none db 0 _ DB (hm.later hE)).mono ?_
  rintro e w1 ⟨rfl, DB1, hx⟩
  have hE1 := hx w hE hdw
  have c1 := DB1.c1
  clear DB hx
  go_upto_region 8 with fail
  go_region
  all_goals (
    go_wp2_with fail
    refine bodyPost_ret (v := .tuple #[.pointer none, .int .i64 4]) (by simp [results, Tryz.results13, go_sem]) rfl ?_
    exact ⟨rfl, by first | exact hE1.drew | exact hE1⟩)
theorem decode_long (s : ByteArray) (w : World) (hs : 65536 < s.size) : Calls Tryz.prog 13 #[.string s] w (fun e w' => e = .returned (.tuple #[.pointer none, .int .i64 5]) ∧ Ext w w') := by
  have h1 : decide ((65536 : Int) < (s.size : Int)) = true := by simp; omega
  go_enter Tryz.func13, Tryz.ntmps13
  go_wp2_with fail
  refine bodyPost_ret (v := .tuple #[.pointer none, .int .i64 5]) (by simp [results, Tryz.results13, go_sem]) rfl ?_
  exact ⟨rfl, Ext.refl w⟩
end Go.Proofs.YtljncdcjkdgkeaaGreatDoor.Lp
namespace Go.Proofs.YtljncdcjkdgkeaaGreatDoor.Rt
open Go.RowKit Go.Proofs.YtljncdcjkdgkeaaGreatDoor.Big

/-- the library's variable internal/bytealg.MaxLen holds a number -/
def MxOK (w : World) : Prop := ∃ m : Int, w.cell? ⟨1, 0, none⟩ = some (.int .i64 m)
theorem MxOK.ext {w w' : World} (h : MxOK w) (k : Ext w w') : MxOK w' := by
  obtain ⟨m, hm⟩ := h; exact ⟨m, k.cell hm⟩
theorem cut_sizes (l : List UInt8) : (Lib.cut l [47]).1.length ≤ l.length ∧ (Lib.cut l [47]).2.1.length ≤ l.length := by
  rcases cut_cases l with ⟨_, e⟩ | ⟨a, b, _, hl, e⟩
  · rw [e]; simp
  · rw [e, hl]; simp; omega

theorem cmpZ_zero' {x y : Int} : cmpZ x y = 0 ↔ x = y := by
  unfold cmpZ
  split
  · exact ⟨fun h => by omega, fun h => by omega⟩
  · split
    · exact ⟨fun h => by omega, fun h => by omega⟩
    · exact ⟨fun h => by omega, fun h => by omega⟩

set_option maxHeartbeats 2000000 in
theorem RatParse_full (s : ByteArray) (w : World) (hs : 4096 < s.size) : Calls Tryz.prog 103 #[.string s] w (MakeZero w 5) := by
  have B2 := Box.new w 58 #[.bool false, .slice none 0 0, .bool false, .slice none 0 0]
  have hE0 : Ext w (w.alloc (.cells #[.bool false, .slice none 0 0, .bool false, .slice none 0 0] 58)) := (Ext.refl w).alloc _
  have e1 : decide ((4096 : Int) < s.size) = true := by simp; omega
  have pc0 := B2.c0
  have pc1 := B2.c1
  have pc2 := B2.c2
  have pc3 := B2.c3
  go_enter Tryz.func103, Tryz.ntmps103
  go_wp2_with fail
  refine bodyPost_ret (v := .tuple #[.agg #[.bool false, .slice none 0 0, .bool false, .slice none 0 0], .int .i64 5]) (by simp [results, Tryz.results103, go_sem]) rfl ?_
  exact ⟨rfl, hE0⟩

def RParPost (s : ByteArray) (k : Nat) (w : World) (e : Ending) (w' : World) : Prop :=
  (isRat s.data.toList = true → MakePost w (parseQ s.data.toList) k e w') ∧ (isRat s.data.toList = false → MakeZero w 3 e w')

set_option maxRecDepth 100000 in
set_option maxHeartbeats 8000000 in
theorem RatParse_any (s : ByteArray) (k : Nat) (w : World) (hs : s.size ≤ 4096) (hsk : s.size ≤ k) (hk2 : 2 ≤ k) (hk : k ≤ 1099511627776) (hmx : MxOK w) : Calls Tryz.prog 103 #[.string s] w (RParPost s k w) := by
  obtain ⟨l, hl⟩ : ∃ l, l = s.data.toList := ⟨_, rfl⟩
  have hll : l.length = s.size := by rw [hl]; rfl
  obtain ⟨z1, z2⟩ := cut_sizes l
  unfold RParPost
  rw [← hl]
  obtain ⟨fb, hfb⟩ : ∃ b, b = (Lib.cut l [47]).2.2 := ⟨_, rfl⟩
  obtain ⟨la, hla⟩ : ∃ b, b = (Lib.cut l [47]).1 := ⟨_, rfl⟩
  obtain ⟨lb, hlb⟩ : ∃ b, b = (Lib.cut l [47]).2.1 := ⟨_, rfl⟩
  have hR : isRat l = if fb then isDec la && isDec lb && decide (1 < parseZ lb) && decide (Nat.gcd (parseZ la).natAbs (parseZ lb).natAbs = 1) else isDec la := by unfold isRat; rw [← hfb, ← hla, ← hlb]
  have hQ : parseQ l = Rat.divInt (parseZ la) (if fb then parseZ lb else 1) := by unfold parseQ; rw [← hfb, ← hla, ← hlb]
  rw [← hla] at z1
  rw [← hlb] at z2
  obtain ⟨sa, hsa⟩ : ∃ b : ByteArray, b = ⟨la.toArray⟩ := ⟨_, rfl⟩
  obtain ⟨sb, hsb⟩ : ∃ b : ByteArray, b = ⟨lb.toArray⟩ := ⟨_, rfl⟩
  have ea : sa.data.toList = la := by rw [hsa]
  have eb : sb.data.toList = lb := by rw [hsb]
  have na : sa.size ≤ s.size := by rw [← hll]; have : sa.size = la.length := by rw [hsa]; rfl
                                   omega
  have nb : sb.size ≤ s.size := by rw [← hll]; have : sb.size = lb.length := by rw [hsb]; rfl
                                   omega
  have HCUT : Hid (∀ w', MxOK w' → Calls Tryz.prog 72 #[.string s, .string ⟨#[47]⟩] w' (fun e w'' => e = .returned (.tuple #[.string sa, .string sb, .bool fb]) ∧ Ext w' w'')) := Lib.hid (by
    rintro w' ⟨m, hm⟩
    refine (Tryz.strings_Cut s ⟨#[47]⟩ m w' (by omega) hm).mono ?_
    rintro e w'' ⟨rfl, n, rfl⟩
    refine ⟨?_, Ext.drewN_self _ _⟩
    rw [hsa, hsb, hla, hlb, hfb, hl])
  obtain ⟨R, hRR⟩ : ∃ R, R = isRat l := ⟨_, rfl⟩
  obtain ⟨q, hqq⟩ : ∃ q, q = parseQ l := ⟨_, rfl⟩
  rw [← hRR, ← hqq]
  rw [← hRR, ← ea, ← eb] at hR
  rw [← hqq, ← ea, ← eb] at hQ
  have HR := Lib.hid hR
  have HQ := Lib.hid hQ
  have B2 := Box.new w 58 #[.bool false, .slice none 0 0, .bool false, .slice none 0 0]
  have hE0 : Ext w (w.alloc (.cells #[.bool false, .slice none 0 0, .bool false, .slice none 0 0] 58)) := (Ext.refl w).alloc _
  have e1 : decide ((4096 : Int) < s.size) = false := by simp; omega
  have hmx := hmx.ext hE0
  clear hR hQ hRR hqq hsa hsb ea eb hla hlb hfb hl z1 z2 hll
  go_enter Tryz.func103, Tryz.ntmps103
  go_wp2_with fail
  refine (HCUT.out _ hmx).mono ?_
  rintro e w1 ⟨rfl, hx1⟩
  have hE1 := hE0.trans hx1
  have B2 := B2.ext hx1
  go_wp2_with fail
  refine (Parse_any sa _ (by omega)).mono ?_
  rintro e w2 ⟨v2, X, rfl, hX, hXv, -, hx2⟩
  obtain ⟨da, hda⟩ : ∃ b, b = isDec sa.data.toList := ⟨_, rfl⟩
  obtain ⟨es, hes⟩ : ∃ es : Int, es = (if isDec sa.data.toList = true then 0 else 3) := ⟨_, rfl⟩
  rw [← hes]
  rw [← hda] at hes hXv
  have hde : (es != 0) = !da := by rw [hes]; cases da <;> rfl
  have HDA := Lib.hid hda
  have HXV := Lib.hid hXv
  clear hes hda hXv
  obtain ⟨p3, A3, n3, c3, rfl⟩ := hX.shape
  go_upto_region 5 with fail
  have hx3 : Ext w2 (w2.alloc (.cells #[.bool p3, .slice A3 n3 c3] 56)) := (Ext.refl w2).alloc _
  have B7 := Box.new w2 56 #[.bool p3, .slice A3 n3 c3]
  have hX := hX.ext hx3
  have hE3 := (hE1.trans hx2).trans hx3
  have B2 := (B2.ext hx2).ext hx3
  generalize (w2.alloc (.cells #[.bool p3, .slice A3 n3 c3] 56)) = W at *
  clear hx1 hx2 hx3 hE0 hE1 hmx
  cases da
  case false =>
    have hRf : R = false := by
      have h1 := HDA.out
      have h2 := HR.out
      rw [← h1] at h2
      rw [h2]; cases fb <;> rfl
    have HRf := Lib.hid hRf
    clear hRf
    have q0 := B2.c0
    have q1 := B2.c1
    have q2 := B2.c2
    have q3 := B2.c3
    have f0 := B2.frozen 0
    have f1 := B2.frozen 1
    have f2 := B2.frozen 2
    have f3 := B2.frozen 3
    go_wp2_with fail
    obtain ⟨pp, pb⟩ := RatV.put (RatV.zero W) B2
    have pc0 := pb.c0
    have pc1 := pb.c1
    have pc2 := pb.c2
    have pc3 := pb.c3
    refine bodyPost_ret (v := .tuple #[.agg #[.bool false, .slice none 0 0, .bool false, .slice none 0 0], .int .i64 3]) (by simp [results, Tryz.results103, go_sem, pc0, pc1, pc2, pc3]) rfl ?_
    exact ⟨fun h => absurd (h.symm.trans HRf.out) (by decide), fun _ => ⟨rfl, (((hE3.set (by simp) _).set (by simp) _).set (by simp) _).set (by simp) _⟩⟩
  have hXs := HXV.out rfl
  have bX : B k X := by rw [hXs]; exact parse_boundK (by omega) HDA.out.symm
  have HX := Lib.hid hXs
  clear hXs
  cases fb
  case false =>
    have hRt : R = true := by rw [HR.out]; exact HDA.out.symm
    have hq : q = Rat.divInt X 1 := by rw [HQ.out, HX.out]; rfl
    have HQ1 := Lib.hid hq
    have HRt := Lib.hid hRt
    clear hq hRt
    have hXB : BigB W _ X k := ⟨hX, bX⟩
    have HD0 : Hid ((1 : Int) ≠ 0) := Lib.hid (by decide)
    have ks := KE.start (R := [w.heap.size]) hE3 (by simp)
    have hb7 : w2.heap.size ∉ [w.heap.size] := by
      have h1 := B2.lt
      simp
      intro h
      have h2 := B7
      rw [h] at h2
      unfold Box at h2 B2
      rw [B2] at h2
      simp at h2
    have k70 : ∀ w', KE [w.heap.size] w W w' → w'.cell? ⟨w2.heap.size, 0, none⟩ = some (.bool p3) := fun w' h => (h.bx B7 hb7).c0
    have k71 : ∀ w', KE [w.heap.size] w W w' → w'.cell? ⟨w2.heap.size, 1, none⟩ = some (.slice A3 n3 c3) := fun w' h => (h.bx B7 hb7).c1
    go_upto_region 8 with fail
    go_region_held3 (fun w' => KE [w.heap.size] w W w') ((repeat (first | assumption | apply KE.drew | apply KE.drewN | apply KE.alloc | (refine KE.set ?_ (by simp) _) | (refine KE.step ?_ (by assumption))))) (first
        | (go_at_call 90; (with_reducible refine (Gcd_b _ _ _ _ _ _ _ (BigB.ext (by assumption) (by repeat (first | (with_reducible exact Ext.refl _) | (with_reducible apply Ext.drew) | (with_reducible apply Ext.drewN) | (with_reducible refine Ext.trans ?_ (by assumption))))) (BigB.ext (by assumption) (by repeat (first | (with_reducible exact Ext.refl _) | (with_reducible apply Ext.drew) | (with_reducible apply Ext.drewN) | (with_reducible refine Ext.trans ?_ (by assumption))))) (by first | omega | decide)).mono ?_); rintro e wk ⟨vk, rfl, hbk, hxk⟩; (obtain ⟨pk, Ak, nk, ck, rfl⟩ := hbk.1.shape))
        | (go_at_call 46; (with_reducible refine (Of_b _ _ (by first | assumption | decide) (by first | assumption | decide)).mono ?_); rintro e wk ⟨vk, rfl, hbk, hxk⟩; (obtain ⟨pk, Ak, nk, ck, rfl⟩ := hbk.1.shape))
        | (go_at_call 60; (with_reducible refine (red_b _ _ _ _ _ _ _ (BigB.ext (by assumption) (by repeat (first | (with_reducible exact Ext.refl _) | (with_reducible apply Ext.drew) | (with_reducible apply Ext.drewN) | (with_reducible refine Ext.trans ?_ (by assumption))))) (BigB.ext (by assumption) (by repeat (first | (with_reducible exact Ext.refl _) | (with_reducible apply Ext.drew) | (with_reducible apply Ext.drewN) | (with_reducible refine Ext.trans ?_ (by assumption))))) (by omega) HD0.out).mono ?_); rintro e wk ⟨vk, rfl, hbk, hxk⟩; (obtain ⟨pk, Ak, nk, ck, pk', Ak', nk', ck', rfl⟩ := hbk.1.shape); (have b2 := Box.ext B2 (show Ext W wk by repeat (first | (with_reducible exact Ext.refl _) | (with_reducible apply Ext.drew) | (with_reducible apply Ext.drewN) | (with_reducible refine Ext.trans ?_ (by assumption))))); have q0 := b2.c0; have q1 := b2.c1; have q2 := b2.c2; have q3 := b2.c3; have f0 := b2.frozen 0; have f1 := b2.frozen 1; have f2 := b2.frozen 2; have f3 := b2.frozen 3)
      )
    all_goals (rw [← HQ1.out] at hbk)
    all_goals go_wp2_with fail
    all_goals (
      obtain ⟨pp, pb⟩ := RatV.put hbk.1 b2
      have pc0 := pb.c0
      have pc1 := pb.c1
      have pc2 := pb.c2
      have pc3 := pb.c3
      refine bodyPost_ret (v := .tuple #[.agg #[.bool pk, .slice Ak nk ck, .bool pk', .slice Ak' nk' ck'], .int .i64 0]) (by simp [results, Tryz.results103, go_sem, pc0, pc1, pc2, pc3]) rfl ?_
      exact ⟨fun _ => ⟨_, rfl, ⟨pp, QB_mono (by omega) hbk.2⟩, KE.ext (R := [w.heap.size]) (W0 := W) (by assumption)⟩, fun h => absurd (h.symm.trans HRt.out) (by decide)⟩)
  go_wp2_with fail
  refine (Of_b 1 _ (by decide) (by decide)).mono ?_
  rintro e w4 ⟨v4, rfl, h4, hx4⟩
  obtain ⟨p4, A4, n4, c4, rfl⟩ := h4.1.shape
  go_upto_region 10 with fail
  have hx5 : Ext w4 (w4.alloc (.cells #[.bool p4, .slice A4 n4 c4] 56)) := (Ext.refl w4).alloc _
  have B9 := Box.new w4 56 #[.bool p4, .slice A4 n4 c4]
  have hx45 := hx4.trans hx5
  have hX := hX.ext hx45
  have h1 := h4.ext hx5
  have B7 := B7.ext hx45
  have B2 := B2.ext hx45
  have hE5 := hE3.trans hx45
  generalize (w4.alloc (.cells #[.bool p4, .slice A4 n4 c4] 56)) = W5 at *
  clear hx4 hx5 hx45 h4 hE3
  go_wp2_with fail
  refine (Parse_any sb _ (by omega)).mono ?_
  rintro e w6 ⟨v6, Y, rfl, hY, hYv, -, hx6⟩
  obtain ⟨db, hdb⟩ : ∃ b, b = isDec sb.data.toList := ⟨_, rfl⟩
  obtain ⟨et, het⟩ : ∃ es : Int, es = (if isDec sb.data.toList = true then 0 else 3) := ⟨_, rfl⟩
  rw [← het]
  rw [← hdb] at het hYv
  have hdte : (et != 0) = !db := by rw [het]; cases db <;> rfl
  have HDB := Lib.hid hdb
  have HYV := Lib.hid hYv
  clear het hdb hYv
  obtain ⟨p6, A6, n6, c6, rfl⟩ := hY.shape
  go_upto_region 11 with fail
  have hx7 : Ext w6 (w6.alloc (.cells #[.bool p6, .slice A6 n6 c6] 56)) := (Ext.refl w6).alloc _
  have B10 := Box.new w6 56 #[.bool p6, .slice A6 n6 c6]
  have hx67 := hx6.trans hx7
  have hX := hX.ext hx67
  have hY := hY.ext hx7
  have h1 := h1.ext hx67
  have B7 := B7.ext hx67
  have B9 := B9.ext hx67
  have B2 := B2.ext hx67
  have hE7 := hE5.trans hx67
  generalize (w6.alloc (.cells #[.bool p6, .slice A6 n6 c6] 56)) = W7 at *
  clear hx6 hx7 hx67 hE5
  cases db
  case false =>
    have hRf : R = false := by
      have h1 := HDB.out
      have h2 := HR.out
      rw [← h1] at h2
      rw [h2]; cases isDec sa.data.toList <;> rfl
    have HRf := Lib.hid hRf
    clear hRf
    have q0 := B2.c0
    have q1 := B2.c1
    have q2 := B2.c2
    have q3 := B2.c3
    have f0 := B2.frozen 0
    have f1 := B2.frozen 1
    have f2 := B2.frozen 2
    have f3 := B2.frozen 3
    go_region
    all_goals (go_wp2_with fail)
    all_goals (
      obtain ⟨pp, pb⟩ := RatV.put (RatV.zero W7) B2
      have pc0 := pb.c0
      have pc1 := pb.c1
      have pc2 := pb.c2
      have pc3 := pb.c3
      refine bodyPost_ret (v := .tuple #[.agg #[.bool false, .slice none 0 0, .bool false, .slice none 0 0], .int .i64 3]) (by simp [results, Tryz.results103, go_sem, pc0, pc1, pc2, pc3]) rfl ?_
      exact ⟨fun h => absurd (h.symm.trans HRf.out) (by decide), fun _ => ⟨rfl, Ext.drew ((((hE7.set (by simp) _).set (by simp) _).set (by simp) _).set (by simp) _)⟩⟩)
  have hYs := HYV.out rfl
  have bY : B k Y := by rw [hYs]; exact parse_boundK (by omega) HDB.out.symm
  have HY := Lib.hid hYs
  have hRR : R = (decide (1 < Y) && decide (Nat.gcd X.natAbs Y.natAbs = 1)) := by
    rw [HR.out, ← HDA.out, ← HDB.out, ← HX.out, ← HY.out]; rfl
  have HRR := Lib.hid hRR
  clear hYs hRR
  by_cases hy1 : 1 < Y
  case neg =>
    have e3 : decide (cmpZ Y 1 ≤ 0) = true := by
      unfold cmpZ; split <;> (try split) <;> simp <;> omega
    have hRf : R = false := by rw [HRR.out]; simp [hy1]
    have HRf := Lib.hid hRf
    clear hRf hy1
    have h1V := h1.1
    have k9 := B9.c0
    have k9' := B9.c1
    have k10 := B10.c0
    have k10' := B10.c1
    go_region_with (first
      | (go_at_call 45; (with_reducible refine (Cmp_any _ _ _ _ _ (hY.ext (by repeat (first | (with_reducible exact Ext.refl _) | (with_reducible apply Ext.drew) | (with_reducible apply Ext.drewN)))) (h1V.ext (by repeat (first | (with_reducible exact Ext.refl _) | (with_reducible apply Ext.drew) | (with_reducible apply Ext.drewN))))).mono ?_); rintro e w8 ⟨rfl, hx8⟩))
    all_goals (have B2 := B2.drew.ext hx8)
    all_goals (have hE8 := hE7.drew.trans hx8)
    all_goals (clear k9 k9' k10 k10')
    all_goals (
      have q0 := B2.c0
      have q1 := B2.c1
      have q2 := B2.c2
      have q3 := B2.c3
      have f0 := B2.frozen 0
      have f1 := B2.frozen 1
      have f2 := B2.frozen 2
      have f3 := B2.frozen 3
      go_wp2_with fail
      obtain ⟨pp, pb⟩ := RatV.put (RatV.zero w8) B2
      have pc0 := pb.c0
      have pc1 := pb.c1
      have pc2 := pb.c2
      have pc3 := pb.c3
      refine bodyPost_ret (v := .tuple #[.agg #[.bool false, .slice none 0 0, .bool false, .slice none 0 0], .int .i64 3]) (by simp [results, Tryz.results103, go_sem, pc0, pc1, pc2, pc3]) rfl ?_
      exact ⟨fun h => absurd (h.symm.trans HRf.out) (by decide), fun _ => ⟨rfl, (((hE8.set (by simp) _).set (by simp) _).set (by simp) _).set (by simp) _⟩⟩)
  case pos =>
    have e3 : decide (cmpZ Y 1 ≤ 0) = false := by
      unfold cmpZ; split <;> (try split) <;> simp <;> omega
    have hYB : BigB W7 _ Y k := ⟨hY, bY⟩
    have hXB : BigB W7 _ X k := ⟨hX, bX⟩
    have k90 : ∀ w', Later W7 w' → w'.cell? ⟨w4.heap.size, 0, none⟩ = some (.bool p4) := fun w' h => (B9.ext h).c0
    have k91 : ∀ w', Later W7 w' → w'.cell? ⟨w4.heap.size, 1, none⟩ = some (.slice A4 n4 c4) := fun w' h => (B9.ext h).c1
    have k100 : ∀ w', Later W7 w' → w'.cell? ⟨w6.heap.size, 0, none⟩ = some (.bool p6) := fun w' h => (B10.ext h).c0
    have k101 : ∀ w', Later W7 w' → w'.cell? ⟨w6.heap.size, 1, none⟩ = some (.slice A6 n6 c6) := fun w' h => (B10.ext h).c1
    have k70 : ∀ w', Later W7 w' → w'.cell? ⟨w2.heap.size, 0, none⟩ = some (.bool p3) := fun w' h => (B7.ext h).c0
    have k71 : ∀ w', Later W7 w' → w'.cell? ⟨w2.heap.size, 1, none⟩ = some (.slice A3 n3 c3) := fun w' h => (B7.ext h).c1
    have hS0 := Later.refl W7
    have HY1 := Lib.hid hy1
    clear hy1
    by_cases hg : Nat.gcd X.natAbs Y.natAbs = 1
    · have e4 : (cmpZ ((Nat.gcd X.natAbs Y.natAbs : Nat) : Int) 1 != 0) = false := by rw [hg]; rfl
      have hRt : R = true := by rw [HRR.out, Bool.and_eq_true]; exact ⟨decide_eq_true HY1.out, decide_eq_true hg⟩
      have hq : q = Rat.divInt X Y := by rw [HQ.out, HX.out, HY.out]; rfl
      have HQ1 := Lib.hid hq
      have HRt := Lib.hid hRt
      have HG := Lib.hid hg
      clear hRt hq hg
      go_region_held3 (fun w' => Later W7 w') ((repeat (first | assumption | apply Later.drew | apply Later.drewN | apply Later.alloc | (refine Later.step ?_ (by assumption))))) (first
          | (go_at_call 90; (with_reducible refine (Gcd_b _ _ _ _ _ _ _ (BigB.ext (by assumption) (by repeat (first | (with_reducible exact Ext.refl _) | (with_reducible apply Ext.drew) | (with_reducible apply Ext.drewN) | (with_reducible refine Ext.trans ?_ (by assumption))))) (BigB.ext (by assumption) (by repeat (first | (with_reducible exact Ext.refl _) | (with_reducible apply Ext.drew) | (with_reducible apply Ext.drewN) | (with_reducible refine Ext.trans ?_ (by assumption))))) (by first | omega | decide)).mono ?_); rintro e wk ⟨vk, rfl, hbk, hxk⟩; (obtain ⟨pk, Ak, nk, ck, rfl⟩ := hbk.1.shape))
          | (go_at_call 46; (with_reducible refine (Of_b _ _ (by first | assumption | decide) (by first | assumption | decide)).mono ?_); rintro e wk ⟨vk, rfl, hbk, hxk⟩; (obtain ⟨pk, Ak, nk, ck, rfl⟩ := hbk.1.shape))
          | (go_at_call 44; (with_reducible refine (RatDen_b _ _ _ _ (RatB.ext (by assumption) (by repeat (first | (with_reducible exact Ext.refl _) | (with_reducible apply Ext.drew) | (with_reducible apply Ext.drewN) | (with_reducible refine Ext.trans ?_ (by assumption)))))).mono ?_); rintro e wk ⟨vk, rfl, hbk, hxk⟩; (obtain ⟨pk, Ak, nk, ck, rfl⟩ := hbk.1.shape))
          | (go_at_call 63; (with_reducible refine (Mul_b _ _ _ _ _ _ _ (BigB.ext (by assumption) (by repeat (first | (with_reducible exact Ext.refl _) | (with_reducible apply Ext.drew) | (with_reducible apply Ext.drewN) | (with_reducible refine Ext.trans ?_ (by assumption))))) (BigB.ext (by assumption) (by repeat (first | (with_reducible exact Ext.refl _) | (with_reducible apply Ext.drew) | (with_reducible apply Ext.drewN) | (with_reducible refine Ext.trans ?_ (by assumption))))) (by omega)).mono ?_); rintro e wk ⟨vk, rfl, hbk, hxk⟩; (obtain ⟨pk, Ak, nk, ck, rfl⟩ := hbk.1.shape))
          | (go_at_call 80; (with_reducible refine (Add_b _ _ _ _ _ _ _ (BigB.ext (by assumption) (by repeat (first | (with_reducible exact Ext.refl _) | (with_reducible apply Ext.drew) | (with_reducible apply Ext.drewN) | (with_reducible refine Ext.trans ?_ (by assumption))))) (BigB.ext (by assumption) (by repeat (first | (with_reducible exact Ext.refl _) | (with_reducible apply Ext.drew) | (with_reducible apply Ext.drewN) | (with_reducible refine Ext.trans ?_ (by assumption))))) (by omega)).mono ?_); rintro e wk ⟨vk, rfl, hbk, hxk⟩; (obtain ⟨pk, Ak, nk, ck, rfl⟩ := hbk.1.shape))
          | (go_at_call 45; (with_reducible refine (Cmp_b _ _ _ _ _ _ _ (BigB.ext (by assumption) (by repeat (first | (with_reducible exact Ext.refl _) | (with_reducible apply Ext.drew) | (with_reducible apply Ext.drewN) | (with_reducible refine Ext.trans ?_ (by assumption))))) (BigB.ext (by assumption) (by repeat (first | (with_reducible exact Ext.refl _) | (with_reducible apply Ext.drew) | (with_reducible apply Ext.drewN) | (with_reducible refine Ext.trans ?_ (by assumption)))))).mono ?_); rintro e wk ⟨rfl, hxk⟩)
          | (go_at_call 89; (with_reducible refine (Neg_b _ _ _ _ (BigB.ext (by assumption) (by repeat (first | (with_reducible exact Ext.refl _) | (with_reducible apply Ext.drew) | (with_reducible apply Ext.drewN) | (with_reducible refine Ext.trans ?_ (by assumption)))))).mono ?_); rintro e wk ⟨vk, rfl, hbk, hxk⟩; (obtain ⟨pk, Ak, nk, ck, rfl⟩ := hbk.1.shape))
        )
      all_goals go_upto_region 13 with fail
      all_goals go_wp2_with fail
      all_goals (have hXc : Ext W7 _ := (show Later W7 _ by assumption))
      all_goals (
        refine (red_b _ _ _ _ _ _ _ (hXB.ext hXc) (hYB.ext hXc) (by omega) (by have := HY1.out; omega)).mono ?_
        rintro e w9 ⟨v9, rfl, h9, hx9⟩
        obtain ⟨pk, Ak, nk, ck, pk', Ak', nk', ck', rfl⟩ := h9.1.shape
        have B2 := B2.ext (hXc.trans hx9)
        have hE9 := (hE7.trans hXc).trans hx9
        rw [← HQ1.out] at h9
        clear k90 k91 k100 k101 k70 k71
        have q0 := B2.c0
        have q1 := B2.c1
        have q2 := B2.c2
        have q3 := B2.c3
        have f0 := B2.frozen 0
        have f1 := B2.frozen 1
        have f2 := B2.frozen 2
        have f3 := B2.frozen 3
        go_wp2_with fail
        obtain ⟨pp, pb⟩ := RatV.put h9.1 B2
        have pc0 := pb.c0
        have pc1 := pb.c1
        have pc2 := pb.c2
        have pc3 := pb.c3
        refine bodyPost_ret (v := .tuple #[.agg #[.bool pk, .slice Ak nk ck, .bool pk', .slice Ak' nk' ck'], .int .i64 0]) (by simp [results, Tryz.results103, go_sem, pc0, pc1, pc2, pc3]) rfl ?_
        exact ⟨fun _ => ⟨_, rfl, ⟨pp, QB_mono (by omega) h9.2⟩, (((hE9.set (by simp) _).set (by simp) _).set (by simp) _).set (by simp) _⟩, fun h => absurd (h.symm.trans HRt.out) (by decide)⟩)
    · have e4 : (cmpZ ((Nat.gcd X.natAbs Y.natAbs : Nat) : Int) 1 != 0) = true := by
        have := mt cmpZ_zero'.1 (show ¬ ((Nat.gcd X.natAbs Y.natAbs : Nat) : Int) = 1 by omega)
        simpa using this
      have hRf : R = false := by rw [HRR.out, decide_eq_false hg, Bool.and_false]
      have HRf := Lib.hid hRf
      clear hRf hg
      go_region_held3 (fun w' => Later W7 w') ((repeat (first | assumption | apply Later.drew | apply Later.drewN | apply Later.alloc | (refine Later.step ?_ (by assumption))))) (first
          | (go_at_call 90; (with_reducible refine (Gcd_b _ _ _ _ _ _ _ (BigB.ext (by assumption) (by repeat (first | (with_reducible exact Ext.refl _) | (with_reducible apply Ext.drew) | (with_reducible apply Ext.drewN) | (with_reducible refine Ext.trans ?_ (by assumption))))) (BigB.ext (by assumption) (by repeat (first | (with_reducible exact Ext.refl _) | (with_reducible apply Ext.drew) | (with_reducible apply Ext.drewN) | (with_reducible refine Ext.trans ?_ (by assumption))))) (by first | omega | decide)).mono ?_); rintro e wk ⟨vk, rfl, hbk, hxk⟩; (obtain ⟨pk, Ak, nk, ck, rfl⟩ := hbk.1.shape))
          | (go_at_call 46; (with_reducible refine (Of_b _ _ (by first | assumption | decide) (by first | assumption | decide)).mono ?_); rintro e wk ⟨vk, rfl, hbk, hxk⟩; (obtain ⟨pk, Ak, nk, ck, rfl⟩ := hbk.1.shape))
          | (go_at_call 44; (with_reducible refine (RatDen_b _ _ _ _ (RatB.ext (by assumption) (by repeat (first | (with_reducible exact Ext.refl _) | (with_reducible apply Ext.drew) | (with_reducible apply Ext.drewN) | (with_reducible refine Ext.trans ?_ (by assumption)))))).mono ?_); rintro e wk ⟨vk, rfl, hbk, hxk⟩; (obtain ⟨pk, Ak, nk, ck, rfl⟩ := hbk.1.shape))
          | (go_at_call 63; (with_reducible refine (Mul_b _ _ _ _ _ _ _ (BigB.ext (by assumption) (by repeat (first | (with_reducible exact Ext.refl _) | (with_reducible apply Ext.drew) | (with_reducible apply Ext.drewN) | (with_reducible refine Ext.trans ?_ (by assumption))))) (BigB.ext (by assumption) (by repeat (first | (with_reducible exact Ext.refl _) | (with_reducible apply Ext.drew) | (with_reducible apply Ext.drewN) | (with_reducible refine Ext.trans ?_ (by assumption))))) (by omega)).mono ?_); rintro e wk ⟨vk, rfl, hbk, hxk⟩; (obtain ⟨pk, Ak, nk, ck, rfl⟩ := hbk.1.shape))
          | (go_at_call 80; (with_reducible refine (Add_b _ _ _ _ _ _ _ (BigB.ext (by assumption) (by repeat (first | (with_reducible exact Ext.refl _) | (with_reducible apply Ext.drew) | (with_reducible apply Ext.drewN) | (with_reducible refine Ext.trans ?_ (by assumption))))) (BigB.ext (by assumption) (by repeat (first | (with_reducible exact Ext.refl _) | (with_reducible apply Ext.drew) | (with_reducible apply Ext.drewN) | (with_reducible refine Ext.trans ?_ (by assumption))))) (by omega)).mono ?_); rintro e wk ⟨vk, rfl, hbk, hxk⟩; (obtain ⟨pk, Ak, nk, ck, rfl⟩ := hbk.1.shape))
          | (go_at_call 45; (with_reducible refine (Cmp_b _ _ _ _ _ _ _ (BigB.ext (by assumption) (by repeat (first | (with_reducible exact Ext.refl _) | (with_reducible apply Ext.drew) | (with_reducible apply Ext.drewN) | (with_reducible refine Ext.trans ?_ (by assumption))))) (BigB.ext (by assumption) (by repeat (first | (with_reducible exact Ext.refl _) | (with_reducible apply Ext.drew) | (with_reducible apply Ext.drewN) | (with_reducible refine Ext.trans ?_ (by assumption)))))).mono ?_); rintro e wk ⟨rfl, hxk⟩)
          | (go_at_call 89; (with_reducible refine (Neg_b _ _ _ _ (BigB.ext (by assumption) (by repeat (first | (with_reducible exact Ext.refl _) | (with_reducible apply Ext.drew) | (with_reducible apply Ext.drewN) | (with_reducible refine Ext.trans ?_ (by assumption)))))).mono ?_); rintro e wk ⟨vk, rfl, hbk, hxk⟩; (obtain ⟨pk, Ak, nk, ck, rfl⟩ := hbk.1.shape))
        )
      all_goals go_upto_region 12 with fail
      all_goals (have hXc : Ext W7 _ := (show Later W7 _ by assumption))
      all_goals (
        have B2 := B2.ext hXc
        have hE9 := hE7.trans hXc
        clear k90 k91 k100 k101 k70 k71
        have q0 := B2.c0
        have q1 := B2.c1
        have q2 := B2.c2
        have q3 := B2.c3
        have f0 := B2.frozen 0
        have f1 := B2.frozen 1
        have f2 := B2.frozen 2
        have f3 := B2.frozen 3
        go_wp2_with fail
        obtain ⟨pp, pb⟩ := RatV.put (RatV.zero _) B2
        have pc0 := pb.c0
        have pc1 := pb.c1
        have pc2 := pb.c2
        have pc3 := pb.c3
        refine bodyPost_ret (v := .tuple #[.agg #[.bool false, .slice none 0 0, .bool false, .slice none 0 0], .int .i64 3]) (by simp [results, Tryz.results103, go_sem, pc0, pc1, pc2, pc3]) rfl ?_
        exact ⟨fun h => absurd (h.symm.trans HRf.out) (by decide), fun _ => ⟨rfl, (((hE9.set (by simp) _).set (by simp) _).set (by simp) _).set (by simp) _⟩⟩)
end Go.Proofs.YtljncdcjkdgkeaaGreatDoor.Rt
namespace Go.Proofs.YtljncdcjkdgkeaaGreatDoor.Dc
open Go.RowKit Go.Proofs.YtljncdcjkdgkeaaGreatDoor.Big Go.Proofs.YtljncdcjkdgkeaaGreatDoor.Lp Go.Proofs.YtljncdcjkdgkeaaGreatDoor.Rt

def emptyB : BL := [101, 109, 112, 116, 121]
def boundB : BL := [98, 111, 117, 110, 100]
def okW (l : BL) : Bool := decide (l.length ≤ 4096) && isRat l
def yW (ws : List BL) (j : Nat) : Rat := parseQ (ws.getD j [])
def lfT : List BL → Option CT
  | [] => none
  | w0 :: ws => if w0 = emptyB ∨ w0 = boundB then (if ws.all okW then some (.node (-1) 0 (w0 == emptyB) ws.length (yW ws) .nil .nil) else none) else none
def LeafPost (w : World) (db : Nat) (S : ByteArray) (r : Option CT) (e : Ending) (w' : World) : Prop :=
  Fr (fun k => k = db) w w' ∧ match r with
  | some t => ∃ A, e = .returned (.pointer A) ∧ TreeI w' t A w.heap.size w'.heap.size ∧ Box w' db 100 #[.string S, .int .i64 0]
  | none => e = .returned (.pointer none) ∧ Box w' db 100 #[.string S, .int .i64 3]
def ParsedPost (s : ByteArray) (k : Nat) (w : World) (e : Ending) (w' : World) : Prop :=
  ∃ v X, e = .returned (.tuple #[v, .int .i64 (if isRat s.data.toList = true then 0 else 3)]) ∧ RatB w' v X k ∧ (isRat s.data.toList = true → X = parseQ s.data.toList) ∧ Ext w w'
theorem RatParse_b (s : ByteArray) (k : Nat) (w : World) (hs : s.size ≤ 4096) (hsk : s.size ≤ k) (hk2 : 2 ≤ k) (hk : k ≤ 1099511627776) (hmx : MxOK w) : Calls Tryz.prog 103 #[.string s] w (ParsedPost s k w) := by
  refine (RatParse_any s k w hs hsk hk2 hk hmx).mono ?_
  rintro e w' ⟨h1, h2⟩
  cases h : isRat s.data.toList with
  | true =>
    obtain ⟨v, rfl, hv, hx⟩ := h1 h
    exact ⟨v, _, by rw [h]; rfl, hv, fun _ => rfl, hx⟩
  | false =>
    obtain ⟨rfl, hx⟩ := h2 h
    exact ⟨zeroRat, 0, by rw [h]; rfl, ⟨RatV.zero _, QB_zero (by omega)⟩, fun h' => absurd (h.symm.trans h') (by decide), hx⟩

/-- a word of a leaf -/
theorem word_b (l : BL) (w : World) (he : Env w) :
    Calls Tryz.prog 103 #[.string (str l)] w (fun e w' => ∃ v X E, e = .returned (.tuple #[v, .int .i64 E]) ∧ RatB w' v X 4096 ∧ (okW l = true → E = 0 ∧ X = parseQ l) ∧ (okW l = false → E ≠ 0) ∧ Ext w w') := by
  by_cases hs : l.length ≤ 4096
  · refine (RatParse_b (str l) 4096 w hs hs (by decide) (by decide) he.mx).mono ?_
    rintro e w' ⟨v, X, rfl, hb, hX, hx⟩
    rw [str_list] at hX
    refine ⟨v, X, _, rfl, hb, fun h => ?_, fun h => ?_, hx⟩
    · have hR : isRat l = true := by unfold okW at h; rw [Bool.and_eq_true] at h; exact h.2
      rw [str_list, if_pos hR]
      exact ⟨rfl, hX hR⟩
    · have hR : ¬ isRat l = true := by
        intro hR
        unfold okW at h
        rw [hR, decide_eq_true hs] at h
        cases h
      rw [str_list, if_neg hR]
      decide
  · refine (RatParse_full (str l) w (show 4096 < l.length by omega)).mono ?_
    rintro e w' ⟨rfl, hx⟩
    refine ⟨zeroRat, 0, 5, rfl, ⟨RatV.zero _, QB_zero (by omega)⟩, fun h => ?_, fun _ => by decide, hx⟩
    unfold okW at h
    rw [Bool.and_eq_true] at h
    exact absurd (of_decide_eq_true h.1) hs
set_option maxHeartbeats 1000000 in
set_option maxRecDepth 100000 in
theorem leaf_b (db : Nat) (S : ByteArray) (v : Value) (w0 : BL) (ws : List BL) (w : World) (hD : Box w db 100 #[.string S, .int .i64 0]) (hv : Row w v (sV (w0 :: ws))) (hn9 : ws.length ≤ 1048576) (he : Env w) :
    Calls Tryz.prog 74 #[.pointer (some ⟨db, 0, none⟩), v] w (LeafPost w db S (lfT (w0 :: ws))) := by
  obtain ⟨A, c, rfl, h1, h2, h3⟩ := hv
  obtain ⟨b, off, rfl, hrow⟩ := h3 (by simp [sV])
  have e0 := hrow 0 (.string (str w0)) rfl
  rw [Nat.add_zero] at e0
  obtain ⟨N, hN⟩ : ∃ N, N = ws.length := ⟨_, rfl⟩
  have hlen : (sV (w0 :: ws)).length = N + 1 := by rw [sV_len, hN]; rfl
  rw [hlen] at h1 ⊢
  have i1 : (0 : Int) < ((N + 1 : Nat) : Int) := by omega
  go_enter Tryz.func74, Tryz.ntmps74
  go_upto_region 2 with fail
  have hsl : (str w0).toList = w0 := by rw [Lib.toList_data, str_list]
  rw [hsl]
  obtain ⟨em, hem⟩ : ∃ em, em = (w0 == emptyB) := ⟨_, rfl⟩
  rw [show (w0 == [101, 109, 112, 116, 121]) = em from hem.symm]
  have TB := Box.new w 79 (NodeC (-1) 0 none none em none 0 0)
  have hE : Ext w (w.alloc (.cells (NodeC (-1) 0 none none em none 0 0) 79)) := (Ext.refl w).alloc _
  unfold NodeC at TB hE
  generalize (w.alloc (.cells #[.int .i64 (-1), .int .i64 0, .pointer none, .pointer none, .bool em, .slice none 0 0] 79)) = U at *
  obtain ⟨tb, htb⟩ : ∃ z, z = w.heap.size := ⟨_, rfl⟩
  rw [← htb] at TB ⊢
  have hwt : w.heap.size ≤ tb := by omega
  have hdt : db < tb := by have := hD.lt; omega
  clear htb
  have e0 := hE.cell e0
  have hD1 := hD.ext hE
  have d1 := hD1.c1
  have z1 := hD1.frozen 1
  have t4 : U.cell? ⟨tb, 4, none⟩ = some (.bool em) := TB.cell 4
  obtain ⟨B, hB⟩ : ∃ B, B = (!em && (w0 != boundB)) := ⟨_, rfl⟩
  have HB := Lib.hid hB
  have HEM := Lib.hid hem
  have HN := Lib.hid hN
  have HROW := Lib.hid hrow
  clear hB hem hN h3 hrow hlen
  go_cut [26] (fun v wx => v = .bool B ∧ wx = U)
  case first =>
    cases em with
    | true =>
      have HF : Hid (B = false) := Lib.hid (by rw [HB.out]; rfl)
      go_wp2_with fail
      go_meet
      exact ⟨by rw [HF.out], rfl⟩
    | false =>
      have HF : Hid (B = (w0 != boundB)) := Lib.hid (by rw [HB.out]; rfl)
      go_wp2_with fail
      go_meet
      exact ⟨by rw [HF.out]; rfl, rfl⟩
  case rest =>
  rename_i hK
  obtain ⟨rfl, hwx⟩ := hcut
  refine hK _ _ ?_
  clear hK
  subst hwx
  clear t4 hsl
  cases B with
  | true =>
    have HL : Hid (lfT (w0 :: ws) = none) := Lib.hid (by
      have h := HB.out
      have h2 := HEM.out
      simp at h
      rw [h.1] at h2
      show (if w0 = emptyB ∨ w0 = boundB then _ else none) = none
      rw [if_neg (fun e => e.elim (fun e => by rw [e] at h2; exact absurd h2 (by decide)) h.2)])
    go_wp2_with fail
    go_ret
    rw [HL.out]
    exact ⟨(Fr.of (P := fun k => k = db) hE).set (p := ⟨db, 1, none⟩) rfl (fun z => by rw [d1]; intro e; cases e) _, rfl, hD1.set 1 _⟩
  | false =>
    have HL : Hid (lfT (w0 :: ws) = if ws.all okW then some (.node (-1) 0 em N (yW ws) .nil .nil) else none) := Lib.hid (by
      have h := HB.out
      have h2 := HEM.out
      show (if w0 = emptyB ∨ w0 = boundB then (if ws.all okW then some (CT.node (-1) 0 (w0 == emptyB) ws.length (yW ws) CT.nil CT.nil) else none) else none) = _
      rw [if_pos (by
        cases em with
        | true => exact .inl (by simpa using h2.symm)
        | false => exact .inr (by simpa using h.symm)), HN.out, HEM.out])
    clear e0
    go_upto_region 5 with fail
    go_cut [31, 32, 33] (fun v31 v32 v33 wx => ∃ A' : Option Addr, v31 = .slice A' N (c - 1) ∧ v32 = .int .i64 N ∧ v33 = .int .i64 0 ∧ (0 < N → A' = some ⟨b, off + 1, none⟩) ∧ wx = wc)
    case first =>
      go_wp2_with fail
      case inl =>
        obtain rfl : c = 1 := by omega
        go_meet
        exact ⟨_, rfl, rfl, rfl, fun h => absurd h (by omega), rfl⟩
      case inr =>
        go_meet
        exact ⟨_, rfl, rfl, rfl, fun _ => rfl, rfl⟩
    case rest =>
    rename_i hK
    obtain ⟨A', rfl, rfl, rfl, hA', hwx⟩ := hcut
    refine hK _ _ ?_
    clear hK
    subst hwx
    have hwords : Hid (∀ j, j < N → w.cell? ⟨b, off + 1 + j, none⟩ = some (.string (str (ws.getD j [])))) := Lib.hid (fun j hj => by
      have hj2 : j < ws.length := by rw [← HN.out]; exact hj
      have h := HROW.out (j + 1) (.string (str (ws.getD j []))) (by
        show (sV ws)[j]? = _
        rw [List.getD_eq_getElem?_getD, List.getElem?_eq_getElem hj2]
        exact sV_get (List.getElem?_eq_getElem hj2))
      rwa [show off + 1 + j = off + (j + 1) by omega])
    obtain ⟨ir, ii, iz0, iz1, iz2⟩ := info_parts infoRat
    have hL9 : N ≤ 1099511627776 := by rw [HN.out]; omega
    clear d1 z1 hD1 HROW
    go_wp2_with fail
    go_loopw [33] (fun i wr => ∃ (k : Nat) (A : Option Addr) (c : Nat), k ≤ N ∧ i = .int .i64 k ∧ Hid (∀ j, j < k → okW (ws.getD j []) = true) ∧ OwnQ wr tb (.slice A k c) k (yW ws) ∧ Box wr tb 79 (NodeC (-1) 0 none none em A k c) ∧ Ext w wr) (fun i _ => N - (intOf i).toNat)
    case atStart => exact ⟨0, _, _, by omega, rfl, Lib.hid (fun j hj => absurd hj (by omega)), OwnQ.nil _ _ _, TB, hE⟩
    case round =>
    clear TB hE
    obtain ⟨k, A1, c1, hk, rfl, HO, hO, TB, hx⟩ := hrel
    by_cases hlt : k < N
    case neg =>
      obtain rfl : k = N := by omega
      have hall : ws.all okW = true := List.all_eq_true.2 (fun x hx => by
        obtain ⟨j, hj⟩ := List.getElem?_of_mem hx
        have hj2 : j < ws.length := by
          rcases Nat.lt_or_ge j ws.length with h | h
          · exact h
          · rw [List.getElem?_eq_none h] at hj; cases hj
        have := HO.out j (by rw [HN.out]; exact hj2)
        rw [List.getD_eq_getElem?_getD, hj] at this
        exact this)
      rw [hall] at HL
      go_wp2_with fail
      go_ret
      rw [HL.out]
      exact ⟨Fr.of hx, _, rfl, ⟨tb, none, none, A1, c1, _, _, rfl, hwt, TB.lt, TB, (hO.rats.inI (Nat.le_refl _)).up hwt (Nat.le_refl _), ⟨rfl, Nat.le_refl _⟩, ⟨rfl, Nat.le_refl _⟩⟩, hD.ext hx⟩
    case pos =>
      have i1 : (0 : Int) ≤ (k : Int) := by omega
      have i2 : (k : Int) < (N : Int) := by omega
      obtain rfl := hA' (by omega)
      have e5 := hx.cell (hwords.out k hlt)
      obtain ⟨l, hl⟩ : ∃ l, l = ws.getD k [] := ⟨_, rfl⟩
      rw [← hl] at e5
      have HLL := Lib.hid hl
      clear hl
      go_wp2_with fail
      refine (word_b l _ (he.ext hx)).mono ?_
      rintro e w4 ⟨v4, X, E, rfl, hb4, hok1, hok2, hx4⟩
      obtain ⟨pk, Ak, nk, ck, pk', Ak', nk', ck', rfl⟩ := hb4.1.shape
      go_upto_region 9 with fail
      have RB := Box.new w4 58 #[.bool pk, .slice Ak nk ck, .bool pk', .slice Ak' nk' ck']
      have hx5 := (hx.trans hx4).alloc (.cells #[.bool pk, .slice Ak nk ck, .bool pk', .slice Ak' nk' ck'] 58)
      have hO4 := hO.ext hx4
      have hO5 := hO4.ext ((Ext.refl w4).alloc (.cells #[.bool pk, .slice Ak nk ck, .bool pk', .slice Ak' nk' ck'] 58))
      have TB5 := (TB.ext hx4).ext ((Ext.refl w4).alloc (.cells #[.bool pk, .slice Ak nk ck, .bool pk', .slice Ak' nk' ck'] 58))
      have hb5 := hb4.1.ext ((Ext.refl w4).alloc (.cells #[.bool pk, .slice Ak nk ck, .bool pk', .slice Ak' nk' ck'] 58))
      generalize (w4.alloc (.cells #[.bool pk, .slice Ak nk ck, .bool pk', .slice Ak' nk' ck'] 58)) = W5 at *
      obtain ⟨rb, hrb⟩ : ∃ z, z = w4.heap.size := ⟨_, rfl⟩
      have hNR : ¬ (Value.slice A1 k c1).ownBlock = some rb := fun e => by
        obtain ⟨xs, o, -⟩ := hO4
        obtain ⟨-, -, cur, hcur⟩ := o.lt e
        rw [hrb, Array.getElem?_eq_none (Nat.le_refl _)] at hcur
        cases hcur
      have hrt : rb ≠ tb := by have := (TB.ext hx4).lt; omega
      rw [← hrb] at RB ⊢
      clear hrb TB hO hO4 e5
      cases hw : okW l with
      | false =>
        have hE0 : (E != 0) = true := by simpa using hok2 hw
        have hD5 := hD.ext hx5
        have d1 := hD5.c1
        have z1 := hD5.frozen 1
        have hall : ws.all okW = false := by
          rw [Bool.eq_false_iff]
          intro h
          have := List.all_eq_true.1 h l (by rw [HLL.out, List.getD_eq_getElem?_getD, List.getElem?_eq_getElem (by rw [← HN.out]; exact hlt)]; exact List.getElem_mem _)
          rw [hw] at this; cases this
        rw [hall] at HL
        clear hw
        go_wp2_with fail
        go_ret
        rw [HL.out]
        exact ⟨(Fr.of (P := fun k => k = db) hx5).set (p := ⟨db, 1, none⟩) rfl (fun z => by rw [d1]; intro e; cases e) _, rfl, hD5.set 1 _⟩
      | true =>
        obtain ⟨rfl, hX⟩ := hok1 hw
        have hyX : X = yW ws k := by rw [hX, HLL.out]; rfl
        rw [hyX] at hb5
        have HO2 : Hid (∀ j, j < k + 1 → okW (ws.getD j []) = true) := Lib.hid (fun j hj => by
          rcases (show j < k ∨ j = k by omega) with h | rfl
          · exact HO.out j h
          · rw [← HLL.out]; exact hw)
        have t5 : W5.cell? ⟨tb, 5, none⟩ = some (.slice A1 k c1) := TB5.cell 5
        have hNT : ¬ (Value.slice A1 k c1).ownBlock = some tb := fun e => by
          obtain ⟨xs, o, -⟩ := hO5
          obtain ⟨-, -, cur, hcur⟩ := o.lt e
          exact row_ne TB5 hcur (by decide) rfl
        have kr : ∀ i x, W5.cell? ⟨rb, i, none⟩ = some x → ∀ w', Fr (fun g => (Value.slice A1 k c1).ownBlock = some g ∨ g = tb) W5 w' → w'.cell? ⟨rb, i, none⟩ = some x := fun i x h w' hf => hf.cell (fun e => e.elim hNR hrt) h
        have kr0 := kr 0 _ RB.c0
        have kr1 := kr 1 _ RB.c1
        have kr2 := kr 2 _ RB.c2
        have kr3 := kr 3 _ RB.c3
        have ks := Fr.refl (fun g => (Value.slice A1 k c1).ownBlock = some g ∨ g = tb) W5
        clear hb4 hok1 hok2 hX hyX hw kr
        go_upto_region 12 with fail
        refine wp_region_held_drew (S := fun w' => Fr (fun g => (Value.slice A1 k c1).ownBlock = some g ∨ g = tb) W5 w') (by kernel_rfl) ?_ (fun hHeld => ?_)
        · (try dsimp only); (repeat (first | assumption | apply Fr.drew | apply Fr.drewN | apply Fr.alloc | (refine Fr.step ?_ (by assumption)) | (refine Fr.trans ?_ (by assumption))))
        have hyZ : Ext W5 W5.drew := (Ext.refl W5).drew
        generalize W5.drew = Z at *
        have u2 : Z.cell? ⟨tb, 5, none⟩ = some (.slice A1 k c1) := hyZ.cell t5
        have hza := hyZ.alloc (.cells #[.bool pk, .slice Ak nk ck, .bool pk', .slice Ak' nk' ck'] 58)
        have u3 := hza.cell t5
        refine wpAnyH_take (i := 0) (oi := { dst := some 47, op := Op.move (Operand.tmp 5), type := 25, pos := "text.go:116", after := #[], guard := none }) (v := ?_) rfl (by kernel_rfl) (by kernel_rfl) (by kernel_rfl) (fun _ _ _ h => h) (Or.inl ⟨by rfl, ?_⟩) (by assumption) ?_
        rotate_left
        · intro w hSw; (try dsimp only at hSw); go_simp; try (with_reducible rfl)
        try simp only [Act.put, List.setIfInBounds_toArray, List.set_cons_zero, List.set_cons_succ]
        refine wpAnyH_take (i := 1) (oi := { dst := some 48, op := Op.move (Operand.tmp 5), type := 25, pos := "text.go:116", after := #[], guard := none }) (v := ?_) rfl (by kernel_rfl) (by kernel_rfl) (by kernel_rfl) (fun _ _ _ h => h) (Or.inl ⟨by rfl, ?_⟩) (by assumption) ?_
        rotate_left
        · intro w hSw; (try dsimp only at hSw); go_simp; try (with_reducible rfl)
        try simp only [Act.put, List.setIfInBounds_toArray, List.set_cons_zero, List.set_cons_succ]
        refine wpAnyH_take (i := 2) (oi := { dst := some 49, op := Op.nilCheck (Operand.tmp 48), type := 0, pos := "text.go:116", after := #[{ on := 1, ground := Ground.data }], guard := none }) (v := ?_) rfl (by kernel_rfl) (by kernel_rfl) (by kernel_rfl) (fun _ _ _ h => h) (Or.inl ⟨by rfl, ?_⟩) (by assumption) ?_
        rotate_left
        · intro w hSw; (try dsimp only at hSw); go_simp; try (with_reducible rfl)
        try simp only [Act.put, List.setIfInBounds_toArray, List.set_cons_zero, List.set_cons_succ]
        refine wpAnyH_take (i := 3) (oi := { dst := some 50, op := Op.fieldAddr 79 (Operand.tmp 49) 5, type := 0, pos := "text.go:116", after := #[{ on := 2, ground := Ground.data }], guard := none }) (v := ?_) rfl (by kernel_rfl) (by kernel_rfl) (by kernel_rfl) (fun _ _ _ h => h) (Or.inl ⟨by rfl, ?_⟩) (by assumption) ?_
        rotate_left
        · intro w hSw; (try dsimp only at hSw); go_simp; try (with_reducible rfl)
        try simp only [Act.put, List.setIfInBounds_toArray, List.set_cons_zero, List.set_cons_succ]
        refine wpAnyH_take (i := 5) (oi := { dst := some 52, op := Op.load 58 (Operand.tmp 8), type := 58, pos := "text.go:116", after := #[], guard := none }) (v := ?_) rfl (by kernel_rfl) (by kernel_rfl) (by kernel_rfl) (fun _ _ _ h => h) (Or.inl ⟨by rfl, ?_⟩) (by assumption) ?_
        rotate_left
        · intro w hSw; (try dsimp only at hSw); go_simp; try (with_reducible rfl)
        try simp only [Act.put, List.setIfInBounds_toArray, List.set_cons_zero, List.set_cons_succ]
        refine wpAnyH_ready (rs := [4, 6]) (by kernel_rfl) (by simp) ?_
        refine AllReadyH.cons (o := { dst := some 51, op := Op.load 38 (Operand.tmp 50), type := 38, pos := "text.go:116", after := #[{ on := 3, ground := Ground.data }], guard := none }) rfl (fun K hK => ?_) ?_
        · go_simp
          try (go_wp2_with fail)
          refine hK.out _ _ ?_ (fun hHeld => ?_)
          · (try dsimp only); (repeat (first | assumption | apply Fr.drew | apply Fr.drewN | apply Fr.alloc | (refine Fr.step ?_ (by assumption)) | (refine Fr.trans ?_ (by assumption))))
          clear hK K
          try simp only [Act.put, List.setIfInBounds_toArray, List.set_cons_zero, List.set_cons_succ]
          refine wpAnyH_ready (rs := [6]) (by kernel_rfl) (by simp) ?_
          refine AllReadyH.cons (o := { dst := some 53, op := Op.buildSlice 38 1 #[(0, Operand.tmp 52)], type := 38, pos := "text.go:116", after := #[{ on := 5, ground := Ground.data }], guard := none }) rfl (fun K hK => ?_) ?_
          · go_simp
            try (go_wp2_with fail)
            refine hK.out _ _ ?_ (fun hHeld => ?_)
            · (try dsimp only); (repeat (first | assumption | apply Fr.drew | apply Fr.drewN | apply Fr.alloc | (refine Fr.step ?_ (by assumption)) | (refine Fr.trans ?_ (by assumption))))
            clear hK K
            try simp only [Act.put, List.setIfInBounds_toArray, List.set_cons_zero, List.set_cons_succ]
            refine wpAnyH_ready (rs := [7]) (by kernel_rfl) (by simp) ?_
            refine AllReadyH.cons (o := { dst := some 54, op := Op.call { callee := Callee.builtin Builtin.append, args := #[Operand.tmp 51, Operand.tmp 53], argTypes := #[38, 38] }, type := 38, pos := "text.go:116", after := #[{ on := 4, ground := Ground.data }, { on := 6, ground := Ground.data }], guard := none }) rfl (fun K hK => ?_) ?_
            · skip
              first
                | ((obtain ⟨xs, oX, rX⟩ := hO5.ext hza); (refine step_pushX rfl (.tmp 51) (.tmp 53) 38 rfl tb 58 ir _ 4 64 Tryz.underlying38 ii iz0 iz1 iz2 rfl zR _ k xs rfl oX Z.heap.size [.bool pk, .slice Ak nk ck, .bool pk', .slice Ak' nk' ck'] 1 rfl rfl (new4 Z 58 _ _ _ _) one4 nou4 (by omega) (by decide) (by have := hza.size; have := TB5.lt; omega) ?_); intro v6 y6 o6 r6 s6; (have tb6 := boxR (TB5.ext hza) oX r6 (by decide)); (have c6 : y6.cell? ⟨tb, 5, none⟩ = some (.slice A1 k c1) := tb6.cell 5); (have z6 := tb6.frozen 5); (obtain ⟨A6, d6, rfl⟩ := o6.shape); (have hS6 : Fr (fun g => (Value.slice A1 k c1).ownBlock = some g ∨ g = tb) W5 y6 := (Fr.of hza).trans (r6.weak (fun _ h => .inl h))); (have hS7 : Fr (fun g => (Value.slice A1 k c1).ownBlock = some g ∨ g = tb) W5 (y6.setCell ⟨tb, 5, none⟩ (.slice A6 (k + 1) d6)) := hS6.set (p := ⟨tb, 5, none⟩) (.inr rfl) (fun z => by rw [c6]; intro e; cases e) _))
              try (go_wp2_with fail)
              refine hK.out _ _ ?_ (fun hHeld => ?_)
              · (try dsimp only); (repeat (first | assumption | apply Fr.drew | apply Fr.drewN | apply Fr.alloc | (refine Fr.step ?_ (by assumption)) | (refine Fr.trans ?_ (by assumption))))
              clear hK K
              try simp only [Act.put, List.setIfInBounds_toArray, List.set_cons_zero, List.set_cons_succ]
              refine wpAnyH_take (i := 8) (oi := { dst := some 55, op := Op.nilCheck (Operand.tmp 47), type := 0, pos := "text.go:116", after := #[{ on := 0, ground := Ground.data }, { on := 0, ground := Ground.phase }, { on := 1, ground := Ground.phase }, { on := 2, ground := Ground.phase }, { on := 3, ground := Ground.phase }, { on := 4, ground := Ground.phase }, { on := 5, ground := Ground.phase }, { on := 6, ground := Ground.phase }, { on := 7, ground := Ground.phase }], guard := none }) (v := ?_) rfl (by kernel_rfl) (by kernel_rfl) (by kernel_rfl) (fun _ _ _ h => h) (Or.inl ⟨by rfl, ?_⟩) (by assumption) ?_
              rotate_left
              · intro w hSw; (try dsimp only at hSw); go_simp; try (with_reducible rfl)
              try simp only [Act.put, List.setIfInBounds_toArray, List.set_cons_zero, List.set_cons_succ]
              refine wpAnyH_take (i := 9) (oi := { dst := some 56, op := Op.fieldAddr 79 (Operand.tmp 55) 5, type := 0, pos := "text.go:116", after := #[{ on := 8, ground := Ground.data }, { on := 0, ground := Ground.phase }, { on := 1, ground := Ground.phase }, { on := 2, ground := Ground.phase }, { on := 3, ground := Ground.phase }, { on := 4, ground := Ground.phase }, { on := 5, ground := Ground.phase }, { on := 6, ground := Ground.phase }, { on := 7, ground := Ground.phase }], guard := none }) (v := ?_) rfl (by kernel_rfl) (by kernel_rfl) (by kernel_rfl) (fun _ _ _ h => h) (Or.inl ⟨by rfl, ?_⟩) (by assumption) ?_
              rotate_left
              · intro w hSw; (try dsimp only at hSw); go_simp; try (with_reducible rfl)
              try simp only [Act.put, List.setIfInBounds_toArray, List.set_cons_zero, List.set_cons_succ]
              refine wpAnyH_ready (rs := [10]) (by kernel_rfl) (by simp) ?_
              refine AllReadyH.cons (o := { dst := none, op := Op.store 38 (Operand.tmp 56) (Operand.tmp 54), type := 0, pos := "text.go:116", after := #[{ on := 9, ground := Ground.data }, { on := 7, ground := Ground.data }, { on := 7, ground := Ground.chain }, { on := 0, ground := Ground.phase }, { on := 1, ground := Ground.phase }, { on := 2, ground := Ground.phase }, { on := 3, ground := Ground.phase }, { on := 4, ground := Ground.phase }, { on := 5, ground := Ground.phase }, { on := 6, ground := Ground.phase }, { on := 7, ground := Ground.phase }], guard := none }) rfl (fun K hK => ?_) ?_
              · go_simp
                try (go_wp2_with fail)
                refine hK.out _ _ ?_ (fun hHeld => ?_)
                · (try dsimp only); (repeat (first | assumption | apply Fr.drew | apply Fr.drewN | apply Fr.alloc | (refine Fr.step ?_ (by assumption)) | (refine Fr.trans ?_ (by assumption))))
                clear hK K
                try simp only [Act.put, List.setIfInBounds_toArray, List.set_cons_zero, List.set_cons_succ]
                refine wpAnyH_done (by kernel_rfl) ?_ _
                have hbp := hb5.ext hza
                have hOM : OwnQ y6 tb (.slice A6 (k + 1) d6) (k + 1) (yW ws) := ⟨_, o6, At.push oX.1 rX r6 hbp⟩
                have hOF : OwnQ (y6.setCell ⟨tb, 5, none⟩ (.slice A6 (k + 1) d6)) tb (.slice A6 (k + 1) d6) (k + 1) (yW ws) := hOM.fr ((Fr.refl (fun g => g = tb) y6).set (p := ⟨tb, 5, none⟩) rfl (fun z => by rw [c6]; intro e; cases e) _) (fun g hg e => by obtain ⟨-, -, cur, hcur⟩ := o6.lt hg; exact row_ne tb6 hcur (by decide) e.symm)
                have hBF : Box _ tb 79 (NodeC (-1) 0 none none em A6 (k + 1) d6) := tb6.set 5 (.slice A6 (k + 1) d6)
                have hXF : Ext w (y6.setCell ⟨tb, 5, none⟩ (.slice A6 (k + 1) d6)) := (r6.ext (hx5.trans hza) (fun g hg => by have := (oX.lt hg).1; omega)).set (p := ⟨tb, 5, none⟩) hwt _
                have hDF : Box (y6.setCell ⟨tb, 5, none⟩ (.slice A6 (k + 1) d6)) db 100 #[.string S, .int .i64 0] := hD.ext hXF
                clear hOM
                go_wp2_with fail
                go_roundw
                case rel => exact ⟨k + 1, _, _, by omega, by go_num, HO2, hOF, hBF, hXF⟩
                case measure => simp [intOf]; omega
              exact AllReadyH.nil
            exact AllReadyH.nil
          exact AllReadyH.nil
        refine AllReadyH.cons (o := { dst := some 53, op := Op.buildSlice 38 1 #[(0, Operand.tmp 52)], type := 38, pos := "text.go:116", after := #[{ on := 5, ground := Ground.data }], guard := none }) rfl (fun K hK => ?_) ?_
        · go_simp
          try (go_wp2_with fail)
          refine hK.out _ _ ?_ (fun hHeld => ?_)
          · (try dsimp only); (repeat (first | assumption | apply Fr.drew | apply Fr.drewN | apply Fr.alloc | (refine Fr.step ?_ (by assumption)) | (refine Fr.trans ?_ (by assumption))))
          clear hK K
          try simp only [Act.put, List.setIfInBounds_toArray, List.set_cons_zero, List.set_cons_succ]
          refine wpAnyH_ready (rs := [4]) (by kernel_rfl) (by simp) ?_
          refine AllReadyH.cons (o := { dst := some 51, op := Op.load 38 (Operand.tmp 50), type := 38, pos := "text.go:116", after := #[{ on := 3, ground := Ground.data }], guard := none }) rfl (fun K hK => ?_) ?_
          · go_simp
            try (go_wp2_with fail)
            refine hK.out _ _ ?_ (fun hHeld => ?_)
            · (try dsimp only); (repeat (first | assumption | apply Fr.drew | apply Fr.drewN | apply Fr.alloc | (refine Fr.step ?_ (by assumption)) | (refine Fr.trans ?_ (by assumption))))
            clear hK K
            try simp only [Act.put, List.setIfInBounds_toArray, List.set_cons_zero, List.set_cons_succ]
            refine wpAnyH_ready (rs := [7]) (by kernel_rfl) (by simp) ?_
            refine AllReadyH.cons (o := { dst := some 54, op := Op.call { callee := Callee.builtin Builtin.append, args := #[Operand.tmp 51, Operand.tmp 53], argTypes := #[38, 38] }, type := 38, pos := "text.go:116", after := #[{ on := 4, ground := Ground.data }, { on := 6, ground := Ground.data }], guard := none }) rfl (fun K hK => ?_) ?_
            · skip
              first
                | ((obtain ⟨xs, oX, rX⟩ := hO5.ext hza); (refine step_pushX rfl (.tmp 51) (.tmp 53) 38 rfl tb 58 ir _ 4 64 Tryz.underlying38 ii iz0 iz1 iz2 rfl zR _ k xs rfl oX Z.heap.size [.bool pk, .slice Ak nk ck, .bool pk', .slice Ak' nk' ck'] 1 rfl rfl (new4 Z 58 _ _ _ _) one4 nou4 (by omega) (by decide) (by have := hza.size; have := TB5.lt; omega) ?_); intro v6 y6 o6 r6 s6; (have tb6 := boxR (TB5.ext hza) oX r6 (by decide)); (have c6 : y6.cell? ⟨tb, 5, none⟩ = some (.slice A1 k c1) := tb6.cell 5); (have z6 := tb6.frozen 5); (obtain ⟨A6, d6, rfl⟩ := o6.shape); (have hS6 : Fr (fun g => (Value.slice A1 k c1).ownBlock = some g ∨ g = tb) W5 y6 := (Fr.of hza).trans (r6.weak (fun _ h => .inl h))); (have hS7 : Fr (fun g => (Value.slice A1 k c1).ownBlock = some g ∨ g = tb) W5 (y6.setCell ⟨tb, 5, none⟩ (.slice A6 (k + 1) d6)) := hS6.set (p := ⟨tb, 5, none⟩) (.inr rfl) (fun z => by rw [c6]; intro e; cases e) _))
              try (go_wp2_with fail)
              refine hK.out _ _ ?_ (fun hHeld => ?_)
              · (try dsimp only); (repeat (first | assumption | apply Fr.drew | apply Fr.drewN | apply Fr.alloc | (refine Fr.step ?_ (by assumption)) | (refine Fr.trans ?_ (by assumption))))
              clear hK K
              try simp only [Act.put, List.setIfInBounds_toArray, List.set_cons_zero, List.set_cons_succ]
              refine wpAnyH_take (i := 8) (oi := { dst := some 55, op := Op.nilCheck (Operand.tmp 47), type := 0, pos := "text.go:116", after := #[{ on := 0, ground := Ground.data }, { on := 0, ground := Ground.phase }, { on := 1, ground := Ground.phase }, { on := 2, ground := Ground.phase }, { on := 3, ground := Ground.phase }, { on := 4, ground := Ground.phase }, { on := 5, ground := Ground.phase }, { on := 6, ground := Ground.phase }, { on := 7, ground := Ground.phase }], guard := none }) (v := ?_) rfl (by kernel_rfl) (by kernel_rfl) (by kernel_rfl) (fun _ _ _ h => h) (Or.inl ⟨by rfl, ?_⟩) (by assumption) ?_
              rotate_left
              · intro w hSw; (try dsimp only at hSw); go_simp; try (with_reducible rfl)
              try simp only [Act.put, List.setIfInBounds_toArray, List.set_cons_zero, List.set_cons_succ]
              refine wpAnyH_take (i := 9) (oi := { dst := some 56, op := Op.fieldAddr 79 (Operand.tmp 55) 5, type := 0, pos := "text.go:116", after := #[{ on := 8, ground := Ground.data }, { on := 0, ground := Ground.phase }, { on := 1, ground := Ground.phase }, { on := 2, ground := Ground.phase }, { on := 3, ground := Ground.phase }, { on := 4, ground := Ground.phase }, { on := 5, ground := Ground.phase }, { on := 6, ground := Ground.phase }, { on := 7, ground := Ground.phase }], guard := none }) (v := ?_) rfl (by kernel_rfl) (by kernel_rfl) (by kernel_rfl) (fun _ _ _ h => h) (Or.inl ⟨by rfl, ?_⟩) (by assumption) ?_
              rotate_left
              · intro w hSw; (try dsimp only at hSw); go_simp; try (with_reducible rfl)
              try simp only [Act.put, List.setIfInBounds_toArray, List.set_cons_zero, List.set_cons_succ]
              refine wpAnyH_ready (rs := [10]) (by kernel_rfl) (by simp) ?_
              refine AllReadyH.cons (o := { dst := none, op := Op.store 38 (Operand.tmp 56) (Operand.tmp 54), type := 0, pos := "text.go:116", after := #[{ on := 9, ground := Ground.data }, { on := 7, ground := Ground.data }, { on := 7, ground := Ground.chain }, { on := 0, ground := Ground.phase }, { on := 1, ground := Ground.phase }, { on := 2, ground := Ground.phase }, { on := 3, ground := Ground.phase }, { on := 4, ground := Ground.phase }, { on := 5, ground := Ground.phase }, { on := 6, ground := Ground.phase }, { on := 7, ground := Ground.phase }], guard := none }) rfl (fun K hK => ?_) ?_
              · go_simp
                try (go_wp2_with fail)
                refine hK.out _ _ ?_ (fun hHeld => ?_)
                · (try dsimp only); (repeat (first | assumption | apply Fr.drew | apply Fr.drewN | apply Fr.alloc | (refine Fr.step ?_ (by assumption)) | (refine Fr.trans ?_ (by assumption))))
                clear hK K
                try simp only [Act.put, List.setIfInBounds_toArray, List.set_cons_zero, List.set_cons_succ]
                refine wpAnyH_done (by kernel_rfl) ?_ _
                have hbp := hb5.ext hza
                have hOM : OwnQ y6 tb (.slice A6 (k + 1) d6) (k + 1) (yW ws) := ⟨_, o6, At.push oX.1 rX r6 hbp⟩
                have hOF : OwnQ (y6.setCell ⟨tb, 5, none⟩ (.slice A6 (k + 1) d6)) tb (.slice A6 (k + 1) d6) (k + 1) (yW ws) := hOM.fr ((Fr.refl (fun g => g = tb) y6).set (p := ⟨tb, 5, none⟩) rfl (fun z => by rw [c6]; intro e; cases e) _) (fun g hg e => by obtain ⟨-, -, cur, hcur⟩ := o6.lt hg; exact row_ne tb6 hcur (by decide) e.symm)
                have hBF : Box _ tb 79 (NodeC (-1) 0 none none em A6 (k + 1) d6) := tb6.set 5 (.slice A6 (k + 1) d6)
                have hXF : Ext w (y6.setCell ⟨tb, 5, none⟩ (.slice A6 (k + 1) d6)) := (r6.ext (hx5.trans hza) (fun g hg => by have := (oX.lt hg).1; omega)).set (p := ⟨tb, 5, none⟩) hwt _
                have hDF : Box (y6.setCell ⟨tb, 5, none⟩ (.slice A6 (k + 1) d6)) db 100 #[.string S, .int .i64 0] := hD.ext hXF
                clear hOM
                go_wp2_with fail
                go_roundw
                case rel => exact ⟨k + 1, _, _, by omega, by go_num, HO2, hOF, hBF, hXF⟩
                case measure => simp [intOf]; omega
              exact AllReadyH.nil
            exact AllReadyH.nil
          exact AllReadyH.nil
        exact AllReadyH.nil
end Go.Proofs.YtljncdcjkdgkeaaGreatDoor.Dc

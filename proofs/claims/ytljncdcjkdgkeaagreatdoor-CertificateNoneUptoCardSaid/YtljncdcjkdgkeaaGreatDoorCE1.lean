/- Walk: Encode's closure at a leaf. -/
import Derived.Test.YtljncdcjkdgkeaaGreatDoorSBC
import Derived.Test.YtljncdcjkdgkeaaGreatDoorT6
import Derived.Test.YtljncdcjkdgkeaaGreatDoorCK4
set_option linter.unusedVariables false
set_option linter.unusedSimpArgs false
namespace Go.Proofs.YtljncdcjkdgkeaaGreatDoor.Lp
open Go.RowKit Go.Proofs.YtljncdcjkdgkeaaGreatDoor.Big Go.Proofs.YtljncdcjkdgkeaaGreatDoor.Rt Go.Proofs.YtljncdcjkdgkeaaGreatDoor.Bld

def leafW (em : Bool) : List UInt8 := if em = true then [101, 109, 112, 116, 121] else [98, 111, 117, 110, 100]
def numsT (y : Nat → Rat) : Nat → List UInt8
  | 0 => []
  | n + 1 => numsT y n ++ (32 :: ratText (y n))
def leafT (em : Bool) (y : Nat → Rat) (n : Nat) : List UInt8 := leafW em ++ numsT y n ++ [10]
theorem ratText_len {q : Rat} {k : Nat} (hk : 0 < k) (h : QB k q) : (ratText q).length ≤ 20 * k + 3 := by
  have h1 := itoa_len hk h.1
  have h2 := itoa_len hk h.2
  unfold ratText
  split
  · omega
  · rw [List.length_append, List.length_cons]
    omega
theorem numsT_len {y : Nat → Rat} {n k : Nat} (hk : 0 < k) (h : ∀ j, j < n → QB k (y j)) : (numsT y n).length ≤ n * (20 * k + 4) := by
  induction n with
  | zero => simp [numsT]
  | succ n ih =>
    have h1 := ih (fun j hj => h j (by omega))
    have h2 := ratText_len hk (h n (by omega))
    show (numsT y n ++ (32 :: ratText (y n))).length ≤ _
    rw [List.length_append, List.length_cons, Nat.add_mul]
    omega
/-- what is kept besides the builder and its bytes -/
def KeepB (b : Nat) (w w' : World) : Prop := ∀ k E cs, k ≠ b → E ≠ 5 → Box w k E cs → Box w' k E cs
theorem KeepB.of {b : Nat} {w w' : World} (h : Ext w w') : KeepB b w w' := fun k E cs _ _ hB => hB.ext h
theorem KeepB.trans {b : Nat} {w w' w'' : World} (h : KeepB b w w') (k : KeepB b w' w'') : KeepB b w w'' := fun i E cs h1 h2 h3 => k i E cs h1 h2 (h i E cs h1 h2 h3)
/-- what a call leaves that writes to the builder -/
def EncP (w0 : World) (b : Nat) (X : List UInt8) (w : World) (e : Ending) (w' : World) : Prop := e = .returned (.tuple #[]) ∧ IsB w0.heap.size b X w' ∧ Ext w0 w' ∧ w.heap.size ≤ w'.heap.size ∧ KeepB b w w'
theorem ext_of_below {w0 w w' : World} (h : Ext w0 w) (k : Below w0.heap.size w w') : Ext w0 w' := Below.trans h k
set_option maxHeartbeats 2000000 in
set_option maxRecDepth 100000 in
theorem write_leaf (w0 w : World) (b tb : Nat) (fv : Value) (X : List UInt8) (fl : Int) (em : Bool) (A : Option Addr) (ny c K : Nat) (y : Nat → Rat) (hE : Ext w0 w) (hB : IsB w0.heap.size b X w) (hX : X.length ≤ 65536) (hT : Box w0 tb 79 (NodeC (-1) fl none none em A ny c)) (hY : RatsV w0 A ny c y) (hK0 : 0 < K) (hK : K ≤ 1000) (hny : ny ≤ 1000) (hq : ∀ j, j < ny → QB K (y j)) (htab : TabOK w0) :
    Calls Tryz.prog 33 #[.pointer (some ⟨tb, 0, none⟩), .pointer (some ⟨b, 0, none⟩), fv] w (EncP w0 b (X ++ leafT em y ny) w) := by
  have HQ := Lib.hid hq
  have HK := Lib.hid hK0
  clear hq
  go_enter Tryz.func33, Tryz.ntmps33
  go_wp2_with fail
  refine (Tryz.Builder_Len _ b _ w hB).mono ?_
  rintro e w1 ⟨rfl, rfl⟩
  have i1 : decide ((65536 : Int) < ((Lib.byteCells X).length : Int)) = false := by rw [Bld.byteCells_len]; simp; omega
  have t0 : w1.cell? ⟨tb, 0, none⟩ = some (.int .i64 (-1)) := hE.cell (hT.cell 0)
  have t4 : w1.cell? ⟨tb, 4, none⟩ = some (.bool em) := hE.cell (hT.cell 4)
  go_upto_if 44 with fail
  rename_i hK'
  obtain ⟨WS, hWS⟩ : ∃ s : ByteArray, s = ⟨(leafW em).toArray⟩ := ⟨_, rfl⟩
  have hws : WS.size = 5 := by rw [hWS]; cases em <;> rfl
  have HWS : Hid (WS.data.toList = leafW em) := Lib.hid (by rw [hWS])
  go_cut [4] (fun v4 wx => v4 = .string WS ∧ wx = w1)
  case first =>
    cases em with
    | true =>
      go_wp2_with fail
      go_meet
      exact ⟨by rw [hWS]; rfl, rfl⟩
    | false =>
      go_wp2_with fail
      go_meet
      exact ⟨by rw [hWS]; rfl, rfl⟩
  case rest =>
  obtain ⟨rfl, rfl⟩ := hcut
  refine hK' _ _ ?_
  clear hK' t0 t4 i1 hWS
  go_wp2_with fail
  refine (Write_any _ b X WS _ hB (by omega) hE.size).mono ?_
  rintro e w2 ⟨⟨n2, rfl⟩, hB2, hb2, hs2, hk2⟩
  rw [HWS.out] at hB2
  have hE2 := ext_of_below hE hb2
  have t5 : w2.cell? ⟨tb, 5, none⟩ = some (.slice A ny c) := hE2.cell (hT.cell 5)
  have hYc := hY.1
  have HKP : Hid (KeepB b wc w2) := Lib.hid hk2
  clear hb2 hk2 hB hws
  go_upto_region 10 with fail
  clear t5
  go_loopw [52] (fun i wr => ∃ j : Nat, j ≤ ny ∧ i = .int .i64 j ∧ IsB w0.heap.size b (X ++ leafW em ++ numsT y j) wr ∧ Ext w0 wr ∧ wc.heap.size ≤ wr.heap.size ∧ Hid (KeepB b wc wr)) (fun i _ => ny - (intOf i).toNat)
  case atStart => exact ⟨0, by omega, rfl, by show IsB _ _ (_ ++ []) _; rw [List.append_nil]; exact hB2, hE2, hs2, HKP⟩
  case round =>
    clear hB2 hE2 hs2 HKP
    obtain ⟨j, hj, rfl, hBr, hEr, hsr, HKr⟩ := hrel
    have hnl := numsT_len (n := j) HK.out (fun i hi => HQ.out i (by omega))
    have hnb : (X ++ leafW em ++ numsT y j).length ≤ 100000000 := by
      have h1 : j * (20 * K + 4) ≤ 1000 * 20004 := Nat.mul_le_mul (by omega) (by omega)
      have h2 : (leafW em).length = 5 := by cases em <;> rfl
      rw [List.length_append, List.length_append]
      omega
    by_cases hlt : j < ny
    · obtain ⟨yb, rfl, hR⟩ := hY.2.2 (by omega)
      obtain ⟨p3, A3, m3, c3, p3', A3', m3', c3', a0, a1, a2, a3, hr3⟩ := (hR.ext hEr).at hlt
      have i3 : (0 : Int) ≤ (j : Int) := by omega
      have i4 : (j : Int) < (ny : Int) := by omega
      go_upto_region 12 with fail
      have XB := Box.new wr 58 #[.bool p3, .slice A3 m3 c3, .bool p3', .slice A3' m3' c3']
      have hxT : Ext wr (wr.alloc (.cells #[.bool p3, .slice A3 m3 c3, .bool p3', .slice A3' m3' c3'] 58)) := (Ext.refl wr).alloc _
      generalize (wr.alloc (.cells #[.bool p3, .slice A3 m3 c3, .bool p3', .slice A3' m3' c3'] 58)) = T at *
      obtain ⟨xb, hxb⟩ : ∃ x, x = wr.heap.size := ⟨_, rfl⟩
      rw [← hxb] at XB ⊢
      clear hxb a0 a1 a2 a3
      have hxB : RatB T (.agg #[.bool p3, .slice A3 m3 c3, .bool p3', .slice A3' m3' c3']) (y j) K := ⟨hr3.ext hxT, HQ.out j hlt⟩
      have x0 := XB.c0
      have x1 := XB.c1
      have x2 := XB.c2
      have x3 := XB.c3
      obtain ⟨S, hS⟩ : ∃ S : ByteArray, S = ⟨(ratText (y j)).toArray⟩ := ⟨_, rfl⟩
      have hSl : S.size ≤ 20 * K + 3 := by rw [hS]; show (ratText (y j)).toArray.size ≤ _; simpa using ratText_len HK.out (HQ.out j hlt)
      have HS : Hid (S.data.toList = ratText (y j)) := Lib.hid (by rw [hS])
      have hcall := RatText_b _ (y j) K _ hxB (by omega) ((htab.ext hEr).ext hxT)
      rw [show StrPost T (ratText (y j)) = (fun e w' => e = .returned (.string S) ∧ Ext T w') by funext e w'; unfold StrPost; rw [hS]] at hcall
      have hno : ¬ 9223372036854775807 < 1 + S.size := by omega
      clear hS
      go_wp2_with fail
      refine hcall.mono ?_
      rintro e w5 ⟨rfl, hx5⟩
      clear hcall x0 x1 x2 x3
      go_wp2_with fail
      have hBT := (hBr.ext hxT).ext hx5
      have hE5 := (hEr.trans hxT).trans hx5
      have hs5 : wr.heap.size ≤ w5.heap.size := (hxT.trans hx5).size
      have hsz : (({ data := #[32] } : ByteArray) ++ S).size = 1 + S.size := by rw [ByteArray.size_append]; rfl
      have hdt : (({ data := #[32] } : ByteArray) ++ S).data.toList = 32 :: ratText (y j) := by rw [ByteArray.data_append, Array.toList_append, HS.out]; rfl
      refine (Write_any _ b _ _ _ hBT (by rw [hsz]; omega) hE5.size).mono ?_
      rintro e w6 ⟨⟨n6, rfl⟩, hB6, hb6, hs6, hk6⟩
      rw [hdt, List.append_assoc] at hB6
      have hE6 := ext_of_below hE5 hb6
      have HK6 : Hid (KeepB b wc w6) := Lib.hid ((HKr.out.trans (KeepB.of (hxT.trans hx5))).trans hk6)
      have hs7 : wc.heap.size ≤ w6.heap.size := by omega
      clear hBT hE5 hs5 hsz hdt hb6 hs6 hk6 hx5 hxT hBr hEr
      go_wp2_with fail
      go_roundw
      case rel => first | exact ⟨j + 1, by omega, by go_num, hB6, hE6, hs7, HK6⟩ | ((repeat (apply Exists.intro (α := Value))); exact ⟨⟨j + 1, by omega, by go_num, hB6, hE6, hs7, HK6⟩, rfl⟩)
      case measure => simp [intOf]; omega
    · obtain rfl : j = ny := by omega
      go_wp2_with fail
      refine (Write_any _ b _ ⟨#[10]⟩ _ hBr (by show _ + 1 ≤ _; omega) hEr.size).mono ?_
      rintro e w6 ⟨⟨n6, rfl⟩, hB6, hb6, hs6, hk6⟩
      go_wp2_with fail
      go_end0
      refine ⟨rfl, ?_, ext_of_below hEr hb6, by omega, HKr.out.trans hk6⟩
      have e1 : X ++ leafT em y j = X ++ leafW em ++ numsT y j ++ [10] := by unfold leafT; simp
      rw [e1]
      exact hB6
end Go.Proofs.YtljncdcjkdgkeaaGreatDoor.Lp

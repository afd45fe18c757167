/- Walk: Encode, over what it asks of the tree. -/
import Derived.Test.YtljncdcjkdgkeaaGreatDoorCE1
set_option linter.unusedVariables false
set_option linter.unusedSimpArgs false
namespace Go.Proofs.YtljncdcjkdgkeaaGreatDoor.Lp
open Go.RowKit Go.Proofs.YtljncdcjkdgkeaaGreatDoor.Big Go.Proofs.YtljncdcjkdgkeaaGreatDoor.Rt Go.Proofs.YtljncdcjkdgkeaaGreatDoor.Bld

def EnPost (wf : Bool) (T : List UInt8) (w : World) (e : Ending) (w' : World) : Prop := Ext w w' ∧ ((wf = true ∧ e = .returned (.tuple #[.string ⟨T.toArray⟩, .int .i64 0])) ∨ (wf = false ∧ e = .returned (.tuple #[.string ⟨#[]⟩, .int .i64 3])))
set_option maxHeartbeats 2000000 in
set_option maxRecDepth 100000 in
theorem Encode_any (t : Value) (wf : Bool) (T : List UInt8) (w : World) (hT : T.length ≤ 65536)
    (hwf : ∀ W, Ext w W → Calls Tryz.prog 32 #[t] W (fun e w' => e = .returned (.bool wf) ∧ Ext W w'))
    (hwr : wf = true → ∀ (w0 W : World) (b fb : Nat), Ext w w0 → Ext w0 W → IsB w0.heap.size b [] W → w0.heap.size ≤ fb → w0.heap.size ≤ b → fb ≠ b → Box W fb 89 #[.func (.func 33) #[] #[.pointer (some ⟨b, 0, none⟩), .pointer (some ⟨fb, 0, none⟩)]] →
      Calls Tryz.prog 33 #[t, .pointer (some ⟨b, 0, none⟩), .pointer (some ⟨fb, 0, none⟩)] W (EncP w0 b T W)) :
    Calls Tryz.prog 12 #[t] w (EnPost wf T w) := by
  have HWR := Lib.hid hwr
  clear hwr
  go_enter Tryz.func12, Tryz.ntmps12
  go_wp2_with fail
  refine (hwf w (Ext.refl w)).mono ?_
  rintro e w2 ⟨rfl, hE2⟩
  clear hwf
  cases wf with
  | false =>
    go_wp2_with fail
    refine bodyPost_ret (v := .tuple #[.string ⟨#[]⟩, .int .i64 3]) (by simp [results, Tryz.results12, go_sem]) rfl ?_
    exact ⟨hE2, .inr ⟨rfl, rfl⟩⟩
  | true =>
  go_upto_region 4 with fail
  have hB3 := IsB.fresh w2
  have hx3 : Ext w2 (w2.alloc (.cells #[.pointer none, .slice none 0 0] 88)) := (Ext.refl w2).alloc _
  generalize (w2.alloc (.cells #[.pointer none, .slice none 0 0] 88)) = W3 at *
  obtain ⟨b, hb⟩ : ∃ x, x = w2.heap.size := ⟨_, rfl⟩
  have hB3' : IsB w2.heap.size b [] W3 := by rw [hb]; exact hB3
  rw [← hb]
  have hbw : w2.heap.size ≤ b := by omega
  have hb3 : b < W3.heap.size := by
    rcases hB3' with h | h
    · exact h.lt
    · exact h.lt
  clear hb hB3
  go_upto_region 5 with fail
  have FB := Box.new W3 89 #[.nilFunc]
  have hxf : Ext W3 (W3.alloc (.cells #[.nilFunc] 89)) := (Ext.refl W3).alloc _
  generalize (W3.alloc (.cells #[.nilFunc] 89)) = W4 at *
  obtain ⟨fb, hfb⟩ : ∃ x, x = W3.heap.size := ⟨_, rfl⟩
  rw [← hfb] at FB ⊢
  have hfw : W3.heap.size ≤ fb := by omega
  have hfne : fb ≠ b := by omega
  have hf2 : w2.heap.size ≤ fb := by have := hx3.size; omega
  clear hfb
  obtain ⟨K, hKK⟩ : ∃ K : Value, K = .func (.func 33) #[] #[.pointer (some ⟨b, 0, none⟩), .pointer (some ⟨fb, 0, none⟩)] := ⟨_, rfl⟩
  have f0 := FB.c0
  have f1 := FB.frozen 0
  have FB5 := FB.set 0 K
  have hx5 : Ext W3 (W4.setCell ⟨fb, 0, none⟩ K) := hxf.set (p := ⟨fb, 0, none⟩) hfw K
  go_upto_region 6 with fail
  rw [← hKK]
  generalize (W4.setCell ⟨fb, 0, none⟩ K) = W5 at *
  subst hKK
  have hB5 := hB3'.ext hx5
  have hE5 := hx3.trans hx5
  have k0 := FB5.c0
  clear f0 f1 FB hxf hB3' hx3 hx5
  have hcall := HWR.out (by first | rfl | trivial) w2 W5 b fb hE2 hE5 hB5 hf2 hbw hfne FB5
  go_wp2_with fail
  refine hcall.mono ?_
  rintro e w6 ⟨rfl, hB6, hE6, hs6, -⟩
  clear hcall k0
  go_wp2_with fail
  refine (Tryz.Builder_Len _ b _ w6 hB6).mono ?_
  rintro e w7 ⟨rfl, rfl⟩
  have i1 : decide ((65536 : Int) < ((Lib.byteCells T).length : Int)) = false := by rw [Bld.byteCells_len]; simp; omega
  obtain ⟨S, hS⟩ : ∃ S : ByteArray, S = ⟨T.toArray⟩ := ⟨_, rfl⟩
  have hstr := Tryz.Builder_String_any w2.heap.size b T w7 hB6 hE6.size
  rw [← hS] at hstr
  have HS := Lib.hid hS
  clear hS
  go_wp2_with fail
  refine hstr.mono ?_
  rintro e w8 ⟨rfl, hx8⟩
  have hE8 := hE2.trans (ext_of_below hE6 hx8)
  clear hstr i1
  go_wp2_with fail
  refine bodyPost_ret (v := .tuple #[.string S, .int .i64 0]) (by simp [results, Tryz.results12, go_sem]) rfl ?_
  exact ⟨hE8, .inl ⟨rfl, by rw [HS.out]⟩⟩
end Go.Proofs.YtljncdcjkdgkeaaGreatDoor.Lp

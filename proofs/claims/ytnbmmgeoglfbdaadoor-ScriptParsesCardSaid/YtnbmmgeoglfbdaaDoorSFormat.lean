/- Walks: Valid, Format of the script. -/
import Derived.Test.YtnbmmgeoglfbdaaDoorSValid
import Derived.Test.YtnbmmgeoglfbdaaDoorSCmds
import Derived.Test.YtnbmmgeoglfbdaaDoorSBuild
import Derived.Test.YtnbmmgeoglfbdaaDoorSP3
set_option linter.unusedVariables false
set_option linter.unusedSimpArgs false
namespace Go.Proofs.YtnbmmgeoglfbdaaDoor.Sc
open Go.RowKit Go.Proofs.YtnbmmgeoglfbdaaDoor.Big

theorem valid_cmd (c : Cmd) (A : Option Addr) (n cc : Nat) (w : World) (hk : c.kind ≤ 255) (hn : n = c.nums.length) (hnl : n ≤ 9223372036854775807) (hl : c.name.length ≤ 9223372036854775807) (hg : SignsOK w) (hf : FormatsOK w) :
    Calls Tryd.prog 32 #[.agg #[.int .u8 (c.kind : Int), .string (str c.name), .slice A n cc, .string (str c.text)]] w (BoolPost w (validC c)) := by
  have := valid_any c.kind (str c.name) (str c.text) A n cc w hk hnl (by rw [str_size]; exact hl) hg hf
  rw [str_list, str_list, hn] at this
  rw [validC_B, hn]; exact this
/-- the commands are those of a Go slice -/
def Kinds (l : List Cmd) : Prop := ∀ c ∈ l, c.kind ≤ 255 ∧ c.name.length ≤ 9223372036854775807 ∧ c.nums.length ≤ 9223372036854775807
set_option maxHeartbeats 2000000 in
set_option maxRecDepth 100000 in
theorem Valid_any (A : Option Addr) (n c : Nat) (l : List Cmd) (w : World) (h : CmdsV w (.slice A n c) l) (hk : Kinds l) (hg : SignsOK w) (hf : FormatsOK w) : Calls Tryd.prog 14 #[.slice A n c] w (BoolPost w (validL l)) := by
  obtain ⟨h0, h1, h2, h3⟩ := h.inj
  subst h0
  obtain ⟨V, hV⟩ : ∃ V, V = validL l := ⟨_, rfl⟩
  have HV := Lib.hid hV
  rw [← hV]
  have H3 := Lib.hid h3
  have HKI := Lib.hid hk
  clear hV h3 hk
  by_cases hbig : 1000 < l.length
  · have HF : Hid (V = false) := Lib.hid (by rw [HV.out]; unfold validL; rw [decide_eq_false (by omega)]; rfl)
    go_enter Tryd.func14, Tryd.ntmps14
    go_wp2_with fail
    go_ret
    exact ⟨by rw [HF.out]; rfl, Ext.refl _⟩
  · have HV2 : Hid (V = l.all validC) := Lib.hid (by rw [HV.out]; unfold validL; rw [decide_eq_true (by omega)]; rfl)
    clear HV
    go_enter Tryd.func14, Tryd.ntmps14
    go_wp2_with fail
    go_loopw [10] (fun i wr => ∃ k : Nat, k ≤ l.length ∧ i = .int .i64 k ∧ Hid ((l.take k).all validC = true) ∧ Ext w wr) (fun i _ => l.length - (intOf i).toNat)
    case atStart => exact ⟨0, by omega, rfl, Lib.hid rfl, Ext.refl _⟩
    case round =>
      obtain ⟨k, hk, rfl, HK, hx⟩ := hrel
      by_cases hlt : k < l.length
      · obtain ⟨b, off, rfl, hc⟩ := H3.out (by omega)
        obtain ⟨A', n', c', g0, g1, g2, g3, g4⟩ := hc k l[k] (List.getElem?_eq_getElem hlt)
        obtain ⟨x, hxd⟩ : ∃ x, x = l[k] := ⟨_, rfl⟩
        have hxm : x ∈ l := by rw [hxd]; exact List.getElem_mem hlt
        obtain ⟨k1, k2, k3⟩ := HKI.out x hxm
        have hT : (l.take (k + 1)).all validC = ((l.take k).all validC && validC x) := by
          rw [List.take_succ_eq_append_getElem hlt, List.all_append, hxd]; simp
        have hT2 : validC x = false → l.all validC = false := fun h => by
          rcases hd : l.all validC with _ | _
          · rfl
          · rw [List.all_eq_true] at hd
            rw [hd x hxm] at h; cases h
        rw [← hxd] at g0 g1 g3 g4
        have e0 := hx.cell g0
        have e1 := hx.cell g1
        have e2 := hx.cell g2
        have e3 := hx.cell g3
        have hn' := g4.inj.1
        rw [iV_len] at hn'
        obtain ⟨vb, hvb⟩ : ∃ vb, vb = validC x := ⟨_, rfl⟩
        rw [← hvb] at hT hT2
        have HT := Lib.hid hT
        have HT2 := Lib.hid hT2
        have HVB := Lib.hid hvb
        have HN := Lib.hid hn'
        clear hT hT2 hxd hvb hc g0 g1 g2 g3 g4 hxm hn'
        go_wp2_with fail
        have hE1 : Ext wr (wr.alloc (.cells #[.int .u8 (x.kind : Int), .string (str x.name), .slice A' n' c', .string (str x.text)] 40)) := (Ext.refl wr).alloc _
        refine (valid_cmd x A' n' c' _ k1 HN.out (by rw [HN.out]; exact k3) k2 (hg.ext (hx.trans hE1)) (hf.ext (hx.trans hE1))).mono ?_
        rintro e w2 ⟨rfl, hx2⟩
        rw [← HVB.out]
        have hx3 := (hx.trans hE1).trans hx2
        clear e0 e1 e2 e3 hE1 hx2
        cases vb with
        | false =>
          have HF : Hid (V = false) := Lib.hid (by rw [HV2.out]; exact HT2.out rfl)
          clear HT HT2 HV2
          go_wp2_with fail
          go_ret
          exact ⟨by rw [HF.out]; rfl, hx3⟩
        | true =>
          have HT3 : Hid ((l.take (k + 1)).all validC = true) := Lib.hid (by rw [HT.out, HK.out]; rfl)
          clear HT HT2 HK
          go_wp2_with fail
          go_roundw
          case rel => exact ⟨k + 1, by omega, by go_num, HT3, hx3⟩
          case measure => simp [intOf]; omega
      · obtain rfl : k = l.length := by omega
        have HF : Hid (V = true) := Lib.hid (by rw [HV2.out]; have := HK.out; rwa [List.take_length] at this)
        clear HV2 HK
        go_wp2_with fail
        go_ret
        exact ⟨by rw [HF.out]; rfl, hx⟩
end Go.Proofs.YtnbmmgeoglfbdaaDoor.Sc

/- Walk: Format of the script. -/
import Derived.Test.YtnbmmgeoglfbdaaDoorSSame
set_option linter.unusedVariables false
set_option linter.unusedSimpArgs false
namespace Go.Proofs.YtnbmmgeoglfbdaaDoor.Sc
open Go.RowKit Go.Proofs.YtnbmmgeoglfbdaaDoor.Big

theorem cat_list (c : UInt8) (s : ByteArray) : ((⟨#[c]⟩ : ByteArray) ++ s).data.toList = c :: s.data.toList := by
  rw [ByteArray.data_append]; simp
theorem cat_size (c : UInt8) (s : ByteArray) : ((⟨#[c]⟩ : ByteArray) ++ s).size = s.size + 1 := by
  rw [Lib.size_eq, cat_list, List.length_cons, ← Lib.size_eq]
theorem numT_len (ns : List Int) (h : ∀ v ∈ ns, inI v) : (numT ns).length ≤ 22 * ns.length := by
  induction ns with
  | nil => simp [numT]
  | cons v r ih =>
    have e : numT (v :: r) = 32 :: Lib.itoa v ++ numT r := rfl
    have hv := h v (by simp)
    have := Lib.itoa_length_le v hv.1 hv.2
    have := ih (fun x hx => h x (by simp [hx]))
    rw [e]; simp; omega
theorem numT_take {ns : List Int} {j : Nat} (hj : j < ns.length) : numT (ns.take (j + 1)) = numT (ns.take j) ++ (32 :: Lib.itoa ns[j]) := by
  unfold numT; rw [List.take_succ_eq_append_getElem hj, List.flatMap_append]; simp
theorem formatC_max {c : Cmd} (h : validC c = true) (hn : NumsIn c) : (formatC c).length ≤ 100000 ∧ c.name.length ≤ 12 ∧ c.nums.length ≤ 1000 ∧ c.text.length ≤ 65536 := by
  obtain ⟨h1, h2, h3, h4, h5, h6⟩ := validC_iff.1 h
  have hw := word_len (c.kind - 1) (by omega)
  have hm : most (c.kind - 1) ≤ 1000 := by unfold most; repeat (first | omega | split)
  have hname : c.name.length ≤ 12 := by
    split at h3
    · unfold isName at h3; simp only [Bool.and_eq_true, decide_eq_true_eq] at h3; exact h3.1.2
    · rw [h3]; simp
  have hnt := numT_len c.nums hn
  have hl := validC_len h
  have hnl := nl_le c.text
  have hi := Lib.itoa_length_le (nl c.text : Int) (by omega) (by omega)
  refine ⟨?_, hname, by omega, hl⟩
  unfold formatC lineC
  simp only [List.length_append, List.length_cons]
  have e1 : (if fN (c.kind - 1) = true then 32 :: c.name else []).length ≤ 13 := by split <;> simp; omega
  have e2 : (if fT (c.kind - 1) = true then 32 :: Lib.itoa (nl c.text : Int) else []).length ≤ 22 := by split <;> simp; omega
  omega
theorem formatL_take {l : List Cmd} {k : Nat} (hk : k < l.length) : formatL (l.take (k + 1)) = formatL (l.take k) ++ formatC l[k] := by
  rw [List.take_succ_eq_append_getElem hk, formatL_append]; simp [formatL]
theorem formatL_max {l : List Cmd} (h : Good l) : (formatL l).length ≤ l.length * 100000 := by
  induction l with
  | nil => simp [formatL]
  | cons c r ih =>
    have := ih h.tail
    have := (formatC_max (h c (by simp)).1 (h c (by simp)).2).1
    rw [formatL_cons]; simp; omega
theorem count_nl (s : ByteArray) : Lib.countByte s.data.toList 10 = nl s.data.toList := rfl
theorem IsB.lt {B b : Nat} {X : BL} {w : World} (h : IsB B b X w) : b < w.heap.size := by
  rcases h with h | h
  all_goals
    obtain ⟨h1, v, h2, _⟩ := h
    exact Box.lt (w := w) (E := 62) h2
def FmtPost (w : World) (l : List Cmd) (e : Ending) (w' : World) : Prop := (∃ S er, e = .returned (.tuple #[.string (str S), .int .i64 er]) ∧ (validL l = true → S = formatL l ∧ er = 0) ∧ (validL l = false → S = [] ∧ er = 3)) ∧ Ext w w'
set_option maxHeartbeats 8000000 in
set_option maxRecDepth 100000 in
theorem Format_any (A : Option Addr) (n c : Nat) (l : List Cmd) (w : World) (h : CmdsV w (.slice A n c) l) (hm : Mild l) (hin : ∀ c ∈ l, NumsIn c) (he : Env w) (hf : FormatsOK w) : Calls Tryd.prog 11 #[.slice A n c] w (FmtPost w l) := by
  obtain ⟨V, hV⟩ : ∃ V, V = validL l := ⟨_, rfl⟩
  have HV := Lib.hid hV
  clear hV
  cases V with
  | false =>
    go_enter Tryd.func11, Tryd.ntmps11
    go_wp2_with fail
    refine (Valid_any A n c l _ h hm.kinds he.sg hf).mono ?_
    rintro e w1 ⟨rfl, hx1⟩
    rw [← HV.out]
    go_wp2_with fail
    refine bodyPost_ret (v := .tuple #[.string (str []), .int .i64 3]) (by simp [results, Tryd.results11, go_sem]; rfl) rfl ?_
    exact ⟨⟨[], 3, rfl, fun h => (by rw [← HV.out] at h; cases h), fun _ => ⟨rfl, rfl⟩⟩, hx1⟩
  | true =>
    have hvl := validL_iff.1 HV.out.symm
    have hgood : Good l := fun c hc => ⟨hvl.2 c hc, hin c hc⟩
    have hl1 := hvl.1
    have HG := Lib.hid hgood
    have HH := Lib.hid h
    obtain ⟨h0, _, _, _⟩ := h.inj
    subst h0
    clear hvl hgood hin
    go_enter Tryd.func11, Tryd.ntmps11
    go_wp2_with fail
    refine (Valid_any A l.length c l _ h hm.kinds he.sg hf).mono ?_
    rintro e w1 ⟨rfl, hx1⟩
    rw [← HV.out]
    have h1 := h.ext hx1
    have he1 := he.ext hx1
    have hf1 := hf.ext hx1
    have HB0 := IsB.fresh w1
    have hX0 : Ext w1 (w1.alloc (.cells #[.pointer none, .slice none 0 0] 62)) := (Ext.refl w1).alloc _
    clear h hm
    go_wp2_with fail
    go_loopw [15] (fun i wr => ∃ k : Nat, k ≤ l.length ∧ i = .int .i64 k ∧ IsB w1.heap.size w1.heap.size (formatL (l.take k)) wr ∧ Ext w1 wr) (fun i _ => l.length - (intOf i).toNat)
    case atStart => exact ⟨0, by omega, rfl, by simpa [formatL] using HB0, hX0⟩
    case round =>
      obtain ⟨k, hk, rfl, hB, hX⟩ := hrel
      by_cases hlt : k < l.length
      · obtain ⟨b, off, A', n', c', rfl, g0, g1, g2, g3, g4⟩ := h1.at_ hlt
        obtain ⟨x, hxd⟩ : ∃ x, x = l[k] := ⟨_, rfl⟩
        have hft := formatL_take hlt
        rw [← hxd] at g0 g1 g3 g4 hft
        have hxm : x ∈ l := by rw [hxd]; exact List.getElem_mem hlt
        have hgx := HG.out x hxm
        obtain ⟨m1, m2, m3, m4⟩ := formatC_max hgx.1 hgx.2
        obtain ⟨v1, v2, _⟩ := validC_iff.1 hgx.1
        have hpl : (formatL (l.take k)).length ≤ 100000000 := by
          have := formatL_max (l := l.take k) (fun c hc => HG.out c (List.mem_of_mem_take hc))
          rw [List.length_take] at this
          have h2 : min k l.length ≤ 1000 := by omega
          exact Nat.le_trans this (Nat.le_trans (Nat.mul_le_mul_right _ h2) (by omega))
        obtain ⟨X, hXd⟩ : ∃ X, X = formatL (l.take k) := ⟨_, rfl⟩
        rw [← hXd] at hB hft hpl
        obtain ⟨i, hi⟩ : ∃ i, x.kind = i + 1 := ⟨x.kind - 1, by omega⟩
        have hi11 : i < 11 := by omega
        have hn' := g4.inj.1
        rw [iV_len] at hn'
        subst hn'
        rw [hi] at g0
        rw [show ((i + 1 : Nat) : Int) = (i : Int) + 1 by omega] at g0
        have e0 := hX.cell g0
        have e1 := hX.cell g1
        have e2 := hX.cell g2
        have e3 := hX.cell g3
        have hE1 : Ext wr (wr.alloc (.cells #[.int .u8 ((i : Int) + 1), .string (str x.name), .slice A' x.nums.length c', .string (str x.text)] 40)) := (Ext.refl wr).alloc _
        obtain ⟨f0, f1, f2, f3, f4⟩ := ((hf1.ext hX).ext hE1).cells i hi11
        have hk8 : IntKind.u8.wrap ((i : Int) + 1 - 1) = (i : Int) := by rw [IntKind.wrap_u8]; omega
        obtain ⟨wd, hwdn⟩ : ∃ z, z = str (word i) := ⟨_, rfl⟩
        obtain ⟨vN, hvN⟩ : ∃ z, z = fN i := ⟨_, rfl⟩
        obtain ⟨vT, hvT⟩ : ∃ z, z = fT i := ⟨_, rfl⟩
        obtain ⟨lo, hlo⟩ : ∃ z, z = least i := ⟨_, rfl⟩
        obtain ⟨hi2, hhi⟩ : ∃ z, z = most i := ⟨_, rfl⟩
        rw [← hwdn] at f0
        rw [← hvN] at f1
        rw [← hlo] at f2
        rw [← hhi] at f3
        rw [← hvT] at f4
        have hwl : wd.size ≤ 7 := by rw [hwdn, str_size]; exact (word_len i hi11).2
        have HFT : Hid (formatL (l.take (k + 1)) = X ++ (wd.data.toList ++ ((if vN then 32 :: x.name else []) ++ (numT x.nums ++ ((if vT then 32 :: Lib.itoa (nl x.text : Int) else []) ++ 10 :: x.text))))) := Lib.hid (by
          rw [hft, hwdn, str_list, hvN, hvT]; unfold formatC lineC; rw [hi, Nat.add_sub_cancel]; simp)
        have HNI := Lib.hid hgx.2
        clear hft hxd hXd hgx hxm g0 g1 g2 g3 hwdn hvN hvT hlo hhi hi v1 v2 m1
        go_upto_region 8 with fail
        obtain ⟨Bc, Bf, hE2⟩ := boxesT2 wr 40 64 #[.int .u8 ((i : Int) + 1), .string (str x.name), .slice A' x.nums.length c', .string (str x.text)] #[.string wd, .bool vN, .int .i64 lo, .int .i64 hi2, .bool vT]
        generalize hWg : ((wr.alloc (.cells #[.int .u8 ((i : Int) + 1), .string (str x.name), .slice A' x.nums.length c', .string (str x.text)] 40)).alloc (.cells #[.string wd, .bool vN, .int .i64 lo, .int .i64 hi2, .bool vT] 64)) = W2 at *
        clear hWg e0 e1 e2 e3 f0 f1 f2 f3 f4 hk8 hE1
        have hB2 := hB.ext hE2
        have hX2 := hX.trans hE2
        obtain ⟨bc, hbc⟩ : ∃ z, z = wr.heap.size := ⟨_, rfl⟩
        have hblt : w1.heap.size < bc := by rw [hbc]; exact IsB.lt hB
        have hsz2 := hX2.size
        rw [← hbc] at Bc Bf ⊢
        clear hbc hB hX hE2
        have y0 := Bf.c0
        go_wp2_with fail
        refine (Write_any w1.heap.size w1.heap.size _ wd _ (by assumption) (by have := hwl; omega) (by omega)).mono ?_
        rintro e w3 ⟨⟨nn3, rfl⟩, hB3, hx3, hs3, hk3⟩
        have Bc3 := hk3 bc 40 _ (by omega) (by decide) Bc
        have Bf3 := hk3 (bc + 1) 64 _ (by omega) (by decide) Bf
        have hX3 : Ext w1 w3 := Below.trans hX2 hx3
        have hsz3 := hX3.size
        clear hk3 hx3 hs3 hB2 hX2 hsz2 Bc Bf y0
        have y1 := Bf3.c1
        obtain ⟨X1, hX1⟩ : ∃ Z, Z = X ++ wd.data.toList := ⟨_, rfl⟩
        have hX1l : X1.length ≤ 100000100 := by rw [hX1, List.length_append]; have := Lib.size_eq wd; omega
        rw [← hX1] at hB3
        have HFT1 : Hid (formatL (l.take (k + 1)) = X1 ++ ((if vN then 32 :: x.name else []) ++ (numT x.nums ++ ((if vT then 32 :: Lib.itoa (nl x.text : Int) else []) ++ 10 :: x.text)))) := Lib.hid (by rw [HFT.out, hX1]; simp)
        clear hX1 HFT hwl hpl
        go_upto_if 28 with (fail)
        rename_i hK1
        go_cut [] (fun wx => ∃ X2 : BL, IsB w1.heap.size w1.heap.size X2 wx ∧ X2.length ≤ 100001000 ∧ Hid (formatL (l.take (k + 1)) = X2 ++ (numT x.nums ++ ((if vT then 32 :: Lib.itoa (nl x.text : Int) else []) ++ 10 :: x.text))) ∧ Ext w1 wx ∧
          Box wx bc 40 #[.int .u8 ((i : Int) + 1), .string (str x.name), .slice A' x.nums.length c', .string (str x.text)] ∧ Box wx (bc + 1) 64 #[.string wd, .bool vN, .int .i64 lo, .int .i64 hi2, .bool vT])
        case first => as_aux_lemma =>
          cases vN with
          | false =>
            go_wp2_with fail
            go_meet
            exact ⟨X1, hB3, by omega, Lib.hid (by rw [HFT1.out]; rfl), hX3, Bc3, Bf3⟩
          | true =>
            have z1 := Bc3.c1
            have hcs : ((⟨#[32]⟩ : ByteArray) ++ str x.name).size = x.name.length + 1 := cat_size 32 _
            have hcg : ¬ 9223372036854775807 < 1 + x.name.length := by omega
            have hss : (str x.name).size = x.name.length := rfl
            have hwl1 : X1.length + ((⟨#[32]⟩ : ByteArray) ++ str x.name).size ≤ 140737488355328 := by omega
            go_wp2_with fail
            refine (Write_any w1.heap.size w1.heap.size _ _ _ hB3 hwl1 hsz3).mono ?_
            rintro e w4 ⟨⟨nn4, rfl⟩, hB4, hx4, hs4, hk4⟩
            rw [cat_list, str_list] at hB4
            have Bc4 := hk4 bc 40 _ (by omega) (by decide) Bc3
            have Bf4 := hk4 (bc + 1) 64 _ (by omega) (by decide) Bf3
            have hX4 : Ext w1 w4 := Below.trans hX3 hx4
            go_wp2_with fail
            go_meet
            exact ⟨X1 ++ 32 :: x.name, hB4, by simp; omega, Lib.hid (by rw [HFT1.out]; simp), hX4, Bc4, Bf4⟩
        case rest => as_aux_lemma =>
          obtain ⟨X2, hB4, hX2l, HFT2, hX4, Bc4, Bf4⟩ := hcut
          refine hK1 _ _ ?_
          obtain ⟨wo, hwo⟩ : ∃ wo : World, wo = wr := ⟨_, rfl⟩
          clear hwo
          clear hK1 HFT1 hB3 hX3 Bc3 Bf3 y1 hX1l hsz3
          have z2 := Bc4.c2
          go_wp2_with fail
          go_loopw [36] (fun jv wr => ∃ j : Nat, j ≤ x.nums.length ∧ jv = .int .i64 j ∧ IsB w1.heap.size w1.heap.size (X2 ++ numT (x.nums.take j)) wr ∧ Ext w1 wr ∧
            Box wr bc 40 #[.int .u8 ((i : Int) + 1), .string (str x.name), .slice A' x.nums.length c', .string (str x.text)] ∧ Box wr (bc + 1) 64 #[.string wd, .bool vN, .int .i64 lo, .int .i64 hi2, .bool vT]) (fun jv _ => x.nums.length - (intOf jv).toNat)
          case atStart => exact ⟨0, by omega, rfl, by simpa [numT] using hB4, hX4, Bc4, Bf4⟩
          case round =>
            obtain ⟨j, hj, rfl, hB5, hX5, Bc5, Bf5⟩ := hrel
            have hntl : (numT (x.nums.take j)).length ≤ 22000 := by
              have h1 := numT_len (x.nums.take j) (fun v hv => HNI.out v (List.mem_of_mem_take hv))
              rw [List.length_take] at h1
              omega
            have hX3l : (X2 ++ numT (x.nums.take j)).length ≤ 100100000 := by rw [List.length_append]; omega
            by_cases hjl : j < x.nums.length
            · have q3 := (g4.ext hX5).inj.2.2.2
              rw [iV_len] at q3
              obtain ⟨b2, off2, rfl, hc2⟩ := q3 (by omega)
              have e5 := hc2 j _ (iV_get (List.getElem?_eq_getElem hjl))
              have hni := HNI.out x.nums[j] (List.getElem_mem hjl)
              have hnt := numT_take hjl
              obtain ⟨v, hv⟩ : ∃ v, v = x.nums[j] := ⟨_, rfl⟩
              rw [← hv] at e5 hni hnt
              have hil := Lib.itoa_length_le v hni.1 hni.2
              have HNT := Lib.hid hnt
              have HNI2 := Lib.hid hni
              clear hc2 q3 hnt hni hv
              go_wp2_with fail
              refine (Itoa_any v _ HNI2.out (he1.ext hX5)).mono ?_
              rintro e w6 ⟨rfl, hx6⟩
              obtain ⟨ts, hts⟩ : ∃ ts, ts = str (Lib.itoa v) := ⟨_, rfl⟩
              have htl : ts.data.toList = Lib.itoa v := by rw [hts, str_list]
              have htz : ts.size ≤ 21 := by rw [hts, str_size]; exact hil
              have hcs : ((⟨#[32]⟩ : ByteArray) ++ ts).size = ts.size + 1 := cat_size 32 _
              have hcg : ¬ 9223372036854775807 < 1 + ts.size := by omega
              rw [← hts]
              have hB6 := hB5.ext hx6
              have hX6 := hX5.trans hx6
              have Bc6 := Bc5.ext hx6
              have Bf6 := Bf5.ext hx6
              have hwl2 : (X2 ++ numT (x.nums.take j)).length + ((⟨#[32]⟩ : ByteArray) ++ ts).size ≤ 140737488355328 := by omega
              have hsz6 := hX6.size
              have HTL := Lib.hid htl
              clear hts htl hB5 hX5 Bc5 Bf5 hx6 e5 hil
              go_wp2_with fail
              refine (Write_any w1.heap.size w1.heap.size _ _ _ hB6 hwl2 hsz6).mono ?_
              rintro e w7 ⟨⟨nn7, rfl⟩, hB7, hx7, hs7, hk7⟩
              rw [cat_list, HTL.out, List.append_assoc, ← HNT.out] at hB7
              have Bc7 := hk7 bc 40 _ (by omega) (by decide) Bc6
              have Bf7 := hk7 (bc + 1) 64 _ (by omega) (by decide) Bf6
              have hX7 : Ext w1 w7 := Below.trans hX6 hx7
              clear hk7 hx7 hs7 hB6 hX6 Bc6 Bf6 HTL HNT
              go_wp2_with fail
              go_roundw
              case rel => exact ⟨j + 1, by omega, by go_num, hB7, hX7, Bc7, Bf7⟩
              case measure => simp [intOf]; omega
            · obtain rfl : j = x.nums.length := by omega
              rw [List.take_length] at hB5 hX3l hntl
              obtain ⟨X3, hX3⟩ : ∃ Z, Z = X2 ++ numT x.nums := ⟨_, rfl⟩
              rw [← hX3] at hB5 hX3l
              have HFT3 : Hid (formatL (l.take (k + 1)) = X3 ++ ((if vT then 32 :: Lib.itoa (nl x.text : Int) else []) ++ 10 :: x.text)) := Lib.hid (by rw [HFT2.out, hX3]; simp)
              clear hX3 HFT2 hB4 hX4 Bc4 Bf4 z2 hntl
              have y4 := Bf5.c4
              have z3 := Bc5.c3
              have hsz5 := hX5.size
              go_upto_if 46 with (fail)
              rename_i hK2
              go_cut [] (fun wx => ∃ X4 : BL, IsB w1.heap.size w1.heap.size X4 wx ∧ X4.length ≤ 100101000 ∧ Hid (formatL (l.take (k + 1)) = X4 ++ 10 :: x.text) ∧ Ext w1 wx ∧
                Box wx bc 40 #[.int .u8 ((i : Int) + 1), .string (str x.name), .slice A' x.nums.length c', .string (str x.text)])
              case first => as_aux_lemma =>
                cases vT with
                | false =>
                  go_wp2_with fail
                  go_meet
                  exact ⟨X3, hB5, by omega, Lib.hid (by rw [HFT3.out]; rfl), hX5, Bc5⟩
                | true =>
                  have hnl := nl_le x.text
                  obtain ⟨N, hN⟩ : ∃ N, N = nl x.text := ⟨_, rfl⟩
                  rw [← hN] at hnl HFT3
                  have HNN := Lib.hid hN
                  clear hN
                  go_wp2_with fail
                  refine (Tryd.strings_Count_one (str x.text) 10 _).mono ?_
                  rintro e w6 ⟨rfl, rfl⟩
                  rw [count_nl, str_list, ← HNN.out]
                  go_wp2_with fail
                  refine (Itoa_any (N : Int) _ ⟨by omega, by omega⟩ (he1.ext hX5)).mono ?_
                  rintro e w7 ⟨rfl, hx7⟩
                  have hil := Lib.itoa_length_le (N : Int) (by omega) (by omega)
                  obtain ⟨ts, hts⟩ : ∃ ts, ts = str (Lib.itoa (N : Int)) := ⟨_, rfl⟩
                  have htl : ts.data.toList = Lib.itoa (N : Int) := by rw [hts, str_list]
                  have htz : ts.size ≤ 21 := by rw [hts, str_size]; exact hil
                  have hcs : ((⟨#[32]⟩ : ByteArray) ++ ts).size = ts.size + 1 := cat_size 32 _
                  have hcg : ¬ 9223372036854775807 < 1 + ts.size := by omega
                  rw [← hts]
                  have hB7 := hB5.ext hx7
                  have hX7 := hX5.trans hx7
                  have Bc7 := Bc5.ext hx7
                  have hwl2 : X3.length + ((⟨#[32]⟩ : ByteArray) ++ ts).size ≤ 140737488355328 := by omega
                  have hsz7 := hX7.size
                  have HTL := Lib.hid htl
                  clear hts htl hil
                  go_wp2_with fail
                  refine (Write_any w1.heap.size w1.heap.size _ _ _ hB7 hwl2 hsz7).mono ?_
                  rintro e w8 ⟨⟨nn8, rfl⟩, hB8, hx8, hs8, hk8⟩
                  rw [cat_list, HTL.out] at hB8
                  have Bc8 := hk8 bc 40 _ (by omega) (by decide) Bc7
                  have hX8 : Ext w1 w8 := Below.trans hX7 hx8
                  have hlen8 : (X3 ++ 32 :: Lib.itoa (N : Int)).length ≤ 100101000 := by
                    have := Lib.size_eq ts
                    rw [HTL.out] at this
                    rw [List.length_append, List.length_cons]; omega
                  have HFT4 : Hid (formatL (l.take (k + 1)) = (X3 ++ 32 :: Lib.itoa (N : Int)) ++ 10 :: x.text) := Lib.hid (by rw [HFT3.out]; simp)
                  clear hk8 hx8 hs8 HTL HFT3
                  go_wp2_with fail
                  go_meet
                  exact ⟨_, hB8, hlen8, HFT4, hX8, Bc8⟩
              case rest => as_aux_lemma =>
                obtain ⟨X4, hB6, hX4l, HFT4, hX6, Bc6⟩ := hcut
                refine hK2 _ _ ?_
                clear hK2 HFT3 hB5 hX5 Bc5 Bf5 y4 z3 hsz5
                have z3 := Bc6.c3
                have hcs : ((⟨#[10]⟩ : ByteArray) ++ str x.text).size = x.text.length + 1 := cat_size 10 _
                have hcg : ¬ 9223372036854775807 < 1 + x.text.length := by omega
                have hss : (str x.text).size = x.text.length := rfl
                have hwl3 : X4.length + ((⟨#[10]⟩ : ByteArray) ++ str x.text).size ≤ 140737488355328 := by omega
                have hsz6 := hX6.size
                go_wp2_with fail
                refine (Write_any w1.heap.size w1.heap.size _ _ _ hB6 hwl3 hsz6).mono ?_
                rintro e w7 ⟨⟨nn7, rfl⟩, hB7, hx7, hs7, hk7⟩
                rw [cat_list, str_list, ← HFT4.out] at hB7
                have hX7 : Ext w1 w7 := Below.trans hX6 hx7
                clear hk7 hx7 hs7
                go_wp2_with fail
                go_roundw
                case rel => exact ⟨k + 1, by omega, by go_num, hB7, hX7⟩
                case measure => simp [intOf]; omega
      · obtain rfl : k = l.length := by omega
        rw [List.take_length] at hB
        have hsz := hX.size
        obtain ⟨S, hS⟩ : ∃ S, S = formatL l := ⟨_, rfl⟩
        rw [← hS] at hB
        have HS := Lib.hid hS
        clear hS
        go_wp2_with fail
        refine (Tryd.Builder_String_any _ _ S _ hB hsz).mono ?_
        rintro e w9 ⟨rfl, hx9⟩
        have hX9 : Ext w1 w9 := Below.trans hX hx9
        go_wp2_with fail
        go_ret2
        exact ⟨⟨S, 0, rfl, fun _ => ⟨HS.out, rfl⟩, fun h => (by rw [← HV.out] at h; cases h)⟩, hx1.trans hX9⟩
end Go.Proofs.YtnbmmgeoglfbdaaDoor.Sc

/- Walk: the law ScriptTexts. -/
import Derived.Test.YtnbmmgeoglfbdaaDoorSRNum
import Derived.Test.YtnbmmgeoglfbdaaDoorSR11b
import Derived.Lib.SplitLaws
import Derived.Deep.RegionHeld3
set_option linter.unusedVariables false
set_option linter.unusedSimpArgs false
namespace Go.Proofs.YtnbmmgeoglfbdaaDoor.Sc
open Go.RowKit Go.Proofs.YtnbmmgeoglfbdaaDoor.Big
open Go.Lib (itoa decDigits)

/-- SplitN at a line feed, two parts: the first one -/
def Split2Post (w : World) (a : BL) (e : Ending) (w' : World) : Prop := (∃ b n c, e = .returned (.slice (some ⟨b, 0, none⟩) n c) ∧ 1 ≤ n ∧ n ≤ c ∧ w'.cell? ⟨b, 0, none⟩ = some (.string (str a))) ∧ Ext w w'
theorem SplitN_any (s sep : ByteArray) (hsep : sep = ⟨#[10]⟩) (k : Int) (hk : k = 2) (a b : BL) (w : World) (h : cutB 10 s.data.toList = some (a, b)) (hs : s.size < 4294967281) (he : Env w) : Calls Tryd.prog 17 #[.string s, .string sep, .int .i64 k] w (Split2Post w a) := by
  subst hsep hk
  obtain ⟨m, hm⟩ := he.mx
  refine (Tryd.strings_SplitN s ⟨#[10]⟩ 2 m w hs hm (by decide) (by omega) (by omega)).mono ?_
  rintro e w' ⟨rfl, rfl⟩
  have hsz : s.size = a.length + 1 + b.length := by
    rw [Lib.size_eq, (cutB_spec h).1]; simp; omega
  have hmin : min 2 (s.size + 1) = 2 := by omega
  have h1 := Lib.splitB_data ⟨#[10]⟩ 0 1 s
  have h2 : Lib.splitK (⟨#[10]⟩ : ByteArray).data.toList 0 1 s.data.toList = [a, b] := by
    have hi := index_cut 10 s.data.toList
    rw [h] at hi
    obtain ⟨he', ha⟩ := cutB_spec h
    have e0 : (⟨#[10]⟩ : ByteArray).data.toList = [10] := rfl
    rw [e0]
    unfold Lib.splitK
    rw [hi, if_neg (by simp <;> omega)]
    simp only [Int.toNat_natCast, Nat.add_zero]
    rw [he', List.take_left, show a ++ 10 :: b = (a ++ [10]) ++ b by simp, show a.length + [(10 : UInt8)].length = (a ++ [10]).length by simp, List.drop_left]
    rfl
  rw [h2] at h1
  obtain ⟨x, y, hxy, hx, hy⟩ : ∃ x y, Lib.splitB ⟨#[10]⟩ 0 1 s = [x, y] ∧ x.data.toList = a ∧ y.data.toList = b := by
    generalize Lib.splitB ⟨#[10]⟩ 0 1 s = L at h1
    match L, h1 with
    | [x, y], h1 => simp at h1; exact ⟨x, y, rfl, h1.1, h1.2⟩
  have hmm : min 2 (s.size + 1) - 1 = 1 := by omega
  rw [hmm, hxy, hmin]
  refine ⟨⟨_, _, _, rfl, by simp, by simp, ?_⟩, (Ext.refl w).alloc _⟩
  rw [World.cell?_alloc_new]
  have : x = str a := by rw [← hx, str_of]
  subst this
  rfl
theorem owns_one (w : World) (t : BL) : (w.alloc (.cells #[.int .u8 1, .string ⟨#[]⟩, .slice none 0 0, .string (str t)] 40)).ownsRow w.heap.size 40 4 (.slice (some ⟨w.heap.size, 0, none⟩) 1 1) 1 (flat [(⟨1, [], [], t⟩, .slice none 0 0)]) :=
  ⟨rfl, .inr ⟨w.heap.size, 1, _, rfl, Nat.le_refl _, heap_alloc_new w _, Nat.le_refl _, by decide, rfl, rfl⟩⟩
theorem head_valid {t : BL} (ht : t.length ≤ 1500) : validC ⟨1, [], [], t⟩ = (t.isEmpty || t.getLast? == some 10) := by
  unfold validC textOk
  simp [fN, fT, least, most]
  intro _; omega
theorem texts_valid {t : BL} {l : List Cmd} (ht : t.length ≤ 1500) (hl : l.length ≤ 40) (hv : validL l = true) : validL (⟨1, [], [], t⟩ :: l) = (t.isEmpty || t.getLast? == some 10) := by
  have h1 := (validL_iff.1 hv).2
  unfold validL
  rw [decide_eq_true (by simp; omega), Bool.true_and, List.all_cons, head_valid ht, List.all_eq_true.2 h1, Bool.and_true]
theorem line_one (t : BL) : lineC ⟨1, [], [], t⟩ = [115, 111, 117, 114, 99, 101] ++ 32 :: itoa (nl t) := by
  unfold lineC numT
  simp [fN, fT, word, words]
theorem first_line {t : BL} {l : List Cmd} (hv : validC ⟨1, [], [], t⟩ = true) : ∃ r, cutB 10 (formatL (⟨1, [], [], t⟩ :: l)) = some (lineC ⟨1, [], [], t⟩, r) := by
  rw [formatL_cons]
  unfold formatC
  refine ⟨t ++ formatL l, ?_⟩
  rw [List.append_assoc, List.cons_append]
  exact cutB_some (lineC_no hv)
theorem suffix_app (a b : BL) : Lib.hasSuffix (a ++ b) b = true := by
  unfold Lib.hasSuffix
  exact List.isSuffixOf_iff_suffix.2 ⟨a, rfl⟩
set_option maxHeartbeats 8000000 in
set_option maxRecDepth 100000 in
theorem texts_any (s : ByteArray) (A : Option Addr) (n c : Nat) (l : List Cmd) (w : World) (h : CmdsV w (.slice A n c) l) (hm : Mild l) (hi : AllIn l) (hn : A = none → n = 0 ∧ c = 0) (hs63 : s.size ≤ 9223372036854775807) (he : Env w) (hf : FormatsOK w) :
    Calls Tryd.prog 5 #[.string s, .slice A n c] w (BoolPost w true) := by
  obtain ⟨t, rfl⟩ : ∃ t : BL, s = str t := ⟨s.data.toList, (str_of s).symm⟩
  have hst : (str t).size = t.length := rfl
  rw [hst] at hs63
  by_cases hbig : 1500 < t.length
  · go_enter Tryd.func5, Tryd.ntmps5
    go_wp2_with fail
    refine (awake_any _ he hf).mono ?_
    rintro e w1 ⟨rfl, hx1⟩
    go_wp2_with fail
    refine (awake_any _ (he.ext hx1) (hf.ext hx1)).mono ?_
    rintro e w9 ⟨rfl, hx9⟩
    go_wp2_with fail
    go_ret
    exact ⟨rfl, (hx1).trans hx9⟩
  · obtain ⟨sa, hsa⟩ : ∃ x, x = smallB l := ⟨_, rfl⟩
    have HSA := Lib.hid hsa
    obtain ⟨va, hva⟩ : ∃ x, x = validL l := ⟨_, rfl⟩
    have HVA := Lib.hid hva
    clear hsa hva
    cases sa with
    | false =>
      go_enter Tryd.func5, Tryd.ntmps5
      go_wp2_with fail
      refine (awake_any _ he hf).mono ?_
      rintro e w1 ⟨rfl, hx1⟩
      go_wp2_with fail
      refine (small_any A n c l _ (h.ext hx1) hm).mono ?_
      rintro e w2 ⟨rfl, hx2⟩
      rw [← HSA.out]
      go_wp2_with fail
      refine (awake_any _ (he.ext (hx1.trans hx2)) (hf.ext (hx1.trans hx2))).mono ?_
      rintro e w9 ⟨rfl, hx9⟩
      go_wp2_with fail
      go_ret
      exact ⟨rfl, ((hx1.trans hx2)).trans hx9⟩
    | true =>
      have hl40 : l.length ≤ 40 := by
        have := HSA.out
        unfold smallB at this
        simp at this; exact this.1
      have hn0 := h.inj.1
      subst hn0
      cases va with
      | false =>
        go_enter Tryd.func5, Tryd.ntmps5
        go_wp2_with fail
        refine (awake_any _ he hf).mono ?_
        rintro e w1 ⟨rfl, hx1⟩
        go_wp2_with fail
        refine (small_any A l.length c l _ (h.ext hx1) hm).mono ?_
        rintro e w2 ⟨rfl, hx2⟩
        rw [← HSA.out]
        have hX2 := hx1.trans hx2
        go_wp2_with fail
        refine (Valid_any A l.length c l _ (h.ext hX2) hm.kinds (he.ext hX2).sg (hf.ext hX2)).mono ?_
        rintro e w3 ⟨rfl, hx3⟩
        rw [← HVA.out]
        go_wp2_with fail
        refine (awake_any _ (he.ext (hX2.trans hx3)) (hf.ext (hX2.trans hx3))).mono ?_
        rintro e w9 ⟨rfl, hx9⟩
        go_wp2_with fail
        go_ret
        exact ⟨rfl, ((hX2.trans hx3)).trans hx9⟩
      | true =>
        go_enter Tryd.func5, Tryd.ntmps5
        go_wp2_with fail
        refine (awake_any _ he hf).mono ?_
        rintro e w1 ⟨rfl, hx1⟩
        go_wp2_with fail
        refine (small_any A l.length c l _ (h.ext hx1) hm).mono ?_
        rintro e w2 ⟨rfl, hx2⟩
        rw [← HSA.out]
        have hX2 := hx1.trans hx2
        go_wp2_with fail
        refine (Valid_any A l.length c l _ (h.ext hX2) hm.kinds (he.ext hX2).sg (hf.ext hX2)).mono ?_
        rintro e w3 ⟨rfl, hx3⟩
        rw [← HVA.out]
        have hX3 := hX2.trans hx3
        have h3 := h.ext hX3
        clear h hx1 hx2 hX2 hx3
        obtain ⟨i0, hi0, hz0, hz1, hz2⟩ := info_parts infoCmd
        have own0 := owns_one w3 t
        have hE0 : Ext w3 (w3.alloc (.cells #[.int .u8 1, .string ⟨#[]⟩, .slice none 0 0, .string (str t)] 40)) := (Ext.refl w3).alloc _
        have hvv := texts_valid (by omega) hl40 HVA.out.symm (t := t)
        have hal : AllIn (⟨1, [], [], t⟩ :: l) := fun x hx => by
          simp only [List.mem_cons] at hx
          rcases hx with rfl | hx
          · exact fun v hv => by cases hv
          · exact hi x hx
        have hml : Mild (⟨1, [], [], t⟩ :: l) := fun x hx => by
          simp only [List.mem_cons] at hx
          rcases hx with rfl | hx
          · exact ⟨by show (1 : Nat) ≤ 255; omega, by show (0 : Nat) ≤ _; omega, by show (0 : Nat) ≤ _; omega, by show t.length ≤ _; omega⟩
          · exact hm x hx
        have HMI := Lib.hid (And.intro hml hal)
        have hlen : (⟨1, [], [], t⟩ :: l : List Cmd).length ≤ 1000 := by rw [List.length_cons]; omega
        obtain ⟨S, hS⟩ : ∃ S, S = str t := ⟨_, rfl⟩
        rw [← hS]
        rw [← hS] at own0 hE0 hst
        have HS := Lib.hid hS
        clear hS
        go_upto_region 3 with fail
        go_cut [5] (fun v wx => ∃ A9 n9 c9, v = .slice A9 n9 c9 ∧ CmdsV wx (.slice A9 n9 c9) (⟨1, [], [], t⟩ :: l) ∧ Ext w3 wx)
        case first =>
          clear hml hal HMI hvv
          cases A with
          | none =>
            obtain ⟨hl0, rfl⟩ := hn rfl
            have hlnil : l = [] := List.eq_nil_of_length_eq_zero hl0
            subst hlnil
            go_wp2_with (at_builtin; refine wpList_append_own_none rfl (.tmp 31) (.tmp 32) 23 rfl w3.heap.size 40 i0 4 Tryd.underlying23 hi0 _ _ _ rfl own0 rfl ?_)
            have hv9 := view2 (acca := [(⟨1, [], [], t⟩, .slice none 0 0)]) (accb := []) (a := [⟨1, [], [], t⟩]) (b := []) own0 rfl (List.append_nil _).symm rfl rfl (fun p hp => by simp at hp; subst hp; exact Row.nil _ none 0 (by omega)) (fun p hp => by cases hp) hE0
            have hv9 : CmdsV _ _ (⟨1, [], [], t⟩ :: []) := hv9
            go_meet
            exact ⟨_, _, _, rfl, hv9, hE0⟩
          | some ad =>
            obtain ⟨acc, hma, hra, hcA⟩ := h3.flatS
            have hla4 : (flat acc).length = l.length * 4 := by rw [flat_len, ← hma, List.length_map]
            go_wp2_with (at_builtin; refine wpList_append_own _ rfl (.tmp 31) (.tmp 32) 23 rfl w3.heap.size 40 i0 (.agg #[.int .u8 0, .string ⟨#[]⟩, .slice none 0 0, .string ⟨#[]⟩]) 4 64 Tryd.underlying23 hi0 hz0 hz1 hz2 rfl (by decide) _ _ _ rfl own0 ad l.length c (flat acc) rfl hla4 (fun j u hj => hE0.cell (hcA j u hj)) (rows_one hra) (by unfold maxLen; omega) (by omega) (Ext.size hE0) ?_; intro v2 W2 own2 grow2 _)
            have hE2 : Ext w3 W2 := Below.grown hE0 grow2 (Ext.size hE0) (fun k hk => (own0.lt k hk).1)
            have hv9 := view2 (acca := [(⟨1, [], [], t⟩, .slice none 0 0)]) (accb := acc) (a := [⟨1, [], [], t⟩]) (b := l) own2 (by simp) rfl rfl hma (fun p hp => by simp at hp; subst hp; exact Row.nil _ none 0 (by omega)) hra hE2
            have hv9 : CmdsV _ _ (⟨1, [], [], t⟩ :: l) := hv9
            obtain ⟨A9, c9, hsh⟩ := hv9.shape
            rw [List.length_cons] at hsh
            subst hsh
            go_meet
            exact ⟨_, _, _, rfl, hv9, hE2⟩
        case rest =>
          obtain ⟨A9, n9, c9, rfl, hv9, hx9⟩ := hcut
          rename_i hK
          refine hK _ _ ?_
          clear hK own0 hE0 h3
          have hX9 := hX3.trans hx9
          obtain ⟨en, hen⟩ : ∃ b, b = (S.toList == []) := ⟨_, rfl⟩
          have htn : en = t.isEmpty := by rw [hen, HS.out, Lib.toList_data, str_list]; cases t <;> rfl
          by_cases hV : (t.isEmpty || t.getLast? == some 10) = true
          · have HG := Lib.hid (good_of (hvv.trans hV) hal)
            obtain ⟨F, hF⟩ : ∃ F, F = formatL (⟨1, [], [], t⟩ :: l) := ⟨_, rfl⟩
            have HF := Lib.hid hF
            have HSF : Hid (t ≠ [] → (t.getLast? == some 10) = true) := Lib.hid (fun h0 => by
              rw [Bool.or_eq_true] at hV
              rcases hV with hV | hV
              · exact absurd (List.isEmpty_iff.1 hV) h0
              · exact hV)
            have HEN := Lib.hid hen
            have HTN := Lib.hid htn
            clear hF hV hvv hal hml hm hi hen htn HMI
            go_wp2_with fail
            refine (Format_ok _ _ _ (⟨1, [], [], t⟩ :: l) _ hv9 HG.out hlen (he.ext hX9) (hf.ext hX9)).mono ?_
            rintro e w10 ⟨rfl, hx10⟩
            have hX10 := hX9.trans hx10
            rw [← HF.out]
            have hFl : F.length ≤ 100000000 := by rw [HF.out]; exact formatL_size HG.out hlen
            go_upto_region 5 with fail
            go_cut [45] (fun v wx => v = .bool false ∧ Ext w10 wx)
            case first =>
              have HSX : Hid (t ≠ [] → Lib.hasSuffix S.data.toList (⟨#[10]⟩ : ByteArray).data.toList = true) := Lib.hid (fun h0 => by rw [HS.out, str_list, show (⟨#[10]⟩ : ByteArray).data.toList = [10] from rfl, suffix_one, HSF.out h0])
              clear hv9
              cases en with
              | true =>
                have e1 : (S.toList == []) = true := HEN.out.symm
                have e2 : S.toList = [] := by simpa using e1
                clear e1
                go_wp2_with fail
                go_meet
                exact ⟨rfl, Ext.refl _⟩
              | false =>
                have e1 : (S.toList == []) = false := HEN.out.symm
                have e2 : S.toList ≠ [] := by simpa using e1
                have h0 : t ≠ [] := fun e => by rw [e] at HTN; exact absurd HTN.out (by decide)
                have HS2 := Lib.hid (HSX.out h0)
                clear h0
                go_wp2_with fail
                refine (Tryd.strings_HasSuffix S ⟨#[10]⟩ _ (by omega)).mono ?_
                rintro e w11 ⟨rfl, rfl⟩
                rw [HS2.out]
                go_wp2_with fail
                go_meet
                exact ⟨rfl, Ext.refl _⟩
            case rest =>
              obtain ⟨rfl, hx11⟩ := hcut
              rename_i hK
              refine hK _ _ ?_
              clear hK HEN HTN HSF
              have hX11 := hX10.trans hx11
              have hn9 := hv9.inj.1
              rw [List.length_cons] at hn9
              subst hn9
              clear hx9 hX9 hX10 hv9 hx10 hx11 hX3
              go_wp2_with fail
              refine (Parse_fmt _ (⟨1, [], [], t⟩ :: l) _ (by rw [HF.out]) HG.out hlen (he.ext hX11) (hf.ext hX11)).mono ?_
              rintro e w12 ⟨⟨A11, n11, c11, rfl, hv11⟩, hx12⟩
              have hX12 := hX11.trans hx12
              obtain ⟨b1, off1, A1, n1, c1, rfl, p0, p1, p2, p3, p4⟩ := hv11.at_ (k := 0) (by simp)
              have hk11 := hv11.inj.1
              have hcap11 := hv11.inj.2.1
              rw [List.length_cons] at hk11 hcap11
              subst hk11
              have p3 : w12.cell? ⟨b1, off1 + 3, none⟩ = some (.string S) := by rw [HS.out]; exact p3
              have q3 : ∀ w', Later w12 w' → w'.cell? ⟨b1, off1 + 3, none⟩ = some (.string S) := fun w' h => Later.cell h p3
              have ks := Later.refl w12
              obtain ⟨r, hr⟩ := first_line (t := t) (l := l) (HG.out _ (by simp)).1
              have HCUT : Hid (cutB 10 (str F).data.toList = some (lineC ⟨1, [], [], t⟩, r)) := Lib.hid (by rw [str_list, HF.out]; exact hr)
              have hnl : nl t ≤ 1500 := by have := nl_le t; omega
              clear p0 p1 p2 p3 p4 hv11 hr
              obtain ⟨LN, hLN⟩ : ∃ LN, LN = lineC ⟨1, [], [], t⟩ := ⟨_, rfl⟩
              rw [← hLN] at HCUT
              obtain ⟨NL, hNL⟩ : ∃ NL, NL = nl t := ⟨_, rfl⟩
              have HNL := Lib.hid hNL
              have hnl2 : NL ≤ 1500 := by omega
              obtain ⟨NT, hNT⟩ : ∃ NT, NT = itoa (NL : Int) := ⟨_, rfl⟩
              have HSU : Hid (Lib.hasSuffix LN (32 :: NT) = true) := Lib.hid (by rw [hLN, hNT, hNL, line_one]; exact suffix_app _ _)
              have HNT := Lib.hid hNT
              have hNTl : NT.length ≤ 21 := by rw [hNT]; exact Lib.itoa_length_le _ (by omega) (by omega)
              have hLNl : LN.length ≤ 100000000 := by
                have h1 := HCUT.out
                rw [str_list] at h1
                have h2 := congrArg List.length (cutB_spec h1).1
                simp at h2; omega
              have hsN : ¬ 9223372036854775807 < 1 + NT.length := by omega
              have hssN : (str NT).size = NT.length := rfl
              have hFs : (str F).size = F.length := rfl
              have HE : Hid (∀ w', Ext w12 w' → Env w') := Lib.hid fun w' h => he.ext (hX12.trans h)
              obtain ⟨M, hM⟩ : ∃ M, M = l.length + 1 := ⟨_, rfl⟩
              rw [← hM] at hcap11 ⊢
              have hM0 : (0 : Int) < (M : Int) := by omega
              clear hLN hNT hNL hx12 hnl hM he hf hlen HF HG hX11
              go_upto_region 8 with fail
              have hin : inI (NL : Int) := ⟨by omega, by omega⟩
              have HIN := Lib.hid hin
              have hnS : Lib.countByte S.data.toList 10 = NL := by rw [count_nl, HS.out, str_list, HNL.out]
              have HNS := Lib.hid hnS
              have e9 : (S.toList == S.toList) = true := by simp
              have e10 : ((M : Int) == (M : Int)) = true := by simp
              clear hin hnS
              have HFB : Hid ((str F).size < 4294967281) := Lib.hid (by rw [hFs]; omega)
              have hM1 : 0 < M := by omega
              have hM2 : ¬ (M : Int) ≤ 0 := by omega
              have HSU2 : Hid (Lib.hasSuffix (str LN).data.toList ((⟨#[32]⟩ : ByteArray) ++ str NT).data.toList = true) := Lib.hid (by
                rw [show ((⟨#[32]⟩ : ByteArray) ++ str NT) = str (32 :: NT) from cat_one 32 NT, str_list, str_list]; exact HSU.out)
              have HLB : Hid ((str LN).size ≤ 9223372036854775807) := Lib.hid (by rw [show (str LN).size = LN.length from rfl]; omega)
              refine wp_region_held_drew (S := fun w' => Later w12 w') (by kernel_rfl) ?_ (fun hHeld => ?_)
              · (try dsimp only); (repeat (first | (with_reducible assumption) | (with_reducible apply Later.drew) | (with_reducible apply Later.drewN) | (with_reducible apply Later.alloc) | (with_reducible refine Later.step ?_ (by with_reducible assumption))))
              refine wpAnyH_take (i := 0) (oi := { dst := some 58, op := Op.move (Operand.tmp 7), type := 24, pos := "law.go:199", after := #[], guard := none }) (v := ?_) rfl (by kernel_rfl) (by kernel_rfl) (by kernel_rfl) (fun _ _ _ h => h) (Or.inl ⟨by rfl, ?_⟩) (by assumption) ?_
              rotate_left
              · intro w hSw; (try dsimp only at hSw); go_simp; try (with_reducible rfl)
              try simp only [Act.put, List.setIfInBounds_toArray, List.set_cons_zero, List.set_cons_succ]
              refine wpAnyH_take (i := 1) (oi := { dst := some 59, op := Op.binOp BinOp.eql 24 (Operand.tmp 58) (Operand.const (Value.int IntKind.i64 0)) 24, type := 4, pos := "law.go:199", after := #[{ on := 0, ground := Ground.data }], guard := none }) (v := ?_) rfl (by kernel_rfl) (by kernel_rfl) (by kernel_rfl) (fun _ _ _ h => h) (Or.inl ⟨by rfl, ?_⟩) (by assumption) ?_
              rotate_left
              · intro w hSw; (try dsimp only at hSw); go_simp; try (with_reducible rfl)
              try simp only [Act.put, List.setIfInBounds_toArray, List.set_cons_zero, List.set_cons_succ]
              refine wpAnyH_take (i := 2) (oi := { dst := some 60, op := Op.move (Operand.tmp 59), type := 4, pos := "law.go:199", after := #[{ on := 1, ground := Ground.data }], guard := none }) (v := ?_) rfl (by kernel_rfl) (by kernel_rfl) (by kernel_rfl) (fun _ _ _ h => h) (Or.inl ⟨by rfl, ?_⟩) (by assumption) ?_
              rotate_left
              · intro w hSw; (try dsimp only at hSw); go_simp; try (with_reducible rfl)
              try simp only [Act.put, List.setIfInBounds_toArray, List.set_cons_zero, List.set_cons_succ]
              refine wpAnyH_take (i := 3) (oi := { dst := some 61, op := Op.move (Operand.tmp 10), type := 24, pos := "law.go:199", after := #[{ on := 2, ground := Ground.guard }], guard := some (2, true) }) (v := ?_) rfl (by kernel_rfl) (by kernel_rfl) (by kernel_rfl) (fun _ _ _ h => h) (Or.inl ⟨by rfl, ?_⟩) (by assumption) ?_
              rotate_left
              · intro w hSw; (try dsimp only at hSw); go_simp; try (with_reducible rfl)
              try simp only [Act.put, List.setIfInBounds_toArray, List.set_cons_zero, List.set_cons_succ]
              refine wpAnyH_take (i := 4) (oi := { dst := some 62, op := Op.binOp BinOp.eql 24 (Operand.tmp 61) (Operand.const (Value.int IntKind.i64 0)) 24, type := 4, pos := "law.go:199", after := #[{ on := 3, ground := Ground.data }, { on := 2, ground := Ground.guard }], guard := some (2, true) }) (v := ?_) rfl (by kernel_rfl) (by kernel_rfl) (by kernel_rfl) (fun _ _ _ h => h) (Or.inl ⟨by rfl, ?_⟩) (by assumption) ?_
              rotate_left
              · intro w hSw; (try dsimp only at hSw); go_simp; try (with_reducible rfl)
              try simp only [Act.put, List.setIfInBounds_toArray, List.set_cons_zero, List.set_cons_succ]
              refine wpAnyH_take (i := 5) (oi := { dst := some 63, op := Op.pick (Operand.tmp 60) (Operand.tmp 62) (Operand.const (Value.bool false)), type := 4, pos := "law.go:199", after := #[{ on := 2, ground := Ground.data }, { on := 4, ground := Ground.data }], guard := none }) (v := ?_) rfl (by kernel_rfl) (by kernel_rfl) (by kernel_rfl) (fun _ _ _ h => h) (Or.inl ⟨by rfl, ?_⟩) (by assumption) ?_
              rotate_left
              · intro w hSw; (try dsimp only at hSw); go_simp; try (with_reducible rfl)
              try simp only [Act.put, List.setIfInBounds_toArray, List.set_cons_zero, List.set_cons_succ]
              refine wpAnyH_take (i := 6) (oi := { dst := some 64, op := Op.move (Operand.tmp 63), type := 4, pos := "law.go:199", after := #[{ on := 5, ground := Ground.data }, { on := 2, ground := Ground.chain }], guard := none }) (v := ?_) rfl (by kernel_rfl) (by kernel_rfl) (by kernel_rfl) (fun _ _ _ h => h) (Or.inl ⟨by rfl, ?_⟩) (by assumption) ?_
              rotate_left
              · intro w hSw; (try dsimp only at hSw); go_simp; try (with_reducible rfl)
              try simp only [Act.put, List.setIfInBounds_toArray, List.set_cons_zero, List.set_cons_succ]
              refine wpAnyH_take (i := 7) (oi := { dst := some 65, op := Op.move (Operand.tmp 8), type := 23, pos := "law.go:199", after := #[{ on := 6, ground := Ground.guard }], guard := some (6, true) }) (v := ?_) rfl (by kernel_rfl) (by kernel_rfl) (by kernel_rfl) (fun _ _ _ h => h) (Or.inl ⟨by rfl, ?_⟩) (by assumption) ?_
              rotate_left
              · intro w hSw; (try dsimp only at hSw); go_simp; try (with_reducible rfl)
              try simp only [Act.put, List.setIfInBounds_toArray, List.set_cons_zero, List.set_cons_succ]
              refine wpAnyH_take (i := 8) (oi := { dst := some 66, op := Op.call { callee := Callee.builtin Builtin.len, args := #[Operand.tmp 65], argTypes := #[23] }, type := 3, pos := "law.go:199", after := #[{ on := 7, ground := Ground.data }, { on := 6, ground := Ground.guard }], guard := some (6, true) }) (v := ?_) rfl (by kernel_rfl) (by kernel_rfl) (by kernel_rfl) (fun _ _ _ h => h) (Or.inl ⟨by rfl, ?_⟩) (by assumption) ?_
              rotate_left
              · intro w hSw; (try dsimp only at hSw); go_simp; try (with_reducible rfl)
              try simp only [Act.put, List.setIfInBounds_toArray, List.set_cons_zero, List.set_cons_succ]
              refine wpAnyH_take (i := 9) (oi := { dst := some 67, op := Op.move (Operand.tmp 5), type := 23, pos := "law.go:199", after := #[{ on := 6, ground := Ground.guard }], guard := some (6, true) }) (v := ?_) rfl (by kernel_rfl) (by kernel_rfl) (by kernel_rfl) (fun _ _ _ h => h) (Or.inl ⟨by rfl, ?_⟩) (by assumption) ?_
              rotate_left
              · intro w hSw; (try dsimp only at hSw); go_simp; try (with_reducible rfl)
              try simp only [Act.put, List.setIfInBounds_toArray, List.set_cons_zero, List.set_cons_succ]
              refine wpAnyH_take (i := 10) (oi := { dst := some 68, op := Op.call { callee := Callee.builtin Builtin.len, args := #[Operand.tmp 67], argTypes := #[23] }, type := 3, pos := "law.go:199", after := #[{ on := 9, ground := Ground.data }, { on := 6, ground := Ground.guard }], guard := some (6, true) }) (v := ?_) rfl (by kernel_rfl) (by kernel_rfl) (by kernel_rfl) (fun _ _ _ h => h) (Or.inl ⟨by rfl, ?_⟩) (by assumption) ?_
              rotate_left
              · intro w hSw; (try dsimp only at hSw); go_simp; try (with_reducible rfl)
              try simp only [Act.put, List.setIfInBounds_toArray, List.set_cons_zero, List.set_cons_succ]
              refine wpAnyH_take (i := 11) (oi := { dst := some 69, op := Op.binOp BinOp.eql 3 (Operand.tmp 66) (Operand.tmp 68) 3, type := 4, pos := "law.go:199", after := #[{ on := 8, ground := Ground.data }, { on := 10, ground := Ground.data }, { on := 6, ground := Ground.guard }], guard := some (6, true) }) (v := ?_) rfl (by kernel_rfl) (by kernel_rfl) (by kernel_rfl) (fun _ _ _ h => h) (Or.inl ⟨by rfl, ?_⟩) (by assumption) ?_
              rotate_left
              · intro w hSw; (try dsimp only at hSw); go_simp; try (with_reducible rfl)
              try simp only [Act.put, List.setIfInBounds_toArray, List.set_cons_zero, List.set_cons_succ]
              refine wpAnyH_take (i := 12) (oi := { dst := some 70, op := Op.pick (Operand.tmp 64) (Operand.tmp 69) (Operand.const (Value.bool false)), type := 4, pos := "law.go:199", after := #[{ on := 6, ground := Ground.data }, { on := 11, ground := Ground.data }], guard := none }) (v := ?_) rfl (by kernel_rfl) (by kernel_rfl) (by kernel_rfl) (fun _ _ _ h => h) (Or.inl ⟨by rfl, ?_⟩) (by assumption) ?_
              rotate_left
              · intro w hSw; (try dsimp only at hSw); go_simp; try (with_reducible rfl)
              try simp only [Act.put, List.setIfInBounds_toArray, List.set_cons_zero, List.set_cons_succ]
              refine wpAnyH_take (i := 13) (oi := { dst := some 71, op := Op.move (Operand.tmp 70), type := 4, pos := "law.go:199", after := #[{ on := 12, ground := Ground.data }, { on := 6, ground := Ground.chain }], guard := none }) (v := ?_) rfl (by kernel_rfl) (by kernel_rfl) (by kernel_rfl) (fun _ _ _ h => h) (Or.inl ⟨by rfl, ?_⟩) (by assumption) ?_
              rotate_left
              · intro w hSw; (try dsimp only at hSw); go_simp; try (with_reducible rfl)
              try simp only [Act.put, List.setIfInBounds_toArray, List.set_cons_zero, List.set_cons_succ]
              refine wpAnyH_take (i := 14) (oi := { dst := some 72, op := Op.move (Operand.tmp 8), type := 23, pos := "law.go:199", after := #[{ on := 13, ground := Ground.guard }], guard := some (13, true) }) (v := ?_) rfl (by kernel_rfl) (by kernel_rfl) (by kernel_rfl) (fun _ _ _ h => h) (Or.inl ⟨by rfl, ?_⟩) (by assumption) ?_
              rotate_left
              · intro w hSw; (try dsimp only at hSw); go_simp; try (with_reducible rfl)
              try simp only [Act.put, List.setIfInBounds_toArray, List.set_cons_zero, List.set_cons_succ]
              refine wpAnyH_take (i := 15) (oi := { dst := some 73, op := Op.indexAddr 23 (Operand.tmp 72) (Operand.const (Value.int IntKind.i64 0)), type := 0, pos := "law.go:199", after := #[{ on := 14, ground := Ground.data }, { on := 13, ground := Ground.guard }], guard := some (13, true) }) (v := ?_) rfl (by kernel_rfl) (by kernel_rfl) (by kernel_rfl) (fun _ _ _ h => h) (Or.inl ⟨by rfl, ?_⟩) (by assumption) ?_
              rotate_left
              · intro w hSw; (try dsimp only at hSw); go_simp; try (with_reducible rfl)
              try simp only [Act.put, List.setIfInBounds_toArray, List.set_cons_zero, List.set_cons_succ]
              refine wpAnyH_take (i := 16) (oi := { dst := some 74, op := Op.fieldAddr 40 (Operand.tmp 73) 3, type := 0, pos := "law.go:199", after := #[{ on := 15, ground := Ground.data }, { on := 13, ground := Ground.guard }], guard := some (13, true) }) (v := ?_) rfl (by kernel_rfl) (by kernel_rfl) (by kernel_rfl) (fun _ _ _ h => h) (Or.inl ⟨by rfl, ?_⟩) (by assumption) ?_
              rotate_left
              · intro w hSw; (try dsimp only at hSw); go_simp; try (with_reducible rfl)
              try simp only [Act.put, List.setIfInBounds_toArray, List.set_cons_zero, List.set_cons_succ]
              refine wpAnyH_take (i := 17) (oi := { dst := some 75, op := Op.load 9 (Operand.tmp 74), type := 9, pos := "law.go:199", after := #[{ on := 16, ground := Ground.data }, { on := 13, ground := Ground.guard }], guard := some (13, true) }) (v := ?_) rfl (by kernel_rfl) (by kernel_rfl) (by kernel_rfl) (fun _ _ _ h => h) (Or.inl ⟨by rfl, ?_⟩) (by assumption) ?_
              rotate_left
              · intro w hSw; (try dsimp only at hSw); go_simp; try (with_reducible rfl)
              try simp only [Act.put, List.setIfInBounds_toArray, List.set_cons_zero, List.set_cons_succ]
              refine wpAnyH_take (i := 18) (oi := { dst := some 76, op := Op.move (Operand.tmp 0), type := 9, pos := "law.go:199", after := #[{ on := 13, ground := Ground.guard }], guard := some (13, true) }) (v := ?_) rfl (by kernel_rfl) (by kernel_rfl) (by kernel_rfl) (fun _ _ _ h => h) (Or.inl ⟨by rfl, ?_⟩) (by assumption) ?_
              rotate_left
              · intro w hSw; (try dsimp only at hSw); go_simp; try (with_reducible rfl)
              try simp only [Act.put, List.setIfInBounds_toArray, List.set_cons_zero, List.set_cons_succ]
              refine wpAnyH_take (i := 19) (oi := { dst := some 77, op := Op.binOp BinOp.eql 9 (Operand.tmp 75) (Operand.tmp 76) 9, type := 4, pos := "law.go:199", after := #[{ on := 17, ground := Ground.data }, { on := 18, ground := Ground.data }, { on := 13, ground := Ground.guard }], guard := some (13, true) }) (v := ?_) rfl (by kernel_rfl) (by kernel_rfl) (by kernel_rfl) (fun _ _ _ h => h) (Or.inl ⟨by rfl, ?_⟩) (by assumption) ?_
              rotate_left
              · intro w hSw; (try dsimp only at hSw); go_simp; try (with_reducible rfl)
              try simp only [Act.put, List.setIfInBounds_toArray, List.set_cons_zero, List.set_cons_succ]
              refine wpAnyH_take (i := 20) (oi := { dst := some 78, op := Op.pick (Operand.tmp 71) (Operand.tmp 77) (Operand.const (Value.bool false)), type := 4, pos := "law.go:199", after := #[{ on := 13, ground := Ground.data }, { on := 19, ground := Ground.data }], guard := none }) (v := ?_) rfl (by kernel_rfl) (by kernel_rfl) (by kernel_rfl) (fun _ _ _ h => h) (Or.inl ⟨by rfl, ?_⟩) (by assumption) ?_
              rotate_left
              · intro w hSw; (try dsimp only at hSw); go_simp; try (with_reducible rfl)
              try simp only [Act.put, List.setIfInBounds_toArray, List.set_cons_zero, List.set_cons_succ]
              refine wpAnyH_take (i := 21) (oi := { dst := some 79, op := Op.move (Operand.tmp 78), type := 4, pos := "law.go:199", after := #[{ on := 20, ground := Ground.data }, { on := 13, ground := Ground.chain }], guard := none }) (v := ?_) rfl (by kernel_rfl) (by kernel_rfl) (by kernel_rfl) (fun _ _ _ h => h) (Or.inl ⟨by rfl, ?_⟩) (by assumption) ?_
              rotate_left
              · intro w hSw; (try dsimp only at hSw); go_simp; try (with_reducible rfl)
              try simp only [Act.put, List.setIfInBounds_toArray, List.set_cons_zero, List.set_cons_succ]
              refine wpAnyH_take (i := 22) (oi := { dst := some 80, op := Op.move (Operand.tmp 6), type := 9, pos := "law.go:199", after := #[{ on := 21, ground := Ground.guard }], guard := some (21, true) }) (v := ?_) rfl (by kernel_rfl) (by kernel_rfl) (by kernel_rfl) (fun _ _ _ h => h) (Or.inl ⟨by rfl, ?_⟩) (by assumption) ?_
              rotate_left
              · intro w hSw; (try dsimp only at hSw); go_simp; try (with_reducible rfl)
              try simp only [Act.put, List.setIfInBounds_toArray, List.set_cons_zero, List.set_cons_succ]
              refine wpAnyH_take (i := 26) (oi := { dst := some 84, op := Op.move (Operand.tmp 0), type := 9, pos := "law.go:199", after := #[{ on := 21, ground := Ground.guard }], guard := some (21, true) }) (v := ?_) rfl (by kernel_rfl) (by kernel_rfl) (by kernel_rfl) (fun _ _ _ h => h) (Or.inl ⟨by rfl, ?_⟩) (by assumption) ?_
              rotate_left
              · intro w hSw; (try dsimp only at hSw); go_simp; try (with_reducible rfl)
              try simp only [Act.put, List.setIfInBounds_toArray, List.set_cons_zero, List.set_cons_succ]
              refine wpAnyH_ready (rs := [23]) (by kernel_rfl) (by simp) ?_
              refine AllReadyH.cons (o := { dst := some 81, op := Op.call { callee := Callee.value (Operand.func 17), args := #[Operand.tmp 80, Operand.const (Value.string { data := #[10] }), Operand.const (Value.int IntKind.i64 2)], argTypes := #[9, 9, 3] }, type := 42, pos := "law.go:199", after := #[{ on := 22, ground := Ground.data }, { on := 21, ground := Ground.chain }, { on := 21, ground := Ground.guard }], guard := some (21, true) }) rfl (fun K hK => ?_) ?_
              · go_simp
                first
                  | (go_at_call 17; (with_reducible refine (SplitN_any (str F) _ rfl _ rfl LN r _ HCUT.out HFB.out (HE.out _ (by repeat (first | (with_reducible exact Ext.refl _) | (with_reducible apply Ext.drew) | (with_reducible apply Ext.drewN) | (with_reducible refine Ext.trans ?_ (by assumption)))))).mono ?_); rintro e wk ⟨⟨bk, nk, ck, rfl, h1k, h2k, hck⟩, hxk⟩; (have k1 : 0 < nk := by omega); (have k2 : (0 : Int) < (nk : Int) := by omega); (have k3 : ¬ (nk : Int) ≤ 0 := by omega))
                  | (go_at_call 19; (with_reducible refine (Tryd.strings_Count_one S 10 _).mono ?_); rintro e wq ⟨rfl, rfl⟩; rw [HNS.out])
                  | (go_at_call 18; (with_reducible refine (Number_any (NL : Int) _ HIN.out).mono ?_); rintro e wn ⟨rfl, hxn⟩; (rw [← HNT.out]); (have hcn := hxn.cell hck))
                  | (go_at_call 16; (with_reducible refine (Tryd.strings_HasSuffix (str LN) ((⟨#[32]⟩ : ByteArray) ++ str NT) _ HLB.out).mono ?_); rintro e wq ⟨rfl, rfl⟩; rw [HSU2.out])
                  | skip
                try (go_wp2_with fail)
                refine hK.out _ _ ?_ (fun hHeld => ?_)
                · (try dsimp only); (repeat (first | (with_reducible assumption) | (with_reducible apply Later.drew) | (with_reducible apply Later.drewN) | (with_reducible apply Later.alloc) | (with_reducible refine Later.step ?_ (by with_reducible assumption))))
                clear hK K
                try simp only [Act.put, List.setIfInBounds_toArray, List.set_cons_zero, List.set_cons_succ]
                refine wpAnyH_take (i := 24) (oi := { dst := some 82, op := Op.indexAddr 42 (Operand.tmp 81) (Operand.const (Value.int IntKind.i64 0)), type := 0, pos := "law.go:199", after := #[{ on := 23, ground := Ground.data }, { on := 21, ground := Ground.guard }], guard := some (21, true) }) (v := ?_) rfl (by kernel_rfl) (by kernel_rfl) (by kernel_rfl) (fun _ _ _ h => h) (Or.inl ⟨by rfl, ?_⟩) (by assumption) ?_
                rotate_left
                · intro w hSw; (try dsimp only at hSw); go_simp; try (with_reducible rfl)
                try simp only [Act.put, List.setIfInBounds_toArray, List.set_cons_zero, List.set_cons_succ]
                refine wpAnyH_ready (rs := [25, 27]) (by kernel_rfl) (by simp) ?_
                refine AllReadyH.cons (o := { dst := some 83, op := Op.load 9 (Operand.tmp 82), type := 9, pos := "law.go:199", after := #[{ on := 24, ground := Ground.data }, { on := 21, ground := Ground.guard }], guard := some (21, true) }) rfl (fun K hK => ?_) ?_
                · go_simp
                  try (go_wp2_with fail)
                  refine hK.out _ _ ?_ (fun hHeld => ?_)
                  · (try dsimp only); (repeat (first | (with_reducible assumption) | (with_reducible apply Later.drew) | (with_reducible apply Later.drewN) | (with_reducible apply Later.alloc) | (with_reducible refine Later.step ?_ (by with_reducible assumption))))
                  clear hK K
                  try simp only [Act.put, List.setIfInBounds_toArray, List.set_cons_zero, List.set_cons_succ]
                  refine wpAnyH_ready (rs := [27]) (by kernel_rfl) (by simp) ?_
                  refine AllReadyH.cons (o := { dst := some 85, op := Op.call { callee := Callee.value (Operand.func 19), args := #[Operand.tmp 84, Operand.const (Value.string { data := #[10] })], argTypes := #[9, 9] }, type := 3, pos := "law.go:199", after := #[{ on := 26, ground := Ground.data }, { on := 23, ground := Ground.chain }, { on := 21, ground := Ground.guard }], guard := some (21, true) }) rfl (fun K hK => ?_) ?_
                  · go_simp
                    first
                      | (go_at_call 17; (with_reducible refine (SplitN_any (str F) _ rfl _ rfl LN r _ HCUT.out HFB.out (HE.out _ (by repeat (first | (with_reducible exact Ext.refl _) | (with_reducible apply Ext.drew) | (with_reducible apply Ext.drewN) | (with_reducible refine Ext.trans ?_ (by assumption)))))).mono ?_); rintro e wk ⟨⟨bk, nk, ck, rfl, h1k, h2k, hck⟩, hxk⟩; (have k1 : 0 < nk := by omega); (have k2 : (0 : Int) < (nk : Int) := by omega); (have k3 : ¬ (nk : Int) ≤ 0 := by omega))
                      | (go_at_call 19; (with_reducible refine (Tryd.strings_Count_one S 10 _).mono ?_); rintro e wq ⟨rfl, rfl⟩; rw [HNS.out])
                      | (go_at_call 18; (with_reducible refine (Number_any (NL : Int) _ HIN.out).mono ?_); rintro e wn ⟨rfl, hxn⟩; (rw [← HNT.out]); (have hcn := hxn.cell hck))
                      | (go_at_call 16; (with_reducible refine (Tryd.strings_HasSuffix (str LN) ((⟨#[32]⟩ : ByteArray) ++ str NT) _ HLB.out).mono ?_); rintro e wq ⟨rfl, rfl⟩; rw [HSU2.out])
                      | skip
                    try (go_wp2_with fail)
                    refine hK.out _ _ ?_ (fun hHeld => ?_)
                    · (try dsimp only); (repeat (first | (with_reducible assumption) | (with_reducible apply Later.drew) | (with_reducible apply Later.drewN) | (with_reducible apply Later.alloc) | (with_reducible refine Later.step ?_ (by with_reducible assumption))))
                    clear hK K
                    try simp only [Act.put, List.setIfInBounds_toArray, List.set_cons_zero, List.set_cons_succ]
                    refine wpAnyH_ready (rs := [28]) (by kernel_rfl) (by simp) ?_
                    refine AllReadyH.cons (o := { dst := some 86, op := Op.call { callee := Callee.value (Operand.func 18), args := #[Operand.tmp 85], argTypes := #[3] }, type := 9, pos := "law.go:199", after := #[{ on := 27, ground := Ground.data }, { on := 27, ground := Ground.chain }, { on := 21, ground := Ground.guard }], guard := some (21, true) }) rfl (fun K hK => ?_) ?_
                    · go_simp
                      first
                        | (go_at_call 17; (with_reducible refine (SplitN_any (str F) _ rfl _ rfl LN r _ HCUT.out HFB.out (HE.out _ (by repeat (first | (with_reducible exact Ext.refl _) | (with_reducible apply Ext.drew) | (with_reducible apply Ext.drewN) | (with_reducible refine Ext.trans ?_ (by assumption)))))).mono ?_); rintro e wk ⟨⟨bk, nk, ck, rfl, h1k, h2k, hck⟩, hxk⟩; (have k1 : 0 < nk := by omega); (have k2 : (0 : Int) < (nk : Int) := by omega); (have k3 : ¬ (nk : Int) ≤ 0 := by omega))
                        | (go_at_call 19; (with_reducible refine (Tryd.strings_Count_one S 10 _).mono ?_); rintro e wq ⟨rfl, rfl⟩; rw [HNS.out])
                        | (go_at_call 18; (with_reducible refine (Number_any (NL : Int) _ HIN.out).mono ?_); rintro e wn ⟨rfl, hxn⟩; (rw [← HNT.out]); (have hcn := hxn.cell hck))
                        | (go_at_call 16; (with_reducible refine (Tryd.strings_HasSuffix (str LN) ((⟨#[32]⟩ : ByteArray) ++ str NT) _ HLB.out).mono ?_); rintro e wq ⟨rfl, rfl⟩; rw [HSU2.out])
                        | skip
                      try (go_wp2_with fail)
                      refine hK.out _ _ ?_ (fun hHeld => ?_)
                      · (try dsimp only); (repeat (first | (with_reducible assumption) | (with_reducible apply Later.drew) | (with_reducible apply Later.drewN) | (with_reducible apply Later.alloc) | (with_reducible refine Later.step ?_ (by with_reducible assumption))))
                      clear hK K
                      try simp only [Act.put, List.setIfInBounds_toArray, List.set_cons_zero, List.set_cons_succ]
                      refine wpAnyH_take (i := 29) (oi := { dst := some 87, op := Op.binOp BinOp.add 9 (Operand.const (Value.string { data := #[32] })) (Operand.tmp 86) 9, type := 9, pos := "law.go:199", after := #[{ on := 28, ground := Ground.data }, { on := 21, ground := Ground.guard }], guard := some (21, true) }) (v := ?_) rfl (by kernel_rfl) (by kernel_rfl) (by kernel_rfl) (fun _ _ _ h => h) (Or.inl ⟨by rfl, ?_⟩) (by assumption) ?_
                      rotate_left
                      · intro w hSw; (try dsimp only at hSw); go_simp; try (with_reducible rfl)
                      try simp only [Act.put, List.setIfInBounds_toArray, List.set_cons_zero, List.set_cons_succ]
                      refine wpAnyH_ready (rs := [30]) (by kernel_rfl) (by simp) ?_
                      refine AllReadyH.cons (o := { dst := some 88, op := Op.call { callee := Callee.value (Operand.func 16), args := #[Operand.tmp 83, Operand.tmp 87], argTypes := #[9, 9] }, type := 4, pos := "law.go:199", after := #[{ on := 25, ground := Ground.data }, { on := 29, ground := Ground.data }, { on := 28, ground := Ground.chain }, { on := 21, ground := Ground.guard }], guard := some (21, true) }) rfl (fun K hK => ?_) ?_
                      · go_simp
                        first
                          | (go_at_call 17; (with_reducible refine (SplitN_any (str F) _ rfl _ rfl LN r _ HCUT.out HFB.out (HE.out _ (by repeat (first | (with_reducible exact Ext.refl _) | (with_reducible apply Ext.drew) | (with_reducible apply Ext.drewN) | (with_reducible refine Ext.trans ?_ (by assumption)))))).mono ?_); rintro e wk ⟨⟨bk, nk, ck, rfl, h1k, h2k, hck⟩, hxk⟩; (have k1 : 0 < nk := by omega); (have k2 : (0 : Int) < (nk : Int) := by omega); (have k3 : ¬ (nk : Int) ≤ 0 := by omega))
                          | (go_at_call 19; (with_reducible refine (Tryd.strings_Count_one S 10 _).mono ?_); rintro e wq ⟨rfl, rfl⟩; rw [HNS.out])
                          | (go_at_call 18; (with_reducible refine (Number_any (NL : Int) _ HIN.out).mono ?_); rintro e wn ⟨rfl, hxn⟩; (rw [← HNT.out]); (have hcn := hxn.cell hck))
                          | (go_at_call 16; (with_reducible refine (Tryd.strings_HasSuffix (str LN) ((⟨#[32]⟩ : ByteArray) ++ str NT) _ HLB.out).mono ?_); rintro e wq ⟨rfl, rfl⟩; rw [HSU2.out])
                          | skip
                        try (go_wp2_with fail)
                        refine hK.out _ _ ?_ (fun hHeld => ?_)
                        · (try dsimp only); (repeat (first | (with_reducible assumption) | (with_reducible apply Later.drew) | (with_reducible apply Later.drewN) | (with_reducible apply Later.alloc) | (with_reducible refine Later.step ?_ (by with_reducible assumption))))
                        clear hK K
                        try simp only [Act.put, List.setIfInBounds_toArray, List.set_cons_zero, List.set_cons_succ]
                        refine wpAnyH_take (i := 31) (oi := { dst := some 89, op := Op.pick (Operand.tmp 79) (Operand.tmp 88) (Operand.const (Value.bool false)), type := 4, pos := "law.go:199", after := #[{ on := 21, ground := Ground.data }, { on := 30, ground := Ground.data }], guard := none }) (v := ?_) rfl (by kernel_rfl) (by kernel_rfl) (by kernel_rfl) (fun _ _ _ h => h) (Or.inl ⟨by rfl, ?_⟩) (by assumption) ?_
                        rotate_left
                        · intro w hSw; (try dsimp only at hSw); go_simp; try (with_reducible rfl)
                        try simp only [Act.put, List.setIfInBounds_toArray, List.set_cons_zero, List.set_cons_succ]
                        refine wpAnyH_take (i := 32) (oi := { dst := some 4, op := Op.assign (Operand.tmp 89), type := 4, pos := "law.go:199", after := #[{ on := 31, ground := Ground.data }, { on := 30, ground := Ground.chain }, { on := 0, ground := Ground.phase }, { on := 1, ground := Ground.phase }, { on := 2, ground := Ground.phase }, { on := 3, ground := Ground.phase }, { on := 4, ground := Ground.phase }, { on := 5, ground := Ground.phase }, { on := 6, ground := Ground.phase }, { on := 7, ground := Ground.phase }, { on := 8, ground := Ground.phase }, { on := 9, ground := Ground.phase }, { on := 10, ground := Ground.phase }, { on := 11, ground := Ground.phase }, { on := 12, ground := Ground.phase }, { on := 13, ground := Ground.phase }, { on := 14, ground := Ground.phase }, { on := 15, ground := Ground.phase }, { on := 16, ground := Ground.phase }, { on := 17, ground := Ground.phase }, { on := 18, ground := Ground.phase }, { on := 19, ground := Ground.phase }, { on := 20, ground := Ground.phase }, { on := 21, ground := Ground.phase }, { on := 22, ground := Ground.phase }, { on := 23, ground := Ground.phase }, { on := 24, ground := Ground.phase }, { on := 25, ground := Ground.phase }, { on := 26, ground := Ground.phase }, { on := 27, ground := Ground.phase }, { on := 28, ground := Ground.phase }, { on := 29, ground := Ground.phase }, { on := 30, ground := Ground.phase }, { on := 31, ground := Ground.phase }], guard := none }) (v := ?_) rfl (by kernel_rfl) (by kernel_rfl) (by kernel_rfl) (fun _ _ _ h => h) (Or.inl ⟨by rfl, ?_⟩) (by assumption) ?_
                        rotate_left
                        · intro w hSw; (try dsimp only at hSw); go_simp; try (with_reducible rfl)
                        try simp only [Act.put, List.setIfInBounds_toArray, List.set_cons_zero, List.set_cons_succ]
                        refine wpAnyH_done (by kernel_rfl) ?_ _
                        clear q3 ks hck hcn
                        go_wp2_with fail
                        go_ret
                        exact ⟨rfl, ((Ext.drew hX12).trans hxk).trans hxn⟩
                      exact AllReadyH.nil
                    exact AllReadyH.nil
                  exact AllReadyH.nil
                refine AllReadyH.cons (o := { dst := some 85, op := Op.call { callee := Callee.value (Operand.func 19), args := #[Operand.tmp 84, Operand.const (Value.string { data := #[10] })], argTypes := #[9, 9] }, type := 3, pos := "law.go:199", after := #[{ on := 26, ground := Ground.data }, { on := 23, ground := Ground.chain }, { on := 21, ground := Ground.guard }], guard := some (21, true) }) rfl (fun K hK => ?_) ?_
                · go_simp
                  first
                    | (go_at_call 17; (with_reducible refine (SplitN_any (str F) _ rfl _ rfl LN r _ HCUT.out HFB.out (HE.out _ (by repeat (first | (with_reducible exact Ext.refl _) | (with_reducible apply Ext.drew) | (with_reducible apply Ext.drewN) | (with_reducible refine Ext.trans ?_ (by assumption)))))).mono ?_); rintro e wk ⟨⟨bk, nk, ck, rfl, h1k, h2k, hck⟩, hxk⟩; (have k1 : 0 < nk := by omega); (have k2 : (0 : Int) < (nk : Int) := by omega); (have k3 : ¬ (nk : Int) ≤ 0 := by omega))
                    | (go_at_call 19; (with_reducible refine (Tryd.strings_Count_one S 10 _).mono ?_); rintro e wq ⟨rfl, rfl⟩; rw [HNS.out])
                    | (go_at_call 18; (with_reducible refine (Number_any (NL : Int) _ HIN.out).mono ?_); rintro e wn ⟨rfl, hxn⟩; (rw [← HNT.out]); (have hcn := hxn.cell hck))
                    | (go_at_call 16; (with_reducible refine (Tryd.strings_HasSuffix (str LN) ((⟨#[32]⟩ : ByteArray) ++ str NT) _ HLB.out).mono ?_); rintro e wq ⟨rfl, rfl⟩; rw [HSU2.out])
                    | skip
                  try (go_wp2_with fail)
                  refine hK.out _ _ ?_ (fun hHeld => ?_)
                  · (try dsimp only); (repeat (first | (with_reducible assumption) | (with_reducible apply Later.drew) | (with_reducible apply Later.drewN) | (with_reducible apply Later.alloc) | (with_reducible refine Later.step ?_ (by with_reducible assumption))))
                  clear hK K
                  try simp only [Act.put, List.setIfInBounds_toArray, List.set_cons_zero, List.set_cons_succ]
                  refine wpAnyH_ready (rs := [25, 28]) (by kernel_rfl) (by simp) ?_
                  refine AllReadyH.cons (o := { dst := some 83, op := Op.load 9 (Operand.tmp 82), type := 9, pos := "law.go:199", after := #[{ on := 24, ground := Ground.data }, { on := 21, ground := Ground.guard }], guard := some (21, true) }) rfl (fun K hK => ?_) ?_
                  · go_simp
                    try (go_wp2_with fail)
                    refine hK.out _ _ ?_ (fun hHeld => ?_)
                    · (try dsimp only); (repeat (first | (with_reducible assumption) | (with_reducible apply Later.drew) | (with_reducible apply Later.drewN) | (with_reducible apply Later.alloc) | (with_reducible refine Later.step ?_ (by with_reducible assumption))))
                    clear hK K
                    try simp only [Act.put, List.setIfInBounds_toArray, List.set_cons_zero, List.set_cons_succ]
                    refine wpAnyH_ready (rs := [28]) (by kernel_rfl) (by simp) ?_
                    refine AllReadyH.cons (o := { dst := some 86, op := Op.call { callee := Callee.value (Operand.func 18), args := #[Operand.tmp 85], argTypes := #[3] }, type := 9, pos := "law.go:199", after := #[{ on := 27, ground := Ground.data }, { on := 27, ground := Ground.chain }, { on := 21, ground := Ground.guard }], guard := some (21, true) }) rfl (fun K hK => ?_) ?_
                    · go_simp
                      first
                        | (go_at_call 17; (with_reducible refine (SplitN_any (str F) _ rfl _ rfl LN r _ HCUT.out HFB.out (HE.out _ (by repeat (first | (with_reducible exact Ext.refl _) | (with_reducible apply Ext.drew) | (with_reducible apply Ext.drewN) | (with_reducible refine Ext.trans ?_ (by assumption)))))).mono ?_); rintro e wk ⟨⟨bk, nk, ck, rfl, h1k, h2k, hck⟩, hxk⟩; (have k1 : 0 < nk := by omega); (have k2 : (0 : Int) < (nk : Int) := by omega); (have k3 : ¬ (nk : Int) ≤ 0 := by omega))
                        | (go_at_call 19; (with_reducible refine (Tryd.strings_Count_one S 10 _).mono ?_); rintro e wq ⟨rfl, rfl⟩; rw [HNS.out])
                        | (go_at_call 18; (with_reducible refine (Number_any (NL : Int) _ HIN.out).mono ?_); rintro e wn ⟨rfl, hxn⟩; (rw [← HNT.out]); (have hcn := hxn.cell hck))
                        | (go_at_call 16; (with_reducible refine (Tryd.strings_HasSuffix (str LN) ((⟨#[32]⟩ : ByteArray) ++ str NT) _ HLB.out).mono ?_); rintro e wq ⟨rfl, rfl⟩; rw [HSU2.out])
                        | skip
                      try (go_wp2_with fail)
                      refine hK.out _ _ ?_ (fun hHeld => ?_)
                      · (try dsimp only); (repeat (first | (with_reducible assumption) | (with_reducible apply Later.drew) | (with_reducible apply Later.drewN) | (with_reducible apply Later.alloc) | (with_reducible refine Later.step ?_ (by with_reducible assumption))))
                      clear hK K
                      try simp only [Act.put, List.setIfInBounds_toArray, List.set_cons_zero, List.set_cons_succ]
                      refine wpAnyH_take (i := 29) (oi := { dst := some 87, op := Op.binOp BinOp.add 9 (Operand.const (Value.string { data := #[32] })) (Operand.tmp 86) 9, type := 9, pos := "law.go:199", after := #[{ on := 28, ground := Ground.data }, { on := 21, ground := Ground.guard }], guard := some (21, true) }) (v := ?_) rfl (by kernel_rfl) (by kernel_rfl) (by kernel_rfl) (fun _ _ _ h => h) (Or.inl ⟨by rfl, ?_⟩) (by assumption) ?_
                      rotate_left
                      · intro w hSw; (try dsimp only at hSw); go_simp; try (with_reducible rfl)
                      try simp only [Act.put, List.setIfInBounds_toArray, List.set_cons_zero, List.set_cons_succ]
                      refine wpAnyH_ready (rs := [30]) (by kernel_rfl) (by simp) ?_
                      refine AllReadyH.cons (o := { dst := some 88, op := Op.call { callee := Callee.value (Operand.func 16), args := #[Operand.tmp 83, Operand.tmp 87], argTypes := #[9, 9] }, type := 4, pos := "law.go:199", after := #[{ on := 25, ground := Ground.data }, { on := 29, ground := Ground.data }, { on := 28, ground := Ground.chain }, { on := 21, ground := Ground.guard }], guard := some (21, true) }) rfl (fun K hK => ?_) ?_
                      · go_simp
                        first
                          | (go_at_call 17; (with_reducible refine (SplitN_any (str F) _ rfl _ rfl LN r _ HCUT.out HFB.out (HE.out _ (by repeat (first | (with_reducible exact Ext.refl _) | (with_reducible apply Ext.drew) | (with_reducible apply Ext.drewN) | (with_reducible refine Ext.trans ?_ (by assumption)))))).mono ?_); rintro e wk ⟨⟨bk, nk, ck, rfl, h1k, h2k, hck⟩, hxk⟩; (have k1 : 0 < nk := by omega); (have k2 : (0 : Int) < (nk : Int) := by omega); (have k3 : ¬ (nk : Int) ≤ 0 := by omega))
                          | (go_at_call 19; (with_reducible refine (Tryd.strings_Count_one S 10 _).mono ?_); rintro e wq ⟨rfl, rfl⟩; rw [HNS.out])
                          | (go_at_call 18; (with_reducible refine (Number_any (NL : Int) _ HIN.out).mono ?_); rintro e wn ⟨rfl, hxn⟩; (rw [← HNT.out]); (have hcn := hxn.cell hck))
                          | (go_at_call 16; (with_reducible refine (Tryd.strings_HasSuffix (str LN) ((⟨#[32]⟩ : ByteArray) ++ str NT) _ HLB.out).mono ?_); rintro e wq ⟨rfl, rfl⟩; rw [HSU2.out])
                          | skip
                        try (go_wp2_with fail)
                        refine hK.out _ _ ?_ (fun hHeld => ?_)
                        · (try dsimp only); (repeat (first | (with_reducible assumption) | (with_reducible apply Later.drew) | (with_reducible apply Later.drewN) | (with_reducible apply Later.alloc) | (with_reducible refine Later.step ?_ (by with_reducible assumption))))
                        clear hK K
                        try simp only [Act.put, List.setIfInBounds_toArray, List.set_cons_zero, List.set_cons_succ]
                        refine wpAnyH_take (i := 31) (oi := { dst := some 89, op := Op.pick (Operand.tmp 79) (Operand.tmp 88) (Operand.const (Value.bool false)), type := 4, pos := "law.go:199", after := #[{ on := 21, ground := Ground.data }, { on := 30, ground := Ground.data }], guard := none }) (v := ?_) rfl (by kernel_rfl) (by kernel_rfl) (by kernel_rfl) (fun _ _ _ h => h) (Or.inl ⟨by rfl, ?_⟩) (by assumption) ?_
                        rotate_left
                        · intro w hSw; (try dsimp only at hSw); go_simp; try (with_reducible rfl)
                        try simp only [Act.put, List.setIfInBounds_toArray, List.set_cons_zero, List.set_cons_succ]
                        refine wpAnyH_take (i := 32) (oi := { dst := some 4, op := Op.assign (Operand.tmp 89), type := 4, pos := "law.go:199", after := #[{ on := 31, ground := Ground.data }, { on := 30, ground := Ground.chain }, { on := 0, ground := Ground.phase }, { on := 1, ground := Ground.phase }, { on := 2, ground := Ground.phase }, { on := 3, ground := Ground.phase }, { on := 4, ground := Ground.phase }, { on := 5, ground := Ground.phase }, { on := 6, ground := Ground.phase }, { on := 7, ground := Ground.phase }, { on := 8, ground := Ground.phase }, { on := 9, ground := Ground.phase }, { on := 10, ground := Ground.phase }, { on := 11, ground := Ground.phase }, { on := 12, ground := Ground.phase }, { on := 13, ground := Ground.phase }, { on := 14, ground := Ground.phase }, { on := 15, ground := Ground.phase }, { on := 16, ground := Ground.phase }, { on := 17, ground := Ground.phase }, { on := 18, ground := Ground.phase }, { on := 19, ground := Ground.phase }, { on := 20, ground := Ground.phase }, { on := 21, ground := Ground.phase }, { on := 22, ground := Ground.phase }, { on := 23, ground := Ground.phase }, { on := 24, ground := Ground.phase }, { on := 25, ground := Ground.phase }, { on := 26, ground := Ground.phase }, { on := 27, ground := Ground.phase }, { on := 28, ground := Ground.phase }, { on := 29, ground := Ground.phase }, { on := 30, ground := Ground.phase }, { on := 31, ground := Ground.phase }], guard := none }) (v := ?_) rfl (by kernel_rfl) (by kernel_rfl) (by kernel_rfl) (fun _ _ _ h => h) (Or.inl ⟨by rfl, ?_⟩) (by assumption) ?_
                        rotate_left
                        · intro w hSw; (try dsimp only at hSw); go_simp; try (with_reducible rfl)
                        try simp only [Act.put, List.setIfInBounds_toArray, List.set_cons_zero, List.set_cons_succ]
                        refine wpAnyH_done (by kernel_rfl) ?_ _
                        clear q3 ks hck hcn
                        go_wp2_with fail
                        go_ret
                        exact ⟨rfl, ((Ext.drew hX12).trans hxk).trans hxn⟩
                      exact AllReadyH.nil
                    exact AllReadyH.nil
                  refine AllReadyH.cons (o := { dst := some 86, op := Op.call { callee := Callee.value (Operand.func 18), args := #[Operand.tmp 85], argTypes := #[3] }, type := 9, pos := "law.go:199", after := #[{ on := 27, ground := Ground.data }, { on := 27, ground := Ground.chain }, { on := 21, ground := Ground.guard }], guard := some (21, true) }) rfl (fun K hK => ?_) ?_
                  · go_simp
                    first
                      | (go_at_call 17; (with_reducible refine (SplitN_any (str F) _ rfl _ rfl LN r _ HCUT.out HFB.out (HE.out _ (by repeat (first | (with_reducible exact Ext.refl _) | (with_reducible apply Ext.drew) | (with_reducible apply Ext.drewN) | (with_reducible refine Ext.trans ?_ (by assumption)))))).mono ?_); rintro e wk ⟨⟨bk, nk, ck, rfl, h1k, h2k, hck⟩, hxk⟩; (have k1 : 0 < nk := by omega); (have k2 : (0 : Int) < (nk : Int) := by omega); (have k3 : ¬ (nk : Int) ≤ 0 := by omega))
                      | (go_at_call 19; (with_reducible refine (Tryd.strings_Count_one S 10 _).mono ?_); rintro e wq ⟨rfl, rfl⟩; rw [HNS.out])
                      | (go_at_call 18; (with_reducible refine (Number_any (NL : Int) _ HIN.out).mono ?_); rintro e wn ⟨rfl, hxn⟩; (rw [← HNT.out]); (have hcn := hxn.cell hck))
                      | (go_at_call 16; (with_reducible refine (Tryd.strings_HasSuffix (str LN) ((⟨#[32]⟩ : ByteArray) ++ str NT) _ HLB.out).mono ?_); rintro e wq ⟨rfl, rfl⟩; rw [HSU2.out])
                      | skip
                    try (go_wp2_with fail)
                    refine hK.out _ _ ?_ (fun hHeld => ?_)
                    · (try dsimp only); (repeat (first | (with_reducible assumption) | (with_reducible apply Later.drew) | (with_reducible apply Later.drewN) | (with_reducible apply Later.alloc) | (with_reducible refine Later.step ?_ (by with_reducible assumption))))
                    clear hK K
                    try simp only [Act.put, List.setIfInBounds_toArray, List.set_cons_zero, List.set_cons_succ]
                    refine wpAnyH_take (i := 29) (oi := { dst := some 87, op := Op.binOp BinOp.add 9 (Operand.const (Value.string { data := #[32] })) (Operand.tmp 86) 9, type := 9, pos := "law.go:199", after := #[{ on := 28, ground := Ground.data }, { on := 21, ground := Ground.guard }], guard := some (21, true) }) (v := ?_) rfl (by kernel_rfl) (by kernel_rfl) (by kernel_rfl) (fun _ _ _ h => h) (Or.inl ⟨by rfl, ?_⟩) (by assumption) ?_
                    rotate_left
                    · intro w hSw; (try dsimp only at hSw); go_simp; try (with_reducible rfl)
                    try simp only [Act.put, List.setIfInBounds_toArray, List.set_cons_zero, List.set_cons_succ]
                    refine wpAnyH_ready (rs := [25]) (by kernel_rfl) (by simp) ?_
                    refine AllReadyH.cons (o := { dst := some 83, op := Op.load 9 (Operand.tmp 82), type := 9, pos := "law.go:199", after := #[{ on := 24, ground := Ground.data }, { on := 21, ground := Ground.guard }], guard := some (21, true) }) rfl (fun K hK => ?_) ?_
                    · go_simp
                      try (go_wp2_with fail)
                      refine hK.out _ _ ?_ (fun hHeld => ?_)
                      · (try dsimp only); (repeat (first | (with_reducible assumption) | (with_reducible apply Later.drew) | (with_reducible apply Later.drewN) | (with_reducible apply Later.alloc) | (with_reducible refine Later.step ?_ (by with_reducible assumption))))
                      clear hK K
                      try simp only [Act.put, List.setIfInBounds_toArray, List.set_cons_zero, List.set_cons_succ]
                      refine wpAnyH_ready (rs := [30]) (by kernel_rfl) (by simp) ?_
                      refine AllReadyH.cons (o := { dst := some 88, op := Op.call { callee := Callee.value (Operand.func 16), args := #[Operand.tmp 83, Operand.tmp 87], argTypes := #[9, 9] }, type := 4, pos := "law.go:199", after := #[{ on := 25, ground := Ground.data }, { on := 29, ground := Ground.data }, { on := 28, ground := Ground.chain }, { on := 21, ground := Ground.guard }], guard := some (21, true) }) rfl (fun K hK => ?_) ?_
                      · go_simp
                        first
                          | (go_at_call 17; (with_reducible refine (SplitN_any (str F) _ rfl _ rfl LN r _ HCUT.out HFB.out (HE.out _ (by repeat (first | (with_reducible exact Ext.refl _) | (with_reducible apply Ext.drew) | (with_reducible apply Ext.drewN) | (with_reducible refine Ext.trans ?_ (by assumption)))))).mono ?_); rintro e wk ⟨⟨bk, nk, ck, rfl, h1k, h2k, hck⟩, hxk⟩; (have k1 : 0 < nk := by omega); (have k2 : (0 : Int) < (nk : Int) := by omega); (have k3 : ¬ (nk : Int) ≤ 0 := by omega))
                          | (go_at_call 19; (with_reducible refine (Tryd.strings_Count_one S 10 _).mono ?_); rintro e wq ⟨rfl, rfl⟩; rw [HNS.out])
                          | (go_at_call 18; (with_reducible refine (Number_any (NL : Int) _ HIN.out).mono ?_); rintro e wn ⟨rfl, hxn⟩; (rw [← HNT.out]); (have hcn := hxn.cell hck))
                          | (go_at_call 16; (with_reducible refine (Tryd.strings_HasSuffix (str LN) ((⟨#[32]⟩ : ByteArray) ++ str NT) _ HLB.out).mono ?_); rintro e wq ⟨rfl, rfl⟩; rw [HSU2.out])
                          | skip
                        try (go_wp2_with fail)
                        refine hK.out _ _ ?_ (fun hHeld => ?_)
                        · (try dsimp only); (repeat (first | (with_reducible assumption) | (with_reducible apply Later.drew) | (with_reducible apply Later.drewN) | (with_reducible apply Later.alloc) | (with_reducible refine Later.step ?_ (by with_reducible assumption))))
                        clear hK K
                        try simp only [Act.put, List.setIfInBounds_toArray, List.set_cons_zero, List.set_cons_succ]
                        refine wpAnyH_take (i := 31) (oi := { dst := some 89, op := Op.pick (Operand.tmp 79) (Operand.tmp 88) (Operand.const (Value.bool false)), type := 4, pos := "law.go:199", after := #[{ on := 21, ground := Ground.data }, { on := 30, ground := Ground.data }], guard := none }) (v := ?_) rfl (by kernel_rfl) (by kernel_rfl) (by kernel_rfl) (fun _ _ _ h => h) (Or.inl ⟨by rfl, ?_⟩) (by assumption) ?_
                        rotate_left
                        · intro w hSw; (try dsimp only at hSw); go_simp; try (with_reducible rfl)
                        try simp only [Act.put, List.setIfInBounds_toArray, List.set_cons_zero, List.set_cons_succ]
                        refine wpAnyH_take (i := 32) (oi := { dst := some 4, op := Op.assign (Operand.tmp 89), type := 4, pos := "law.go:199", after := #[{ on := 31, ground := Ground.data }, { on := 30, ground := Ground.chain }, { on := 0, ground := Ground.phase }, { on := 1, ground := Ground.phase }, { on := 2, ground := Ground.phase }, { on := 3, ground := Ground.phase }, { on := 4, ground := Ground.phase }, { on := 5, ground := Ground.phase }, { on := 6, ground := Ground.phase }, { on := 7, ground := Ground.phase }, { on := 8, ground := Ground.phase }, { on := 9, ground := Ground.phase }, { on := 10, ground := Ground.phase }, { on := 11, ground := Ground.phase }, { on := 12, ground := Ground.phase }, { on := 13, ground := Ground.phase }, { on := 14, ground := Ground.phase }, { on := 15, ground := Ground.phase }, { on := 16, ground := Ground.phase }, { on := 17, ground := Ground.phase }, { on := 18, ground := Ground.phase }, { on := 19, ground := Ground.phase }, { on := 20, ground := Ground.phase }, { on := 21, ground := Ground.phase }, { on := 22, ground := Ground.phase }, { on := 23, ground := Ground.phase }, { on := 24, ground := Ground.phase }, { on := 25, ground := Ground.phase }, { on := 26, ground := Ground.phase }, { on := 27, ground := Ground.phase }, { on := 28, ground := Ground.phase }, { on := 29, ground := Ground.phase }, { on := 30, ground := Ground.phase }, { on := 31, ground := Ground.phase }], guard := none }) (v := ?_) rfl (by kernel_rfl) (by kernel_rfl) (by kernel_rfl) (fun _ _ _ h => h) (Or.inl ⟨by rfl, ?_⟩) (by assumption) ?_
                        rotate_left
                        · intro w hSw; (try dsimp only at hSw); go_simp; try (with_reducible rfl)
                        try simp only [Act.put, List.setIfInBounds_toArray, List.set_cons_zero, List.set_cons_succ]
                        refine wpAnyH_done (by kernel_rfl) ?_ _
                        clear q3 ks hck hcn
                        go_wp2_with fail
                        go_ret
                        exact ⟨rfl, ((Ext.drew hX12).trans hxk).trans hxn⟩
                      exact AllReadyH.nil
                    exact AllReadyH.nil
                  exact AllReadyH.nil
                exact AllReadyH.nil
              exact AllReadyH.nil
          · have hV0 : (t.isEmpty || t.getLast? == some 10) = false := by simpa using hV
            have HVV := Lib.hid (hvv.trans hV0)
            rw [Bool.or_eq_false_iff] at hV0
            have HSF := Lib.hid hV0.2
            have e1 : (S.toList == []) = false := by rw [← hen, htn]; exact hV0.1
            have e2 : S.toList ≠ [] := by simpa using e1
            clear hV hV0 hvv hal hml hm hi hen htn
            go_wp2_with fail
            refine (Format_bad _ _ _ (⟨1, [], [], t⟩ :: l) _ hv9 HMI.out.1 HMI.out.2 HVV.out (he.ext hX9) (hf.ext hX9)).mono ?_
            rintro e w10 ⟨rfl, hx10⟩
            rw [show str ([] : BL) = (⟨#[]⟩ : ByteArray) from rfl]
            have hX10 := hX9.trans hx10
            go_wp2_with fail
            refine (Tryd.strings_HasSuffix S ⟨#[10]⟩ _ (by omega)).mono ?_
            rintro e w11 ⟨rfl, rfl⟩
            have HSX : Hid (Lib.hasSuffix S.data.toList (⟨#[10]⟩ : ByteArray).data.toList = false) := Lib.hid (by rw [HS.out, str_list, show (⟨#[10]⟩ : ByteArray).data.toList = [10] from rfl, suffix_one, HSF.out])
            rw [HSX.out]
            go_wp2_with fail
            go_ret
            exact ⟨rfl, hX10⟩
end Go.Proofs.YtnbmmgeoglfbdaaDoor.Sc

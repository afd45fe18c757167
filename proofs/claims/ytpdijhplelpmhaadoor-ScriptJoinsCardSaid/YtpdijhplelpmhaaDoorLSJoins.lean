/- Walk: the law ScriptJoins. -/
import Derived.Test.YtpdijhplelpmhaaDoorLSJoinsA
set_option linter.unusedVariables false
set_option linter.unusedSimpArgs false
namespace Go.Proofs.YtpdijhplelpmhaaDoor.Sc
open Go.RowKit Go.Proofs.YtpdijhplelpmhaaDoor.Big

set_option maxHeartbeats 8000000 in
set_option maxRecDepth 100000 in
theorem joins_any (A B : Option Addr) (n c m d : Nat) (a b : List Cmd) (w : World) (ha : CmdsV w (.slice A n c) a) (hb : CmdsV w (.slice B m d) b) (hma : Mild a) (hmb : Mild b) (hia : AllIn a) (hib : AllIn b) (hna : A = none → n = 0 ∧ c = 0) (hnb : B = none → m = 0 ∧ d = 0) (he : Env w) (hf : FormatsOK w) :
    Calls Tryd.prog 8 #[.slice A n c, .slice B m d] w (BoolPost w true) := by
  obtain ⟨sa, hsa⟩ : ∃ x, x = smallB a := ⟨_, rfl⟩
  have HSA := Lib.hid hsa
  obtain ⟨sb, hsb⟩ : ∃ x, x = smallB b := ⟨_, rfl⟩
  have HSB := Lib.hid hsb
  clear hsa hsb
  cases sa with
  | false =>
    go_enter Tryd.func8, Tryd.ntmps8
    go_wp2_with fail
    refine (awake_any _ he hf).mono ?_
    rintro e w1 ⟨rfl, hx1⟩
    go_wp2_with fail
    refine (small_any A n c a _ (ha.ext hx1) hma).mono ?_
    rintro e w2 ⟨rfl, hx2⟩
    have hx := hx1.trans hx2
    rw [← HSA.out]
    go_wp2_with fail
    refine (awake_any _ (he.ext hx) (hf.ext hx)).mono ?_
    rintro e w3 ⟨rfl, hx3⟩
    go_wp2_with fail
    go_ret
    exact ⟨rfl, hx.trans hx3⟩
  | true =>
    cases sb with
    | false =>
      go_enter Tryd.func8, Tryd.ntmps8
      go_wp2_with fail
      refine (awake_any _ he hf).mono ?_
      rintro e w1 ⟨rfl, hx1⟩
      go_wp2_with fail
      refine (small_any A n c a _ (ha.ext hx1) hma).mono ?_
      rintro e w2 ⟨rfl, hx2⟩
      have hx := hx1.trans hx2
      rw [← HSA.out]
      go_wp2_with fail
      refine (small_any B m d b _ (hb.ext hx) hmb).mono ?_
      rintro e w3 ⟨rfl, hx3⟩
      rw [← HSB.out]
      have hX := hx.trans hx3
      go_wp2_with fail
      refine (awake_any _ (he.ext hX) (hf.ext hX)).mono ?_
      rintro e w4 ⟨rfl, hx4⟩
      go_wp2_with fail
      go_ret
      exact ⟨rfl, hX.trans hx4⟩
    | true =>
      have ha40 : a.length ≤ 40 := by
        have := HSA.out
        unfold smallB at this
        simp at this; exact this.1
      have hb40 : b.length ≤ 40 := by
        have := HSB.out
        unfold smallB at this
        simp at this; exact this.1
      obtain ⟨Va, hVa⟩ : ∃ x, x = validL a := ⟨_, rfl⟩
      obtain ⟨Vb, hVb⟩ : ∃ x, x = validL b := ⟨_, rfl⟩
      have hVab := validL_append a b ha40 hb40
      rw [← hVa, ← hVb] at hVab
      have HVA := Lib.hid hVa
      have HVB := Lib.hid hVb
      have HVAB := Lib.hid hVab
      clear hVa hVb hVab
      have hn0 := ha.inj.1
      have hm0 := hb.inj.1
      subst hn0 hm0
      go_enter Tryd.func8, Tryd.ntmps8
      go_wp2_with fail
      refine (awake_any _ he hf).mono ?_
      rintro e w1 ⟨rfl, hx1⟩
      go_wp2_with fail
      refine (small_any A a.length c a _ (ha.ext hx1) hma).mono ?_
      rintro e w2 ⟨rfl, hx2⟩
      have hx := hx1.trans hx2
      rw [← HSA.out]
      go_wp2_with fail
      refine (small_any B b.length d b _ (hb.ext hx) hmb).mono ?_
      rintro e w3 ⟨rfl, hx3⟩
      rw [← HSB.out]
      have hX := hx.trans hx3
      go_wp2_with fail
      refine (Format_any A a.length c a _ (ha.ext hX) hma hia (he.ext hX) (hf.ext hX)).mono ?_
      rintro e w4 ⟨⟨SA, ea, rfl, pa1, pa2⟩, hx4⟩
      have hX4 := hX.trans hx4
      rw [← HVA.out] at pa1 pa2
      have PA1 := Lib.hid pa1
      have PA2 := Lib.hid pa2
      clear pa1 pa2
      go_wp2_with fail
      refine (Format_any B b.length d b _ (hb.ext hX4) hmb hib (he.ext hX4) (hf.ext hX4)).mono ?_
      rintro e w5 ⟨⟨SB, eb, rfl, pb1, pb2⟩, hx5⟩
      have hX5 := hX4.trans hx5
      rw [← HVB.out] at pb1 pb2
      have PB1 := Lib.hid pb1
      have PB2 := Lib.hid pb2
      clear pb1 pb2 hx1 hx2 hx hx3 hX hx4 hX4 hx5
      go_upto_region 5 with fail
      have ha5 := ha.ext hX5
      have hb5 := hb.ext hX5
      have own0 := owns_empty w5
      have hE0 : Ext w5 (w5.alloc (.cells #[] 42)) := (Ext.refl w5).alloc _
      have hsz0 : w5.heap.size ≤ (w5.alloc (.cells #[] 42)).heap.size := hE0.size
      obtain ⟨i0, hi, hz0, hz1, hz2⟩ := info_parts infoCmd
      clear ha hb
      cases A with
      | none =>
        obtain ⟨ha0, rfl⟩ := hna rfl
        have hanil : a = [] := List.eq_nil_of_length_eq_zero ha0
        subst hanil
        cases B with
        | none =>
          obtain ⟨hb0, rfl⟩ := hnb rfl
          have hbnil : b = [] := List.eq_nil_of_length_eq_zero hb0
          subst hbnil
          go_wp2_with (first | (at_builtin; refine wpList_append_own_none rfl (.tmp 38) (.tmp 39) 23 rfl w5.heap.size 42 i0 4 Tryd.underlying23 hi _ _ _ rfl own0 rfl ?_) | (at_builtin; refine wpList_append_own_none rfl (.tmp 40) (.tmp 41) 23 rfl w5.heap.size 42 i0 4 Tryd.underlying23 hi _ _ _ rfl (by assumption) rfl ?_))
          have hv9 := view2 (acca := []) (accb := []) (a := []) (b := []) own0 rfl rfl rfl rfl (fun p hp => by cases hp) (fun p hp => by cases hp) hE0
          have hX9 := hX5.trans hE0
          cases Va with
          | false =>
            obtain ⟨rfl, rfl⟩ := PA2.out rfl
            have hvf : validL ([] ++ []) = false := by rw [HVAB.out]; rfl
            refine (Format_bad _ _ _ ([] ++ []) _ hv9 (mild_append hma hmb) (in_append hia hib) hvf (he.ext hX9) (hf.ext hX9)).mono ?_
            rintro e w10 ⟨rfl, hx10⟩
            rw [show str ([] : BL) = (⟨#[]⟩ : ByteArray) from rfl]
            go_wp2_with fail
            go_ret
            exact ⟨rfl, hX9.trans hx10⟩
          | true =>
            cases Vb with
            | false =>
              obtain ⟨rfl, rfl⟩ := PA1.out rfl
              obtain ⟨rfl, rfl⟩ := PB2.out rfl
              have hvf : validL ([] ++ []) = false := by rw [HVAB.out]; rfl
              refine (Format_bad _ _ _ ([] ++ []) _ hv9 (mild_append hma hmb) (in_append hia hib) hvf (he.ext hX9) (hf.ext hX9)).mono ?_
              rintro e w10 ⟨rfl, hx10⟩
              rw [show str ([] : BL) = (⟨#[]⟩ : ByteArray) from rfl]
              go_wp2_with fail
              go_ret
              exact ⟨rfl, hX9.trans hx10⟩
            | true =>
              obtain ⟨hSA, rfl⟩ := PA1.out rfl
              obtain ⟨hSB, rfl⟩ := PB1.out rfl
              have hga := good_of HVA.out.symm hia
              have hgb := good_of HVB.out.symm hib
              have hgab := hga.append hgb
              have hlab : ([] ++ [] : List Cmd).length ≤ 1000 := by rw [List.length_append]; omega
              have hfa : SA ++ SB = formatL ([] ++ []) := by rw [hSA, hSB, formatL_append]
              have hla := formatL_size hga (by omega)
              have hlb := formatL_size hgb (by omega)
              rw [← hSA] at hla
              rw [← hSB] at hlb
              have HGAB := Lib.hid hgab
              have HFA := Lib.hid hfa
              have hs1 : (str SA).size = SA.length := rfl
              have hs2 : (str SB).size = SB.length := rfl
              have hcg : ¬ 9223372036854775807 < SA.length + SB.length := by omega
              clear hSA hSB hga hgb hgab hfa PA1 PA2 PB1 PB2
              refine (Format_ok _ _ _ ([] ++ []) _ hv9 HGAB.out hlab (he.ext hX9) (hf.ext hX9)).mono ?_
              rintro e w10 ⟨rfl, hx10⟩
              have hX10 := hX9.trans hx10
              rw [← HFA.out]
              go_wp2_with fail
              rw [str_append]
              refine (Parse_fmt _ ([] ++ []) _ (by rw [HFA.out]) HGAB.out hlab (he.ext hX10) (hf.ext hX10)).mono ?_
              rintro e w11 ⟨⟨A11, n11, c11, rfl, hv11⟩, hx11⟩
              have hX11 := hX10.trans hx11
              have hss : ((str (SA ++ SB)).toList == (str SA ++ str SB).toList) = true := by rw [str_append]; simp
              go_wp2_with fail
              refine (same_true A11 _ n11 c11 _ _ ([] ++ []) _ hv11 (hv9.ext (hx10.trans hx11))).mono ?_
              rintro e w12 ⟨rfl, hx12⟩
              go_wp2_with fail
              go_ret
              exact ⟨rfl, hX11.trans hx12⟩
        | some adb =>
          obtain ⟨accb, hmb', hrb, hcB⟩ := hb5.flatS
          have hlb4 : (flat accb).length = b.length * 4 := by rw [flat_len, ← hmb', List.length_map]
          go_wp2_with (first | (at_builtin; refine wpList_append_own_none rfl (.tmp 38) (.tmp 39) 23 rfl w5.heap.size 42 i0 4 Tryd.underlying23 hi _ _ _ rfl own0 rfl ?_) | (at_builtin; refine wpList_append_own _ rfl (.tmp 40) (.tmp 41) 23 rfl w5.heap.size 42 i0 (.agg #[.int .u8 0, .string ⟨#[]⟩, .slice none 0 0, .string ⟨#[]⟩]) 4 64 Tryd.underlying23 hi hz0 hz1 hz2 rfl (by decide) _ _ _ rfl (by assumption) adb b.length d (flat accb) rfl hlb4 (fun j u hj => (show Ext w5 _ by assumption).cell (hcB j u hj)) (rows_one hrb) (by unfold maxLen; omega) (by omega) (Ext.size (by assumption)) ?_; intro v2 W2 own2 grow2 _; have hE2 : Ext w5 W2 := Below.grown (show Ext w5 _ by assumption) grow2 (Ext.size (by assumption)) (fun k hk => (World.ownsRow.lt (by assumption) k hk).1)))
          have hv9 := view2 (acca := []) (accb := accb) (a := []) (b := b) own2 (by simp) rfl rfl hmb' (fun p hp => by cases hp) hrb hE2
          have hX9 := hX5.trans hE2
          obtain ⟨V9, c9, rfl⟩ := hv9.shape
          obtain ⟨L9, hL9⟩ : ∃ L, L = ([] ++ b).length := ⟨_, rfl⟩
          rw [← hL9] at hv9 ⊢
          clear hL9
          cases Va with
          | false =>
            obtain ⟨rfl, rfl⟩ := PA2.out rfl
            have hvf : validL ([] ++ b) = false := by rw [HVAB.out]; rfl
            refine (Format_bad _ _ _ ([] ++ b) _ hv9 (mild_append hma hmb) (in_append hia hib) hvf (he.ext hX9) (hf.ext hX9)).mono ?_
            rintro e w10 ⟨rfl, hx10⟩
            rw [show str ([] : BL) = (⟨#[]⟩ : ByteArray) from rfl]
            go_wp2_with fail
            go_ret
            exact ⟨rfl, hX9.trans hx10⟩
          | true =>
            cases Vb with
            | false =>
              obtain ⟨rfl, rfl⟩ := PA1.out rfl
              obtain ⟨rfl, rfl⟩ := PB2.out rfl
              have hvf : validL ([] ++ b) = false := by rw [HVAB.out]; rfl
              refine (Format_bad _ _ _ ([] ++ b) _ hv9 (mild_append hma hmb) (in_append hia hib) hvf (he.ext hX9) (hf.ext hX9)).mono ?_
              rintro e w10 ⟨rfl, hx10⟩
              rw [show str ([] : BL) = (⟨#[]⟩ : ByteArray) from rfl]
              go_wp2_with fail
              go_ret
              exact ⟨rfl, hX9.trans hx10⟩
            | true =>
              obtain ⟨hSA, rfl⟩ := PA1.out rfl
              obtain ⟨hSB, rfl⟩ := PB1.out rfl
              have hga := good_of HVA.out.symm hia
              have hgb := good_of HVB.out.symm hib
              have hgab := hga.append hgb
              have hlab : ([] ++ b : List Cmd).length ≤ 1000 := by rw [List.length_append]; omega
              have hfa : SA ++ SB = formatL ([] ++ b) := by rw [hSA, hSB, formatL_append]
              have hla := formatL_size hga (by omega)
              have hlb := formatL_size hgb (by omega)
              rw [← hSA] at hla
              rw [← hSB] at hlb
              have HGAB := Lib.hid hgab
              have HFA := Lib.hid hfa
              have hs1 : (str SA).size = SA.length := rfl
              have hs2 : (str SB).size = SB.length := rfl
              have hcg : ¬ 9223372036854775807 < SA.length + SB.length := by omega
              clear hSA hSB hga hgb hgab hfa PA1 PA2 PB1 PB2
              refine (Format_ok _ _ _ ([] ++ b) _ hv9 HGAB.out hlab (he.ext hX9) (hf.ext hX9)).mono ?_
              rintro e w10 ⟨rfl, hx10⟩
              have hX10 := hX9.trans hx10
              rw [← HFA.out]
              go_wp2_with fail
              rw [str_append]
              refine (Parse_fmt _ ([] ++ b) _ (by rw [HFA.out]) HGAB.out hlab (he.ext hX10) (hf.ext hX10)).mono ?_
              rintro e w11 ⟨⟨A11, n11, c11, rfl, hv11⟩, hx11⟩
              have hX11 := hX10.trans hx11
              have hss : ((str (SA ++ SB)).toList == (str SA ++ str SB).toList) = true := by rw [str_append]; simp
              go_wp2_with fail
              refine (same_true A11 _ n11 c11 _ _ ([] ++ b) _ hv11 (hv9.ext (hx10.trans hx11))).mono ?_
              rintro e w12 ⟨rfl, hx12⟩
              go_wp2_with fail
              go_ret
              exact ⟨rfl, hX11.trans hx12⟩
      | some ada =>
        obtain ⟨acca, hma', hra, hcA0⟩ := ha5.flatS
        have hla4 : (flat acca).length = a.length * 4 := by rw [flat_len, ← hma', List.length_map]
        have hcA : ∀ j u, (flat acca)[j]? = some u → (w5.alloc (.cells #[] 42)).cell? (ada.add j) = some u := fun j u hj => hE0.cell (hcA0 j u hj)
        cases B with
        | none =>
          obtain ⟨hb0, rfl⟩ := hnb rfl
          have hbnil : b = [] := List.eq_nil_of_length_eq_zero hb0
          subst hbnil
          go_wp2_with (first | (at_builtin; refine wpList_append_own _ rfl (.tmp 38) (.tmp 39) 23 rfl w5.heap.size 42 i0 (.agg #[.int .u8 0, .string ⟨#[]⟩, .slice none 0 0, .string ⟨#[]⟩]) 4 64 Tryd.underlying23 hi hz0 hz1 hz2 rfl (by decide) _ _ _ rfl own0 ada a.length c (flat acca) rfl hla4 hcA (rows_one hra) (by rw [Nat.zero_add]; unfold maxLen; omega) (by rw [Nat.zero_add]; omega) hsz0 ?_; intro v1 W1 own1 grow1 _; have hE1 : Ext w5 W1 := Below.grown hE0 grow1 hsz0 (fun k hk => (own0.lt k hk).1); clear own0 hE0) | (at_builtin; refine wpList_append_own_none rfl (.tmp 40) (.tmp 41) 23 rfl w5.heap.size 42 i0 4 Tryd.underlying23 hi _ _ _ rfl (by assumption) rfl ?_))
          have hv9 := view2 (acca := acca) (accb := []) (a := a) (b := []) own1 (by simp) (by simp [flat]) hma' rfl hra (fun p hp => by cases hp) hE1
          have hX9 := hX5.trans hE1
          obtain ⟨V9, c9, rfl⟩ := hv9.shape
          obtain ⟨L9, hL9⟩ : ∃ L, L = (a ++ []).length := ⟨_, rfl⟩
          rw [← hL9] at hv9 ⊢
          clear hL9
          cases Va with
          | false =>
            obtain ⟨rfl, rfl⟩ := PA2.out rfl
            have hvf : validL (a ++ []) = false := by rw [HVAB.out]; rfl
            refine (Format_bad _ _ _ (a ++ []) _ hv9 (mild_append hma hmb) (in_append hia hib) hvf (he.ext hX9) (hf.ext hX9)).mono ?_
            rintro e w10 ⟨rfl, hx10⟩
            rw [show str ([] : BL) = (⟨#[]⟩ : ByteArray) from rfl]
            go_wp2_with fail
            go_ret
            exact ⟨rfl, hX9.trans hx10⟩
          | true =>
            cases Vb with
            | false =>
              obtain ⟨rfl, rfl⟩ := PA1.out rfl
              obtain ⟨rfl, rfl⟩ := PB2.out rfl
              have hvf : validL (a ++ []) = false := by rw [HVAB.out]; rfl
              refine (Format_bad _ _ _ (a ++ []) _ hv9 (mild_append hma hmb) (in_append hia hib) hvf (he.ext hX9) (hf.ext hX9)).mono ?_
              rintro e w10 ⟨rfl, hx10⟩
              rw [show str ([] : BL) = (⟨#[]⟩ : ByteArray) from rfl]
              go_wp2_with fail
              go_ret
              exact ⟨rfl, hX9.trans hx10⟩
            | true =>
              obtain ⟨hSA, rfl⟩ := PA1.out rfl
              obtain ⟨hSB, rfl⟩ := PB1.out rfl
              have hga := good_of HVA.out.symm hia
              have hgb := good_of HVB.out.symm hib
              have hgab := hga.append hgb
              have hlab : (a ++ [] : List Cmd).length ≤ 1000 := by rw [List.length_append]; omega
              have hfa : SA ++ SB = formatL (a ++ []) := by rw [hSA, hSB, formatL_append]
              have hla := formatL_size hga (by omega)
              have hlb := formatL_size hgb (by omega)
              rw [← hSA] at hla
              rw [← hSB] at hlb
              have HGAB := Lib.hid hgab
              have HFA := Lib.hid hfa
              have hs1 : (str SA).size = SA.length := rfl
              have hs2 : (str SB).size = SB.length := rfl
              have hcg : ¬ 9223372036854775807 < SA.length + SB.length := by omega
              clear hSA hSB hga hgb hgab hfa PA1 PA2 PB1 PB2
              refine (Format_ok _ _ _ (a ++ []) _ hv9 HGAB.out hlab (he.ext hX9) (hf.ext hX9)).mono ?_
              rintro e w10 ⟨rfl, hx10⟩
              have hX10 := hX9.trans hx10
              rw [← HFA.out]
              go_wp2_with fail
              rw [str_append]
              refine (Parse_fmt _ (a ++ []) _ (by rw [HFA.out]) HGAB.out hlab (he.ext hX10) (hf.ext hX10)).mono ?_
              rintro e w11 ⟨⟨A11, n11, c11, rfl, hv11⟩, hx11⟩
              have hX11 := hX10.trans hx11
              have hss : ((str (SA ++ SB)).toList == (str SA ++ str SB).toList) = true := by rw [str_append]; simp
              go_wp2_with fail
              refine (same_true A11 _ n11 c11 _ _ (a ++ []) _ hv11 (hv9.ext (hx10.trans hx11))).mono ?_
              rintro e w12 ⟨rfl, hx12⟩
              go_wp2_with fail
              go_ret
              exact ⟨rfl, hX11.trans hx12⟩
        | some adb =>
          obtain ⟨accb, hmb', hrb, hcB⟩ := hb5.flatS
          have hlb4 : (flat accb).length = b.length * 4 := by rw [flat_len, ← hmb', List.length_map]
          go_wp2_with (first | (at_builtin; refine wpList_append_own _ rfl (.tmp 38) (.tmp 39) 23 rfl w5.heap.size 42 i0 (.agg #[.int .u8 0, .string ⟨#[]⟩, .slice none 0 0, .string ⟨#[]⟩]) 4 64 Tryd.underlying23 hi hz0 hz1 hz2 rfl (by decide) _ _ _ rfl own0 ada a.length c (flat acca) rfl hla4 hcA (rows_one hra) (by rw [Nat.zero_add]; unfold maxLen; omega) (by rw [Nat.zero_add]; omega) hsz0 ?_; intro v1 W1 own1 grow1 _; have hE1 : Ext w5 W1 := Below.grown hE0 grow1 hsz0 (fun k hk => (own0.lt k hk).1); clear own0 hE0) | (at_builtin; refine wpList_append_own _ rfl (.tmp 40) (.tmp 41) 23 rfl w5.heap.size 42 i0 (.agg #[.int .u8 0, .string ⟨#[]⟩, .slice none 0 0, .string ⟨#[]⟩]) 4 64 Tryd.underlying23 hi hz0 hz1 hz2 rfl (by decide) _ _ _ rfl (by assumption) adb b.length d (flat accb) rfl hlb4 (fun j u hj => (show Ext w5 _ by assumption).cell (hcB j u hj)) (rows_one hrb) (by unfold maxLen; omega) (by omega) (Ext.size (by assumption)) ?_; intro v2 W2 own2 grow2 _; have hE2 : Ext w5 W2 := Below.grown (show Ext w5 _ by assumption) grow2 (Ext.size (by assumption)) (fun k hk => (World.ownsRow.lt (by assumption) k hk).1)))
          have hv9 := view2 (acca := acca) (accb := accb) (a := a) (b := b) own2 (by simp) (by simp) hma' hmb' hra hrb hE2
          have hX9 := hX5.trans hE2
          obtain ⟨V9, c9, rfl⟩ := hv9.shape
          obtain ⟨L9, hL9⟩ : ∃ L, L = (a ++ b).length := ⟨_, rfl⟩
          rw [← hL9] at hv9 ⊢
          clear hL9
          cases Va with
          | false =>
            obtain ⟨rfl, rfl⟩ := PA2.out rfl
            have hvf : validL (a ++ b) = false := by rw [HVAB.out]; rfl
            refine (Format_bad _ _ _ (a ++ b) _ hv9 (mild_append hma hmb) (in_append hia hib) hvf (he.ext hX9) (hf.ext hX9)).mono ?_
            rintro e w10 ⟨rfl, hx10⟩
            rw [show str ([] : BL) = (⟨#[]⟩ : ByteArray) from rfl]
            go_wp2_with fail
            go_ret
            exact ⟨rfl, hX9.trans hx10⟩
          | true =>
            cases Vb with
            | false =>
              obtain ⟨rfl, rfl⟩ := PA1.out rfl
              obtain ⟨rfl, rfl⟩ := PB2.out rfl
              have hvf : validL (a ++ b) = false := by rw [HVAB.out]; rfl
              refine (Format_bad _ _ _ (a ++ b) _ hv9 (mild_append hma hmb) (in_append hia hib) hvf (he.ext hX9) (hf.ext hX9)).mono ?_
              rintro e w10 ⟨rfl, hx10⟩
              rw [show str ([] : BL) = (⟨#[]⟩ : ByteArray) from rfl]
              go_wp2_with fail
              go_ret
              exact ⟨rfl, hX9.trans hx10⟩
            | true =>
              obtain ⟨hSA, rfl⟩ := PA1.out rfl
              obtain ⟨hSB, rfl⟩ := PB1.out rfl
              have hga := good_of HVA.out.symm hia
              have hgb := good_of HVB.out.symm hib
              have hgab := hga.append hgb
              have hlab : (a ++ b : List Cmd).length ≤ 1000 := by rw [List.length_append]; omega
              have hfa : SA ++ SB = formatL (a ++ b) := by rw [hSA, hSB, formatL_append]
              have hla := formatL_size hga (by omega)
              have hlb := formatL_size hgb (by omega)
              rw [← hSA] at hla
              rw [← hSB] at hlb
              have HGAB := Lib.hid hgab
              have HFA := Lib.hid hfa
              have hs1 : (str SA).size = SA.length := rfl
              have hs2 : (str SB).size = SB.length := rfl
              have hcg : ¬ 9223372036854775807 < SA.length + SB.length := by omega
              clear hSA hSB hga hgb hgab hfa PA1 PA2 PB1 PB2
              refine (Format_ok _ _ _ (a ++ b) _ hv9 HGAB.out hlab (he.ext hX9) (hf.ext hX9)).mono ?_
              rintro e w10 ⟨rfl, hx10⟩
              have hX10 := hX9.trans hx10
              rw [← HFA.out]
              go_wp2_with fail
              rw [str_append]
              refine (Parse_fmt _ (a ++ b) _ (by rw [HFA.out]) HGAB.out hlab (he.ext hX10) (hf.ext hX10)).mono ?_
              rintro e w11 ⟨⟨A11, n11, c11, rfl, hv11⟩, hx11⟩
              have hX11 := hX10.trans hx11
              have hss : ((str (SA ++ SB)).toList == (str SA ++ str SB).toList) = true := by rw [str_append]; simp
              go_wp2_with fail
              refine (same_true A11 _ n11 c11 _ _ (a ++ b) _ hv11 (hv9.ext (hx10.trans hx11))).mono ?_
              rintro e w12 ⟨rfl, hx12⟩
              go_wp2_with fail
              go_ret
              exact ⟨rfl, hX11.trans hx12⟩
end Go.Proofs.YtpdijhplelpmhaaDoor.Sc

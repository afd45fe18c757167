/- Walk: Parse of the reference. -/
import Derived.Deep.DeepCutAuto
import Derived.Test.YtljncdcjkdgkeaaGreatDoorRCRD
import Derived.Test.YtljncdcjkdgkeaaGreatDoorRCW2
set_option linter.unusedVariables false
set_option linter.unusedSimpArgs false
namespace Go.Proofs.YtljncdcjkdgkeaaGreatDoor.Dc
open Go.RowKit Go.Proofs.YtljncdcjkdgkeaaGreatDoor.Big Go.Proofs.YtljncdcjkdgkeaaGreatDoor.Lp Go.Proofs.YtljncdcjkdgkeaaGreatDoor.Rt
open Go.Lib (itoa decDigits)

theorem wpList_pushD {w : World} {ops : Array Oper} {rest : List Oper} {o : Oper} {a : Act} {Q : Exit → Act → World → Prop}
    (hg : o.guard = none) (s x : Operand) (t : TypeId) (hop : o.op = Op.call { callee := Callee.builtin Builtin.append, args := #[s, x], argTypes := #[t, t] })
    (base : Nat) (e : TypeId) (i : TypeInfo) (z : Value) (k bytes : Nat) (h1 : Tryz.prog.underlying t = some (.slice e)) (h2 : Tryz.prog.info? e = some i) (h3 : i.zero = some z) (h4 : i.size = k) (h5 : i.bytes = bytes) (h6 : z.cells.size = k) (hz : ∀ u ∈ z.cells.toList, noU u = true)
    (v : Value) (n : Nat) (xs : List Value) (hs : a.eval s = v) (hown : OwnX w base e k v n xs) (A : Option Addr) (m : Nat) (news : List Value) (c : Nat) (hx : a.eval x = .slice A m c) (hnl : news.length = m * k) (hsrc : 0 < m → ∃ ad, A = some ad ∧ ∀ j y, news[j]? = some y → w.cell? (ad.add j) = some y) (h1c : ∀ y ∈ news, y.oneCell' = true) (hnu : ∀ y ∈ news, noU y = true)
    (b1 : n + m ≤ 1099511627776) (b2 : bytes ≤ 128) (hbase : base ≤ w.heap.size)
    (hK : ∀ v' w', OwnX w' base e k v' (n + m) (xs ++ news) → Fr (fun g => v.ownBlock = some g) w w' → Fresh w v v' → wpList Tryz.prog ops Q rest (a.put o.dst v') w') :
    wpList Tryz.prog ops Q (o :: rest) a w :=
  wpList_plain hg fun _ hK' => wp_pushA s x t hop base e i z k bytes h1 h2 h3 h4 h5 h6 hz v n xs hs hown A m news c hx hnl hsrc h1c hnu b1 b2 hbase (fun v' w' h1 h2 h3 => hK' _ _ (hK v' w' h1 h2 h3))
theorem infoIntD : (Tryz.prog.info? 3).map (fun i => (i.zero, i.size, i.bytes)) = some (some (.int .i64 0), 1, 8) := by kernel_rfl
def dV (l : List Nat) : List Value := l.map (fun (z : Nat) => Value.int .i64 (z : Int))
def szS : Value → Nat | .string q => q.size | _ => 0
theorem dV_len (l : List Nat) : (dV l).length = l.length := by simp [dV]
theorem dV_append (l m : List Nat) : dV (l ++ m) = dV l ++ dV m := by simp [dV]
theorem dV_get {l : List Nat} {j d : Nat} (h : l[j]? = some d) : (dV l)[j]? = some (.int .i64 (d : Int)) := by simp [dV, h]
theorem dV_one (l : List Nat) : ∀ y ∈ dV l, y.oneCell' = true := fun y hy => by
  obtain ⟨z, -, rfl⟩ := List.mem_map.1 hy; rfl
theorem dV_noU (l : List Nat) : ∀ y ∈ dV l, noU y = true := fun y hy => by
  obtain ⟨z, -, rfl⟩ := List.mem_map.1 hy; rfl
theorem own_empty {w : World} {base g k : Nat} {E : TypeId} (hB : Box w g E #[]) (hb : base ≤ g) : OwnX w base E k (.slice (some ⟨g, 0, none⟩) 0 0) 0 [] :=
  ⟨by simp, .inr ⟨g, 0, #[], rfl, hb, hB, Nat.le_refl _, by unfold maxLen; omega, by simp, by simp, fun u hu => by cases hu⟩⟩
/-- an own row of another kind stays -/
theorem own_keep {w w' : World} {base base' n m k k' : Nat} {E E' : TypeId} {v v' : Value} {xs ys : List Value} (o : OwnX w base E k v n xs) (q : OwnX w base' E' k' v' m ys) (hE : E ≠ E') (f : Fr (fun g => v'.ownBlock = some g) w w') : OwnX w' base E k v n xs :=
  o.fr f (fun g hg hg' => by
    obtain ⟨-, -, cur, hc⟩ := o.lt hg
    obtain ⟨-, -, cur', hc'⟩ := q.lt hg'
    exact row_ne hc hc' hE rfl)
theorem box_keep {w w' : World} {base b n k : Nat} {E E' : TypeId} {v : Value} {cs : Array Value} {xs : List Value} (B : Box w b E cs) (q : OwnX w base E' k v n xs) (hE : E ≠ E') (f : Fr (fun g => v.ownBlock = some g) w w') : Box w' b E cs :=
  f.box B (fun hb => by
    obtain ⟨-, -, cur, hc⟩ := q.lt hb
    exact row_ne B hc hE rfl)
theorem pop_get {st : List Nat} {d j : Nat} {y : Value} (h : (dV st.reverse)[j]? = some y) : (dV (d :: st).reverse)[j]? = some y := by
  rw [List.reverse_cons, dV_append]
  have hj : j < (dV st.reverse).length := (List.getElem?_eq_some_iff.1 h).1
  rw [List.getElem?_append_left hj]
  exact h
theorem top_get (st : List Nat) (d : Nat) : (dV (d :: st).reverse)[st.length]? = some (.int .i64 (d : Int)) := by
  rw [List.reverse_cons, dV_append, List.getElem?_append_right (by rw [dV_len]; simp), dV_len]
  simp [dV]
set_option maxHeartbeats 4000000 in
set_option maxRecDepth 100000 in
theorem Parse_h (S : BL) (w : World) (hS : Short S) (hl : S.length ≤ 4096)
    (HLI : Hid (∀ (a : BL) W, Short a → a.length ≤ 4096 → Ext w W → Calls Tryz.prog 65 #[.string (str a)] W (LineP W (lnR a)))) :
    Calls Tryz.prog 28 #[.string (str S)] w (fun e w' => (∃ v, e = .returned (.tuple #[v, .int .i64 (refL [0] S)])) ∧ Ext w w') := by
  obtain ⟨R, hR⟩ : ∃ R, R = refL [0] S := ⟨_, rfl⟩
  rw [← hR]
  have HR := Lib.hid hR.symm
  have hss : (str S).size = S.length := rfl
  have h1 : decide ((65536 : Int) < (S.length : Int)) = false := decide_eq_false (by omega)
  have HSS := Lib.hid hS
  clear hR hS
  obtain ⟨ij, ij1, ij2, ij3, ij4⟩ := info_parts infoIntD
  obtain ⟨ik, ik1, ik2, ik3, ik4⟩ := info_parts infoNode
  go_enter Tryz.func28, Tryz.ntmps28
  go_upto_region 5 with fail
  have hO0 : OwnX (w.alloc (.cells #[.int .i64 0] 3)) w.heap.size 3 1 (.slice (some ⟨w.heap.size, 0, none⟩) 1 1) 1 (dV [0]) :=
    ⟨by simp [dV], .inr ⟨w.heap.size, 1, #[.int .i64 0], rfl, Nat.le_refl _, Box.new w 3 _, Nat.le_refl _, by unfold maxLen; omega, rfl, rfl, fun u hu => by
      have : u = .int .i64 0 := by simpa using hu
      rw [this]; rfl⟩⟩
  have hx0 : Ext w (w.alloc (.cells #[.int .i64 0] 3)) := (Ext.refl w).alloc _
  generalize (w.alloc (.cells #[.int .i64 0] 3)) = V at *
  obtain ⟨ob, hob⟩ : ∃ x, x = w.heap.size := ⟨_, rfl⟩
  rw [← hob] at hO0 ⊢
  have hob1 : w.heap.size ≤ ob := by omega
  have hob2 : ob ≤ w.heap.size := by omega
  clear hob h1
  go_loopw [0, 4, 5] (fun sv tv ov wr => ∃ (l : BL) (op : List Nat) (M K : Nat) (A B : Option Addr) (c d : Nat) (xs : List Value), sv = .string (str l) ∧ tv = .slice A M c ∧ ov = .slice B K d ∧ Hid (op.length = K) ∧ OwnX wr ob 127 6 (.slice A M c) M xs ∧ OwnX wr ob 3 1 (.slice B K d) K (dV op.reverse) ∧ Hid (refL op l = R) ∧ Hid (Short l) ∧ Hid (∀ d ∈ op, d ≤ 201) ∧ M + l.length ≤ S.length ∧ K + l.length ≤ S.length + 1 ∧ Ext w wr) (fun sv _ _ _ => szS sv)
  case atStart => exact ⟨S, [0], 0, 1, none, some ⟨ob, 0, none⟩, 0, 1, [], rfl, rfl, rfl, Lib.hid rfl, OwnX.nil _ _ _ _, hO0, HR, HSS, Lib.hid (fun d hd => by rw [List.mem_singleton.1 hd]; omega), by omega, by omega, hx0⟩
  case round =>
    clear hO0 hx0 HR HSS hss
    obtain ⟨l, op, M, K, A, B, c, d, xs, rfl, rfl, rfl, HK, oT, oO, HRF, HSL, H201, hM, hK, hxr⟩ := hrel
    have hss : (str l).size = l.length := rfl
    by_cases hl0 : 0 < l.length
    case neg =>
      have hl0' : l = [] := List.eq_nil_of_length_eq_zero (by omega)
      have hrf := HRF.out
      rw [hl0', refL_nil] at hrf
      have HRF2 := Lib.hid hrf
      have i1 : decide ((0 : Int) < (l.length : Int)) = false := decide_eq_false (by omega)
      clear hrf hl0' HRF
      by_cases hK0 : K = 0
      · subst hK0
        have HF : Hid (R = 0) := Lib.hid (by
          rw [← HRF2.out, if_pos]
          exact List.eq_nil_of_length_eq_zero HK.out)
        go_wp2_with fail
        go_ret2
        exact ⟨⟨_, by rw [HF.out]; rfl⟩, hxr⟩
      · have e1 : decide ((0 : Int) < (K : Int)) = true := decide_eq_true (by omega)
        have HF0 : Hid (R = if op.any (fun d => decide (200 < d)) then 3 else 4) := Lib.hid (by
          rw [← HRF2.out, if_neg]
          intro h
          apply hK0
          rw [← HK.out, h]; rfl)
        obtain ⟨g, cap, e9, -, -, -, -, -, -, hcell⟩ := oO.cells (by omega)
        injection e9 with e9 _ e10
        subst e9 e10
        have HC := Lib.hid hcell
        clear hcell
        go_wp2_with fail
        go_loopw [10] (fun iv wi => ∃ j : Nat, j ≤ K ∧ iv = .int .i64 j ∧ Hid (∀ i x, i < j → op.reverse[i]? = some x → x ≤ 200) ∧ wr = wi) (fun iv _ => K - (intOf iv).toNat)
        case atStart => exact ⟨0, by omega, rfl, Lib.hid (fun i x h => by omega), rfl⟩
        case round =>
          obtain ⟨j, hj, rfl, HJ, rfl⟩ := hrel
          by_cases hlt : j < K
          · obtain ⟨x, hx⟩ : ∃ x, op.reverse[j]? = some x := ⟨_, List.getElem?_eq_getElem (by rw [List.length_reverse, HK.out]; exact hlt)⟩
            have e0 := HC.out j _ (dV_get hx)
            have i2 : (0 : Int) ≤ (j : Int) := by omega
            have i3 : (j : Int) < (K : Int) := by omega
            by_cases h2 : 200 < x
            · have u1 : decide ((200 : Int) < (x : Int)) = true := decide_eq_true (by omega)
              have HF : Hid (R = 3) := Lib.hid (by
                rw [HF0.out, if_pos]
                exact List.any_eq_true.2 ⟨x, List.mem_reverse.1 (List.mem_of_getElem? hx), decide_eq_true h2⟩)
              clear hx
              go_wp2_with fail
              go_ret2
              exact ⟨⟨_, by rw [HF.out]; rfl⟩, hxr⟩
            · have u1 : decide ((200 : Int) < (x : Int)) = false := decide_eq_false (by omega)
              have HJ2 : Hid (∀ i x, i < j + 1 → op.reverse[i]? = some x → x ≤ 200) := Lib.hid (fun i y hi hy => by
                by_cases hij : i = j
                · subst hij
                  rw [hx] at hy
                  injection hy with hy
                  omega
                · exact HJ.out i y (by omega) hy)
              clear hx HJ
              go_wp2_with fail
              exact ⟨⟨j + 1, by omega, by go_num, HJ2, trivial⟩, by simp [intOf]; omega⟩
          · obtain rfl : j = K := by omega
            have HF : Hid (R = 4) := Lib.hid (by
              rw [HF0.out, if_neg]
              intro h
              obtain ⟨x, hx, h2⟩ := List.any_eq_true.1 h
              obtain ⟨i, hi⟩ := List.getElem?_of_mem (List.mem_reverse.2 hx)
              have := HJ.out i x (by
                have := (List.getElem?_eq_some_iff.1 hi).1
                rw [List.length_reverse, HK.out] at this
                exact this) hi
              have := of_decide_eq_true h2
              omega)
            clear HJ
            go_wp2_with fail
            go_ret2
            exact ⟨⟨_, by rw [HF.out]; rfl⟩, hxr⟩
    case pos =>
    have i1 : decide ((0 : Int) < (l.length : Int)) = true := decide_eq_true (by omega)
    go_wp2_with fail
    go_loopw [6] (fun iv wi => ∃ k : Nat, k ≤ l.length ∧ iv = .int .i64 k ∧ Hid ((10 : UInt8) ∉ l.take k) ∧ wr = wi) (fun iv _ => l.length - (intOf iv).toNat)
    case atStart => exact ⟨0, by omega, rfl, Lib.hid (by simp), rfl⟩
    case round =>
      obtain ⟨k, hk, rfl, HN, rfl⟩ := hrel
      by_cases hlt : k < l.length
      case neg =>
        obtain rfl : k = l.length := by omega
        have hn := HN.out
        rw [List.take_length] at hn
        have HF : Hid (R = 3) := Lib.hid (by
          rw [← HRF.out]
          exact refL_none (fun h => by rw [h] at hl0; simp at hl0) (cutB_none hn))
        clear hn HN
        go_wp2_with fail
        go_ret2
        exact ⟨⟨_, by rw [HF.out]; rfl⟩, hxr⟩
      case pos =>
      have hlt' : k < (str l).size := by omega
      obtain ⟨ch, hc⟩ : ∃ c, l[k]? = some c := ⟨_, List.getElem?_eq_getElem hlt⟩
      have hg : (str l)[k]'hlt' = ch := str_get hc hlt'
      by_cases h10 : ch = 10
      case neg =>
        have e1 : ((((str l)[k]'hlt').toNat : Int) == 10) = false := by
          rw [hg]
          have : ¬ ch.toNat = 10 := fun h => h10 (UInt8.toNat_inj.1 (by simpa using h))
          simp; omega
        have e2 : ((((str l)[k]'hlt').toNat : Int) != 10) = true := by rw [bne, e1]; rfl
        have HN2 := Lib.hid (not_mem_take HN.out hc h10)
        clear hg hc HN
        go_wp2_with fail
        exact ⟨⟨k + 1, by omega, by go_num, HN2, trivial⟩, by simp [intOf]; omega⟩
      case pos =>
      subst h10
      have e1 : ((((str l)[k]'hlt').toNat : Int) == 10) = true := by rw [hg]; rfl
      have e2 : ((((str l)[k]'hlt').toNat : Int) != 10) = false := by rw [bne, e1]; rfl
      have e3 : ((k : Int) == (l.length : Int)) = false := by rw [beq_eq_false_iff_ne]; omega
      have hcut := cut_at HN.out hc
      obtain ⟨a, ha⟩ : ∃ a, a = l.take k := ⟨_, rfl⟩
      obtain ⟨b, hb⟩ : ∃ b, b = l.drop (k + 1) := ⟨_, rfl⟩
      have x1 : (str l).extract 0 k = str a := by rw [extract_take, ha]
      have x2 : (str l).extract (k + 1) l.length = str b := by rw [extract_rest _ _ _ (Nat.le_refl _), hb]
      rw [← ha, ← hb] at hcut
      have hal : a.length ≤ 4096 := by rw [ha, List.length_take]; omega
      have hbl : b.length + k + 1 = l.length := by rw [hb, List.length_drop]; omega
      have HSA : Hid (Short a) := Lib.hid (by
        have := HSL.out
        rw [← List.take_append_drop k l, ← ha] at this
        exact this.left)
      have HSB : Hid (Short b) := Lib.hid (by
        have := HSL.out
        rw [← List.take_append_drop (k + 1) l, ← hb] at this
        exact this.right)
      have hrf := refL_cut (op := op) hcut
      rw [HRF.out] at hrf
      clear hg hc hcut ha hb HN HSL HRF
      cases op with
      | nil =>
        have hK0 : K = 0 := HK.out.symm
        have HF := Lib.hid hrf
        have e4 : ((K : Int) == 0) = true := by rw [hK0]; rfl
        clear hrf hK0
        go_wp2_with fail
        go_ret2
        exact ⟨⟨_, by rw [HF.out]; rfl⟩, hxr⟩
      | cons dp st =>
      dsimp only at hrf
      have hK1 : K = st.length + 1 := HK.out.symm
      have e4 : ((K : Int) == 0) = false := by rw [beq_eq_false_iff_ne]; omega
      obtain ⟨g, cap, e9, -, -, hKc, hcap, -, -, hcell⟩ := oO.cells (by omega)
      injection e9 with e9 _ e10
      subst e9 e10
      have e0 := hcell st.length _ (top_get st dp)
      have r1 : IntKind.i64.wrap ((K : Int) - 1) = (st.length : Int) := by rw [show (K : Int) - 1 = (st.length : Int) by omega]; exact IntWalk.i64_in _ (by omega)
      have i2 : (0 : Int) ≤ (st.length : Int) := by omega
      have i3 : (st.length : Int) < (K : Int) := by omega
      have hdp : dp ≤ 201 := H201.out dp (List.mem_cons_self ..)
      have H2st : Hid (∀ d ∈ st, d ≤ 201) := Lib.hid (fun d hd => H201.out d (List.mem_cons_of_mem _ hd))
      have HC := Lib.hid hcell
      have HK1 := Lib.hid hK1
      clear hcell H201
      by_cases h2 : 200 < dp
      · have u1 : decide ((200 : Int) < (dp : Int)) = true := decide_eq_true (by omega)
        rw [if_pos h2] at hrf
        have HF := Lib.hid hrf
        clear hrf hK1
        go_wp2_with fail
        go_ret2
        exact ⟨⟨_, by rw [HF.out]; rfl⟩, hxr⟩
      have u1 : decide ((200 : Int) < (dp : Int)) = false := decide_eq_false (by omega)
      rw [if_neg h2] at hrf
      obtain ⟨lr, hlr⟩ : ∃ o, o = lnR a := ⟨_, rfl⟩
      have HLL := HLI.out a wr HSA.out hal hxr
      rw [← hlr] at hrf HLL
      have HRF := Lib.hid hrf
      clear hrf hlr hK1
      go_wp2_with fail
      refine HLL.mono ?_
      clear HLL
      rintro e w2 ⟨⟨vr, fl, em, AY, nY, cY, rfl, hvr1, hvr0⟩, hx2⟩
      have NB := Box.new w2 127 #[.int .i64 vr, .int .i64 fl, .bool em, .slice AY nY cY, .int .i64 0, .int .i64 0]
      have hx3 : Ext w2 (w2.alloc (.cells #[.int .i64 vr, .int .i64 fl, .bool em, .slice AY nY cY, .int .i64 0, .int .i64 0] 127)) := (Ext.refl w2).alloc _
      go_upto_region 12 with fail
      generalize (w2.alloc (.cells #[.int .i64 vr, .int .i64 fl, .bool em, .slice AY nY cY, .int .i64 0, .int .i64 0] 127)) = w3 at *
      obtain ⟨nb, hnb⟩ : ∃ x, x = w2.heap.size := ⟨_, rfl⟩
      rw [← hnb] at NB ⊢
      clear hnb
      have hx23 := hx2.trans hx3
      have hxr3 := hxr.trans hx23
      have oT3 := oT.ext hx23
      have oO3 := oO.ext hx23
      have e0 := hx23.cell e0
      cases lr with
      | none =>
        have HF := Lib.hid HRF.out
        clear HRF
        go_wp2_with fail
        go_ret2
        exact ⟨⟨_, by rw [HF.out]; rfl⟩, hxr3⟩
      | some sp =>
      have i4 : (st.length : Int) ≤ (d : Int) := by omega
      have hs3 : ob ≤ w3.heap.size := by have := hxr3.size; omega
      have EB := Box.new w3 3 #[]
      have hx4 : Ext w3 (w3.alloc (.cells #[] 3)) := (Ext.refl w3).alloc _
      have hs4 : ob ≤ (w3.alloc (.cells #[] 3)).heap.size := by have := hx4.size; omega
      have hsrc : 0 < st.length → ∃ ad, (some ⟨g, 0, none⟩ : Option Addr) = some ad ∧ ∀ j y, (dV st.reverse)[j]? = some y → (w3.alloc (.cells #[] 3)).cell? (ad.add j) = some y := fun _ => ⟨_, rfl, fun j y hj => by rw [Lib.add_plain, Nat.zero_add]; exact (hx23.trans hx4).cell (HC.out j y (pop_get hj))⟩
      go_upto_region 16 with (at_builtin; refine wpList_pushD rfl (.tmp 63) (.tmp 68) 30 rfl ob 3 ij (.int .i64 0) 1 8 Tryz.underlying30 ij1 ij2 ij3 ij4 rfl zI _ 0 [] rfl (own_empty EB hs3) (some ⟨g, 0, none⟩) st.length (dV st.reverse) d rfl (by rw [dV_len]; simp) hsrc (dV_one _) (dV_noU _) (by omega) (by decide) hs4 ?_; intro v6 w6 o6 r6 s6; rw [Nat.zero_add, List.nil_append] at o6; obtain ⟨A6, d6, rfl⟩ := o6.shape)
      have oT6 := own_keep (oT3.ext hx4) (own_empty (k := 1) EB hs3) (by decide) r6
      have NB6 := box_keep (NB.ext hx4) (own_empty (k := 1) EB hs3) (by decide) r6
      have hx6 : Ext w w6 := r6.ext (hxr3.trans hx4) (fun b hb => by have := ((own_empty (k := 1) EB hs3).lt hb).1; omega)
      clear r6 s6 hsrc EB hx4 hs4 e0 oT3 oO3 oT oO NB HC hx2 hx3 hx23 hxr3 hs3 i4
      have n0 := NB6.c0
      have u2 : decide ((0 : Int) ≤ vr) = sp := by
        cases sp with
        | false => exact decide_eq_false (by have := hvr0 rfl; omega)
        | true => exact decide_eq_true (hvr1 rfl)
      clear hvr0 hvr1
      go_upto_if 72 with fail
      rename_i hK9
      go_cut [5] (fun v wx => ∃ (op' : List Nat) (K' : Nat) (A' : Option Addr) (d' : Nat), v = .slice A' K' d' ∧ Hid (op'.length = K') ∧ OwnX wx ob 3 1 (.slice A' K' d') K' (dV op'.reverse) ∧ OwnX wx ob 127 6 (.slice A M c) M xs ∧ Box wx nb 127 #[.int .i64 vr, .int .i64 fl, .bool em, .slice AY nY cY, .int .i64 0, .int .i64 0] ∧ Hid (refL op' b = R) ∧ Hid (∀ d ∈ op', d ≤ 201) ∧ K' ≤ K + 1 ∧ Ext w wx)
      case first =>
        cases sp with
        | false =>
          go_wp2_with fail
          go_meet
          exact ⟨st, st.length, A6, d6, rfl, Lib.hid rfl, o6, oT6, NB6, Lib.hid HRF.out.symm, H2st, by omega, hx6⟩
        | true =>
          have rd : IntKind.i64.wrap ((dp : Int) + 1) = (dp : Int) + 1 := IntWalk.i64_in _ (by omega)
          have hs6 : ob ≤ w6.heap.size := by have := hx6.size; omega
          have hx7 : Ext w6 (w6.alloc (.cells #[.int .i64 ((dp : Int) + 1), .int .i64 ((dp : Int) + 1)] 3)) := (Ext.refl w6).alloc _
          have hs7 : ob ≤ (w6.alloc (.cells #[.int .i64 ((dp : Int) + 1), .int .i64 ((dp : Int) + 1)] 3)).heap.size := by have := hx7.size; omega
          have B7 := Box.new w6 3 #[.int .i64 ((dp : Int) + 1), .int .i64 ((dp : Int) + 1)]
          have hsrc : 0 < 2 → ∃ ad, (some ⟨w6.heap.size, 0, none⟩ : Option Addr) = some ad ∧ ∀ j y, (dV [dp + 1, dp + 1])[j]? = some y → (w6.alloc (.cells #[.int .i64 ((dp : Int) + 1), .int .i64 ((dp : Int) + 1)] 3)).cell? (ad.add j) = some y := fun _ => ⟨_, rfl, fun j y hj => by
            rw [Lib.add_plain, Nat.zero_add, B7.cell j, ← hj]
            simp [dV]⟩
          go_wp2_with (at_builtin; refine wpList_pushD rfl (.tmp 73) (.tmp 78) 30 rfl ob 3 ij (.int .i64 0) 1 8 Tryz.underlying30 ij1 ij2 ij3 ij4 rfl zI _ st.length _ rfl (o6.ext hx7) (some ⟨w6.heap.size, 0, none⟩) 2 (dV [dp + 1, dp + 1]) 2 rfl rfl hsrc (dV_one _) (dV_noU _) (by omega) (by decide) hs7 ?_; intro v8 w8 o8 r8 s8; obtain ⟨A8, d8, rfl⟩ := o8.shape)
          go_meet
          have o9 : OwnX w8 ob 3 1 (.slice A8 (st.length + 2) d8) (st.length + 2) (dV ((dp + 1) :: (dp + 1) :: st).reverse) := by
            rw [List.reverse_cons, List.reverse_cons, List.append_assoc, dV_append]; exact o8
          exact ⟨(dp + 1) :: (dp + 1) :: st, st.length + 2, A8, d8, rfl, Lib.hid rfl, o9, own_keep (oT6.ext hx7) (o6.ext hx7) (by decide) r8, box_keep (NB6.ext hx7) (o6.ext hx7) (by decide) r8, Lib.hid HRF.out.symm, Lib.hid (fun x hx => by
            rcases List.mem_cons.1 hx with h | hx
            · omega
            · rcases List.mem_cons.1 hx with h | hx
              · omega
              · exact H2st.out x hx), by omega, r8.ext (hx6.trans hx7) (fun b hb => by have := ((o6.ext hx7).lt hb).1; omega)⟩
      case rest =>
        obtain ⟨op', K', A', d', rfl, HK', oO, oT, NB, HRF2, H2, hK', hxc⟩ := hcut
        refine hK9 _ _ ?_
        clear hK9 o6 oT6 NB6 n0 hx6 H2st HRF
        have n0 := NB.c0
        have n1 := NB.c1
        have n2 : wc.cell? ⟨nb, 2, none⟩ = some (.bool em) := NB.cell 2
        have n3 : wc.cell? ⟨nb, 3, none⟩ = some (.slice AY nY cY) := NB.cell 3
        have n4 : wc.cell? ⟨nb, 4, none⟩ = some (.int .i64 0) := NB.cell 4
        have n5 : wc.cell? ⟨nb, 5, none⟩ = some (.int .i64 0) := NB.cell 5
        have hsc : ob ≤ wc.heap.size := by have := hxc.size; omega
        have hxn : Ext wc (wc.alloc (.cells #[.int .i64 vr, .int .i64 fl, .bool em, .slice AY nY cY, .int .i64 0, .int .i64 0] 127)) := (Ext.refl wc).alloc _
        have hsn : ob ≤ (wc.alloc (.cells #[.int .i64 vr, .int .i64 fl, .bool em, .slice AY nY cY, .int .i64 0, .int .i64 0] 127)).heap.size := by have := hxn.size; omega
        go_upto_region 19 with (at_builtin; refine wpList_pushX rfl (.tmp 80) (.tmp 82) 64 rfl ob 127 ik (.agg #[.int .i64 0, .int .i64 0, .bool false, .slice none 0 0, .int .i64 0, .int .i64 0]) 6 64 Tryz.underlying64 ik1 ik2 ik3 ik4 rfl zNode _ M _ rfl (oT.ext hxn) wc.heap.size [.int .i64 vr, .int .i64 fl, .bool em, .slice AY nY cY, .int .i64 0, .int .i64 0] 1 rfl rfl (new6 wc 127 _ _ _ _ _ _) ?one ?nou (by omega) (by decide) hsn ?_; (case one => intro y hy; simp at hy; rcases hy with rfl | rfl | rfl | rfl | rfl | rfl <;> rfl); (case nou => intro y hy; simp at hy; rcases hy with rfl | rfl | rfl | rfl | rfl | rfl <;> rfl); intro v9 w9 o9 r9 s9; obtain ⟨A9, d9, rfl⟩ := o9.shape)
        have oO9 := own_keep (oO.ext hxn) (oT.ext hxn) (by decide) r9
        have hx9 : Ext w w9 := r9.ext (hxc.trans hxn) (fun b hb => by have := ((oT.ext hxn).lt hb).1; omega)
        have i5 : (k : Int) + 1 ≤ (l.length : Int) := by omega
        have rk : IntKind.i64.wrap ((k : Int) + 1) = (k : Int) + 1 := IntWalk.i64_in _ (by omega)
        have i6 : (0 : Int) ≤ (k : Int) + 1 := by omega
        clear n0 n1 n2 n3 n4 n5 NB s9 hxn hsn
        go_wp2_with fail
        go_roundw
        case rel => exact ⟨b, op', M + 1, K', A9, A', d9, d', _, rfl, rfl, rfl, HK', o9, oO9, HRF2, HSB, H2, by omega, by omega, hx9⟩
        case measure => show b.length < l.length; omega
theorem Parse_b (S : BL) (w : World) (hS : Short S) (hl : S.length ≤ 4096) : Calls Tryz.prog 28 #[.string (str S)] w (fun e w' => (∃ v, e = .returned (.tuple #[v, .int .i64 (errR S)])) ∧ Ext w w') := by
  have h := Parse_h S w hS (by omega) (Lib.hid (fun a W ha hal _ => line_b a W ha (by omega)))
  unfold errR
  rw [if_neg (by omega)]
  exact h
end Go.Proofs.YtljncdcjkdgkeaaGreatDoor.Dc

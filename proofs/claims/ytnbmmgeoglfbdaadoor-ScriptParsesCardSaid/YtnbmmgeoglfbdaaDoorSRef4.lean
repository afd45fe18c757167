/- Walks: lists of commands of the reference; its Valid; the law's plain. -/
import Derived.Test.YtnbmmgeoglfbdaaDoorSRef3
import Derived.Test.YtnbmmgeoglfbdaaDoorLSJoinsA
set_option linter.unusedVariables false
set_option linter.unusedSimpArgs false
namespace Go.Proofs.YtnbmmgeoglfbdaaDoor.Sc
open Go.RowKit Go.Proofs.YtnbmmgeoglfbdaaDoor.Big

/-- a row of commands of the call's own -/
structure CollR (w0 w : World) (v : Value) (acc : List (Cmd × Value)) : Prop where
  own : w.ownsRow w0.heap.size 54 4 v acc.length (flat acc)
  rows : ∀ p ∈ acc, Row w p.2 (iV p.1.nums) ∧ TyI w p.2
theorem CollR.nil (w0 w : World) : CollR w0 w (.slice none 0 0) [] := ⟨World.ownsRow_nil _ _ _ _, fun p h => by cases h⟩
theorem CollR.ext {w0 w w' : World} {v : Value} {acc : List (Cmd × Value)} (h : CollR w0 w v acc) (k : Ext w w') : CollR w0 w' v acc := ⟨ownsRow_ext h.own k, fun p hp => ⟨(h.rows p hp).1.ext k, (h.rows p hp).2.ext k⟩⟩
theorem CollR.view {w0 w : World} {v : Value} {acc : List (Cmd × Value)} (h : CollR w0 w v acc) : CmdsV w v (acc.map (·.1)) := by
  obtain ⟨⟨h1, h2⟩, h3⟩ := h
  rcases h2 with ⟨rfl, h0⟩ | ⟨g, cap, cur, rfl, _, h5, h6, h7, h8, h9⟩
  · have : acc = [] := List.eq_nil_of_length_eq_zero h0
    subst this; exact CmdsV.nil w
  · refine ⟨_, cap, by rw [List.length_map], by rw [List.length_map]; exact h6, by unfold maxLen at h7; exact h7, fun _ => ⟨g, 0, rfl, fun j x hj => ?_⟩⟩
    rw [List.getElem?_map] at hj
    obtain ⟨p, hp, rfl⟩ := Option.map_eq_some_iff.1 hj
    have hrow := (h3 p (List.mem_of_getElem? hp)).1
    obtain ⟨A', c', hs⟩ := hrow.shape
    have hjl : j < acc.length := (List.getElem?_eq_some_iff.1 hp).1
    have key : ∀ i, i < 4 → w.cell? ⟨g, 0 + j * 4 + i, none⟩ = (cells4 p)[i]? := by
      intro i hi
      rw [show w.cell? ⟨g, 0 + j * 4 + i, none⟩ = cur[0 + j * 4 + i]? from cell_of_row w g _ cur _ (0, 0) h5, Nat.zero_add]
      have h10 : (cur.toList.take (acc.length * 4))[j * 4 + i]? = (flat acc)[j * 4 + i]? := by rw [h9]
      rw [List.getElem?_take, if_pos (by omega), flat_get acc j i p hp hi] at h10
      simpa using h10
    refine ⟨A', (iV p.1.nums).length, c', ?_, ?_, ?_, ?_, ?_⟩
    · have := key 0 (by omega); simpa [cells4] using this
    · exact key 1 (by omega)
    · have := key 2 (by omega); rw [← hs]; exact this
    · exact key 3 (by omega)
    · rw [← hs]; exact hrow
theorem infoCmdR : (Tryd.prog.info? 54).map (fun i => (i.zero, i.size, i.bytes)) = some (some (.agg #[.int .u8 0, .string ⟨#[]⟩, .slice none 0 0, .string ⟨#[]⟩]), 4, 64) := by kernel_rfl
/-- a row of ints under an append to a row of commands -/
theorem int_grownR {w w' : World} {v : Value} {base n : Nat} {xs : List Value} {u : Value} {ns : List Int} (hown : w.ownsRow base 54 4 v n xs) (hg : w.grownBy w' v.ownBlock) (h : Row w u (iV ns)) (ht : TyI w u) : Row w' u (iV ns) ∧ TyI w' u := by
  have key : ∀ a k c, u = .slice (some a) k c → w'.heap[a.block]? = w.heap[a.block]? := by
    intro a k c hu
    obtain ⟨cs, fr, hc⟩ := ht a k c hu
    refine hg.block _ ?_ ?_
    · rcases Nat.lt_or_ge a.block w.heap.size with h' | h'
      · exact h'
      · rw [Array.getElem?_eq_none h'] at hc; cases hc
    · intro e
      rcases hown.2 with ⟨hv, _⟩ | ⟨g, cap, cur, hv, _, h5, _⟩
      · rw [hv] at e; cases e
      · rw [hv] at e
        injection e with e
        rw [e, h5] at hc
        injection hc with hc
        injection hc with _ h2 _
        exact absurd h2 (by decide)
  refine ⟨?_, ?_⟩
  · obtain ⟨A, c, rfl, h1, h2, h3⟩ := h
    refine ⟨A, c, rfl, h1, h2, fun hn => ?_⟩
    obtain ⟨b, off, rfl, hc⟩ := h3 hn
    exact ⟨b, off, rfl, fun j x hj => (World.cell?_of_block (w := w) (w' := w') (a := ⟨b, off + j, none⟩) (show w'.heap[b]? = w.heap[b]? from key ⟨b, off, none⟩ _ _ rfl)).trans (hc j x hj)⟩
  · intro a k c hu
    obtain ⟨cs, fr, hc⟩ := ht a k c hu
    exact ⟨cs, fr, (key a k c hu).trans hc⟩
theorem CollR.push {w0 w w' : World} {v v' : Value} {acc : List (Cmd × Value)} {p : Cmd × Value} (h : CollR w0 w v acc) (hr : Row w p.2 (iV p.1.nums)) (ht : TyI w p.2) (ho : w'.ownsRow w0.heap.size 54 4 v' (acc.length + 1) (flat acc ++ cells4 p)) (hg : w.grownBy w' v.ownBlock) : CollR w0 w' v' (acc ++ [p]) := by
  refine ⟨?_, ?_⟩
  · rw [List.length_append, List.length_singleton, flat_append]
    have : flat [p] = cells4 p := by simp [flat]
    rw [this]; exact ho
  · intro q hq
    rw [List.mem_append, List.mem_singleton] at hq
    rcases hq with hq | rfl
    · exact int_grownR h.own hg (h.rows q hq).1 (h.rows q hq).2
    · exact int_grownR h.own hg hr ht
theorem view_ofR {w0 w : World} {v : Value} {acc : List (Cmd × Value)} (ho : w.ownsRow w0.heap.size 54 4 v acc.length (flat acc)) (hr : ∀ p ∈ acc, Row w p.2 (iV p.1.nums)) : CmdsV w v (acc.map Prod.fst) := by
  obtain ⟨h1, h2⟩ := ho
  rcases h2 with ⟨rfl, h0⟩ | ⟨g, cap, cur, rfl, _, h5, h6, h7, h8, h9⟩
  · have : acc = [] := List.eq_nil_of_length_eq_zero h0
    subst this; exact CmdsV.nil w
  · refine ⟨_, cap, by rw [List.length_map], by rw [List.length_map]; exact h6, by unfold maxLen at h7; exact h7, fun _ => ⟨g, 0, rfl, fun j x hj => ?_⟩⟩
    rw [List.getElem?_map] at hj
    obtain ⟨p, hp, rfl⟩ := Option.map_eq_some_iff.1 hj
    have hrow := hr p (List.mem_of_getElem? hp)
    obtain ⟨A', c', hs⟩ := hrow.shape
    have hjl : j < acc.length := (List.getElem?_eq_some_iff.1 hp).1
    have key : ∀ i, i < 4 → w.cell? ⟨g, 0 + j * 4 + i, none⟩ = (cells4 p)[i]? := by
      intro i hi
      rw [show w.cell? ⟨g, 0 + j * 4 + i, none⟩ = cur[0 + j * 4 + i]? from cell_of_row w g _ cur _ (0, 0) h5, Nat.zero_add]
      have h10 : (cur.toList.take (acc.length * 4))[j * 4 + i]? = (flat acc)[j * 4 + i]? := by rw [h9]
      rw [List.getElem?_take, if_pos (by omega), flat_get acc j i p hp hi] at h10
      simpa using h10
    refine ⟨A', (iV p.1.nums).length, c', ?_, ?_, ?_, ?_, ?_⟩
    · have := key 0 (by omega); simpa [cells4] using this
    · exact key 1 (by omega)
    · have := key 2 (by omega); rw [← hs]; exact this
    · exact key 3 (by omega)
    · rw [← hs]; exact hrow
def MildR (l : List Cmd) : Prop := ∀ c ∈ l, c.kind ≤ 255 ∧ c.name.length ≤ 1099511627776 ∧ c.nums.length ≤ 1099511627776 ∧ c.text.length ≤ 1099511627776
set_option maxHeartbeats 2000000 in
set_option maxRecDepth 100000 in
theorem ValidR_any (A : Option Addr) (n c : Nat) (l : List Cmd) (w : World) (h : CmdsV w (.slice A n c) l) (hk : MildR l) : Calls Tryd.prog 12 #[.slice A n c] w (BPost w (validL l)) := by
  obtain ⟨h0, h1, h2, h3⟩ := h.inj
  subst h0
  obtain ⟨V, hV⟩ : ∃ V, V = validL l := ⟨_, rfl⟩
  have HV := Lib.hid hV
  rw [← hV]
  have H3 := Lib.hid h3
  have HKI := Lib.hid hk
  clear hV h3 hk
  go_enter Tryd.func12, Tryd.ntmps12
  go_wp2_with fail
  go_loopw [3] (fun i wr => ∃ k : Nat, k ≤ l.length ∧ i = .int .i64 k ∧ Hid ((l.take k).all validC = true) ∧ Ext w wr) (fun i _ => l.length - (intOf i).toNat)
  case atStart => exact ⟨0, by omega, rfl, Lib.hid rfl, Ext.refl _⟩
  case round =>
    obtain ⟨k, hk, rfl, HK, hx⟩ := hrel
    by_cases hlt : k < l.length
    · obtain ⟨b, off, rfl, hc⟩ := H3.out (by omega)
      obtain ⟨A', n', c', g0, g1, g2, g3, g4⟩ := hc k l[k] (List.getElem?_eq_getElem hlt)
      obtain ⟨x, hxd⟩ : ∃ x, x = l[k] := ⟨_, rfl⟩
      have hxm : x ∈ l := by rw [hxd]; exact List.getElem_mem hlt
      obtain ⟨k1, k2, k3, k4⟩ := HKI.out x hxm
      have hT : (l.take (k + 1)).all validC = ((l.take k).all validC && validC x) := by
        rw [List.take_succ_eq_append_getElem hlt, List.all_append, hxd]; simp
      have hT2 : validC x = false → validL l = false := fun h => by
        rcases hd : validL l with _ | _
        · rfl
        · rw [(validL_iff.1 hd).2 x hxm] at h; cases h
      rw [← hxd] at g0 g1 g3 g4
      have e0 := hx.cell g0
      have e1 := hx.cell g1
      have e2 := hx.cell g2
      have e3 := hx.cell g3
      have hn' := g4.inj.1
      rw [iV_len] at hn'
      obtain ⟨vb, hvb⟩ : ∃ vb, vb = validC x := ⟨_, rfl⟩
      rw [← hvb] at hT hT2
      have HT := Lib.hid hT
      have HT2 := Lib.hid hT2
      have HVB : Hid (vb = (decide (1 ≤ x.kind) && decide (x.kind ≤ 11) && (namedB x.kind == !x.name.isEmpty) && cntB x.kind n' && (x.name.isEmpty || isName x.name) && endB x.text && decide (x.text.length ≤ 65536) && (x.kind == 1 || x.text.isEmpty))) := Lib.hid (by rw [hvb, ← one_valid_eq, hn']; rfl)
      have hn9 : n' ≤ 9223372036854775807 := by omega
      clear hT hT2 hxd hvb hc g0 g1 g2 g3 g4 hxm hn'
      go_wp2_with fail
      refine (One_any x.kind x.name A' n' c' x.text _ k1 hn9 k2 k4 vb HVB).mono ?_
      rintro e w2 ⟨rfl, hx2⟩
      have hx3 := hx.trans hx2
      clear e0 e1 e2 e3 hx2
      cases vb with
      | false =>
        have HF : Hid (V = false) := Lib.hid (by rw [HV.out]; exact HT2.out rfl)
        clear HT HT2 HV HVB
        go_wp2_with fail
        go_ret
        exact ⟨by rw [HF.out]; rfl, hx3⟩
      | true =>
        have HT3 : Hid ((l.take (k + 1)).all validC = true) := Lib.hid (by rw [HT.out, HK.out]; rfl)
        clear HT HT2 HK HVB
        go_wp2_with fail
        go_roundw
        case rel => exact ⟨k + 1, by omega, by go_num, HT3, hx3⟩
        case measure => simp [intOf]; omega
    · obtain rfl : k = l.length := by omega
      have HF : Hid (V = decide (l.length ≤ 1000)) := Lib.hid (by rw [HV.out]; have := HK.out; rw [List.take_length] at this; unfold validL; rw [this, Bool.and_true])
      clear HV HK
      go_wp2_with fail
      go_ret
      exact ⟨by rw [HF.out]; simp; omega, hx⟩
theorem own_shape {w : World} {base : Nat} {e : TypeId} {size : Nat} {v : Value} {n : Nat} {xs : List Value} (h : w.ownsRow base e size v n xs) : ∃ A c, v = .slice A n c := by
  rcases h.2 with ⟨hv, h0⟩ | ⟨g, cap, cur, hv, _⟩
  · exact ⟨none, 0, by rw [hv, h0]⟩
  · exact ⟨_, _, hv⟩
def PlainPost (w : World) (l : List Cmd) (e : Ending) (w' : World) : Prop := (∃ A n c, e = .returned (.slice A n c) ∧ CmdsV w' (.slice A n c) l) ∧ Ext w w'
set_option maxHeartbeats 4000000 in
set_option maxRecDepth 100000 in
theorem plain_any (A : Option Addr) (n c : Nat) (l : List Cmd) (w : World) (h : CmdsV w (.slice A n c) l) (hll : l.length ≤ 1099511627776) : Calls Tryd.prog 13 #[.slice A n c] w (PlainPost w l) := by
  obtain ⟨h0, h1, h2, h3⟩ := h.inj
  subst h0
  obtain ⟨i0, hi, hz0, hz1, hz2⟩ := info_parts infoCmdR
  have H3 := Lib.hid h3
  clear h3
  go_enter Tryd.func13, Tryd.ntmps13
  go_wp2_with fail
  go_loopw [3, 8] (fun v i wr => ∃ (k : Nat) (acc : List (Cmd × Value)), k ≤ l.length ∧ i = .int .i64 k ∧ acc.length = k ∧ Hid (acc.map Prod.fst = l.take k) ∧ Hid (∀ p ∈ acc, Row w p.2 (iV p.1.nums)) ∧ wr.ownsRow w.heap.size 54 4 v acc.length (flat acc) ∧ Ext w wr) (fun _ i _ => l.length - (intOf i).toNat)
  case atStart => exact ⟨0, [], by omega, rfl, rfl, Lib.hid rfl, Lib.hid (fun p hp => by cases hp), World.ownsRow_nil _ _ _ _, Ext.refl _⟩
  case round =>
    obtain ⟨k, acc, hk, rfl, hak, HA, HR, hown, hE⟩ := hrel
    have HAK := Lib.hid hak
    clear hak
    obtain ⟨A0, c0, rfl⟩ := own_shape hown
    by_cases hlt : k < l.length
    · obtain ⟨b, off, rfl, hc⟩ := H3.out (by omega)
      obtain ⟨A', n', c', g0, g1, g2, g3, g4⟩ := hc k l[k] (List.getElem?_eq_getElem hlt)
      obtain ⟨x, hxd⟩ : ∃ x, x = l[k] := ⟨_, rfl⟩
      rw [← hxd] at g0 g1 g3 g4
      have e0 := hE.cell g0
      have e1 := hE.cell g1
      have e2 := hE.cell g2
      have e3 := hE.cell g3
      have HA2 : Hid ((acc ++ [(x, Value.slice A' n' c')]).map Prod.fst = l.take (k + 1)) := Lib.hid (by
        rw [List.map_append, HA.out, List.take_succ_eq_append_getElem hlt, hxd]; rfl)
      have HR2 : Hid (∀ p ∈ acc ++ [(x, Value.slice A' n' c')], Row w p.2 (iV p.1.nums)) := Lib.hid (fun p hp => by
        rw [List.mem_append, List.mem_singleton] at hp
        rcases hp with hp | rfl
        · exact HR.out p hp
        · exact g4)
      have hB1 := hE.size
      have hal : acc.length ≤ 1099511627776 := by have := HAK.out; omega
      obtain ⟨W5, hW5⟩ : ∃ W5, W5 = wr.alloc (.cells #[.int .u8 (x.kind : Int), .string (str x.name), .slice A' n' c', .string (str x.text)] 40) := ⟨_, rfl⟩
      have Bc : Box W5 wr.heap.size 40 #[.int .u8 (x.kind : Int), .string (str x.name), .slice A' n' c', .string (str x.text)] := by rw [hW5]; exact Box.new wr _ _
      have hX5 : Ext w W5 := by rw [hW5]; exact hE.alloc _
      have hown5 := hown.alloc (.cells #[.int .u8 (x.kind : Int), .string (str x.name), .slice A' n' c', .string (str x.text)] 40)
      rw [← hW5] at hown5
      clear hxd hc g0 g1 g2 g3 g4 HA HR
      go_upto_region 5 with fail
      simp only [← hW5]
      clear hW5 e0 e1 e2 e3
      have z0 := Bc.c0
      have z1 := Bc.c1
      have z2 := Bc.cell 2
      have z3 := Bc.cell 3
      have hB5 := hX5.size
      go_wp2_with (at_builtin; refine wpList_append_own _ rfl _ _ 27 rfl w.heap.size 54 i0 (.agg #[.int .u8 0, .string ⟨#[]⟩, .slice none 0 0, .string ⟨#[]⟩]) 4 64 Tryd.underlying27 hi hz0 hz1 hz2 rfl (by decide) _ _ _ rfl (hown5.alloc _) ⟨W5.heap.size, 0, none⟩ 1 1 [.int .u8 (x.kind : Int), .string (str x.name), .slice A' n' c', .string (str x.text)] rfl rfl ?c1 ?c2 ?c3 ?c4 ?c5 ?_)
      case c1 =>
        intro j u hj
        match j, hj with
        | 0, hj => simp at hj; subst hj; simp [Addr.add]
        | 1, hj => simp at hj; subst hj; simp [Addr.add]
        | 2, hj => simp at hj; subst hj; simp [Addr.add]
        | 3, hj => simp at hj; subst hj; simp [Addr.add]
      case c2 => intro u hu; simp at hu; rcases hu with rfl | rfl | rfl | rfl <;> rfl
      case c3 => unfold maxLen; omega
      case c4 => omega
      case c5 => simp; omega
      intro v' w7 hown' hgrow _
      have hE7 : Ext w w7 := Below.grown (hX5.alloc _) hgrow (by simp; omega) (fun k hk => (hown5.lt k hk).1)
      have hown7 : w7.ownsRow w.heap.size 54 4 v' (acc ++ [(x, Value.slice A' n' c')]).length (flat (acc ++ [(x, Value.slice A' n' c')])) := by
        rw [List.length_append, List.length_singleton, flat_append]
        have : flat [(x, Value.slice A' n' c')] = cells4 (x, Value.slice A' n' c') := by simp [flat]
        rw [this]; exact hown'
      have hl7 : (acc ++ [(x, Value.slice A' n' c')]).length = k + 1 := by rw [List.length_append, HAK.out]; rfl
      clear hown' hgrow hown hown5 Bc z0 z1 z2 z3 hX5 hE
      go_wp2_with fail
      go_roundw
      case rel => exact ⟨k + 1, _, by omega, by go_num, hl7, HA2, HR2, hown7, hE7⟩
      case measure => simp [intOf]; omega
    · obtain rfl : k = l.length := by omega
      have hv := view_ofR (w0 := w) hown (fun p hp => (HR.out p hp).ext hE)
      have hma := HA.out
      rw [List.take_length] at hma
      rw [hma] at hv
      go_wp2_with fail
      go_ret
      exact ⟨⟨_, _, _, rfl, hv⟩, hE⟩
end Go.Proofs.YtnbmmgeoglfbdaaDoor.Sc

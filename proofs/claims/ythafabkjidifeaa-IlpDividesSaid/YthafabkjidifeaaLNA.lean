/- append of many elements; copies of rows. -/
import Derived.Test.YthafabkjidifeaaLN2
import Derived.Laws.AppendOwnNone
set_option linter.unusedVariables false
set_option linter.unusedSimpArgs false
namespace Go.Proofs.Ythafabkjidifeaa.Lp
open Go.RowKit Go.Proofs.Ythafabkjidifeaa.Big Go.Proofs.Ythafabkjidifeaa.Rt

theorem wp_pushN {w : World} {o : Oper} {a : Act} {K : Act → World → Prop} {Q : Exit → Act → World → Prop}
    (s x : Operand) (t : TypeId) (hop : o.op = Op.call { callee := Callee.builtin Builtin.append, args := #[s, x], argTypes := #[t, t] })
    (base : Nat) (e : TypeId) (i : TypeInfo) (z : Value) (k bytes : Nat) (h1 : Try.prog.underlying t = some (.slice e)) (h2 : Try.prog.info? e = some i) (h3 : i.zero = some z) (h4 : i.size = k) (h5 : i.bytes = bytes) (h6 : z.cells.size = k) (hz : ∀ u ∈ z.cells.toList, noU u = true)
    (v : Value) (n : Nat) (xs : List Value) (hs : a.eval s = v) (hown : OwnX w base e k v n xs) (ad : Addr) (m : Nat) (news : List Value) (c : Nat) (hx : a.eval x = .slice (some ad) m c) (hm0 : 0 < m) (hnl : news.length = m * k) (hnews : ∀ j y, news[j]? = some y → w.cell? (ad.add j) = some y) (h1c : ∀ y ∈ news, y.oneCell' = true) (hnu : ∀ y ∈ news, noU y = true)
    (b1 : n + m ≤ 1099511627776) (b2 : bytes ≤ 128) (hbase : base ≤ w.heap.size)
    (hK : ∀ v' w', OwnX w' base e k v' (n + m) (xs ++ news) → Fr (fun g => v.ownBlock = some g) w w' → Fresh w v v' → K (a.put o.dst v') w') :
    Oper.wp Try.prog o a w K Q := by
  subst h4 h5
  have hbyt : (n + m) * i.bytes ≤ 140737488355328 := Nat.le_trans (Nat.mul_le_mul b1 b2) (by decide)
  have hml : n + m ≤ maxLen := by unfold maxLen; omega
  have hlen : (xs ++ news).length = (n + m) * i.size := by rw [List.length_append, hown.1, hnl, Nat.add_mul]
  have hl1 : news.length = m * i.size := hnl
  -- where a new block comes
  have grown : ∀ old, (∀ u ∈ xs, noU u = true) → OwnX (w.drew.alloc (.cells (xs.toArray ++ news.toArray ++ Builtin.zeroCells z.cells (grownCap w (n + m) old e - (n + m))) e)) base e i.size (.slice (some ⟨w.heap.size, 0, none⟩) (n + m) (grownCap w (n + m) old e)) (n + m) (xs ++ news) := by
    intro old hxu
    have hge := grownCap_ge w (n + m) old e
    have hcm : grownCap w (n + m) old e ≤ maxLen := grownCap_le_maxLen w (n + m) old e hml
    refine ⟨hlen, .inr ⟨w.heap.size, _, _, rfl, hbase, heap_alloc_new w.drew _, hge, hcm, ?_, ?_, ?_⟩⟩
    · simp only [Array.size_append, List.size_toArray, size_zeroCells, h6, hown.1, hnl]
      obtain ⟨d, hd⟩ : ∃ d, grownCap w (n + m) old e = n + m + d := ⟨grownCap w (n + m) old e - (n + m), by omega⟩
      rw [hd, show n + m + d - (n + m) = d by omega, Nat.add_mul, Nat.add_mul]
    · simp only [Array.toList_append, List.append_assoc]
      rw [← List.append_assoc, ← hlen]
      exact List.take_left
    · intro u hu
      simp only [Array.toList_append, List.mem_append] at hu
      rcases hu with (hu | hu) | hu
      · exact hxu u hu
      · exact hnu u hu
      · exact zeroCells_noU hz _ u hu
  have frN : ∀ (obj : Obj) (P : Nat → Prop), Fr P w (w.drew.alloc obj) := fun obj P => ((Fr.refl P w).drew).alloc obj
  have fin : ∀ (v' : Value) (w' : World), (Builtin.append_ #[t, t] o.type #[v, .slice (some ad) m c]).run Try.prog w = .ok v' w' → K (a.put o.dst v') w' → Oper.wp Try.prog o a w K Q := by
    intro v' w' hrun hr
    unfold Oper.wp
    simp [execOp, hop, resolve, invoke, builtin, hs, hx, hrun, Result.andThen]
    exact hr
  rcases hown.2 with ⟨rfl, rfl⟩ | ⟨g, cap, cur, rfl, hb, g5, g6, g7, g8, g9, g10⟩
  · have hx0 : xs = [] := List.eq_nil_of_length_eq_zero (by simpa using hown.1)
    subst hx0
    have hr := run_append_nil (P := Try.prog) w t o.type e i z h1 h2 h3 ad m c news hl1 hnews hm0 (by omega) (by rw [Nat.zero_add] at hbyt; omega)
    have hgr := grown 0 (fun u hu => by cases hu)
    simp only [Nat.zero_add, List.nil_append, Array.empty_append] at hgr hr hK
    refine fin _ _ hr (hK _ _ hgr (frN _ _) (.inr ⟨_, rfl, Nat.le_refl _⟩))
  · by_cases hcap : n + m ≤ cap
    · have hnk : n * i.size + m * i.size ≤ cap * i.size := by rw [← Nat.add_mul]; exact Nat.mul_le_mul_right _ hcap
      have hr := run_append_room (P := Try.prog) w t o.type e i h1 h2 g n cap cur g5 ad m c news hl1 hnews h1c hcap (by rw [hnl, g8]; exact hnk)
      have hcn : (cur.toList.take (n * i.size)).length = n * i.size := by rw [List.length_take, Array.length_toList, g8]; omega
      have hmem : ∀ u ∈ cur.toList.take (n * i.size) ++ news ++ cur.toList.drop (n * i.size + news.length), noU u = true := by
        intro u hu
        simp only [List.mem_append] at hu
        rcases hu with (hu | hu) | hu
        · exact g10 u (List.mem_of_mem_take hu)
        · exact hnu u hu
        · exact g10 u (List.mem_of_mem_drop hu)
      refine fin _ _ hr (hK _ _ ⟨hlen, .inr ⟨g, cap, _, rfl, hb, setRow_heap w g cur _ e _ g5, hcap, g7, ?_, ?_, by simpa using hmem⟩⟩ ?_ (.inl rfl))
      · simp only [List.size_toArray, List.length_append, hcn, List.length_drop, Array.length_toList, hnl, g8]; omega
      · rw [g9, ← hlen]; exact List.take_left
      · refine ⟨rfl, rfl, rfl, by simp [World.setRow], fun k _ hne => setRow_other w g k _ (fun e' => hne (by rw [e']; rfl)), fun b' j zz hzz => ?_⟩
        by_cases e' : b' = g
        · subst e'
          rw [cell_of_row w b' j cur _ (0, 0) g5] at hzz
          have := g10 _ (Array.mem_toList_iff.2 (Array.mem_of_getElem? hzz))
          cases this
        · rw [World.cell?_of_block (w := w) (w' := w.setRow g _) (a := ⟨b', j, none⟩) (setRow_other w g b' _ e')]; exact hzz
    · have holds : ∀ j u, xs[j]? = some u → w.cell? ((⟨g, 0, none⟩ : Addr).add j) = some u := fun j u hj => by
        rw [Lib.add_plain, Nat.zero_add, cell_of_row w g j cur _ (0, 0) g5, ← Array.getElem?_toList]
        rw [← g9, List.getElem?_take] at hj
        split at hj
        · exact hj
        · cases hj
      have hlt : cap < n + m := Nat.lt_of_not_le hcap
      have hr := run_append_grow (P := Try.prog) w t o.type e i z h1 h2 h3 ⟨g, 0, none⟩ n cap xs hown.1 holds ad m c news hl1 hnews hlt (by omega) (growslice_fits hlt hbyt)
      refine fin _ _ hr (hK _ _ (grown cap (fun u hu => g10 u (by rw [← g9] at hu; exact List.mem_of_mem_take hu))) (frN _ _) (.inr ⟨_, rfl, Nat.le_refl _⟩))
theorem wpList_pushN {w : World} {ops : Array Oper} {rest : List Oper} {o : Oper} {a : Act} {Q : Exit → Act → World → Prop}
    (hg : o.guard = none) (s x : Operand) (t : TypeId) (hop : o.op = Op.call { callee := Callee.builtin Builtin.append, args := #[s, x], argTypes := #[t, t] })
    (base : Nat) (e : TypeId) (i : TypeInfo) (z : Value) (k bytes : Nat) (h1 : Try.prog.underlying t = some (.slice e)) (h2 : Try.prog.info? e = some i) (h3 : i.zero = some z) (h4 : i.size = k) (h5 : i.bytes = bytes) (h6 : z.cells.size = k) (hz : ∀ u ∈ z.cells.toList, noU u = true)
    (v : Value) (n : Nat) (xs : List Value) (hs : a.eval s = v) (hown : OwnX w base e k v n xs) (ad : Addr) (m : Nat) (news : List Value) (c : Nat) (hx : a.eval x = .slice (some ad) m c) (hm0 : 0 < m) (hnl : news.length = m * k) (hnews : ∀ j y, news[j]? = some y → w.cell? (ad.add j) = some y) (h1c : ∀ y ∈ news, y.oneCell' = true) (hnu : ∀ y ∈ news, noU y = true)
    (b1 : n + m ≤ 1099511627776) (b2 : bytes ≤ 128) (hbase : base ≤ w.heap.size)
    (hK : ∀ v' w', OwnX w' base e k v' (n + m) (xs ++ news) → Fr (fun g => v.ownBlock = some g) w w' → Fresh w v v' → wpList Try.prog ops Q rest (a.put o.dst v') w') :
    wpList Try.prog ops Q (o :: rest) a w :=
  wpList_plain hg fun _ hK' => wp_pushN s x t hop base e i z k bytes h1 h2 h3 h4 h5 h6 hz v n xs hs hown ad m news c hx hm0 hnl hnews h1c hnu b1 b2 hbase (fun v' w' h1 h2 h3 => hK' _ _ (hK v' w' h1 h2 h3))
/-- the same at a step of a region that draws -/
theorem step_pushN {w : World} {ops : Array Oper} {o : Oper} {a : Act} {K : Act → World → Prop} {Q : Exit → Act → World → Prop} {Z : Prop}
    (hg : o.guard = none) (s x : Operand) (t : TypeId) (hop : o.op = Op.call { callee := Callee.builtin Builtin.append, args := #[s, x], argTypes := #[t, t] })
    (base : Nat) (e : TypeId) (i : TypeInfo) (z : Value) (k bytes : Nat) (h1 : Try.prog.underlying t = some (.slice e)) (h2 : Try.prog.info? e = some i) (h3 : i.zero = some z) (h4 : i.size = k) (h5 : i.bytes = bytes) (h6 : z.cells.size = k) (hz : ∀ u ∈ z.cells.toList, noU u = true)
    (v : Value) (n : Nat) (xs : List Value) (hs : a.eval s = v) (hown : OwnX w base e k v n xs) (ad : Addr) (m : Nat) (news : List Value) (c : Nat) (hx : a.eval x = .slice (some ad) m c) (hm0 : 0 < m) (hnl : news.length = m * k) (hnews : ∀ j y, news[j]? = some y → w.cell? (ad.add j) = some y) (h1c : ∀ y ∈ news, y.oneCell' = true) (hnu : ∀ y ∈ news, noU y = true)
    (b1 : n + m ≤ 1099511627776) (b2 : bytes ≤ 128) (hbase : base ≤ w.heap.size)
    (hK : ∀ v' w', OwnX w' base e k v' (n + m) (xs ++ news) → Fr (fun g => v.ownBlock = some g) w w' → Fresh w v v' → K (a.put o.dst v') w') :
    if Region.wanted o (yielded ops a.tmps) = true then Oper.wp Try.prog o a w K Q else Z := by
  have hw : Region.wanted o (yielded ops a.tmps) = true := by simp [Region.wanted, hg]
  rw [if_pos hw]
  exact wp_pushN s x t hop base e i z k bytes h1 h2 h3 h4 h5 h6 hz v n xs hs hown ad m news c hx hm0 hnl hnews h1c hnu b1 b2 hbase hK

theorem run_append_zero {w : World} {base : Nat} {t ty e : TypeId} {i : TypeInfo} {k n : Nat} {v : Value} {xs : List Value} (ht : Try.prog.underlying t = some (.slice e)) (hi : Try.prog.info? e = some i) (hown : OwnX w base e k v n xs) (A : Option Addr) (c : Nat) :
    (Builtin.append_ #[t, t] ty #[v, .slice A 0 c]).run Try.prog w = .ok v w := by
  rcases hown.2 with ⟨rfl, rfl⟩ | ⟨g, cap, cur, rfl, _, _, hnc, _⟩
  · cases A with
    | none => simp [Builtin.append_, run_underlying ht, sizeOf, typeInfo, hi, Builtin.lenOf, Builtin.firstCells]
    | some ad =>
      have hf := run_firstCells_some (P := Try.prog) w i.size 0 ad 0 c [] (by simp) (fun j v hj => by simp at hj)
      simp [Builtin.append_, run_underlying ht, sizeOf, typeInfo, hi, Builtin.lenOf, hf]
  · cases A with
    | none => simp [Builtin.append_, run_underlying ht, sizeOf, typeInfo, hi, Builtin.lenOf, Builtin.firstCells, hnc, storeCells]
    | some ad =>
      have hf := run_firstCells_some (P := Try.prog) w i.size 0 ad 0 c [] (by simp) (fun j v hj => by simp at hj)
      simp [Builtin.append_, run_underlying ht, sizeOf, typeInfo, hi, Builtin.lenOf, hf, hnc, storeCells]
/-- append of a list that may be empty -/
theorem wp_pushA {w : World} {o : Oper} {a : Act} {K : Act → World → Prop} {Q : Exit → Act → World → Prop}
    (s x : Operand) (t : TypeId) (hop : o.op = Op.call { callee := Callee.builtin Builtin.append, args := #[s, x], argTypes := #[t, t] })
    (base : Nat) (e : TypeId) (i : TypeInfo) (z : Value) (k bytes : Nat) (h1 : Try.prog.underlying t = some (.slice e)) (h2 : Try.prog.info? e = some i) (h3 : i.zero = some z) (h4 : i.size = k) (h5 : i.bytes = bytes) (h6 : z.cells.size = k) (hz : ∀ u ∈ z.cells.toList, noU u = true)
    (v : Value) (n : Nat) (xs : List Value) (hs : a.eval s = v) (hown : OwnX w base e k v n xs) (A : Option Addr) (m : Nat) (news : List Value) (c : Nat) (hx : a.eval x = .slice A m c) (hnl : news.length = m * k) (hsrc : 0 < m → ∃ ad, A = some ad ∧ ∀ j y, news[j]? = some y → w.cell? (ad.add j) = some y) (h1c : ∀ y ∈ news, y.oneCell' = true) (hnu : ∀ y ∈ news, noU y = true)
    (b1 : n + m ≤ 1099511627776) (b2 : bytes ≤ 128) (hbase : base ≤ w.heap.size)
    (hK : ∀ v' w', OwnX w' base e k v' (n + m) (xs ++ news) → Fr (fun g => v.ownBlock = some g) w w' → Fresh w v v' → K (a.put o.dst v') w') :
    Oper.wp Try.prog o a w K Q := by
  rcases Nat.eq_zero_or_pos m with hm | hm
  · subst hm
    have hn0 : news = [] := List.eq_nil_of_length_eq_zero (by simpa using hnl)
    subst hn0
    have hr := run_append_zero (ty := o.type) h1 h2 hown A c
    unfold Oper.wp
    simp [execOp, hop, resolve, invoke, builtin, hs, hx, hr, Result.andThen]
    exact hK v w (by simpa using hown) (Fr.refl _ _) (.inl rfl)
  · obtain ⟨ad, rfl, hnews⟩ := hsrc hm
    exact wp_pushN s x t hop base e i z k bytes h1 h2 h3 h4 h5 h6 hz v n xs hs hown ad m news c hx hm hnl hnews h1c hnu b1 b2 hbase hK
theorem step_pushA {w : World} {ops : Array Oper} {o : Oper} {a : Act} {K : Act → World → Prop} {Q : Exit → Act → World → Prop} {Z : Prop}
    (hg : o.guard = none) (s x : Operand) (t : TypeId) (hop : o.op = Op.call { callee := Callee.builtin Builtin.append, args := #[s, x], argTypes := #[t, t] })
    (base : Nat) (e : TypeId) (i : TypeInfo) (z : Value) (k bytes : Nat) (h1 : Try.prog.underlying t = some (.slice e)) (h2 : Try.prog.info? e = some i) (h3 : i.zero = some z) (h4 : i.size = k) (h5 : i.bytes = bytes) (h6 : z.cells.size = k) (hz : ∀ u ∈ z.cells.toList, noU u = true)
    (v : Value) (n : Nat) (xs : List Value) (hs : a.eval s = v) (hown : OwnX w base e k v n xs) (A : Option Addr) (m : Nat) (news : List Value) (c : Nat) (hx : a.eval x = .slice A m c) (hnl : news.length = m * k) (hsrc : 0 < m → ∃ ad, A = some ad ∧ ∀ j y, news[j]? = some y → w.cell? (ad.add j) = some y) (h1c : ∀ y ∈ news, y.oneCell' = true) (hnu : ∀ y ∈ news, noU y = true)
    (b1 : n + m ≤ 1099511627776) (b2 : bytes ≤ 128) (hbase : base ≤ w.heap.size)
    (hK : ∀ v' w', OwnX w' base e k v' (n + m) (xs ++ news) → Fr (fun g => v.ownBlock = some g) w w' → Fresh w v v' → K (a.put o.dst v') w') :
    if Region.wanted o (yielded ops a.tmps) = true then Oper.wp Try.prog o a w K Q else Z := by
  have hw : Region.wanted o (yielded ops a.tmps) = true := by simp [Region.wanted, hg]
  rw [if_pos hw]
  exact wp_pushA s x t hop base e i z k bytes h1 h2 h3 h4 h5 h6 hz v n xs hs hown A m news c hx hnl hsrc h1c hnu b1 b2 hbase hK
/-- an empty own row that has a block -/
theorem OwnX.empty (w : World) (E : TypeId) (k : Nat) : OwnX (w.alloc (.cells #[] E)) w.heap.size E k (.slice (some ⟨w.heap.size, 0, none⟩) 0 0) 0 [] :=
  ⟨by simp, .inr ⟨w.heap.size, 0, #[], rfl, Nat.le_refl _, heap_alloc_new w _, Nat.le_refl _, by unfold maxLen; omega, by simp, by simp, fun u hu => by simp at hu⟩⟩

end Go.Proofs.Ythafabkjidifeaa.Lp

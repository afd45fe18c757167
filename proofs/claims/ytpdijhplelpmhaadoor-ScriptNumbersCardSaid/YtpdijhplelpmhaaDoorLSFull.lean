/- Walk: the law ScriptFull. -/
import Derived.Test.YtpdijhplelpmhaaDoorSLaws
import Derived.Test.YtpdijhplelpmhaaDoorLSErrors
import Derived.Test.YtpdijhplelpmhaaDoorLSJoinsA
set_option linter.unusedVariables false
set_option linter.unusedSimpArgs false
namespace Go.Proofs.YtpdijhplelpmhaaDoor.Sc
open Go.RowKit Go.Proofs.YtpdijhplelpmhaaDoor.Big

def trace : Cmd := ⟨9, [], [], []⟩
theorem trace_good : Good [trace] := fun c hc => by
  simp only [List.mem_singleton] at hc; subst hc
  exact ⟨by decide, fun v hv => by cases hv⟩
theorem trace_form : formatC trace = [116, 114, 97, 99, 101, 10] := rfl
theorem traces_good (n : Nat) : Good (List.replicate n trace) := fun c hc => by
  obtain ⟨_, rfl⟩ := List.mem_replicate.1 hc
  exact trace_good trace (by simp)
theorem traces_form : ∀ n, formatL (List.replicate n trace) = Lib.repeatL [116, 114, 97, 99, 101, 10] n
  | 0 => rfl
  | n + 1 => by rw [List.replicate_succ, formatL_cons, traces_form n, trace_form]; rfl
theorem traces_lines : ∀ n, linesL (List.replicate n trace) = n
  | 0 => rfl
  | n + 1 => by rw [List.replicate_succ, linesL_cons, traces_lines n]; simp [trace, nl]; omega
theorem step_q (r : BL) : step ([63, 10] ++ r) = .err 3 := by
  have h : cutB 10 ([63, 10] ++ r) = some ([63], r) := by
    rw [show [63, 10] ++ r = [63] ++ 10 :: r from rfl]
    exact cutB_some (by decide)
  unfold step
  rw [h]
  simp only []
  have h2 : firstL [63] = none := by decide
  rw [h2]
/-- 1000 commands, and something behind them -/
theorem full_err (t : BL) (ht : t ≠ []) : parse (formatL (List.replicate 1000 trace) ++ t) = .err 1001 5 := by
  unfold parse
  rw [parseL_format _ _ 0 1 t (traces_good 1000) (by rw [List.length_replicate]; omega) (by omega), traces_lines, List.length_replicate]
  unfold parseL
  rw [if_neg ht, if_pos (by omega)]
  rfl
/-- Parse, at a text whose outcome is known: the row is the call's own -/
def CollPost (w : World) (l : List Cmd) (e : Ending) (w' : World) : Prop := (∃ A n c acc, e = .returned (.tuple #[.slice A n c, .int .i64 0, .int .i64 0]) ∧ acc.map Prod.fst = l ∧ Coll w w' (.slice A n c) acc) ∧ Ext w w'
theorem Parse_own (s : ByteArray) (l : List Cmd) (w : World) (hs : s.size < 2147483648) (he : Env w) (hf : FormatsOK w) (h : parse s.data.toList = .ok l) : Calls Tryd.prog 13 #[.string s] w (CollPost w l) := by
  refine (Parse_coll s w hs he hf).mono ?_
  rintro e w' ⟨⟨A, n, c, a, er, rfl, h1, _⟩, hx⟩
  obtain ⟨⟨acc, h2, h3⟩, rfl, rfl⟩ := h1 l h
  exact ⟨⟨A, n, c, acc, rfl, h2, h3⟩, hx⟩
theorem row_nil {w : World} (w' : World) {v : Value} (h : Row w v (iV [])) : Row w' v (iV []) := by
  obtain ⟨A, c, rfl, h1, h2, _⟩ := h
  exact ⟨A, c, rfl, h1, h2, fun hn => absurd hn (by simp [iV])⟩
theorem kinds_traces (n : Nat) : Kinds (List.replicate n trace) := fun c hc => by
  obtain ⟨_, rfl⟩ := List.mem_replicate.1 hc
  exact ⟨by decide, by decide, by decide⟩
theorem validL_more (n : Nat) (h : 1000 < n) : validL (List.replicate n trace) = false := by
  unfold validL
  rw [List.length_replicate, decide_eq_false (by omega)]; simp
/-- after one more: 1001 commands -/
theorem view_more {w0 w w' : World} {v v' : Value} {acc : List (Cmd × Value)} {n : Nat} {A' : Option Addr} {n' c' : Nat} (hacc : acc.map Prod.fst = List.replicate n trace) (h : Coll w0 w v acc) (hr : Row w (.slice A' n' c') (iV trace.nums)) (ho : w'.ownsRow w0.heap.size 42 4 v' (acc.length + 1) (flat acc ++ cells4 (trace, .slice A' n' c'))) : CmdsV w' v' (List.replicate (n + 1) trace) := by
  have e : (acc ++ [(trace, Value.slice A' n' c')]).map Prod.fst = List.replicate (n + 1) trace := by
    rw [List.map_append, hacc, List.replicate_succ']; rfl
  rw [← e]
  refine view_of (w0 := w0) ?_ ?_
  · rw [List.length_append, List.length_singleton, flat_append]
    have : flat [(trace, Value.slice A' n' c')] = cells4 (trace, .slice A' n' c') := by simp [flat]
    rw [this]; exact ho
  · intro p hp
    rw [List.mem_append, List.mem_singleton] at hp
    rcases hp with hp | rfl
    · have h1 : p.1 ∈ List.replicate n trace := by rw [← hacc]; exact List.mem_map_of_mem hp
      obtain ⟨_, h2⟩ := List.mem_replicate.1 h1
      have h3 := (h.rows p hp).1
      rw [h2] at h3 ⊢
      exact row_nil w' h3
    · exact row_nil w' hr
theorem repeat_any (s : ByteArray) (c : Int) (k : Nat) (w : World) (hc : c = k) (hk : k ≤ 1000) (hs : s.size ≤ 10) : Calls Tryd.prog 31 #[.string s, .int .i64 c] w (fun e w' => e = .returned (.string (str (Lib.repeatL s.data.toList k))) ∧ Ext w w') := by
  subst hc
  refine (Tryd.strings_Repeat s k w (by omega) (Nat.le_trans (Nat.mul_le_mul hs hk) (by omega))).mono ?_
  rintro e w' ⟨rfl, hb⟩
  exact ⟨rfl, hb⟩
/-- an append that stands behind a guard -/
theorem wpList_append_wanted {P : Program} {w : World} {ops : Array Oper} {rest : List Oper} {o : Oper} {a : Act} {Q : Exit → Act → World → Prop} (hw : Region.wanted o (yielded ops a.tmps) = true) (s x : Operand) (t : TypeId)
    (ho : o.op = .call { callee := .builtin .append, args := #[s, x], argTypes := #[t, t] })
    (base : Nat) (e : TypeId) (i : TypeInfo) (z : Value) (size bytes : Nat) (ht : P.underlying t = some (.slice e)) (hi : P.info? e = some i) (hz : i.zero = some z)
    (hsize : i.size = size) (hby : i.bytes = bytes) (hzs : z.cells.size = size) (hsz : 0 < size)
    (v : Value) (n : Nat) (xs : List Value) (hs : a.eval s = v) (hown : w.ownsRow base e size v n xs)
    (ad : Addr) (m c : Nat) (news : List Value) (hx : a.eval x = .slice (some ad) m c) (hl : news.length = m * size) (hnews : ∀ j u, news[j]? = some u → w.cell? (ad.add j) = some u) (h1 : ∀ u ∈ news, u.oneCell' = true)
    (h63 : n + m ≤ maxLen) (hbytes : (n + m) * bytes ≤ 140737488355328) (hbase : base ≤ w.heap.size)
    (h : ∀ v' w', w'.ownsRow base e size v' (n + m) (xs ++ news) → w.grownBy w' v.ownBlock → wpList P ops Q rest (a.put o.dst v') w') : wpList P ops Q (o :: rest) a w :=
  wpList_step fun _ hK => by
    rw [if_pos hw]
    exact wp_append_own w s x t ho base e i z size bytes ht hi hz hsize hby hzs hsz v n xs hs hown ad m c news hx hl hnews h1 h63 hbytes hbase fun v' w' h2 h3 _ => hK _ _ (h v' w' h2 h3)
theorem own_set0 {w : World} {base : Nat} {e : TypeId} {g n : Nat} {xs : List Value} (u : Value) (h : w.ownsRow base e 1 (.slice (some ⟨g, 0, none⟩) n n) n xs) (hn : 0 < n) : (w.setCell ⟨g, 0, none⟩ u).ownsRow base e 1 (.slice (some ⟨g, 0, none⟩) n n) n (xs.set 0 u) := by
  obtain ⟨h1, h2⟩ := h
  rcases h2 with ⟨e0, _⟩ | ⟨g', cap, cur, e0, hb, hg, hc, hm, hs, ht⟩
  · cases e0
  · injection e0 with e1 _ e3
    injection e1 with e1
    injection e1 with e1
    subst e1 e3
    refine ⟨by rw [List.length_set]; exact h1, .inr ⟨g, n, _, rfl, hb, heap_setCell_same w g 0 cur e u hg, hc, hm, by simpa using hs, ?_⟩⟩
    rw [← ht, Array.toList_setIfInBounds, List.take_set]
theorem ext_grown {w w' : World} (h : w.grownBy w' none) : Ext w w' := (Below.refl _ _).grown h (Nat.le_refl _) (fun _ e => by cases e)
theorem own_frozen {w : World} {base : Nat} {e : TypeId} {g n : Nat} {xs : List Value} (h : w.ownsRow base e 1 (.slice (some ⟨g, 0, none⟩) n n) n xs) (i : Nat) : w.frozen? ⟨g, i, none⟩ = false := by
  rcases h.2 with ⟨e0, _⟩ | ⟨g', cap, cur, e0, hb, hg, _⟩
  · cases e0
  · injection e0 with e1 _ e3
    injection e1 with e1
    injection e1 with e1
    subst e1
    simp [World.frozen?, hg]
theorem made_iV (k : Nat) : (madeCells (Value.int .i64 0).cells (k * 1)).toList = iV (List.replicate k 0) := by
  apply List.ext_getElem?
  intro j
  by_cases hj : j < k
  · simp [madeCells, Value.cells, hj, Nat.mod_one, iV]
  · simp [madeCells, Value.cells, hj, iV]
theorem own_row {w : World} {base : Nat} {e : TypeId} {v : Value} {n : Nat} {xs : List Value} (h : w.ownsRow base e 1 v n xs) : Row w v xs := by
  obtain ⟨h1, h2⟩ := h
  rcases h2 with ⟨rfl, h0⟩ | ⟨g', cap, cur, rfl, hb, hg, hc, hm, hs, ht⟩
  · have : xs = [] := List.eq_nil_of_length_eq_zero (by omega)
    subst this; exact Row.nil w none 0 (by omega)
  · refine ⟨_, cap, by rw [h1, Nat.mul_one], by omega, by unfold maxLen at hm; exact hm, fun _ => ⟨g', 0, rfl, fun j u hj => ?_⟩⟩
    rw [show w.cell? ⟨g', 0 + j, none⟩ = cur[0 + j]? from cell_of_row w g' _ cur _ (0, 0) hg, Nat.zero_add]
    rw [← ht, List.getElem?_take] at hj
    split at hj
    · simpa using hj
    · cases hj
theorem own_far {w : World} {base : Nat} {e E : TypeId} {v : Value} {n g : Nat} {xs : List Value} {cs : Array Value} (h : w.ownsRow base e 1 v n xs) (hb : Box w g E cs) (hne : E ≠ e) (i : Nat) (u : Value) : (w.setCell ⟨g, i, none⟩ u).ownsRow base e 1 v n xs := by
  obtain ⟨h1, h2⟩ := h
  refine ⟨h1, ?_⟩
  rcases h2 with h2 | ⟨g', cap, cur, e0, hb', hg, rest⟩
  · exact .inl h2
  · refine .inr ⟨g', cap, cur, e0, hb', ?_, rest⟩
    have hgg : g' ≠ g := fun e' => by
      subst e'
      unfold Box at hb
      rw [hb] at hg
      injection hg with hg
      injection hg with _ e2
      exact hne e2
    exact (Below.heap_setCell w ⟨g, i, none⟩ u g' hgg).trans hg
/-- one command in memory -/
theorem one_view {w : World} {g : Nat} {v : Value} {zs : List Int} (hB : Box w g 42 #[.int .u8 6, .string ⟨#[116]⟩, v, .string ⟨#[]⟩]) (hr : Row w v (iV zs)) : CmdsV w (.slice (some ⟨g, 0, none⟩) 1 1) [⟨6, [116], zs, []⟩] := by
  obtain ⟨A', c', hs⟩ := hr.shape
  refine ⟨_, 1, rfl, by simp, by omega, fun _ => ⟨g, 0, rfl, fun j x hj => ?_⟩⟩
  match j, hj with
  | 0, hj => simp at hj; subst hj; exact ⟨A', _, c', hB.cell 0, hB.cell 1, by rw [← hs]; exact hB.cell 2, hB.cell 3, by rw [← hs]; exact hr⟩
  | j + 1, hj => simp at hj
theorem one_kinds (zs : List Int) (h : zs.length ≤ 1001) : Kinds [⟨6, [116], zs, []⟩] := fun c hc => by
  simp only [List.mem_singleton] at hc; subst hc
  exact ⟨by show (6 : Nat) ≤ 255; omega, by show (1 : Nat) ≤ 9223372036854775807; omega, by show zs.length ≤ _; omega⟩
theorem one_valid (zs : List Int) (n : Nat) (h : zs.length = n) : validL [⟨6, [116], zs, []⟩] = validB 6 [116] n [] := by
  subst h
  unfold validL
  rw [decide_eq_true (show [(⟨6, [116], zs, []⟩ : Cmd)].length ≤ 1000 by simp)]
  simp [validC_B]
set_option maxHeartbeats 4000000 in
set_option maxRecDepth 100000 in
theorem full_any (m : Nat) (n : Int) (w : World) (hm : m ≤ 255) (he : Env w) (hf : FormatsOK w) : Calls Tryd.prog 11 #[.int .u8 m, .int .i64 n] w (BoolPost w true) := by
  obtain ⟨T, hT⟩ : ∃ T, T = formatL (List.replicate 1000 trace) := ⟨_, rfl⟩
  obtain ⟨Q, hQ⟩ : ∃ Q, Q = Lib.repeatL [63, 10] (1 + m % 3) := ⟨_, rfl⟩
  have hQ0 : Q ≠ [] := by rw [hQ, Nat.add_comm]; simp [Lib.repeatL]
  have hTl : T.length = 6000 := by rw [hT, traces_form]; simp [Lib.repeatL_length]
  have hQl : Q.length ≤ 6 := by rw [hQ]; simp [Lib.repeatL_length]; omega
  have HP1 : Hid (parse T = .ok (List.replicate 1000 trace)) := Lib.hid (by rw [hT]; exact parse_format (traces_good 1000) (by rw [List.length_replicate]; omega))
  have HP2 : Hid (parse (T ++ Q) = .err 1001 5) := Lib.hid (by rw [hT]; exact full_err Q hQ0)
  have HT : Hid (str (Lib.repeatL [116, 114, 97, 99, 101, 10] 1000) = str T) := Lib.hid (by rw [hT, traces_form])
  have HQ := Lib.hid hQ
  clear hT hQ hQ0
  obtain ⟨i0, hi, hz0, hz1, hz2⟩ := info_parts infoCmd
  go_enter Tryd.func11, Tryd.ntmps11
  go_wp2_with fail
  refine (awake_any _ he hf).mono ?_
  rintro e w1 ⟨rfl, hx1⟩
  go_wp2_with fail
  refine (repeat_any _ 1000 1000 _ rfl (by omega) (by decide)).mono ?_
  rintro e w2 ⟨rfl, hx2⟩
  rw [HT.out]
  have hX2 := hx1.trans hx2
  go_wp2_with fail
  refine (Parse_own (str T) (List.replicate 1000 trace) _ (by rw [str_size]; omega) (he.ext hX2) (hf.ext hX2) (by rw [str_list]; exact HP1.out)).mono ?_
  rintro e w3 ⟨⟨A, k, c, acc, rfl, hacc, hco⟩, hx3⟩
  have hX3 := hX2.trans hx3
  go_wp2_with fail
  refine (repeat_any _ _ (1 + m % 3) _ (by omega) (by omega) (by decide)).mono ?_
  rintro e w4 ⟨rfl, hx4⟩
  rw [show Lib.repeatL (ByteArray.mk #[63, 10]).data.toList (1 + m % 3) = Q from HQ.out.symm]
  have hX4 := hX3.trans hx4
  have hco4 := hco.ext hx4
  have hsz : ¬ 9223372036854775807 < (str T).size + (str Q).size := by rw [str_size, str_size]; omega
  go_wp2_with fail
  rw [str_append]
  refine (Parse_err (str (T ++ Q)) 1001 5 _ (by rw [str_size, List.length_append]; omega) (he.ext hX4) (hf.ext hX4) (by rw [str_list]; exact HP2.out)).mono ?_
  rintro e w5 ⟨rfl, hx5⟩
  have hX5 := hX4.trans hx5
  have hco5 := hco4.ext hx5
  have hv := hco5.view
  rw [hacc] at hv
  have hk := hv.inj.1
  rw [List.length_replicate] at hk
  subst hk
  have hcap := hv.inj.2.1
  rw [List.length_replicate] at hcap
  obtain ⟨b, off, A', n', c', rfl, p0, p1, p2, p3, p4⟩ := hv.at_ (k := 0) (by decide)
  clear hco hco4 hsz hTl
  go_wp2_with fail
  refine (Valid_true _ 1000 c (List.replicate 1000 trace) _ hv (traces_good 1000) (by rw [List.length_replicate]; omega) (he.ext hX5) (hf.ext hX5)).mono ?_
  rintro e w6 ⟨rfl, hx6⟩
  have q0 : w6.cell? ⟨b, off, none⟩ = some (.int .u8 9) := hx6.cell p0
  have q1 : w6.cell? ⟨b, off + 1, none⟩ = some (.string ⟨#[]⟩) := hx6.cell p1
  have q2 : w6.cell? ⟨b, off + 2, none⟩ = some (.slice A' n' c') := hx6.cell p2
  have q3 : w6.cell? ⟨b, off + 3, none⟩ = some (.string ⟨#[]⟩) := hx6.cell p3
  have p4' := p4.ext hx6
  have hco6 := hco5.ext hx6
  have hX6 := hX5.trans hx6
  clear p0 p1 p2 p3 p4 hco5 hv
  have hown := hco6.own
  have hal : acc.length = 1000 := by have := congrArg List.length hacc; rw [List.length_map, List.length_replicate] at this; exact this
  rw [hal] at hown
  go_wp2_with (at_builtin; go_loud (refine wpList_append_wanted rfl (.tmp 60) (.tmp 64) 23 rfl w2.heap.size 42 i0 (.agg #[.int .u8 0, .string ⟨#[]⟩, .slice none 0 0, .string ⟨#[]⟩]) 4 64 Tryd.underlying23 hi hz0 hz1 hz2 rfl (by decide) _ _ _ rfl (hown.alloc _) ⟨w6.heap.size, 0, none⟩ 1 1 [.int .u8 9, .string ⟨#[]⟩, .slice A' n' c', .string ⟨#[]⟩] rfl rfl ?c1 ?c2 ?c3 ?c4 ?c5 ?_))
  case c1 =>
    intro j u hj
    match j, hj with
    | 0, hj => simp at hj; subst hj; simp [Addr.add]
    | 1, hj => simp at hj; subst hj; simp [Addr.add]
    | 2, hj => simp at hj; subst hj; simp [Addr.add]
    | 3, hj => simp at hj; subst hj; simp [Addr.add]
  case c2 => intro u hu; simp at hu; rcases hu with rfl | rfl | rfl | rfl <;> rfl
  case c3 => unfold maxLen; omega
  case c4 => omega
  case c5 => have := (hx3.trans ((hx4.trans hx5).trans hx6)).size; simp; omega
  intro v' w7 hown' hgrow
  have hX26 := hx3.trans ((hx4.trans hx5).trans hx6)
  have hx7 : Ext w2 w7 := Below.grown (hX26.alloc _) hgrow (by have := hX26.size; simp; omega) (fun k hk => (hown.lt k hk).1)
  have hv7 := view_more hacc hco6 p4' (by rw [hal]; exact hown')
  have hX7 := hX2.trans hx7
  obtain ⟨A7, c7, hsh⟩ := hv7.shape
  rw [List.length_replicate] at hsh
  subst hsh
  clear hown hown' hgrow q0 q1 q2 q3 p4' hco6 hx3 hx4 hx5 hx6 hX26 hX3 hX4 hX5 hX6 hcap hacc hal
  go_wp2_with fail
  refine (Valid_any A7 1001 c7 (List.replicate 1001 trace) _ hv7 (kinds_traces 1001) (he.ext hX7).sg (hf.ext hX7)).mono ?_
  rintro e w8 ⟨rfl, hx8⟩
  rw [validL_more 1001 (by omega)]
  have hX8 := hX7.trans hx8
  clear hX7 hx8 hv7 hx7
  obtain ⟨i1, hi1, hy0, hy1, hy2⟩ := info_parts infoInt
  go_upto_region 9 with (at_make; refine wpList_make_full _ rfl _ _ 40 rfl w8.heap.size 3 i1 _ 1 Tryd.underlying40 hi1 hy0 hy1 .i64 .i64 _ _ 1000 rfl rfl rfl rfl (by rw [hy2]; omega) (by unfold maxLen; omega) (Nat.le_refl _) ?_; intro w9 hown hgr)
  have hx9 : Ext w8 w9 := ext_grown hgr
  have hown2 := own_set0 (.int .i64 n) (hown.alloc (.cells #[.int .u8 6, .string ⟨#[116]⟩, .slice (some ⟨w8.heap.size, 0, none⟩) 1000 1000, .string ⟨#[]⟩] 42)) (by omega)
  have hfz := own_frozen (hown.alloc (.cells #[.int .u8 6, .string ⟨#[116]⟩, .slice (some ⟨w8.heap.size, 0, none⟩) 1000 1000, .string ⟨#[]⟩] 42)) 0
  have hrow := own_row (hown.alloc (.cells #[.int .u8 6, .string ⟨#[116]⟩, .slice (some ⟨w8.heap.size, 0, none⟩) 1000 1000, .string ⟨#[]⟩] 42))
  rw [made_iV] at hown2 hrow
  have hlt9 : w8.heap.size < w9.heap.size := (hown.lt _ rfl).2
  have Bc := Box.new w9 42 #[.int .u8 6, .string ⟨#[116]⟩, .slice (some ⟨w8.heap.size, 0, none⟩) 1000 1000, .string ⟨#[]⟩]
  have hxa : Ext w8 (w9.alloc (.cells #[.int .u8 6, .string ⟨#[116]⟩, .slice (some ⟨w8.heap.size, 0, none⟩) 1000 1000, .string ⟨#[]⟩] 42)) := hx9.alloc _
  generalize hWg : (w9.alloc (.cells #[.int .u8 6, .string ⟨#[116]⟩, .slice (some ⟨w8.heap.size, 0, none⟩) 1000 1000, .string ⟨#[]⟩] 42)) = W at *
  clear hWg hown hgr hx9
  have Bc2 := Bc.far (p := ⟨w8.heap.size, 0, none⟩) (show w9.heap.size ≠ w8.heap.size by omega) (.int .i64 n)
  have k2 := Bc.c2
  have k3 := Bc.frozen 2
  have hold : W.cell? ⟨w8.heap.size, 0, none⟩ = some (.int .i64 0) := by
    obtain ⟨b', off', e', hc'⟩ := hrow.inj.2.2.2 (by simp)
    injection e' with e'
    injection e' with e1 e2
    subst e1 e2
    exact hc' 0 _ (by simp [iV])
  have hxb : Ext w8 (W.setCell ⟨w8.heap.size, 0, none⟩ (.int .i64 n)) := hxa.set (Nat.le_refl _) _
  generalize hg8 : w8.heap.size = g8 at *
  generalize hg9 : w9.heap.size = g9 at *
  have HG8 := Lib.hid hg8
  clear hg8 hg9
  go_upto_region 10 with fail
  generalize hWh : (W.setCell ⟨g8, 0, none⟩ (.int .i64 n)) = W2 at *
  clear hWh Bc hrow hold k2 k3 hfz
  have z0 := Bc2.c0
  have z1 := Bc2.c1
  have z2 := Bc2.c2
  have z3 := Bc2.c3
  obtain ⟨zs, hzs⟩ : ∃ zs, zs = (List.replicate 1000 (0 : Int)).set 0 n := ⟨_, rfl⟩
  have hzl : zs.length = 1000 := by rw [hzs]; simp
  have hown3 : W2.ownsRow g8 3 1 (.slice (some ⟨g8, 0, none⟩) 1000 1000) 1000 (iV zs) := by
    rw [hzs]; unfold iV at hown2 ⊢; rw [List.map_set]; exact hown2
  clear hzs hown2
  go_upto_region 11 with fail
  have Bo := Box.new W2 42 #[.int .u8 6, .string ⟨#[116]⟩, .slice (some ⟨g8, 0, none⟩) 1000 1000, .string ⟨#[]⟩]
  have hxo : Ext W2 (W2.alloc (.cells #[.int .u8 6, .string ⟨#[116]⟩, .slice (some ⟨g8, 0, none⟩) 1000 1000, .string ⟨#[]⟩] 42)) := (Ext.refl W2).alloc _
  have hg8o : g8 < W2.heap.size := by have := Bc2.lt; omega
  generalize hWi : (W2.alloc (.cells #[.int .u8 6, .string ⟨#[116]⟩, .slice (some ⟨g8, 0, none⟩) 1000 1000, .string ⟨#[]⟩] 42)) = W3 at *
  have hown4 := ownsRow_ext hown3 hxo
  generalize hgO : W2.heap.size = gO at *
  have hv1 := one_view Bo (own_row hown4)
  have hX3 := hX8.trans (hxb.trans hxo)
  clear hWi hgO z0 z1 z2 z3 Bc2 hlt9
  go_wp2_with fail
  refine (Valid_any _ 1 1 _ _ hv1 (one_kinds zs (by omega)) (he.ext hX3).sg (hf.ext hX3)).mono ?_
  rintro e w10 ⟨rfl, hx10⟩
  rw [one_valid zs 1000 hzl, show validB 6 [116] 1000 [] = true from by decide]
  have Bo2 := Bo.ext hx10
  have hown5 := ownsRow_ext hown4 hx10
  have hX10 := hX3.trans hx10
  have z2 := Bo2.c2
  have zf := Bo2.frozen 2
  have hwg : w.heap.size ≤ g8 := by have := hX8.size; have := HG8.out; omega
  clear hv1 Bo hown3 hown4 hX8 hxb hxo
  go_wp2_with (at_builtin; refine wpList_append_own _ rfl (.tmp 83) (.tmp 84) 40 rfl g8 3 i1 _ 1 8 Tryd.underlying40 hi1 hy0 hy1 hy2 rfl (by decide) _ _ _ rfl (hown5.alloc _) ⟨w10.heap.size, 0, none⟩ 1 1 [.int .i64 1] rfl rfl ?c1 ?c2 ?c3 ?c4 ?c5 ?_)
  case c1 =>
    intro j u hj
    match j, hj with
    | 0, hj => simp at hj; subst hj; simp [Addr.add]
    | j + 1, hj => simp at hj
  case c2 => intro u hu; simp at hu; subst hu; rfl
  case c3 => unfold maxLen; omega
  case c4 => omega
  case c5 => have := Bo2.lt; simp; omega
  intro v' w11 hown' hgrow _
  all_goals
    obtain ⟨gv, cv, rfl, _, _⟩ := hown'.form (by omega)
    have hbo : Box w11 gO 42 #[.int .u8 6, .string ⟨#[116]⟩, .slice (some ⟨g8, 0, none⟩) 1000 1000, .string ⟨#[]⟩] :=
      (hgrow.block gO (by have := Bo2.lt; simp; omega) (fun e => by have e' : some gO = some g8 := e; injection e' with e'; omega)).trans (Bo2.alloc _)
    have y2 := hbo.c2
    have yf := hbo.frozen 2
    have hx11 : Ext w w11 := Below.grown (hX10.alloc _) hgrow (by have := hX10.size; simp; omega) (fun k hk => Nat.le_trans hwg (hown5.lt k hk).1)
    have hbo2 : Box (w11.setCell ⟨gO, 2, none⟩ (.slice (some ⟨gv, 0, none⟩) 1001 cv)) gO 42 #[.int .u8 6, .string ⟨#[116]⟩, (.slice (some ⟨gv, 0, none⟩) 1001 cv), .string ⟨#[]⟩] := hbo.set 2 (.slice (some ⟨gv, 0, none⟩) 1001 cv)
    have hrw := own_row (own_far hown' hbo (by decide) 2 (.slice (some ⟨gv, 0, none⟩) 1001 cv))
    rw [show iV zs ++ [Value.int .i64 1] = iV (zs ++ [1]) by simp [iV]] at hrw
    have hgO : w.heap.size ≤ gO := by omega
    have hx12 : Ext w (w11.setCell ⟨gO, 2, none⟩ (.slice (some ⟨gv, 0, none⟩) 1001 cv)) := hx11.set hgO _
    clear hown' hgrow hown5 Bo2 hbo z2 zf
    go_upto_region 14 with fail
    generalize hWj : (w11.setCell ⟨gO, 2, none⟩ (.slice (some ⟨gv, 0, none⟩) 1001 cv)) = W4 at *
    clear hWj y2 yf
    have hv2 := one_view hbo2 hrw
    go_wp2_with fail
    refine (Valid_any _ 1 1 _ _ hv2 (one_kinds (zs ++ [1]) (by simp; omega)) (he.ext hx12).sg (hf.ext hx12)).mono ?_
    rintro e w13 ⟨rfl, hx13⟩
    rw [one_valid (zs ++ [1]) 1001 (by simp; omega), show validB 6 [116] 1001 [] = false from by decide]
    have hX13 := hx12.trans hx13
    go_wp2_with fail
    go_ret
    exact ⟨rfl, hX13⟩
end Go.Proofs.YtpdijhplelpmhaaDoor.Sc

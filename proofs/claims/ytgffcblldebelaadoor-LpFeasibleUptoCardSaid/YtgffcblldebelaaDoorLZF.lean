/- Walk: Solve of the reference of LpSmall. -/
import Derived.Test.YtgffcblldebelaaDoorLZE
import Derived.Deep.RegionLaw
set_option linter.unusedVariables false
set_option linter.unusedSimpArgs false
namespace Go.Proofs.YtgffcblldebelaaDoor.Lp
open Go.RowKit Go.Proofs.YtgffcblldebelaaDoor.Big Go.Proofs.YtgffcblldebelaaDoor.Rt
attribute [local go_sem] Go.World.cell?_alloc_some Go.RowKit.frozen?_alloc_cells

theorem RRX.X {w : World} {X Y : Nat → Option Value} {off off' : Nat} {r : RR} (h : RRX w X off r) (e : ∀ i, i < 3 → ∀ u, X (off + i) = some u → Y (off' + i) = some u) : RRX w Y off' r := by
  obtain ⟨A, c, h1, h2, h3, h4⟩ := h
  exact ⟨A, c, e 0 (by omega) _ h1, e 1 (by omega) _ h2, e 2 (by omega) _ h3, h4⟩
def RRows (w : World) (X : Nat → Option Value) (rows : List RR) : Prop := ∀ (j : Nat) (r : RR), rows[j]? = some r → RRX w X (j * 3) r
theorem RRows.fr {P : Nat → Prop} {w w' : World} {X : Nat → Option Value} {rows : List RR} (h : RRows w X rows) (k : Fr P w w') (hP : ∀ b cs, w.heap[b]? = some (.cells cs 2 (0, 0)) → ¬ P b) : RRows w' X rows := fun j r hj => (h j r hj).fr k hP
theorem RRows.ext {w w' : World} {X : Nat → Option Value} {rows : List RR} (h : RRows w X rows) (k : Ext w w') : RRows w' X rows := fun j r hj => (h j r hj).ext k
theorem RRows.push {w : World} {xs ys : List Value} {rows : List RR} {r : RR} (h : RRows w (fun i => xs[i]?) rows) (hl : xs.length = rows.length * 3) (hr : RRX w (fun i => ys[i]?) 0 r) : RRows w (fun i => (xs ++ ys)[i]?) (rows ++ [r]) := by
  intro j s hj
  rcases Nat.lt_or_ge j rows.length with hlt | hge
  · rw [List.getElem?_append_left hlt] at hj
    refine (h j s hj).X fun i hi u hu => ?_
    have hu : xs[j * 3 + i]? = some u := hu
    show (xs ++ ys)[j * 3 + i]? = some u
    rw [List.getElem?_append_left (by omega)]; exact hu
  · rw [List.getElem?_append_right hge] at hj
    have hj0 : j - rows.length = 0 := by
      have := (List.getElem?_eq_some_iff.1 hj).1; simp at this; omega
    rw [hj0] at hj
    obtain rfl := Option.some.inj hj
    refine hr.X fun i hi u hu => ?_
    have hu : ys[0 + i]? = some u := hu
    show (xs ++ ys)[j * 3 + i]? = some u
    rw [List.getElem?_append_right (by omega), hl, ← hu]
    congr 1; omega
theorem rrows_prob {w : World} {base : Nat} {v : Value} {obj : List Int} {rows : List RR} {xs : List Value} {Ao : Option Addr} {co : Nat} (o : OwnX w base 105 3 v rows.length xs) (h : RRows w (fun i => xs[i]?) rows) (ho : RowJ w (.slice Ao obj.length co) obj) :
    RPV w (.agg #[.slice Ao obj.length co, v]) ⟨obj, rows⟩ := by
  rcases o.2 with ⟨rfl, h0⟩ | ⟨g, cap, cur, rfl, hb, h5, h6, h7, h8, h9, _⟩
  · refine ⟨Ao, co, none, 0, by rw [h0], ho, by show rows.length ≤ 0; omega, by omega, fun hn => ?_⟩
    have hn : 0 < rows.length := hn
    omega
  · refine ⟨Ao, co, _, cap, rfl, ho, h6, by unfold maxLen at h7; exact h7, fun hn => ⟨g, cur, rfl, h5, fun j r hj => ?_⟩⟩
    refine (h j r hj).X fun i hi u hu => ?_
    have hu : xs[j * 3 + i]? = some u := hu
    show cur[j * 3 + i]? = some u
    rw [← h9, List.getElem?_take] at hu
    split at hu
    · rw [← Array.getElem?_toList]; exact hu
    · cases hu
theorem infoRR : (Tryd.prog.info? 105).map (fun i => (i.zero, i.size, i.bytes)) = some (some (.agg #[.slice none 0 0, .int .u8 0, .int .i64 0]), 3, 40) := by kernel_rfl
theorem zRR : ∀ u ∈ (Value.agg #[.slice none 0 0, .int .u8 0, .int .i64 0]).cells.toList, noU u = true := fun u hu => by
  simp [Value.cells] at hu
  rcases hu with rfl | rfl | rfl <;> rfl
theorem new3J (w : World) (E : TypeId) (a b c : Value) : ∀ j y, [a, b, c][j]? = some y → (w.alloc (.cells #[a, b, c] E)).cell? ⟨w.heap.size, j, none⟩ = some y := by
  intro j y hj
  rw [(Box.new w E #[a, b, c]).cell j, ← hj]
  exact List.getElem?_toArray
theorem new3D (w : World) (E : TypeId) (a b c : Value) : ∀ j y, [a, b, c][j]? = some y → ((w.alloc (.cells #[a, b, c] E)).drew).cell? ⟨w.heap.size, j, none⟩ = some y := fun j y hj => (new3J w E a b c j y hj)
theorem one3J {A0 : Option Addr} {n0 c0 : Nat} {r q : Int} : ∀ y ∈ [Value.slice A0 n0 c0, .int .u8 r, .int .i64 q], y.oneCell' = true := fun y hy => by
  simp at hy
  rcases hy with rfl | rfl | rfl <;> rfl
theorem nou3J {A0 : Option Addr} {n0 c0 : Nat} {r q : Int} : ∀ y ∈ [Value.slice A0 n0 c0, .int .u8 r, .int .i64 q], noU y = true := fun y hy => by
  simp at hy
  rcases hy with rfl | rfl | rfl <;> rfl
theorem grow_sm {p : RP} (hs : p.Sm) : p.grow.Sm := by
  refine ⟨hs.obj, fun r hr => ?_⟩
  rcases List.mem_append.1 hr with hr | hr
  · obtain ⟨s, hs', rfl⟩ := List.mem_map.1 hr
    exact ⟨by show inC 60 0; unfold inC; omega, (hs.row s hs').2⟩
  · rw [List.mem_singleton.1 hr]
    refine ⟨by show inC 60 1; unfold inC; omega, fun i => ?_, by show 1 ≤ 255; omega⟩
    show inC 60 ((List.replicate p.obj.length (1 : Int)).getD i 0)
    rw [List.getD_eq_getElem?_getD, List.getElem?_replicate]
    split
    · show inC 60 1; unfold inC; omega
    · show inC 60 0; unfold inC; omega
theorem grow_step {X y w1 : World} {base qb ob n N K co d : Nat} {v : Value} {xs news : List Value} {Ao A : Option Addr} {rows : List RR} {r : RR} (hK : rows.length = K) (hN : N = K + 1) (o : OwnX X base 105 3 v K xs) (hR : RRows X (fun i => xs[i]?) rows) (hPX : RRX X (fun i => news[i]?) 0 r)
    (hA : ArrI X ob n (fun _ => 1)) (QB : Box X qb 59 #[.slice Ao n co, v]) (o6 : OwnX y base 105 3 (.slice A N d) N (xs ++ news)) (k : Fr (fun g => v.ownBlock = some g) X y) (hX : Ext w1 X) (hb : w1.heap.size ≤ base) (hq : w1.heap.size ≤ qb) (hne : qb < ob) :
    OwnX (y.setCell ⟨qb, 1, none⟩ (.slice A N d)) base 105 3 (.slice A N d) N (xs ++ news) ∧ RRows (y.setCell ⟨qb, 1, none⟩ (.slice A N d)) (fun i => (xs ++ news)[i]?) (rows ++ [r]) ∧
    Box (y.setCell ⟨qb, 1, none⟩ (.slice A N d)) qb 59 #[.slice Ao n co, .slice A N d] ∧ ArrI (y.setCell ⟨qb, 1, none⟩ (.slice A N d)) ob n (fun _ => 1) ∧ Ext w1 (y.setCell ⟨qb, 1, none⟩ (.slice A N d)) := by
  subst hN
  obtain ⟨A0, c0, rfl⟩ := o.shape
  have tb := boxR QB o k (by decide)
  have hnP := typ_ne o (show 105 ≠ 2 by decide)
  have hP := RRows.push (hR.fr k hnP) (by rw [o.1, hK]) (hPX.fr k hnP)
  have hF : Fr (fun k => k = qb) y (y.setCell ⟨qb, 1, none⟩ (.slice A (K + 1) d)) := (Fr.refl (fun k => k = qb) y).set (p := ⟨qb, 1, none⟩) rfl (fun z => by rw [tb.c1]; intro e; cases e) _
  have o7 := o6.fr hF (fun g hg e => by obtain ⟨-, -, cur, hcur⟩ := o6.lt hg; exact row_ne tb hcur (by decide) e.symm)
  obtain ⟨cs, hcs, -⟩ := id hA
  exact ⟨o7, hP.fr hF (fun b cs hc e => row_ne tb hc (by decide) e.symm), tb.set 1 _, (hA.fr k (hnP ob cs hcs)).fr hF (by omega), (k.ext hX (fun g hg => Nat.le_trans hb (o.lt hg).1)).set (p := ⟨qb, 1, none⟩) hq _⟩
theorem RRows.cong {w : World} {X : Nat → Option Value} {a b : List RR} (h : RRows w X a) (e : a = b) : RRows w X b := e ▸ h
theorem OwnX.up' {base base' k n : Nat} {w : World} {E : TypeId} {v : Value} {xs : List Value} (h : OwnX w base E k v n xs) (hb : base' ≤ base) : OwnX w base' E k v n xs := h.up hb
def RSolvePost (w : World) (p : RP) (e : Ending) (w' : World) : Prop := e = .returned (.tuple #[.int .i64 p.solve.1, .int .i64 p.solve.2.1, .int .i64 p.solve.2.2]) ∧ Ext w w'
set_option maxHeartbeats 4000000 in
set_option maxRecDepth 100000 in
theorem rsolve_b (v : Value) (p : RP) (w : World) (h : RPV w v p) (hok : p.ok 4) (hs : p.Sm) : Calls Tryd.prog 25 #[v] w (RSolvePost w p) := by
  have h0 := h
  obtain ⟨Ao, co, Ar, cr, rfl, hO, hcr, hcr2, hrows⟩ := h0
  obtain ⟨n, hn⟩ : ∃ n, n = p.obj.length := ⟨_, rfl⟩
  obtain ⟨m, hm⟩ : ∃ n, n = p.rows.length := ⟨_, rfl⟩
  have hn3 : n ≤ 3 := by rw [hn]; exact hok.n3
  have hm4 : m ≤ 4 := by rw [hm]; exact hok.m5
  rw [← hn, ← hm] at h ⊢
  rw [← hm] at hrows hcr
  rw [← hn] at hO
  obtain ⟨R, hR⟩ : ∃ R, R = p.best p.all := ⟨_, rfl⟩
  obtain ⟨G, hG⟩ : ∃ R, R = p.grow.best p.grow.all := ⟨_, rfl⟩
  have HSO : Hid (p.solve = if R.2.2 = true then (if 0 < G.1 then (0, 1, 18) else (R.1, R.2.1, 0)) else (0, 1, 17)) := Lib.hid (by rw [hR, hG]; rfl)
  have HR := Lib.hid hR
  have HG := Lib.hid hG
  have HN := Lib.hid hn
  have HM := Lib.hid hm
  have HOK := Lib.hid hok
  have HS := Lib.hid hs
  have HROWS := Lib.hid hrows
  clear hn hm hR hG hok hs hrows
  obtain ⟨q0, qi, qz0, qz1, qz2⟩ := info_parts infoRR
  have PB := Box.new w 59 #[.slice Ao n co, .slice Ar m cr]
  have hE : Ext w (w.alloc (.cells #[.slice Ao n co, .slice Ar m cr] 59)) := (Ext.refl w).alloc _
  go_enter Tryd.func25, Tryd.ntmps25
  go_upto_region 1 with fail
  generalize (w.alloc (.cells #[.slice Ao n co, .slice Ar m cr] 59)) = V at *
  obtain ⟨pb, hpb⟩ : ∃ x, x = w.heap.size := ⟨_, rfl⟩
  rw [← hpb] at PB ⊢
  clear hpb
  have c0 := PB.c0
  have c1 := PB.c1
  go_wp2_with fail
  refine (rbest_b _ p _ (h.ext hE) ⟨HOK.out.n1, HOK.out.n3, Nat.le_trans HOK.out.m5 (by omega), HOK.out.row⟩ HS.out).mono ?_
  rintro e w1 ⟨rfl, hx1⟩
  rw [← HR.out]
  obtain ⟨rv, rd, rf⟩ := R
  have hE1 := hE.trans hx1
  have PB1 := PB.ext hx1
  clear c0 c1 PB hE hx1
  simp only at HSO
  cases rf with
  | false =>
    go_wp2_with fail
    refine bodyPost_ret (v := .tuple #[.int .i64 0, .int .i64 1, .int .i64 17]) (by simp [results, Tryd.results25, go_sem]) rfl ?_
    exact ⟨by rw [HSO.out]; rfl, hE1⟩
  | true =>
    have c0 := PB1.c0
    go_upto_region 5 with fail
    obtain ⟨qb, hqb⟩ : ∃ x, x = w1.heap.size := ⟨_, rfl⟩
    have QB := Box.new w1 59 #[.slice Ao n co, .slice none 0 0]
    have hx2 : Ext w1 (w1.alloc (.cells #[.slice Ao n co, .slice none 0 0] 59)) := (Ext.refl w1).alloc _
    generalize (w1.alloc (.cells #[.slice Ao n co, .slice none 0 0] 59)) = U at *
    rw [← hqb] at QB ⊢
    have hqw : w1.heap.size ≤ qb := by omega
    clear hqb c0
    have PB2 := PB1.ext hx2
    have c0 := PB2.c0
    go_upto_region 6 with (at_make; refine wpList_makeK .i64 8 _ rfl _ _ 56 rfl 2 Tryd.underlying56 infoI64 (by decide) _ _ rfl rfl n rfl rfl (by omega) ?_; intro w3 hA3 hx3)
    have hA3 : ArrI w3 U.heap.size n (fun _ => 0) := hA3
    obtain ⟨ob, hob⟩ : ∃ x, x = U.heap.size := ⟨_, rfl⟩
    rw [← hob] at hA3 ⊢
    have hoq : qb < ob := by rw [hob]; exact QB.lt
    have hoU : U.heap.size ≤ ob := by omega
    clear hob c0
    go_wp2_with fail
    go_loopw [10] (fun i wr => ∃ j : Nat, j ≤ n ∧ i = .int .i64 j ∧ ArrI wr ob n (fun l => if l < j then 1 else 0) ∧ Ext U wr) (fun i _ => n - (intOf i).toNat)
    case atStart => exact ⟨0, by omega, rfl, hA3.congr (fun l _ => by rw [if_neg (by omega)]), hx3⟩
    case round =>
      obtain ⟨j, hj, rfl, hA, hX⟩ := hrel
      clear hA3 hx3
      by_cases hlt : j < n
      · obtain ⟨t1, t2⟩ := hA.set hlt 1
        have z0 := hA.frozen j
        have e0 := hA.cell hlt
        have i1 : (0 : Int) ≤ (j : Int) := by omega
        have i2 : (j : Int) < (n : Int) := by omega
        have hS1 := Lib.hid t1
        have hS2 := Lib.hid t2
        clear t1 t2
        go_wp2_with fail
        go_roundw
        case rel =>
          refine ⟨j + 1, by omega, by go_num, hS1.out.congr (fun l hl => ?_), hS2.out.ext hX (fun b hb => by rw [hb]; exact hoU)⟩
          by_cases e : l = j
          · subst e; rw [if_pos rfl, if_pos (by omega)]
          · rw [if_neg e]
            by_cases h2 : l < j
            · rw [if_pos h2, if_pos (by omega)]
            · rw [if_neg h2, if_neg (by omega)]
        case measure => simp [intOf]; omega
      · obtain rfl : j = n := by omega
        have hA : ArrI wr ob j (fun _ => 1) := hA.congr (fun l hl => by rw [if_pos hl])
        have hX1 := hx2.trans hX
        have QB1 := QB.ext hX
        have PB3 := PB2.ext hX
        have p1 := PB3.c1
        obtain ⟨wb, hwb⟩ : ∃ x, x = wr := ⟨_, rfl⟩
        have hbase : wb.heap.size ≤ wr.heap.size := by rw [hwb]; exact Nat.le_refl _
        have hqb2 : qb < wb.heap.size := by rw [hwb]; exact QB1.lt
        clear hwb
        go_wp2_with fail
        clear p1
        go_loopw [11] (fun i wr => ∃ (k : Nat) (rv : Value) (xs : List Value), k ≤ m ∧ i = .int .i64 k ∧ OwnX wr wb.heap.size 105 3 rv k xs ∧ RRows wr (fun i => xs[i]?) ((p.rows.map RR.flat).take k) ∧ Box wr qb 59 #[.slice Ao j co, rv] ∧ ArrI wr ob j (fun _ => 1) ∧ Ext w1 wr ∧ wb.heap.size ≤ wr.heap.size) (fun i _ => m - (intOf i).toNat)
        case atStart => exact ⟨0, _, [], by omega, rfl, OwnX.nil _ _ _ _, fun i r hi => by simp at hi, QB1, hA, hX1, hbase⟩
        case round =>
          clear QB1 hA hX1 hX PB3 hbase
          obtain ⟨k, rw', xs, hk, rfl, o, hRR, QB1, hA, hX, hbw⟩ := hrel
          have PB3 := PB1.ext hX
          by_cases hlt2 : k < m
          · obtain ⟨rb, cs, rfl, hrb, hrx⟩ := HROWS.out (by omega)
            obtain ⟨r, hr⟩ : ∃ r, p.rows[k]? = some r := ⟨_, List.getElem?_eq_getElem (by have := HM.out; omega)⟩
            obtain ⟨B, bd, h0, h1, h2, hrow⟩ := hrx k r hr
            have HFL : Hid ((p.rows.map RR.flat)[k]? = some r.flat) := Lib.hid (by rw [List.getElem?_map, hr]; rfl)
            have hcell : ∀ i u, cs[i]? = some u → wr.cell? ⟨rb, i, none⟩ = some u := fun i u hu => (hE1.trans hX).cell (by rw [cell_of_row w rb i cs _ (0, 0) hrb]; exact hu)
            have d0 := hcell _ _ h0
            have d1 := hcell _ _ h1
            have hrowX := RowE.ext hrow (hE1.trans hX)
            have hPX : RRX wr (fun i => [Value.slice B r.coef.length bd, .int .u8 (r.rel : Int), .int .i64 0][i]?) 0 r.flat := ⟨B, bd, rfl, rfl, rfl, hrowX⟩
            obtain ⟨cl, hcl⟩ : ∃ x, x = r.coef.length := ⟨_, rfl⟩
            obtain ⟨rel, hrel'⟩ : ∃ x, x = r.rel := ⟨_, rfl⟩
            rw [← hcl] at d0 hPX
            rw [← hrel'] at d1 hPX
            clear hcl hrel' h0 h1 h2 hcell hrow hrowX
            have p1 := PB3.c1
            have hsh := o.shape
            obtain ⟨A5, d5, rfl⟩ := hsh
            have q1 := QB1.c1
            have i1 : (0 : Int) ≤ (k : Int) := by omega
            have i2 : (k : Int) < (m : Int) := by omega
            go_upto_region 13 with fail
            go_region_law (first
              | ((have hza : Ext wr ((wr.alloc (.cells #[.slice B cl bd, .int .u8 (rel : Int), .int .i64 0] 105)).drew) := ((Ext.refl wr).alloc _).drew); (refine step_pushX rfl (.tmp 47) (.tmp 61) 57 rfl wb.heap.size 105 q0 (.agg #[.slice none 0 0, .int .u8 0, .int .i64 0]) 3 40 Tryd.underlying57 qi qz0 qz1 qz2 rfl zRR _ k xs rfl (o.ext hza) wr.heap.size [.slice B cl bd, .int .u8 (rel : Int), .int .i64 0] 1 rfl rfl (new3D wr 105 _ _ _) one3J nou3J (by omega) (by decide) (Nat.le_trans hbw hza.size) ?_); intro v6 y6 o6 r6 s6; (have tb6 := r6.box (QB1.ext hza) (typ_ne (o.ext hza) (show 105 ≠ 59 by decide) qb _ (QB1.ext hza))); (have c6 := tb6.c1); (have z6 := tb6.frozen 1); (obtain ⟨A6, d6, rfl⟩ := o6.shape))
              )
            all_goals (
              obtain ⟨o7, hR7, QB7, hA7, hX7⟩ := grow_step (by rw [List.length_take, List.length_map, ← HM.out]; omega) rfl (o.ext hza) (hRR.ext hza) (hPX.ext hza) (hA.ext hza) (QB1.ext hza) o6 r6 (hX.trans hza) (by omega) hqw hoq
              have hbw7 : wb.heap.size ≤ (y6.setCell ⟨qb, 1, none⟩ (.slice A6 (k + 1) d6)).heap.size := by
                have h1 := r6.size
                have h2 := hza.size
                simp only [Go.World.size_setCell] at *
                omega
              generalize (y6.setCell ⟨qb, 1, none⟩ (.slice A6 (k + 1) d6)) = Y at *
              clear o6 r6 s6 tb6 c6 z6 hza hPX hRR o QB1 hA q1 p1 PB3 hX d0 d1
              go_wp2_with fail
              go_roundw
              case rel => exact ⟨k + 1, _, _, by omega, by go_num, o7, hR7.cong (by rw [List.take_add_one, HFL.out]; rfl), QB7, hA7, hX7, hbw7⟩
              case measure => simp [intOf]; omega)
          · obtain rfl : k = m := by omega
            have hsh := o.shape
            obtain ⟨A5, d5, rfl⟩ := hsh
            have p1 := PB3.c1
            have q1 := QB1.c1
            have hPX : RRX wr (fun i => [Value.slice (some ⟨ob, 0, none⟩) j j, .int .u8 (1 : Int), .int .i64 1][i]?) 0 ⟨List.replicate j 1, 1, 1⟩ := ⟨some ⟨ob, 0, none⟩, j, by show _ = some (Value.slice _ (List.replicate j (1 : Int)).length _); rw [List.length_replicate]; rfl, rfl, rfl, by show RowE _ _ (.slice _ (List.replicate j (1 : Int)).length _) _; rw [List.length_replicate]; exact hA.rowJ (by simp) (fun l hl => by rw [List.getD_eq_getElem?_getD, List.getElem?_replicate, if_pos hl]; rfl) (by omega)⟩
            have hza : Ext wr (wr.alloc (.cells #[.slice (some ⟨ob, 0, none⟩) j j, .int .u8 1, .int .i64 1] 105)) := (Ext.refl wr).alloc _
            go_upto_region 15 with (at_builtin; refine wpList_pushX rfl (.tmp 65) (.tmp 68) 57 rfl wb.heap.size 105 q0 (.agg #[.slice none 0 0, .int .u8 0, .int .i64 0]) 3 40 Tryd.underlying57 qi qz0 qz1 qz2 rfl zRR _ k xs rfl (o.ext hza) wr.heap.size [.slice (some ⟨ob, 0, none⟩) j j, .int .u8 1, .int .i64 1] 1 rfl rfl (new3J wr 105 _ _ _) one3J nou3J (by omega) (by decide) (Nat.le_trans hbw hza.size) ?_; intro v6 y6 o6 r6 s6; have tb6 := r6.box (QB1.ext hza) (typ_ne (o.ext hza) (show 105 ≠ 59 by decide) qb _ (QB1.ext hza)); have c6 := tb6.c1; have z6 := tb6.frozen 1; obtain ⟨A6, d6, rfl⟩ := o6.shape)
            · obtain ⟨o7, hR7, QB7, hA7, hX7⟩ := grow_step (by rw [List.length_take, List.length_map, ← HM.out]; omega) rfl (o.ext hza) (hRR.ext hza) (hPX.ext hza) (hA.ext hza) (QB1.ext hza) o6 r6 (hX.trans hza) (by omega) hqw hoq
              generalize (y6.setCell ⟨qb, 1, none⟩ (.slice A6 (k + 1) d6)) = Y at *
              clear o6 r6 s6 tb6 c6 z6 hza hPX hRR o QB1 hA q1 p1 PB3 hX
              have hPG : RPV Y (.agg #[.slice Ao j co, .slice A6 (k + 1) d6]) p.grow := by
                have hro : RowJ Y (.slice Ao p.obj.length co) p.obj := by rw [← HN.out]; exact RowE.ext hO (hE1.trans hX7)
                have hrr : RRows Y (fun i => (xs ++ [Value.slice (some ⟨ob, 0, none⟩) j j, .int .u8 1, .int .i64 1])[i]?) (p.rows.map RR.flat ++ [⟨List.replicate p.obj.length 1, 1, 1⟩]) := hR7.cong (by rw [← HN.out, List.take_of_length_le (by rw [List.length_map, ← HM.out]; omega)])
                have hlen : k + 1 = (p.rows.map RR.flat ++ [(⟨List.replicate p.obj.length 1, 1, 1⟩ : RR)]).length := by rw [List.length_append, List.length_map, List.length_singleton, ← HM.out]
                rw [HN.out]
                rw [hlen] at o7 ⊢
                exact rrows_prob o7 hrr hro
              have q0' := QB7.c0
              have q1 := QB7.c1
              go_wp2_with fail
              refine (rbest_b _ p.grow _ hPG (RP.grow_ok HOK.out) (grow_sm HS.out)).mono ?_
              rintro e w9 ⟨rfl, hx9⟩
              rw [← HG.out]
              obtain ⟨gv, gd, gf⟩ := G
              simp only at HSO
              have hE9 := hE1.trans (hX7.trans hx9)
              clear q0' q1 QB7 hA7 o7 hPG
              by_cases hgt : 0 < gv
              · go_wp2_with fail
                refine bodyPost_ret (v := .tuple #[.int .i64 0, .int .i64 1, .int .i64 18]) (by simp [results, Tryd.results25, go_sem]) rfl ?_
                exact ⟨by rw [HSO.out, if_pos trivial, if_pos hgt], hE9⟩
              · go_wp2_with fail
                refine bodyPost_ret (v := .tuple #[.int .i64 rv, .int .i64 rd, .int .i64 0]) (by simp [results, Tryd.results25, go_sem]) rfl ?_
                exact ⟨by rw [HSO.out, if_pos trivial, if_neg (Int.not_lt.2 hgt)], hE9⟩
end Go.Proofs.YtgffcblldebelaaDoor.Lp

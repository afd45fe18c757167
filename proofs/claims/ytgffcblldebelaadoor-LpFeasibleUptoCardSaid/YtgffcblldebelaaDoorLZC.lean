/- Walk: meet of the reference of LpSmall. -/
import Derived.Test.YtgffcblldebelaaDoorLZB
set_option linter.unusedVariables false
set_option linter.unusedSimpArgs false
namespace Go.Proofs.YtgffcblldebelaaDoor.Lp
open Go.RowKit Go.Proofs.YtgffcblldebelaaDoor.Big Go.Proofs.YtgffcblldebelaaDoor.Rt

/-- integers in a block, n of them at least -/
def ArrJ (w : World) (b n : Nat) (f : Nat → Int) : Prop := ∃ cs : Array Value, w.heap[b]? = some (.cells cs 2 (0, 0)) ∧ n ≤ cs.size ∧ ∀ j, j < n → cs[j]? = some (.int .i64 (f j))
section
variable {w w' : World} {b n : Nat} {f g : Nat → Int}
theorem ArrJ.cell (h : ArrJ w b n f) {j : Nat} (hj : j < n) : w.cell? ⟨b, j, none⟩ = some (.int .i64 (f j)) := by
  obtain ⟨cs, h1, _, h3⟩ := h
  rw [cell_of_row w b j cs _ (0, 0) h1]; exact h3 j hj
theorem ArrJ.frozen (h : ArrJ w b n f) (j : Nat) : w.frozen? ⟨b, j, none⟩ = false := by
  obtain ⟨cs, h1, _⟩ := h; simp [World.frozen?, h1]
theorem ArrJ.fr {P : Nat → Prop} (h : ArrJ w b n f) (k : Fr P w w') (hp : ¬ P b) : ArrJ w' b n f := by
  obtain ⟨cs, h1, h2, h3⟩ := h; exact ⟨cs, k.row hp h1, h2, h3⟩
theorem ArrJ.ext (h : ArrJ w b n f) (k : Ext w w') : ArrJ w' b n f := h.fr (P := fun _ => False) (Fr.of k) id
theorem ArrJ.congr (h : ArrJ w b n f) (e : ∀ j, j < n → f j = g j) : ArrJ w b n g := by
  obtain ⟨cs, h1, h2, h3⟩ := h
  exact ⟨cs, h1, h2, fun j hj => by rw [← e j hj]; exact h3 j hj⟩
theorem ArrJ.lt (h : ArrJ w b n f) : b < w.heap.size := by
  obtain ⟨cs, h1, _⟩ := h
  exact Box.lt (E := 2) (cs := cs) h1
theorem ArrJ.set (h : ArrJ w b n f) {j : Nat} (hj : j < n) (x : Int) : ArrJ (w.setCell ⟨b, j, none⟩ (.int .i64 x)) b n (fun i => if i = j then x else f i) ∧ Fr (fun k => k = b) w (w.setCell ⟨b, j, none⟩ (.int .i64 x)) := by
  have hF : Fr (fun k => k = b) w (w.setCell ⟨b, j, none⟩ (.int .i64 x)) := (Fr.refl (fun k => k = b) w).set (p := ⟨b, j, none⟩) rfl (fun z => by rw [h.cell hj]; intro e; cases e) _
  refine ⟨?_, hF⟩
  obtain ⟨cs, h1, h2, h3⟩ := h
  refine ⟨cs.setIfInBounds j (.int .i64 x), by simp [World.setCell, Array.getElem?_modify, h1], by simpa using h2, fun i hi => ?_⟩
  show _ = some (Value.int .i64 (if i = j then x else f i))
  by_cases e : i = j
  · subst e
    rw [if_pos rfl, Array.getElem?_setIfInBounds_self_of_lt (by omega)]
  · rw [if_neg e, Array.getElem?_setIfInBounds_ne (by omega)]; exact h3 i hi
theorem ArrJ.rowJ (h : ArrJ w b n f) {xs : List Int} {c : Nat} (hl : xs.length = n) (hx : ∀ j, j < n → xs.getD j 0 = f j) (hnc : n ≤ c) (hc : c ≤ 9223372036854775807) : RowJ w (.slice (some ⟨b, 0, none⟩) n c) xs := by
  obtain ⟨cs, h1, h2, h3⟩ := h
  refine ⟨some ⟨b, 0, none⟩, c, by rw [jV_len, hl], by rw [jV_len]; omega, hc, fun _ => ⟨b, cs, rfl, h1, by rw [jV_len]; omega, fun j u hj => ?_⟩⟩
  have hlt : j < xs.length := by
    have := (List.getElem?_eq_some_iff.1 hj).1
    rwa [jV_len] at this
  rw [jV_at hlt, hx j (by omega)] at hj
  rw [h3 j (by omega)]; exact hj
/-- an own row of integers as a block -/
theorem OwnX.arrJ {base : Nat} {v : Value} {xs : List Int} (h : OwnX w base 2 1 v n (jV xs)) (hn : 0 < n) : ∃ b c, v = .slice (some ⟨b, 0, none⟩) n c ∧ base ≤ b ∧ n ≤ c ∧ c ≤ 9223372036854775807 ∧ ArrJ w b n (fun j => xs.getD j 0) := by
  have hl : xs.length = n := by have := h.1; rw [jV_len, Nat.mul_one] at this; exact this
  obtain ⟨g, cap, e, -, hb, h3, h4, ⟨cur, h5, h6⟩, -, h8⟩ := h.cells hn
  refine ⟨g, cap, e, hb, h3, h4, cur, h5, by omega, fun j hj => ?_⟩
  have := h8 j _ (jV_at (xs := xs) (by omega))
  rwa [cell_of_row w g j cur _ (0, 0) h5] at this
end
def MeetPost (w : World) (left : List (List Int)) (right : List Int) (pick : List Nat) (e : Ending) (w' : World) : Prop :=
  ∃ b, e = .returned (.tuple #[.slice (some ⟨b, 0, none⟩) pick.length pick.length, .int .i64 (meetA left pick)]) ∧ RowJ w' (.slice (some ⟨b, 0, none⟩) pick.length pick.length) (meetX left right pick) ∧ Ext w w'
theorem getD_in {C : Int} (hC : 0 ≤ C) {l : List Int} (h : ∀ z ∈ l, inC C z) (i : Nat) : inC C (l.getD i 0) := by
  rw [List.getD_eq_getElem?_getD]
  cases e : l[i]? with
  | none => show inC C 0; unfold inC; omega
  | some a => exact h a (List.mem_of_getElem? e)
theorem map_get {α : Type} (l : List Nat) (f : Nat → α) (d : α) {i : Nat} (hi : i < l.length) : (l.map f).getD i d = f (l.getD i 0) := by
  rw [List.getD_eq_getElem?_getD, List.getElem?_map, List.getD_eq_getElem?_getD, List.getElem?_eq_getElem hi]; rfl
theorem map_in {C : Int} (hC : 0 ≤ C) (l : List Nat) (f : Nat → List Int) (h : ∀ i, i < l.length → ∀ k, inC C ((f (l.getD i 0)).getD k 0)) (i k : Nat) : inC C (((l.map f).getD i []).getD k 0) := by
  by_cases hi : i < l.length
  · rw [map_get _ _ _ hi]; exact h i hi k
  · have e : (l.map f).getD i [] = [] := by rw [List.getD_eq_getElem?_getD, List.getElem?_eq_none (by simpa using hi)]; rfl
    rw [e]
    show inC C 0
    unfold inC; omega
theorem take_map_succ {α : Type} (l : List Nat) (f : Nat → α) {i : Nat} (hi : i < l.length) : (l.take (i + 1)).map f = (l.take i).map f ++ [f (l.getD i 0)] := by
  rw [take_succ' l (a := l.getD i 0) (by rw [List.getElem?_eq_getElem hi, List.getD_eq_getElem?_getD, List.getElem?_eq_getElem hi]; rfl), List.map_append]; rfl
set_option maxHeartbeats 4000000 in
set_option maxRecDepth 100000 in
theorem rmeet_b (A B : Option Addr) (N a b pb c : Nat) (left : List (List Int)) (right : List Int) (pick : List Nat) (w : World) (hL : Mat w (.slice A N a) left) (hR : RowJ w (.slice B N b) right) (hP : PickV w pb pick.length (fun j => pick.getD j 0)) (hc : pick.length ≤ c) (hc2 : c ≤ 9223372036854775807) (hn0 : 0 < pick.length) (hn3 : pick.length ≤ 3) (hpk : ∀ i, i < pick.length → pick.getD i 0 < N)
    (hll : ∀ i, i < N → (left.getD i []).length = pick.length) (hlb : ∀ i k, inC 60 ((left.getD i []).getD k 0)) (hrb : ∀ i, inC 60 (right.getD i 0)) :
    Calls Tryd.prog 80 #[.slice A N a, .slice B N b, .slice (some ⟨pb, 0, none⟩) pick.length c] w (MeetPost w left right pick) := by
  obtain ⟨n, hn⟩ : ∃ n, n = pick.length := ⟨_, rfl⟩
  have HP : Hid (∀ e w', MeetPost w left right pick e w' ↔ ∃ b, e = .returned (.tuple #[.slice (some ⟨b, 0, none⟩) n n, .int .i64 (meetA left pick)]) ∧ RowJ w' (.slice (some ⟨b, 0, none⟩) n n) (meetX left right pick) ∧ Ext w w') := Lib.hid (fun e w' => by rw [hn]; exact Iff.rfl)
  obtain ⟨D, hD⟩ : ∃ D, D = meetD left pick := ⟨_, rfl⟩
  have HDD : Hid (detN n (pick.map fun i => left.getD i []) = D) := Lib.hid (by rw [hD, hn]; rfl)
  have HA : Hid (meetA left pick = if D < 0 then 0 - D else D) := Lib.hid (by rw [hD]; rfl)
  obtain ⟨C, hC⟩ : ∃ C, C = meetC left right pick := ⟨_, rfl⟩
  have HC : Hid (∀ j, detN n (pick.map fun i => (left.getD i []).set j (right.getD i 0)) = C j) := Lib.hid (fun j => by rw [hC, hn]; rfl)
  have HX : Hid (∀ j, j < n → (meetX left right pick).getD j 0 = if D < 0 then 0 - C j else C j) := Lib.hid (fun j hj => by rw [hn] at hj; rw [meetX_get hj, hD, hC])
  have HXL : Hid ((meetX left right pick).length = n) := Lib.hid (by rw [meetX_len, hn])
  rw [← hn] at hP hc hn0 hn3 hpk hll ⊢
  have HN := Lib.hid hn
  have hdB : dB n ≤ 1296000 := by rcases (show n = 1 ∨ n = 2 ∨ n = 3 by omega) with e | e | e <;> rw [e] <;> decide
  have HDB : Hid (inC 1296000 D ∧ ∀ j, j < n → inC 1296000 (C j)) := Lib.hid (by
    have key : ∀ m : List (List Int), (∀ i k, inC 60 ((m.getD i []).getD k 0)) → inC 1296000 (detN n m) := fun m hm => by
      have := detN_in n m hm
      unfold inC at this ⊢; omega
    refine ⟨by rw [← HDD.out]; exact key _ (map_in (by omega) _ _ (fun i hi k => hlb _ k)), fun j hj => ?_⟩
    rw [← HC.out]
    refine key _ (map_in (by omega) _ _ (fun i hi k => ?_))
    rw [set_get _ _ _ _ (by rw [hll _ (hpk i (by omega))]; exact hj)]
    split
    · exact hrb _
    · exact hlb _ k)
  have HPK := Lib.hid hpk
  have HLL := Lib.hid hll
  have HLB := Lib.hid hlb
  have HRB := Lib.hid hrb
  obtain ⟨-, -, -, hLrow⟩ := hL.inj
  obtain ⟨-, -, -, hRrow⟩ := hR.inj
  have hN0 : 0 < N := by have := hpk 0 hn0; omega
  obtain ⟨lb, rfl, hLr⟩ := hLrow hN0
  obtain ⟨rb, rfl, -, hRr⟩ := hRrow hN0
  have HLR := Lib.hid hLr
  have HRR := Lib.hid hRr
  clear hn hD hC hpk hll hlb hrb hLrow hRrow hLr hRr hdB
  obtain ⟨i0, ii, iz0, iz1, iz2⟩ := info_parts infoI64
  obtain ⟨r0, ri, rz0, rz1, rz2⟩ := info_parts infoRowI
  go_enter Tryd.func80, Tryd.ntmps80
  go_wp2_with fail
  go_loopw [9, 10] (fun mv i wr => ∃ k : Nat, k ≤ n ∧ i = .int .i64 k ∧ OwnMat wr w.heap.size mv k ((pick.take k).map fun i => left.getD i []) ∧ Ext w wr) (fun _ i _ => n - (intOf i).toNat)
  case atStart => exact ⟨0, by omega, rfl, OwnMat.nil _ _, Ext.refl w⟩
  case round =>
    obtain ⟨k, hk, rfl, hM, hX⟩ := hrel
    by_cases hlt : k < n
    · obtain ⟨q, hq⟩ : ∃ q, q = pick.getD k 0 := ⟨_, rfl⟩
      have hqN : q < N := by rw [hq]; exact HPK.out k hlt
      have c0 := (hP.ext hX).cell hlt
      rw [← hq] at c0
      obtain ⟨B1, d1, hc1, hrow⟩ := HLR.out q hqN
      have hc1 := hX.cell hc1
      have hrow := RowE.ext hrow hX
      have HQ := Lib.hid hq
      obtain ⟨cl, hcl⟩ : ∃ x, x = (left.getD q []).length := ⟨_, rfl⟩
      rw [← hcl] at hc1 hrow
      have i1 : (0 : Int) ≤ (k : Int) := by omega
      have i2 : (k : Int) < (n : Int) := by omega
      have i3 : (0 : Int) ≤ (q : Int) := by omega
      have i4 : (q : Int) < (N : Int) := by omega
      obtain ⟨us, o1, o2, o3⟩ := hM
      obtain ⟨AM, cM, rfl⟩ := o1.shape
      have hza : Ext wr (wr.alloc (.cells #[.slice B1 cl d1] 56)) := (Ext.refl wr).alloc _
      have o1' := o1.ext hza
      have hX1 := hX.trans hza
      have hN1 := new1J wr 56 (.slice B1 cl d1)
      have hsz := hX1.size
      clear hq hcl
      go_upto_region 5 with (at_builtin; refine wpList_pushX rfl (.tmp 24) (.tmp 32) 126 rfl w.heap.size 56 r0 (.slice none 0 0) 1 24 Tryd.underlying126 ri rz0 rz1 rz2 rfl zSl _ k us rfl o1' wr.heap.size [.slice B1 cl d1] 1 rfl rfl hN1 one1s nou1s (by omega) (by decide) hsz ?_; intro v4 w4 o4 r4 s4)
      have hX4 := r4.ext hX1 (fun g hg => (o1'.lt hg).1)
      have hPu := OwnMat.push o1' o2 (fun i r hi => by obtain ⟨u, hu, hr⟩ := o3 i r hi; exact ⟨u, hu, hr.ext hza⟩) (hrow.ext hza) r4 o4
      obtain ⟨A4, c4, rfl⟩ := o4.shape
      clear hN1 hsz o1' hX1 hza c0 hc1 r4 s4
      go_wp2_with fail
      go_roundw
      case rel => exact ⟨k + 1, by omega, by go_num, by rw [take_map_succ pick _ (by rw [← HN.out]; exact hlt), ← HQ.out]; exact hPu, hX4⟩
      case measure => simp [intOf]; omega
    · obtain rfl : k = n := by omega
      rw [List.take_of_length_le (by rw [← HN.out]; omega)] at hM
      have hMm := hM.mat
      obtain ⟨AM, cM, rfl⟩ := hM.shape
      go_wp2_with fail
      refine (rdet_b k AM k cM _ _ hMm (by rw [List.length_map, ← HN.out]) hn3 (fun i hi => by rw [map_get _ _ _ (by rw [← HN.out]; exact hi)]; exact HLL.out _ (HPK.out i hi)) (map_in (by omega) _ _ (fun i hi l => HLB.out _ l))).mono ?_
      rintro e w5 ⟨rfl, hx5⟩
      rw [HDD.out]
      have hX5 := hX.trans hx5
      have hM5 := hM.ext hx5
      clear hM hMm hX hx5
      go_upto_region 9 with (at_make; refine wpList_makeK .i64 8 _ rfl _ _ 56 rfl 2 Tryd.underlying56 infoI64 (by decide) _ _ rfl rfl k rfl rfl (by omega) ?_; intro w6 hA6 hx6)
      have hA6 : ArrI w6 w5.heap.size k (fun _ => 0) := hA6
      obtain ⟨xb, hxb⟩ : ∃ x, x = w5.heap.size := ⟨_, rfl⟩
      rw [← hxb] at hA6 ⊢
      have hxw : w.heap.size ≤ xb := by rw [hxb]; exact hX5.size
      have hX6 := hX5.trans hx6
      have hMM := hM5.mat
      obtain ⟨-, -, -, hMr⟩ := hMM.inj
      obtain ⟨mb, rfl, hMrow⟩ := hMr (by omega)
      have HMR := Lib.hid hMrow
      have HXB : Hid (w5.heap.size ≤ xb) := Lib.hid (by omega)
      clear hM5 hMM hMr hMrow hxb
      go_wp2_with fail
      go_loopw [13] (fun i wr => ∃ j : Nat, j ≤ k ∧ i = .int .i64 j ∧ ArrI wr xb k (fun l => if l < j then (if D < 0 then 0 - C l else C l) else 0) ∧ Ext w5 wr) (fun i _ => k - (intOf i).toNat)
      case atStart => exact ⟨0, by omega, rfl, hA6.congr (fun l _ => by rw [if_neg (by omega)]), hx6⟩
      case round =>
        obtain ⟨j, hj, rfl, hA, hY⟩ := hrel
        obtain ⟨w1, rfl⟩ : ∃ x, x = wr := ⟨_, rfl⟩
        clear hA6 hX6 hx6
        have hXw := hX5.trans hY
        by_cases hlj : j < k
        · go_wp2_with fail
          go_loopw [14, 15] (fun cv i wr => ∃ t : Nat, t ≤ k ∧ i = .int .i64 t ∧ OwnMat wr w1.heap.size cv t ((pick.take t).map fun i => (left.getD i []).set j (right.getD i 0)) ∧ Ext w1 wr) (fun _ i _ => k - (intOf i).toNat)
          case atStart => exact ⟨0, by omega, rfl, OwnMat.nil _ _, Ext.refl w1⟩
          case round =>
            obtain ⟨t, ht, rfl, hO, hZ⟩ := hrel
            obtain ⟨w2, rfl⟩ : ∃ x, x = wr := ⟨_, rfl⟩
            have hXw2 := hXw.trans hZ
            by_cases hlt2 : t < k
            · obtain ⟨q, hq⟩ : ∃ q, q = pick.getD t 0 := ⟨_, rfl⟩
              have hqN : q < N := by rw [hq]; exact HPK.out t hlt2
              obtain ⟨B1, d1, hc1, hrow⟩ := HMR.out t hlt2
              have hql : (left.getD q []).length = k := HLL.out q hqN
              rw [map_get _ _ _ (by rw [← HN.out]; exact hlt2), ← hq] at hc1 hrow
              rw [hql] at hc1 hrow
              obtain ⟨-, -, hd1, hrow2⟩ := RowE.inj hrow
              have hd2 := hrow2 (by rw [jV_len, hql]; exact hn0)
              obtain ⟨sb, scs, rfl, -, -, hsc⟩ := hd2
              have hYZ := hY.trans hZ
              have hc1 := hYZ.cell hc1
              have c0 := (hP.ext hXw2).cell hlt2
              rw [← hq] at c0
              obtain ⟨z, hz⟩ : ∃ z, z = right.getD q 0 := ⟨_, rfl⟩
              have hcr := hXw2.cell (HRR.out q hqN)
              rw [← hz] at hcr
              obtain ⟨L, hL2⟩ : ∃ L, L = left.getD q [] := ⟨_, rfl⟩
              rw [← hL2] at hql hsc
              have HQ : Hid ((left.getD (pick.getD t 0) []).set j (right.getD (pick.getD t 0) 0) = L.set j z) := Lib.hid (by rw [← hq, ← hL2, ← hz])
              have i1 : (0 : Int) ≤ (t : Int) := by omega
              have i2 : (t : Int) < (k : Int) := by omega
              have i3 : (0 : Int) ≤ (q : Int) := by omega
              have i4 : (q : Int) < (N : Int) := by omega
              have i5 : (0 : Int) ≤ (j : Int) := by omega
              have i6 : (j : Int) < (k : Int) := by omega
              have hze : Ext w2 (w2.alloc (.cells #[] 2)) := (Ext.refl w2).alloc _
              have oe := OwnX.empty w2 2 1
              have hnw : ∀ (l : Nat) (y : Value), (jV L)[l]? = some y → (w2.alloc (.cells #[] 2)).cell? ((⟨sb, 0, none⟩ : Addr).add l) = some y := fun l y hl => by
                rw [Lib.add_plain, Nat.zero_add]
                exact hze.cell (hYZ.cell (hsc l y hl))
              have hone : ∀ y ∈ jV L, y.oneCell' = true := fun y hy => by unfold jV at hy; obtain ⟨u, -, rfl⟩ := List.mem_map.1 hy; rfl
              have hnou : ∀ y ∈ jV L, noU y = true := fun y hy => by unfold jV at hy; obtain ⟨u, -, rfl⟩ := List.mem_map.1 hy; rfl
              have hnl : (jV L).length = k * 1 := by rw [jV_len, hql, Nat.mul_one]
              have hsz := hze.size
              have hc1' := hze.cell hc1
              clear hq hz hL2 hsc hrow hrow2
              go_upto_region 17 with (at_builtin; refine wpList_pushN rfl (.tmp 48) (.tmp 52) 56 rfl w2.heap.size 2 i0 (.int .i64 0) 1 8 Tryd.underlying56 ii iz0 iz1 iz2 rfl zI64 _ 0 [] rfl oe ⟨sb, 0, none⟩ k (jV L) d1 rfl hn0 hnl hnw hone hnou (by omega) (by decide) hsz ?_; intro v4 w4 o4 r4 s4)
              have hX4 := r4.ext hze (fun g hg => (oe.lt hg).1)
              simp only [Nat.zero_add, List.nil_append] at o4
              obtain ⟨b4, c4, rfl, hb4, hc4, hc4', hJ⟩ := OwnX.arrJ o4 hn0
              have hO4 := hO.ext hX4
              obtain ⟨t1, t2⟩ := hJ.set hlj z
              have z0 := hJ.frozen j
              have e0 := hJ.cell hlj
              have c0 := hX4.cell c0
              have hcr := hX4.cell hcr
              have hS1 := Lib.hid t1
              have hS2 := Lib.hid t2
              clear t1 t2 hc1 hc1' hnw oe o4 r4 s4 hze hsz hone hnou
              go_upto_region 18 with fail
              have hA5 := hS1.out
              have hF5 := hS2.out
              generalize (w4.setCell ⟨b4, j, none⟩ (.int .i64 z)) = w8 at *
              clear hS1 hS2 z0 e0 c0 hcr
              have hX8 : Ext w2 w8 := hF5.ext hX4 (fun b hb => by rw [hb]; exact hb4)
              have hrow8 : RowJ w8 (.slice (some ⟨b4, 0, none⟩) k c4) (L.set j z) := hA5.rowJ (by rw [List.length_set]; exact hql) (fun l hl => by
                rw [set_get _ _ _ _ (by omega)]) hc4 hc4'
              have hO8 := hO.ext hX8
              have hZ8 := hZ.trans hX8
              obtain ⟨us, o1, o2, o3⟩ := hO8
              obtain ⟨AC, cC, rfl⟩ := o1.shape
              have hza : Ext w8 (w8.alloc (.cells #[.slice (some ⟨b4, 0, none⟩) k c4] 56)) := (Ext.refl w8).alloc _
              have o1' := o1.ext hza
              have hX9 := hZ8.trans hza
              have hN1 := new1J w8 56 (.slice (some ⟨b4, 0, none⟩) k c4)
              have hsz := hX9.size
              clear hJ hA5 hF5 hX4 hX8 hO4 hO
              go_upto_region 15 with (at_builtin; refine wpList_pushX rfl (.tmp 64) (.tmp 66) 126 rfl w1.heap.size 56 r0 (.slice none 0 0) 1 24 Tryd.underlying126 ri rz0 rz1 rz2 rfl zSl _ t us rfl o1' w8.heap.size [.slice (some ⟨b4, 0, none⟩) k c4] 1 rfl rfl hN1 one1s nou1s (by omega) (by decide) hsz ?_; intro v9 w9 o9 r9 s9)
              have hXX := r9.ext hX9 (fun g hg => (o1'.lt hg).1)
              have hPu := OwnMat.push o1' o2 (fun i r hi => by obtain ⟨u, hu, hr⟩ := o3 i r hi; exact ⟨u, hu, hr.ext hza⟩) (hrow8.ext hza) r9 o9
              obtain ⟨A9, c9, rfl⟩ := o9.shape
              clear hN1 hsz o1' hX9 hza r9 s9 o1 o3 hrow8
              go_wp2_with fail
              go_roundw
              case rel => exact ⟨t + 1, by omega, by go_num, by rw [take_map_succ pick _ (by rw [← HN.out]; exact hlt2), HQ.out]; exact hPu, hXX⟩
              case measure => simp [intOf]; omega
            · obtain rfl : t = k := by omega
              rw [List.take_of_length_le (by rw [← HN.out]; omega)] at hO
              have hOm := hO.mat
              obtain ⟨AC, cC, rfl⟩ := hO.shape
              obtain ⟨cj, hcj⟩ : ∃ x, x = C j := ⟨_, rfl⟩
              have hcb : inC 1296000 cj := by rw [hcj]; exact HDB.out.2 j hlj
              have HCJ := Lib.hid hcj
              have HCC := HC.out j
              rw [← hcj] at HCC
              have i5 : (0 : Int) ≤ (j : Int) := by omega
              have i6 : (j : Int) < (t : Int) := by omega
              unfold inC at hcb
              have u4 : IntKind.i64.wrap (-cj) = -cj := IntWalk.i64_in _ (by omega)
              clear hcj hcb
              go_wp2_with fail
              refine (rdet_b t AC t cC _ _ hOm (by rw [List.length_map, ← HN.out]) hn3 (fun i hi => by rw [map_get _ _ _ (by rw [← HN.out]; exact hi), List.length_set]; exact HLL.out _ (HPK.out i hi)) (map_in (by omega) _ _ (fun i hi l => by
                rw [set_get _ _ _ _ (by rw [HLL.out _ (HPK.out i (by rw [HN.out]; exact hi))]; exact hlj)]
                split
                · exact HRB.out _
                · exact HLB.out _ l))).mono ?_
              rintro e w4 ⟨rfl, hx4⟩
              rw [HCC]
              have hA4 := hA.ext (hZ.trans hx4)
              have hZ4 := hZ.trans hx4
              obtain ⟨t1, t2⟩ := hA4.set hlj cj
              have z0 := hA4.frozen j
              have e0 := hA4.cell hlj
              have hS1 := Lib.hid t1
              have hS2 := Lib.hid t2
              clear t1 t2 HCC hO hOm hZ hx4
              go_upto_region 20 with fail
              have hA6 := hS1.out
              have hF6 := hS2.out
              generalize (w4.setCell ⟨xb, j, none⟩ (.int .i64 cj)) = w8 at *
              have hX8 : Ext w5 w8 := hF6.ext (hY.trans hZ4) (fun b hb => by rw [hb]; exact HXB.out)
              clear hS1 hS2 z0 e0 hF6 hA4 hZ4
              by_cases hD : D < 0
              · have e0 := hA6.cell hlj
                rw [if_pos rfl] at e0
                have z0 := hA6.frozen j
                obtain ⟨t1, t2⟩ := hA6.set hlj (-cj)
                have hS1 := Lib.hid t1
                have hS2 := Lib.hid t2
                clear t1 t2
                go_wp2_with fail
                go_roundw
                case rel =>
                  refine ⟨j + 1, by omega, by go_num, hS1.out.congr (fun l hl => ?_), hS2.out.ext hX8 (fun b hb => by rw [hb]; exact HXB.out)⟩
                  simp only [if_pos hD]
                  by_cases e : l = j
                  · subst e
                    rw [if_pos rfl, if_pos (by omega), ← HCJ.out]; omega
                  · rw [if_neg e, if_neg e]
                    by_cases h2 : l < j
                    · rw [if_pos h2, if_pos (by omega)]
                    · rw [if_neg h2, if_neg (by omega)]
                case measure => simp [intOf]; omega
              · go_wp2_with fail
                go_roundw
                case rel =>
                  refine ⟨j + 1, by omega, by go_num, hA6.congr (fun l hl => ?_), hX8⟩
                  have hD' : ¬ D < 0 := by omega
                  simp only [if_neg hD']
                  by_cases e : l = j
                  · subst e
                    rw [if_pos rfl, if_pos (by omega), ← HCJ.out]
                  · rw [if_neg e]
                    by_cases h2 : l < j
                    · rw [if_pos h2, if_pos (by omega)]
                    · rw [if_neg h2, if_neg (by omega)]
                case measure => simp [intOf]; omega
        · obtain rfl : j = k := by omega
          have hrow : RowJ w1 (.slice (some ⟨xb, 0, none⟩) j j) (meetX left right pick) := hA.rowJ HXL.out (fun l hl => by rw [HX.out l hl, if_pos hl]) (by omega)
          have hDb := HDB.out.1
          unfold inC at hDb
          have u4 : IntKind.i64.wrap (-D) = -D := IntWalk.i64_in _ (by omega)
          by_cases hD : D < 0
          · go_wp2_with fail
            refine bodyPost_ret (v := .tuple #[.slice (some ⟨xb, 0, none⟩) j j, .int .i64 (-D)]) (by simp [results, Tryd.results80, go_sem]) rfl ?_
            refine (HP.out _ _).2 ⟨xb, by rw [HA.out, if_pos hD, show 0 - D = -D by omega], hrow, hXw⟩
          · go_wp2_with fail
            refine bodyPost_ret (v := .tuple #[.slice (some ⟨xb, 0, none⟩) j j, .int .i64 D]) (by simp [results, Tryd.results80, go_sem]) rfl ?_
            refine (HP.out _ _).2 ⟨xb, by rw [HA.out, if_neg (show ¬ D < 0 by omega)], hrow, hXw⟩
end Go.Proofs.YtgffcblldebelaaDoor.Lp

/- Walks: Feasible, Value of the reference of LpSmall. -/
import Derived.Test.YtgffcblldebelaaDoorLZ8
import Derived.Test.YtgffcblldebelaaDoorLZ4
set_option linter.unusedVariables false
set_option linter.unusedSimpArgs false
namespace Go.Proofs.YtgffcblldebelaaDoor.Lp
open Go.RowKit Go.Proofs.YtgffcblldebelaaDoor.Big Go.Proofs.YtgffcblldebelaaDoor.Rt

def RRX (w : World) (X : Nat → Option Value) (off : Nat) (r : RR) : Prop :=
  ∃ A c, X off = some (.slice A r.coef.length c) ∧ X (off + 1) = some (.int .u8 (r.rel : Int)) ∧ X (off + 2) = some (.int .i64 r.right) ∧ RowJ w (.slice A r.coef.length c) r.coef
theorem RRX.fr {P : Nat → Prop} {w w' : World} {X : Nat → Option Value} {off : Nat} {r : RR} (h : RRX w X off r) (k : Fr P w w') (hP : ∀ b cs, w.heap[b]? = some (.cells cs 2 (0, 0)) → ¬ P b) : RRX w' X off r := by
  obtain ⟨A, c, h1, h2, h3, h4⟩ := h
  exact ⟨A, c, h1, h2, h3, h4.fr k hP⟩
theorem RRX.ext {w w' : World} {X : Nat → Option Value} {off : Nat} {r : RR} (h : RRX w X off r) (k : Ext w w') : RRX w' X off r := h.fr (P := fun _ => False) (Fr.of k) (fun _ _ _ => id)
/-- a problem of the reference -/
def RPV (w : World) (v : Value) (p : RP) : Prop :=
  ∃ Ao co Ar cr, v = .agg #[.slice Ao p.obj.length co, .slice Ar p.rows.length cr] ∧ RowJ w (.slice Ao p.obj.length co) p.obj ∧ p.rows.length ≤ cr ∧ cr ≤ 9223372036854775807 ∧
    (0 < p.rows.length → ∃ b cs, Ar = some ⟨b, 0, none⟩ ∧ w.heap[b]? = some (.cells cs 105 (0, 0)) ∧ ∀ (j : Nat) (r : RR), p.rows[j]? = some r → RRX w (fun i => cs[i]?) (j * 3) r)
theorem RPV.fr {P : Nat → Prop} {w w' : World} {v : Value} {p : RP} (h : RPV w v p) (k : Fr P w w') (h1 : ∀ b cs, w.heap[b]? = some (.cells cs 2 (0, 0)) → ¬ P b) (h2 : ∀ b cs, w.heap[b]? = some (.cells cs 105 (0, 0)) → ¬ P b) : RPV w' v p := by
  obtain ⟨Ao, co, Ar, cr, rfl, g1, g2, g3, g4⟩ := h
  refine ⟨Ao, co, Ar, cr, rfl, g1.fr k h1, g2, g3, fun hm => ?_⟩
  obtain ⟨b, cs, e, hb, hr⟩ := g4 hm
  exact ⟨b, cs, e, k.row (h2 b cs hb) hb, fun j r hj => (hr j r hj).fr k h1⟩
theorem RPV.ext {w w' : World} {v : Value} {p : RP} (h : RPV w v p) (k : Ext w w') : RPV w' v p := h.fr (P := fun _ => False) (Fr.of k) (fun _ _ _ => id) (fun _ _ _ => id)
/-- numbers of a problem are small -/
structure RP.Sm (p : RP) : Prop where
  obj : ∀ i, inC 60 (p.obj.getD i 0)
  row : ∀ r ∈ p.rows, inC 60 r.right ∧ (∀ i, inC 60 (r.coef.getD i 0)) ∧ r.rel ≤ 255
theorem RP.feas_eq (p : RP) (xs : List Int) (d : Int) : p.feas xs d = true ↔ (∀ j, j < xs.length → 0 ≤ xs.getD j 0) ∧ ∀ (i : Nat) (r : RR), p.rows[i]? = some r → holdsI r.rel (dotI r.coef xs) (r.right * d) = true := by
  unfold RP.feas
  rw [Bool.and_eq_true, List.all_eq_true, List.all_eq_true]
  refine and_congr ⟨fun h j hj => ?_, fun h z hz => ?_⟩ ⟨fun h i r hi => h r (List.mem_of_getElem? hi), fun h r hr => ?_⟩
  · have := h _ (List.getElem_mem hj)
    rw [List.getD_eq_getElem?_getD, List.getElem?_eq_getElem hj]; simpa using this
  · obtain ⟨j, hj, rfl⟩ := List.mem_iff_getElem.1 hz
    have := h j hj
    rw [List.getD_eq_getElem?_getD, List.getElem?_eq_getElem hj] at this; simpa using this
  · obtain ⟨i, hi, rfl⟩ := List.mem_iff_getElem.1 hr
    exact h i _ (List.getElem?_eq_getElem hi)
theorem dot_small {a b : List Int} {C : Int} (ha : ∀ i, inC 60 (a.getD i 0)) (hb : ∀ i, inC C (b.getD i 0)) (n m : Nat) : ∀ j, j < n → j < m → -(60 * C) ≤ a.getD j 0 * b.getD j 0 ∧ a.getD j 0 * b.getD j 0 ≤ 60 * C := fun j _ _ => abs_mul (ha j) (hb j) (by omega)
set_option maxHeartbeats 4000000 in
set_option maxRecDepth 100000 in
theorem rfeas_b (v : Value) (p : RP) (A : Option Addr) (n c : Nat) (xs : List Int) (d : Int) (w : World) (h : RPV w v p) (hs : p.Sm) (hx : RowJ w (.slice A n c) xs) (hxb : ∀ i, inC 1296000 (xs.getD i 0)) (hd : 0 ≤ d ∧ d ≤ 1296000) (hn : n ≤ 4) :
    Calls Tryd.prog 41 #[v, .slice A n c, .int .i64 d] w (ValPost w (.bool (p.feas xs d))) := by
  obtain ⟨Ao, co, Ar, cr, rfl, hO, hcr, hcr2, hrows⟩ := h
  obtain ⟨F, hF⟩ : ∃ F, F = p.feas xs d := ⟨_, rfl⟩
  rw [← hF]
  obtain ⟨e1, g1, g2, g3⟩ := hx.inj
  have HFE : Hid (F = true ↔ (∀ j, j < n → 0 ≤ xs.getD j 0) ∧ ∀ (i : Nat) (r : RR), p.rows[i]? = some r → holdsI r.rel (dotI r.coef xs) (r.right * d) = true) := Lib.hid (by rw [hF, e1]; exact p.feas_eq xs d)
  obtain ⟨m, hm⟩ : ∃ m, m = p.rows.length := ⟨_, rfl⟩
  obtain ⟨o, ho⟩ : ∃ m, m = p.obj.length := ⟨_, rfl⟩
  rw [← hm] at hcr hrows ⊢
  rw [← ho]
  have HM := Lib.hid hm
  have HS := Lib.hid hs
  have HXB := Lib.hid hxb
  have HROWS := Lib.hid hrows
  clear hF e1 hm ho hs hxb hrows hO
  have PB := Box.new w 59 #[.slice Ao o co, .slice Ar m cr]
  have hE : Ext w (w.alloc (.cells #[.slice Ao o co, .slice Ar m cr] 59)) := (Ext.refl w).alloc _
  go_enter Tryd.func41, Tryd.ntmps41
  go_upto_region 1 with fail
  generalize (w.alloc (.cells #[.slice Ao o co, .slice Ar m cr] 59)) = V at *
  obtain ⟨pb, hpb⟩ : ∃ x, x = w.heap.size := ⟨_, rfl⟩
  rw [← hpb] at PB ⊢
  clear hpb
  go_wp2_with fail
  go_loopw [7] (fun i wr => ∃ k : Nat, k ≤ n ∧ i = .int .i64 k ∧ Hid (∀ j, j < k → 0 ≤ xs.getD j 0) ∧ wr = V) (fun i _ => n - (intOf i).toNat)
  case atStart => exact ⟨0, by omega, rfl, Lib.hid (fun j hj => absurd hj (by omega)), rfl⟩
  case round =>
    obtain ⟨k, hk, rfl, HK, rfl⟩ := hrel
    by_cases hlt : k < n
    · obtain ⟨xb, rfl, -, hc⟩ := g3 (by omega)
      have c0 := hE.cell (hc k hlt)
      have i1 : (0 : Int) ≤ (k : Int) := by omega
      have i2 : (k : Int) < (n : Int) := by omega
      obtain ⟨z, hz⟩ : ∃ z, z = xs.getD k 0 := ⟨_, rfl⟩
      rw [← hz] at c0
      have HZ := Lib.hid hz
      clear hz hc
      by_cases hneg : z < 0
      · go_wp2_with fail
        go_ret
        refine ⟨?_, hE⟩
        have : F = false := by
          cases hFv : F with
          | false => rfl
          | true =>
            have := (HFE.out.1 hFv).1 k hlt
            rw [← HZ.out] at this; omega
        rw [this]; rfl
      · go_wp2_with fail
        go_roundw
        case rel => exact ⟨k + 1, by omega, by go_num, Lib.hid (fun j hj => by
          by_cases e : j = k
          · subst e; rw [← HZ.out]; omega
          · exact HK.out j (by omega)), by first | rfl | trivial⟩
        case measure => simp [intOf]; omega
    · obtain rfl : k = n := by omega
      have p1 := PB.c1
      go_wp2_with fail
      go_loopw [8] (fun i wr => ∃ l : Nat, l ≤ m ∧ i = .int .i64 l ∧ Hid (∀ (i : Nat) (r : RR), i < l → p.rows[i]? = some r → holdsI r.rel (dotI r.coef xs) (r.right * d) = true) ∧ Ext w wr ∧ Box wr pb 59 #[.slice Ao o co, .slice Ar m cr]) (fun i _ => m - (intOf i).toNat)
      case atStart => exact ⟨0, by omega, rfl, Lib.hid (fun j r hj => absurd hj (by omega)), hE, PB⟩
      case round =>
        clear PB p1
        obtain ⟨l, hl, rfl, HL, hX, PB⟩ := hrel
        have p1 := PB.c1
        by_cases hlm : l < m
        · obtain ⟨rb, cs, rfl, hrb, hrx⟩ := HROWS.out (by omega)
          obtain ⟨r, hr⟩ : ∃ r, p.rows[l]? = some r := ⟨_, List.getElem?_eq_getElem (by have := HM.out; omega)⟩
          obtain ⟨B, bd, h0, h1, h2, hrow⟩ := hrx l r hr
          have hcell : ∀ i u, cs[i]? = some u → wr.cell? ⟨rb, i, none⟩ = some u := fun i u hu => hX.cell (by rw [cell_of_row w rb i cs _ (0, 0) hrb]; exact hu)
          have c0 := hcell _ _ h0
          have c1 := hcell _ _ h1
          have c2 := hcell _ _ h2
          have hrm := HS.out.row r (List.mem_of_getElem? hr)
          have HRM := Lib.hid hrm
          have hrelb := hrm.2.2
          obtain ⟨rel, hrel'⟩ : ∃ x, x = r.rel := ⟨_, rfl⟩
          obtain ⟨rt, hrt⟩ : ∃ x, x = r.right := ⟨_, rfl⟩
          obtain ⟨cl, hcl⟩ : ∃ x, x = r.coef.length := ⟨_, rfl⟩
          rw [← hrel'] at c1 hrelb
          rw [← hrt] at c2
          rw [← hcl] at c0 hrow
          have HH : Hid (F = true → holdsI rel (dotI r.coef xs) (rt * d) = true) := Lib.hid (fun h => by rw [hrel', hrt]; exact (HFE.out.1 h).2 l r hr)
          have HH2 : Hid (holdsI rel (dotI r.coef xs) (rt * d) = true → ∀ (i : Nat) (r : RR), i < l + 1 → p.rows[i]? = some r → holdsI r.rel (dotI r.coef xs) (r.right * d) = true) := Lib.hid (fun h i s hi hs => by
            by_cases e : i = l
            · subst e
              rw [hr] at hs
              injection hs with hs
              subst hs
              rw [hrel', hrt] at h; exact h
            · exact HL.out i s (by omega) hs)
          have hrtb : inC (60 * 1296000) (rt * d) := by rw [hrt]; exact abs_mul hrm.1 (show inC 1296000 d by unfold inC; omega) (by omega)
          have HD : Hid (inC 4000000000 (dotI r.coef xs)) := Lib.hid (by
            unfold dotI
            have h5 := smI_le (n := min r.coef.length xs.length) (C := 60 * 1296000) (by omega) (f := fun i => r.coef.getD i 0 * xs.getD i 0) (fun j _ => abs_mul (hrm.2.1 j) (HXB.out j) (by omega))
            have h6 : xs.length ≤ 4 := by have := hx.inj.1; omega
            have h7 : ((min r.coef.length xs.length : Nat) : Int) ≤ 4 := by omega
            have h8 := Int.mul_le_mul_of_nonneg_right h7 (show (0 : Int) ≤ 60 * 1296000 by omega)
            unfold inC; omega)
          have i1 : (0 : Int) ≤ (l : Int) := by omega
          have i2 : (l : Int) < (m : Int) := by omega
          unfold inC at hrtb
          have w1 : IntKind.i64.wrap (rt * d) = rt * d := IntWalk.i64_in _ (by omega)
          clear hrel' hrt hcl h0 h1 h2 hcell hrm
          go_upto_region 10 with fail
          have RB := Box.new wr 105 #[.slice B cl bd, .int .u8 (rel : Int), .int .i64 rt]
          have hxn : Ext wr (wr.alloc (.cells #[.slice B cl bd, .int .u8 (rel : Int), .int .i64 rt] 105)) := (Ext.refl wr).alloc _
          generalize (wr.alloc (.cells #[.slice B cl bd, .int .u8 (rel : Int), .int .i64 rt] 105)) = U at *
          obtain ⟨ub, hub⟩ : ∃ x, x = wr.heap.size := ⟨_, rfl⟩
          rw [← hub] at RB ⊢
          have hXU := hX.trans hxn
          have PU := PB.ext hxn
          clear hub c0 c1 c2 p1 PB
          have r0 := RB.c0
          have r1 := RB.c1
          have r2 := RB.c2
          go_wp2_with fail
          refine (rdot_b B A cl bd k c r.coef xs (60 * 1296000) _ (RowE.ext hrow hXU) (RowE.ext hx hXU) (dot_small HRM.out.2.1 HXB.out _ _) (by omega) (by omega) (.inr hn)).mono ?_
          rintro e w5 ⟨rfl, hx5⟩
          have hX5 := hXU.trans hx5
          have PB5 := PU.ext hx5
          have RB5 := RB.ext hx5
          clear r0 r1 r2
          have r1 := RB5.c1
          have r2 := RB5.c2
          obtain ⟨D, hD⟩ : ∃ D, D = dotI r.coef xs := ⟨_, rfl⟩
          rw [← hD] at HH HH2 HD ⊢
          clear hD
          go_upto_region 12 with fail
          obtain ⟨T, hT⟩ : ∃ T, T = rt * d := ⟨_, rfl⟩
          rw [← hT] at HH HH2 ⊢
          clear hT w1 r2 hrtb
          obtain ⟨Hd, hHd⟩ : ∃ H, H = holdsI rel D T := ⟨_, rfl⟩
          rw [← hHd] at HH HH2
          have HHD := Lib.hid hHd
          clear hHd
          go_cut [70] (fun v wx => v = .bool (!Hd) ∧ wx = w5)
          case first => as_aux_lemma =>
            by_cases e1 : rel = 1
            · subst e1
              by_cases hc : T < D
              · have : Hid ((!Hd) = true) := Lib.hid (by rw [HHD.out]; unfold holdsI; simp; omega)
                go_wp2_with fail
                go_meet
                exact ⟨by rw [this.out], rfl⟩
              · have : Hid ((!Hd) = false) := Lib.hid (by rw [HHD.out]; unfold holdsI; simp; omega)
                go_wp2_with fail
                go_meet
                exact ⟨by rw [this.out], rfl⟩
            · by_cases e2 : rel = 2
              · subst e2
                by_cases hc : D = T
                · have : Hid ((!Hd) = false) := Lib.hid (by rw [HHD.out]; unfold holdsI; simp; omega)
                  have hb : (D != T) = false := by simpa using hc
                  go_wp2_with fail
                  go_meet
                  exact ⟨by rw [this.out], rfl⟩
                · have : Hid ((!Hd) = true) := Lib.hid (by rw [HHD.out]; unfold holdsI; simp; omega)
                  have hb : (D != T) = true := by simpa using hc
                  go_wp2_with fail
                  go_meet
                  exact ⟨by rw [this.out], rfl⟩
              · by_cases e3 : rel = 3
                · subst e3
                  by_cases hc : D < T
                  · have : Hid ((!Hd) = true) := Lib.hid (by rw [HHD.out]; unfold holdsI; simp; omega)
                    go_wp2_with fail
                    go_meet
                    exact ⟨by rw [this.out], rfl⟩
                  · have : Hid ((!Hd) = false) := Lib.hid (by rw [HHD.out]; unfold holdsI; simp; omega)
                    go_wp2_with fail
                    go_meet
                    exact ⟨by rw [this.out], rfl⟩
                · have : Hid ((!Hd) = false) := Lib.hid (by rw [HHD.out]; unfold holdsI; simp; omega)
                  have b1 : ((rel : Int) == 1) = false := by simp; omega
                  have b2 : ((rel : Int) == 2) = false := by simp; omega
                  have b3 : ((rel : Int) == 3) = false := by simp; omega
                  go_wp2_with fail
                  go_meet
                  exact ⟨by rw [this.out], rfl⟩
          case rest => as_aux_lemma =>
            obtain ⟨rfl, rfl⟩ := hcut
            rename_i hK
            refine hK _ _ ?_
            clear hK
            cases Hd with
            | true =>
              go_wp2_with fail
              go_roundw
              case rel => exact ⟨l + 1, by omega, by go_num, Lib.hid (HH2.out rfl), hX5, PB5⟩
              case measure => simp [intOf]; omega
            | false =>
              go_wp2_with fail
              go_ret
              refine ⟨?_, hX5⟩
              have : F = false := by
                cases hFv : F with
                | false => rfl
                | true => have := HH.out hFv; cases this
              rw [this]; rfl
        · obtain rfl : l = m := by omega
          go_wp2_with fail
          go_ret
          refine ⟨?_, hX⟩
          have : F = true := HFE.out.2 ⟨HK.out, fun i r hi => HL.out i r (by have := (List.getElem?_eq_some_iff.1 hi).1; have := HM.out; omega) hi⟩
          rw [this]; rfl
set_option maxHeartbeats 4000000 in
theorem rvalue_b (v : Value) (p : RP) (A : Option Addr) (n c : Nat) (xs : List Int) (w : World) (h : RPV w v p) (hs : p.Sm) (hx : RowJ w (.slice A n c) xs) (hxb : ∀ i, inC 1296000 (xs.getD i 0)) (hn : n ≤ 4) :
    Calls Tryd.prog 40 #[v, .slice A n c] w (ValPost w (.int .i64 (dotI p.obj xs))) := by
  obtain ⟨Ao, co, Ar, cr, rfl, hO, hcr, hcr2, hrows⟩ := h
  obtain ⟨o, ho⟩ : ∃ m, m = p.obj.length := ⟨_, rfl⟩
  obtain ⟨m, hm⟩ : ∃ m, m = p.rows.length := ⟨_, rfl⟩
  rw [← ho] at hO
  rw [← ho, ← hm]
  have HS := Lib.hid hs
  have HXB := Lib.hid hxb
  clear ho hm hs hxb hrows hcr
  have PB := Box.new w 59 #[.slice Ao o co, .slice Ar m cr]
  have hE : Ext w (w.alloc (.cells #[.slice Ao o co, .slice Ar m cr] 59)) := (Ext.refl w).alloc _
  go_enter Tryd.func40, Tryd.ntmps40
  go_upto_region 1 with fail
  generalize (w.alloc (.cells #[.slice Ao o co, .slice Ar m cr] 59)) = V at *
  obtain ⟨pb, hpb⟩ : ∃ x, x = w.heap.size := ⟨_, rfl⟩
  rw [← hpb] at PB ⊢
  clear hpb
  have p0 := PB.c0
  go_wp2_with fail
  refine (rdot_b Ao A o co n c p.obj xs (60 * 1296000) _ (RowE.ext hO hE) (RowE.ext hx hE) (dot_small HS.out.obj HXB.out _ _) (by omega) (by omega) (.inr hn)).mono ?_
  rintro e w1 ⟨rfl, hx1⟩
  go_wp2_with fail
  go_ret
  exact ⟨rfl, hE.trans hx1⟩
end Go.Proofs.YtgffcblldebelaaDoor.Lp

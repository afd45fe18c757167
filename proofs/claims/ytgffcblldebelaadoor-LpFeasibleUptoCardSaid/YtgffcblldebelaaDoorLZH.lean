/- Walk: plain of the law package (the problem for the reference). -/
import Derived.Test.YtgffcblldebelaaDoorLZF
import Derived.Test.YtgffcblldebelaaDoorLZG
import Derived.Deep.RegionLaw
set_option linter.unusedVariables false
set_option linter.unusedSimpArgs false
namespace Go.Proofs.YtgffcblldebelaaDoor.Lp
open Go.RowKit Go.Proofs.YtgffcblldebelaaDoor.Big Go.Proofs.YtgffcblldebelaaDoor.Rt
attribute [local go_sem] Go.World.cell?_alloc_some Go.RowKit.frozen?_alloc_cells

def IRow.rr (r : IRow) : RR := ⟨r.coef, r.rel, r.right⟩
def IP.rp (p : IP) : RP := ⟨p.obj, p.rows.map IRow.rr⟩
def PlainPost (w : World) (p : IP) (e : Ending) (w' : World) : Prop := ∃ v, e = .returned v ∧ RPV w' v p.rp ∧ Ext w w'
theorem plain_step {X y w1 : World} {base qb N K n co d : Nat} {v : Value} {xs news : List Value} {Ao A : Option Addr} {rows : List RR} {r : RR} (hK : rows.length = K) (hN : N = K + 1) (o : OwnX X base 105 3 v K xs) (hR : RRows X (fun i => xs[i]?) rows) (hPX : RRX X (fun i => news[i]?) 0 r)
    (QB : Box X qb 59 #[.slice Ao n co, v]) (o6 : OwnX y base 105 3 (.slice A N d) N (xs ++ news)) (k : Fr (fun g => v.ownBlock = some g) X y) (hX : Ext w1 X) (hb : w1.heap.size ≤ base) (hq : w1.heap.size ≤ qb) :
    OwnX (y.setCell ⟨qb, 1, none⟩ (.slice A N d)) base 105 3 (.slice A N d) N (xs ++ news) ∧ RRows (y.setCell ⟨qb, 1, none⟩ (.slice A N d)) (fun i => (xs ++ news)[i]?) (rows ++ [r]) ∧
    Box (y.setCell ⟨qb, 1, none⟩ (.slice A N d)) qb 59 #[.slice Ao n co, .slice A N d] ∧ Ext w1 (y.setCell ⟨qb, 1, none⟩ (.slice A N d)) := by
  subst hN
  obtain ⟨A0, c0, rfl⟩ := o.shape
  have tb := boxR QB o k (by decide)
  have hnP := typ_ne o (show 105 ≠ 2 by decide)
  have hP := RRows.push (hR.fr k hnP) (by rw [o.1, hK]) (hPX.fr k hnP)
  have hF : Fr (fun k => k = qb) y (y.setCell ⟨qb, 1, none⟩ (.slice A (K + 1) d)) := (Fr.refl (fun k => k = qb) y).set (p := ⟨qb, 1, none⟩) rfl (fun z => by rw [tb.c1]; intro e; cases e) _
  have o7 := o6.fr hF (fun g hg e => by obtain ⟨-, -, cur, hcur⟩ := o6.lt hg; exact row_ne tb hcur (by decide) e.symm)
  exact ⟨o7, hP.fr hF (fun b cs hc e => row_ne tb hc (by decide) e.symm), tb.set 1 _, (k.ext hX (fun g hg => Nat.le_trans hb (o.lt hg).1)).set (p := ⟨qb, 1, none⟩) hq _⟩
set_option maxHeartbeats 40000000 in
set_option maxRecDepth 100000 in
theorem plain_b (v : Value) (ip : IP) (w : World) (h : IPV w v ip) (hok : ip.ok) : Calls Tryd.prog 26 #[v] w (PlainPost w ip) := by
  obtain ⟨Ao, co, Ar, cr, rfl, ho, hmc, -, hrows⟩ := h
  obtain ⟨k1, k2, k3, k4, k5⟩ := hok
  have HK1 := Lib.hid k1
  have HK5 := Lib.hid k5
  have HROW := Lib.hid hrows
  clear k1 k5 hrows
  obtain ⟨n, hn⟩ : ∃ n, n = ip.obj.length := ⟨_, rfl⟩
  obtain ⟨m, hm⟩ : ∃ n, n = ip.rows.length := ⟨_, rfl⟩
  obtain ⟨d, hd⟩ : ∃ n, n = ip.den := ⟨_, rfl⟩
  rw [← hn] at ho k2
  rw [← hn, ← hm, ← hd]
  rw [← hm] at hmc k3 HROW
  have HM := Lib.hid hm
  have HNN := Lib.hid hn
  clear hn hm hd k4
  obtain ⟨q0, qi, qz0, qz1, qz2⟩ := info_parts infoRR
  obtain ⟨B1, B2, hE0⟩ := boxesT2 w 25 59 #[.slice Ao n co, .slice Ar m cr, .int .u8 (d : Int)] #[.slice none 0 0, .slice none 0 0]
  go_enter Tryd.func26, Tryd.ntmps26
  go_upto_region 1 with fail
  generalize ((w.alloc (.cells #[.slice Ao n co, .slice Ar m cr, .int .u8 (d : Int)] 25)).alloc (.cells #[.slice none 0 0, .slice none 0 0] 59)) = V at *
  obtain ⟨b2, hb2⟩ : ∃ x, x = w.heap.size + 1 := ⟨_, rfl⟩
  obtain ⟨b1, hb1⟩ : ∃ x, x = w.heap.size := ⟨_, rfl⟩
  rw [← hb2] at B2 ⊢
  rw [← hb1] at B1 ⊢
  have hw2 : w.heap.size ≤ b2 := by omega
  clear hb1 hb2
  have c0 := B1.c0
  have c1 := B1.c1
  go_wp2_with fail
  refine (wide_b Ao n co ip.obj _ (ho.ext hE0) (by rw [← HNN.out]; exact k2) HK1.out).mono ?_
  rintro e w1 ⟨A1, d1, rfl, hO1, hx1⟩
  rw [← HNN.out] at hO1 ⊢
  have hE1 := hE0.trans hx1
  have B1 := B1.ext hx1
  have B2 := B2.ext hx1
  have c1 := B1.c1
  clear c0
  go_upto_region 3 with fail
  obtain ⟨b3, hb3⟩ : ∃ x, x = w1.heap.size := ⟨_, rfl⟩
  have B3 := Box.new w1 59 #[.slice A1 n d1, .slice none 0 0]
  have hx2 : Ext w1 (w1.alloc (.cells #[.slice A1 n d1, .slice none 0 0] 59)) := (Ext.refl w1).alloc _
  generalize (w1.alloc (.cells #[.slice A1 n d1, .slice none 0 0] 59)) = U at *
  rw [← hb3] at B3 ⊢
  have h13 : w1.heap.size ≤ b3 := by omega
  clear hb3
  have c1 := hx2.cell c1
  have hwB : w.heap.size ≤ w1.heap.size := hE1.size
  go_wp2_with fail
  clear c1
  go_loopw [15] (fun i wr => ∃ (k : Nat) (vr : Value) (xs : List Value), k ≤ m ∧ i = .int .i64 k ∧ OwnX wr w1.heap.size 105 3 vr k xs ∧ RRows wr (fun i => xs[i]?) ((ip.rows.map IRow.rr).take k) ∧ Box wr b3 59 #[.slice A1 n d1, vr] ∧ Ext w1 wr) (fun i _ => m - (intOf i).toNat)
  case atStart => exact ⟨0, _, [], by omega, rfl, OwnX.nil _ _ _ _, fun i r hi => by simp at hi, B3, hx2⟩
  case round =>
    clear B3 hx2
    obtain ⟨k, vr, xs, hk, rfl, hO, hRR, B3, hx⟩ := hrel
    by_cases hlt : k < m
    · obtain ⟨b, off, rfl, hrow⟩ := HROW.out (by omega)
      obtain ⟨r, hr⟩ : ∃ r, ip.rows[k]? = some r := ⟨_, List.getElem?_eq_getElem (by have := HM.out; omega)⟩
      obtain ⟨Ac, cc, g0, g1, g2, hrw⟩ := (hrow k r hr).ext (hE1.trans hx)
      obtain ⟨q1, q2, q3, q4⟩ := HK5.out r (List.mem_of_getElem? hr)
      have HFL : Hid ((ip.rows.map IRow.rr)[k]? = some r.rr) := Lib.hid (by rw [List.getElem?_map, hr]; rfl)
      clear hr hrow
      have HQ1 := Lib.hid q1
      clear q1
      obtain ⟨q2a, q2b⟩ := q2
      obtain ⟨l, hl⟩ : ∃ l, l = r.coef.length := ⟨_, rfl⟩
      obtain ⟨rel, hrl⟩ : ∃ l, l = r.rel := ⟨_, rfl⟩
      obtain ⟨rt, hrt⟩ : ∃ l, l = r.right := ⟨_, rfl⟩
      rw [← hl] at g0 hrw q4
      rw [← hrl] at g1 q3
      rw [← hrt] at g2 q2a q2b
      have HL := Lib.hid hl
      have HL1 := Lib.hid hrl
      have HL3 := Lib.hid hrt
      have HL2 : Hid (r.coef.length ≤ 1048576) := Lib.hid (by rw [← hl]; exact q4)
      clear hl hrl hrt
      go_upto_region 6 with fail
      obtain ⟨rb, hrb⟩ : ∃ z, z = wr.heap.size := ⟨_, rfl⟩
      have B5 := Box.new wr 72 #[.slice Ac l cc, .int .u8 (rel : Int), .int .i32 rt]
      have hEx : Ext wr (wr.alloc (.cells #[.slice Ac l cc, .int .u8 (rel : Int), .int .i32 rt] 72)) := (Ext.refl wr).alloc _
      generalize (wr.alloc (.cells #[.slice Ac l cc, .int .u8 (rel : Int), .int .i32 rt] 72)) = X at *
      rw [← hrb] at B5 ⊢
      clear hrb g0 g1 g2
      replace hO := hO.ext hEx
      replace hRR := hRR.ext hEx
      replace B3 := B3.ext hEx
      replace hx := hx.trans hEx
      replace hrw := hrw.ext hEx
      clear hEx
      have hXs : w1.heap.size ≤ X.heap.size := hx.size
      have m0 := B5.c0
      have m1 := B5.c1
      have m2 := B5.c2
      have hsh := hO.shape
      obtain ⟨Av, cv, rfl⟩ := hsh
      have t1 := B3.c1
      have hwr : IntKind.i64.wrap rt = rt := IntWalk.i64_in _ (by omega)
      go_region_law (first
        | ((have hza : Ext X (w3.alloc (.cells #[.slice A3 l c3, .int .u8 (rel : Int), .int .i64 rt] 105)) := hy3.alloc _); (refine step_pushX rfl (.tmp 20) (.tmp 31) 57 rfl w1.heap.size 105 q0 (.agg #[.slice none 0 0, .int .u8 0, .int .i64 0]) 3 40 Tryd.underlying57 qi qz0 qz1 qz2 rfl zRR _ k xs rfl (hO.ext hza) w3.heap.size [.slice A3 l c3, .int .u8 (rel : Int), .int .i64 rt] 1 rfl rfl (new3J w3 105 _ _ _) one3J nou3J (by omega) (by decide) (Nat.le_trans hXs hza.size) ?_); intro v6 y6 o6 r6 s6; (have tb6 := boxR (B3.ext hza) (hO.ext hza) r6 (by decide)); (have c6 := tb6.c1); (have z6 := tb6.frozen 1); (obtain ⟨A6, d6, rfl⟩ := o6.shape))
        | (go_simp; go_at_call 58; (with_reducible refine (wide_b Ac l cc r.coef _ (Row.ext hrw (by repeat (first | (with_reducible exact Ext.refl _) | (with_reducible apply Ext.drew) | (with_reducible apply Ext.drewN)))) HL2.out HQ1.out).mono ?_); rintro e1 w3 ⟨A3, c3, rfl, hR3, hx3⟩; (rw [← HL.out] at hR3 ⊢); (have hy3 : Ext X w3 := Ext.trans (by repeat (first | (with_reducible exact Ext.refl _) | (with_reducible apply Ext.drew) | (with_reducible apply Ext.drewN))) hx3); (have u0 := hy3.cell m0); (have u1 := hy3.cell m1); (have u2 := hy3.cell m2); (have v1 := hy3.cell t1))
        )
      all_goals (
        have hR4 : RowJ (w3.alloc (.cells #[.slice A3 l c3, .int .u8 (rel : Int), .int .i64 rt] 105)) (.slice A3 l c3) r.coef := RowE.ext hR3 ((Ext.refl w3).alloc _)
        have hPX : RRX (w3.alloc (.cells #[.slice A3 l c3, .int .u8 (rel : Int), .int .i64 rt] 105)) (fun i => [Value.slice A3 l c3, .int .u8 (rel : Int), .int .i64 rt][i]?) 0 r.rr := ⟨A3, c3, by rw [HL.out]; rfl, by rw [HL1.out]; rfl, by rw [HL3.out]; rfl, by show RowE _ _ (.slice A3 r.coef.length c3) _; rw [← HL.out]; exact hR4⟩
        obtain ⟨o7, hR7, QB7, hX7⟩ := plain_step (by rw [List.length_take, List.length_map, ← HM.out]; omega) rfl (hO.ext hza) (hRR.ext hza) hPX (B3.ext hza) o6 r6 (hx.trans hza) (Nat.le_refl _) h13
        generalize (y6.setCell ⟨b3, 1, none⟩ (.slice A6 (k + 1) d6)) = Y at *
        clear o6 r6 s6 tb6 c6 z6 hza hPX hR4 hRR hO B3 hx u0 u1 u2 v1 hy3 hR3 hx3
        go_wp2_with fail
        go_roundw
        case rel => exact ⟨k + 1, _, _, by omega, by go_num, o7, hR7.cong (by rw [List.take_add_one, HFL.out]; rfl), QB7, hX7⟩
        case measure => simp [intOf]; omega)
    · obtain rfl : k = m := by omega
      obtain ⟨Av, cv, rfl⟩ := hO.shape
      have B2 := B2.ext hx
      have x0 := B3.c0
      have x1 := B3.c1
      have z0 := B2.c0
      have z1 := B2.c1
      have f0 := B2.frozen 0
      have f1 := B2.frozen 1
      go_wp2_with fail
      have hF : Fr (fun g => g = b2) wr ((wr.setCell ⟨b2, 0, none⟩ (.slice A1 n d1)).setCell ⟨b2, 1, none⟩ (.slice Av k cv)) := ((Fr.refl (fun g => g = b2) wr).set (p := ⟨b2, 0, none⟩) rfl (fun z => by rw [B2.c0]; intro e; cases e) _).set (p := ⟨b2, 1, none⟩) rfl (fun z => by rw [(B2.set 0 (.slice A1 n d1)).c1]; intro e; cases e) _
      have hX2 := ((hE1.trans hx).set (p := ⟨b2, 0, none⟩) hw2 (.slice A1 n d1)).set (p := ⟨b2, 1, none⟩) hw2 (.slice Av k cv)
      have hP2 : Box ((wr.setCell ⟨b2, 0, none⟩ (.slice A1 n d1)).setCell ⟨b2, 1, none⟩ (.slice Av k cv)) b2 59 #[.slice A1 n d1, .slice Av k cv] := (B2.set 0 (.slice A1 n d1)).set 1 (.slice Av k cv)
      have o7 := hO.fr hF (fun g hg e => by obtain ⟨-, -, cur, hcur⟩ := hO.lt hg; exact row_ne B2 hcur (by decide) e.symm)
      have hR7 := hRR.fr hF (fun b cs hc e => row_ne B2 hc (by decide) e.symm)
      have hO7 : RowJ _ (.slice A1 n d1) ip.obj := RowE.fr (RowE.ext hO1 hx) hF (fun b cs hc e => row_ne B2 hc (by decide) e.symm)
      have pc0 := hP2.c0
      have pc1 := hP2.c1
      refine bodyPost_ret (v := .agg #[.slice A1 n d1, .slice Av k cv]) (by simp [results, Tryd.results26, go_sem, pc0, pc1]) rfl ?_
      refine ⟨_, rfl, ?_, hX2⟩
      clear hF hX2 hP2 pc0 pc1
      generalize ((wr.setCell ⟨b2, 0, none⟩ (.slice A1 n d1)).setCell ⟨b2, 1, none⟩ (.slice Av k cv)) = W at *
      have hlen : k = (ip.rows.map IRow.rr).length := by rw [List.length_map]; exact HM.out
      have hrr : RRows W (fun i => xs[i]?) (ip.rows.map IRow.rr) := hR7.cong (List.take_of_length_le (by rw [← hlen]; exact Nat.le_refl _))
      have ho' : RowJ W (.slice A1 ip.obj.length d1) ip.obj := by rw [← HNN.out]; exact hO7
      rw [HNN.out]
      rw [hlen] at o7 ⊢
      exact rrows_prob o7 hrr ho'
end Go.Proofs.YtgffcblldebelaaDoor.Lp

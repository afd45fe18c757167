/- The law IlpRows, walked. -/
import Derived.Test.YthafabkjidifeaaKG
import Derived.Test.YthafabkjidifeaaL6S
set_option linter.unusedVariables false
set_option linter.unusedSimpArgs false
namespace Go.Proofs.Ythafabkjidifeaa.Lp
open Go.RowKit Go.Proofs.Ythafabkjidifeaa.Big Go.Proofs.Ythafabkjidifeaa.Rt

set_option maxHeartbeats 2000000 in
set_option maxRecDepth 100000 in
theorem rows_any (v : Value) (Am : Option Addr) (nm cm : Nat) (ms : List Int) (sl : Int) (ip : IP) (w : World) (hv : IPV w v ip) (hok : ip.okW) (hms : Row w (.slice Am nm cm) (bZ ms)) (hm8i : ∀ z ∈ ms, -128 ≤ z ∧ z ≤ 127) (hsl : 0 ≤ sl ∧ sl ≤ 255) :
    Calls Try.prog 5 #[v, .slice Am nm cm, .int .u8 sl] w (ValPost w (.bool true)) := by
  obtain ⟨Ai, ni, ci, Aj, nj, cj, dd, rfl⟩ : ∃ A n c A' n' c' d, v = .agg #[.slice A n c, .slice A' n' c', .int .u8 d] := by
    obtain ⟨A, c, A', c', rfl, -⟩ := id hv
    exact ⟨_, _, _, _, _, _, _, rfl⟩
  have B1 := Box.new w 25 #[.slice Ai ni ci, .slice Aj nj cj, .int .u8 dd]
  have hE0 : Ext w (w.alloc (.cells #[.slice Ai ni ci, .slice Aj nj cj, .int .u8 dd] 25)) := (Ext.refl w).alloc _
  go_enter Try.func5, Try.ntmps5
  go_upto_region 1 with fail
  generalize (w.alloc (.cells #[.slice Ai ni ci, .slice Aj nj cj, .int .u8 dd] 25)) = V at *
  obtain ⟨ab, hab⟩ : ∃ x, x = w.heap.size := ⟨_, rfl⟩
  rw [← hab] at B1 ⊢
  clear hab
  go_wp2_with fail
  refine (awake_i _).mono ?_
  rintro e w1 ⟨rfl, hx1⟩
  have hE1 := hE0.trans hx1
  have B1 := B1.ext hx1
  have c0 : w1.cell? ⟨ab, 0, none⟩ = some _ := B1.cell 0
  have c1 : w1.cell? ⟨ab, 1, none⟩ = some _ := B1.cell 1
  have c2 : w1.cell? ⟨ab, 2, none⟩ = some _ := B1.cell 2
  have hv2 := hv.ext hE1
  clear hE0 hx1 B1 hv
  go_wp2_with fail
  refine (boxed_b _ ip _ hv2 hok).mono ?_
  clear c0 c1 c2
  rintro e w2 ⟨hx2, hbx⟩
  have hE2 := hE1.trans hx2
  clear hE1
  rcases hbx with ⟨v', hbz, rfl, hI⟩ | ⟨-, rfl⟩
  case inr =>
    clear hv2 hx2
    go_wp2_with fail
    go_ret
    exact ⟨rfl, hE2.alloc _⟩
  case inl =>
  have HBP : Hid (BoxP ip.boxed 8) := Lib.hid (boxed_P (boxZ_iff.1 hbz))
  have HLN : Hid (∀ r ∈ ip.boxed.rows, r.coef.length = ip.boxed.obj.length) := Lib.hid (fun r hr => (HBP.out.rows r hr).1)
  obtain ⟨Ao, co, Ar, cr, rfl, ho, -⟩ := id hI
  obtain ⟨n, hn⟩ : ∃ n, n = ip.boxed.obj.length := ⟨_, rfl⟩
  obtain ⟨m, hm⟩ : ∃ n, n = ip.boxed.rows.length := ⟨_, rfl⟩
  obtain ⟨d, hd⟩ : ∃ n, n = ip.boxed.den := ⟨_, rfl⟩
  obtain ⟨Q, hQ⟩ : ∃ Q, Q = ip.boxed := ⟨_, rfl⟩
  have hn3 : n ≤ 3 := by rw [hn]; exact HBP.out.n3
  have hn1 : 1 ≤ n := by rw [hn]; exact HBP.out.n1
  have hm8 : m ≤ 8 := by rw [hm]; exact HBP.out.ms
  rw [← hn] at hI ho
  rw [← hm, ← hd] at hI
  rw [← hm, ← hn, ← hd]
  rw [← hQ] at HBP HLN hn hm hd hI ho
  have HN := Lib.hid hn
  have HM := Lib.hid hm
  have HDN := Lib.hid hd
  clear hbz hn hm hd hQ hv2 hok
  go_upto_region 4 with fail
  have QB := Box.new w2 25 #[.slice Ao n co, .slice Ar m cr, .int .u8 (d : Int)]
  have hx3 : Ext w2 (w2.alloc (.cells #[.slice Ao n co, .slice Ar m cr, .int .u8 (d : Int)] 25)) := (Ext.refl w2).alloc _
  generalize (w2.alloc (.cells #[.slice Ao n co, .slice Ar m cr, .int .u8 (d : Int)] 25)) = W3 at *
  obtain ⟨qb, hqb⟩ : ∃ x, x = w2.heap.size := ⟨_, rfl⟩
  rw [← hqb] at QB ⊢
  have hqw : w2.heap.size ≤ qb := by omega
  clear hqb
  have hI3 := hI.ext hx3
  have hE3 := hE2.trans hx3
  obtain ⟨xsQ, hxl, hxsQ, hx1c, hxnu, hZQ, hOQ, -, -⟩ := hI.safe (fun r hr => by rw [HLN.out r hr, ← HN.out]; omega)
  have HXS := Lib.hid hxsQ
  have HZ := Lib.hid hZQ
  have HO := Lib.hid hOQ
  have HOS := Lib.hid (safe_row hOQ (by omega))
  clear hxsQ hZQ hOQ hI ho
  obtain ⟨hnm, hmc1, hmc2, hmrow⟩ := hms.inj
  rw [bZ_len] at hnm hmc1 hmrow
  have q0 := QB.c0
  by_cases hlen : n ≤ nm
  case neg =>
    have i1 : decide ((nm : Int) < (n : Int)) = true := by simp; omega
    go_wp2_with fail
    go_ret
    exact ⟨rfl, hE3⟩
  case pos =>
  have i1 : decide ((nm : Int) < (n : Int)) = false := by simp; omega
  have q1 := QB.c1
  have q2 := QB.c2
  have HMR := Lib.hid hmrow
  have HNM := Lib.hid hnm
  have HM8 := Lib.hid hm8i
  clear hmrow hnm hms hm8i
  go_wp2_with fail
  refine (Make_b _ Q _ hI3 HBP.out.ok).mono ?_
  rintro e w4 ⟨y, a, rfl, hy, hx4⟩
  have hP4 : ProbV w4 y Q.pl.toP := MkV.prob hy
  have hPn : Q.pl.toP.n = n := by rw [IP.pn, HN.out]
  have hPm : Q.pl.toP.m = m := by rw [IP.pm, HM.out]
  have hS := Solve_i _ Q.pl.toP 400 3 408 134217728 400 w4 hP4 (by omega) (by omega) (by decide) (fun _ => HBP.out.can) (by rw [hPm]; omega) (by omega)
  clear q0 q1 q2 hy i1
  rcases HBP.out.solve with ⟨vv, x, t, h1, hF⟩ | ⟨h1, h2⟩
  case inr =>
    rw [h1] at hS
    clear h1 h2
    go_wp2_with fail
    refine hS.mono ?_
    rintro e w5 ⟨rfl, hx5⟩
    clear hS hP4 hPn hPm
    go_wp2_with fail
    go_ret
    exact ⟨rfl, (hE3.trans (hx4.trans hx5)).alloc _⟩
  case inl =>
  have HFD := Lib.hid hF
  have HX := Lib.hid (HBP.out.found hF)
  rw [h1] at hS
  clear h1 hF
  go_wp2_with fail
  refine hS.mono ?_
  rintro e w5 ⟨g, tb, h, rfl, hPt, -, -, -, hx5⟩
  rw [hPn] at hPt ⊢
  clear hS hP4 hPn hPm
  go_upto_region 7 with fail
  have RA := Box.new w5 32 #[.int .i64 vv, .slice (some ⟨g, 0, none⟩) n n, .pointer (some ⟨tb, 0, none⟩)]
  have hxr : Ext w5 (w5.alloc (.cells #[.int .i64 vv, .slice (some ⟨g, 0, none⟩) n n, .pointer (some ⟨tb, 0, none⟩)] 32)) := (Ext.refl w5).alloc _
  generalize (w5.alloc (.cells #[.int .i64 vv, .slice (some ⟨g, 0, none⟩) n n, .pointer (some ⟨tb, 0, none⟩)] 32)) = U2 at *
  obtain ⟨ra, hra⟩ : ∃ x, x = w5.heap.size := ⟨_, rfl⟩
  rw [← hra] at RA ⊢
  clear hra
  have hPt := hPt.ext hxr
  have hxq := (hx4.trans hx5).trans hxr
  have QB := QB.ext hxq
  have hEq := hE3.trans hxq
  have hx23 := hx3.trans hxq
  have hqU := QB.lt
  have hraU := RA.lt
  have hwU := hEq.size
  have hw2U := hx23.size
  clear hx4 hx5 hxr hxq hE3 hI3 hx3
  have q0 := QB.c0
  have r1 := RA.c1
  have e2 : ((n : Int) != (n : Int)) = false := by simp
  go_upto_region 10 with fail
  clear r1 e2
  have RB := Box.new U2 52 #[.slice none 0 0, .int .u8 1, .int .i32 0]
  have hx9 : Ext U2 (U2.alloc (.cells #[.slice none 0 0, .int .u8 1, .int .i32 0] 52)) := (Ext.refl U2).alloc _
  generalize (U2.alloc (.cells #[.slice none 0 0, .int .u8 1, .int .i32 0] 52)) = U3 at *
  obtain ⟨rb, hrb⟩ : ∃ x, x = U2.heap.size := ⟨_, rfl⟩
  rw [← hrb] at RB ⊢
  have hrb2 : U2.heap.size ≤ rb := by omega
  clear hrb
  have q0 := hx9.cell q0
  go_upto_region 11 with fail
  clear q0
  obtain ⟨i0, ii, iz0, iz1, iz2⟩ := info_parts infoI32Z
  go_loopw [59] (fun i wr => ∃ (k : Nat) (A : Option Addr) (c : Nat), k ≤ n ∧ i = .int .i64 k ∧ OwnX wr U2.heap.size 21 1 (.slice A k c) k (wV (ms.take k)) ∧ Box wr rb 52 #[.slice A k c, .int .u8 1, .int .i32 0] ∧ Ext U2 wr) (fun i _ => n - (intOf i).toNat)
  case atStart => exact ⟨0, none, 0, by omega, rfl, OwnX.nil _ _ _ _, RB, hx9⟩
  case round =>
    clear RB hx9
    obtain ⟨k, A, c, hk, rfl, oX, RB, hxr⟩ := hrel
    by_cases hlt : k < n
    · obtain ⟨b, off, rfl, hmc⟩ := HMR.out (by have := HNM.out; omega)
      obtain ⟨z, hz⟩ : ∃ z, ms[k]? = some z := ⟨_, List.getElem?_eq_getElem (by have := HNM.out; omega)⟩
      have e0 := (hEq.trans hxr).cell (hmc k _ (bZ_get hz))
      obtain ⟨z1, z2⟩ := HM8.out z (List.mem_of_getElem? hz)
      have HZK := Lib.hid hz
      have w0 : IntKind.i32.wrap z = z := IntWalk.i32_in _ (by omega)
      have i1 : (0 : Int) ≤ (k : Int) := by omega
      have i2 : (k : Int) < (nm : Int) := by omega
      have r0 := RB.c0
      have r0a : (wr.alloc (.cells #[.int .i32 z] 21)).cell? ⟨rb, 0, none⟩ = some (.slice A k c) := (RB.ext ((Ext.refl wr).alloc _)).c0
      have e0a : (wr.alloc (.cells #[.int .i32 z] 21)).cell? ⟨b, off + k, none⟩ = some (.int .i8 z) := ((Ext.refl wr).alloc _).cell e0
      clear hmc hz
      go_upto_region 13 with fail
      go_region_law (first
        | ((have hza : Ext wr (wr.drew.alloc (.cells #[.int .i32 z] 21)) := ((Ext.refl wr).drew).alloc _); (refine step_pushX rfl (.tmp 63) (.tmp 69) 22 rfl U2.heap.size 21 i0 (.int .i32 0) 1 4 Try.underlying22 ii iz0 iz1 iz2 rfl zI32Z _ k (wV (ms.take k)) rfl (oX.ext hza) wr.drew.heap.size [.int .i32 z] 1 rfl rfl (new1 wr.drew 21 _) (one1 rfl) (nou1 rfl) (by omega) (by decide) (Nat.le_trans hxr.size hza.size) ?_); intro v6 y6 o6 r6 s6; (have tb6 := boxR (RB.ext hza) (oX.ext hza) r6 (by decide)); (have c6 := tb6.c0); (have z6 := tb6.frozen 0); (obtain ⟨A6, d6, rfl⟩ := o6.shape))
        )
      all_goals (
        have hF : Fr (fun g => g = rb) y6 (y6.setCell ⟨rb, 0, none⟩ (.slice A6 (k + 1) d6)) := (Fr.refl (fun g => g = rb) y6).set (p := ⟨rb, 0, none⟩) rfl (fun z => by rw [tb6.c0]; intro e; cases e) _
        have hX6 : Ext U2 y6 := r6.ext (hxr.trans hza) (fun g hg => ((oX.ext hza).lt hg).1)
        have o7 : OwnX (y6.setCell ⟨rb, 0, none⟩ (.slice A6 (k + 1) d6)) U2.heap.size 21 1 (.slice A6 (k + 1) d6) (k + 1) (wV (ms.take (k + 1))) := by
          rw [take_succZ _ HZK.out, wV_push]
          exact o6.fr hF (fun g hg e => by obtain ⟨-, -, cur, hcur⟩ := o6.lt hg; exact row_ne tb6 hcur (by decide) e.symm)
        have RB7 := tb6.set 0 (.slice A6 (k + 1) d6)
        have hX7 := hF.ext hX6 (fun g hg => hg ▸ hrb2)
        clear hF hX6 tb6 c6 z6 o6 r6 s6 r0 r0a e0 e0a
        go_wp2_with fail
        go_roundw
        case rel => first | exact ⟨k + 1, A6, d6, by omega, by go_num, o7, RB7, hX7⟩ | ((repeat (apply Exists.intro (α := Value))); exact ⟨⟨k + 1, A6, d6, by omega, by go_num, o7, RB7, hX7⟩, rfl⟩)
        case measure => simp [intOf]; omega)
    · obtain rfl : k = n := by omega
      obtain ⟨cs, hcs⟩ : ∃ cs, cs = ms.take k := ⟨_, rfl⟩
      rw [← hcs] at oX
      have hcl : cs.length = k := by rw [hcs, List.length_take]; have := HNM.out; omega
      have HCL := Lib.hid hcl
      have HCB : Hid (∀ z ∈ cs, -128 ≤ z ∧ z ≤ 127) := Lib.hid (fun z hz => HM8.out z (List.mem_of_mem_take (by rw [← hcs]; exact hz)))
      obtain ⟨hRow, hSafe⟩ := own_safe (B0 := w2.heap.size) oX (by omega)
      obtain ⟨hxb, hxh, hxd⟩ := HX.out
      rw [← HN.out] at hxb hxh hxd
      have HXB := Lib.hid hxb
      have HXH := Lib.hid hxh
      have RAr := RA.ext hxr
      have hPr := hPt.ext hxr
      have QBr := QB.ext hxr
      have hEr := hEq.trans hxr
      have hx2r := hx23.trans hxr
      have r0 := RB.c0
      have r1 := RAr.c1
      clear hcs oX HX hxb hxh hxd RA hPt QB hEq hx23 HMR HM8 HNM
      go_wp2_with fail
      refine (dotZ_b A k c g k cs x _ hRow hPr (by omega) (by omega) (fun z hz => by have := HCB.out z hz; exact ⟨by omega, by omega⟩) (fun j hj => by have := HXB.out j hj; omega)).mono ?_
      rintro e wd ⟨rfl, hxd⟩
      obtain ⟨D, hD⟩ : ∃ D, D = dotZ cs k x := ⟨_, rfl⟩
      have hD1 : -1152 ≤ D ∧ D ≤ 1152 := by
        rw [hD]
        have h := sumZ_le (C := 384) (n := k) (f := fun j => cs.getD j 0 * x j) (fun j hj => by
          have h1 := getD_in (a := -128) (b := 128) (l := cs) (fun z hz => by have := HCB.out z hz; omega) (by omega) j
          have h2 := HXB.out j hj
          exact mulZ (C := 128) (X := 3) h1.1 h1.2 (by omega) h2.2)
        have hk3 : (k : Int) * 384 ≤ 1152 := by omega
        unfold dotZ
        omega
      rw [← hD]
      have HD := Lib.hid hD
      clear hD r0 r1
      have RBd := RB.ext hxd
      have RAd := RAr.ext hxd
      have QBd := QBr.ext hxd
      obtain ⟨hRowd, hSafed⟩ := hRow.frS hSafe (Fr.of (P := fun _ => False) hxd) (fun _ h => h.elim)
      have hEd := hEr.trans hxd
      have hx2d := hx2r.trans hxd
      have hxUd := hxr.trans hxd
      clear RB RAr QBr hRow hSafe hEr hx2r hxr hxd
      have q0 := QBd.c0
      have q1 := QBd.c1
      have q2 := QBd.c2
      go_upto_region 17 with fail
      have MB := Box.new wd 25 #[.slice Ao k co, .slice Ar m cr, .int .u8 (d : Int)]
      have hxm : Ext wd (wd.alloc (.cells #[.slice Ao k co, .slice Ar m cr, .int .u8 (d : Int)] 25)) := (Ext.refl wd).alloc _
      generalize (wd.alloc (.cells #[.slice Ao k co, .slice Ar m cr, .int .u8 (d : Int)] 25)) = W1 at *
      obtain ⟨mb, hmb⟩ : ∃ x, x = wd.heap.size := ⟨_, rfl⟩
      rw [← hmb] at MB ⊢
      have hmr : mb ≠ rb := by have := RBd.lt; omega
      have hmw : w2.heap.size ≤ mb := by have := hx2d.size; omega
      have hmU : U2.heap.size ≤ mb := by have := hxUd.size; omega
      have hma : mb ≠ ra := by have := RAd.lt; omega
      have hmq : mb ≠ qb := by have := QBd.lt; omega
      clear hmb
      have RB1 := RBd.ext hxm
      have RA1 := RAd.ext hxm
      have QB1 := QBd.ext hxm
      obtain ⟨hRow1, hSafe1⟩ := hRowd.frS hSafed (Fr.of (P := fun _ => False) hxm) (fun _ h => h.elim)
      have hE1' := hEd.trans hxm
      have hx21 := hx2d.trans hxm
      have hxU1 := hxUd.trans hxm
      clear q0 q1 q2 RBd RAd QBd hRowd hSafed hEd hx2d hxUd hxm
      have b2 := RB1.c2
      have z2 := RB1.frozen 2
      have w1 : IntKind.i32.wrap D = D := IntWalk.i32_in _ (by omega)
      go_upto_region 18 with fail
      obtain ⟨R, hR⟩ : ∃ R, R = D + sl % 4 := ⟨_, rfl⟩
      rw [← hR]
      have hRi : -1152 ≤ R ∧ R ≤ 1155 := by omega
      have HR1 : Hid (D ≤ R) := Lib.hid (by omega)
      clear hR b2 z2
      have hFb : Fr (fun k => k = rb) W1 (W1.setCell ⟨rb, 2, none⟩ (.int .i32 R)) := (Fr.refl (fun k => k = rb) W1).set (p := ⟨rb, 2, none⟩) rfl (fun z => by rw [RB1.c2]; intro e; cases e) _
      have RBx := RB1.set 2 (.int .i32 R)
      have MBx := hFb.box MB hmr
      have QBx := hFb.box QB1 (fun e => by have := RB1.lt; have := QB1.lt; omega)
      have RAx := hFb.box RA1 (fun e => by omega)
      obtain ⟨hRowx, hSafex⟩ := hRow1.frS hSafe1 hFb (fun b hb => by
        subst hb
        refine ⟨by omega, fun cs e => ?_⟩
        have hQ : W1.heap[b]? = some (.cells #[.slice A k c, .int .u8 1, .int .i32 0] 52 (0, 0)) := RB1
        rw [hQ] at e
        injection e with e
        injection e with _ e
        exact absurd e (by decide))
      have hEx := hFb.ext hE1' (fun b hb => by subst hb; omega)
      have hx2x := hFb.ext hx21 (fun b hb => by subst hb; omega)
      have hxUx := hFb.ext hxU1 (fun b hb => by subst hb; exact hrb2)
      clear hFb RB1 MB QB1 RA1 hRow1 hSafe1 hE1' hx21 hxU1
      generalize (W1.setCell ⟨rb, 2, none⟩ (.int .i32 R)) = X at *
      have hxsx : 0 < m → ∃ ad, Ar = some ad ∧ ∀ j y, xsQ[j]? = some y → X.cell? (ad.add j) = some y := fun h => by obtain ⟨ad, e, h8⟩ := HXS.out h; exact ⟨ad, e, fun j y hj => hx2x.cell (h8 j y hj)⟩
      have HZx := Lib.hid (HZ.out.ext hx2x)
      have HOx := Lib.hid (HO.out.ext hx2x)
      have HOSx := Lib.hid (HOS.out.ext hx2x)
      have HZRx : Hid (ZRX X w2.heap.size (fun i => [Value.slice A k c, .int .u8 1, .int .i32 R][i]?) 0 ⟨cs, 1, R⟩) := Lib.hid ⟨A, c, by show some (Value.slice A k c) = some (Value.slice A cs.length c); rw [HCL.out], rfl, rfl, by show Row X (.slice A cs.length c) (wV cs); rw [HCL.out]; exact hRowx, hSafex⟩
      go_cut [] (fun wx => ∃ (A9 : Option Addr) (d9 : Nat), IPV wx (.agg #[.slice Ao k co, .slice A9 (m + 1) d9, .int .u8 (d : Int)]) (Q.moreZ ⟨cs, 1, R⟩) ∧ Box wx mb 25 #[.slice Ao k co, .slice A9 (m + 1) d9, .int .u8 (d : Int)] ∧ Fr (fun k => k = mb) X wx)
      case first =>
        have kq1 : ∀ w', Fr (fun k => k = mb) X w' → w'.cell? ⟨qb, 1, none⟩ = some (.slice Ar m cr) := fun w' h => (h.box QBx (Ne.symm hmq)).c1
        have kr0 : ∀ w', Fr (fun k => k = mb) X w' → w'.cell? ⟨rb, 0, none⟩ = some (.slice A k c) := fun w' h => (h.box RBx (Ne.symm hmr)).c0
        have kr1 : ∀ w', Fr (fun k => k = mb) X w' → w'.cell? ⟨rb, 1, none⟩ = some (.int .u8 1) := fun w' h => (h.box RBx (Ne.symm hmr)).c1
        have kr2 : ∀ w', Fr (fun k => k = mb) X w' → w'.cell? ⟨rb, 2, none⟩ = some (.int .i32 R) := fun w' h => (h.box RBx (Ne.symm hmr)).c2
        have ks := Fr.refl (fun k => k = mb) X
        have hXX := Ext.refl X
        obtain ⟨irR, g1, g2, g3, g4⟩ := info_parts infoIRowZ
        clear RBx QBx hRowx hSafex hx2x hxUx hEx
        go_region_held3 (fun w' => Fr (fun k => k = mb) X w') ((repeat (first | assumption | apply Fr.drew | apply Fr.drewN | apply Fr.alloc | (exact Fr.of (by assumption)) | (refine Fr.set ?_ (show mb = mb from rfl) (fun z => by rw [c10]; intro e; cases e) _)))) (first
          | ((refine step_pushAZ rfl (.tmp 86) (.tmp 88) 23 rfl X (by repeat (first | assumption | exact Ext.refl _ | apply Ext.drew | apply Ext.alloc)) 52 irR _ 3 32 Try.underlying23 g1 g2 g3 g4 rfl zIRowZ _ 0 [] rfl (by first | exact (OwnX.empty _ _ _).up (Ext.size (by repeat (first | assumption | exact Ext.refl _ | apply Ext.drew | apply Ext.alloc))) | exact ((OwnX.empty _ _ _).ext ((Ext.refl _).alloc _)).up (Ext.size (by repeat (first | assumption | exact Ext.refl _ | apply Ext.drew | apply Ext.alloc))) | (have hh := OwnX.empty (X.alloc (.cells #[.slice A k c, .int .u8 1, .int .i32 R] 52)) 52 3; rw [show (X.alloc (.cells #[.slice A k c, .int .u8 1, .int .i32 R] 52)).heap.size = X.heap.size + 1 by simp] at hh; exact hh.up (Nat.le_succ _))) Ar m xsQ cr rfl hxl (fun hm => by obtain ⟨ad, e, hc⟩ := hxsx hm; exact ⟨ad, e, fun j y hj => Ext.cell (by repeat (first | assumption | exact Ext.refl _ | apply Ext.drew | apply Ext.alloc)) (hc j y hj)⟩) hx1c hxnu (by omega) (by decide) ?_); intro v8 y8 o8 r8 hX8; (rw [Nat.zero_add, List.nil_append] at o8); (obtain ⟨A8, d8, rfl⟩ := o8.shape); (try rw [Nat.zero_add]))
          | ((refine step_pushXZ rfl (.tmp 89) (.tmp 91) 23 rfl X (by repeat (first | assumption | exact Ext.refl _ | apply Ext.drew | apply Ext.alloc)) 52 irR _ 3 32 Try.underlying23 g1 g2 g3 g4 rfl zIRowZ _ m xsQ rfl (by first | exact o8 | exact o8.ext ((Ext.refl _).alloc _)) _ [.slice A k c, .int .u8 1, .int .i32 R] 1 rfl rfl (fun j y hj => by first | exact new3Z _ _ _ _ _ j y hj | exact r8.cell (by intro h; have h : (some _ : Option Nat) = some _ := h; injection h with h; first | exact Nat.ne_of_lt (Nat.lt_succ_self _) h | exact Nat.ne_of_gt (Nat.lt_succ_self _) h | (simp at h; done) | (simp at h; omega)) (by have hh := new3Z (X.alloc (.cells #[] 52)) 52 (.slice A k c) (.int .u8 1) (.int .i32 R) j y hj; rw [show (X.alloc (.cells #[] 52)).heap.size = X.heap.size + 1 by simp] at hh; exact hh) | exact r8.cell (by intro h; have h : (some _ : Option Nat) = some _ := h; injection h with h; first | exact Nat.ne_of_lt (Nat.lt_succ_self _) h | exact Nat.ne_of_gt (Nat.lt_succ_self _) h | (simp at h; done) | (simp at h; omega)) (Ext.cell ((Ext.refl _).alloc _) (new3Z _ _ _ _ _ j y hj))) one3Z nou3Z (by omega) (by decide) ?_); intro v10 y10 o10 r10 hX10; (have MB10 := MBx.ext hX10); (have c10 := MB10.c1); (have z10 := MB10.frozen 1); (obtain ⟨A10, d10, rfl⟩ := o10.shape))
          )
        all_goals (
          obtain ⟨hIP, MB11, hF11⟩ := more_ipZ (r := ⟨cs, 1, R⟩) HN.out HM.out (by rw [HDN.out]) rfl hxl HZx.out HZRx.out HOx.out HOSx.out MB10 o10 hX10 hmw
          clear kq1 kr0 kr1 kr2 c10 z10
          go_wp2_with fail
          go_meet
          exact ⟨A10, d10, hIP, MB11, hF11⟩)
      case rest =>
      obtain ⟨A9, d9, hIP, MB9, hF9⟩ := hcut
      rename_i hK
      refine hK _ _ ?_
      have RB9 := hF9.box RBx (Ne.symm hmr)
      have QB9 := hF9.box QBx (Ne.symm hmq)
      have RA9 := hF9.box RAx (Ne.symm hma)
      obtain ⟨hRow9, hSafe9⟩ := hRowx.frS hSafex hF9 (fun b hb => by
        subst hb
        refine ⟨hmw, fun cs e => ?_⟩
        have hQ : X.heap[b]? = some (.cells _ 25 (0, 0)) := MBx
        rw [hQ] at e
        injection e with e
        injection e with _ e
        exact absurd e (by decide))
      have hE9 := hF9.ext hEx (fun b hb => by subst hb; omega)
      have hx29 := hF9.ext hx2x (fun b hb => by subst hb; exact hmw)
      have hxU9 := hF9.ext hxUx (fun b hb => by subst hb; exact hmU)
      clear hK RBx QBx RAx MBx hRowx hSafex hEx hx2x hxUx hF9 HZx HOx HOSx HZRx hxsx
      have HB2 : Hid (BoxP (Q.moreZ ⟨cs, 1, R⟩) 9) := Lib.hid (HBP.out.more (by omega) (by show cs.length = _; rw [HCL.out, HN.out]) ⟨by show -2147483648 ≤ R; omega, by show R ≤ 2147483647; omega⟩ (Nat.le_refl 1) (by show 1 ≤ 3; decide) (fun z hz => by have := HCB.out z hz; omega))
      have m0 := MB9.c0
      have m1 := MB9.c1
      have m2 := MB9.c2
      go_wp2_with fail
      refine (Make_b _ (Q.moreZ ⟨cs, 1, R⟩) _ hIP HB2.out.ok).mono ?_
      rintro e we ⟨y2, a2, rfl, hy2, hxe⟩
      have hPe : ProbV we y2 (Q.moreZ ⟨cs, 1, R⟩).pl.toP := MkV.prob hy2
      have hS := Solve_i _ (Q.moreZ ⟨cs, 1, R⟩).pl.toP 400 3 409 134217728 400 we hPe (by omega) (by omega) (by decide) (fun _ => HB2.out.can) (by rw [IP.pm]; have := HB2.out.ms; omega) (by omega)
      clear m0 m1 m2 hIP hy2 hPe
      have hh1 : (⟨cs, 1, R⟩ : IRow).holdZ Q.obj.length x = true := by
        show relZ 1 (dotZ cs Q.obj.length x) R = true
        rw [← HN.out, ← HD.out]
        have h1 : ¬ R < D := by have := HR1.out; omega
        unfold relZ
        simp [h1]
      obtain ⟨x1, t1, hs1⟩ := rows_first HBP.out HB2.out HFD.out hh1
      rw [hs1] at hS
      clear hs1 hh1
      go_wp2_with fail
      refine hS.mono ?_
      rintro e wf ⟨g1, tb1, h1, rfl, -, -, -, -, hxf⟩
      clear hS
      obtain ⟨n1, hn1e⟩ : ∃ n1, n1 = (Q.moreZ ⟨cs, 1, R⟩).pl.toP.n := ⟨_, rfl⟩
      rw [← hn1e]
      clear hn1e
      go_upto_region 20 with fail
      have SB := Box.new wf 32 #[.int .i64 vv, .slice (some ⟨g1, 0, none⟩) n1 n1, .pointer (some ⟨tb1, 0, none⟩)]
      have hxs : Ext wf (wf.alloc (.cells #[.int .i64 vv, .slice (some ⟨g1, 0, none⟩) n1 n1, .pointer (some ⟨tb1, 0, none⟩)] 32)) := (Ext.refl wf).alloc _
      generalize (wf.alloc (.cells #[.int .i64 vv, .slice (some ⟨g1, 0, none⟩) n1 n1, .pointer (some ⟨tb1, 0, none⟩)] 32)) = W2 at *
      obtain ⟨sb, hsb⟩ : ∃ x, x = wf.heap.size := ⟨_, rfl⟩
      rw [← hsb] at SB ⊢
      have hx9 := (hxe.trans hxf).trans hxs
      have hsr : sb ≠ rb := by have := RB9.lt; have := (hxe.trans hxf).size; omega
      have hsm : sb ≠ mb := by have := MB9.lt; have := (hxe.trans hxf).size; omega
      clear hsb hxe hxf hxs
      have RB1 := RB9.ext hx9
      have MB := MB9.ext hx9
      have QB1 := QB9.ext hx9
      have RA1 := RA9.ext hx9
      obtain ⟨hRow1, hSafe1⟩ := hRow9.frS hSafe9 (Fr.of (P := fun _ => False) hx9) (fun _ h => h.elim)
      have hE1' := hE9.trans hx9
      have hx21 := hx29.trans hx9
      have hxU1 := hxU9.trans hx9
      clear RB9 MB9 QB9 RA9 hRow9 hSafe9 hE9 hx29 hxU9 hx9 HB2
      have b2 := RB1.c2
      have z2 := RB1.frozen 2
      have w2' : IntKind.i32.wrap (D - 1) = D - 1 := IntWalk.i32_in _ (by omega)
      go_upto_region 21 with fail
      obtain ⟨R0, hR0⟩ : ∃ R0, R0 = R := ⟨_, rfl⟩
      rw [← hR0] at RB1
      clear hR0 hRi HR1
      obtain ⟨R, hR⟩ : ∃ R, R = D - 1 - sl % 4 := ⟨_, rfl⟩
      rw [← hR]
      have hRi : -1160 ≤ R ∧ R ≤ 1155 := by omega
      clear hR b2 z2
      have SBx := (Fr.refl (fun k => k = rb) W2).set (p := ⟨rb, 2, none⟩) rfl (fun z => by rw [RB1.c2]; intro e; cases e) (.int .i32 R) |>.box SB hsr
      have hFb : Fr (fun k => k = rb) W2 (W2.setCell ⟨rb, 2, none⟩ (.int .i32 R)) := (Fr.refl (fun k => k = rb) W2).set (p := ⟨rb, 2, none⟩) rfl (fun z => by rw [RB1.c2]; intro e; cases e) _
      have RBx := RB1.set 2 (.int .i32 R)
      have MBx := hFb.box MB hmr
      have QBx := hFb.box QB1 (fun e => by have := RB1.lt; have := QB1.lt; omega)
      have RAx := hFb.box RA1 (fun e => by omega)
      obtain ⟨hRowx, hSafex⟩ := hRow1.frS hSafe1 hFb (fun b hb => by
        subst hb
        refine ⟨by omega, fun cs e => ?_⟩
        have hQ : W2.heap[b]? = some (.cells #[.slice A k c, .int .u8 1, .int .i32 R0] 52 (0, 0)) := RB1
        rw [hQ] at e
        injection e with e
        injection e with _ e
        exact absurd e (by decide))
      have hEx := hFb.ext hE1' (fun b hb => by subst hb; omega)
      have hx2x := hFb.ext hx21 (fun b hb => by subst hb; omega)
      have hxUx := hFb.ext hxU1 (fun b hb => by subst hb; exact hrb2)
      clear hFb RB1 MB QB1 RA1 hRow1 hSafe1 hE1' hx21 hxU1
      generalize (W2.setCell ⟨rb, 2, none⟩ (.int .i32 R)) = X at *
      have hxsx : 0 < m → ∃ ad, Ar = some ad ∧ ∀ j y, xsQ[j]? = some y → X.cell? (ad.add j) = some y := fun h => by obtain ⟨ad, e, h8⟩ := HXS.out h; exact ⟨ad, e, fun j y hj => hx2x.cell (h8 j y hj)⟩
      have HZx := Lib.hid (HZ.out.ext hx2x)
      have HOx := Lib.hid (HO.out.ext hx2x)
      have HOSx := Lib.hid (HOS.out.ext hx2x)
      have HZRx : Hid (ZRX X w2.heap.size (fun i => [Value.slice A k c, .int .u8 1, .int .i32 R][i]?) 0 ⟨cs, 1, R⟩) := Lib.hid ⟨A, c, by show some (Value.slice A k c) = some (Value.slice A cs.length c); rw [HCL.out], rfl, rfl, by show Row X (.slice A cs.length c) (wV cs); rw [HCL.out]; exact hRowx, hSafex⟩
      go_cut [] (fun wx => ∃ (A9 : Option Addr) (d9 : Nat), IPV wx (.agg #[.slice Ao k co, .slice A9 (m + 1) d9, .int .u8 (d : Int)]) (Q.moreZ ⟨cs, 1, R⟩) ∧ Box wx mb 25 #[.slice Ao k co, .slice A9 (m + 1) d9, .int .u8 (d : Int)] ∧ Fr (fun k => k = mb) X wx)
      case first =>
        have kq1 : ∀ w', Fr (fun k => k = mb) X w' → w'.cell? ⟨qb, 1, none⟩ = some (.slice Ar m cr) := fun w' h => (h.box QBx (Ne.symm hmq)).c1
        have kr0 : ∀ w', Fr (fun k => k = mb) X w' → w'.cell? ⟨rb, 0, none⟩ = some (.slice A k c) := fun w' h => (h.box RBx (Ne.symm hmr)).c0
        have kr1 : ∀ w', Fr (fun k => k = mb) X w' → w'.cell? ⟨rb, 1, none⟩ = some (.int .u8 1) := fun w' h => (h.box RBx (Ne.symm hmr)).c1
        have kr2 : ∀ w', Fr (fun k => k = mb) X w' → w'.cell? ⟨rb, 2, none⟩ = some (.int .i32 R) := fun w' h => (h.box RBx (Ne.symm hmr)).c2
        have ks := Fr.refl (fun k => k = mb) X
        have hXX := Ext.refl X
        obtain ⟨irR, g1, g2, g3, g4⟩ := info_parts infoIRowZ
        clear RBx QBx hRowx hSafex hx2x hxUx hEx
        go_region_held3 (fun w' => Fr (fun k => k = mb) X w') ((repeat (first | assumption | apply Fr.drew | apply Fr.drewN | apply Fr.alloc | (exact Fr.of (by assumption)) | (refine Fr.set ?_ (show mb = mb from rfl) (fun z => by rw [c10]; intro e; cases e) _)))) (first
          | ((refine step_pushAZ rfl (.tmp 108) (.tmp 110) 23 rfl X (by repeat (first | assumption | exact Ext.refl _ | apply Ext.drew | apply Ext.alloc)) 52 irR _ 3 32 Try.underlying23 g1 g2 g3 g4 rfl zIRowZ _ 0 [] rfl (by first | exact (OwnX.empty _ _ _).up (Ext.size (by repeat (first | assumption | exact Ext.refl _ | apply Ext.drew | apply Ext.alloc))) | exact ((OwnX.empty _ _ _).ext ((Ext.refl _).alloc _)).up (Ext.size (by repeat (first | assumption | exact Ext.refl _ | apply Ext.drew | apply Ext.alloc))) | (have hh := OwnX.empty (X.alloc (.cells #[.slice A k c, .int .u8 1, .int .i32 R] 52)) 52 3; rw [show (X.alloc (.cells #[.slice A k c, .int .u8 1, .int .i32 R] 52)).heap.size = X.heap.size + 1 by simp] at hh; exact hh.up (Nat.le_succ _))) Ar m xsQ cr rfl hxl (fun hm => by obtain ⟨ad, e, hc⟩ := hxsx hm; exact ⟨ad, e, fun j y hj => Ext.cell (by repeat (first | assumption | exact Ext.refl _ | apply Ext.drew | apply Ext.alloc)) (hc j y hj)⟩) hx1c hxnu (by omega) (by decide) ?_); intro v8 y8 o8 r8 hX8; (rw [Nat.zero_add, List.nil_append] at o8); (obtain ⟨A8, d8, rfl⟩ := o8.shape); (try rw [Nat.zero_add]))
          | ((refine step_pushXZ rfl (.tmp 111) (.tmp 113) 23 rfl X (by repeat (first | assumption | exact Ext.refl _ | apply Ext.drew | apply Ext.alloc)) 52 irR _ 3 32 Try.underlying23 g1 g2 g3 g4 rfl zIRowZ _ m xsQ rfl (by first | exact o8 | exact o8.ext ((Ext.refl _).alloc _)) _ [.slice A k c, .int .u8 1, .int .i32 R] 1 rfl rfl (fun j y hj => by first | exact new3Z _ _ _ _ _ j y hj | exact r8.cell (by intro h; have h : (some _ : Option Nat) = some _ := h; injection h with h; first | exact Nat.ne_of_lt (Nat.lt_succ_self _) h | exact Nat.ne_of_gt (Nat.lt_succ_self _) h | (simp at h; done) | (simp at h; omega)) (by have hh := new3Z (X.alloc (.cells #[] 52)) 52 (.slice A k c) (.int .u8 1) (.int .i32 R) j y hj; rw [show (X.alloc (.cells #[] 52)).heap.size = X.heap.size + 1 by simp] at hh; exact hh) | exact r8.cell (by intro h; have h : (some _ : Option Nat) = some _ := h; injection h with h; first | exact Nat.ne_of_lt (Nat.lt_succ_self _) h | exact Nat.ne_of_gt (Nat.lt_succ_self _) h | (simp at h; done) | (simp at h; omega)) (Ext.cell ((Ext.refl _).alloc _) (new3Z _ _ _ _ _ j y hj))) one3Z nou3Z (by omega) (by decide) ?_); intro v10 y10 o10 r10 hX10; (have MB10 := MBx.ext hX10); (have c10 := MB10.c1); (have z10 := MB10.frozen 1); (obtain ⟨A10, d10, rfl⟩ := o10.shape))
          )
        all_goals (
          obtain ⟨hIP, MB11, hF11⟩ := more_ipZ (r := ⟨cs, 1, R⟩) HN.out HM.out (by rw [HDN.out]) rfl hxl HZx.out HZRx.out HOx.out HOSx.out MB10 o10 hX10 hmw
          clear kq1 kr0 kr1 kr2 c10 z10
          go_wp2_with fail
          go_meet
          exact ⟨A10, d10, hIP, MB11, hF11⟩)
      case rest =>
      obtain ⟨A9, d9, hIP, MB9, hF9⟩ := hcut
      rename_i hK
      refine hK _ _ ?_
      have SB9 := hF9.box SBx hsm
      clear SBx
      have RB9 := hF9.box RBx (Ne.symm hmr)
      have QB9 := hF9.box QBx (Ne.symm hmq)
      have RA9 := hF9.box RAx (Ne.symm hma)
      obtain ⟨hRow9, hSafe9⟩ := hRowx.frS hSafex hF9 (fun b hb => by
        subst hb
        refine ⟨hmw, fun cs e => ?_⟩
        have hQ : X.heap[b]? = some (.cells _ 25 (0, 0)) := MBx
        rw [hQ] at e
        injection e with e
        injection e with _ e
        exact absurd e (by decide))
      have hE9 := hF9.ext hEx (fun b hb => by subst hb; omega)
      have hx29 := hF9.ext hx2x (fun b hb => by subst hb; exact hmw)
      have hxU9 := hF9.ext hxUx (fun b hb => by subst hb; exact hmU)
      clear hK RBx QBx RAx MBx hRowx hSafex hEx hx2x hxUx hF9 HZx HOx HOSx HZRx hxsx
      have HB2 : Hid (BoxP (Q.moreZ ⟨cs, 1, R⟩) 9) := Lib.hid (HBP.out.more (by omega) (by show cs.length = _; rw [HCL.out, HN.out]) ⟨by show -2147483648 ≤ R; omega, by show R ≤ 2147483647; omega⟩ (Nat.le_refl 1) (by show 1 ≤ 3; decide) (fun z hz => by have := HCB.out z hz; omega))
      have m0 := MB9.c0
      have m1 := MB9.c1
      have m2 := MB9.c2
      go_wp2_with fail
      refine (Make_b _ (Q.moreZ ⟨cs, 1, R⟩) _ hIP HB2.out.ok).mono ?_
      rintro e we ⟨y2, a2, rfl, hy2, hxe⟩
      have hPe : ProbV we y2 (Q.moreZ ⟨cs, 1, R⟩).pl.toP := MkV.prob hy2
      have hS := Solve_i _ (Q.moreZ ⟨cs, 1, R⟩).pl.toP 400 3 409 134217728 400 we hPe (by omega) (by omega) (by decide) (fun _ => HB2.out.can) (by rw [IP.pm]; have := HB2.out.ms; omega) (by omega)
      clear m0 m1 m2 hIP hy2 hPe
      rcases rows_second HBP.out HB2.out HFD.out with hs2 | ⟨v2, x2, t2, hs2, hv2⟩
      · rw [hs2] at hS
        clear hs2
        go_wp2_with fail
        refine hS.mono ?_
        rintro e wg ⟨rfl, hxg⟩
        clear hS
        go_upto_region 23 with fail
        have TB := Box.new wg 32 #[.int .i64 0, .slice none 0 0, .pointer none]
        have hxt : Ext wg (wg.alloc (.cells #[.int .i64 0, .slice none 0 0, .pointer none] 32)) := (Ext.refl wg).alloc _
        generalize (wg.alloc (.cells #[.int .i64 0, .slice none 0 0, .pointer none] 32)) = W5 at *
        obtain ⟨tc, htc⟩ : ∃ x, x = wg.heap.size := ⟨_, rfl⟩
        rw [← htc] at TB ⊢
        clear htc
        have hx5 := (hxe.trans hxg).trans hxt
        have s0 := (SB9.ext hx5).c0
        have r0 := (RA9.ext hx5).c0
        have t0 := TB.c0
        have hE5 := hE9.trans hx5
        clear hx5 hxe hxg hxt
        go_wp2_with fail
        go_ret
        exact ⟨rfl, hE5⟩
      · rw [hs2] at hS
        clear hs2
        go_wp2_with fail
        refine hS.mono ?_
        rintro e wg ⟨g2, tb2, h2, rfl, -, -, -, -, hxg⟩
        clear hS
        obtain ⟨n2, hn2e⟩ : ∃ n1, n1 = (Q.moreZ ⟨cs, 1, R⟩).pl.toP.n := ⟨_, rfl⟩
        rw [← hn2e]
        clear hn2e
        have i5 : decide (v2 ≤ vv) = true := decide_eq_true hv2
        go_upto_region 23 with fail
        have TB := Box.new wg 32 #[.int .i64 v2, .slice (some ⟨g2, 0, none⟩) n2 n2, .pointer (some ⟨tb2, 0, none⟩)]
        have hxt : Ext wg (wg.alloc (.cells #[.int .i64 v2, .slice (some ⟨g2, 0, none⟩) n2 n2, .pointer (some ⟨tb2, 0, none⟩)] 32)) := (Ext.refl wg).alloc _
        generalize (wg.alloc (.cells #[.int .i64 v2, .slice (some ⟨g2, 0, none⟩) n2 n2, .pointer (some ⟨tb2, 0, none⟩)] 32)) = W5 at *
        obtain ⟨tc, htc⟩ : ∃ x, x = wg.heap.size := ⟨_, rfl⟩
        rw [← htc] at TB ⊢
        clear htc
        have hx5 := (hxe.trans hxg).trans hxt
        have s0 := (SB9.ext hx5).c0
        have r0 := (RA9.ext hx5).c0
        have t0 := TB.c0
        have hE5 := hE9.trans hx5
        clear hx5 hxe hxg hxt
        go_wp2_with fail
        go_ret
        exact ⟨rfl, hE5⟩
end Go.Proofs.Ythafabkjidifeaa.Lp

/- The law LpPermutes, walked. -/
import Derived.Test.YtgffcblldebelaaDoorLX6A
import Derived.Test.YtgffcblldebelaaDoorLXC
import Derived.BigRegion
import Derived.Deep.MidRow
set_option linter.unusedVariables false
set_option linter.unusedSimpArgs false
namespace Go.Proofs.YtgffcblldebelaaDoor.Lp
open Go.RowKit Go.Proofs.YtgffcblldebelaaDoor.Big Go.Proofs.YtgffcblldebelaaDoor.Rt

theorem meas_lt {m j : Nat} (h : j < m) : m - (intOf (Value.int .i64 ((j + 1 : Nat) : Int))).toNat < m - (intOf (Value.int .i64 (j : Int))).toNat := by
  simp only [intOf]
  omega
theorem meas_lt' {m j : Nat} (h : j < m) : m - (intOf (Value.int .i64 ((j : Int) + 1))).toNat < m - (intOf (Value.int .i64 (j : Int))).toNat := by
  simp only [intOf]
  omega
theorem there6 {w : World} {b o : Nat} {cs : Array Value} {E : TypeId} (h : w.heap[b]? = some (.cells cs E (0, 0))) (ho : o + 6 ≤ cs.size) : w.there b o 6 := fun i hi => by
  refine ⟨?_, by simp [World.frozen?, h]⟩
  rw [cell_of_row w b (o + i) cs _ (0, 0) h, Array.getElem?_eq_getElem (by omega)]; rfl
/-- six cells stored, as one step of a region that draws -/
theorem step_store6 {w : World} {ops : Array Oper} {o : Oper} {a : Act} {K : Act → World → Prop} {Q : Exit → Act → World → Prop} {Z : Prop}
    (hg : o.guard = none) (x y : Operand) (ho : o.op = .store 48 x y) (b off : Nat) (v0 v1 v2 v3 v4 v5 : Value) (hx : a.eval x = .pointer (some ⟨b, off, none⟩)) (hy : a.eval y = .agg #[v0, v1, v2, v3, v4, v5])
    (ht : w.there b off 6) (h1 : (#[v0, v1, v2, v3, v4, v5] : Array Value).all (·.oneCell') = true) (h : K (a.put o.dst undef) (set6 w b off v0 v1 v2 v3 v4 v5)) :
    if Region.wanted o (yielded ops a.tmps) = true then Oper.wp Tryd.prog o a w K Q else Z := by
  have hw : Region.wanted o (yielded ops a.tmps) = true := by simp [Region.wanted, hg]
  rw [if_pos hw]
  exact wp_store_mid 48 x y ho b off #[v0, v1, v2, v3, v4, v5] hx hy ht (by kernel_rfl) h1 h
theorem boxesG3 (w : World) (E0 E1 E2 : TypeId) (c0 c1 c2 : Array Value) :
    Box (((w.alloc (.cells c0 E0)).alloc (.cells c1 E1)).alloc (.cells c2 E2)) w.heap.size E0 c0 ∧ Box (((w.alloc (.cells c0 E0)).alloc (.cells c1 E1)).alloc (.cells c2 E2)) (w.heap.size + 1) E1 c1 ∧
    Box (((w.alloc (.cells c0 E0)).alloc (.cells c1 E1)).alloc (.cells c2 E2)) (w.heap.size + 1 + 1) E2 c2 ∧ Ext w (((w.alloc (.cells c0 E0)).alloc (.cells c1 E1)).alloc (.cells c2 E2)) := by
  have s1 : (w.alloc (.cells c0 E0)).heap.size = w.heap.size + 1 := by simp
  have s2 : ((w.alloc (.cells c0 E0)).alloc (.cells c1 E1)).heap.size = w.heap.size + 1 + 1 := by simp
  have h1 := Box.new (w.alloc (.cells c0 E0)) E1 c1
  have h2 := Box.new ((w.alloc (.cells c0 E0)).alloc (.cells c1 E1)) E2 c2
  rw [s1] at h1
  rw [s2] at h2
  exact ⟨((Box.new w E0 c0).alloc _).alloc _, h1.alloc _, h2, (((Ext.refl w).alloc _).alloc _).alloc _⟩
set_option maxHeartbeats 40000000 in
set_option maxRecDepth 100000 in
theorem permutes_any (v : Value) (ip : IP) (ka kb : Int) (w : World) (h : IPV w v ip) (hok : ip.ok) (hka : 0 ≤ ka ∧ ka ≤ 255) (hkb : 0 ≤ kb ∧ kb ≤ 255) (htab : TabOK w) : Calls Tryd.prog 6 #[v, .int .u8 ka, .int .u8 kb] w (ValPost w (.bool true)) := by
  have h0 := h
  obtain ⟨Ao, co, Ar, cr, rfl, -, -, -, -⟩ := h0
  obtain ⟨n0, hn0⟩ : ∃ n, n = ip.obj.length := ⟨_, rfl⟩
  obtain ⟨m0, hm0⟩ : ∃ n, n = ip.rows.length := ⟨_, rfl⟩
  obtain ⟨d0, hd0⟩ : ∃ n, n = ip.den := ⟨_, rfl⟩
  have HN0 := Lib.hid hn0
  have HM0 := Lib.hid hm0
  rw [← hn0, ← hm0, ← hd0] at h ⊢
  have HOK := Lib.hid hok
  clear hn0 hm0 hd0 hok
  obtain ⟨B, BA, BB, hE⟩ := boxesG3 w 25 5 5 #[.slice Ao n0 co, .slice Ar m0 cr, .int .u8 (d0 : Int)] #[.int .u8 ka] #[.int .u8 kb]
  go_enter Tryd.func6, Tryd.ntmps6
  go_upto_region 1 with fail
  generalize (((w.alloc (.cells #[.slice Ao n0 co, .slice Ar m0 cr, .int .u8 (d0 : Int)] 25)).alloc (.cells #[.int .u8 ka] 5)).alloc (.cells #[.int .u8 kb] 5)) = V at *
  obtain ⟨ab, hab⟩ : ∃ x, x = w.heap.size := ⟨_, rfl⟩
  rw [← hab] at B BA BB ⊢
  clear hab
  go_wp2_with fail
  refine (awake_b _ (htab.ext hE)).mono ?_
  rintro e w1 ⟨rfl, hx1⟩
  replace hE := hE.trans hx1
  replace B := B.ext hx1
  replace BA := BA.ext hx1
  replace BB := BB.ext hx1
  have c0 := B.c0
  have c1 := B.c1
  have c2 := B.c2
  clear hx1
  go_wp2_with fail
  refine (fits_b _ ip _ (h.ext hE)).mono ?_
  rintro e w2 ⟨rfl, hx2⟩
  replace hE := hE.trans hx2
  replace B := B.ext hx2
  replace BA := BA.ext hx2
  replace BB := BB.ext hx2
  clear c0 c1 c2 hx2
  obtain ⟨F, hF⟩ : ∃ F, F = fitB ip := ⟨_, rfl⟩
  rw [← hF]
  have HFI := Lib.hid hF
  clear hF
  cases F with
  | false =>
    go_wp2_with fail
    refine (awake_b _ (htab.ext hE)).mono ?_
    rintro e w3 ⟨rfl, hx3⟩
    go_wp2_with fail
    go_ret
    exact ⟨rfl, hE.trans hx3⟩
  | true =>
  have hfit := fitB_iff.1 HFI.out.symm
  have HFT := Lib.hid hfit
  clear hfit
  have c0 := B.c0
  have c1 := B.c1
  have c2 := B.c2
  go_wp2_with fail
  refine (Make_b _ ip _ (h.ext hE) HOK.out).mono ?_
  rintro e w3 ⟨v3, a, rfl, hM, hx3⟩
  have hP := hM.prob
  have hv3 := hM.val
  subst hv3
  replace hE := hE.trans hx3
  replace B := B.ext hx3
  replace BA := BA.ext hx3
  replace BB := BB.ext hx3
  clear c0 c1 c2 hx3 hM
  go_wp2_with fail
  refine (Valid_b _ _ _ hP).mono ?_
  rintro e w4 ⟨rfl, hx4⟩
  replace hE := hE.trans hx4
  replace B := B.ext hx4
  replace BA := BA.ext hx4
  replace BB := BB.ext hx4
  clear hP hx4
  obtain ⟨F2, hF2⟩ : ∃ F, F = validB ip.pl.toP := ⟨_, rfl⟩
  rw [← hF2]
  have HVA := Lib.hid hF2
  clear hF2
  cases F2 with
  | false =>
    go_wp2_with fail
    refine (awake_b _ (htab.ext hE)).mono ?_
    rintro e w5 ⟨rfl, hx5⟩
    go_wp2_with fail
    go_ret
    exact ⟨rfl, hE.trans hx5⟩
  | true =>
  have HBD : Hid (Bnd ip.pl.toP 16000000) := Lib.hid (IP.bnd HOK.out (by rw [IP.pn]; exact HFT.out.1) (by rw [IP.pm]; have := HFT.out.2; omega) HVA.out.symm)
  have c0 := B.c0
  have c1 := B.c1
  have c2 := B.c2
  go_wp2_with fail
  refine (Make_b _ ip _ (h.ext hE) HOK.out).mono ?_
  rintro e w5 ⟨v5, a5, rfl, hM5, hx5⟩
  have hP5 := hM5.prob
  have hv5 := hM5.val
  subst hv5
  replace hE := hE.trans hx5
  replace B := B.ext hx5
  replace BA := BA.ext hx5
  replace BB := BB.ext hx5
  clear c0 c1 c2 hx5 hM5
  go_wp2_with fail
  refine (Solve_l _ _ 16000000 _ hP5 (fun _ => HBD.out)).mono ?_
  rintro e w6 ⟨q, A, n, c, q', A', n', c', Ax, nx, cx, Ay, ny, cy, k, z, xs, ys, rfl, hz, hX, hY, hbx, hby, hres, hx6⟩
  replace hE := hE.trans hx6
  replace B := B.ext hx6
  replace BA := BA.ext hx6
  replace BB := BB.ext hx6
  have hkz : ip.pl.valid = true ∧ k = ip.pl.err ∧ z = ip.pl.val := by
    rcases hres.pl with h | ⟨h, _⟩
    · exact h
    · rw [(validB_pl _).1 HVA.out.symm] at h; cases h
  have HKZ := Lib.hid hkz
  clear hP5 hx6 hX hY hbx hby hres hkz
  go_upto_region 4 with fail
  have SB := Box.new w6 39 #[.bool q, .slice A n c, .bool q', .slice A' n' c', .slice Ax nx cx, .slice Ay ny cy]
  have hx7 : Ext w6 (w6.alloc (.cells #[.bool q, .slice A n c, .bool q', .slice A' n' c', .slice Ax nx cx, .slice Ay ny cy] 39)) := (Ext.refl w6).alloc _
  generalize (w6.alloc (.cells #[.bool q, .slice A n c, .bool q', .slice A' n' c', .slice Ax nx cx, .slice Ay ny cy] 39)) = U at *
  obtain ⟨sb, hsb⟩ : ∃ x, x = w6.heap.size := ⟨_, rfl⟩
  rw [← hsb] at SB ⊢
  clear hsb
  replace hE := hE.trans hx7
  replace B := B.ext hx7
  replace BA := BA.ext hx7
  replace BB := BB.ext hx7
  replace hz := hz.ext hx7
  clear hx7
  have HAB : Hid (ab + 1 + 1 < U.heap.size) := Lib.hid BB.lt
  have hEU := hE
  have SBU := SB
  have hzU := hz
  have c0 := B.c0
  have c1 := B.c1
  have c2 := B.c2
  go_wp2_with fail
  refine (Make_o _ ip _ (h.ext hE) HOK.out).mono ?_
  rintro e w8 ⟨v8, a8, rfl, hM8, hO8, hx8⟩
  have hv8 := hM8.val
  subst hv8
  replace hE := hE.trans hx8
  replace B := B.ext hx8
  replace BA := BA.ext hx8
  replace BB := BB.ext hx8
  replace SB := SB.ext hx8
  replace hz := hz.ext hx8
  clear c0 c1 c2
  go_upto_region 5 with fail
  have QB8 := Box.new w8 31 #[.slice a8.Ao ip.pl.toP.n a8.co, .slice a8.Ar ip.pl.toP.m a8.cr]
  have hx9 : Ext w8 (w8.alloc (.cells #[.slice a8.Ao ip.pl.toP.n a8.co, .slice a8.Ar ip.pl.toP.m a8.cr] 31)) := (Ext.refl w8).alloc _
  generalize (w8.alloc (.cells #[.slice a8.Ao ip.pl.toP.n a8.co, .slice a8.Ar ip.pl.toP.m a8.cr] 31)) = X at *
  obtain ⟨qb, hqb⟩ : ∃ x, x = w8.heap.size := ⟨_, rfl⟩
  rw [← hqb] at QB8 ⊢
  have hqs : U.heap.size ≤ qb := by rw [hqb]; exact hx8.size
  clear hqb
  have hO8 := hO8.ext hx9
  have hM8 := hM8.ext hx9
  replace hE := hE.trans hx9
  replace B := B.ext hx9
  replace BA := BA.ext hx9
  replace BB := BB.ext hx9
  replace SB := SB.ext hx9
  replace hz := hz.ext hx9
  have hXU := hx8.trans hx9
  clear hx8 hx9
  have HLT : Hid ((∀ k, Blk a8.Ao ip.pl.toP.n k → U.heap.size ≤ k ∧ k < X.heap.size) ∧ (0 < ip.pl.toP.m → U.heap.size ≤ a8.br ∧ a8.br < X.heap.size) ∧ ∀ i, i < ip.pl.toP.m → ∀ k, Blk (a8.rA i) (ip.pl.toP.len i) k → U.heap.size ≤ k ∧ k < X.heap.size) := Lib.hid (by
    have key : ∀ {A : Option Addr} {n c : Nat} {f : Nat → Rat}, RatsO X U.heap.size A n c f → ∀ k, Blk A n k → U.heap.size ≤ k ∧ k < X.heap.size := fun {A n c f} hA k hk => by
      obtain ⟨b, e, hr, hb⟩ := hA.2.2 hk.1
      rw [hk.2] at e
      injection e with e
      injection e with e
      subst e
      exact ⟨hb, hr.lt⟩
    exact ⟨key hM8.obj, fun hm => ⟨(hM8.blk hm).2.1, by obtain ⟨-, -, cs, h3, -⟩ := hM8.blk hm; exact Box.lt (E := 48) (cs := cs) h3⟩, fun i hi => key (hM8.rows.coef i hi)⟩)
  obtain ⟨p, hp⟩ : ∃ p, p = ip.pl.toP := ⟨_, rfl⟩
  have HPP := Lib.hid hp
  have HCF : Hid ((∀ i, i < p.m → ∀ j, QB 2 (p.coef i j)) ∧ (∀ i, i < p.m → QB 2 (p.right i)) ∧ (∀ j, QB 2 (p.obj j))) := Lib.hid (by rw [hp]; exact ⟨fun i hi j => IP.coef_b HOK.out hi j, fun i hi => IP.right_b HOK.out hi, fun j => IP.obj_b HOK.out j⟩)
  have HPN : Hid (p.n ≤ 8 ∧ p.m ≤ 8) := Lib.hid (by rw [hp, IP.pn, IP.pm]; exact HFT.out)
  have HVL : Hid p.Valid := Lib.hid (by rw [hp]; exact validB_iff.1 HVA.out.symm)
  rw [← hp] at hM8 QB8 HLT ⊢
  clear hp hO8 B
  have q1 := QB8.c1
  go_upto_if 42 with fail
  rename_i hK
  clear q1
  go_cut [] (fun wx => ∃ s : Nat → Nat, Hid ((∀ i, i < p.m → s i < p.m) ∧ ∀ i, i < p.m → s (s i) = i) ∧ MkV wx U.heap.size (.agg #[.slice a8.Ao p.n a8.co, .slice a8.Ar p.m a8.cr]) (p.perm s) (a8.perm s) ∧ Box wx qb 31 #[.slice a8.Ao p.n a8.co, .slice a8.Ar p.m a8.cr] ∧ Box wx (ab + 1) 5 #[.int .u8 ka] ∧ Box wx (ab + 1 + 1) 5 #[.int .u8 kb] ∧ Ext U wx)
  case first => as_aux_lemma =>
    by_cases hm : p.m = 0
    · have e1 : decide ((0 : Int) < (p.m : Int)) = false := by simp; omega
      go_wp2_with fail
      go_meet
      exact ⟨id, Lib.hid ⟨fun i hi => hi, fun i hi => rfl⟩, hM8, QB8, BA, BB, hXU⟩
    · have hm0 : 0 < p.m := by omega
      have e1 : decide ((0 : Int) < (p.m : Int)) = true := by simp; omega
      obtain ⟨i, hi⟩ : ∃ i : Nat, ka % (p.m : Int) = i := ⟨(ka % (p.m : Int)).toNat, by have := Int.emod_nonneg ka (b := (p.m : Int)) (by omega); omega⟩
      obtain ⟨k, hk⟩ : ∃ i : Nat, kb % (p.m : Int) = i := ⟨(kb % (p.m : Int)).toNat, by have := Int.emod_nonneg kb (b := (p.m : Int)) (by omega); omega⟩
      have him : i < p.m := by have := Int.emod_lt_of_pos ka (show (0 : Int) < (p.m : Int) by omega); omega
      have hkm : k < p.m := by have := Int.emod_lt_of_pos kb (show (0 : Int) < (p.m : Int) by omega); omega
      obtain ⟨hAr, hbr, cs, hcs, hcsz⟩ := hM8.blk hm0
      have hcap := hM8.cap
      go_upto_region 7 with fail
      have q1 : X.cell? ⟨qb, 1, none⟩ = some (.slice (some ⟨a8.br, 0, none⟩) p.m a8.cr) := by rw [QB8.c1, hAr]
      have ba := BA.c0
      have bb := BB.c0
      obtain ⟨c0, c1, -, x1, B1, d1, e1, y1, B1', d1', e1', c2, c3, c4, c5, hr1⟩ := hM8.rows.row i him
      have c0 : X.cell? ⟨a8.br, i * 6, none⟩ = some _ := c0
      have c1 : X.cell? ⟨a8.br, i * 6 + 1, none⟩ = some _ := c1
      have c2 : X.cell? ⟨a8.br, i * 6 + 2, none⟩ = some _ := c2
      have c3 : X.cell? ⟨a8.br, i * 6 + 3, none⟩ = some _ := c3
      have c4 : X.cell? ⟨a8.br, i * 6 + 4, none⟩ = some _ := c4
      have c5 : X.cell? ⟨a8.br, i * 6 + 5, none⟩ = some _ := c5
      obtain ⟨d0, d1, -, x2, B2, m2, n2, y2, B2', m2', n2', d2, d3, d4, d5, hr2⟩ := hM8.rows.row k hkm
      have d0 : X.cell? ⟨a8.br, k * 6, none⟩ = some _ := d0
      have d1 : X.cell? ⟨a8.br, k * 6 + 1, none⟩ = some _ := d1
      have d2 : X.cell? ⟨a8.br, k * 6 + 2, none⟩ = some _ := d2
      have d3 : X.cell? ⟨a8.br, k * 6 + 3, none⟩ = some _ := d3
      have d4 : X.cell? ⟨a8.br, k * 6 + 4, none⟩ = some _ := d4
      have d5 : X.cell? ⟨a8.br, k * 6 + 5, none⟩ = some _ := d5
      have hMd := hM8.ext ((Ext.refl X).drew)
      obtain ⟨-, -, cs0, hcs0, hcsz0⟩ := hMd.blk hm0
      have ht1 : (World.drew X).there a8.br (i * 6) 6 := there6 hcs0 (by omega)
      obtain ⟨cs1, hcs1, hcsz1, -⟩ := set6_cells (v0 := .slice (a8.rA k) (p.len k) (a8.rc k)) (v1 := .int .u8 (p.rel k : Int)) (v2 := .bool x2) (v3 := .slice B2 m2 n2) (v4 := .bool y2) (v5 := .slice B2' m2' n2') (o := i * 6) hcs0 (by omega)
      have ht2 := there6 (o := k * 6) hcs1 (by omega)
      obtain ⟨t1, t2⟩ := hMd.swap him hkm c0 c1 c2 c3 c4 c5 d0 d1 d2 d3 d4 d5
      have hfr1 : Fr (fun k => k = a8.br) (World.drew X) (set6 (World.drew X) a8.br (i * 6) (.slice (a8.rA k) (p.len k) (a8.rc k)) (.int .u8 (p.rel k : Int)) (.bool x2) (.slice B2 m2 n2) (.bool y2) (.slice B2' m2' n2')) := set6_fr (by intro z e; have := c0.symm.trans e; cases this) (by intro z e; have := c1.symm.trans e; cases this) (by intro z e; have := c2.symm.trans e; cases this) (by intro z e; have := c3.symm.trans e; cases this) (by intro z e; have := c4.symm.trans e; cases this) (by intro z e; have := c5.symm.trans e; cases this)
      have hfr0 := (Fr.refl (fun k => k = a8.br) X).drew
      have HFR1 := Lib.hid (hfr0.trans hfr1)
      have HFR2 := Lib.hid (hfr0.trans t2)
      have HT1 := Lib.hid t1
      have HTH1 := Lib.hid ht1
      have HTH2 := Lib.hid ht2
      clear t1 t2 hfr1 hfr0 ht1 ht2 hcs1 hcs0 hcsz0 hcsz1 hMd
      have hqr : qb ≠ a8.br := row_ne QB8 hcs (by decide)
      have hbr1 : ab + 1 ≠ a8.br := by have := HLT.out.2.1 hm0; have := HAB.out; omega
      have hbr2 : ab + 1 + 1 ≠ a8.br := by have := HLT.out.2.1 hm0; have := HAB.out; omega
      have i1 : (0 : Int) ≤ (i : Int) := by omega
      have i2 : (i : Int) < (p.m : Int) := by omega
      have i3 : (0 : Int) ≤ (k : Int) := by omega
      have i4 : (k : Int) < (p.m : Int) := by omega
      have kq : ∀ w', Fr (fun k => k = a8.br) X w' → w'.cell? ⟨qb, 1, none⟩ = some _ := fun w' h => h.cell hqr q1
      have kba : ∀ w', Fr (fun k => k = a8.br) X w' → w'.cell? ⟨ab + 1, 0, none⟩ = some _ := fun w' h => h.cell hbr1 ba
      have kbb : ∀ w', Fr (fun k => k = a8.br) X w' → w'.cell? ⟨ab + 1 + 1, 0, none⟩ = some _ := fun w' h => h.cell hbr2 bb
      have ks := Fr.refl (fun k => k = a8.br) X
      have hmz : ¬ p.m = 0 := hm
      have hwa : IntKind.i64.wrap ka = ka := IntWalk.i64_in _ (by omega)
      have hwb : IntKind.i64.wrap kb = kb := IntWalk.i64_in _ (by omega)
      have hta : ka.tmod (p.m : Int) = (i : Int) := by rw [Int.tmod_eq_emod_of_nonneg hka.1]; exact hi
      have htb : kb.tmod (p.m : Int) = (k : Int) := by rw [Int.tmod_eq_emod_of_nonneg hkb.1]; exact hk
      clear hi hk
      clear hr1 hr2 hAr hcs hcsz hm0 q1 ba bb
      refine wp_region_held_drew (S := fun w' => Fr (fun k => k = a8.br) X w') (by kernel_rfl) ?_ (fun hHeld => ?_)
      · (try dsimp only); (repeat (first | (with_reducible assumption) | (with_reducible exact HFR1.out) | (with_reducible exact HFR2.out) | (with_reducible apply Fr.drew) | (with_reducible apply Fr.drewN)))
      refine wpAnyH_take (i := 0) (oi := { dst := some 43, op := Op.fieldAddr 31 (Operand.tmp 9) 1, type := 0, pos := "law.go:237", after := #[], guard := none }) (v := ?_) rfl (by kernel_rfl) (by kernel_rfl) (by kernel_rfl) (fun _ _ _ h => h) (Or.inl ⟨by rfl, ?_⟩) (by assumption) ?_
      rotate_left
      · intro w hSw; (try dsimp only at hSw); go_simp; try (with_reducible rfl)
      try simp only [Act.put, List.setIfInBounds_toArray, List.set_cons_zero, List.set_cons_succ]
      refine wpAnyH_take (i := 1) (oi := { dst := some 44, op := Op.load 29 (Operand.tmp 43), type := 29, pos := "law.go:237", after := #[{ on := 0, ground := Ground.data }], guard := none }) (v := ?_) rfl (by kernel_rfl) (by kernel_rfl) (by kernel_rfl) (fun _ _ _ h => h) (Or.inl ⟨by rfl, ?_⟩) (by assumption) ?_
      rotate_left
      · intro w hSw; (try dsimp only at hSw); go_simp; try (with_reducible rfl)
      try simp only [Act.put, List.setIfInBounds_toArray, List.set_cons_zero, List.set_cons_succ]
      refine wpAnyH_take (i := 2) (oi := { dst := some 45, op := Op.load 5 (Operand.tmp 4), type := 5, pos := "law.go:237", after := #[], guard := none }) (v := ?_) rfl (by kernel_rfl) (by kernel_rfl) (by kernel_rfl) (fun _ _ _ h => h) (Or.inl ⟨by rfl, ?_⟩) (by assumption) ?_
      rotate_left
      · intro w hSw; (try dsimp only at hSw); go_simp; try (with_reducible rfl)
      try simp only [Act.put, List.setIfInBounds_toArray, List.set_cons_zero, List.set_cons_succ]
      refine wpAnyH_take (i := 3) (oi := { dst := some 46, op := Op.convert 5 3 (Operand.tmp 45), type := 3, pos := "law.go:237", after := #[{ on := 2, ground := Ground.data }], guard := none }) (v := ?_) rfl (by kernel_rfl) (by kernel_rfl) (by kernel_rfl) (fun _ _ _ h => h) (Or.inl ⟨by rfl, ?_⟩) (by assumption) ?_
      rotate_left
      · intro w hSw; (try dsimp only at hSw); go_simp; try (with_reducible rfl)
      try simp only [Act.put, List.setIfInBounds_toArray, List.set_cons_zero, List.set_cons_succ]
      refine wpAnyH_take (i := 4) (oi := { dst := some 47, op := Op.move (Operand.tmp 10), type := 3, pos := "law.go:237", after := #[], guard := none }) (v := ?_) rfl (by kernel_rfl) (by kernel_rfl) (by kernel_rfl) (fun _ _ _ h => h) (Or.inl ⟨by rfl, ?_⟩) (by assumption) ?_
      rotate_left
      · intro w hSw; (try dsimp only at hSw); go_simp; try (with_reducible rfl)
      try simp only [Act.put, List.setIfInBounds_toArray, List.set_cons_zero, List.set_cons_succ]
      refine wpAnyH_take (i := 5) (oi := { dst := some 48, op := Op.binOp BinOp.rem 3 (Operand.tmp 46) (Operand.tmp 47) 3, type := 3, pos := "law.go:237", after := #[{ on := 3, ground := Ground.data }, { on := 4, ground := Ground.data }], guard := none }) (v := ?_) rfl (by kernel_rfl) (by kernel_rfl) (by kernel_rfl) (fun _ _ _ h => h) (Or.inl ⟨by rfl, ?_⟩) (by assumption) ?_
      rotate_left
      · intro w hSw; (try dsimp only at hSw); go_simp; try (with_reducible rfl)
      try simp only [Act.put, List.setIfInBounds_toArray, List.set_cons_zero, List.set_cons_succ]
      refine wpAnyH_take (i := 6) (oi := { dst := some 49, op := Op.fieldAddr 31 (Operand.tmp 9) 1, type := 0, pos := "law.go:237", after := #[{ on := 29, ground := Ground.gcOnly Departure.lateStores }], guard := none }) (v := ?_) rfl (by kernel_rfl) (by kernel_rfl) (by kernel_rfl) (fun _ _ _ h => h) (Or.inl ⟨by rfl, ?_⟩) (by assumption) ?_
      rotate_left
      · intro w hSw; (try dsimp only at hSw); go_simp; try (with_reducible rfl)
      try simp only [Act.put, List.setIfInBounds_toArray, List.set_cons_zero, List.set_cons_succ]
      refine wpAnyH_take (i := 7) (oi := { dst := some 50, op := Op.load 29 (Operand.tmp 49), type := 29, pos := "law.go:237", after := #[{ on := 6, ground := Ground.data }, { on := 29, ground := Ground.gcOnly Departure.lateStores }], guard := none }) (v := ?_) rfl (by kernel_rfl) (by kernel_rfl) (by kernel_rfl) (fun _ _ _ h => h) (Or.inl ⟨by rfl, ?_⟩) (by assumption) ?_
      rotate_left
      · intro w hSw; (try dsimp only at hSw); go_simp; try (with_reducible rfl)
      try simp only [Act.put, List.setIfInBounds_toArray, List.set_cons_zero, List.set_cons_succ]
      refine wpAnyH_take (i := 8) (oi := { dst := some 51, op := Op.load 5 (Operand.tmp 5), type := 5, pos := "law.go:237", after := #[{ on := 29, ground := Ground.gcOnly Departure.lateStores }], guard := none }) (v := ?_) rfl (by kernel_rfl) (by kernel_rfl) (by kernel_rfl) (fun _ _ _ h => h) (Or.inl ⟨by rfl, ?_⟩) (by assumption) ?_
      rotate_left
      · intro w hSw; (try dsimp only at hSw); go_simp; try (with_reducible rfl)
      try simp only [Act.put, List.setIfInBounds_toArray, List.set_cons_zero, List.set_cons_succ]
      refine wpAnyH_take (i := 9) (oi := { dst := some 52, op := Op.convert 5 3 (Operand.tmp 51), type := 3, pos := "law.go:237", after := #[{ on := 8, ground := Ground.data }, { on := 29, ground := Ground.gcOnly Departure.lateStores }], guard := none }) (v := ?_) rfl (by kernel_rfl) (by kernel_rfl) (by kernel_rfl) (fun _ _ _ h => h) (Or.inl ⟨by rfl, ?_⟩) (by assumption) ?_
      rotate_left
      · intro w hSw; (try dsimp only at hSw); go_simp; try (with_reducible rfl)
      try simp only [Act.put, List.setIfInBounds_toArray, List.set_cons_zero, List.set_cons_succ]
      refine wpAnyH_take (i := 10) (oi := { dst := some 53, op := Op.move (Operand.tmp 10), type := 3, pos := "law.go:237", after := #[{ on := 29, ground := Ground.gcOnly Departure.lateStores }], guard := none }) (v := ?_) rfl (by kernel_rfl) (by kernel_rfl) (by kernel_rfl) (fun _ _ _ h => h) (Or.inl ⟨by rfl, ?_⟩) (by assumption) ?_
      rotate_left
      · intro w hSw; (try dsimp only at hSw); go_simp; try (with_reducible rfl)
      try simp only [Act.put, List.setIfInBounds_toArray, List.set_cons_zero, List.set_cons_succ]
      refine wpAnyH_take (i := 11) (oi := { dst := some 54, op := Op.binOp BinOp.rem 3 (Operand.tmp 52) (Operand.tmp 53) 3, type := 3, pos := "law.go:237", after := #[{ on := 9, ground := Ground.data }, { on := 10, ground := Ground.data }, { on := 29, ground := Ground.gcOnly Departure.lateStores }], guard := none }) (v := ?_) rfl (by kernel_rfl) (by kernel_rfl) (by kernel_rfl) (fun _ _ _ h => h) (Or.inl ⟨by rfl, ?_⟩) (by assumption) ?_
      rotate_left
      · intro w hSw; (try dsimp only at hSw); go_simp; try (with_reducible rfl)
      try simp only [Act.put, List.setIfInBounds_toArray, List.set_cons_zero, List.set_cons_succ]
      refine wpAnyH_take (i := 12) (oi := { dst := some 55, op := Op.fieldAddr 31 (Operand.tmp 9) 1, type := 0, pos := "law.go:237", after := #[], guard := none }) (v := ?_) rfl (by kernel_rfl) (by kernel_rfl) (by kernel_rfl) (fun _ _ _ h => h) (Or.inl ⟨by rfl, ?_⟩) (by assumption) ?_
      rotate_left
      · intro w hSw; (try dsimp only at hSw); go_simp; try (with_reducible rfl)
      try simp only [Act.put, List.setIfInBounds_toArray, List.set_cons_zero, List.set_cons_succ]
      refine wpAnyH_take (i := 13) (oi := { dst := some 56, op := Op.load 29 (Operand.tmp 55), type := 29, pos := "law.go:237", after := #[{ on := 12, ground := Ground.data }], guard := none }) (v := ?_) rfl (by kernel_rfl) (by kernel_rfl) (by kernel_rfl) (fun _ _ _ h => h) (Or.inl ⟨by rfl, ?_⟩) (by assumption) ?_
      rotate_left
      · intro w hSw; (try dsimp only at hSw); go_simp; try (with_reducible rfl)
      try simp only [Act.put, List.setIfInBounds_toArray, List.set_cons_zero, List.set_cons_succ]
      refine wpAnyH_take (i := 14) (oi := { dst := some 57, op := Op.load 5 (Operand.tmp 5), type := 5, pos := "law.go:237", after := #[], guard := none }) (v := ?_) rfl (by kernel_rfl) (by kernel_rfl) (by kernel_rfl) (fun _ _ _ h => h) (Or.inl ⟨by rfl, ?_⟩) (by assumption) ?_
      rotate_left
      · intro w hSw; (try dsimp only at hSw); go_simp; try (with_reducible rfl)
      try simp only [Act.put, List.setIfInBounds_toArray, List.set_cons_zero, List.set_cons_succ]
      refine wpAnyH_take (i := 15) (oi := { dst := some 58, op := Op.convert 5 3 (Operand.tmp 57), type := 3, pos := "law.go:237", after := #[{ on := 14, ground := Ground.data }], guard := none }) (v := ?_) rfl (by kernel_rfl) (by kernel_rfl) (by kernel_rfl) (fun _ _ _ h => h) (Or.inl ⟨by rfl, ?_⟩) (by assumption) ?_
      rotate_left
      · intro w hSw; (try dsimp only at hSw); go_simp; try (with_reducible rfl)
      try simp only [Act.put, List.setIfInBounds_toArray, List.set_cons_zero, List.set_cons_succ]
      refine wpAnyH_take (i := 16) (oi := { dst := some 59, op := Op.move (Operand.tmp 10), type := 3, pos := "law.go:237", after := #[], guard := none }) (v := ?_) rfl (by kernel_rfl) (by kernel_rfl) (by kernel_rfl) (fun _ _ _ h => h) (Or.inl ⟨by rfl, ?_⟩) (by assumption) ?_
      rotate_left
      · intro w hSw; (try dsimp only at hSw); go_simp; try (with_reducible rfl)
      try simp only [Act.put, List.setIfInBounds_toArray, List.set_cons_zero, List.set_cons_succ]
      refine wpAnyH_take (i := 17) (oi := { dst := some 60, op := Op.binOp BinOp.rem 3 (Operand.tmp 58) (Operand.tmp 59) 3, type := 3, pos := "law.go:237", after := #[{ on := 15, ground := Ground.data }, { on := 16, ground := Ground.data }], guard := none }) (v := ?_) rfl (by kernel_rfl) (by kernel_rfl) (by kernel_rfl) (fun _ _ _ h => h) (Or.inl ⟨by rfl, ?_⟩) (by assumption) ?_
      rotate_left
      · intro w hSw; (try dsimp only at hSw); go_simp; try (with_reducible rfl)
      try simp only [Act.put, List.setIfInBounds_toArray, List.set_cons_zero, List.set_cons_succ]
      refine wpAnyH_take (i := 18) (oi := { dst := some 61, op := Op.indexAddr 29 (Operand.tmp 56) (Operand.tmp 60), type := 0, pos := "law.go:237", after := #[{ on := 13, ground := Ground.data }, { on := 17, ground := Ground.data }], guard := none }) (v := ?_) rfl (by kernel_rfl) (by kernel_rfl) (by kernel_rfl) (fun _ _ _ h => h) (Or.inl ⟨by rfl, ?_⟩) (by assumption) ?_
      rotate_left
      · intro w hSw; (try dsimp only at hSw); go_simp; try (with_reducible rfl)
      try simp only [Act.put, List.setIfInBounds_toArray, List.set_cons_zero, List.set_cons_succ]
      refine wpAnyH_take (i := 20) (oi := { dst := some 63, op := Op.fieldAddr 31 (Operand.tmp 9) 1, type := 0, pos := "law.go:237", after := #[], guard := none }) (v := ?_) rfl (by kernel_rfl) (by kernel_rfl) (by kernel_rfl) (fun _ _ _ h => h) (Or.inl ⟨by rfl, ?_⟩) (by assumption) ?_
      rotate_left
      · intro w hSw; (try dsimp only at hSw); go_simp; try (with_reducible rfl)
      try simp only [Act.put, List.setIfInBounds_toArray, List.set_cons_zero, List.set_cons_succ]
      refine wpAnyH_take (i := 21) (oi := { dst := some 64, op := Op.load 29 (Operand.tmp 63), type := 29, pos := "law.go:237", after := #[{ on := 20, ground := Ground.data }], guard := none }) (v := ?_) rfl (by kernel_rfl) (by kernel_rfl) (by kernel_rfl) (fun _ _ _ h => h) (Or.inl ⟨by rfl, ?_⟩) (by assumption) ?_
      rotate_left
      · intro w hSw; (try dsimp only at hSw); go_simp; try (with_reducible rfl)
      try simp only [Act.put, List.setIfInBounds_toArray, List.set_cons_zero, List.set_cons_succ]
      refine wpAnyH_take (i := 22) (oi := { dst := some 65, op := Op.load 5 (Operand.tmp 4), type := 5, pos := "law.go:237", after := #[], guard := none }) (v := ?_) rfl (by kernel_rfl) (by kernel_rfl) (by kernel_rfl) (fun _ _ _ h => h) (Or.inl ⟨by rfl, ?_⟩) (by assumption) ?_
      rotate_left
      · intro w hSw; (try dsimp only at hSw); go_simp; try (with_reducible rfl)
      try simp only [Act.put, List.setIfInBounds_toArray, List.set_cons_zero, List.set_cons_succ]
      refine wpAnyH_take (i := 23) (oi := { dst := some 66, op := Op.convert 5 3 (Operand.tmp 65), type := 3, pos := "law.go:237", after := #[{ on := 22, ground := Ground.data }], guard := none }) (v := ?_) rfl (by kernel_rfl) (by kernel_rfl) (by kernel_rfl) (fun _ _ _ h => h) (Or.inl ⟨by rfl, ?_⟩) (by assumption) ?_
      rotate_left
      · intro w hSw; (try dsimp only at hSw); go_simp; try (with_reducible rfl)
      try simp only [Act.put, List.setIfInBounds_toArray, List.set_cons_zero, List.set_cons_succ]
      refine wpAnyH_take (i := 24) (oi := { dst := some 67, op := Op.move (Operand.tmp 10), type := 3, pos := "law.go:237", after := #[], guard := none }) (v := ?_) rfl (by kernel_rfl) (by kernel_rfl) (by kernel_rfl) (fun _ _ _ h => h) (Or.inl ⟨by rfl, ?_⟩) (by assumption) ?_
      rotate_left
      · intro w hSw; (try dsimp only at hSw); go_simp; try (with_reducible rfl)
      try simp only [Act.put, List.setIfInBounds_toArray, List.set_cons_zero, List.set_cons_succ]
      refine wpAnyH_take (i := 25) (oi := { dst := some 68, op := Op.binOp BinOp.rem 3 (Operand.tmp 66) (Operand.tmp 67) 3, type := 3, pos := "law.go:237", after := #[{ on := 23, ground := Ground.data }, { on := 24, ground := Ground.data }], guard := none }) (v := ?_) rfl (by kernel_rfl) (by kernel_rfl) (by kernel_rfl) (fun _ _ _ h => h) (Or.inl ⟨by rfl, ?_⟩) (by assumption) ?_
      rotate_left
      · intro w hSw; (try dsimp only at hSw); go_simp; try (with_reducible rfl)
      try simp only [Act.put, List.setIfInBounds_toArray, List.set_cons_zero, List.set_cons_succ]
      refine wpAnyH_take (i := 26) (oi := { dst := some 69, op := Op.indexAddr 29 (Operand.tmp 64) (Operand.tmp 68), type := 0, pos := "law.go:237", after := #[{ on := 21, ground := Ground.data }, { on := 25, ground := Ground.data }], guard := none }) (v := ?_) rfl (by kernel_rfl) (by kernel_rfl) (by kernel_rfl) (fun _ _ _ h => h) (Or.inl ⟨by rfl, ?_⟩) (by assumption) ?_
      rotate_left
      · intro w hSw; (try dsimp only at hSw); go_simp; try (with_reducible rfl)
      try simp only [Act.put, List.setIfInBounds_toArray, List.set_cons_zero, List.set_cons_succ]
      refine wpAnyH_ready (rs := [19, 27]) (by kernel_rfl) (by simp) ?_
      refine AllReadyH.cons (o := { dst := some 62, op := Op.load 48 (Operand.tmp 61), type := 48, pos := "law.go:237", after := #[{ on := 18, ground := Ground.data }], guard := none }) rfl (fun K hK => ?_) ?_
      · go_simp
        try (go_wp2_with fail)
        refine hK.out _ _ ?_ (fun hHeld => ?_)
        · (try dsimp only); (repeat (first | (with_reducible assumption) | (with_reducible exact HFR1.out) | (with_reducible exact HFR2.out) | (with_reducible apply Fr.drew) | (with_reducible apply Fr.drewN)))
        clear hK K
        try simp only [Act.put, List.setIfInBounds_toArray, List.set_cons_zero, List.set_cons_succ]
        refine wpAnyH_ready (rs := [27]) (by kernel_rfl) (by simp) ?_
        refine AllReadyH.cons (o := { dst := some 70, op := Op.load 48 (Operand.tmp 69), type := 48, pos := "law.go:237", after := #[{ on := 26, ground := Ground.data }], guard := none }) rfl (fun K hK => ?_) ?_
        · go_simp
          try (go_wp2_with fail)
          refine hK.out _ _ ?_ (fun hHeld => ?_)
          · (try dsimp only); (repeat (first | (with_reducible assumption) | (with_reducible exact HFR1.out) | (with_reducible exact HFR2.out) | (with_reducible apply Fr.drew) | (with_reducible apply Fr.drewN)))
          clear hK K
          try simp only [Act.put, List.setIfInBounds_toArray, List.set_cons_zero, List.set_cons_succ]
          refine wpAnyH_take (i := 28) (oi := { dst := some 71, op := Op.indexAddr 29 (Operand.tmp 44) (Operand.tmp 48), type := 0, pos := "law.go:237", after := #[{ on := 1, ground := Ground.data }, { on := 5, ground := Ground.data }, { on := 0, ground := Ground.phase }, { on := 1, ground := Ground.phase }, { on := 2, ground := Ground.phase }, { on := 3, ground := Ground.phase }, { on := 4, ground := Ground.phase }, { on := 5, ground := Ground.phase }, { on := 6, ground := Ground.textOnly Departure.lateStores }, { on := 7, ground := Ground.textOnly Departure.lateStores }, { on := 8, ground := Ground.textOnly Departure.lateStores }, { on := 9, ground := Ground.textOnly Departure.lateStores }, { on := 10, ground := Ground.textOnly Departure.lateStores }, { on := 11, ground := Ground.textOnly Departure.lateStores }, { on := 12, ground := Ground.phase }, { on := 13, ground := Ground.phase }, { on := 14, ground := Ground.phase }, { on := 15, ground := Ground.phase }, { on := 16, ground := Ground.phase }, { on := 17, ground := Ground.phase }, { on := 18, ground := Ground.phase }, { on := 19, ground := Ground.phase }, { on := 20, ground := Ground.textOnly Departure.lateStores }, { on := 21, ground := Ground.textOnly Departure.lateStores }, { on := 22, ground := Ground.textOnly Departure.lateStores }, { on := 23, ground := Ground.textOnly Departure.lateStores }, { on := 24, ground := Ground.textOnly Departure.lateStores }, { on := 25, ground := Ground.textOnly Departure.lateStores }, { on := 26, ground := Ground.textOnly Departure.lateStoresUnsure }, { on := 27, ground := Ground.phase }], guard := none }) (v := ?_) rfl (by kernel_rfl) (by kernel_rfl) (by kernel_rfl) (fun _ _ _ h => h) (Or.inl ⟨by rfl, ?_⟩) (by assumption) ?_
          rotate_left
          · intro w hSw; (try dsimp only at hSw); go_simp; try (with_reducible rfl)
          try simp only [Act.put, List.setIfInBounds_toArray, List.set_cons_zero, List.set_cons_succ]
          refine wpAnyH_ready (rs := [29]) (by kernel_rfl) (by simp) ?_
          refine AllReadyH.cons (o := { dst := none, op := Op.store 48 (Operand.tmp 71) (Operand.tmp 62), type := 0, pos := "law.go:237", after := #[{ on := 28, ground := Ground.data }, { on := 19, ground := Ground.data }, { on := 0, ground := Ground.phase }, { on := 1, ground := Ground.phase }, { on := 2, ground := Ground.phase }, { on := 3, ground := Ground.phase }, { on := 4, ground := Ground.phase }, { on := 5, ground := Ground.phase }, { on := 6, ground := Ground.textOnly Departure.lateStores }, { on := 7, ground := Ground.textOnly Departure.lateStores }, { on := 8, ground := Ground.textOnly Departure.lateStores }, { on := 9, ground := Ground.textOnly Departure.lateStores }, { on := 10, ground := Ground.textOnly Departure.lateStores }, { on := 11, ground := Ground.textOnly Departure.lateStores }, { on := 12, ground := Ground.phase }, { on := 13, ground := Ground.phase }, { on := 14, ground := Ground.phase }, { on := 15, ground := Ground.phase }, { on := 16, ground := Ground.phase }, { on := 17, ground := Ground.phase }, { on := 18, ground := Ground.phase }, { on := 19, ground := Ground.phase }, { on := 20, ground := Ground.textOnly Departure.lateStores }, { on := 21, ground := Ground.textOnly Departure.lateStores }, { on := 22, ground := Ground.textOnly Departure.lateStores }, { on := 23, ground := Ground.textOnly Departure.lateStores }, { on := 24, ground := Ground.textOnly Departure.lateStores }, { on := 25, ground := Ground.textOnly Departure.lateStores }, { on := 26, ground := Ground.textOnly Departure.lateStoresUnsure }, { on := 27, ground := Ground.phase }], guard := none }) rfl (fun K hK => ?_) ?_
          · refine step_store6 rfl (.tmp 71) (.tmp 62) rfl a8.br (i * 6) _ _ _ _ _ _ rfl rfl HTH1.out (all_oneCell_toArray one6) ?_
            simp only [Act.put]
            refine hK.out _ _ ?_ (fun hHeld => ?_)
            · (try dsimp only); (repeat (first | (with_reducible assumption) | (with_reducible exact HFR1.out) | (with_reducible exact HFR2.out) | (with_reducible apply Fr.drew) | (with_reducible apply Fr.drewN)))
            clear hK K
            try simp only [Act.put, List.setIfInBounds_toArray, List.set_cons_zero, List.set_cons_succ]
            refine wpAnyH_take (i := 30) (oi := { dst := some 72, op := Op.indexAddr 29 (Operand.tmp 50) (Operand.tmp 54), type := 0, pos := "law.go:237", after := #[{ on := 7, ground := Ground.data }, { on := 11, ground := Ground.data }, { on := 0, ground := Ground.phase }, { on := 1, ground := Ground.phase }, { on := 2, ground := Ground.phase }, { on := 3, ground := Ground.phase }, { on := 4, ground := Ground.phase }, { on := 5, ground := Ground.phase }, { on := 6, ground := Ground.phase }, { on := 7, ground := Ground.phase }, { on := 8, ground := Ground.phase }, { on := 9, ground := Ground.phase }, { on := 10, ground := Ground.phase }, { on := 11, ground := Ground.phase }, { on := 12, ground := Ground.phase }, { on := 13, ground := Ground.phase }, { on := 14, ground := Ground.phase }, { on := 15, ground := Ground.phase }, { on := 16, ground := Ground.phase }, { on := 17, ground := Ground.phase }, { on := 18, ground := Ground.phase }, { on := 19, ground := Ground.phase }, { on := 20, ground := Ground.phase }, { on := 21, ground := Ground.phase }, { on := 22, ground := Ground.phase }, { on := 23, ground := Ground.phase }, { on := 24, ground := Ground.phase }, { on := 25, ground := Ground.phase }, { on := 26, ground := Ground.phase }, { on := 27, ground := Ground.phase }, { on := 28, ground := Ground.phase }, { on := 29, ground := Ground.phase }], guard := none }) (v := ?_) rfl (by kernel_rfl) (by kernel_rfl) (by kernel_rfl) (fun _ _ _ h => h) (Or.inl ⟨by rfl, ?_⟩) (by assumption) ?_
            rotate_left
            · intro w hSw; (try dsimp only at hSw); go_simp; try (with_reducible rfl)
            try simp only [Act.put, List.setIfInBounds_toArray, List.set_cons_zero, List.set_cons_succ]
            refine wpAnyH_ready (rs := [31]) (by kernel_rfl) (by simp) ?_
            refine AllReadyH.cons (o := { dst := none, op := Op.store 48 (Operand.tmp 72) (Operand.tmp 70), type := 0, pos := "law.go:237", after := #[{ on := 30, ground := Ground.data }, { on := 27, ground := Ground.data }, { on := 29, ground := Ground.chain }, { on := 0, ground := Ground.phase }, { on := 1, ground := Ground.phase }, { on := 2, ground := Ground.phase }, { on := 3, ground := Ground.phase }, { on := 4, ground := Ground.phase }, { on := 5, ground := Ground.phase }, { on := 6, ground := Ground.phase }, { on := 7, ground := Ground.phase }, { on := 8, ground := Ground.phase }, { on := 9, ground := Ground.phase }, { on := 10, ground := Ground.phase }, { on := 11, ground := Ground.phase }, { on := 12, ground := Ground.phase }, { on := 13, ground := Ground.phase }, { on := 14, ground := Ground.phase }, { on := 15, ground := Ground.phase }, { on := 16, ground := Ground.phase }, { on := 17, ground := Ground.phase }, { on := 18, ground := Ground.phase }, { on := 19, ground := Ground.phase }, { on := 20, ground := Ground.phase }, { on := 21, ground := Ground.phase }, { on := 22, ground := Ground.phase }, { on := 23, ground := Ground.phase }, { on := 24, ground := Ground.phase }, { on := 25, ground := Ground.phase }, { on := 26, ground := Ground.phase }, { on := 27, ground := Ground.phase }, { on := 28, ground := Ground.phase }, { on := 29, ground := Ground.phase }], guard := none }) rfl (fun K hK => ?_) ?_
            · refine step_store6 rfl (.tmp 72) (.tmp 70) rfl a8.br (k * 6) _ _ _ _ _ _ rfl rfl HTH2.out (all_oneCell_toArray one6) ?_
              simp only [Act.put]
              refine hK.out _ _ ?_ (fun hHeld => ?_)
              · (try dsimp only); (repeat (first | (with_reducible assumption) | (with_reducible exact HFR1.out) | (with_reducible exact HFR2.out) | (with_reducible apply Fr.drew) | (with_reducible apply Fr.drewN)))
              clear hK K
              try simp only [Act.put, List.setIfInBounds_toArray, List.set_cons_zero, List.set_cons_succ]
              refine wpAnyH_done (by kernel_rfl) ?_ _
              have hMW := HT1.out
              have hFW := HFR2.out
              clear HT1 HFR1 HFR2 HTH1 HTH2 kq kba kbb ks hHeld
              generalize (set6 (set6 _ _ _ _ _ _ _ _ _) _ _ _ _ _ _ _ _) = WW at hMW hFW ⊢
              go_wp2_with fail
              go_meet
              exact ⟨tr i k, Lib.hid ⟨fun j hj => tr_lt him hkm hj, fun j _ => tr_tr i k j⟩, hMW, hFW.box QB8 hqr, hFW.box BA hbr1, hFW.box BB hbr2, hFW.ext hXU (fun b hb => by rw [hb]; exact hbr)⟩
            exact AllReadyH.nil
          exact AllReadyH.nil
        exact AllReadyH.nil
      refine AllReadyH.cons (o := { dst := some 70, op := Op.load 48 (Operand.tmp 69), type := 48, pos := "law.go:237", after := #[{ on := 26, ground := Ground.data }], guard := none }) rfl (fun K hK => ?_) ?_
      · go_simp
        try (go_wp2_with fail)
        refine hK.out _ _ ?_ (fun hHeld => ?_)
        · (try dsimp only); (repeat (first | (with_reducible assumption) | (with_reducible exact HFR1.out) | (with_reducible exact HFR2.out) | (with_reducible apply Fr.drew) | (with_reducible apply Fr.drewN)))
        clear hK K
        try simp only [Act.put, List.setIfInBounds_toArray, List.set_cons_zero, List.set_cons_succ]
        refine wpAnyH_ready (rs := [19]) (by kernel_rfl) (by simp) ?_
        refine AllReadyH.cons (o := { dst := some 62, op := Op.load 48 (Operand.tmp 61), type := 48, pos := "law.go:237", after := #[{ on := 18, ground := Ground.data }], guard := none }) rfl (fun K hK => ?_) ?_
        · go_simp
          try (go_wp2_with fail)
          refine hK.out _ _ ?_ (fun hHeld => ?_)
          · (try dsimp only); (repeat (first | (with_reducible assumption) | (with_reducible exact HFR1.out) | (with_reducible exact HFR2.out) | (with_reducible apply Fr.drew) | (with_reducible apply Fr.drewN)))
          clear hK K
          try simp only [Act.put, List.setIfInBounds_toArray, List.set_cons_zero, List.set_cons_succ]
          refine wpAnyH_take (i := 28) (oi := { dst := some 71, op := Op.indexAddr 29 (Operand.tmp 44) (Operand.tmp 48), type := 0, pos := "law.go:237", after := #[{ on := 1, ground := Ground.data }, { on := 5, ground := Ground.data }, { on := 0, ground := Ground.phase }, { on := 1, ground := Ground.phase }, { on := 2, ground := Ground.phase }, { on := 3, ground := Ground.phase }, { on := 4, ground := Ground.phase }, { on := 5, ground := Ground.phase }, { on := 6, ground := Ground.textOnly Departure.lateStores }, { on := 7, ground := Ground.textOnly Departure.lateStores }, { on := 8, ground := Ground.textOnly Departure.lateStores }, { on := 9, ground := Ground.textOnly Departure.lateStores }, { on := 10, ground := Ground.textOnly Departure.lateStores }, { on := 11, ground := Ground.textOnly Departure.lateStores }, { on := 12, ground := Ground.phase }, { on := 13, ground := Ground.phase }, { on := 14, ground := Ground.phase }, { on := 15, ground := Ground.phase }, { on := 16, ground := Ground.phase }, { on := 17, ground := Ground.phase }, { on := 18, ground := Ground.phase }, { on := 19, ground := Ground.phase }, { on := 20, ground := Ground.textOnly Departure.lateStores }, { on := 21, ground := Ground.textOnly Departure.lateStores }, { on := 22, ground := Ground.textOnly Departure.lateStores }, { on := 23, ground := Ground.textOnly Departure.lateStores }, { on := 24, ground := Ground.textOnly Departure.lateStores }, { on := 25, ground := Ground.textOnly Departure.lateStores }, { on := 26, ground := Ground.textOnly Departure.lateStoresUnsure }, { on := 27, ground := Ground.phase }], guard := none }) (v := ?_) rfl (by kernel_rfl) (by kernel_rfl) (by kernel_rfl) (fun _ _ _ h => h) (Or.inl ⟨by rfl, ?_⟩) (by assumption) ?_
          rotate_left
          · intro w hSw; (try dsimp only at hSw); go_simp; try (with_reducible rfl)
          try simp only [Act.put, List.setIfInBounds_toArray, List.set_cons_zero, List.set_cons_succ]
          refine wpAnyH_ready (rs := [29]) (by kernel_rfl) (by simp) ?_
          refine AllReadyH.cons (o := { dst := none, op := Op.store 48 (Operand.tmp 71) (Operand.tmp 62), type := 0, pos := "law.go:237", after := #[{ on := 28, ground := Ground.data }, { on := 19, ground := Ground.data }, { on := 0, ground := Ground.phase }, { on := 1, ground := Ground.phase }, { on := 2, ground := Ground.phase }, { on := 3, ground := Ground.phase }, { on := 4, ground := Ground.phase }, { on := 5, ground := Ground.phase }, { on := 6, ground := Ground.textOnly Departure.lateStores }, { on := 7, ground := Ground.textOnly Departure.lateStores }, { on := 8, ground := Ground.textOnly Departure.lateStores }, { on := 9, ground := Ground.textOnly Departure.lateStores }, { on := 10, ground := Ground.textOnly Departure.lateStores }, { on := 11, ground := Ground.textOnly Departure.lateStores }, { on := 12, ground := Ground.phase }, { on := 13, ground := Ground.phase }, { on := 14, ground := Ground.phase }, { on := 15, ground := Ground.phase }, { on := 16, ground := Ground.phase }, { on := 17, ground := Ground.phase }, { on := 18, ground := Ground.phase }, { on := 19, ground := Ground.phase }, { on := 20, ground := Ground.textOnly Departure.lateStores }, { on := 21, ground := Ground.textOnly Departure.lateStores }, { on := 22, ground := Ground.textOnly Departure.lateStores }, { on := 23, ground := Ground.textOnly Departure.lateStores }, { on := 24, ground := Ground.textOnly Departure.lateStores }, { on := 25, ground := Ground.textOnly Departure.lateStores }, { on := 26, ground := Ground.textOnly Departure.lateStoresUnsure }, { on := 27, ground := Ground.phase }], guard := none }) rfl (fun K hK => ?_) ?_
          · refine step_store6 rfl (.tmp 71) (.tmp 62) rfl a8.br (i * 6) _ _ _ _ _ _ rfl rfl HTH1.out (all_oneCell_toArray one6) ?_
            simp only [Act.put]
            refine hK.out _ _ ?_ (fun hHeld => ?_)
            · (try dsimp only); (repeat (first | (with_reducible assumption) | (with_reducible exact HFR1.out) | (with_reducible exact HFR2.out) | (with_reducible apply Fr.drew) | (with_reducible apply Fr.drewN)))
            clear hK K
            try simp only [Act.put, List.setIfInBounds_toArray, List.set_cons_zero, List.set_cons_succ]
            refine wpAnyH_take (i := 30) (oi := { dst := some 72, op := Op.indexAddr 29 (Operand.tmp 50) (Operand.tmp 54), type := 0, pos := "law.go:237", after := #[{ on := 7, ground := Ground.data }, { on := 11, ground := Ground.data }, { on := 0, ground := Ground.phase }, { on := 1, ground := Ground.phase }, { on := 2, ground := Ground.phase }, { on := 3, ground := Ground.phase }, { on := 4, ground := Ground.phase }, { on := 5, ground := Ground.phase }, { on := 6, ground := Ground.phase }, { on := 7, ground := Ground.phase }, { on := 8, ground := Ground.phase }, { on := 9, ground := Ground.phase }, { on := 10, ground := Ground.phase }, { on := 11, ground := Ground.phase }, { on := 12, ground := Ground.phase }, { on := 13, ground := Ground.phase }, { on := 14, ground := Ground.phase }, { on := 15, ground := Ground.phase }, { on := 16, ground := Ground.phase }, { on := 17, ground := Ground.phase }, { on := 18, ground := Ground.phase }, { on := 19, ground := Ground.phase }, { on := 20, ground := Ground.phase }, { on := 21, ground := Ground.phase }, { on := 22, ground := Ground.phase }, { on := 23, ground := Ground.phase }, { on := 24, ground := Ground.phase }, { on := 25, ground := Ground.phase }, { on := 26, ground := Ground.phase }, { on := 27, ground := Ground.phase }, { on := 28, ground := Ground.phase }, { on := 29, ground := Ground.phase }], guard := none }) (v := ?_) rfl (by kernel_rfl) (by kernel_rfl) (by kernel_rfl) (fun _ _ _ h => h) (Or.inl ⟨by rfl, ?_⟩) (by assumption) ?_
            rotate_left
            · intro w hSw; (try dsimp only at hSw); go_simp; try (with_reducible rfl)
            try simp only [Act.put, List.setIfInBounds_toArray, List.set_cons_zero, List.set_cons_succ]
            refine wpAnyH_ready (rs := [31]) (by kernel_rfl) (by simp) ?_
            refine AllReadyH.cons (o := { dst := none, op := Op.store 48 (Operand.tmp 72) (Operand.tmp 70), type := 0, pos := "law.go:237", after := #[{ on := 30, ground := Ground.data }, { on := 27, ground := Ground.data }, { on := 29, ground := Ground.chain }, { on := 0, ground := Ground.phase }, { on := 1, ground := Ground.phase }, { on := 2, ground := Ground.phase }, { on := 3, ground := Ground.phase }, { on := 4, ground := Ground.phase }, { on := 5, ground := Ground.phase }, { on := 6, ground := Ground.phase }, { on := 7, ground := Ground.phase }, { on := 8, ground := Ground.phase }, { on := 9, ground := Ground.phase }, { on := 10, ground := Ground.phase }, { on := 11, ground := Ground.phase }, { on := 12, ground := Ground.phase }, { on := 13, ground := Ground.phase }, { on := 14, ground := Ground.phase }, { on := 15, ground := Ground.phase }, { on := 16, ground := Ground.phase }, { on := 17, ground := Ground.phase }, { on := 18, ground := Ground.phase }, { on := 19, ground := Ground.phase }, { on := 20, ground := Ground.phase }, { on := 21, ground := Ground.phase }, { on := 22, ground := Ground.phase }, { on := 23, ground := Ground.phase }, { on := 24, ground := Ground.phase }, { on := 25, ground := Ground.phase }, { on := 26, ground := Ground.phase }, { on := 27, ground := Ground.phase }, { on := 28, ground := Ground.phase }, { on := 29, ground := Ground.phase }], guard := none }) rfl (fun K hK => ?_) ?_
            · refine step_store6 rfl (.tmp 72) (.tmp 70) rfl a8.br (k * 6) _ _ _ _ _ _ rfl rfl HTH2.out (all_oneCell_toArray one6) ?_
              simp only [Act.put]
              refine hK.out _ _ ?_ (fun hHeld => ?_)
              · (try dsimp only); (repeat (first | (with_reducible assumption) | (with_reducible exact HFR1.out) | (with_reducible exact HFR2.out) | (with_reducible apply Fr.drew) | (with_reducible apply Fr.drewN)))
              clear hK K
              try simp only [Act.put, List.setIfInBounds_toArray, List.set_cons_zero, List.set_cons_succ]
              refine wpAnyH_done (by kernel_rfl) ?_ _
              have hMW := HT1.out
              have hFW := HFR2.out
              clear HT1 HFR1 HFR2 HTH1 HTH2 kq kba kbb ks hHeld
              generalize (set6 (set6 _ _ _ _ _ _ _ _ _) _ _ _ _ _ _ _ _) = WW at hMW hFW ⊢
              go_wp2_with fail
              go_meet
              exact ⟨tr i k, Lib.hid ⟨fun j hj => tr_lt him hkm hj, fun j _ => tr_tr i k j⟩, hMW, hFW.box QB8 hqr, hFW.box BA hbr1, hFW.box BB hbr2, hFW.ext hXU (fun b hb => by rw [hb]; exact hbr)⟩
            exact AllReadyH.nil
          exact AllReadyH.nil
        exact AllReadyH.nil
      exact AllReadyH.nil
  case rest => as_aux_lemma =>
    obtain ⟨s, HS, hMc, QBc, BAc, BBc, hXc⟩ := hcut
    refine hK _ _ ?_
    clear hK hM8 QB8 BA BB hXU hE SB hz
    obtain ⟨ci, hci⟩ : ∃ i : Nat, ka % (p.n : Int) = i := ⟨(ka % (p.n : Int)).toNat, by have := HVL.out.1; have := Int.emod_nonneg ka (b := (p.n : Int)) (by omega); omega⟩
    obtain ⟨ck, hck⟩ : ∃ i : Nat, kb % (p.n : Int) = i := ⟨(kb % (p.n : Int)).toNat, by have := HVL.out.1; have := Int.emod_nonneg kb (b := (p.n : Int)) (by omega); omega⟩
    have HCI : Hid (ka % (p.n : Int) = ci ∧ kb % (p.n : Int) = ck) := Lib.hid ⟨hci, hck⟩
    have hn1 := HVL.out.1
    have HIK : Hid (ci < p.n ∧ ck < p.n) := Lib.hid (by have := Int.emod_lt_of_pos ka (show (0 : Int) < (p.n : Int) by omega); have := Int.emod_lt_of_pos kb (show (0 : Int) < (p.n : Int) by omega); omega)
    clear hci hck
    have hqA : ¬ Blk a8.Ao p.n qb := fun hb => by
      obtain ⟨b, e, hr⟩ := hMc.obj.rats.2.2 hb.1
      have e : a8.Ao = some ⟨b, 0, none⟩ := e
      rw [hb.2] at e
      injection e with e
      injection e with e
      subst e
      obtain ⟨cs', hcs⟩ := hr.cells
      exact row_ne QBc hcs (by decide) rfl
    have hmf : ∀ (fn : Fn) (first cap : Array Value) (w : World), (Instr.makeFunc fn first cap).run Tryd.prog w = .ok (.func fn first cap) w := fun _ _ _ _ => rfl
    have q0 := QBc.c0
    go_wp2_with fail
    refine (swap_b a8.Ao p.n a8.co p.obj _ _ ka kb ci ck _ hMc.obj.rats BAc.c0 BBc.c0 hka hkb HCI.out.1 HCI.out.2 hn1 (by have := HPN.out.1; omega)).mono ?_
    rintro e w12 ⟨rfl, hg12, hk12⟩
    have hM12 := hMc.objs hk12 hg12
    have hX12 : Ext U w12 := hk12.ext hXc (fun b hb => (HLT.out.1 b hb).1)
    have QB12 := hk12.box QBc hqA
    have BA12 := hk12.box BAc (fun hb => by have := (HLT.out.1 _ hb).1; have := HAB.out; omega)
    have BB12 := hk12.box BBc (fun hb => by have := (HLT.out.1 _ hb).1; have := HAB.out; omega)
    clear hMc QBc BAc BBc hXc hk12 hg12 q0
    have hM12 : MkV w12 U.heap.size (.agg #[.slice a8.Ao p.n a8.co, .slice a8.Ar p.m a8.cr]) (cpP (p.perm s) ci ck 0) (a8.perm s) := by
      have e : cpP (p.perm s) ci ck 0 = { p.perm s with obj := fun j => p.obj (tr ci ck j) } := by
        unfold cpP
        simp [Prob.perm]
      rw [e]
      exact hM12
    have q1 := QB12.c1
    obtain ⟨Am, hAm⟩ : ∃ x, x = a8.Ar := ⟨_, rfl⟩
    have HAM := Lib.hid hAm
    rw [← hAm] at q1 QB12
    clear hAm
    go_wp2_with fail
    clear q1
    go_loopw [81] (fun i wr => ∃ j : Nat, j ≤ p.m ∧ i = .int .i64 j ∧ MkV wr U.heap.size (.agg #[.slice a8.Ao p.n a8.co, .slice a8.Ar p.m a8.cr]) (cpP (p.perm s) ci ck j) (a8.perm s) ∧ Box wr qb 31 #[.slice a8.Ao p.n a8.co, .slice Am p.m a8.cr] ∧ Box wr (ab + 1) 5 #[.int .u8 ka] ∧ Box wr (ab + 1 + 1) 5 #[.int .u8 kb] ∧ Ext U wr) (fun i _ => p.m - (intOf i).toNat)
    case atStart => exact ⟨0, by omega, rfl, hM12, QB12, BA12, BB12, hX12⟩
    case round =>
      obtain ⟨j, hj, rfl, hMr, QBr, BAr, BBr, hXr⟩ := hrel
      clear hM12 QB12 BA12 BB12 hX12
      by_cases hlt : j < p.m
      · obtain ⟨hAr, -, -⟩ := hMr.blk (show 0 < p.m by omega)
        replace hAr : a8.Ar = some ⟨a8.br, 0, none⟩ := hAr
        have hAm := HAM.out.trans hAr
        clear hAr HAM
        subst hAm
        have hsj := HS.out.1 j hlt
        have hlen : (cpP (p.perm s) ci ck j).len j = p.n := (HVL.out.2.2.2 (s j) hsj).1
        have hrow := hMr.rows.row j hlt
        rw [hlen] at hrow
        obtain ⟨d0, d1, -, x1, B1, m1, c1, x1', B1', m1', c1', d2, d3, d4, d5, -⟩ := hrow
        replace d0 : wr.cell? ⟨a8.br, j * 6, none⟩ = some (.slice (a8.rA (s j)) p.n (a8.rc (s j))) := d0
        obtain ⟨rl, hrl⟩ : ∃ r : Nat, r = (cpP (p.perm s) ci ck j).rel j := ⟨_, rfl⟩
        rw [← hrl] at d1
        replace d1 : wr.cell? ⟨a8.br, j * 6 + 1, none⟩ = some (.int .u8 (rl : Int)) := d1
        replace d2 : wr.cell? ⟨a8.br, j * 6 + 2, none⟩ = some _ := d2
        replace d3 : wr.cell? ⟨a8.br, j * 6 + 3, none⟩ = some _ := d3
        replace d4 : wr.cell? ⟨a8.br, j * 6 + 4, none⟩ = some _ := d4
        replace d5 : wr.cell? ⟨a8.br, j * 6 + 5, none⟩ = some _ := d5
        have hcf : RatsV wr (a8.rA (s j)) p.n (a8.rc (s j)) (p.coef (s j)) := by
          have h1 := (hMr.rows.coef j hlt).rats
          rw [hlen] at h1
          have e : (cpP (p.perm s) ci ck j).coef j = p.coef (s j) := if_neg (Nat.lt_irrefl j)
          rw [e] at h1; exact h1
        have i1 : (0 : Int) ≤ (j : Int) := by omega
        have i2 : (j : Int) < (p.m : Int) := by omega
        clear hrl
        go_upto_region 13 with fail
        have RB := Box.new wr 48 #[.slice (a8.rA (s j)) p.n (a8.rc (s j)), .int .u8 (rl : Int), .bool x1, .slice B1 m1 c1, .bool x1', .slice B1' m1' c1']
        have hxn : Ext wr (wr.alloc (.cells #[.slice (a8.rA (s j)) p.n (a8.rc (s j)), .int .u8 (rl : Int), .bool x1, .slice B1 m1 c1, .bool x1', .slice B1' m1' c1'] 48)) := (Ext.refl wr).alloc _
        generalize (wr.alloc (.cells #[.slice (a8.rA (s j)) p.n (a8.rc (s j)), .int .u8 (rl : Int), .bool x1, .slice B1 m1 c1, .bool x1', .slice B1' m1' c1'] 48)) = X1 at *
        have r0 := RB.c0
        have hM1 := hMr.ext hxn
        have QB1 := QBr.ext hxn
        have BA1 := BAr.ext hxn
        have BB1 := BBr.ext hxn
        have hX1 := hXr.trans hxn
        have hcf1 := hcf.ext hxn
        go_wp2_with fail
        refine (swap_b (a8.rA (s j)) p.n (a8.rc (s j)) (p.coef (s j)) _ _ ka kb ci ck _ hcf1 BA1.c0 BB1.c0 hka hkb HCI.out.1 HCI.out.2 hn1 (by have := HPN.out.1; omega)).mono ?_
        rintro e w13 ⟨rfl, hg13, hk13⟩
        have hbl : ∀ k, Blk (a8.rA (s j)) p.n k → U.heap.size ≤ k ∧ k < X.heap.size := fun k hk => HLT.out.2.2 (s j) hsj k (by rw [(HVL.out.2.2.2 (s j) hsj).1]; exact hk)
        have hM2 := hM1.coefs (g := fun l => p.coef (s j) (tr ci ck l)) hlt (by rw [hlen]; exact hk13) (by rw [hlen]; exact hg13)
        have hM3 : MkV w13 U.heap.size (.agg #[.slice a8.Ao p.n a8.co, .slice a8.Ar p.m a8.cr]) (cpP (p.perm s) ci ck (j + 1)) (a8.perm s) := by
          rw [← cpP_step]; exact hM2
        have hq2 : ¬ Blk (a8.rA (s j)) p.n qb := fun hb => by
          obtain ⟨b, e, hr⟩ := hcf1.2.2 hb.1
          rw [hb.2] at e
          injection e with e
          injection e with e
          subst e
          obtain ⟨cs', hcs⟩ := hr.cells
          exact row_ne QB1 hcs (by decide) rfl
        have QB3 := hk13.box QB1 hq2
        have BA3 := hk13.box BA1 (fun hb => by have := (hbl _ hb).1; have := HAB.out; omega)
        have BB3 := hk13.box BB1 (fun hb => by have := (hbl _ hb).1; have := HAB.out; omega)
        have hX3 := hk13.ext hX1 (fun b hb => (hbl b hb).1)
        have hpm := HPN.out.2
        clear hM1 hM2 hMr QB1 BA1 BB1 hX1 hk13 hg13 hcf hcf1 RB r0 QBr BAr BBr hXr hxn
        go_wp2_with fail
        go_roundw
        case rel => exact ⟨j + 1, hlt, by go_num, hM3, QB3, BA3, BB3, hX3⟩
        case measure => first | exact meas_lt hlt | exact meas_lt' hlt | (simp [intOf]; omega)
      · obtain rfl : j = p.m := by omega
        have hAm := HAM.out
        subst hAm
        have hP2 := hMr.prob
        have h2v : (cpP (p.perm s) ci ck p.m).Valid := ⟨HVL.out.1, HVL.out.2.1, HVL.out.2.2.1, fun i hi => ⟨(HVL.out.2.2.2 (s i) (HS.out.1 i hi)).1, permutes_vrel HS.out.1 HVL.out.vrel i hi⟩⟩
        have h2b : Bnd (cpP (p.perm s) ci ck p.m) 16000000 := by
          refine (Bnd.of h2v.vrel 8 2 2 2 (.inl HPN.out.1) (by omega) (by omega) (by omega) (Nat.le_trans (bK3_mono HPN.out.2 (Nat.le_refl _) (Nat.le_refl _)) (show bK3 8 8 2 2 2 ≤ 134217728 by decide)) (fun i hi => HCF.out.2.2 _) (fun i hi l _ => ?_) (fun i hi => HCF.out.2.1 _ (HS.out.1 i hi))).up (Nat.le_trans (bK3_mono HPN.out.2 (Nat.le_refl _) (Nat.le_refl _)) (show bK3 8 8 2 2 2 ≤ 16000000 by decide)) (by omega)
          show QB 2 ((if i < p.m then (fun l => p.coef (s i) (tr ci ck l)) else p.coef (s i)) l)
          rw [if_pos (show i < p.m from hi)]; exact HCF.out.1 _ (HS.out.1 i hi) _
        have hres0 : (cpP (p.perm s) ci ck p.m).sol.err = k ∧ (cpP (p.perm s) ci ck p.m).sol.val = z := by
          have h1 : Is p.V k z := by
            have := PL.is HKZ.out.1
            rw [← HKZ.out.2.1, ← HKZ.out.2.2] at this
            exact this.congr (fun v => by rw [HPP.out]; exact (PL.V_iff _ v).symm)
          exact Is.same (Prob.is h2v.vrel) (h1.congr (fun v => (permutes_V HS.out.1 HS.out.2 HIK.out.1 HIK.out.2 v).symm))
        have H2B := Lib.hid h2b
        have HRS := Lib.hid hres0
        have H2V := Lib.hid h2v
        have SB := SBU.ext hXr
        have hz := hzU.ext hXr
        have q0 := QBr.c0
        have q1 := QBr.c1
        clear hMr h2b hres0 h2v SBU hzU BAr BBr
        go_wp2_with fail
        clear q0 q1
        refine (Solve_l _ _ 16000000 _ hP2 (fun _ => H2B.out)).mono ?_
        rintro e w9 ⟨q2, A2, n2, c2, q2', A2', n2', c2', Ax2, nx2, cx2, Ay2, ny2, cy2, k2, z2, xs2, ys2, rfl, hz2, hX2, hY2, hbx2, hby2, hres2, hx9⟩
        obtain ⟨rfl, rfl⟩ : k2 = k ∧ z2 = z := by
          rcases hres2 with ⟨h1, _⟩ | ⟨_, h1, h2, _⟩
          · rw [validB_iff.2 H2V.out] at h1; cases h1
          · exact ⟨h1.trans HRS.out.1, h2.trans HRS.out.2⟩
        clear hres2 hX2 hY2 hbx2 hby2 hP2 QBr H2B H2V
        have hX9 := hXr.trans hx9
        have SB9 := SB.ext hx9
        have hz9 := hz.ext hx9
        clear hXr hx9 SB hz
        go_upto_region 16 with fail
        have ZB := Box.new w9 39 #[.bool q2, .slice A2 n2 c2, .bool q2', .slice A2' n2' c2', .slice Ax2 nx2 cx2, .slice Ay2 ny2 cy2]
        have hx10 : Ext w9 (w9.alloc (.cells #[.bool q2, .slice A2 n2 c2, .bool q2', .slice A2' n2' c2', .slice Ax2 nx2 cx2, .slice Ay2 ny2 cy2] 39)) := (Ext.refl w9).alloc _
        generalize (w9.alloc (.cells #[.bool q2, .slice A2 n2 c2, .bool q2', .slice A2' n2' c2', .slice Ax2 nx2 cx2, .slice Ay2 ny2 cy2] 39)) = U9 at *
        obtain ⟨tb, htb⟩ : ∃ x, x = w9.heap.size := ⟨_, rfl⟩
        rw [← htb] at ZB ⊢
        clear htb
        have hX10 := (hEU.trans hX9).trans hx10
        have SB10 := SB9.ext hx10
        have hz10 := hz9.ext hx10
        have hz2 := hz2.ext hx10
        clear hX9 hx10 SB9 hz9
        have s0 := SB10.c0
        have s1 := SB10.c1
        have s2 := SB10.c2
        have s3 := SB10.c3
        have s4 : U9.cell? ⟨sb, 4, none⟩ = some (.slice Ax nx cx) := SB10.cell 4
        have s5 : U9.cell? ⟨sb, 5, none⟩ = some (.slice Ay ny cy) := SB10.cell 5
        have t0 := ZB.c0
        have t1 := ZB.c1
        have t2 := ZB.c2
        have t3 := ZB.c3
        have t4 : U9.cell? ⟨tb, 4, none⟩ = some (.slice Ax2 nx2 cx2) := ZB.cell 4
        have t5 : U9.cell? ⟨tb, 5, none⟩ = some (.slice Ay2 ny2 cy2) := ZB.cell 5
        go_wp2_with fail
        refine (same_b _ _ k2 k2 z2 z2 16000002 _ ⟨_, _, _, _, _, _, _, _, _, _, _, _, _, _, rfl, hz10⟩ ⟨_, _, _, _, _, _, _, _, _, _, _, _, _, _, rfl, hz2⟩ (by omega)).mono ?_
        rintro e w11 ⟨rfl, hx11⟩
        have e1 : ((k2 == k2) && decide (z2 = z2)) = true := by simp
        rw [e1]
        have hX11 := hX10.trans hx11
        clear e1 s0 s1 s2 s3 s4 s5 t0 t1 t2 t3 t4 t5
        go_wp2_with fail
        go_ret
        exact ⟨rfl, hX11⟩
end Go.Proofs.YtgffcblldebelaaDoor.Lp

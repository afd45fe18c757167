/- The law CertificateNone, walked. -/
import Derived.Test.YtljncdcjkdgkeaaGreatDoorCDN
import Derived.Test.YtljncdcjkdgkeaaGreatDoorCEA
import Derived.Test.YtljncdcjkdgkeaaGreatDoorCS1
import Derived.Test.YtljncdcjkdgkeaaGreatDoorLV5
import Derived.Test.YtljncdcjkdgkeaaGreatDoorLN3
import Derived.Test.YtljncdcjkdgkeaaGreatDoorRArr
import Derived.Laws.IdiomStrings
set_option linter.unusedVariables false
set_option linter.unusedSimpArgs false
namespace Go.Proofs.YtljncdcjkdgkeaaGreatDoor.Lp
open Go.RowKit Go.Proofs.YtljncdcjkdgkeaaGreatDoor.Big Go.Proofs.YtljncdcjkdgkeaaGreatDoor.Rt

theorem info8c : (Tryz.prog.info? 5).map (fun i => (i.zero, i.size, i.bytes)) = some (some (.int .u8 0), 1, 1) := by kernel_rfl
theorem feeds_get (m i : Nat) (l : List UInt8) (hl : l = List.replicate m 10) (h : i < l.length) : l[i] = 10 := by subst hl; simp
set_option maxHeartbeats 4000000 in
set_option maxRecDepth 100000 in
theorem none_any (v : Value) (ip : IP) (k : Nat) (w : World) (h : IPV w v ip) (hok : ip.ok) (hk8 : k ≤ 255) (htab : TabOK w) (hmx : MxC w) :
    Calls Tryz.prog 4 #[v, .int .u8 (k : Int)] w (ValPost w (.bool true)) := by
  have h0 := h
  obtain ⟨Ao, co, Ar, cr, rfl, -, -, -, -⟩ := h0
  obtain ⟨n0, hn0⟩ : ∃ n, n = ip.obj.length := ⟨_, rfl⟩
  obtain ⟨m0, hm0⟩ : ∃ n, n = ip.rows.length := ⟨_, rfl⟩
  obtain ⟨d0, hd0⟩ : ∃ n, n = ip.den := ⟨_, rfl⟩
  rw [← hn0, ← hm0, ← hd0] at h ⊢
  have HOK := Lib.hid hok
  clear hn0 hm0 hd0 hok
  have PBq := Box.new w 37 #[.slice Ao n0 co, .slice Ar m0 cr, .int .u8 (d0 : Int)]
  have hE : Ext w (w.alloc (.cells #[.slice Ao n0 co, .slice Ar m0 cr, .int .u8 (d0 : Int)] 37)) := (Ext.refl w).alloc _
  go_enter Tryz.func4, Tryz.ntmps4
  go_upto_region 1 with fail
  generalize (w.alloc (.cells #[.slice Ao n0 co, .slice Ar m0 cr, .int .u8 (d0 : Int)] 37)) = V at *
  obtain ⟨ab, hab⟩ : ∃ x, x = w.heap.size := ⟨_, rfl⟩
  rw [← hab] at PBq ⊢
  clear hab
  go_wp2_with fail
  refine (awake_c _ (htab.ext hE)).mono ?_
  rintro e w1 ⟨rfl, hx1⟩
  have hE1 := hE.trans hx1
  have PB1 := PBq.ext hx1
  have c0 := PB1.c0
  have c1 := PB1.c1
  have c2 := PB1.c2
  clear hx1 hE
  go_wp2_with fail
  refine (Make_b _ ip _ (h.ext hE1) HOK.out).mono ?_
  rintro e w2 ⟨v2, a, rfl, hM, hx2⟩
  have hE2 := hE1.trans hx2
  have hP := hM.prob
  have hv := hM.val
  clear hM c0 c1 c2 PB1 PBq hE1 hx2
  obtain ⟨p, hp⟩ : ∃ p, p = ip.pl.toP := ⟨_, rfl⟩
  have HO : Hid (∀ j, j < p.n → QB 2 (p.obj j)) := Lib.hid (fun j _ => by rw [hp]; exact IP.obj_b HOK.out j)
  rw [← hp] at hP hv
  clear hp
  obtain ⟨Ap, hAp⟩ : ∃ x, x = a.Ao := ⟨_, rfl⟩
  obtain ⟨cp, hcp⟩ : ∃ x, x = a.co := ⟨_, rfl⟩
  obtain ⟨Aq, hAq⟩ : ∃ x, x = a.Ar := ⟨_, rfl⟩
  obtain ⟨cq, hcq⟩ : ∃ x, x = a.cr := ⟨_, rfl⟩
  rw [← hAp, ← hcp, ← hAq, ← hcq] at hv
  clear hAp hcp hAq hcq
  subst hv
  go_upto_region 4 with fail
  have PB := Box.new w2 41 #[.slice Ap p.n cp, .slice Aq p.m cq]
  have hy : Ext w2 (w2.alloc (.cells #[.slice Ap p.n cp, .slice Aq p.m cq] 41)) := (Ext.refl w2).alloc _
  generalize (w2.alloc (.cells #[.slice Ap p.n cp, .slice Aq p.m cq] 41)) = V2 at *
  obtain ⟨pb, hpb⟩ : ∃ x, x = w2.heap.size := ⟨_, rfl⟩
  rw [← hpb] at PB ⊢
  clear hpb
  have hP := hP.ext hy
  have hE2 := hE2.trans hy
  clear hy
  have q0 := PB.c0
  have q1 := PB.c1
  go_wp2_with fail
  refine (small_b _ p _ hP).mono ?_
  rintro e w5 ⟨rfl, hx5⟩
  have PB5 := PB.ext hx5
  have hP5 := hP.ext hx5
  have hE5 := hE2.trans hx5
  clear q0 q1 PB hP hE2 hx5
  obtain ⟨F, hF⟩ : ∃ F, F = smallB p := ⟨_, rfl⟩
  rw [← hF]
  clear hF
  cases F with
  | false =>
    simp only [Bool.false_eq_true, if_false]
    go_wp2_with fail
    go_ret
    exact ⟨rfl, hE5⟩
  | true =>
  simp only [if_true]
  go_wp2_with fail
  refine (encode_nil _).mono ?_
  rintro e w6 ⟨rfl, hx6⟩
  go_wp2_with fail
  refine (decode_none _ ((hmx.later hE5).later hx6)).mono ?_
  rintro e w7 ⟨rfl, hx7⟩
  have PB7 := (PB5.ext hx6).ext hx7
  have hP7 := (hP5.ext hx6).ext hx7
  have hE7 := (hE5.trans hx6).trans hx7
  clear PB5 hP5 hE5 hx6 hx7
  obtain ⟨m, hm⟩ : ∃ m : Nat, (65537 : Int) + (k : Int) = (m : Int) := ⟨65537 + k, by omega⟩
  have m0 : 65537 ≤ m := by omega
  have m1 : m ≤ 65800 := by omega
  go_wp2_with (at_make; refine wpList_makeK .u8 1 _ rfl _ _ 44 rfl 5 Tryz.underlying44 info8c (by decide) _ _ rfl rfl m (by omega) (by omega) (by omega) ?_; intro w8 harr hx8)
  clear hm
  go_loopw [11] (fun i wr => ∃ j : Nat, j ≤ m ∧ i = .int .i64 j ∧ (∃ f, ArrK .u8 wr w7.heap.size m 5 f ∧ ∀ i, i < j → f i = 10) ∧ Ext w7 wr) (fun i _ => m - (intOf i).toNat)
  case atStart => exact ⟨0, by omega, rfl, ⟨_, harr, fun i hi => absurd hi (by omega)⟩, hx8⟩
  case round =>
    obtain ⟨j, hj, rfl, ⟨f, ha, hf⟩, hX⟩ := hrel
    by_cases hlt : j < m
    · have hco := ha.cell hlt
      have hfo := ha.frozen j
      go_wp2_with fail
      go_roundw
      case rel =>
        refine ⟨j + 1, by omega, by go_num, ⟨_, (ha.set j 10).congr (fun _ _ => rfl), fun i hi => ?_⟩, hX.set (Nat.le_refl _) _⟩
        by_cases hij : i = j
        · simp [hij]
        · simp [hij]; exact hf i (by omega)
      case measure => simp [intOf]; omega
    · obtain rfl : j = m := by omega
      have hcell : ∀ i, i < j → wr.cell? ⟨w7.heap.size, i, none⟩ = some (.int .u8 10) := fun i hi => by rw [ha.cell hi, hf i hi]; rfl
      obtain ⟨l, hl⟩ : ∃ l : List UInt8, l = List.replicate j 10 := ⟨_, rfl⟩
      have hll : l.length = j := by rw [hl]; simp
      have cv := run_convert_bytes_back (P := Tryz.prog) wr 44 9 5 ⟨w7.heap.size, 0, none⟩ j l Tryz.underlying44 Tryz.underlying5 Tryz.underlying9 (fun i hi => by
          rw [hll] at hi
          rw [Lib.add_plain, Nat.zero_add, hcell i hi, feeds_get j i l hl]; rfl)
      rw [hll] at cv
      obtain ⟨S, hS⟩ : ∃ S : ByteArray, S = ⟨l.toArray⟩ := ⟨_, rfl⟩
      rw [← hS] at cv
      have hSs : 65536 < S.size := by
        have : S.size = j := by rw [hS]; simpa [ByteArray.size] using hll
        omega
      have HSs := Lib.hid hSs
      have PBr := PB7.ext hX
      have hPr := hP7.ext hX
      have hEr := hE7.trans hX
      clear ha hf hS hcell hl hll hSs hX hx8 PB7 hP7 hE7
      go_wp2_with fail
      refine (decode_long S _ HSs.out).mono ?_
      rintro e w9 ⟨rfl, hx9⟩
      have PB9 := PBr.ext hx9
      have hP9 := hPr.ext hx9
      have hE9 := hEr.trans hx9
      have q0 := PB9.c0
      have q1 := PB9.c1
      clear cv PBr hPr hEr
      go_wp2_with fail
      refine (check_nil _ p 0 2 _ hP9 (by omega) (by omega) (by decide) HO.out).mono ?_
      rintro e w10 ⟨rfl, hx10⟩
      go_wp2_with fail
      go_ret
      exact ⟨rfl, hE9.trans hx10⟩
end Go.Proofs.YtljncdcjkdgkeaaGreatDoor.Lp

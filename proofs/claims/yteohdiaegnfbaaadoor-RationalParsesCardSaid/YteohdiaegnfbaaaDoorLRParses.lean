/- Walks: the reference's Parse of rational numbers; the law RationalParses. -/
import Derived.Test.YteohdiaegnfbaaaDoorF3
import Derived.Test.YteohdiaegnfbaaaDoorT10
set_option linter.unusedVariables false
set_option linter.unusedSimpArgs false
namespace Go.Proofs.YteohdiaegnfbaaaDoor.Ten
open Go.RowKit Go.Proofs.YteohdiaegnfbaaaDoor.Big Go.Proofs.YteohdiaegnfbaaaDoor.Rt
open Go.Lib (itoa)
attribute [local go_sem ↓] Go.wp_at_zero Go.wp_at_succ

/-- where the first slash stands, or the length -/
def slashAt (l : List UInt8) : Nat := (Lib.cut l [47]).1.length
theorem slash_facts (l : List UInt8) : slashAt l ≤ l.length ∧ (∀ j (h : j < l.length), j < slashAt l → l[j] ≠ 47) ∧ (∀ (h : slashAt l < l.length), l[slashAt l] = 47) ∧
    (decide (slashAt l < l.length) = (Lib.cut l [47]).2.2) ∧ l.take (slashAt l) = (Lib.cut l [47]).1 ∧ ((Lib.cut l [47]).2.2 = true → l.drop (slashAt l + 1) = (Lib.cut l [47]).2.1) := by
  unfold slashAt
  rcases cut_cases l with ⟨h, e⟩ | ⟨a, b, ha, rfl, e⟩
  · rw [e]
    refine ⟨Nat.le_refl _, fun j hj _ hc => h (hc ▸ List.getElem_mem hj), fun h => absurd h (Nat.lt_irrefl _), by simp, by simp, fun h => by cases h⟩
  · rw [e]
    refine ⟨by simp, fun j hj hja hc => ?_, fun h => ?_, by simp, by simp, fun _ => by simp⟩
    · rw [List.getElem_append_left (by simpa using hja)] at hc
      exact ha (hc ▸ List.getElem_mem _)
    · simp

theorem BT_redP {L : Nat} {n d : Int} (hn : BT L n) (hd : BT L d) (h : d ≠ 0) : BT L (Rat.divInt n d).num ∧ BT L ((Rat.divInt n d).den : Int) := by
  have key : ∀ n d : Int, BT L n → BT L d → 0 < d → BT L (Rat.divInt n d).num ∧ BT L ((Rat.divInt n d).den : Int) := by
    intro n d hn hd h
    obtain ⟨a, b⟩ := red_pos (n := n) h
    exact ⟨by rw [a]; exact BT_tdiv _ hn, by rw [b]; exact BT_tdiv _ hd⟩
  rcases Int.lt_or_lt_of_ne h with h | h
  · rw [← Rat.neg_divInt_neg]; exact key _ _ (BT_neg hn) (BT_neg hd) (by omega)
  · exact key _ _ hn hd h
theorem parse_boundTL {l : List UInt8} {k : Nat} (h1 : l.length ≤ k) (h2 : isDec l = true) : BT k (parseZ l) := by
  have h3 : digs (rest l) = true := by
    unfold isDec at h2
    simp only [Bool.and_eq_true] at h2
    exact h2.1.2
  unfold BT parseZ
  rw [sgn_natAbs]
  have h4 := valD_lt h3
  have h6 := rest_len l
  exact Nat.lt_of_lt_of_le h4 (Nat.pow_le_pow_right (by omega) (by omega))
theorem take_extract (s : ByteArray) (p : Nat) : (s.extract 0 p).data.toList = s.data.toList.take p := by
  simp [ByteArray.data_extract]
theorem FText_n' (x : Value) (q : Rat) (L : Nat) (w : World) (S : ByteArray) (hS : S = ⟨(ratText q).toArray⟩) (hx : FracV w x q) (bn : BT L q.num) (bd : BT L (q.den : Int)) (hL0 : 0 < L) (hL : L ≤ 10000000000) : Calls Tryd.prog 31 #[x] w (fun e w' => e = .returned (.string S) ∧ Ext w w') := by
  subst hS; exact FText_any x q L w hx bn bd hL0 hL
theorem BT_one {L : Nat} (h : 0 < L) : BT L 1 := Nat.lt_of_lt_of_le (show Int.natAbs 1 < pt 1 by decide) (pt_mono h)
theorem toList_eq' (l : List UInt8) : (⟨l.toArray⟩ : ByteArray).toList = l := by rw [Lib.toList_data]

set_option maxRecDepth 100000 in
set_option maxHeartbeats 8000000 in
theorem FParse_any (s : ByteArray) (w : World) (hs : s.size ≤ 200) : Calls Tryd.prog 16 #[.string s] w (fun e w' => ∃ v, e = .returned (.tuple #[v, .bool (isRat s.data.toList)]) ∧ (∃ s1 A n c s2 A' n' c', v = .agg #[.int .i64 s1, .slice A n c, .int .i64 s2, .slice A' n' c']) ∧ (isRat s.data.toList = true → FracV w' v (parseQ s.data.toList)) ∧ Ext w w') := by
  obtain ⟨l, hl⟩ : ∃ l, l = s.data.toList := ⟨_, rfl⟩
  have hll : l.length = s.size := by rw [hl]; rfl
  obtain ⟨P, hP⟩ : ∃ P, P = slashAt l := ⟨_, rfl⟩
  obtain ⟨f1, f2, f3, f4, f5, f6⟩ := slash_facts l
  rw [← hP] at f1 f2 f3 f4 f5 f6
  rw [hll] at f1 f4
  have F2 : Hid (∀ j (h : j < s.size), j < P → (s[j]'h).toNat ≠ 47) := Lib.hid (fun j h hj hc => f2 j (by rw [hll]; exact h) hj (by
    subst hl
    exact UInt8.toNat_inj.1 hc))
  have F3 : Hid (∀ (h : P < s.size), (s[P]'h).toNat = 47) := Lib.hid (fun h => by
    subst hl
    have := f3 (by rw [hll]; exact h)
    exact congrArg UInt8.toNat this)
  rw [← hl]
  obtain ⟨fb, hfb⟩ : ∃ b, b = (Lib.cut l [47]).2.2 := ⟨_, rfl⟩
  obtain ⟨la, hla⟩ : ∃ b, b = (Lib.cut l [47]).1 := ⟨_, rfl⟩
  obtain ⟨lb, hlb⟩ : ∃ b, b = (Lib.cut l [47]).2.1 := ⟨_, rfl⟩
  rw [← hfb] at f4 f6
  rw [← hla] at f5
  rw [← hlb] at f6
  have hiff := isRat_iff l
  obtain ⟨R, hRR⟩ : ∃ R, R = isRat l := ⟨_, rfl⟩
  obtain ⟨q, hqq⟩ : ∃ q, q = parseQ l := ⟨_, rfl⟩
  have hlal : la.length ≤ 200 := by rw [← f5, List.length_take]; omega
  have hlbl : fb = true → lb.length ≤ 200 := fun h => by rw [← f6 h, List.length_drop]; omega
  have HLBL := Lib.hid hlbl
  have hQ : parseQ l = Rat.divInt (parseZ la) (if fb then parseZ lb else 1) := by unfold parseQ; rw [← hfb, ← hla, ← hlb]
  rw [← hfb, ← hla, ← hlb, ← hRR, ← hqq] at hiff
  rw [← hqq] at hQ
  have hql : R = true → ratText q = l := fun h => by rw [hqq]; exact text_parse (hRR.symm.trans h)
  have HQL := Lib.hid hql
  rw [← hRR, ← hqq]
  have HIFF := Lib.hid hiff
  have HQ := Lib.hid hQ
  have F4 := Lib.hid f4
  have F5 := Lib.hid f5
  have F6 := Lib.hid f6
  have HL := Lib.hid hl
  have HLL := Lib.hid hll
  obtain ⟨S, hS⟩ : ∃ S : ByteArray, S = ⟨(ratText q).toArray⟩ := ⟨_, rfl⟩
  have hSeq : (S.toList == s.toList) = decide (ratText q = l) := by
    rw [hS, toList_eq', Lib.toList_data, ← hl]
    by_cases h : ratText q = l
    · rw [h]; simp
    · rw [decide_eq_false h, beq_eq_false_iff_ne]; exact h
  have HSEQ := Lib.hid hSeq
  have HS := Lib.hid hS
  clear f2 f3 f4 f5 f6 hiff hQ hfb hla hlb hP hl hll hRR hqq hS hSeq hlbl hql
  have hE0 : Ext w (w.alloc (.cells #[.int .i64 0, .slice none 0 0, .int .i64 0, .slice none 0 0] 41)) := (Ext.refl w).alloc _
  have B2 := Box.new w 41 #[.int .i64 0, .slice none 0 0, .int .i64 0, .slice none 0 0]
  go_enter Tryd.func16, Tryd.ntmps16
  go_wp2_with fail
  generalize (w.alloc (.cells #[.int .i64 0, .slice none 0 0, .int .i64 0, .slice none 0 0] 41)) = W0 at *
  go_loop [4, 5] (fun a i => ∃ j p : Nat, j ≤ s.size ∧ i = .int .i64 j ∧ a = .int .i64 p ∧ Hid (p = if P < j then P else s.size)) (fun _ i => s.size - (intOf i).toNat)
  case atStart => exact ⟨0, s.size, by omega, rfl, rfl, Lib.hid (by rw [if_neg (by omega)])⟩
  case round =>
    obtain ⟨j, p, hj, rfl, rfl, HPj⟩ := hrel
    by_cases hlt : j < s.size
    · have hpp := HPj.out
      by_cases h47 : (s[j]'hlt).toNat = 47
      · have e1 : ((((s[j]'hlt).toNat : Nat) : Int) == 47) = true := by rw [h47]; rfl
        by_cases hPj : P < j
        · have hp : p = P := by rw [hpp, if_pos hPj]
          have e2 : ((p : Int) == (s.size : Int)) = false := by
            rw [hp, beq_eq_false_iff_ne]; omega
          have HN := Lib.hid (show p = if P < j + 1 then P else s.size by rw [hp, if_pos (by omega)])
          clear hpp hp h47 hPj
          go_wp2_with fail
          go_round
          case rel => exact ⟨j + 1, p, by omega, by go_num, rfl, HN⟩
          case measure => simp [intOf]; omega
        · have hPe : P = j := by
            rcases Nat.lt_or_ge j P with h | h
            · exact absurd h47 (F2.out j hlt h)
            · omega
          have e2 : ((p : Int) == (s.size : Int)) = true := by
            rw [hpp, if_neg hPj]; simp
          have HN := Lib.hid (show j = if P < j + 1 then P else s.size by rw [if_pos (by omega), hPe])
          clear hpp h47 hPj hPe
          go_wp2_with fail
          go_round
          case rel => exact ⟨j + 1, j, by omega, by go_num, rfl, HN⟩
          case measure => simp [intOf]; omega
      · have e1 : ((((s[j]'hlt).toNat : Nat) : Int) == 47) = false := by
          rw [beq_eq_false_iff_ne]; omega
        have hne : P ≠ j := fun e => h47 (by subst e; exact F3.out hlt)
        have HN := Lib.hid (show p = if P < j + 1 then P else s.size by
          rw [hpp]
          by_cases h : P < j
          · rw [if_pos h, if_pos (by omega)]
          · rw [if_neg h, if_neg (by omega)])
        clear hpp h47 hne
        go_wp2_with fail
        go_round
        case rel => exact ⟨j + 1, p, by omega, by go_num, rfl, HN⟩
        case measure => simp [intOf]; omega
    · obtain rfl : j = s.size := by omega
      have hp : p = P := by
        rw [HPj.out]
        by_cases h : P < s.size
        · rw [if_pos h]
        · rw [if_neg h]; omega
      subst hp
      clear HPj hlt
      go_wp2_with fail
      have hE := hE0
      obtain ⟨SA, hSA⟩ : ∃ S : ByteArray, S = s.extract 0 p := ⟨_, rfl⟩
      have hSl : SA.data.toList = la := by rw [hSA, take_extract, ← HL.out, F5.out]
      have hSs : SA.size ≤ 200 := by
        have h1 : SA.data.toList.length = SA.size := rfl
        rw [hSl] at h1; omega
      rw [← hSA]
      have HSL := Lib.hid hSl
      clear hSA hSl
      refine (Ten.Parse_any SA _ (by omega)).mono ?_
      rintro e x1 ⟨v1, N, rfl, hN, hNv, -, hx1⟩
      rw [HSL.out] at hNv ⊢
      obtain ⟨da, hda⟩ : ∃ b, b = isDec la := ⟨_, rfl⟩
      rw [← hda] at hNv ⊢
      have HDA := Lib.hid hda
      have HNV := Lib.hid hNv
      clear hda hNv
      obtain ⟨s1, A1, n1, c1, rfl, -⟩ := hN.shape
      go_upto_region 8 with fail
      have hy1 : Ext x1 (x1.alloc (.cells #[.int .i64 s1, .slice A1 n1 c1] 39)) := (Ext.refl x1).alloc _
      have B6 := Box.new x1 39 #[.int .i64 s1, .slice A1 n1 c1]
      have hxy := hx1.trans hy1
      have hN := hN.ext hy1
      have B2 := B2.ext hxy
      have hE := hE.trans hxy
      generalize (x1.alloc (.cells #[.int .i64 s1, .slice A1 n1 c1] 39)) = Y1 at *
      clear hx1 hy1 hxy
      go_wp2_with fail
      refine (one_any _).mono ?_
      rintro e x2 ⟨v2, rfl, hO, hx2⟩
      obtain ⟨s2, A2, n2, c2, rfl, hs2⟩ := hO.shape
      have HS2 := Lib.hid hs2
      clear hs2
      go_upto_region 9 with fail
      have hy2 : Ext x2 (x2.alloc (.cells #[.int .i64 s2, .slice A2 n2 c2] 39)) := (Ext.refl x2).alloc _
      have B8 := Box.new x2 39 #[.int .i64 s2, .slice A2 n2 c2]
      have hlt2 := (B2.ext hx2).lt
      have hlt6 := (B6.ext hx2).lt
      have hxy := hx2.trans hy2
      have hO := hO.ext hy2
      have hN := hN.ext hxy
      have B2 := B2.ext hxy
      have B6 := B6.ext hxy
      have hE := hE.trans hxy
      generalize (x2.alloc (.cells #[.int .i64 s2, .slice A2 n2 c2] 39)) = Y2 at *
      clear hx2 hy2 hxy hE0
      have m1 : ¬ w.heap.size = x2.heap.size := by omega
      have m2 : ¬ x2.heap.size = w.heap.size := by omega
      have m3 : ¬ x1.heap.size = x2.heap.size := by omega
      have m4 : ¬ x2.heap.size = x1.heap.size := by omega
      have hRd : da = false → R = false := fun h => by
        have h1 := HIFF.out
        cases R with
        | false => rfl
        | true =>
          rcases h1.1 rfl with h2 | h2
          · have := HDA.out; rw [h2.2, h] at this; cases this
          · have := HDA.out; rw [h2.2.1, h] at this; cases this
      cases da
      case false =>
        have HRf := Lib.hid (hRd rfl)
        clear hRd
        have hq0 := B2.c0
        have hq1 := B2.c1
        have hq2 := B2.c2
        have hq3 := B2.c3
        have hf0 := B2.frozen 0
        have hf1 := B2.frozen 1
        have hf2 := B2.frozen 2
        have hf3 := B2.frozen 3
        go_wp2_with fail
        have pb := B2.set4 (.int .i64 0) (.slice none 0 0) (.int .i64 0) (.slice none 0 0)
        have pc0 := pb.c0
        have pc1 := pb.c1
        have pc2 := pb.c2
        have pc3 := pb.c3
        refine bodyPost_ret (v := .tuple #[.agg #[.int .i64 0, .slice none 0 0, .int .i64 0, .slice none 0 0], .bool false]) (by simp [results, Tryd.results16, go_sem, pc0, pc1, pc2, pc3]) rfl ?_
        exact ⟨_, by rw [HRf.out], ⟨_, _, _, _, _, _, _, _, rfl⟩, fun h => absurd (h.symm.trans HRf.out) (by decide), (((hE.set (by simp) _).set (by simp) _).set (by simp) _).set (by simp) _⟩
      have tN : BT 200 N := by rw [HNV.out rfl]; exact parse_boundTL hlal HDA.out.symm
      clear hRd
      have e3 : decide ((p : Int) < (s.size : Int)) = fb := by rw [← F4.out]; simp
      have e3n : decide (p < s.size) = fb := F4.out
      have hNs : N = parseZ la := HNV.out rfl
      have HNS := Lib.hid hNs
      clear hNs
      have q60 := B6.c0
      have q61 := B6.c1
      have q80 := B8.c0
      have q81 := B8.c1
      cases fb
      case false =>
        have hps : s.size ≤ p := by have := F4.out; simpa using this
        have e4 : decide (0 < s2) = true := by rw [HS2.out]; rfl
        have hRt : R = true := by
          have := HIFF.out.2 (.inl ⟨rfl, HDA.out.symm⟩); exact this
        have HQD := Lib.hid (show q = Rat.divInt N 1 by rw [HQ.out, HNS.out]; rfl)
        have eS : (S.toList == s.toList) = R := by
          rw [HSEQ.out, hRt, HQL.out (by rw [hRt]), decide_eq_true rfl]
        clear hRt
        go_wp2_with fail
        refine (FMake_any _ _ N 1 200 _ hN hO tN (BT_one (by decide)) (by decide) (by decide)).mono ?_
        rintro e x5 ⟨v5, rfl, hfr, hx5⟩
        rw [← HQD.out] at hfr
        obtain ⟨s5, A5, n5, c5, s6, A6, n6, c6, rfl, hf1, hf2⟩ := hfr
        go_upto_region 15 with fail
        have hy5 : Ext x5 (x5.alloc (.cells #[.int .i64 s5, .slice A5 n5 c5, .int .i64 s6, .slice A6 n6 c6] 41)) := (Ext.refl x5).alloc _
        have B9 := Box.new x5 41 #[.int .i64 s5, .slice A5 n5 c5, .int .i64 s6, .slice A6 n6 c6]
        have hxy := hx5.trans hy5
        have hf1 := hf1.ext hy5
        have hf2 := hf2.ext hy5
        have hlt := (B2.ext hx5).lt
        have B2 := B2.ext hxy
        have hE := hE.trans hxy
        generalize (x5.alloc (.cells #[.int .i64 s5, .slice A5 n5 c5, .int .i64 s6, .slice A6 n6 c6] 41)) = Y5 at *
        clear hx5 hy5 hxy
        have ks := KE.start (R := [w.heap.size]) hE (by simp)
        have kb9 : x5.heap.size ∉ [w.heap.size] := by simp; omega
        have k90 : ∀ w', KE [w.heap.size] w Y5 w' → w'.cell? ⟨x5.heap.size, 0, none⟩ = some (.int .i64 s5) := fun w' h => (h.bx B9 kb9).c0
        have k91 : ∀ w', KE [w.heap.size] w Y5 w' → w'.cell? ⟨x5.heap.size, 1, none⟩ = some (.slice A5 n5 c5) := fun w' h => (h.bx B9 kb9).c1
        have k92 : ∀ w', KE [w.heap.size] w Y5 w' → w'.cell? ⟨x5.heap.size, 2, none⟩ = some (.int .i64 s6) := fun w' h => (h.bx B9 kb9).c2
        have k93 : ∀ w', KE [w.heap.size] w Y5 w' → w'.cell? ⟨x5.heap.size, 3, none⟩ = some (.slice A6 n6 c6) := fun w' h => (h.bx B9 kb9).c3
        obtain ⟨tq1, tq2⟩ := BT_redP tN (BT_one (by decide)) (by decide)
        rw [← HQD.out] at tq1 tq2
        have hfv : FracV Y5 _ q := ⟨_, _, _, _, _, _, _, _, rfl, hf1, hf2⟩
        go_region_held3 (fun w' => KE [w.heap.size] w Y5 w') ((repeat (first | assumption | apply KE.drew | apply KE.drewN | apply KE.alloc | (refine KE.set ?_ (by simp) _) | (refine KE.step ?_ (by assumption))))) (first
          | (go_at_call 31; (with_reducible refine (FText_n' _ q 200 _ S HS.out (hfv.ext (Ext.refl _).drew) tq1 tq2 (by decide) (by decide)).mono ?_); rintro e wk ⟨rfl, hxk⟩; (have b2 := B2.drew.ext hxk); have q0 := b2.c0; have q1 := b2.c1; have q2 := b2.c2; have q3 := b2.c3; have f0 := b2.frozen 0; have f1 := b2.frozen 1; have f2 := b2.frozen 2; have f3 := b2.frozen 3)
          )
        all_goals go_wp2_with fail
        all_goals (
          obtain ⟨pp, pb⟩ := FracV.put (hf1.ext (drew_of hxk)) (hf2.ext (drew_of hxk)) b2
          have pc0 := pb.c0
          have pc1 := pb.c1
          have pc2 := pb.c2
          have pc3 := pb.c3
          refine bodyPost_ret (v := .tuple #[.agg #[.int .i64 s5, .slice A5 n5 c5, .int .i64 s6, .slice A6 n6 c6], .bool R]) (by simp [results, Tryd.results16, go_sem, pc0, pc1, pc2, pc3]) rfl ?_
          exact ⟨_, rfl, ⟨_, _, _, _, _, _, _, _, rfl⟩, fun _ => pp, KE.ext (R := [w.heap.size]) (W0 := Y5) (by assumption)⟩)
      case true =>
        clear hO
        have hps : p < s.size := by have := F4.out; simpa using this
        obtain ⟨SB, hSB⟩ : ∃ S : ByteArray, S = s.extract (p + 1) s.size := ⟨_, rfl⟩
        have hSBl : SB.data.toList = lb := by rw [hSB, Lib.extract_to_end, ← HL.out, F6.out rfl]
        have hSBs : SB.size ≤ 200 := by
          have h1 : SB.data.toList.length = SB.size := rfl
          have h2 := HLBL.out rfl
          rw [hSBl] at h1; omega
        have HSBL := Lib.hid hSBl
        have hI : R = true ↔ (isDec lb = true ∧ 0 < parseZ lb ∧ ratText q = l) := by
          constructor
          · intro h
            rcases HIFF.out.1 h with h2 | h2
            · cases h2.1
            · exact ⟨h2.2.2.1, h2.2.2.2.1, h2.2.2.2.2⟩
          · rintro ⟨h1, h2, h3⟩
            exact HIFF.out.2 (.inr ⟨rfl, HDA.out.symm, h1, h2, h3⟩)
        have HI := Lib.hid hI
        have hlb2 : lb.length ≤ 200 := HLBL.out rfl
        have hQD : q = Rat.divInt N (parseZ lb) := by rw [HQ.out, HNS.out]; rfl
        have HQD0 := Lib.hid hQD
        clear hI hQD
        have hSB' : s.extract (p + 1) s.size = SB := hSB.symm
        clear hSBl hSB
        go_wp2_with fail
        refine (Ten.Parse_any SB _ (by omega)).mono ?_
        rintro e x3 ⟨v3, D, rfl, hD, hDv, -, hx3⟩
        rw [HSBL.out] at hDv ⊢
        obtain ⟨db, hdb⟩ : ∃ b, b = isDec lb := ⟨_, rfl⟩
        rw [← hdb] at hDv ⊢
        have HDB := Lib.hid hdb
        have HDV := Lib.hid hDv
        clear hdb hDv
        obtain ⟨s3, A3, n3, c3, rfl, hs3⟩ := hD.shape
        have HS3 := Lib.hid hs3
        clear hs3
        have D8 := B8.ext hx3
        have u0 := D8.c0
        have u1 := D8.c1
        have g0 := D8.frozen 0
        have g1 := D8.frozen 1
        go_upto_region 11 with fail
        have hN := (hN.ext hx3).s2 D8 (.int .i64 s3) (.slice A3 n3 c3)
        have hD := hD.s2 D8 (.int .i64 s3) (.slice A3 n3 c3)
        have B2 := Box.f2 (B2.ext hx3) (show w.heap.size ≠ x2.heap.size from m1) (.int .i64 s3) (.slice A3 n3 c3)
        have B6 := Box.f2 (B6.ext hx3) (show x1.heap.size ≠ x2.heap.size from m3) (.int .i64 s3) (.slice A3 n3 c3)
        have hle : w.heap.size ≤ x2.heap.size := by omega
        have hE := ((hE.trans hx3).set (p := ⟨x2.heap.size, 0, none⟩) hle (.int .i64 s3)).set (p := ⟨x2.heap.size, 1, none⟩) hle (.slice A3 n3 c3)
        have B8 := D8.put2 (.int .i64 s3) (.slice A3 n3 c3)
        generalize ((x3.setCell ⟨x2.heap.size, 0, none⟩ (.int .i64 s3)).setCell ⟨x2.heap.size, 1, none⟩ (.slice A3 n3 c3)) = Y3 at *
        clear D8 u0 u1 g0 g1 hx3 q60 q61 q80 q81
        have q60 := B6.c0
        have q61 := B6.c1
        have q80 := B8.c0
        have q81 := B8.c1
        cases db
        case false =>
          have HRf := Lib.hid (show R = false by
            cases hR : R with
            | false => rfl
            | true =>
              have h2 := HI.out.1 hR
              have := HDB.out; rw [h2.1] at this; cases this)
          have hq0 := B2.c0
          have hq1 := B2.c1
          have hq2 := B2.c2
          have hq3 := B2.c3
          have hf0 := B2.frozen 0
          have hf1 := B2.frozen 1
          have hf2 := B2.frozen 2
          have hf3 := B2.frozen 3
          go_wp2_with fail
          have pb := B2.set4 (.int .i64 0) (.slice none 0 0) (.int .i64 0) (.slice none 0 0)
          have pc0 := pb.c0
          have pc1 := pb.c1
          have pc2 := pb.c2
          have pc3 := pb.c3
          refine bodyPost_ret (v := .tuple #[.agg #[.int .i64 0, .slice none 0 0, .int .i64 0, .slice none 0 0], .bool false]) (by simp [results, Tryd.results16, go_sem, pc0, pc1, pc2, pc3]) rfl ?_
          exact ⟨_, by rw [HRf.out], ⟨_, _, _, _, _, _, _, _, rfl⟩, fun h => absurd (h.symm.trans HRf.out) (by decide), (((hE.set (by simp) _).set (by simp) _).set (by simp) _).set (by simp) _⟩
        case true =>
          have hDs := HDV.out rfl
          have tD : BT 200 D := by rw [hDs]; exact parse_boundTL hlb2 HDB.out.symm
          by_cases hD0 : 0 < D
          · have e4 : decide (0 < s3) = true := by rw [HS3.out, Int.sign_eq_one_of_pos hD0]; rfl
            have HQD := Lib.hid (show q = Rat.divInt N D by rw [HQD0.out, hDs])
            have HD0 := Lib.hid (show D ≠ 0 by omega)
            have eS : (S.toList == s.toList) = R := by
              rw [HSEQ.out]
              cases hR : R with
              | true => rw [(HI.out.1 hR).2.2, decide_eq_true rfl]
              | false =>
                refine decide_eq_false (fun h => ?_)
                have := HI.out.2 ⟨HDB.out.symm, by rw [← hDs]; exact hD0, h⟩
                rw [hR] at this; cases this
            clear hDs hD0
            go_wp2_with fail
            refine (FMake_any _ _ N D 200 _ hN hD tN tD (by decide) HD0.out).mono ?_
            rintro e x5 ⟨v5, rfl, hfr, hx5⟩
            rw [← HQD.out] at hfr
            obtain ⟨s5, A5, n5, c5, s6, A6, n6, c6, rfl, hf1, hf2⟩ := hfr
            go_upto_region 15 with fail
            have hy5 : Ext x5 (x5.alloc (.cells #[.int .i64 s5, .slice A5 n5 c5, .int .i64 s6, .slice A6 n6 c6] 41)) := (Ext.refl x5).alloc _
            have B9 := Box.new x5 41 #[.int .i64 s5, .slice A5 n5 c5, .int .i64 s6, .slice A6 n6 c6]
            have hxy := hx5.trans hy5
            have hf1 := hf1.ext hy5
            have hf2 := hf2.ext hy5
            have hlt := (B2.ext hx5).lt
            have B2 := B2.ext hxy
            have hE := hE.trans hxy
            generalize (x5.alloc (.cells #[.int .i64 s5, .slice A5 n5 c5, .int .i64 s6, .slice A6 n6 c6] 41)) = Y5 at *
            clear hx5 hy5 hxy
            have ks := KE.start (R := [w.heap.size]) hE (by simp)
            have kb9 : x5.heap.size ∉ [w.heap.size] := by simp; omega
            have k90 : ∀ w', KE [w.heap.size] w Y5 w' → w'.cell? ⟨x5.heap.size, 0, none⟩ = some (.int .i64 s5) := fun w' h => (h.bx B9 kb9).c0
            have k91 : ∀ w', KE [w.heap.size] w Y5 w' → w'.cell? ⟨x5.heap.size, 1, none⟩ = some (.slice A5 n5 c5) := fun w' h => (h.bx B9 kb9).c1
            have k92 : ∀ w', KE [w.heap.size] w Y5 w' → w'.cell? ⟨x5.heap.size, 2, none⟩ = some (.int .i64 s6) := fun w' h => (h.bx B9 kb9).c2
            have k93 : ∀ w', KE [w.heap.size] w Y5 w' → w'.cell? ⟨x5.heap.size, 3, none⟩ = some (.slice A6 n6 c6) := fun w' h => (h.bx B9 kb9).c3
            obtain ⟨tq1, tq2⟩ := BT_redP tN tD HD0.out
            rw [← HQD.out] at tq1 tq2
            have hfv : FracV Y5 _ q := ⟨_, _, _, _, _, _, _, _, rfl, hf1, hf2⟩
            go_region_held3 (fun w' => KE [w.heap.size] w Y5 w') ((repeat (first | assumption | apply KE.drew | apply KE.drewN | apply KE.alloc | (refine KE.set ?_ (by simp) _) | (refine KE.step ?_ (by assumption))))) (first
              | (go_at_call 31; (with_reducible refine (FText_n' _ q 200 _ S HS.out (hfv.ext (Ext.refl _).drew) tq1 tq2 (by decide) (by decide)).mono ?_); rintro e wk ⟨rfl, hxk⟩; (have b2 := B2.drew.ext hxk); have q0 := b2.c0; have q1 := b2.c1; have q2 := b2.c2; have q3 := b2.c3; have f0 := b2.frozen 0; have f1 := b2.frozen 1; have f2 := b2.frozen 2; have f3 := b2.frozen 3)
              )
            all_goals go_wp2_with fail
            all_goals (
              obtain ⟨pp, pb⟩ := FracV.put (hf1.ext (drew_of hxk)) (hf2.ext (drew_of hxk)) b2
              have pc0 := pb.c0
              have pc1 := pb.c1
              have pc2 := pb.c2
              have pc3 := pb.c3
              refine bodyPost_ret (v := .tuple #[.agg #[.int .i64 s5, .slice A5 n5 c5, .int .i64 s6, .slice A6 n6 c6], .bool R]) (by simp [results, Tryd.results16, go_sem, pc0, pc1, pc2, pc3]) rfl ?_
              exact ⟨_, rfl, ⟨_, _, _, _, _, _, _, _, rfl⟩, fun _ => pp, KE.ext (R := [w.heap.size]) (W0 := Y5) (by assumption)⟩)
          · have e4 : decide (0 < s3) = false := by
              rw [HS3.out]; rcases sign_cases D with ⟨a, b⟩ | ⟨a, b⟩ | ⟨a, b⟩ <;> rw [b] <;> simp <;> omega
            have HRf := Lib.hid (show R = false by
              cases hR : R with
              | false => rfl
              | true =>
                have := (HI.out.1 hR).2.1; rw [← hDs] at this; exact absurd this hD0)
            clear hDs hD0
            have hq0 := B2.c0
            have hq1 := B2.c1
            have hq2 := B2.c2
            have hq3 := B2.c3
            have hf0 := B2.frozen 0
            have hf1 := B2.frozen 1
            have hf2 := B2.frozen 2
            have hf3 := B2.frozen 3
            go_wp2_with fail
            have pb := B2.set4 (.int .i64 0) (.slice none 0 0) (.int .i64 0) (.slice none 0 0)
            have pc0 := pb.c0
            have pc1 := pb.c1
            have pc2 := pb.c2
            have pc3 := pb.c3
            refine bodyPost_ret (v := .tuple #[.agg #[.int .i64 0, .slice none 0 0, .int .i64 0, .slice none 0 0], .bool false]) (by simp [results, Tryd.results16, go_sem, pc0, pc1, pc2, pc3]) rfl ?_
            exact ⟨_, by rw [HRf.out], ⟨_, _, _, _, _, _, _, _, rfl⟩, fun h => absurd (h.symm.trans HRf.out) (by decide), (((hE.set (by simp) _).set (by simp) _).set (by simp) _).set (by simp) _⟩
end Go.Proofs.YteohdiaegnfbaaaDoor.Ten
namespace Go.Proofs.YteohdiaegnfbaaaDoor.Ten
open Go.RowKit Go.Proofs.YteohdiaegnfbaaaDoor.Big Go.Proofs.YteohdiaegnfbaaaDoor.Rt
open Go.Lib (itoa)

theorem rat_BT {l : List UInt8} {k : Nat} (hk : 0 < k) (h : isRat l = true) (hl : l.length ≤ k) : BT k (parseQ l).num ∧ BT k ((parseQ l).den : Int) := by
  obtain ⟨z1, z2⟩ := cut_sizes l
  unfold isRat at h
  unfold parseQ
  cases e : (Lib.cut l [47]).2.2 with
  | false =>
    rw [e] at h
    exact BT_redP (parse_boundTL (by omega) (by simpa using h)) (Nat.lt_of_lt_of_le (show Int.natAbs 1 < pt 1 by decide) (pt_mono hk)) (by simp)
  | true =>
    rw [e] at h
    simp only [if_true, Bool.and_eq_true, decide_eq_true_eq] at h
    obtain ⟨⟨⟨h1, h2⟩, h3⟩, _⟩ := h
    exact BT_redP (parse_boundTL (by omega) h1) (parse_boundTL (by omega) h2) (by simp; omega)
theorem TextZ_n (x : Value) (X : Int) (j : Nat) (w : World) (S : ByteArray) (hS : S = ⟨(itoa X).toArray⟩) (hx : BigB w x X j) (hL : j ≤ 1099511627776) (ht : TabOK w) : Calls Tryd.prog 18 #[x] w (fun e w' => e = .returned (.string S) ∧ Ext w w') := by
  subst hS; exact Big.Text_b x X j w hx hL ht
theorem RText_n (x : Value) (X : Int) (j : Nat) (w : World) (S : ByteArray) (hS : S = ⟨(itoa X).toArray⟩) (hx : NumB w x X j) (hL : j ≤ 100000000000) : Calls Tryd.prog 19 #[x] w (fun e w' => e = .returned (.string S) ∧ Ext w w') := by
  subst hS; exact RText_b x X j w hx hL

set_option maxRecDepth 100000 in
set_option maxHeartbeats 16000000 in
theorem parses_any (s : ByteArray) (w : World) (htab : TabOK w) (hmx : MxOK w) :
    Calls Tryd.prog 4 #[.string s] w (fun e w' => e = .returned (.bool true) ∧ Ext w w') := by
  go_enter Tryd.func4, Tryd.ntmps4
  go_wp2_with fail
  refine (RatAwake_any _ htab hmx).mono ?_
  rintro e w1 ⟨rfl, hE⟩
  go_wp2_with fail
  refine (long_any s _).mono ?_
  rintro e w' ⟨rfl, rfl⟩
  obtain ⟨bl, hbl⟩ : ∃ b, b = decide ((200 : Int) < s.size) := ⟨_, rfl⟩
  rw [← hbl]
  have HBL := Lib.hid hbl
  clear hbl
  cases bl
  case true =>
    go_wp2_with fail
    go_ret
    exact ⟨rfl, hE⟩
  have ns : s.size ≤ 200 := by have := HBL.out; simp at this; omega
  clear HBL
  obtain ⟨R, hR⟩ : ∃ R, R = isRat s.data.toList := ⟨_, rfl⟩
  have HR := Lib.hid hR
  clear hR
  cases R
  case false =>
    have hPF : ∀ w', MxOK w' → Calls Tryd.prog 12 #[.string s] w' (MakeZero w' 3) := fun w' hm => (RatParse_any s 200 w' (by omega) ns (by decide) (by decide) hm).mono fun e w'' h => h.2 HR.out.symm
    have HPF := Lib.hid hPF
    clear hPF
    go_wp2_with fail
    refine (HPF.out _ (hmx.ext hE)).mono ?_
    rintro e w2 ⟨rfl, hx2⟩
    unfold zeroRat
    go_upto_region 6 with fail
    have hy2 : Ext w2 (w2.alloc (.cells #[.bool false, .slice none 0 0, .bool false, .slice none 0 0] 29)) := (Ext.refl w2).alloc _
    have B3 := Box.new w2 29 #[.bool false, .slice none 0 0, .bool false, .slice none 0 0]
    have hE := (hE.trans hx2).trans hy2
    generalize (w2.alloc (.cells #[.bool false, .slice none 0 0, .bool false, .slice none 0 0] 29)) = W2 at *
    clear hx2 hy2
    go_wp2_with fail
    refine (FParse_any s _ ns).mono ?_
    rintro e w3 ⟨v3, rfl, ⟨s1, A, n, c, s2, A', n', c', rfl⟩, -, hx3⟩
    rw [← HR.out]
    go_upto_region 7 with fail
    have hy3 : Ext w3 (w3.alloc (.cells #[.int .i64 s1, .slice A n c, .int .i64 s2, .slice A' n' c'] 41)) := (Ext.refl w3).alloc _
    have B3 := (B3.ext hx3).ext hy3
    have hE := (hE.trans hx3).trans hy3
    generalize (w3.alloc (.cells #[.int .i64 s1, .slice A n c, .int .i64 s2, .slice A' n' c'] 41)) = W3 at *
    clear hx3 hy3
    have hZB : RatB W3 (.agg #[.bool false, .slice none 0 0, .bool false, .slice none 0 0]) 0 1 := ⟨RatV.zero _, QB_zero (by decide)⟩
    have q0 := B3.c0
    have q1 := B3.c1
    have q2 := B3.c2
    have q3 := B3.c3
    go_wp2_with fail
    refine (RatSign_b _ _ _ _ hZB).mono ?_
    rintro e w4 ⟨rfl, hx4⟩
    rw [show (Rat.num 0).sign = 0 from rfl]
    go_wp2_with fail
    go_ret
    exact ⟨rfl, hE.trans hx4⟩
  case true =>
    obtain ⟨tn, td⟩ := rat_BT (k := 200) (by decide) HR.out.symm ns
    have hPF : ∀ w', MxOK w' → Calls Tryd.prog 12 #[.string s] w' (MakePost w' (parseQ s.data.toList) 200) := fun w' hm => (RatParse_any s 200 w' (by omega) ns (by decide) (by decide) hm).mono fun e w'' h => h.1 HR.out.symm
    obtain ⟨X, hX⟩ : ∃ X, X = parseQ s.data.toList := ⟨_, rfl⟩
    rw [← hX] at tn td hPF
    have HPF := Lib.hid hPF
    have HX := Lib.hid hX
    have HST := Lib.hid (show s = ⟨(ratText X).toArray⟩ by rw [hX, text_parse HR.out.symm])
    clear hPF hX
    go_wp2_with fail
    refine (HPF.out _ (hmx.ext hE)).mono ?_
    rintro e w2 ⟨v2, rfl, h2, hx2⟩
    obtain ⟨p2, A2, n2, c2, p2', A2', n2', c2', rfl⟩ := h2.1.shape
    go_upto_region 6 with fail
    have hy2 : Ext w2 (w2.alloc (.cells #[.bool p2, .slice A2 n2 c2, .bool p2', .slice A2' n2' c2'] 29)) := (Ext.refl w2).alloc _
    have B3 := Box.new w2 29 #[.bool p2, .slice A2 n2 c2, .bool p2', .slice A2' n2' c2']
    have hXB := h2.ext hy2
    have hE := (hE.trans hx2).trans hy2
    generalize (w2.alloc (.cells #[.bool p2, .slice A2 n2 c2, .bool p2', .slice A2' n2' c2'] 29)) = W2 at *
    clear hx2 hy2 h2
    go_wp2_with fail
    refine (FParse_any s _ ns).mono ?_
    rintro e w3 ⟨v3, rfl, -, hfr, hx3⟩
    have hfr := hfr HR.out.symm
    rw [← HX.out] at hfr
    obtain ⟨s1, A, n, c, s2, A', n', c', rfl, hf1, hf2⟩ := hfr
    rw [← HR.out]
    obtain rfl := hf1.sign_of
    go_upto_region 7 with fail
    have hy3 : Ext w3 (w3.alloc (.cells #[.int .i64 X.num.sign, .slice A n c, .int .i64 s2, .slice A' n' c'] 41)) := (Ext.refl w3).alloc _
    have B5 := Box.new w3 41 #[.int .i64 X.num.sign, .slice A n c, .int .i64 s2, .slice A' n' c']
    have B3 := (B3.ext hx3).ext hy3
    have hXB := (hXB.ext hx3).ext hy3
    have hf1 := hf1.ext hy3
    have hf2 := hf2.ext hy3
    have hE := (hE.trans hx3).trans hy3
    have hTab := htab.ext hE
    generalize (w3.alloc (.cells #[.int .i64 X.num.sign, .slice A n c, .int .i64 s2, .slice A' n' c'] 41)) = W3 at *
    clear hx3 hy3
    have hNB : NumB W3 _ X.num 200 := ⟨hf1, tn⟩
    have hDB : NumB W3 _ (X.den : Int) 200 := ⟨hf2, td⟩
    obtain ⟨S1, hS1⟩ : ∃ S : ByteArray, S = ⟨(itoa X.num).toArray⟩ := ⟨_, rfl⟩
    obtain ⟨S2, hS2⟩ : ∃ S : ByteArray, S = ⟨(itoa (X.den : Int)).toArray⟩ := ⟨_, rfl⟩
    have HS1 := Lib.hid hS1
    have HS2 := Lib.hid hS2
    clear hS1 hS2 hf1 hf2 tn td
    have k30 : ∀ w', Later W3 w' → w'.cell? ⟨_, 0, none⟩ = some _ := fun w' h => (B3.ext h).c0
    have k31 : ∀ w', Later W3 w' → w'.cell? ⟨_, 1, none⟩ = some _ := fun w' h => (B3.ext h).c1
    have k32 : ∀ w', Later W3 w' → w'.cell? ⟨_, 2, none⟩ = some _ := fun w' h => (B3.ext h).c2
    have k33 : ∀ w', Later W3 w' → w'.cell? ⟨_, 3, none⟩ = some _ := fun w' h => (B3.ext h).c3
    have k50 : ∀ w', Later W3 w' → w'.cell? ⟨_, 0, none⟩ = some _ := fun w' h => (B5.ext h).c0
    have k51 : ∀ w', Later W3 w' → w'.cell? ⟨_, 1, none⟩ = some _ := fun w' h => (B5.ext h).c1
    have k52 : ∀ w', Later W3 w' → w'.cell? ⟨_, 2, none⟩ = some _ := fun w' h => (B5.ext h).c2
    have k53 : ∀ w', Later W3 w' → w'.cell? ⟨_, 3, none⟩ = some _ := fun w' h => (B5.ext h).c3
    have hS0 := Later.refl W3
    go_upto_region 9 with fail
    go_region_held3 (fun w' => Later W3 w') ((repeat (first | assumption | apply Later.drew | apply Later.drewN | apply Later.alloc | (refine Later.step ?_ (by assumption))))) (first
      | (go_at_call 19; (with_reducible refine (RText_n _ _ _ _ S1 HS1.out (hNB.ext (by repeat (first | (with_reducible exact Ext.refl _) | (with_reducible apply Ext.drew) | (with_reducible apply Ext.drewN) | (with_reducible refine Ext.trans ?_ (by assumption))))) (by decide)).mono ?_); rintro e wk ⟨rfl, hxk⟩)
      | (go_at_call 19; (with_reducible refine (RText_n _ _ _ _ S2 HS2.out (hDB.ext (by repeat (first | (with_reducible exact Ext.refl _) | (with_reducible apply Ext.drew) | (with_reducible apply Ext.drewN) | (with_reducible refine Ext.trans ?_ (by assumption))))) (by decide)).mono ?_); rintro e wk ⟨rfl, hxk⟩)
      | (go_at_call 18; (with_reducible refine (TextZ_n _ _ _ _ S1 HS1.out (BigB.ext (by assumption) (by repeat (first | (with_reducible exact Ext.refl _) | (with_reducible apply Ext.drew) | (with_reducible apply Ext.drewN) | (with_reducible refine Ext.trans ?_ (by assumption))))) (by decide) (TabOK.ext hTab (by repeat (first | (with_reducible exact Ext.refl _) | (with_reducible apply Ext.drew) | (with_reducible apply Ext.drewN) | (with_reducible refine Ext.trans ?_ (by assumption)))))).mono ?_); rintro e wk ⟨rfl, hxk⟩)
      | (go_at_call 18; (with_reducible refine (TextZ_n _ _ _ _ S2 HS2.out (BigB.ext (by assumption) (by repeat (first | (with_reducible exact Ext.refl _) | (with_reducible apply Ext.drew) | (with_reducible apply Ext.drewN) | (with_reducible refine Ext.trans ?_ (by assumption))))) (by decide) (TabOK.ext hTab (by repeat (first | (with_reducible exact Ext.refl _) | (with_reducible apply Ext.drew) | (with_reducible apply Ext.drewN) | (with_reducible refine Ext.trans ?_ (by assumption)))))).mono ?_); rintro e wk ⟨rfl, hxk⟩)
      | (go_at_call 17; (with_reducible refine (RatNum_b _ _ _ _ (RatB.ext (by assumption) (by repeat (first | (with_reducible exact Ext.refl _) | (with_reducible apply Ext.drew) | (with_reducible apply Ext.drewN) | (with_reducible refine Ext.trans ?_ (by assumption)))))).mono ?_); rintro e wk ⟨vk, rfl, hbk, hxk⟩; (obtain ⟨pk, Ak, nk, ck, rfl⟩ := hbk.1.shape))
      | (go_at_call 20; (with_reducible refine (RatDen_b _ _ _ _ (RatB.ext (by assumption) (by repeat (first | (with_reducible exact Ext.refl _) | (with_reducible apply Ext.drew) | (with_reducible apply Ext.drewN) | (with_reducible refine Ext.trans ?_ (by assumption)))))).mono ?_); rintro e wk ⟨vk, rfl, hbk, hxk⟩; (obtain ⟨pk, Ak, nk, ck, rfl⟩ := hbk.1.shape))
        | (go_at_call 14; (with_reducible refine (RatText_n _ _ _ _ s HST.out (hXB.ext (by repeat (first | (with_reducible exact Ext.refl _) | (with_reducible apply Ext.drew) | (with_reducible apply Ext.drewN) | (with_reducible refine Ext.trans ?_ (by assumption))))) (by decide) (TabOK.ext hTab (by repeat (first | (with_reducible exact Ext.refl _) | (with_reducible apply Ext.drew) | (with_reducible apply Ext.drewN) | (with_reducible refine Ext.trans ?_ (by assumption)))))).mono ?_); rintro e wk ⟨rfl, hxk⟩)
        | (go_at_call 41; (with_reducible refine (RatAdd_b _ _ _ _ _ _ _ (RatB.ext (by assumption) (by repeat (first | (with_reducible exact Ext.refl _) | (with_reducible apply Ext.drew) | (with_reducible apply Ext.drewN) | (with_reducible refine Ext.trans ?_ (by assumption))))) (RatB.ext (by assumption) (by repeat (first | (with_reducible exact Ext.refl _) | (with_reducible apply Ext.drew) | (with_reducible apply Ext.drewN) | (with_reducible refine Ext.trans ?_ (by assumption))))) (by decide)).mono ?_); rintro e wk ⟨vk, rfl, hbk, hxk⟩; (obtain ⟨pk, Ak, nk, ck, pk', Ak', nk', ck', rfl⟩ := hbk.1.shape))
        | (go_at_call 38; (with_reducible refine (RatSub_b _ _ _ _ _ _ _ (RatB.ext (by assumption) (by repeat (first | (with_reducible exact Ext.refl _) | (with_reducible apply Ext.drew) | (with_reducible apply Ext.drewN) | (with_reducible refine Ext.trans ?_ (by assumption))))) (RatB.ext (by assumption) (by repeat (first | (with_reducible exact Ext.refl _) | (with_reducible apply Ext.drew) | (with_reducible apply Ext.drewN) | (with_reducible refine Ext.trans ?_ (by assumption))))) (by decide)).mono ?_); rintro e wk ⟨vk, rfl, hbk, hxk⟩; (obtain ⟨pk, Ak, nk, ck, pk', Ak', nk', ck', rfl⟩ := hbk.1.shape))
        | (go_at_call 42; (with_reducible refine (RatMul_b _ _ _ _ _ _ _ (RatB.ext (by assumption) (by repeat (first | (with_reducible exact Ext.refl _) | (with_reducible apply Ext.drew) | (with_reducible apply Ext.drewN) | (with_reducible refine Ext.trans ?_ (by assumption))))) (RatB.ext (by assumption) (by repeat (first | (with_reducible exact Ext.refl _) | (with_reducible apply Ext.drew) | (with_reducible apply Ext.drewN) | (with_reducible refine Ext.trans ?_ (by assumption))))) (by decide)).mono ?_); rintro e wk ⟨vk, rfl, hbk, hxk⟩; (obtain ⟨pk, Ak, nk, ck, pk', Ak', nk', ck', rfl⟩ := hbk.1.shape))
        | (go_at_call 36; (with_reducible refine (RatNeg_b _ _ _ _ (RatB.ext (by assumption) (by repeat (first | (with_reducible exact Ext.refl _) | (with_reducible apply Ext.drew) | (with_reducible apply Ext.drewN) | (with_reducible refine Ext.trans ?_ (by assumption)))))).mono ?_); rintro e wk ⟨vk, rfl, hbk, hxk⟩; (obtain ⟨pk, Ak, nk, ck, pk', Ak', nk', ck', rfl⟩ := hbk.1.shape))
        | (go_at_call 35; (with_reducible refine (RatCmp_b _ _ _ _ _ _ _ (RatB.ext (by assumption) (by repeat (first | (with_reducible exact Ext.refl _) | (with_reducible apply Ext.drew) | (with_reducible apply Ext.drewN) | (with_reducible refine Ext.trans ?_ (by assumption))))) (RatB.ext (by assumption) (by repeat (first | (with_reducible exact Ext.refl _) | (with_reducible apply Ext.drew) | (with_reducible apply Ext.drewN) | (with_reducible refine Ext.trans ?_ (by assumption))))) (by decide)).mono ?_); rintro e wk ⟨rfl, hxk⟩)
        | (go_at_call 13; (with_reducible refine (RatSign_b _ _ _ _ (RatB.ext (by assumption) (by repeat (first | (with_reducible exact Ext.refl _) | (with_reducible apply Ext.drew) | (with_reducible apply Ext.drewN) | (with_reducible refine Ext.trans ?_ (by assumption)))))).mono ?_); rintro e wk ⟨rfl, hxk⟩)
        | (go_at_call 39; (with_reducible refine (RatOf_b _ _ (by first | assumption | decide) (by first | assumption | decide)).mono ?_); rintro e wk ⟨vk, rfl, hbk, hxk⟩; (obtain ⟨pk, Ak, nk, ck, pk', Ak', nk', ck', rfl⟩ := hbk.1.shape))
      )
    all_goals go_wp2_with fail
    all_goals go_ret
    all_goals exact ⟨rfl, hE.trans (show Later W3 _ by first | assumption | (apply Later.drew; assumption) | (apply Later.drewN; assumption))⟩
end Go.Proofs.YteohdiaegnfbaaaDoor.Ten

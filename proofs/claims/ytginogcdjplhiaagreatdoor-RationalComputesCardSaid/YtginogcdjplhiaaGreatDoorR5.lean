/- The reference's numbers: Parse walked. -/
import Derived.Test.YtginogcdjplhiaaGreatDoorR4
set_option linter.unusedVariables false
set_option linter.unusedSimpArgs false
namespace Go.Proofs.YtginogcdjplhiaaGreatDoor.Ten
open Go.RowKit Go.Proofs.YtginogcdjplhiaaGreatDoor.Big

theorem valD_cons (c : UInt8) (t : List UInt8) : valD (c :: t) = (c.toNat - 48) * 10 ^ t.length + valD t := by
  have := valD_append [c] t
  rw [valD_one] at this
  exact this
theorem dgs_cons {c V k : Nat} (hc : c < 10) (hV : V < pt k) : dgs (c * 10 ^ k + V) (k + 1) = dgs V k ++ [c] := by
  rw [pt_ten] at hV
  have hp : 0 < 10 ^ k := Nat.pow_pos (by omega)
  rw [dgs_succ]
  congr 1
  · unfold dgs
    refine List.map_congr_left fun j hj => ?_
    rw [List.mem_range] at hj
    have h1 : dg (c * 10 ^ k + V) j = dg ((c * 10 ^ k + V) % pt k) j := (dg_mod hj).symm
    rw [h1, pt_ten, Nat.add_comm, Nat.add_mul_mod_self_right, Nat.mod_eq_of_lt hV]
  · have : dg (c * 10 ^ k + V) k = c := by
      unfold dg
      rw [pt_ten, Nat.mul_comm, Nat.mul_add_div hp, Nat.div_eq_of_lt hV, Nat.add_zero, Nat.mod_eq_of_lt hc]
    rw [this]
/-- what the reference's Parse returns -/
def PNum (s : ByteArray) (w : World) (e : Ending) (w' : World) : Prop := ∃ v z, e = .returned (.tuple #[v, .bool (isDec s.data.toList)]) ∧ NumV w' v z ∧ (isDec s.data.toList = true → z = parseZ s.data.toList) ∧ (isDec s.data.toList = false → z = 0) ∧ Ext w w'

theorem neg_cases (s : ByteArray) : (negd s.data.toList = true ∧ ∃ h : 0 < s.size, (s[0]'h).toNat = 45 ∧ rest s.data.toList = s.data.toList.drop 1) ∨
    (negd s.data.toList = false ∧ rest s.data.toList = s.data.toList ∧ ∀ h : 0 < s.size, (s[0]'h).toNat ≠ 45) := by
  obtain ⟨⟨l⟩⟩ := s
  cases l with
  | nil => right; exact ⟨rfl, rfl, fun h => absurd h (by simp [ByteArray.size])⟩
  | cons c t =>
    by_cases hc : c = 45
    · subst hc
      left
      refine ⟨?_, by simp [ByteArray.size], rfl, ?_⟩
      · unfold negd; rfl
      · unfold rest; rfl
    · right
      have h0 : Lib.hasPrefix (c :: t) [45] = false := by
        simp [Lib.hasPrefix, List.isPrefixOf]
        exact fun h => hc h.symm
      refine ⟨h0, ?_, fun h => ?_⟩
      · unfold rest Lib.trimPrefix; rw [h0]; rfl
      · intro he
        have he' : c.toNat = 45 := he
        exact hc (UInt8.toNat_inj.1 he')

theorem isDec_eq (l : List UInt8) : isDec l = (!(rest l).isEmpty && digs (rest l) && (if (rest l).head? = some 48 then (rest l == [48]) && !negd l else true)) := rfl
theorem digs_get_false {l : List UInt8} {j : Nat} (hj : j < l.length) (h : (l[j].toNat < 48 ∨ 57 < l[j].toNat)) : digs l = false := by
  cases hd : digs l with
  | false => rfl
  | true => have := digs_get hd hj; omega
theorem digs_step {l : List UInt8} {j : Nat} (hj : j < l.length) (h : digs (l.drop (j + 1)) = true) (h1 : 48 ≤ l[j].toNat) (h2 : l[j].toNat ≤ 57) : digs (l.drop j) = true := by
  rw [List.drop_eq_getElem_cons hj]
  unfold digs at *
  rw [List.all_cons, h, Bool.and_true]
  simp [UInt8.le_iff_toNat_le]
  exact ⟨h1, h2⟩

set_option maxRecDepth 100000 in
set_option maxHeartbeats 4000000 in
theorem Parse_any (s : ByteArray) (w : World) (hs : s.size ≤ 1000000000) : Calls Tryz.prog 29 #[.string s] w (PNum s w) := by
  obtain ⟨i0, hi, hz0, hz1, hz2⟩ := info_parts infoInt
  rcases neg_cases s with ⟨hng, hpos, hc0, hrest⟩ | ⟨hng, hrest, hc0⟩
  · have hlen : s.size = 1 + (rest s.data.toList).length := by
      have : s.data.toList.length = s.size := rfl
      rw [hrest, List.length_drop]; omega
    have hget : ∀ j (h : j < (rest s.data.toList).length) (hb : 1 + j < s.size), (s[1 + j]'hb).toNat = ((rest s.data.toList)[j]'h).toNat := by
      intro j h hb
      simp only [hrest, List.getElem_drop]
      rfl
    have e0 : (((s[0]'hpos).toNat : Int) == 45) = true := by rw [hc0]; rfl
    have HNG := Lib.hid hng
    clear hrest hc0 hng
    go_enter Tryz.func29, Tryz.ntmps29
    by_cases h0 : s.size = 1
    · have hf : isDec s.data.toList = false := by
        rw [isDec_eq]
        have : rest s.data.toList = [] := List.eq_nil_of_length_eq_zero (by omega)
        rw [this]; rfl
      have HF := Lib.hid hf
      have e1 : ((s.size : Int) == 1) = true := by simp; omega
      clear hf h0 hlen hget
      go_wp2_with fail
      have B0 : Box (w.alloc (.cells #[.int .i64 0, .slice none 0 0] 33)) w.heap.size 33 #[.int .i64 0, .slice none 0 0] := Box.new _ _ _
      refine bodyPost_ret (v := .tuple #[.agg #[.int .i64 0, .slice none 0 0], .bool false]) (by simp [results, Tryz.results29, go_sem, B0.c0, B0.c1]) rfl ?_
      refine ⟨_, 0, by rw [HF.out]; rfl, ⟨none, 0, 0, rfl, Ten.nil _, .inl rfl⟩, fun h => absurd (h.symm.trans HF.out) (by decide), fun _ => rfl, ?_⟩
      exact (Ext.refl w).alloc _
    have hgt : 1 < s.size := by omega
    have e1 : ((s.size : Int) == 1) = false := by rw [beq_eq_false_iff_ne]; omega
    have hr0 : 0 < (rest s.data.toList).length := by omega
    have hh : (rest s.data.toList).head? = some ((rest s.data.toList)[0]'hr0) := by rw [List.head?_eq_getElem?, List.getElem?_eq_getElem hr0]
    have hg0 : (s[1]'hgt).toNat = ((rest s.data.toList)[0]'hr0).toNat := hget 0 hr0 (by omega)
    by_cases hz : (s[1]'hgt).toNat = 48
    · have e2 : (((s[1]'hgt).toNat : Int) == 48) = true := by rw [hz]; rfl
      have h48 : (rest s.data.toList)[0]'hr0 = 48 := UInt8.toNat_inj.1 (by rw [← hg0, hz]; rfl)
      by_cases h1 : 1 < s.size
      · have hf : isDec s.data.toList = false := by
          rw [isDec_eq, hh, h48, if_pos rfl]
          have : ((rest s.data.toList == [48]) && !negd s.data.toList) = false := by
            cases hb : (rest s.data.toList == [48]) with
            | false => rfl
            | true =>
              have hl : (rest s.data.toList).length = 1 := by rw [eq_of_beq hb]; rfl
              have hn1 : negd s.data.toList = true := by
                have := HNG.out
                first | exact this | omega
              rw [hn1]; try rfl
          rw [this, Bool.and_false]
        have e3 : decide ((1 : Int) < (s.size : Int)) = true := by simp; omega
        have HF := Lib.hid hf
        clear hf h0 hlen hget hh hg0 hz h48
        go_wp2_with fail
        have B0 : Box (w.alloc (.cells #[.int .i64 0, .slice none 0 0] 33)) w.heap.size 33 #[.int .i64 0, .slice none 0 0] := Box.new _ _ _
        refine bodyPost_ret (v := .tuple #[.agg #[.int .i64 0, .slice none 0 0], .bool false]) (by simp [results, Tryz.results29, go_sem, B0.c0, B0.c1]) rfl ?_
        refine ⟨_, 0, by rw [HF.out]; rfl, ⟨none, 0, 0, rfl, Ten.nil _, .inl rfl⟩, fun h => absurd (h.symm.trans HF.out) (by decide), fun _ => rfl, ?_⟩
        exact (Ext.refl w).alloc _
      · exact absurd hgt h1
    · have e2 : (((s[1]'hgt).toNat : Int) == 48) = false := by simp; omega
      have hhead : (if (rest s.data.toList).head? = some 48 then (rest s.data.toList == [48]) && !negd s.data.toList else true) = true := by
        rw [hh, if_neg]
        intro he
        injection he with he
        rw [he] at hg0
        exact hz hg0
      have HH := Lib.hid hhead
      clear hhead hh hg0 hz
      obtain ⟨m, hm⟩ : ∃ m, m = (rest s.data.toList).length := ⟨_, rfl⟩
      have hsz : s.size = 1 + m := by omega
      have hmb : m ≤ 1000000000 := by omega
      have HM := Lib.hid hm
      have HSZ := Lib.hid hsz
      have HGET := Lib.hid hget
      clear hm hget hlen h0 hsz
      go_wp2_with fail
      have B0 : Box (w.alloc (.cells #[.int .i64 0, .slice none 0 0] 33)) w.heap.size 33 #[.int .i64 0, .slice none 0 0] := Box.new _ _ _
      have hE0 : Ext w (w.alloc (.cells #[.int .i64 0, .slice none 0 0] 33)) := (Ext.refl w).alloc _
      generalize w.alloc (.cells #[.int .i64 0, .slice none 0 0] 33) = W0 at *
      go_loopw [6, 7] (fun o i wr => ∃ k : Nat, k ≤ m ∧ i = .int .i64 (((1 + m : Nat) : Int) - (k : Int) - 1) ∧ wr.ownsRow W0.heap.size 3 1 o k (ints (dgs (valD ((rest s.data.toList).drop (m - k))) k)) ∧ Hid (digs ((rest s.data.toList).drop (m - k)) = true) ∧ Ext W0 wr) (fun _ i _ => (intOf i + 1 - 1).toNat)
      case atStart => exact ⟨0, by omega, by rw [HSZ.out]; go_num, by simpa [dgs, ints] using World.ownsRow_nil _ _ _ _, Lib.hid (by rw [Nat.sub_zero, HM.out, List.drop_length]; rfl), Ext.refl _⟩
      case round =>
        obtain ⟨k, hk, rfl, hown, HD, hext⟩ := hrel
        have q0 := (B0.ext hext).c0
        have q1 := (B0.ext hext).c1
        have f0 := (B0.ext hext).frozen 0
        have f1 := (B0.ext hext).frozen 1
        by_cases hlt : k < m
        · obtain ⟨j, hj⟩ : ∃ j, m = k + 1 + j := ⟨m - k - 1, by omega⟩
          have ei : ((1 + m : Nat) : Int) - (k : Int) - 1 = ((1 + j : Nat) : Int) := by omega
          have hb : 1 + j < s.size := by have := HSZ.out; omega
          have hjr : j < (rest s.data.toList).length := by rw [← HM.out]; omega
          have hg := HGET.out j hjr hb
          rw [ei]
          have HJ := Lib.hid hj
          have HEI := Lib.hid ei
          have HG := Lib.hid hg
          clear hj ei hg
          by_cases hdg : 48 ≤ (s[1 + j]'hb).toNat ∧ (s[1 + j]'hb).toNat ≤ 57
          · obtain ⟨hd1, hd2⟩ := hdg
            obtain ⟨d, hd⟩ : ∃ d : Nat, (((s[1 + j]'hb).toNat : Int)) - 48 = (d : Int) := ⟨(s[1 + j]'hb).toNat - 48, by omega⟩
            have hd9 : d < 10 := by omega
            have hdn : d = (s[1 + j]'hb).toNat - 48 := by omega
            have HDN := Lib.hid hdn
            clear hdn
            go_wp2_with (at_builtin; refine wpList_append_own _ rfl _ _ 31 rfl W0.heap.size 3 i0 (.int .i64 0) 1 8 Tryz.underlying31 hi hz0 hz1 hz2 rfl (by decide) _ _ _ rfl (hown.alloc _) ⟨wr.heap.size, 0, none⟩ 1 1 [.int .i64 ((d : Nat) : Int)] rfl rfl ?c1 ?c2 ?c3 ?c4 ?c5 ?_)
            case c1 =>
              intro j u hj
              match j, hj with
              | 0, hj => simp at hj; subst hj; simp [Addr.add]
            case c2 => intro u hu; simp at hu; subst hu; rfl
            case c3 => unfold maxLen; omega
            case c4 => omega
            case c5 => have := Ext.size hext; simp; omega
            intro v' w3 hown' hgrow _
            have hE3 : Ext W0 w3 := Below.grown (Ext.alloc hext _) hgrow (by have := Ext.size hext; simp; omega) (fun k hk => (World.ownsRow.lt hown k hk).1)
            clear hown hgrow hd
            go_wp2_with fail
            go_roundw
            case measure => first | (simp [intOf]; done) | (simp [intOf]; omega)
            case rel =>
              have hj := HJ.out
              have hei := HEI.out
              have hmk : m - (k + 1) = j := by omega
              have hmk2 : m - k = j + 1 := by omega
              rw [hmk2] at hown' HD
              have hval : valD ((rest s.data.toList).drop j) = d * 10 ^ k + valD ((rest s.data.toList).drop (j + 1)) := by
                rw [List.drop_eq_getElem_cons hjr, valD_cons, HDN.out, HG.out, List.length_drop, show (rest s.data.toList).length - (j + 1) = k by rw [← HM.out]; omega]
              have hlt2 : valD ((rest s.data.toList).drop (j + 1)) < pt k := by
                have := valD_lt HD.out
                rw [List.length_drop, show (rest s.data.toList).length - (j + 1) = k by rw [← HM.out]; omega] at this
                exact this
              refine ⟨k + 1, by omega, by go_num, ?_, Lib.hid ?_, hE3⟩
              · rw [hmk, hval, dgs_cons hd9 hlt2]
                simpa [ints] using hown'
              · rw [hmk]
                exact digs_step hjr HD.out (by rw [← HG.out]; exact hd1) (by rw [← HG.out]; exact hd2)
          · have hf : isDec s.data.toList = false := by
              have h1 : digs (rest s.data.toList) = false := digs_get_false hjr (by rw [← HG.out]; omega)
              rw [isDec_eq, h1, Bool.and_false, Bool.false_and]
            have HF := Lib.hid hf
            have B0 := B0.ext hext
            clear hf
            rcases Nat.lt_or_ge (s[1 + j]'hb).toNat 48 with h48 | h48
            · clear hdg
              go_wp2_with fail
              have B0 : Box ((wr.setCell ⟨w.heap.size, 0, none⟩ (.int .i64 0)).setCell ⟨w.heap.size, 1, none⟩ (.slice none 0 0)) w.heap.size 33 #[.int .i64 0, .slice none 0 0] := (show Box _ _ _ #[.int .i64 0, .slice none 0 0] from B0.set 0 _).set 1 _
              refine bodyPost_ret (v := .tuple #[.agg #[.int .i64 0, .slice none 0 0], .bool false]) (by simp [results, Tryz.results29, go_sem, B0.c0, B0.c1]) rfl ?_
              refine ⟨_, 0, by rw [HF.out]; rfl, ⟨none, 0, 0, rfl, Ten.nil _, .inl rfl⟩, fun h => absurd (h.symm.trans HF.out) (by decide), fun _ => rfl, ?_⟩
              exact ((hE0.trans hext).set (Nat.le_refl _) _).set (Nat.le_refl _) _
            · have h57 : 57 < (s[1 + j]'hb).toNat := by omega
              clear hdg
              go_wp2_with fail
              have B0 : Box ((wr.setCell ⟨w.heap.size, 0, none⟩ (.int .i64 0)).setCell ⟨w.heap.size, 1, none⟩ (.slice none 0 0)) w.heap.size 33 #[.int .i64 0, .slice none 0 0] := (show Box _ _ _ #[.int .i64 0, .slice none 0 0] from B0.set 0 _).set 1 _
              refine bodyPost_ret (v := .tuple #[.agg #[.int .i64 0, .slice none 0 0], .bool false]) (by simp [results, Tryz.results29, go_sem, B0.c0, B0.c1]) rfl ?_
              refine ⟨_, 0, by rw [HF.out]; rfl, ⟨none, 0, 0, rfl, Ten.nil _, .inl rfl⟩, fun h => absurd (h.symm.trans HF.out) (by decide), fun _ => rfl, ?_⟩
              exact ((hE0.trans hext).set (Nat.le_refl _) _).set (Nat.le_refl _) _
        · obtain rfl : k = m := by omega
          rw [Nat.sub_self, List.drop_zero] at hown HD
          have hV : valD (rest s.data.toList) < pt k := by
            have := valD_lt HD.out
            rw [← HM.out] at this
            exact this
          have hT := Ten.of_row hown hV
          have hf : isDec s.data.toList = true := by
            rw [isDec_eq, HD.out, HH.out]
            have : (rest s.data.toList).isEmpty = false := by
              cases hrr : rest s.data.toList with
              | nil => rw [hrr] at hr0; simp at hr0
              | cons c t => rfl
            rw [this]; rfl
          have HF := Lib.hid hf
          have hzn : (parseZ s.data.toList).natAbs = valD (rest s.data.toList) := by unfold parseZ; rw [sgn_natAbs]
          have hzs : 0 < valD (rest s.data.toList) → (parseZ s.data.toList).sign = -1 := by
            intro hp
            unfold parseZ sgn
            rw [HNG.out]
            first | (exact Int.sign_eq_neg_one_of_neg (by simp; omega)) | (exact Int.sign_eq_one_of_pos (by simp; omega))
          have HZN := Lib.hid hzn
          have HZS := Lib.hid hzs
          have B0 := B0.ext hext
          clear hown hf hzn hzs q0 q1 f0 f1
          go_wp2_with fail
          refine (number_any _ _ _ _ _ (parseZ s.data.toList) hT HZN.out HZS.out).mono ?_
          rintro e w5 ⟨v5, rfl, h5, hx5⟩
          obtain ⟨s5, A5, n5, c5, rfl, -⟩ := h5.shape
          have B0 := B0.ext hx5
          have q0 := B0.c0
          have q1 := B0.c1
          have f0 := B0.frozen 0
          have f1 := B0.frozen 1
          obtain ⟨p1, p2, p3⟩ := h5.put B0
          go_wp2_with fail
          refine bodyPost_ret (v := .tuple #[.agg #[.int .i64 s5, .slice A5 n5 c5], .bool true]) (by simp [results, Tryz.results29, go_sem, p2, p3]) rfl ?_
          exact ⟨_, _, by rw [HF.out], p1, fun _ => rfl, fun h => absurd (h.symm.trans HF.out) (by decide), ((((hE0.trans hext).trans hx5)).set (Nat.le_refl _) _).set (Nat.le_refl _) _⟩
  · by_cases hpos : 0 < s.size
    · have hlen : s.size = 0 + (rest s.data.toList).length := by
        have : s.data.toList.length = s.size := rfl
        rw [hrest]; omega
      have hget : ∀ j (h : j < (rest s.data.toList).length) (hb : j < s.size), (s[j]'hb).toNat = ((rest s.data.toList)[j]'h).toNat := by
        intro j h hb
        simp only [hrest]
        rfl
      have e0 : (((s[0]'hpos).toNat : Int) == 45) = false := by have := hc0 hpos; simp; omega
      have HNG := Lib.hid hng
      clear hrest hc0 hng
      go_enter Tryz.func29, Tryz.ntmps29
      by_cases h0 : s.size = 0
      · have hf : isDec s.data.toList = false := by
          rw [isDec_eq]
          have : rest s.data.toList = [] := List.eq_nil_of_length_eq_zero (by omega)
          rw [this]; rfl
        have HF := Lib.hid hf
        have e1 : ((s.size : Int) == 0) = true := by simp; omega
        clear hf h0 hlen hget
        go_wp2_with fail
        have B0 : Box (w.alloc (.cells #[.int .i64 0, .slice none 0 0] 33)) w.heap.size 33 #[.int .i64 0, .slice none 0 0] := Box.new _ _ _
        refine bodyPost_ret (v := .tuple #[.agg #[.int .i64 0, .slice none 0 0], .bool false]) (by simp [results, Tryz.results29, go_sem, B0.c0, B0.c1]) rfl ?_
        refine ⟨_, 0, by rw [HF.out]; rfl, ⟨none, 0, 0, rfl, Ten.nil _, .inl rfl⟩, fun h => absurd (h.symm.trans HF.out) (by decide), fun _ => rfl, ?_⟩
        exact (Ext.refl w).alloc _
      have hgt : 0 < s.size := by omega
      have e1 : ((s.size : Int) == 0) = false := by rw [beq_eq_false_iff_ne]; omega
      have hr0 : 0 < (rest s.data.toList).length := by omega
      have hh : (rest s.data.toList).head? = some ((rest s.data.toList)[0]'hr0) := by rw [List.head?_eq_getElem?, List.getElem?_eq_getElem hr0]
      have hg0 : (s[0]'hgt).toNat = ((rest s.data.toList)[0]'hr0).toNat := hget 0 hr0 (by omega)
      by_cases hz : (s[0]'hgt).toNat = 48
      · have e2 : (((s[0]'hgt).toNat : Int) == 48) = true := by rw [hz]; rfl
        have h48 : (rest s.data.toList)[0]'hr0 = 48 := UInt8.toNat_inj.1 (by rw [← hg0, hz]; rfl)
        by_cases h1 : 1 < s.size
        · have hf : isDec s.data.toList = false := by
            rw [isDec_eq, hh, h48, if_pos rfl]
            have : ((rest s.data.toList == [48]) && !negd s.data.toList) = false := by
              cases hb : (rest s.data.toList == [48]) with
              | false => rfl
              | true =>
                have hl : (rest s.data.toList).length = 1 := by rw [eq_of_beq hb]; rfl
                have hn1 : negd s.data.toList = true := by
                  have := HNG.out
                  first | exact this | omega
                rw [hn1]; try rfl
            rw [this, Bool.and_false]
          have e3 : decide ((1 : Int) < (s.size : Int)) = true := by simp; omega
          have HF := Lib.hid hf
          clear hf h0 hlen hget hh hg0 hz h48
          go_wp2_with fail
          have B0 : Box (w.alloc (.cells #[.int .i64 0, .slice none 0 0] 33)) w.heap.size 33 #[.int .i64 0, .slice none 0 0] := Box.new _ _ _
          refine bodyPost_ret (v := .tuple #[.agg #[.int .i64 0, .slice none 0 0], .bool false]) (by simp [results, Tryz.results29, go_sem, B0.c0, B0.c1]) rfl ?_
          refine ⟨_, 0, by rw [HF.out]; rfl, ⟨none, 0, 0, rfl, Ten.nil _, .inl rfl⟩, fun h => absurd (h.symm.trans HF.out) (by decide), fun _ => rfl, ?_⟩
          exact (Ext.refl w).alloc _
        · have e3 : decide ((1 : Int) < (s.size : Int)) = false := by simp; omega
          have hhead : (if (rest s.data.toList).head? = some 48 then (rest s.data.toList == [48]) && !negd s.data.toList else true) = true := by
            have hl : (rest s.data.toList).length = 1 := by omega
            have he : rest s.data.toList = [48] := by
              rcases hrr : rest s.data.toList with _ | ⟨c, t⟩
              · rw [hrr] at hr0; simp at hr0
              · simp only [hrr] at h48 hl
                simp at h48 hl
                rw [h48, hl]
            have hn1 : negd s.data.toList = false := by
              have := HNG.out
              first | exact this | omega
            rw [he, hn1]; rfl
          have HH := Lib.hid hhead
          clear hhead h48 hh hg0 hz
          obtain ⟨m, hm⟩ : ∃ m, m = (rest s.data.toList).length := ⟨_, rfl⟩
          have hsz : s.size = 0 + m := by omega
          have hmb : m ≤ 1000000000 := by omega
          have HM := Lib.hid hm
          have HSZ := Lib.hid hsz
          have HGET := Lib.hid hget
          clear hm hget hlen h0 hsz
          go_wp2_with fail
          have B0 : Box (w.alloc (.cells #[.int .i64 0, .slice none 0 0] 33)) w.heap.size 33 #[.int .i64 0, .slice none 0 0] := Box.new _ _ _
          have hE0 : Ext w (w.alloc (.cells #[.int .i64 0, .slice none 0 0] 33)) := (Ext.refl w).alloc _
          generalize w.alloc (.cells #[.int .i64 0, .slice none 0 0] 33) = W0 at *
          go_loopw [6, 7] (fun o i wr => ∃ k : Nat, k ≤ m ∧ i = .int .i64 (((0 + m : Nat) : Int) - (k : Int) - 1) ∧ wr.ownsRow W0.heap.size 3 1 o k (ints (dgs (valD ((rest s.data.toList).drop (m - k))) k)) ∧ Hid (digs ((rest s.data.toList).drop (m - k)) = true) ∧ Ext W0 wr) (fun _ i _ => (intOf i + 1 - 0).toNat)
          case atStart => exact ⟨0, by omega, by rw [HSZ.out]; go_num, by simpa [dgs, ints] using World.ownsRow_nil _ _ _ _, Lib.hid (by rw [Nat.sub_zero, HM.out, List.drop_length]; rfl), Ext.refl _⟩
          case round =>
            obtain ⟨k, hk, rfl, hown, HD, hext⟩ := hrel
            have q0 := (B0.ext hext).c0
            have q1 := (B0.ext hext).c1
            have f0 := (B0.ext hext).frozen 0
            have f1 := (B0.ext hext).frozen 1
            by_cases hlt : k < m
            · obtain ⟨j, hj⟩ : ∃ j, m = k + 1 + j := ⟨m - k - 1, by omega⟩
              have ei : ((0 + m : Nat) : Int) - (k : Int) - 1 = ((j : Nat) : Int) := by omega
              have hb : j < s.size := by have := HSZ.out; omega
              have hjr : j < (rest s.data.toList).length := by rw [← HM.out]; omega
              have hg := HGET.out j hjr hb
              rw [ei]
              have HJ := Lib.hid hj
              have HEI := Lib.hid ei
              have HG := Lib.hid hg
              clear hj ei hg
              by_cases hdg : 48 ≤ (s[j]'hb).toNat ∧ (s[j]'hb).toNat ≤ 57
              · obtain ⟨hd1, hd2⟩ := hdg
                obtain ⟨d, hd⟩ : ∃ d : Nat, (((s[j]'hb).toNat : Int)) - 48 = (d : Int) := ⟨(s[j]'hb).toNat - 48, by omega⟩
                have hd9 : d < 10 := by omega
                have hdn : d = (s[j]'hb).toNat - 48 := by omega
                have HDN := Lib.hid hdn
                clear hdn
                go_wp2_with (at_builtin; refine wpList_append_own _ rfl _ _ 31 rfl W0.heap.size 3 i0 (.int .i64 0) 1 8 Tryz.underlying31 hi hz0 hz1 hz2 rfl (by decide) _ _ _ rfl (hown.alloc _) ⟨wr.heap.size, 0, none⟩ 1 1 [.int .i64 ((d : Nat) : Int)] rfl rfl ?c1 ?c2 ?c3 ?c4 ?c5 ?_)
                case c1 =>
                  intro j u hj
                  match j, hj with
                  | 0, hj => simp at hj; subst hj; simp [Addr.add]
                case c2 => intro u hu; simp at hu; subst hu; rfl
                case c3 => unfold maxLen; omega
                case c4 => omega
                case c5 => have := Ext.size hext; simp; omega
                intro v' w3 hown' hgrow _
                have hE3 : Ext W0 w3 := Below.grown (Ext.alloc hext _) hgrow (by have := Ext.size hext; simp; omega) (fun k hk => (World.ownsRow.lt hown k hk).1)
                clear hown hgrow hd
                go_wp2_with fail
                go_roundw
                case measure => first | (simp [intOf]; done) | (simp [intOf]; omega)
                case rel =>
                  have hj := HJ.out
                  have hei := HEI.out
                  have hmk : m - (k + 1) = j := by omega
                  have hmk2 : m - k = j + 1 := by omega
                  rw [hmk2] at hown' HD
                  have hval : valD ((rest s.data.toList).drop j) = d * 10 ^ k + valD ((rest s.data.toList).drop (j + 1)) := by
                    rw [List.drop_eq_getElem_cons hjr, valD_cons, HDN.out, HG.out, List.length_drop, show (rest s.data.toList).length - (j + 1) = k by rw [← HM.out]; omega]
                  have hlt2 : valD ((rest s.data.toList).drop (j + 1)) < pt k := by
                    have := valD_lt HD.out
                    rw [List.length_drop, show (rest s.data.toList).length - (j + 1) = k by rw [← HM.out]; omega] at this
                    exact this
                  refine ⟨k + 1, by omega, by go_num, ?_, Lib.hid ?_, hE3⟩
                  · rw [hmk, hval, dgs_cons hd9 hlt2]
                    simpa [ints] using hown'
                  · rw [hmk]
                    exact digs_step hjr HD.out (by rw [← HG.out]; exact hd1) (by rw [← HG.out]; exact hd2)
              · have hf : isDec s.data.toList = false := by
                  have h1 : digs (rest s.data.toList) = false := digs_get_false hjr (by rw [← HG.out]; omega)
                  rw [isDec_eq, h1, Bool.and_false, Bool.false_and]
                have HF := Lib.hid hf
                have B0 := B0.ext hext
                clear hf
                rcases Nat.lt_or_ge (s[j]'hb).toNat 48 with h48 | h48
                · clear hdg
                  go_wp2_with fail
                  have B0 : Box ((wr.setCell ⟨w.heap.size, 0, none⟩ (.int .i64 0)).setCell ⟨w.heap.size, 1, none⟩ (.slice none 0 0)) w.heap.size 33 #[.int .i64 0, .slice none 0 0] := (show Box _ _ _ #[.int .i64 0, .slice none 0 0] from B0.set 0 _).set 1 _
                  refine bodyPost_ret (v := .tuple #[.agg #[.int .i64 0, .slice none 0 0], .bool false]) (by simp [results, Tryz.results29, go_sem, B0.c0, B0.c1]) rfl ?_
                  refine ⟨_, 0, by rw [HF.out]; rfl, ⟨none, 0, 0, rfl, Ten.nil _, .inl rfl⟩, fun h => absurd (h.symm.trans HF.out) (by decide), fun _ => rfl, ?_⟩
                  exact ((hE0.trans hext).set (Nat.le_refl _) _).set (Nat.le_refl _) _
                · have h57 : 57 < (s[j]'hb).toNat := by omega
                  clear hdg
                  go_wp2_with fail
                  have B0 : Box ((wr.setCell ⟨w.heap.size, 0, none⟩ (.int .i64 0)).setCell ⟨w.heap.size, 1, none⟩ (.slice none 0 0)) w.heap.size 33 #[.int .i64 0, .slice none 0 0] := (show Box _ _ _ #[.int .i64 0, .slice none 0 0] from B0.set 0 _).set 1 _
                  refine bodyPost_ret (v := .tuple #[.agg #[.int .i64 0, .slice none 0 0], .bool false]) (by simp [results, Tryz.results29, go_sem, B0.c0, B0.c1]) rfl ?_
                  refine ⟨_, 0, by rw [HF.out]; rfl, ⟨none, 0, 0, rfl, Ten.nil _, .inl rfl⟩, fun h => absurd (h.symm.trans HF.out) (by decide), fun _ => rfl, ?_⟩
                  exact ((hE0.trans hext).set (Nat.le_refl _) _).set (Nat.le_refl _) _
            · obtain rfl : k = m := by omega
              rw [Nat.sub_self, List.drop_zero] at hown HD
              have hV : valD (rest s.data.toList) < pt k := by
                have := valD_lt HD.out
                rw [← HM.out] at this
                exact this
              have hT := Ten.of_row hown hV
              have hf : isDec s.data.toList = true := by
                rw [isDec_eq, HD.out, HH.out]
                have : (rest s.data.toList).isEmpty = false := by
                  cases hrr : rest s.data.toList with
                  | nil => rw [hrr] at hr0; simp at hr0
                  | cons c t => rfl
                rw [this]; rfl
              have HF := Lib.hid hf
              have hzn : (parseZ s.data.toList).natAbs = valD (rest s.data.toList) := by unfold parseZ; rw [sgn_natAbs]
              have hzs : 0 < valD (rest s.data.toList) → (parseZ s.data.toList).sign = 1 := by
                intro hp
                unfold parseZ sgn
                rw [HNG.out]
                first | (exact Int.sign_eq_neg_one_of_neg (by simp; omega)) | (exact Int.sign_eq_one_of_pos (by simp; omega))
              have HZN := Lib.hid hzn
              have HZS := Lib.hid hzs
              have B0 := B0.ext hext
              clear hown hf hzn hzs q0 q1 f0 f1
              go_wp2_with fail
              refine (number_any _ _ _ _ _ (parseZ s.data.toList) hT HZN.out HZS.out).mono ?_
              rintro e w5 ⟨v5, rfl, h5, hx5⟩
              obtain ⟨s5, A5, n5, c5, rfl, -⟩ := h5.shape
              have B0 := B0.ext hx5
              have q0 := B0.c0
              have q1 := B0.c1
              have f0 := B0.frozen 0
              have f1 := B0.frozen 1
              obtain ⟨p1, p2, p3⟩ := h5.put B0
              go_wp2_with fail
              refine bodyPost_ret (v := .tuple #[.agg #[.int .i64 s5, .slice A5 n5 c5], .bool true]) (by simp [results, Tryz.results29, go_sem, p2, p3]) rfl ?_
              exact ⟨_, _, by rw [HF.out], p1, fun _ => rfl, fun h => absurd (h.symm.trans HF.out) (by decide), ((((hE0.trans hext).trans hx5)).set (Nat.le_refl _) _).set (Nat.le_refl _) _⟩
      · have e2 : (((s[0]'hgt).toNat : Int) == 48) = false := by simp; omega
        have hhead : (if (rest s.data.toList).head? = some 48 then (rest s.data.toList == [48]) && !negd s.data.toList else true) = true := by
          rw [hh, if_neg]
          intro he
          injection he with he
          rw [he] at hg0
          exact hz hg0
        have HH := Lib.hid hhead
        clear hhead hh hg0 hz
        obtain ⟨m, hm⟩ : ∃ m, m = (rest s.data.toList).length := ⟨_, rfl⟩
        have hsz : s.size = 0 + m := by omega
        have hmb : m ≤ 1000000000 := by omega
        have HM := Lib.hid hm
        have HSZ := Lib.hid hsz
        have HGET := Lib.hid hget
        clear hm hget hlen h0 hsz
        go_wp2_with fail
        have B0 : Box (w.alloc (.cells #[.int .i64 0, .slice none 0 0] 33)) w.heap.size 33 #[.int .i64 0, .slice none 0 0] := Box.new _ _ _
        have hE0 : Ext w (w.alloc (.cells #[.int .i64 0, .slice none 0 0] 33)) := (Ext.refl w).alloc _
        generalize w.alloc (.cells #[.int .i64 0, .slice none 0 0] 33) = W0 at *
        go_loopw [6, 7] (fun o i wr => ∃ k : Nat, k ≤ m ∧ i = .int .i64 (((0 + m : Nat) : Int) - (k : Int) - 1) ∧ wr.ownsRow W0.heap.size 3 1 o k (ints (dgs (valD ((rest s.data.toList).drop (m - k))) k)) ∧ Hid (digs ((rest s.data.toList).drop (m - k)) = true) ∧ Ext W0 wr) (fun _ i _ => (intOf i + 1 - 0).toNat)
        case atStart => exact ⟨0, by omega, by rw [HSZ.out]; go_num, by simpa [dgs, ints] using World.ownsRow_nil _ _ _ _, Lib.hid (by rw [Nat.sub_zero, HM.out, List.drop_length]; rfl), Ext.refl _⟩
        case round =>
          obtain ⟨k, hk, rfl, hown, HD, hext⟩ := hrel
          have q0 := (B0.ext hext).c0
          have q1 := (B0.ext hext).c1
          have f0 := (B0.ext hext).frozen 0
          have f1 := (B0.ext hext).frozen 1
          by_cases hlt : k < m
          · obtain ⟨j, hj⟩ : ∃ j, m = k + 1 + j := ⟨m - k - 1, by omega⟩
            have ei : ((0 + m : Nat) : Int) - (k : Int) - 1 = ((j : Nat) : Int) := by omega
            have hb : j < s.size := by have := HSZ.out; omega
            have hjr : j < (rest s.data.toList).length := by rw [← HM.out]; omega
            have hg := HGET.out j hjr hb
            rw [ei]
            have HJ := Lib.hid hj
            have HEI := Lib.hid ei
            have HG := Lib.hid hg
            clear hj ei hg
            by_cases hdg : 48 ≤ (s[j]'hb).toNat ∧ (s[j]'hb).toNat ≤ 57
            · obtain ⟨hd1, hd2⟩ := hdg
              obtain ⟨d, hd⟩ : ∃ d : Nat, (((s[j]'hb).toNat : Int)) - 48 = (d : Int) := ⟨(s[j]'hb).toNat - 48, by omega⟩
              have hd9 : d < 10 := by omega
              have hdn : d = (s[j]'hb).toNat - 48 := by omega
              have HDN := Lib.hid hdn
              clear hdn
              go_wp2_with (at_builtin; refine wpList_append_own _ rfl _ _ 31 rfl W0.heap.size 3 i0 (.int .i64 0) 1 8 Tryz.underlying31 hi hz0 hz1 hz2 rfl (by decide) _ _ _ rfl (hown.alloc _) ⟨wr.heap.size, 0, none⟩ 1 1 [.int .i64 ((d : Nat) : Int)] rfl rfl ?c1 ?c2 ?c3 ?c4 ?c5 ?_)
              case c1 =>
                intro j u hj
                match j, hj with
                | 0, hj => simp at hj; subst hj; simp [Addr.add]
              case c2 => intro u hu; simp at hu; subst hu; rfl
              case c3 => unfold maxLen; omega
              case c4 => omega
              case c5 => have := Ext.size hext; simp; omega
              intro v' w3 hown' hgrow _
              have hE3 : Ext W0 w3 := Below.grown (Ext.alloc hext _) hgrow (by have := Ext.size hext; simp; omega) (fun k hk => (World.ownsRow.lt hown k hk).1)
              clear hown hgrow hd
              go_wp2_with fail
              go_roundw
              case measure => first | (simp [intOf]; done) | (simp [intOf]; omega)
              case rel =>
                have hj := HJ.out
                have hei := HEI.out
                have hmk : m - (k + 1) = j := by omega
                have hmk2 : m - k = j + 1 := by omega
                rw [hmk2] at hown' HD
                have hval : valD ((rest s.data.toList).drop j) = d * 10 ^ k + valD ((rest s.data.toList).drop (j + 1)) := by
                  rw [List.drop_eq_getElem_cons hjr, valD_cons, HDN.out, HG.out, List.length_drop, show (rest s.data.toList).length - (j + 1) = k by rw [← HM.out]; omega]
                have hlt2 : valD ((rest s.data.toList).drop (j + 1)) < pt k := by
                  have := valD_lt HD.out
                  rw [List.length_drop, show (rest s.data.toList).length - (j + 1) = k by rw [← HM.out]; omega] at this
                  exact this
                refine ⟨k + 1, by omega, by go_num, ?_, Lib.hid ?_, hE3⟩
                · rw [hmk, hval, dgs_cons hd9 hlt2]
                  simpa [ints] using hown'
                · rw [hmk]
                  exact digs_step hjr HD.out (by rw [← HG.out]; exact hd1) (by rw [← HG.out]; exact hd2)
            · have hf : isDec s.data.toList = false := by
                have h1 : digs (rest s.data.toList) = false := digs_get_false hjr (by rw [← HG.out]; omega)
                rw [isDec_eq, h1, Bool.and_false, Bool.false_and]
              have HF := Lib.hid hf
              have B0 := B0.ext hext
              clear hf
              rcases Nat.lt_or_ge (s[j]'hb).toNat 48 with h48 | h48
              · clear hdg
                go_wp2_with fail
                have B0 : Box ((wr.setCell ⟨w.heap.size, 0, none⟩ (.int .i64 0)).setCell ⟨w.heap.size, 1, none⟩ (.slice none 0 0)) w.heap.size 33 #[.int .i64 0, .slice none 0 0] := (show Box _ _ _ #[.int .i64 0, .slice none 0 0] from B0.set 0 _).set 1 _
                refine bodyPost_ret (v := .tuple #[.agg #[.int .i64 0, .slice none 0 0], .bool false]) (by simp [results, Tryz.results29, go_sem, B0.c0, B0.c1]) rfl ?_
                refine ⟨_, 0, by rw [HF.out]; rfl, ⟨none, 0, 0, rfl, Ten.nil _, .inl rfl⟩, fun h => absurd (h.symm.trans HF.out) (by decide), fun _ => rfl, ?_⟩
                exact ((hE0.trans hext).set (Nat.le_refl _) _).set (Nat.le_refl _) _
              · have h57 : 57 < (s[j]'hb).toNat := by omega
                clear hdg
                go_wp2_with fail
                have B0 : Box ((wr.setCell ⟨w.heap.size, 0, none⟩ (.int .i64 0)).setCell ⟨w.heap.size, 1, none⟩ (.slice none 0 0)) w.heap.size 33 #[.int .i64 0, .slice none 0 0] := (show Box _ _ _ #[.int .i64 0, .slice none 0 0] from B0.set 0 _).set 1 _
                refine bodyPost_ret (v := .tuple #[.agg #[.int .i64 0, .slice none 0 0], .bool false]) (by simp [results, Tryz.results29, go_sem, B0.c0, B0.c1]) rfl ?_
                refine ⟨_, 0, by rw [HF.out]; rfl, ⟨none, 0, 0, rfl, Ten.nil _, .inl rfl⟩, fun h => absurd (h.symm.trans HF.out) (by decide), fun _ => rfl, ?_⟩
                exact ((hE0.trans hext).set (Nat.le_refl _) _).set (Nat.le_refl _) _
          · obtain rfl : k = m := by omega
            rw [Nat.sub_self, List.drop_zero] at hown HD
            have hV : valD (rest s.data.toList) < pt k := by
              have := valD_lt HD.out
              rw [← HM.out] at this
              exact this
            have hT := Ten.of_row hown hV
            have hf : isDec s.data.toList = true := by
              rw [isDec_eq, HD.out, HH.out]
              have : (rest s.data.toList).isEmpty = false := by
                cases hrr : rest s.data.toList with
                | nil => rw [hrr] at hr0; simp at hr0
                | cons c t => rfl
              rw [this]; rfl
            have HF := Lib.hid hf
            have hzn : (parseZ s.data.toList).natAbs = valD (rest s.data.toList) := by unfold parseZ; rw [sgn_natAbs]
            have hzs : 0 < valD (rest s.data.toList) → (parseZ s.data.toList).sign = 1 := by
              intro hp
              unfold parseZ sgn
              rw [HNG.out]
              first | (exact Int.sign_eq_neg_one_of_neg (by simp; omega)) | (exact Int.sign_eq_one_of_pos (by simp; omega))
            have HZN := Lib.hid hzn
            have HZS := Lib.hid hzs
            have B0 := B0.ext hext
            clear hown hf hzn hzs q0 q1 f0 f1
            go_wp2_with fail
            refine (number_any _ _ _ _ _ (parseZ s.data.toList) hT HZN.out HZS.out).mono ?_
            rintro e w5 ⟨v5, rfl, h5, hx5⟩
            obtain ⟨s5, A5, n5, c5, rfl, -⟩ := h5.shape
            have B0 := B0.ext hx5
            have q0 := B0.c0
            have q1 := B0.c1
            have f0 := B0.frozen 0
            have f1 := B0.frozen 1
            obtain ⟨p1, p2, p3⟩ := h5.put B0
            go_wp2_with fail
            refine bodyPost_ret (v := .tuple #[.agg #[.int .i64 s5, .slice A5 n5 c5], .bool true]) (by simp [results, Tryz.results29, go_sem, p2, p3]) rfl ?_
            exact ⟨_, _, by rw [HF.out], p1, fun _ => rfl, fun h => absurd (h.symm.trans HF.out) (by decide), ((((hE0.trans hext).trans hx5)).set (Nat.le_refl _) _).set (Nat.le_refl _) _⟩
    · have h0 : s.size = 0 := by omega
      have hf : isDec s.data.toList = false := by
        have hl : s.data.toList.length = s.size := rfl
        have : rest s.data.toList = [] := by rw [hrest]; exact List.eq_nil_of_length_eq_zero (by omega)
        rw [isDec_eq, this]; rfl
      have HF := Lib.hid hf
      have e1 : (s.size : Int) = 0 := by omega
      clear hf hrest hc0 h0 hng
      go_enter Tryz.func29, Tryz.ntmps29
      go_wp2_with fail
      have B0 : Box (w.alloc (.cells #[.int .i64 0, .slice none 0 0] 33)) w.heap.size 33 #[.int .i64 0, .slice none 0 0] := Box.new _ _ _
      refine bodyPost_ret (v := .tuple #[.agg #[.int .i64 0, .slice none 0 0], .bool false]) (by simp [results, Tryz.results29, go_sem, B0.c0, B0.c1]) rfl ?_
      refine ⟨_, 0, by rw [HF.out]; rfl, ⟨none, 0, 0, rfl, Ten.nil _, .inl rfl⟩, fun h => absurd (h.symm.trans HF.out) (by decide), fun _ => rfl, ?_⟩
      exact (Ext.refl w).alloc _
end Go.Proofs.YtginogcdjplhiaaGreatDoor.Ten

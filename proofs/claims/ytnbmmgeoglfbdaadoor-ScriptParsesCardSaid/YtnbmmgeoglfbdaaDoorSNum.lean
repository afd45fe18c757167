/- Walks: number, numbers, split of the script. -/
import Derived.Test.YtnbmmgeoglfbdaaDoorSLex2
import Derived.Lib.LaidTab
import Derived.Deep.AppendLies
set_option linter.unusedVariables false
set_option linter.unusedSimpArgs false
namespace Go.Proofs.YtnbmmgeoglfbdaaDoor.Big
open Go.RowKit Go.Sort
theorem Ext.grow (w : World) (os : Array Obj) : Ext w (grow w os) := ⟨rfl, rfl, rfl, by simp [Sort.grow], fun k hk => by simp [Sort.grow, Array.getElem?_append_left hk]⟩
theorem Ext.bytes (w : World) (e : TypeId) (s : ByteArray) : Ext w (Lib.bytesWorld w e s) := by
  unfold Lib.bytesWorld
  refine ⟨rfl, rfl, rfl, by simp [World.freeze], fun k hk => ?_⟩
  have h1 : k ≠ w.heap.size := by omega
  simp [World.freeze, World.alloc, Array.getElem?_modify, Ne.symm h1, Array.getElem?_push, h1]
  rfl
theorem ownsRow_ext {w w' : World} {base : Nat} {e : TypeId} {size : Nat} {v : Value} {n : Nat} {xs : List Value} (h : w.ownsRow base e size v n xs) (k : Ext w w') : w'.ownsRow base e size v n xs := by
  obtain ⟨h1, h2⟩ := h
  refine ⟨h1, ?_⟩
  rcases h2 with h2 | ⟨g, cap, cur, h3, h4, h5, h6⟩
  · exact .inl h2
  · have hlt : g < w.heap.size := by
      rcases Nat.lt_or_ge g w.heap.size with h' | h'
      · exact h'
      · rw [Array.getElem?_eq_none h'] at h5; cases h5
    exact .inr ⟨g, cap, cur, h3, h4, (Below.block k g hlt).trans h5, h6⟩
/-- the slice, if it has an address, lies in a block of ints -/
def TyI (w : World) (v : Value) : Prop := ∀ a n c, v = .slice (some a) n c → ∃ cs fr, w.heap[a.block]? = some (.cells cs 3 fr)
theorem TyI.ext {w w' : World} {v : Value} (h : TyI w v) (k : Ext w w') : TyI w' v := by
  intro a n c hv
  obtain ⟨cs, fr, hc⟩ := h a n c hv
  refine ⟨cs, fr, (Below.block k _ ?_).trans hc⟩
  rcases Nat.lt_or_ge a.block w.heap.size with h' | h'
  · exact h'
  · rw [Array.getElem?_eq_none h'] at hc; cases hc
theorem TyI.set {w : World} {v : Value} (h : TyI w v) (p : Addr) (u : Value) : TyI (w.setCell p u) v := by
  intro a n c hv
  obtain ⟨cs, fr, hc⟩ := h a n c hv
  by_cases e : p.block = a.block
  · cases hs : p.spot with
    | none => exact ⟨cs.setIfInBounds p.off u, fr, by simp [World.setCell, Array.getElem?_modify, e, hc, hs]⟩
    | some sp => exact ⟨cs, fr, by simp [World.setCell, Array.getElem?_modify, e, hc, hs]⟩
  · exact ⟨cs, fr, (Below.heap_setCell w p u _ (fun h => e h.symm)).trans hc⟩
theorem TyI.of_owns {w : World} {base : Nat} {v : Value} {n : Nat} {xs : List Value} (h : w.ownsRow base 3 1 v n xs) : TyI w v := by
  intro a n' c hv
  rcases h.2 with ⟨rfl, _⟩ | ⟨g, cap, cur, rfl, _, h5, _⟩
  · cases hv
  · injection hv with h1; injection h1 with h1; subst h1
    exact ⟨cur, _, h5⟩
theorem TyI.same {w : World} {A : Option Addr} {n c n' c' : Nat} (h : TyI w (.slice A n c)) : TyI w (.slice A n' c') := fun a m k hv => by
  injection hv with h1; exact h a n c (by rw [h1])
/-- a row of the call's own reads as its cells -/
theorem Row.of_owns {w : World} {base : Nat} {e : TypeId} {v : Value} {xs : List Value} (h : w.ownsRow base e 1 v xs.length xs) : Row w v xs := by
  obtain ⟨h1, h2⟩ := h
  rcases h2 with ⟨rfl, h0⟩ | ⟨g, cap, cur, rfl, _, h5, h6, h7, h8, h9⟩
  · exact ⟨none, 0, by rw [h0], by omega, by omega, fun h => by omega⟩
  · refine ⟨_, cap, rfl, h6, by unfold maxLen at h7; exact h7, fun _ => ⟨g, 0, rfl, fun j u hj => ?_⟩⟩
    have hcell := cell_of_row w g j cur e (0, 0) h5
    rw [Nat.zero_add]
    rw [show w.cell? ⟨g, j, none⟩ = cur[j]? from hcell]
    rw [Nat.mul_one] at h9
    have : (cur.toList.take xs.length)[j]? = some u := by rw [h9]; exact hj
    rw [List.getElem?_take] at this
    split at this
    · simpa using this
    · cases this
end Go.Proofs.YtnbmmgeoglfbdaaDoor.Big
namespace Go.Proofs.YtnbmmgeoglfbdaaDoor.Sc
open Go.RowKit Go.Proofs.YtnbmmgeoglfbdaaDoor.Big

/-- what the script's functions read of package variables -/
structure Env (w : World) : Prop where
  mx : ∃ m : Int, w.cell? ⟨1, 0, none⟩ = some (.int .i64 m)
  tab : Lib.TabIs Tryd.prog w "internal/strconv.uint64pow10" .u64 Lib.pow10Tab
  sg : SignsOK w
  er : ∃ tp p, w.var? Tryd.prog "strconv.ErrRange" = some #[.iface tp p]
  es : ∃ tp p, w.var? Tryd.prog "strconv.ErrSyntax" = some #[.iface tp p]
theorem var_ext {w w' : World} {n : String} {cs : Array Value} (h : w.var? Tryd.prog n = some cs) (k : Ext w w') : w'.var? Tryd.prog n = some cs := by
  unfold World.var? at h ⊢
  cases hg : Tryd.prog.globalNamed n with
  | none => rw [hg] at h; cases h
  | some g =>
    rw [hg] at h
    simp only [Option.bind_some] at h ⊢
    have hlt : g < w.heap.size := by
      rcases Nat.lt_or_ge g w.heap.size with h' | h'
      · exact h'
      · rw [Array.getElem?_eq_none h'] at h; cases h
    rw [Below.block k g hlt]; exact h
theorem Env.ext {w w' : World} (h : Env w) (k : Ext w w') : Env w' := by
  obtain ⟨⟨m, h1⟩, h2, h3, ⟨tp, p, h4⟩, ⟨tp', p', h5⟩⟩ := h
  exact ⟨⟨m, k.cell h1⟩, var_ext h2 k, h3.ext k, ⟨tp, p, var_ext h4 k⟩, ⟨tp', p', var_ext h5 k⟩⟩
theorem Itoa_any (n : Int) (w : World) (hn : inI n) (he : Env w) : Calls Tryd.prog 29 #[.int .i64 n] w (fun e w' => e = .returned (.string (str (Lib.itoa n))) ∧ Ext w w') := by
  refine (Tryd.strconv_Itoa n hn.1 hn.2 w he.tab).mono ?_
  rintro e w' ⟨rfl, k, os, rfl⟩
  exact ⟨rfl, ((Ext.refl w).drewN k).trans (Ext.grow _ os)⟩
def NumPost (w : World) (o : Option Int) (e : Ending) (w' : World) : Prop := (∃ v b, e = .returned (.tuple #[.int .i64 v, .bool b]) ∧ b = o.isSome ∧ (∀ u, o = some u → v = u)) ∧ Ext w w'
set_option maxHeartbeats 1000000 in
set_option maxRecDepth 100000 in
theorem number_any (s : ByteArray) (w : World) (hs : s.size ≤ 1099511627776) (he : Env w) : Calls Tryd.prog 57 #[.string s] w (NumPost w (num s.data.toList)) := by
  obtain ⟨o, ho⟩ : ∃ o, o = num s.data.toList := ⟨_, rfl⟩
  have HO := Lib.hid ho
  rw [← ho]
  clear ho
  cases ha : Lib.atoiAll s.data.toList with
  | ok v =>
    have hv := Lib.atoiAll_bounds ha
    have HO2 : Hid (o = if Lib.itoa v = s.data.toList then some v else none) := Lib.hid (by rw [HO.out]; unfold num; rw [ha])
    have HA := Lib.hid ha
    obtain ⟨t, ht⟩ : ∃ t, t = str (Lib.itoa v) := ⟨_, rfl⟩
    have HT := Lib.hid ht
    have htl : t.toList = Lib.itoa v := by rw [ht, Lib.toList_data, str_list]
    have HTL := Lib.hid htl
    clear ha HO ht htl
    go_enter Tryd.func57, Tryd.ntmps57
    go_wp2_with fail
    refine (Tryd.strconv_Atoi_ok s (by omega) v HA.out _).mono ?_
    rintro e w1 ⟨rfl, hw1⟩
    have hx1 : Ext w w1 := by
      rcases hw1 with rfl | ⟨t, rfl⟩
      · exact Ext.refl _
      · exact Ext.bytes _ _ _
    clear hw1
    go_wp2_with fail
    refine (Itoa_any v _ hv (he.ext hx1)).mono ?_
    rintro e w2 ⟨rfl, hx2⟩
    rw [← HT.out]
    by_cases hq : t.toList = s.toList
    · have hq' : (t.toList == s.toList) = true := by simp [hq]
      have HF : Hid (o = some v) := Lib.hid (by rw [HO2.out, if_pos (by rw [← HTL.out, hq, Lib.toList_data])])
      clear hq HO2
      go_wp2_with fail
      go_ret2
      exact ⟨⟨v, true, rfl, by rw [HF.out]; rfl, fun u h => by rw [HF.out] at h; injection h⟩, hx1.trans hx2⟩
    · have hq' : (t.toList == s.toList) = false := by simp [hq]
      have HF : Hid (o = none) := Lib.hid (by rw [HO2.out, if_neg (by rw [← HTL.out]; rw [Lib.toList_data s] at hq; exact hq)])
      clear hq HO2
      go_wp2_with fail
      go_ret2
      exact ⟨⟨_, false, rfl, by rw [HF.out]; rfl, fun u h => by rw [HF.out] at h; cases h⟩, hx1.trans hx2⟩
  | «syntax» =>
    have HF : Hid (o = none) := Lib.hid (by rw [HO.out]; unfold num; rw [ha])
    have HA := Lib.hid ha
    obtain ⟨tp, p, hvar⟩ := he.es
    have HV := Lib.hid hvar
    clear ha HO hvar
    go_enter Tryd.func57, Tryd.ntmps57
    go_wp2_with fail
    refine (Tryd.strconv_Atoi_syntax_var s (by omega) HA.out tp p _ HV.out).mono ?_
    rintro e w1 ⟨N, rfl, _, _, hx1⟩
    go_wp2_with fail
    go_ret2
    exact ⟨⟨_, false, rfl, by rw [HF.out]; rfl, fun u h => by rw [HF.out] at h; cases h⟩, hx1⟩
  | range =>
    have HF : Hid (o = none) := Lib.hid (by rw [HO.out]; unfold num; rw [ha])
    have HA := Lib.hid ha
    obtain ⟨tp, p, hvar⟩ := he.er
    have HV := Lib.hid hvar
    clear ha HO hvar
    go_enter Tryd.func57, Tryd.ntmps57
    go_wp2_with fail
    refine (Tryd.strconv_Atoi_range_var s (by omega) HA.out tp p _ HV.out).mono ?_
    rintro e w1 ⟨N, rfl, _, _, hx1⟩
    go_wp2_with fail
    go_ret2
    exact ⟨⟨_, false, rfl, by rw [HF.out]; rfl, fun u h => by rw [HF.out] at h; cases h⟩, hx1⟩
theorem infoInt : (Tryd.prog.info? 3).map (fun i => (i.zero, i.size, i.bytes)) = some (some (.int .i64 0), 1, 8) := by kernel_rfl
def NumsPost (w : World) (o : Option (List Int)) (e : Ending) (w' : World) : Prop := (∃ v b, e = .returned (.tuple #[v, .bool b]) ∧ b = o.isSome ∧ (∀ l, o = some l → Row w' v (iV l) ∧ TyI w' v)) ∧ Ext w w'
theorem numsL_step {fs : List BL} {k : Nat} (hk : k < fs.length) : numsL (fs.drop k) = match num fs[k] with | none => none | some v => (numsL (fs.drop (k + 1))).map (v :: ·) := by
  rw [List.drop_eq_getElem_cons hk]
  simp only [numsL]
  cases num fs[k] with
  | none => rfl
  | some v => simp only []; cases numsL (fs.drop (k + 1)) <;> rfl
theorem grown_ext {B : Nat} {w w' : World} {v : Value} (hg : w.grownBy w' v.ownBlock) (a : World) (ha : Ext a w) (hB : a.heap.size ≤ B) (hv : ∀ k, v.ownBlock = some k → B ≤ k) : Ext a w' :=
  Below.grown ha hg ha.size (fun k hk => Nat.le_trans hB (hv k hk))
set_option maxHeartbeats 1000000 in
set_option maxRecDepth 100000 in
theorem numbers_any (A : Option Addr) (n c : Nat) (fs : List BL) (w : World) (h : Row w (.slice A n c) (sV fs)) (hs : ∀ f ∈ fs, f.length ≤ 1099511627776) (hl : fs.length ≤ 1099511627776) (he : Env w) :
    Calls Tryd.prog 45 #[.slice A n c] w (NumsPost w (numsL fs)) := by
  obtain ⟨h0, h1, h2, h3⟩ := h.inj
  rw [sV_len] at h0 h1 h3
  subst h0
  obtain ⟨o, ho⟩ : ∃ o, o = numsL fs := ⟨_, rfl⟩
  have HO := Lib.hid ho
  rw [← ho]
  clear ho
  obtain ⟨i0, hi, hz0, hz1, hz2⟩ := info_parts infoInt
  have HS := Lib.hid hs
  have H3 := Lib.hid h3
  clear hs h3
  go_enter Tryd.func45, Tryd.ntmps45
  go_wp2_with fail
  go_loopw [4, 11] (fun v i wr => ∃ (k : Nat) (acc : List Int), k ≤ fs.length ∧ i = .int .i64 k ∧ acc.length = k ∧ Hid (o = (numsL (fs.drop k)).map (acc ++ ·)) ∧ wr.ownsRow w.heap.size 3 1 v acc.length (iV acc) ∧ Ext w wr) (fun _ i _ => fs.length - (intOf i).toNat)
  case atStart => exact ⟨0, [], by omega, rfl, rfl, Lib.hid (by rw [HO.out]; simp), World.ownsRow_nil _ _ _ _, Ext.refl _⟩
  case round =>
    obtain ⟨k, acc, hk, rfl, hal, HK, hown, hx⟩ := hrel
    by_cases hlt : k < fs.length
    · obtain ⟨b, off, rfl, hc⟩ := H3.out (by omega)
      have hcell := hx.cell (hc k _ (sV_get (List.getElem?_eq_getElem hlt)))
      have hsz : (str fs[k]).size ≤ 1099511627776 := by rw [str_size]; exact HS.out _ (List.getElem_mem hlt)
      have hst := numsL_step hlt
      obtain ⟨q, hq⟩ : ∃ q, q = num fs[k] := ⟨_, rfl⟩
      rw [← hq] at hst
      have HST := Lib.hid hst
      have HQ := Lib.hid hq
      clear hst hc hq
      go_wp2_with fail
      refine (number_any _ _ hsz (he.ext hx)).mono ?_
      rintro e w1 ⟨⟨v, bb, rfl, hb, hv⟩, hx1⟩
      rw [str_list, ← HQ.out] at hb hv
      cases q with
      | none =>
        obtain rfl : bb = false := hb
        have HF : Hid (o = none) := Lib.hid (by rw [HK.out, HST.out]; rfl)
        clear hv
        go_wp2_with fail
        go_ret2
        exact ⟨⟨_, false, rfl, by rw [HF.out]; rfl, fun l h => by rw [HF.out] at h; cases h⟩, hx.trans hx1⟩
      | some u =>
        obtain rfl : bb = true := hb
        obtain rfl : v = u := hv u rfl
        have HN : Hid (o = (numsL (fs.drop (k + 1))).map ((acc ++ [v]) ++ ·)) := Lib.hid (by
          rw [HK.out, HST.out]
          simp only [Option.map_map]
          congr 1
          funext l
          simp)
        have hown1 := ownsRow_ext hown hx1
        have hx2 := hx.trans hx1
        clear hv HK HST hown hcell
        go_wp2_with (at_builtin; refine wpList_append_own _ rfl _ _ 38 rfl w.heap.size 3 i0 (.int .i64 0) 1 8 Tryd.underlying38 hi hz0 hz1 hz2 rfl (by decide) _ _ _ rfl (hown1.alloc _) ⟨w1.heap.size, 0, none⟩ 1 1 [.int .i64 v] rfl rfl ?c1 ?c2 ?c3 ?c4 ?c5 ?_)
        case c1 =>
          intro j u hj
          match j, hj with
          | 0, hj => simp at hj; subst hj; simp [Addr.add]
        case c2 => intro u hu; simp at hu; subst hu; rfl
        case c3 => unfold maxLen; omega
        case c4 => omega
        case c5 => have := hx2.size; simp; omega
        intro v' w2 hown' hgrow _
        have hx3 : Ext w w2 := Below.grown (hx2.alloc _) hgrow (by have := hx2.size; simp; omega) (fun k hk => (hown1.lt k hk).1)
        have hown2 : w2.ownsRow w.heap.size 3 1 v' (acc ++ [v]).length (iV (acc ++ [v])) := by simpa [iV, hal] using hown'
        clear hown' hgrow hown1
        go_wp2_with fail
        go_roundw
        case rel => exact ⟨k + 1, acc ++ [v], by omega, by go_num, by simp [hal], HN, hown2, hx3⟩
        case measure => simp [intOf]; omega
    · obtain rfl : k = fs.length := by omega
      have HF : Hid (o = some acc) := Lib.hid (by rw [HK.out, List.drop_length]; simp [numsL])
      have hrow : Row wr u4 (iV acc) := Row.of_owns (by simpa using hown)
      have hty : TyI wr u4 := TyI.of_owns hown
      clear HK hown
      go_wp2_with fail
      go_ret2
      exact ⟨⟨_, true, rfl, by rw [HF.out]; rfl, fun l h => by rw [HF.out] at h; injection h with h; subst h; exact ⟨hrow, hty⟩⟩, hx⟩

/-- strings.Cut at one byte -/
def CutPost (w : World) (l : BL) (c : UInt8) (e : Ending) (w' : World) : Prop :=
  (∃ a b : BL, ∃ f : Bool, e = .returned (.tuple #[.string (str a), .string (str b), .bool f]) ∧ (f = true → cutB c l = some (a, b)) ∧ (f = false → cutB c l = none ∧ a = l ∧ b = [])) ∧ Ext w w'
theorem Cut_any (s : ByteArray) (c : UInt8) (w : World) (hs : s.size < 4294967281) (he : Env w) : Calls Tryd.prog 21 #[.string s, .string ⟨#[c]⟩] w (CutPost w s.data.toList c) := by
  obtain ⟨m, hm⟩ := he.mx
  refine (Tryd.strings_Cut s ⟨#[c]⟩ m w hs hm).mono ?_
  rintro e w' ⟨rfl, n, rfl⟩
  refine ⟨?_, (Ext.refl w).drewN n⟩
  have hc := cut_eq s.data.toList c
  have e1 : (⟨#[c]⟩ : ByteArray).data.toList = [c] := rfl
  rw [e1, hc]
  cases h : cutB c s.data.toList with
  | none => exact ⟨_, _, false, rfl, fun h => (by cases h), fun _ => ⟨rfl, rfl, rfl⟩⟩
  | some p => exact ⟨p.1, p.2, true, rfl, fun _ => rfl, fun h => (by cases h)⟩
/-- split: n lines, and the rest -/
def SplitPost (w : World) (o : Option (BL × BL)) (e : Ending) (w' : World) : Prop := (∃ a b f, e = .returned (.tuple #[.string (str a), .string (str b), .bool f]) ∧ f = o.isSome ∧ (∀ p, o = some p → p = (a, b))) ∧ Ext w w'
theorem splitL_step {k : Nat} {r : BL} : splitL (k + 1) r = match cutB 10 r with | none => none | some (a, b) => (splitL k b).map fun p => (a ++ 10 :: p.1, p.2) := rfl
set_option maxHeartbeats 1000000 in
set_option maxRecDepth 100000 in
theorem split_any (s : ByteArray) (m : Int) (w : World) (hs : s.size < 2147483648) (hm : 0 ≤ m) (hm2 : m ≤ 9223372036854775807) (he : Env w) :
    Calls Tryd.prog 23 #[.string s, .int .i64 m] w (SplitPost w (splitL m.toNat s.data.toList)) := by
  obtain ⟨o, ho⟩ : ∃ o, o = splitL m.toNat s.data.toList := ⟨_, rfl⟩
  obtain ⟨l, hl⟩ : ∃ l, l = s.data.toList := ⟨_, rfl⟩
  have hll : l.length = s.size := by rw [hl]; exact (Lib.size_eq s).symm
  have hsl : s = str l := by rw [hl, str_of]
  rw [← ho]
  rw [← hl] at ho
  obtain ⟨M, rfl⟩ : ∃ M : Nat, m = (M : Int) := ⟨m.toNat, by omega⟩
  rw [Int.toNat_natCast] at ho
  have HO := Lib.hid ho
  have HL := Lib.hid hl
  have HSL := Lib.hid hsl
  have HLL := Lib.hid hll
  clear ho hl hsl hll
  go_enter Tryd.func23, Tryd.ntmps23
  go_wp2_with fail
  go_loopw [7, 13] (fun r i wr => ∃ (k : Nat) (a b : BL), k ≤ M ∧ i = .int .i64 k ∧ r = .string (str b) ∧ Hid (l = a ++ b) ∧ b.length ≤ s.size ∧ Hid (o = (splitL (M - k) b).map fun p => (a ++ p.1, p.2)) ∧ Ext w wr) (fun _ i _ => M - (intOf i).toNat)
  case atStart => exact ⟨0, [], l, by omega, rfl, by rw [HSL.out], Lib.hid rfl, by rw [HLL.out]; exact Nat.le_refl _, Lib.hid (by rw [HO.out, Nat.sub_zero]; simp), Ext.refl _⟩
  case round =>
    obtain ⟨k, a, b, hk, rfl, rfl, HAB, hbl, HK, hx⟩ := hrel
    have hbs : (str b).size < 4294967281 := by rw [str_size]; omega
    by_cases hlt : k < M
    · go_wp2_with fail
      refine (Cut_any _ 10 _ hbs (he.ext hx)).mono ?_
      rintro e w1 ⟨⟨p, q, f, rfl, hf1, hf2⟩, hx1⟩
      rw [str_list] at hf1 hf2
      cases f with
      | false =>
        have HF : Hid (o = none) := Lib.hid (by
          rw [HK.out, show M - k = (M - (k + 1)) + 1 by omega, splitL_step, (hf2 rfl).1]; rfl)
        clear hf1 hf2
        go_wp2_with fail
        refine bodyPost_ret (v := .tuple #[.string (str []), .string (str []), .bool false]) (by simp [results, Tryd.results23, go_sem]; rfl) rfl ?_
        exact ⟨⟨[], [], false, rfl, by rw [HF.out]; rfl, fun p h => by rw [HF.out] at h; cases h⟩, hx.trans hx1⟩
      | true =>
        have hc := hf1 rfl
        have hsp := (cutB_spec hc).1
        have HF : Hid (o = (splitL (M - (k + 1)) q).map fun x => ((a ++ (p ++ [10])) ++ x.1, x.2)) := Lib.hid (by
          rw [HK.out, show M - k = (M - (k + 1)) + 1 by omega, splitL_step, hc]
          simp only [Option.map_map]
          congr 1
          funext x
          simp)
        have HAB2 : Hid (l = (a ++ (p ++ [10])) ++ q) := Lib.hid (by rw [HAB.out, hsp]; simp)
        have hql : q.length ≤ s.size := by rw [hsp] at hbl; simp at hbl; omega
        clear hf1 hf2 hc hsp HK HAB
        go_wp2_with fail
        go_roundw
        case rel => exact ⟨k + 1, a ++ (p ++ [10]), q, by omega, by go_num, rfl, HAB2, hql, HF, hx.trans hx1⟩
        case measure => simp [intOf]; omega
    · obtain rfl : k = M := by omega
      have HF : Hid (o = some (a, b)) := Lib.hid (by rw [HK.out, Nat.sub_self]; simp [splitL])
      have hab : a.length + b.length = s.size := by rw [← HLL.out, HAB.out]; simp
      have hss : (str b).size = b.length := rfl
      have hsub : (s.size : Int) - (b.length : Int) = (a.length : Int) := by omega
      have hbl2 : b.length ≤ 9223372036854775807 := by omega
      have hal2 : a.length ≤ s.size := by omega
      have HEX : Hid (s.extract 0 a.length = str a) := Lib.hid (by
        rw [HSL.out, HAB.out]
        have h1 := Lib.extract_toList (str (a ++ b)) 0 a.length
        rw [str_list] at h1
        have h2 : (str (a ++ b)).extract 0 a.length = str ((str (a ++ b)).extract 0 a.length).data.toList := (str_of _).symm
        rw [h2, ← Lib.toList_data, h1]; simp)
      clear HK HAB hab
      go_wp2_with fail
      go_ret3
      exact ⟨⟨a, b, true, by rw [← HEX.out]; rfl, by rw [HF.out]; rfl, fun p h => by rw [HF.out] at h; injection h with h; exact h.symm⟩, hx⟩
end Go.Proofs.YtnbmmgeoglfbdaaDoor.Sc

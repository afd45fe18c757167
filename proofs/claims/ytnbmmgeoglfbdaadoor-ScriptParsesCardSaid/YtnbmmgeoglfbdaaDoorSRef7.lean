/- Walks: cut and split of the reference. -/
import Derived.Test.YtnbmmgeoglfbdaaDoorSRNum
import Derived.Test.YtnbmmgeoglfbdaaDoorSRef3
import Derived.Laws.OwnMore
import Derived.BigQuiet
set_option linter.unusedVariables false
set_option linter.unusedSimpArgs false
namespace Go.Proofs.YtnbmmgeoglfbdaaDoor.Sc
open Go.RowKit Go.Proofs.YtnbmmgeoglfbdaaDoor.Big

theorem extract_drop (t : BL) (a b : Nat) : (str t).extract a b = str ((t.drop a).take (b - a)) := by
  have h1 := Lib.extract_toList (str t) a b
  rw [str_list] at h1
  rw [← h1, Lib.toList_data, str_of]
theorem extract_one {t : BL} {k : Nat} {c : UInt8} (hc : t[k]? = some c) : (str t).extract k (k + 1) = str [c] := by
  rw [extract_drop, show k + 1 - k = 1 by omega]
  congr 1
  have hk := (List.getElem?_eq_some_iff.1 hc).1
  rw [List.drop_eq_getElem_cons hk]
  have := (List.getElem?_eq_some_iff.1 hc).2
  simp [this]
theorem extract_take (t : BL) (k : Nat) : (str t).extract 0 k = str (t.take k) := by rw [extract_drop]; simp
theorem extract_rest (t : BL) (k n : Nat) (hn : t.length ≤ n) : (str t).extract k n = str (t.drop k) := by
  rw [extract_drop]
  congr 1
  rw [List.take_of_length_le]
  rw [List.length_drop]; omega
theorem cut_at {t : BL} {k : Nat} (hn : (10 : UInt8) ∉ t.take k) (hc : t[k]? = some 10) : cutB 10 t = some (t.take k, t.drop (k + 1)) := by
  have hk := (List.getElem?_eq_some_iff.1 hc).1
  have e : t = t.take k ++ 10 :: t.drop (k + 1) := by
    have h1 := (List.getElem?_eq_some_iff.1 hc).2
    have h2 := List.drop_eq_getElem_cons hk
    rw [h1] at h2
    rw [← h2, List.take_append_drop]
  have := cutB_some (c := 10) (b := t.drop (k + 1)) hn
  rw [← e] at this
  exact this
def CutR (w : World) (t : BL) (e : Ending) (w' : World) : Prop := (∃ a b f, e = .returned (.tuple #[.string (str a), .string (str b), .bool f]) ∧ cutB 10 t = (if f = true then some (a, b) else none)) ∧ Ext w w'
theorem not_mem_take {t : BL} {k : Nat} {c x : UInt8} (hn : x ∉ t.take k) (hc : t[k]? = some c) (hx : c ≠ x) : x ∉ t.take (k + 1) := by
  rw [List.take_add_one, hc, List.mem_append, not_or]
  exact ⟨hn, fun h => hx (by simpa [eq_comm] using h)⟩
set_option maxHeartbeats 2000000 in
set_option maxRecDepth 100000 in
theorem cut_any (t : BL) (w : World) (ht : t.length ≤ 1099511627776) : Calls Tryd.prog 24 #[.string (str t)] w (CutR w t) := by
  have hss : (str t).size = t.length := rfl
  go_enter Tryd.func24, Tryd.ntmps24
  go_wp2_with fail
  go_loopw [5] (fun i wr => ∃ k : Nat, k ≤ t.length ∧ i = .int .i64 k ∧ Hid ((10 : UInt8) ∉ t.take k) ∧ w = wr) (fun i _ => t.length - (intOf i).toNat)
  case atStart => exact ⟨0, by omega, rfl, Lib.hid (by simp), rfl⟩
  case round =>
    obtain ⟨k, hk, rfl, HK, rfl⟩ := hrel
    by_cases hlt : k < t.length
    · have hlt' : k < (str t).size := by omega
      obtain ⟨c, hc⟩ : ∃ c, t[k]? = some c := ⟨_, List.getElem?_eq_getElem hlt⟩
      have hg : (str t)[k]'hlt' = c := str_get hc hlt'
      by_cases h10 : c = 10
      · subst h10
        have e1 : ((((str t)[k]'hlt').toNat : Int) == 10) = true := by rw [hg]; rfl
        have HCUT := Lib.hid (cut_at HK.out hc)
        have x1 := extract_take t k
        have x2 := extract_rest t (k + 1) t.length (Nat.le_refl _)
        clear hg hc
        go_upto_region 5 with fail
        go_quiet (fail)
        go_wp2_with fail
        go_ret3
        exact ⟨⟨t.take k, t.drop (k + 1), true, by rw [← x1, ← x2]; rfl, by rw [if_pos rfl]; exact HCUT.out⟩, by repeat (first | exact Ext.refl _ | apply Ext.drewN | apply Ext.drew)⟩
      · have e1 : ((((str t)[k]'hlt').toNat : Int) == 10) = false := by
          rw [hg]
          have : ¬ c.toNat = 10 := fun h => h10 (UInt8.toNat_inj.1 (by simpa using h))
          simp; omega
        have HK2 := Lib.hid (not_mem_take HK.out hc h10)
        clear hg hc HK
        go_wp2_with fail
        exact ⟨⟨k + 1, by omega, by go_num, HK2, trivial⟩, by simp [intOf]; omega⟩
    · obtain rfl : k = t.length := by omega
      have HN : Hid (cutB 10 t = none) := Lib.hid (cutB_none (by have := HK.out; rwa [List.take_length] at this))
      go_wp2_with fail
      go_ret3
      exact ⟨⟨t, [], false, rfl, by rw [HN.out]; rfl⟩, Ext.refl _⟩

theorem parts_sep (c : UInt8) : ∀ l : BL, parts c (l ++ [c]) = parts c l ++ [[]]
  | [] => by simp [parts]
  | x :: r => by
    rw [List.cons_append]
    unfold parts
    rw [parts_sep c r]
    by_cases h : x = c
    · rw [if_pos h, if_pos h]; rfl
    · rw [if_neg h, if_neg h]
      cases e : parts c r with
      | nil => exact absurd e (parts_ne c r)
      | cons p ps => rfl
theorem parts_snoc (c y : UInt8) (hy : y ≠ c) : ∀ (l : BL) (P : List BL) (q : BL), parts c l = P ++ [q] → parts c (l ++ [y]) = P ++ [q ++ [y]]
  | [], P, q, h => by
    have h1 : parts c [] = [[]] := rfl
    rw [h1] at h
    cases P with
    | nil => simp at h; subst h; simp [parts, hy]
    | cons a b => simp at h
  | x :: r, P, q, h => by
    rw [List.cons_append]
    unfold parts at h ⊢
    by_cases hx : x = c
    · rw [if_pos hx] at h ⊢
      cases P with
      | nil =>
        simp only [List.nil_append, List.cons.injEq] at h
        exact absurd h.2 (parts_ne c r)
      | cons a P' =>
        simp only [List.cons_append, List.cons.injEq] at h
        rw [parts_snoc c y hy r P' q h.2, ← h.1]; rfl
    · rw [if_neg hx] at h ⊢
      cases e : parts c r with
      | nil => exact absurd e (parts_ne c r)
      | cons p ps =>
        rw [e] at h
        simp only at h
        rcases List.eq_nil_or_concat ps with rfl | ⟨ps', z, rfl⟩
        · rw [parts_snoc c y hy r [] p e]
          cases P with
          | nil => simp at h; subst h; rfl
          | cons a b => simp at h
        · rw [List.concat_eq_append] at e h
          rw [parts_snoc c y hy r (p :: ps') z (by rw [e]; rfl)]
          simp only [List.cons_append]
          have h' : ((x :: p) :: ps') ++ [z] = P ++ [q] := by simpa using h
          obtain ⟨h1, h2⟩ := List.append_inj' h' rfl
          simp only [List.cons.injEq, and_true] at h2
          subst h1 h2
          rfl
theorem infoStr : (Tryd.prog.info? 9).map (fun i => (i.zero, i.size, i.bytes)) = some (some (.string ⟨#[]⟩), 1, 16) := by kernel_rfl
theorem sV_append (a b : List BL) : sV (a ++ b) = sV a ++ sV b := by simp [sV]
theorem sV_snoc (P : List BL) (q : BL) : sV (P ++ [q]) = sV P ++ [.string (str q)] := by simp [sV]
def SplitR (w : World) (L : List BL) (e : Ending) (w' : World) : Prop := (∃ g c, e = .returned (.slice (some ⟨g, 0, none⟩) L.length c) ∧ Row w' (.slice (some ⟨g, 0, none⟩) L.length c) (sV L)) ∧ Ext w w'
set_option maxHeartbeats 4000000 in
set_option maxRecDepth 100000 in
theorem splitR_any (t : BL) (w : World) (ht : t.length ≤ 1099511627776) : Calls Tryd.prog 46 #[.string (str t)] w (SplitR w (parts 32 t)) := by
  have hss : (str t).size = t.length := rfl
  obtain ⟨i0, hi, hz0, hz1, hz2⟩ := info_parts infoStr
  go_enter Tryd.func46, Tryd.ntmps46
  go_wp2_with fail
  have h00 : (w.alloc (.cells #[.string ⟨#[]⟩] 9)).ownsRow w.heap.size 9 1 (.slice (some ⟨w.heap.size, 0, none⟩) 1 1) 1 [.string ⟨#[]⟩] := World.ownsRow_lit w #[.string ⟨#[]⟩] 1 (Nat.le_refl _) (by decide) rfl
  go_loopw [3, 4] (fun v i wr => ∃ (k M : Nat) (P : List BL) (q : BL) (g c : Nat), k ≤ t.length ∧ i = .int .i64 k ∧ M ≤ k ∧ v = .slice (some ⟨g, 0, none⟩) (M + 1) c ∧ Hid (P.length = M) ∧ q.length ≤ k ∧ Hid (parts 32 (t.take k) = P ++ [q]) ∧ wr.ownsRow w.heap.size 9 1 (.slice (some ⟨g, 0, none⟩) (M + 1) c) (M + 1) (sV (P ++ [q])) ∧ Ext w wr) (fun _ i _ => t.length - (intOf i).toNat)
  case atStart => exact ⟨0, 0, [], [], _, 1, by omega, rfl, by omega, rfl, Lib.hid rfl, by simp, Lib.hid (by simp [parts]), h00, (Ext.refl w).alloc _⟩
  case round =>
    clear h00
    obtain ⟨k, M, P, q, g, c, hk, rfl, hMk, rfl, HPM, hqk, HP, hown, hE⟩ := hrel
    by_cases hlt : k < t.length
    · have hlt' : k < (str t).size := by omega
      obtain ⟨ch, hc⟩ : ∃ c, t[k]? = some c := ⟨_, List.getElem?_eq_getElem hlt⟩
      have hg : (str t)[k]'hlt' = ch := str_get hc hlt'
      have htk : t.take (k + 1) = t.take k ++ [ch] := by rw [List.take_add_one, hc]; rfl
      by_cases h32 : ch = 32
      · subst h32
        have e1 : ((((str t)[k]'hlt').toNat : Int) == 32) = true := by rw [hg]; rfl
        have HP2 : Hid (parts 32 (t.take (k + 1)) = (P ++ [q]) ++ [[]]) := Lib.hid (by rw [htk, parts_sep, HP.out])
        have HPM2 : Hid ((P ++ [q]).length = M + 1) := Lib.hid (by rw [List.length_append, HPM.out]; rfl)
        have hB := hE.size
        clear hg hc htk HP
        go_wp2_with (at_builtin; refine wpList_append_own _ rfl _ _ 42 rfl w.heap.size 9 i0 (.string ⟨#[]⟩) 1 16 Tryd.underlying42 hi hz0 hz1 hz2 rfl (by decide) _ _ _ rfl (hown.alloc _) ⟨wr.heap.size, 0, none⟩ 1 1 [.string ⟨#[]⟩] rfl rfl ?c1 ?c2 ?c3 ?c4 ?c5 ?_)
        case c1 =>
          intro j u hj
          match j, hj with
          | 0, hj => simp at hj; subst hj; simp [Addr.add]
        case c2 => intro u hu; simp at hu; subst hu; rfl
        case c3 => unfold maxLen; omega
        case c4 => omega
        case c5 => simp; omega
        intro v' w7 hown' hgrow _
        have hE7 : Ext w w7 := Below.grown (hE.alloc _) hgrow (by simp; omega) (fun k hk => (hown.lt k hk).1)
        have e2 : sV ((P ++ [q]) ++ [[]]) = sV (P ++ [q]) ++ [.string ⟨#[]⟩] := sV_snoc _ _
        rw [← e2] at hown'
        obtain ⟨g7, c7, rfl⟩ : ∃ g c, v' = .slice (some ⟨g, 0, none⟩) (M + 1 + 1) c := by
          rcases hown'.2 with ⟨hv, h0⟩ | ⟨g, cap, cur, hv, _⟩
          · omega
          · exact ⟨g, cap, hv⟩
        clear hgrow hown hE e2
        go_wp2_with fail
        go_roundw
        case rel => exact ⟨k + 1, M + 1, P ++ [q], [], g7, c7, by omega, by go_num, by omega, rfl, HPM2, by simp, HP2, hown', hE7⟩
        case measure => simp [intOf]; omega
      · have e1 : ((((str t)[k]'hlt').toNat : Int) == 32) = false := by
          rw [hg]
          have : ¬ ch.toNat = 32 := fun h => h32 (UInt8.toNat_inj.1 (by simpa using h))
          simp; omega
        have HP2 : Hid (parts 32 (t.take (k + 1)) = P ++ [q ++ [ch]]) := Lib.hid (by rw [htk, parts_snoc 32 ch h32 _ _ _ HP.out])
        have hgM : (sV (P ++ [q]))[M]? = some (.string (str q)) := by rw [sV_snoc, List.getElem?_append_right (by simp [HPM.out]), sV_len, HPM.out]; simp
        have y0 : wr.cell? ⟨g, M, none⟩ = some (.string (str q)) := by rw [hown.cellAt M (by omega)]; exact hgM
        have y1 : wr.frozen? ⟨g, M, none⟩ = false := hown.frozenAt M
        have x1 := extract_one hc
        have hsx : (str [ch]).size = 1 := rfl
        have hsq : (str q).size = q.length := rfl
        have hcg : ¬ 9223372036854775807 < q.length + 1 := by omega
        have hst := hown.stored M (.string (str (q ++ [ch])))
        have hset : (sV (P ++ [q])).set M (.string (str (q ++ [ch]))) = sV (P ++ [q ++ [ch]]) := by
          rw [sV_snoc, sV_snoc, List.set_append_right _ _ (by simp [HPM.out]), sV_len, HPM.out, Nat.sub_self]; rfl
        rw [hset] at hst
        have hgb : w.heap.size ≤ g := (hown.lt g rfl).1
        have hE7 : Ext w (wr.setCell ⟨g, M, none⟩ (.string (str (q ++ [ch])))) := hE.set hgb _
        have hca : str q ++ str [ch] = str (q ++ [ch]) := str_append _ _
        have hown7 := hst.1
        have b1 : (0 : Int) ≤ (M : Int) := by omega
        have b2 : (M : Int) < ((M : Int) + 1) := by omega
        clear hg hc htk HP hst hset hgM hgb h32
        go_upto_region 7 with fail
        go_region
        all_goals (
          go_wp2_with fail
          go_roundw
          case rel => exact ⟨k + 1, M, P, q ++ [ch], g, c, by omega, by go_num, by omega, rfl, HPM, by simp; omega, HP2, hown7.drew, hE7.drew⟩
          case measure => simp [intOf]; omega)
    · obtain rfl : k = t.length := by omega
      have hp := HP.out
      rw [List.take_length] at hp
      have hl : (parts 32 t).length = M + 1 := by rw [hp, List.length_append, HPM.out]; rfl
      have hv : Row wr (.slice (some ⟨g, 0, none⟩) (parts 32 t).length c) (sV (parts 32 t)) := by
        rw [hl, hp]
        have := Row.of_owns (xs := sV (P ++ [q])) (by rw [sV_len, List.length_append, HPM.out]; exact hown)
        exact this
      have HL := Lib.hid hl
      clear hp hl HP hown
      go_wp2_with fail
      go_ret
      exact ⟨⟨g, c, by rw [HL.out]; rfl, hv⟩, hE⟩
end Go.Proofs.YtnbmmgeoglfbdaaDoor.Sc

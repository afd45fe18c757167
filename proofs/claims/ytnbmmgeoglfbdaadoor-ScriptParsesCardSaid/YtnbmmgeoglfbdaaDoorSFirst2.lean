/- Walk: first of the script. -/
import Derived.Test.YtnbmmgeoglfbdaaDoorSFirst
import Derived.Deep.DeepCutAuto
set_option linter.unusedVariables false
set_option linter.unusedSimpArgs false
namespace Go.Proofs.YtnbmmgeoglfbdaaDoor.Big
open Go.RowKit
theorem Box.set4 {w : World} {b : Nat} {E : TypeId} {x y z u : Value} (h : Box w b E #[x, y, z, u]) (x' y' z' u' : Value) :
    Box ((((w.setCell ⟨b, 0, none⟩ x').setCell ⟨b, 1, none⟩ y').setCell ⟨b, 2, none⟩ z').setCell ⟨b, 3, none⟩ u') b E #[x', y', z', u'] := by
  have h1 : Box _ _ _ #[x', y, z, u] := h.set 0 x'
  have h2 : Box _ _ _ #[x', y', z, u] := h1.set 1 y'
  have h3 : Box _ _ _ #[x', y', z', u] := h2.set 2 z'
  exact h3.set 3 u'
theorem Box.c2 {w : World} {b : Nat} {E : TypeId} {x y z : Value} {r : List Value} (h : Box w b E (x :: y :: z :: r).toArray) : w.cell? ⟨b, 2, none⟩ = some z := h.cell 2
theorem Box.c3 {w : World} {b : Nat} {E : TypeId} {x y z u : Value} {r : List Value} (h : Box w b E (x :: y :: z :: u :: r).toArray) : w.cell? ⟨b, 3, none⟩ = some u := h.cell 3
theorem Box.c4 {w : World} {b : Nat} {E : TypeId} {x y z u v : Value} {r : List Value} (h : Box w b E (x :: y :: z :: u :: v :: r).toArray) : w.cell? ⟨b, 4, none⟩ = some v := h.cell 4
theorem boxesT2 (w : World) (E0 E1 : TypeId) (c0 c1 : Array Value) :
    Box ((w.alloc (.cells c0 E0)).alloc (.cells c1 E1)) w.heap.size E0 c0 ∧ Box ((w.alloc (.cells c0 E0)).alloc (.cells c1 E1)) (w.heap.size + 1) E1 c1 ∧ Ext w ((w.alloc (.cells c0 E0)).alloc (.cells c1 E1)) := by
  have s1 : (w.alloc (.cells c0 E0)).heap.size = w.heap.size + 1 := by simp
  refine ⟨(Box.new w E0 c0).alloc _, ?_, ((Ext.refl w).alloc _).alloc _⟩
  have := Box.new (w.alloc (.cells c0 E0)) E1 c1; rwa [s1] at this
theorem Ext.set4 {a w : World} (h : Ext a w) {b : Nat} (hb : a.heap.size ≤ b) (x y z u : Value) : Ext a ((((w.setCell ⟨b, 0, none⟩ x).setCell ⟨b, 1, none⟩ y).setCell ⟨b, 2, none⟩ z).setCell ⟨b, 3, none⟩ u) :=
  (((h.set (p := ⟨b, 0, none⟩) hb x).set (p := ⟨b, 1, none⟩) hb y).set (p := ⟨b, 2, none⟩) hb z).set (p := ⟨b, 3, none⟩) hb u
theorem Row.tailS {w : World} {b off n c : Nat} {f : BL} {fs : List BL} (h : Row w (.slice (some ⟨b, off, none⟩) n c) (sV (f :: fs))) : Row w (.slice (some ⟨b, off + 1, none⟩) fs.length (c - 1)) (sV fs) := by
  have := Row.tail (vs := sV fs) h (some ⟨b, off + 1, none⟩) (fun _ => rfl)
  rwa [sV_len] at this
theorem Row.init {w : World} {A : Option Addr} {n c : Nat} {ys : List Int} {z : Int} (h : Row w (.slice A n c) (iV (ys ++ [z]))) : Row w (.slice A ys.length c) (iV ys) := by
  have := h.take ys.length (by simp)
  have e : (iV (ys ++ [z])).take ys.length = iV ys := by unfold iV; rw [List.map_append, List.take_left' (by simp)]
  rwa [e] at this
theorem Row.farB {w : World} {b : Nat} {E : TypeId} {cs : Array Value} {v : Value} {xs : List Int} (h : Row w v (iV xs)) (hb : Box w b E cs) (hno : ∀ (i : Nat) (x : Value), cs[i]? = some x → ∀ z, x ≠ .int .i64 z) (i : Nat) (u : Value) : Row (w.setCell ⟨b, i, none⟩ u) v (iV xs) := by
  obtain ⟨A, c, rfl, h1, h2, h3⟩ := h
  refine ⟨A, c, rfl, h1, h2, fun hn => ?_⟩
  obtain ⟨b', off, rfl, hc⟩ := h3 hn
  refine ⟨b', off, rfl, fun j x hj => ?_⟩
  have hcj := hc j x hj
  by_cases hbb : b' = b
  · subst hbb
    exfalso
    rw [hb.cell] at hcj
    obtain ⟨z, _, rfl⟩ : ∃ z, z ∈ xs ∧ Value.int .i64 z = x := by
      have := List.mem_of_getElem? hj
      simpa [iV] using this
    exact hno _ _ hcj z rfl
  · rw [World.cell?_setCell_other _ _ _ _ (fun e => hbb (by injection e with e; exact e.symm))]; exact hcj
theorem noI4 (kd : Int) (nm tx : ByteArray) (A : Option Addr) (n c : Nat) : ∀ (i : Nat) (x : Value), (#[.int .u8 kd, .string nm, .slice A n c, .string tx] : Array Value)[i]? = some x → ∀ z, x ≠ .int .i64 z := by
  intro i x h z
  match i, h with
  | 0, h => simp at h; subst h; simp
  | 1, h => simp at h; subst h; simp
  | 2, h => simp at h; subst h; simp
  | 3, h => simp at h; subst h; simp
  | i + 4, h => simp at h
theorem Row.put4 {w : World} {b : Nat} {E : TypeId} {kd kd' : Int} {nm tx nm' tx' : ByteArray} {A A' : Option Addr} {n c n' c' : Nat} {v : Value} {xs : List Int} (h : Row w v (iV xs)) (hb : Box w b E #[.int .u8 kd, .string nm, .slice A n c, .string tx]) :
    Row ((((w.setCell ⟨b, 0, none⟩ (.int .u8 kd')).setCell ⟨b, 1, none⟩ (.string nm')).setCell ⟨b, 2, none⟩ (.slice A' n' c')).setCell ⟨b, 3, none⟩ (.string tx')) v (iV xs) := by
  have h1 : Box _ _ _ #[.int .u8 kd', .string nm, .slice A n c, .string tx] := hb.set 0 (.int .u8 kd')
  have h2 : Box _ _ _ #[.int .u8 kd', .string nm', .slice A n c, .string tx] := h1.set 1 (.string nm')
  have h3 : Box _ _ _ #[.int .u8 kd', .string nm', .slice A' n' c', .string tx] := h2.set 2 (.slice A' n' c')
  exact (((h.farB hb (noI4 _ _ _ _ _ _) 0 _).farB h1 (noI4 _ _ _ _ _ _) 1 _).farB h2 (noI4 _ _ _ _ _ _) 2 _).farB h3 (noI4 _ _ _ _ _ _) 3 _
end Go.Proofs.YtnbmmgeoglfbdaaDoor.Big
namespace Go.Proofs.YtnbmmgeoglfbdaaDoor.Sc
open Go.RowKit Go.Proofs.YtnbmmgeoglfbdaaDoor.Big

def CmdV (w : World) (v : Value) (c : Cmd) : Prop := ∃ A n cc, v = .agg #[.int .u8 (c.kind : Int), .string (str c.name), .slice A n cc, .string (str c.text)] ∧ Row w (.slice A n cc) (iV c.nums)
theorem CmdV.ext {w w' : World} {v : Value} {c : Cmd} (h : CmdV w v c) (k : Ext w w') : CmdV w' v c := by
  obtain ⟨A, n, cc, rfl, h1⟩ := h
  exact ⟨A, n, cc, rfl, h1.ext k⟩
def FirstPost (w : World) (o : Option (Cmd × Nat)) (e : Ending) (w' : World) : Prop :=
  (∃ kd nm A n cc tx m b, e = .returned (.tuple #[.agg #[.int .u8 kd, .string nm, .slice A n cc, .string tx], .int .i64 m, .bool b]) ∧ b = o.isSome ∧ 0 ≤ m ∧ m ≤ 9223372036854775807 ∧
    (∀ c k, o = some (c, k) → CmdV w' (.agg #[.int .u8 kd, .string nm, .slice A n cc, .string tx]) c ∧ m = (k : Int) ∧ TyI w' (.slice A n cc))) ∧ Ext w w'
set_option maxHeartbeats 4000000 in
set_option maxRecDepth 100000 in
theorem first_scr (s : ByteArray) (w : World) (hs : s.size < 2147483648) (he : Env w) (hf : FormatsOK w) : Calls Tryd.prog 22 #[.string s] w (FirstPost w (firstL s.data.toList)) := by
  obtain ⟨o, ho⟩ : ∃ o, o = firstL s.data.toList := ⟨_, rfl⟩
  obtain ⟨l, hl⟩ : ∃ l, l = s.data.toList := ⟨_, rfl⟩
  have hll : l.length = s.size := by rw [hl]; exact (Lib.size_eq s).symm
  rw [← ho]
  rw [← hl] at ho
  have HO := Lib.hid ho
  have HL := Lib.hid hl
  have HLL := Lib.hid hll
  clear ho hl hll
  go_enter Tryd.func22, Tryd.ntmps22
  go_wp2_with fail
  have B0 := Box.new w 40 #[.int .u8 0, .string ⟨#[]⟩, .slice none 0 0, .string ⟨#[]⟩]
  have hE0 : Ext w (w.alloc (.cells #[.int .u8 0, .string ⟨#[]⟩, .slice none 0 0, .string ⟨#[]⟩] 40)) := (Ext.refl w).alloc _
  generalize w.alloc (.cells #[.int .u8 0, .string ⟨#[]⟩, .slice none 0 0, .string ⟨#[]⟩] 40) = W0 at *
  refine (Cut_any s 32 _ (by omega) (he.ext hE0)).mono ?_
  rintro e w1 ⟨⟨a, b, f, rfl, hf1, hf2⟩, hx1⟩
  rw [← HL.out] at hf1 hf2
  have HF1 := Lib.hid hf1
  have HF2 := Lib.hid hf2
  clear hf1 hf2
  have hs0 : s.size < 4294967281 := by omega
  have hbl : Hid (f = true → b.length ≤ s.size) := Lib.hid (fun h => by
    have h1 := (cutB_spec (HF1.out h)).1
    have h2 := HLL.out
    rw [h1] at h2; simp at h2; omega)
  go_upto_if 21 with (fail)
  rename_i hK
  go_cut [8] (fun v wx => ∃ A n c fs, v = .slice A n c ∧ Row wx (.slice A n c) (sV fs) ∧ Hid (headL l = (a, fs)) ∧ Hid (∀ x ∈ fs, x.length ≤ s.size) ∧ fs.length ≤ s.size + 1 ∧ Ext W0 wx)
  case first => as_aux_lemma =>
    cases f with
    | false =>
      have HH : Hid (headL l = (a, [])) := Lib.hid (by
        obtain ⟨h1, h2, h3⟩ := HF2.out rfl
        unfold headL; rw [h1, h2])
      clear HF1 HF2 hbl
      go_wp2_with fail
      go_meet
      exact ⟨_, _, _, [], rfl, Row.nil _ _ _ (by omega), HH, Lib.hid (fun x h => by cases h), by simp, hx1⟩
    | true =>
      have HH : Hid (headL l = (a, parts 32 b)) := Lib.hid (by
        unfold headL; rw [HF1.out rfl])
      have hb2 := hbl.out rfl
      have hpl := parts_len 32 b
      have HP : Hid (∀ x ∈ parts 32 b, x.length ≤ s.size) := Lib.hid (fun x hx => by
        have := parts_mem_len 32 b x hx; omega)
      clear HF1 HF2 hbl
      go_wp2_with fail
      refine (Split_any (str b) 32 _ (by rw [str_size]; omega) ((he.ext hE0).ext hx1)).mono ?_
      rintro e w2 ⟨⟨v, rfl, hv⟩, hx2⟩
      rw [str_list] at hv
      obtain ⟨A, c, rfl⟩ := hv.shape
      go_wp2_with fail
      go_meet
      exact ⟨_, _, _, parts 32 b, rfl, (by simpa using hv), HH, HP, by omega, hx1.trans hx2⟩
  case rest => as_aux_lemma =>
    obtain ⟨A, n, c, fs, rfl, hrow, HH, HP, hfl, hx2⟩ := hcut
    refine hK _ _ ?_
    have hb0 := B0.ext hx2
    have he2 := (he.ext hE0).ext hx2
    obtain ⟨cs, tt, fr, hg2, hg3, hg4⟩ := (hf.ext hE0).ext hx2
    have HG4 := Lib.hid hg4
    have his : (Tryd.prog.info? 65).map (·.size) = some cs.size := by rw [hg3]; kernel_rfl
    have HIS := Lib.hid his
    clear hg4 hg3 his
    have hE2 := hE0.trans hx2
    clear hK HF1 HF2 hbl hx1
    have HOO : Hid (o = match findW a words 0 with | none => none | some i => bodyL i fs) := Lib.hid (by rw [HO.out]; unfold firstL; rw [HH.out]; rfl)
    go_wp2_with (with_reducible refine wpList_load_row rfl _ _ rfl 0 rfl tt cs fr _ hg2 Tryd.underlying65 rfl HIS.out ?_)
    go_loopw [8, 25] (fun v i wr => ∃ k : Nat, k ≤ 11 ∧ v = .slice A n c ∧ i = .int .i64 k ∧ Hid (findW a words 0 = findW a (words.drop k) k) ∧ Ext wc wr) (fun _ i _ => 11 - (intOf i).toNat)
    case atStart => exact ⟨0, by omega, rfl, rfl, Lib.hid (by simp), Ext.refl _⟩
    case round =>
      obtain ⟨k, hk, rfl, rfl, HK, hx3⟩ := hrel
      by_cases hlt : k < 11
      · have hi := index_fmt cs k hlt (HG4.out k hlt)
        have hwd : words.drop k = word k :: words.drop (k + 1) := by
          have : k < words.length := hlt
          rw [List.drop_eq_getElem_cons this]; congr 1; simp [word, List.getD, this]
        obtain ⟨wd, hwdn⟩ : ∃ x, x = str (word k) := ⟨_, rfl⟩
        obtain ⟨vN, hvN⟩ : ∃ x, x = fN k := ⟨_, rfl⟩
        obtain ⟨vT, hvT⟩ : ∃ x, x = fT k := ⟨_, rfl⟩
        obtain ⟨lo, hlo⟩ : ∃ x, x = least k := ⟨_, rfl⟩
        obtain ⟨hi2, hhi⟩ : ∃ x, x = most k := ⟨_, rfl⟩
        rw [← hwdn, ← hvN, ← hvT, ← hlo, ← hhi] at hi
        have hlob : lo ≤ 15 := by rw [hlo]; unfold least; repeat (first | omega | split)
        have hhib : hi2 ≤ 1000 := by rw [hhi]; unfold most; repeat (first | omega | split)
        have HW := Lib.hid hwdn
        have HVN := Lib.hid hvN
        have HVT := Lib.hid hvT
        have HLO := Lib.hid hlo
        have HHI := Lib.hid hhi
        have HWD := Lib.hid hwd
        clear hwd hwdn hvN hvT hlo hhi
        by_cases hq : wd.toList = (str a).toList
        · have hq' : (wd.toList == (str a).toList) = true := by simp [hq]
          have HFND : Hid (findW a words 0 = some k) := Lib.hid (by
            rw [HK.out, HWD.out]
            unfold findW
            rw [if_pos]
            rw [HW.out, Lib.toList_data, str_list, Lib.toList_data, str_list] at hq; exact hq)
          have HB : Hid (o = bodyL k fs) := Lib.hid (by rw [HOO.out, HFND.out])
          clear hq HK HWD HFND HOO
          have hk8 : IntKind.u8.wrap ((k : Int) + 1) = (k : Int) + 1 := by
            rw [IntKind.wrap_u8]; omega
          go_upto_region 10 with fail
          obtain ⟨Bf, Bc, hE3⟩ := boxesT2 wr 64 40 #[.string wd, .bool vN, .int .i64 lo, .int .i64 hi2, .bool vT] #[.int .u8 ((k : Int) + 1), .string ⟨#[]⟩, .slice none 0 0, .string ⟨#[]⟩]
          generalize hWg : ((wr.alloc (.cells #[.string wd, .bool vN, .int .i64 lo, .int .i64 hi2, .bool vT] 64)).alloc (.cells #[.int .u8 ((k : Int) + 1), .string ⟨#[]⟩, .slice none 0 0, .string ⟨#[]⟩] 40)) = W2 at *
          clear hWg
          have hx4 := hx3.trans hE3
          have hrow2 := hrow.ext hx4
          have B02 := hb0.ext hx4
          have he3 := he2.ext hx4
          have hE4 := hE2.trans hx4
          have hsz3 := hE2.trans hx3
          obtain ⟨bf, hbf⟩ : ∃ x, x = wr.heap.size := ⟨_, rfl⟩
          have hbfw : w.heap.size ≤ bf := by rw [hbf]; exact hsz3.size
          rw [← hbf] at Bf Bc ⊢
          have hbfc : wc.heap.size ≤ bf := by rw [hbf]; exact hx3.size
          clear hi hx3 hE3 he2 hE2 hsz3 hbf hb0
          have g1 := Bf.c1
          go_upto_if 38 with (fail)
          rename_i hK2
          go_cut [8] (fun v wx => ∃ A' n' c' fs' nm, v = .slice A' n' c' ∧ Row wx (.slice A' n' c') (sV fs') ∧ Hid (namePart k fs = some (nm, fs')) ∧ Hid (∀ x ∈ fs', x.length ≤ s.size) ∧ fs'.length ≤ s.size + 1 ∧
            Box wx (bf + 1) 40 #[.int .u8 ((k : Int) + 1), .string (str nm), .slice none 0 0, .string ⟨#[]⟩] ∧ Box wx bf 64 #[.string wd, .bool vN, .int .i64 lo, .int .i64 hi2, .bool vT] ∧ Box wx w.heap.size 40 #[.int .u8 0, .string ⟨#[]⟩, .slice none 0 0, .string ⟨#[]⟩] ∧ Ext w wx)
          case first => as_aux_lemma =>
            cases vN with
            | false =>
              have HNP : Hid (namePart k fs = some ([], fs)) := Lib.hid (by unfold namePart; rw [← HVN.out]; rfl)
              go_wp2_with fail
              go_meet
              exact ⟨_, _, _, fs, [], rfl, hrow2, HNP, HP, hfl, Bc, Bf, B02, hE4⟩
            | true =>
              cases fs with
              | nil =>
                obtain ⟨h0, _⟩ := hrow2.inj
                obtain rfl : n = 0 := h0
                have HF : Hid (o = none) := Lib.hid (by rw [HB.out]; unfold bodyL namePart; rw [← HVN.out]; rfl)
                have z0 := B02.c0
                have z1 := B02.c1
                have z2 := B02.c2
                have z3 := B02.c3
                have zf0 := B02.frozen 0
                have zf1 := B02.frozen 1
                have zf2 := B02.frozen 2
                have zf3 := B02.frozen 3
                go_wp2_with fail
                have hbz := B02.set4 (.int .u8 0) (.string ⟨#[]⟩) (.slice none 0 0) (.string ⟨#[]⟩)
                have zz0 := hbz.c0
                have zz1 := hbz.c1
                have zz2 := hbz.c2
                have zz3 := hbz.c3
                refine bodyPost_ret (v := .tuple #[.agg #[.int .u8 0, .string ⟨#[]⟩, .slice none 0 0, .string ⟨#[]⟩], .int .i64 0, .bool false]) (by simp [results, Tryd.results22, go_sem, zz0, zz1, zz2, zz3]) rfl ?_
                exact ⟨⟨0, ⟨#[]⟩, none, 0, 0, ⟨#[]⟩, 0, false, rfl, by rw [HF.out]; rfl, by omega, by omega, fun c k h => by rw [HF.out] at h; cases h⟩, hE4.set4 (Nat.le_refl _) _ _ _ _⟩
              | cons fd fs =>
                obtain ⟨h0, h1, h2, h3⟩ := hrow2.inj
                obtain ⟨b', off, rfl, hc⟩ := h3 (by simp)
                have hc0 := hc 0 _ rfl
                rw [Nat.add_zero] at hc0
                simp only [sV_len, List.length_cons] at h0 h1
                subst h0
                obtain ⟨bn, hbn⟩ : ∃ x, x = isName fd := ⟨_, rfl⟩
                have HBN : Hid (isName (str fd).data.toList = bn) := Lib.hid (by rw [str_list, hbn])
                have HNP : Hid (namePart k (fd :: fs) = if bn then some (fd, fs) else none) := Lib.hid (by unfold namePart; rw [← HVN.out, hbn]; rfl)
                have hfdl : (str fd).size ≤ 9223372036854775807 := by
                  have := HP.out fd (by simp); rw [str_size]; omega
                have hl0 : ((fs.length : Int) + 1 == 0) = false := by simp; omega
                have HP2 : Hid (∀ x ∈ fs, x.length ≤ s.size) := Lib.hid (fun x hx => HP.out x (by simp [hx]))
                have hfl2 : fs.length ≤ s.size := by simpa using hfl
                clear hbn hc h3
                go_wp2_with fail
                refine (Name_any (str fd) _ he3.sg hfdl).mono ?_
                rintro e w3 ⟨rfl, hx5⟩
                rw [HBN.out]
                have B03 := B02.ext hx5
                have Bc3 := Bc.ext hx5
                have Bf3 := Bf.ext hx5
                have hrow3 := hrow2.ext hx5
                have hE5 := hE4.trans hx5
                have hc1 := hx5.cell hc0
                clear hc0 B02 Bc Bf hrow2 hE4 g1
                cases bn with
                | false =>
                  have HF : Hid (o = none) := Lib.hid (by rw [HB.out]; unfold bodyL; rw [HNP.out]; rfl)
                  have z0 := B03.c0
                  have z1 := B03.c1
                  have z2 := B03.c2
                  have z3 := B03.c3
                  have zf0 := B03.frozen 0
                  have zf1 := B03.frozen 1
                  have zf2 := B03.frozen 2
                  have zf3 := B03.frozen 3
                  go_wp2_with fail
                  have hbz := B03.set4 (.int .u8 0) (.string ⟨#[]⟩) (.slice none 0 0) (.string ⟨#[]⟩)
                  have zz0 := hbz.c0
                  have zz1 := hbz.c1
                  have zz2 := hbz.c2
                  have zz3 := hbz.c3
                  refine bodyPost_ret (v := .tuple #[.agg #[.int .u8 0, .string ⟨#[]⟩, .slice none 0 0, .string ⟨#[]⟩], .int .i64 0, .bool false]) (by simp [results, Tryd.results22, go_sem, zz0, zz1, zz2, zz3]) rfl ?_
                  exact ⟨⟨0, ⟨#[]⟩, none, 0, 0, ⟨#[]⟩, 0, false, rfl, by rw [HF.out]; rfl, by omega, by omega, fun c k h => by rw [HF.out] at h; cases h⟩, hE5.set4 (Nat.le_refl _) _ _ _ _⟩
                | true =>
                  have z0 := Bc3.c0
                  have z1 := Bc3.c1
                  have z2 := Bc3.c2
                  have z3 := Bc3.c3
                  have zf0 := Bc3.frozen 0
                  have zf1 := Bc3.frozen 1
                  have zf2 := Bc3.frozen 2
                  have zf3 := Bc3.frozen 3
                  by_cases hcap : c = 1
                  · subst hcap
                    have hfs0 : fs = [] := List.eq_nil_of_length_eq_zero (by omega)
                    subst hfs0
                    go_wp2_with fail
                    go_meet
                    refine ⟨_, _, _, [], fd, rfl, Row.nil _ _ _ (by omega), HNP, HP2, by simp, Bc3.set 1 _, Bf3.far (p := ⟨bf + 1, 1, none⟩) (by simp) _, B03.far (p := ⟨bf + 1, 1, none⟩) (by simp; omega) _, hE5.set (p := ⟨bf + 1, 1, none⟩) (by simp; omega) _⟩
                  · have hcap2 : 1 < c := by omega
                    have hrt := hrow.tailS.ext ((hx4.trans hx5).set (p := ⟨bf + 1, 1, none⟩) (by simp; omega) (.string (str fd)))
                    go_wp2_with fail
                    go_meet
                    exact ⟨_, _, _, fs, fd, rfl, hrt, HNP, HP2, by omega, Bc3.set 1 _, Bf3.far (p := ⟨bf + 1, 1, none⟩) (by simp) _, B03.far (p := ⟨bf + 1, 1, none⟩) (by simp; omega) _, hE5.set (p := ⟨bf + 1, 1, none⟩) (by simp; omega) _⟩
          case rest => as_aux_lemma =>
            obtain ⟨A', n', c', fs', nm, rfl, hrow3, HNP, HP3, hfl3, Bc3, Bf3, B03, hE5⟩ := hcut
            refine hK2 _ _ ?_
            clear hK2 Bf Bc B02 hE4 he3 hrow2 g1 HP hfl hx4 hrow hbfc
            have he5 := he.ext hE5
            obtain ⟨q, hq⟩ : ∃ q, q = numsL fs' := ⟨_, rfl⟩
            have HQ := Lib.hid hq
            clear hq
            go_wp2_with fail
            refine (numbers_any A' n' c' fs' _ hrow3 (fun f h => by have := HP3.out f h; omega) (by omega) he5).mono ?_
            rintro e w5 ⟨⟨v, bb, rfl, hbb, hv⟩, hx5⟩
            rw [← HQ.out] at hbb hv
            have B05 := B03.ext hx5
            have Bc5 := Bc3.ext hx5
            have Bf5 := Bf3.ext hx5
            have hE6 := hE5.trans hx5
            clear B03 Bc3 Bf3 hE5 hrow3 he5
            cases q with
            | none =>
              obtain rfl : bb = false := hbb
              have HF : Hid (o = none) := Lib.hid (by rw [HB.out]; unfold bodyL; rw [HNP.out]; simp only []; rw [← HQ.out])
              clear hv
              have z0 := B05.c0
              have z1 := B05.c1
              have z2 := B05.c2
              have z3 := B05.c3
              have zf0 := B05.frozen 0
              have zf1 := B05.frozen 1
              have zf2 := B05.frozen 2
              have zf3 := B05.frozen 3
              go_wp2_with fail
              have hbz := B05.set4 (.int .u8 0) (.string ⟨#[]⟩) (.slice none 0 0) (.string ⟨#[]⟩)
              have zz0 := hbz.c0
              have zz1 := hbz.c1
              have zz2 := hbz.c2
              have zz3 := hbz.c3
              refine bodyPost_ret (v := .tuple #[.agg #[.int .u8 0, .string ⟨#[]⟩, .slice none 0 0, .string ⟨#[]⟩], .int .i64 0, .bool false]) (by simp [results, Tryd.results22, go_sem, zz0, zz1, zz2, zz3]) rfl ?_
              exact ⟨⟨0, ⟨#[]⟩, none, 0, 0, ⟨#[]⟩, 0, false, rfl, by rw [HF.out]; rfl, by omega, by omega, fun c k h => by rw [HF.out] at h; cases h⟩, hE6.set4 (Nat.le_refl _) _ _ _ _⟩
            | some ns =>
              obtain rfl : bb = true := hbb
              obtain ⟨hrow5, hty5⟩ := hv ns rfl
              obtain ⟨A2, c2, rfl⟩ := hrow5.shape
              rw [iV_len] at hrow5
              have HB2 : Hid (o = if fT k then (match ns.getLast? with | none => none | some m => if m < 0 then none else tailL k nm ns.dropLast m.toNat) else tailL k nm ns 0) := Lib.hid (by rw [HB.out]; unfold bodyL; rw [HNP.out]; simp only []; rw [← HQ.out]; rfl)
              have hnl : ns.length ≤ 1099511627776 := by
                have := numsL_len HQ.out.symm; omega
              have HNI : Hid (∀ z ∈ ns, inI z) := Lib.hid (numsL_inv HQ.out.symm).2
              clear hv HB HQ
              have g4 := Bf5.c4
              rw [iV_len]
              go_upto_if 65 with (fail)
              rename_i hK3
              go_cut [12, 14] (fun v kk wx => ∃ A n c ns' m, v = .slice A n c ∧ kk = .int .i64 m ∧ 0 ≤ m ∧ m ≤ 9223372036854775807 ∧ Row wx (.slice A n c) (iV ns') ∧ ns'.length ≤ 1099511627776 ∧ Hid (o = tailL k nm ns' m.toNat) ∧ TyI w5 (.slice A n c) ∧ wx = w5)
              case first => as_aux_lemma =>
                cases vT with
                | false =>
                  have HF : Hid (o = tailL k nm ns 0) := Lib.hid (by rw [HB2.out, ← HVT.out]; rfl)
                  go_wp2_with fail
                  go_meet
                  exact ⟨_, _, _, ns, 0, rfl, rfl, by omega, by omega, hrow5, hnl, HF, hty5.same, rfl⟩
                | true =>
                  rcases List.eq_nil_or_concat ns with rfl | ⟨ys, z, rfl⟩
                  · have HF : Hid (o = none) := Lib.hid (by rw [HB2.out, ← HVT.out]; rfl)
                    have z0 := B05.c0
                    have z1 := B05.c1
                    have z2 := B05.c2
                    have z3 := B05.c3
                    have zf0 := B05.frozen 0
                    have zf1 := B05.frozen 1
                    have zf2 := B05.frozen 2
                    have zf3 := B05.frozen 3
                    go_wp2_with fail
                    have hbz := B05.set4 (.int .u8 0) (.string ⟨#[]⟩) (.slice none 0 0) (.string ⟨#[]⟩)
                    have zz0 := hbz.c0
                    have zz1 := hbz.c1
                    have zz2 := hbz.c2
                    have zz3 := hbz.c3
                    refine bodyPost_ret (v := .tuple #[.agg #[.int .u8 0, .string ⟨#[]⟩, .slice none 0 0, .string ⟨#[]⟩], .int .i64 0, .bool false]) (by simp [results, Tryd.results22, go_sem, zz0, zz1, zz2, zz3]) rfl ?_
                    exact ⟨⟨0, ⟨#[]⟩, none, 0, 0, ⟨#[]⟩, 0, false, rfl, by rw [HF.out]; rfl, by omega, by omega, fun c k h => by rw [HF.out] at h; cases h⟩, hE6.set4 (Nat.le_refl _) _ _ _ _⟩
                  · rw [List.concat_eq_append] at *
                    obtain ⟨heq, h1, h2, h3⟩ := hrow5.inj
                    clear heq
                    have hyc : ys.length + 1 ≤ c2 := by simpa using h1
                    have hyc2 : ys.length ≤ c2 := by omega
                    obtain ⟨b', off, rfl, hc⟩ := h3 (by simp)
                    have hc0 := hc ys.length (.int .i64 z) (by simp [iV])
                    have hin := HNI.out z (by simp)
                    obtain ⟨hin1, hin2⟩ := hin
                    have HL2 : Hid (o = if z < 0 then none else tailL k nm ys z.toNat) := Lib.hid (by rw [HB2.out, ← HVT.out]; simp)
                    have hri := hrow5.init
                    have hyl : ys.length + 1 ≤ 1099511627776 := by simpa using hnl
                    simp only [List.length_append, List.length_singleton] at *
                    clear hc h3 HB2
                    by_cases hz : z < 0
                    · have HF : Hid (o = none) := Lib.hid (by rw [HL2.out, if_pos hz])
                      have z0 := B05.c0
                      have z1 := B05.c1
                      have z2 := B05.c2
                      have z3 := B05.c3
                      have zf0 := B05.frozen 0
                      have zf1 := B05.frozen 1
                      have zf2 := B05.frozen 2
                      have zf3 := B05.frozen 3
                      go_wp2_with fail
                      have hbz := B05.set4 (.int .u8 0) (.string ⟨#[]⟩) (.slice none 0 0) (.string ⟨#[]⟩)
                      have zz0 := hbz.c0
                      have zz1 := hbz.c1
                      have zz2 := hbz.c2
                      have zz3 := hbz.c3
                      refine bodyPost_ret (v := .tuple #[.agg #[.int .u8 0, .string ⟨#[]⟩, .slice none 0 0, .string ⟨#[]⟩], .int .i64 0, .bool false]) (by simp [results, Tryd.results22, go_sem, zz0, zz1, zz2, zz3]) rfl ?_
                      exact ⟨⟨0, ⟨#[]⟩, none, 0, 0, ⟨#[]⟩, 0, false, rfl, by rw [HF.out]; rfl, by omega, by omega, fun c k h => by rw [HF.out] at h; cases h⟩, hE6.set4 (Nat.le_refl _) _ _ _ _⟩
                    · have HF : Hid (o = tailL k nm ys z.toNat) := Lib.hid (by rw [HL2.out, if_neg hz])
                      go_wp2_with fail
                      go_meet
                      exact ⟨_, _, _, ys, z, rfl, rfl, by omega, hin2, hri, by omega, HF, hty5.same, rfl⟩
              case rest => as_aux_lemma =>
                obtain ⟨A3, n3, c3, ns', m, rfl, rfl, hm0, hm1, hrow6, hnl6, HT, hty6, rfl⟩ := hcut
                refine hK3 _ _ ?_
                obtain ⟨h0, _⟩ := hrow6.inj
                rw [iV_len] at h0
                subst h0
                clear hK3 HB2 hrow5 HNI
                have g2 := Bf5.c2
                have g3 := Bf5.c3
                have HT2 : Hid (o = if ns'.length < lo ∨ hi2 < ns'.length then none else some (⟨k + 1, nm, ns', []⟩, m.toNat)) := Lib.hid (by rw [HT.out, HLO.out, HHI.out]; rfl)
                clear HT
                by_cases hlo2 : ns'.length < lo
                · have HF : Hid (o = none) := Lib.hid (by rw [HT2.out, if_pos (.inl hlo2)])
                  have z0 := B05.c0
                  have z1 := B05.c1
                  have z2 := B05.c2
                  have z3 := B05.c3
                  have zf0 := B05.frozen 0
                  have zf1 := B05.frozen 1
                  have zf2 := B05.frozen 2
                  have zf3 := B05.frozen 3
                  go_wp2_with fail
                  have hbz := B05.set4 (.int .u8 0) (.string ⟨#[]⟩) (.slice none 0 0) (.string ⟨#[]⟩)
                  have zz0 := hbz.c0
                  have zz1 := hbz.c1
                  have zz2 := hbz.c2
                  have zz3 := hbz.c3
                  refine bodyPost_ret (v := .tuple #[.agg #[.int .u8 0, .string ⟨#[]⟩, .slice none 0 0, .string ⟨#[]⟩], .int .i64 0, .bool false]) (by simp [results, Tryd.results22, go_sem, zz0, zz1, zz2, zz3]) rfl ?_
                  exact ⟨⟨0, ⟨#[]⟩, none, 0, 0, ⟨#[]⟩, 0, false, rfl, by rw [HF.out]; rfl, by omega, by omega, fun c k h => by rw [HF.out] at h; cases h⟩, hE6.set4 (Nat.le_refl _) _ _ _ _⟩
                · by_cases hhi2 : hi2 < ns'.length
                  · have HF : Hid (o = none) := Lib.hid (by rw [HT2.out, if_pos (.inr hhi2)])
                    have z0 := B05.c0
                    have z1 := B05.c1
                    have z2 := B05.c2
                    have z3 := B05.c3
                    have zf0 := B05.frozen 0
                    have zf1 := B05.frozen 1
                    have zf2 := B05.frozen 2
                    have zf3 := B05.frozen 3
                    go_wp2_with fail
                    have hbz := B05.set4 (.int .u8 0) (.string ⟨#[]⟩) (.slice none 0 0) (.string ⟨#[]⟩)
                    have zz0 := hbz.c0
                    have zz1 := hbz.c1
                    have zz2 := hbz.c2
                    have zz3 := hbz.c3
                    refine bodyPost_ret (v := .tuple #[.agg #[.int .u8 0, .string ⟨#[]⟩, .slice none 0 0, .string ⟨#[]⟩], .int .i64 0, .bool false]) (by simp [results, Tryd.results22, go_sem, zz0, zz1, zz2, zz3]) rfl ?_
                    exact ⟨⟨0, ⟨#[]⟩, none, 0, 0, ⟨#[]⟩, 0, false, rfl, by rw [HF.out]; rfl, by omega, by omega, fun c k h => by rw [HF.out] at h; cases h⟩, hE6.set4 (Nat.le_refl _) _ _ _ _⟩
                  · have HF : Hid (o = some (⟨k + 1, nm, ns', []⟩, m.toNat)) := Lib.hid (by rw [HT2.out, if_neg (by omega)])
                    have z0 := B05.c0
                    have z1 := B05.c1
                    have z2 := B05.c2
                    have z3 := B05.c3
                    have zf0 := B05.frozen 0
                    have zf1 := B05.frozen 1
                    have zf2 := B05.frozen 2
                    have zf3 := B05.frozen 3
                    have y0 := Bc5.c0
                    have y1 := Bc5.c1
                    have y2 := Bc5.c2
                    have y3 := Bc5.c3
                    have yf0 := Bc5.frozen 0
                    have yf1 := Bc5.frozen 1
                    have yf2 := Bc5.frozen 2
                    have yf3 := Bc5.frozen 3
                    go_wp2_with fail
                    have B06 := B05.far (p := ⟨bf + 1, 2, none⟩) (by simp; omega) (.slice A3 ns'.length c3)
                    have hr6 := hrow6.farB Bc5 (noI4 _ _ _ _ _ _) 2 (.slice A3 ns'.length c3)
                    have hr7 := hr6.put4 (kd' := (k : Int) + 1) (nm' := str nm) (A' := A3) (n' := ns'.length) (c' := c3) (tx' := ⟨#[]⟩) B06
                    have B07 := B06.set4 (.int .u8 ((k : Int) + 1)) (.string (str nm)) (.slice A3 ns'.length c3) (.string ⟨#[]⟩)
                    have zz0 := B07.c0
                    have zz1 := B07.c1
                    have zz2 := B07.c2
                    have zz3 := B07.c3
                    refine bodyPost_ret (v := .tuple #[.agg #[.int .u8 ((k : Int) + 1), .string (str nm), .slice A3 ns'.length c3, .string ⟨#[]⟩], .int .i64 m, .bool true]) (by simp [results, Tryd.results22, go_sem, zz0, zz1, zz2, zz3]) rfl ?_
                    refine ⟨⟨_, _, _, _, _, _, m, true, rfl, by rw [HF.out]; rfl, hm0, hm1, fun c' k' h => ?_⟩, (hE6.set (p := ⟨bf + 1, 2, none⟩) (by simp; omega) _).set4 (Nat.le_refl _) _ _ _ _⟩
                    rw [HF.out] at h
                    injection h with h
                    injection h with ha hb
                    subst ha hb
                    exact ⟨⟨_, _, _, by simp [str], hr7⟩, by omega, ((((hty6.set _ _).set _ _).set _ _).set _ _).set _ _⟩
        · have hq' : (wd.toList == (str a).toList) = false := by simp [hq]
          have HN : Hid (findW a words 0 = findW a (words.drop (k + 1)) (k + 1)) := Lib.hid (by
            rw [HK.out, HWD.out]
            conv => lhs; unfold findW
            rw [if_neg]
            rw [HW.out, Lib.toList_data, str_list, Lib.toList_data, str_list] at hq; exact hq)
          clear hq HK HWD
          go_wp2_with fail
          go_roundw
          case rel => exact ⟨k + 1, by omega, rfl, by go_num, HN, hx3.alloc _⟩
          case measure => simp [intOf]; omega
      · obtain rfl : k = 11 := by omega
        have HF : Hid (o = none) := Lib.hid (by
          have : findW a words 0 = none := by rw [HK.out]; rfl
          rw [HOO.out, this])
        have hE7 := hE2.trans hx3
        have B07 := hb0.ext hx3
        clear HK HOO HG4 hE2 hb0
        have z0 := B07.c0
        have z1 := B07.c1
        have z2 := B07.c2
        have z3 := B07.c3
        have zf0 := B07.frozen 0
        have zf1 := B07.frozen 1
        have zf2 := B07.frozen 2
        have zf3 := B07.frozen 3
        go_wp2_with fail
        have hbz := B07.set4 (.int .u8 0) (.string ⟨#[]⟩) (.slice none 0 0) (.string ⟨#[]⟩)
        have zz0 := hbz.c0
        have zz1 := hbz.c1
        have zz2 := hbz.c2
        have zz3 := hbz.c3
        refine bodyPost_ret (v := .tuple #[.agg #[.int .u8 0, .string ⟨#[]⟩, .slice none 0 0, .string ⟨#[]⟩], .int .i64 0, .bool false]) (by simp [results, Tryd.results22, go_sem, zz0, zz1, zz2, zz3]) rfl ?_
        exact ⟨⟨0, ⟨#[]⟩, none, 0, 0, ⟨#[]⟩, 0, false, rfl, by rw [HF.out]; rfl, by omega, by omega, fun c k h => by rw [HF.out] at h; cases h⟩, hE7.set4 (Nat.le_refl _) _ _ _ _⟩
end Go.Proofs.YtnbmmgeoglfbdaaDoor.Sc

/- Walk: Parse of the script. -/
import Derived.Test.YtnbmmgeoglfbdaaDoorSFirst2
import Derived.Test.YtnbmmgeoglfbdaaDoorSCmds
set_option linter.unusedVariables false
set_option linter.unusedSimpArgs false
namespace Go.Proofs.YtnbmmgeoglfbdaaDoor.Sc
open Go.RowKit Go.Proofs.YtnbmmgeoglfbdaaDoor.Big

/-- plain: what a step leaves is shorter -/
theorem nlT (l : BL) : nl l ≤ l.length := nl_le l
theorem step_len {s : BL} {c : Cmd} {k : Nat} {r : BL} (h : step s = .ok c k r) : k + r.length ≤ s.length ∧ 1 ≤ k := by
  obtain ⟨rfl, _, _, rfl⟩ := step_inv h
  have := nl_le c.text
  unfold formatC
  simp only [List.length_append, List.length_cons]
  omega
def ParsePostC (w : World) (res : Res) (e : Ending) (w' : World) : Prop :=
  (∃ A n c a er, e = .returned (.tuple #[.slice A n c, .int .i64 a, .int .i64 er]) ∧ (∀ l, res = .ok l → (∃ acc, acc.map Prod.fst = l ∧ Coll w w' (.slice A n c) acc) ∧ a = 0 ∧ er = 0) ∧ (∀ a' e', res = .err a' e' → A = none ∧ n = 0 ∧ c = 0 ∧ a = (a' : Int) ∧ er = (e' : Int))) ∧ Ext w w'
def ParsePost (w : World) (res : Res) (e : Ending) (w' : World) : Prop :=
  (∃ A n c a er, e = .returned (.tuple #[.slice A n c, .int .i64 a, .int .i64 er]) ∧ (∀ l, res = .ok l → CmdsV w' (.slice A n c) l ∧ a = 0 ∧ er = 0) ∧ (∀ a' e', res = .err a' e' → A = none ∧ n = 0 ∧ c = 0 ∧ a = (a' : Int) ∧ er = (e' : Int))) ∧ Ext w w'
theorem Res.app_cons (cs : List Cmd) (c : Cmd) (r : Res) : (r.cons c).app cs = r.app (cs ++ [c]) := by cases r <;> simp [Res.cons, Res.app]
theorem cut_some {c : UInt8} {l a b : BL} {f : Bool} (h1 : f = true → cutB c l = some (a, b)) (h2 : f = false → cutB c l = none ∧ a = l ∧ b = []) : cutB c l = if f then some (a, b) else none := by
  cases f
  · exact (h2 rfl).1
  · exact h1 rfl
def afterSplit (c : Cmd) (k : Nat) (q : Option (BL × BL)) : StepR := match q with | none => .err 4 | some (t, r) => if 65536 < t.length then .err 3 else .ok { c with text := t } (1 + k) r
theorem step_cut {s line rest : BL} {c : Cmd} {k : Nat} (h1 : cutB 10 s = some (line, rest)) (h2 : firstL line = some (c, k)) : step s = afterSplit c k (splitL k rest) := by
  unfold step; rw [h1]; simp only []; rw [h2]; rfl
theorem firstL_text {line : BL} {c : Cmd} {k : Nat} (h : firstL line = some (c, k)) : c.text = [] := by
  unfold firstL at h
  split at h
  · cases h
  · unfold bodyL at h
    split at h
    · cases h
    · split at h
      · cases h
      · split at h
        · split at h
          · cases h
          · split at h
            · cases h
            · unfold tailL at h
              split at h
              · cases h
              · injection h with h; injection h with h1 h2; subst h1; rfl
        · unfold tailL at h
          split at h
          · cases h
          · injection h with h; injection h with h1 h2; subst h1; rfl
def sLen : Value → Nat | .string q => q.size | _ => 0
set_option maxHeartbeats 4000000 in
set_option maxRecDepth 100000 in
theorem Parse_coll (s : ByteArray) (w : World) (hs : s.size < 2147483648) (he : Env w) (hf : FormatsOK w) : Calls Tryd.prog 7 #[.string s] w (ParsePostC w (parse s.data.toList)) := by
  obtain ⟨res, hres⟩ : ∃ res, res = parse s.data.toList := ⟨_, rfl⟩
  obtain ⟨l, hl⟩ : ∃ l, l = s.data.toList := ⟨_, rfl⟩
  have hll : l.length = s.size := by rw [hl]; exact (Lib.size_eq s).symm
  have hsl : s = str l := by rw [hl, str_of]
  rw [← hres]
  rw [← hl] at hres
  have HRES := Lib.hid hres
  have HSL := Lib.hid hsl
  have HLL := Lib.hid hll
  clear hres hl hll hsl
  obtain ⟨i0, hi, hz0, hz1, hz2⟩ := info_parts infoCmd
  go_enter Tryd.func7, Tryd.ntmps7
  go_wp2_with fail
  go_loopw [0, 5, 6] (fun sv lv av wr => ∃ (cur : BL) (acc : List (Cmd × Value)) (a f : Nat), sv = .string (str cur) ∧ av = .int .i64 a ∧ a + cur.length ≤ s.size + 1 ∧ acc.length ≤ 1000 ∧ cur.length < f ∧ Hid (res = (parseL f acc.length a cur).app (acc.map (·.1))) ∧ Coll w wr lv acc ∧ Ext w wr) (fun sv _ _ _ => sLen sv)
  case atStart => exact ⟨l, [], 1, l.length + 1, by rw [HSL.out], rfl, by rw [HLL.out]; omega, by simp, by omega, Lib.hid (by rw [HRES.out]; unfold parse; cases parseL (l.length + 1) 0 1 l <;> simp [Res.app]), Coll.nil _ _, Ext.refl _⟩
  case round =>
    obtain ⟨cur, acc, a, f, rfl, rfl, ha, hacc, hfu, HK, hcoll, hE⟩ := hrel
    obtain ⟨f', rfl⟩ : ∃ f', f = f' + 1 := ⟨f - 1, by omega⟩
    have HK1 : Hid (res = (if cur = [] then Res.ok [] else if acc.length = 1000 then .err a 5 else match step cur with | .err e => .err a e | .ok c k r => (parseL f' (acc.length + 1) (a + k) r).cons c).app (acc.map (·.1))) := Lib.hid (by rw [HK.out]; rfl)
    clear HK
    have hcs : (str cur).size < 4294967281 := by rw [str_size]; omega
    have hcur2 : cur.length ≤ s.size + 1 := by omega
    have hcl : (str cur).toList = cur := by rw [Lib.toList_data, str_list]
    have HCL := Lib.hid hcl
    clear hcl
    obtain ⟨A0, c0, hsh⟩ := hcoll.view.shape
    rw [List.length_map] at hsh
    subst hsh
    by_cases h0 : cur = []
    · have he0 : (str cur).toList.isEmpty = true := by rw [HCL.out, h0]; rfl
      have HF : Hid (res = .ok (acc.map (·.1))) := Lib.hid (by rw [HK1.out, if_pos h0]; simp [Res.app])
      have HV := Lib.hid hcoll
      clear HK1 h0
      go_wp2_with fail
      go_ret3
      exact ⟨⟨_, _, _, 0, 0, rfl, fun l h => (by rw [HF.out] at h; injection h with h; subst h; exact ⟨⟨acc, rfl, HV.out⟩, rfl, rfl⟩), fun a' e' h => (by rw [HF.out] at h; cases h)⟩, hE⟩
    · have he0 : (str cur).toList.isEmpty = false := by rw [HCL.out, ← Bool.not_eq_true, List.isEmpty_iff]; exact h0
      by_cases h1000 : acc.length = 1000
      · have h1000' : ((acc.length : Int) == 1000) = true := by simp; omega
        have HF : Hid (res = .err a 5) := Lib.hid (by rw [HK1.out, if_neg h0, if_pos h1000]; rfl)
        clear HK1 h0 h1000
        go_wp2_with fail
        go_ret3
        exact ⟨⟨none, 0, 0, (a : Int), 5, rfl, fun l h => (by rw [HF.out] at h; cases h), fun a' e' h => (by rw [HF.out] at h; injection h with h1 h2; subst h1 h2; exact ⟨rfl, rfl, rfl, rfl, rfl⟩)⟩, by first | assumption | (exact Ext.set (by assumption) (by simp; omega) _)⟩
      · have h1000' : ((acc.length : Int) == 1000) = false := by simp; omega
        have HK2 : Hid (res = (match step cur with | .err e => Res.err a e | .ok c k r => (parseL f' (acc.length + 1) (a + k) r).cons c).app (acc.map Prod.fst)) := Lib.hid (by rw [HK1.out, if_neg h0, if_neg h1000])
        clear HK1 h0
        go_wp2_with fail
        refine (Cut_any (str cur) 10 _ hcs (he.ext hE)).mono ?_
        rintro e w1 ⟨⟨line, rest, fl, rfl, hf1, hf2⟩, hx1⟩
        rw [str_list] at hf1 hf2
        have HCUT := Lib.hid (cut_some hf1 hf2)
        clear hf1 hf2
        have hE1 := hE.trans hx1
        have hc1 := hcoll.ext hx1
        clear hcoll hE hx1 he0
        cases fl with
        | false =>
          have HF : Hid (res = .err a 4) := Lib.hid (by rw [HK2.out]; unfold step; rw [HCUT.out]; rfl)
          clear HK2
          go_wp2_with fail
          go_ret3
          exact ⟨⟨none, 0, 0, (a : Int), 4, rfl, fun l h => (by rw [HF.out] at h; cases h), fun a' e' h => (by rw [HF.out] at h; injection h with h1 h2; subst h1 h2; exact ⟨rfl, rfl, rfl, rfl, rfl⟩)⟩, by first | assumption | (exact Ext.set (by assumption) (by simp; omega) _)⟩
        | true =>
          have hsp := (cutB_spec HCUT.out).1
          have hlens : line.length + 1 + rest.length = cur.length := by rw [hsp]; simp; omega
          have hls : (str line).size < 2147483648 := by rw [str_size]; omega
          have hrs : (str rest).size < 2147483648 := by rw [str_size]; omega
          have HSP := Lib.hid hsp
          clear hsp
          obtain ⟨o, ho⟩ : ∃ o, o = firstL line := ⟨_, rfl⟩
          have HO := Lib.hid ho
          clear ho
          go_wp2_with fail
          refine (first_scr (str line) _ hls (he.ext hE1) (hf.ext hE1)).mono ?_
          rintro e w2 ⟨⟨kd, nm, A, n, cc, tx, m, bb, rfl, hbb, hm0, hm1, hv⟩, hx2⟩
          rw [str_list, ← HO.out] at hbb hv
          have hE2 := hE1.trans hx2
          have hc2 := hc1.ext hx2
          clear hE1 hc1 hx2
          cases o with
          | none =>
            obtain rfl : bb = false := hbb
            have HF : Hid (res = .err a 3) := Lib.hid (by rw [HK2.out]; unfold step; rw [HCUT.out]; simp only [if_true]; rw [← HO.out]; rfl)
            have hE3 := hE2.alloc (.cells #[.int .u8 kd, .string nm, .slice A n cc, .string tx] 40)
            clear HK2 hv
            go_wp2_with fail
            go_ret3
            exact ⟨⟨none, 0, 0, (a : Int), 3, rfl, fun l h => (by rw [HF.out] at h; cases h), fun a' e' h => (by rw [HF.out] at h; injection h with h1 h2; subst h1 h2; exact ⟨rfl, rfl, rfl, rfl, rfl⟩)⟩, by first | assumption | (exact Ext.set (by assumption) (by simp; omega) _)⟩
          | some ck =>
            obtain ⟨c, k⟩ := ck
            obtain rfl : bb = true := hbb
            obtain ⟨hcv, rfl, hty⟩ := hv c k rfl
            clear hv
            obtain ⟨A', n', c', e1, hrow⟩ := hcv
            injection e1 with e1
            injection e1 with e1
            simp only [List.cons.injEq, Value.int.injEq, Value.string.injEq, Value.slice.injEq, true_and, and_true] at e1
            obtain ⟨rfl, rfl, ⟨rfl, rfl, rfl⟩, rfl⟩ := e1
            obtain ⟨q, hq⟩ : ∃ q, q = splitL k rest := ⟨_, rfl⟩
            have HQ := Lib.hid hq
            clear hq
            have hct : c.text = [] := firstL_text HO.out.symm
            have HCT := Lib.hid hct
            clear hct
            go_upto_region 10 with fail
            have Bc := Box.new w2 40 #[.int .u8 (c.kind : Int), .string (str c.name), .slice A n cc, .string (str c.text)]
            have hE3 : Ext w2 (w2.alloc (.cells #[.int .u8 (c.kind : Int), .string (str c.name), .slice A n cc, .string (str c.text)] 40)) := (Ext.refl w2).alloc _
            generalize hWg : (w2.alloc (.cells #[.int .u8 (c.kind : Int), .string (str c.name), .slice A n cc, .string (str c.text)] 40)) = W3 at *
            clear hWg
            obtain ⟨bc, hbc⟩ : ∃ x, x = w2.heap.size := ⟨_, rfl⟩
            have hbcw : w.heap.size ≤ bc := by rw [hbc]; exact hE2.size
            have hbc2 : w2.heap.size ≤ bc := by omega
            rw [← hbc] at Bc ⊢
            have hE4 := hE2.trans hE3
            have hc3 := hc2.ext hE3
            go_wp2_with fail
            refine (split_any (str rest) (k : Int) _ hrs (by omega) hm1 (he.ext hE4)).mono ?_
            rintro e w4 ⟨⟨t, r, ff, rfl, hff, hp⟩, hx4⟩
            rw [str_list, Int.toNat_natCast, ← HQ.out] at hff hp
            have Bc4 := Bc.ext hx4
            have hE5 := hE4.trans hx4
            have hx5 := hE3.trans hx4
            have hx6 : Ext w2 (w4.setCell ⟨bc, 3, none⟩ (.string (str t))) := hx5.set hbc2 _
            have hE6 : Ext w (w4.setCell ⟨bc, 3, none⟩ (.string (str t))) := hE5.set hbcw _
            have Bc5 : Box (w4.setCell ⟨bc, 3, none⟩ (.string (str t))) bc 40 #[.int .u8 (c.kind : Int), .string (str c.name), .slice A n cc, .string (str t)] := Bc4.set 3 _
            have y3 := Bc4.c3
            have yf3 := Bc4.frozen 3
            have HST : Hid (step cur = afterSplit c k q) := Lib.hid (by rw [step_cut HCUT.out HO.out.symm, ← HQ.out])
            clear Bc Bc4 hE4 hE5 hx4 hx5 hE3 hbc hc3
            cases q with
            | none =>
              obtain rfl : ff = false := hff
              have HF : Hid (res = .err a 4) := Lib.hid (by rw [HK2.out, HST.out]; rfl)
              clear HK2 HST hp
              go_wp2_with fail
              go_ret3
              exact ⟨⟨none, 0, 0, (a : Int), 4, rfl, fun l h => (by rw [HF.out] at h; cases h), fun a' e' h => (by rw [HF.out] at h; injection h with h1 h2; subst h1 h2; exact ⟨rfl, rfl, rfl, rfl, rfl⟩)⟩, by first | assumption | (exact Ext.set (by assumption) (by simp; omega) _)⟩
            | some tr =>
              obtain rfl : ff = true := hff
              obtain rfl := hp _ rfl
              clear hp
              by_cases hbig : 65536 < t.length
              · have HF : Hid (res = .err a 3) := Lib.hid (by rw [HK2.out, HST.out]; unfold afterSplit; simp only [if_pos hbig]; rfl)
                have hsz : (str t).size = t.length := rfl
                clear HK2 HST
                go_upto_region 15 with fail
                generalize hWg : (w4.setCell ⟨bc, 3, none⟩ (.string (str t))) = W5 at *
                clear hWg y3 yf3
                have z3 := Bc5.c3
                go_wp2_with fail
                go_ret3
                exact ⟨⟨none, 0, 0, (a : Int), 3, rfl, fun l h => (by rw [HF.out] at h; cases h), fun a' e' h => (by rw [HF.out] at h; injection h with h1 h2; subst h1 h2; exact ⟨rfl, rfl, rfl, rfl, rfl⟩)⟩, by first | assumption | (exact Ext.set (by assumption) (by simp; omega) _)⟩
              · have hstep : step cur = .ok { c with text := t } (1 + k) r := by rw [HST.out]; unfold afterSplit; simp only [if_neg hbig]
                have hlen := step_len hstep
                have HN : Hid (res = (parseL f' (acc.length + 1) (a + (1 + k)) r).app ((acc ++ [({ c with text := t }, Value.slice A n cc)]).map Prod.fst)) := Lib.hid (by
                  rw [HK2.out, hstep]; simp only []; rw [Res.app_cons]; simp)
                have hsz : (str t).size = t.length := rfl
                have hc6 := hc2.ext hx6
                have hrow6 := hrow.ext hx6
                have hty6 := hty.ext hx6
                clear HK2 HST hstep hc2 hrow hty
                go_upto_region 15 with fail
                generalize hWg : (w4.setCell ⟨bc, 3, none⟩ (.string (str t))) = W5 at *
                clear hWg y3 yf3
                have z0 := Bc5.c0
                have z1 := Bc5.c1
                have z2 := Bc5.c2
                have z3 := Bc5.c3
                have hown := hc6.own
                go_wp2_with (at_builtin; refine wpList_append_own _ rfl _ _ 23 rfl w.heap.size 40 i0 (.agg #[.int .u8 0, .string ⟨#[]⟩, .slice none 0 0, .string ⟨#[]⟩]) 4 64 Tryd.underlying23 hi hz0 hz1 hz2 rfl (by decide) _ _ _ rfl (hown.alloc _) ⟨W5.heap.size, 0, none⟩ 1 1 [.int .u8 (c.kind : Int), .string (str c.name), .slice A n cc, .string (str t)] rfl rfl ?c1 ?c2 ?c3 ?c4 ?c5 ?_)
                case c1 =>
                  intro j u hj
                  match j, hj with
                  | 0, hj => simp at hj; subst hj; simp [Addr.add]
                  | 1, hj => simp at hj; subst hj; simp [Addr.add]
                  | 2, hj => simp at hj; subst hj; simp [Addr.add]
                  | 3, hj => simp at hj; subst hj; simp [Addr.add]
                case c2 => intro u hu; simp at hu; rcases hu with rfl | rfl | rfl | rfl <;> rfl
                case c3 => unfold maxLen; omega
                case c4 => omega
                case c5 => have := hE6.size; simp; omega
                intro v' w7 hown' hgrow _
                have hal : Ext W5 (W5.alloc (.cells #[.int .u8 (c.kind : Int), .string (str c.name), .slice A n cc, .string (str t)] 40)) := (Ext.refl W5).alloc _
                have hpush := Coll.push (p := ({ c with text := t }, .slice A n cc)) (hc6.ext hal) (hrow6.ext hal) (hty6.ext hal) hown' hgrow
                have hE7 : Ext w w7 := Below.grown (hE6.alloc _) hgrow (by have := hE6.size; simp; omega) (fun k hk => (hown.lt k hk).1)
                clear hown' hgrow hown hal hc6 hrow6 hty6 hx6 Bc5 z0 z1 z2 z3 hE6
                go_wp2_with fail
                go_roundw
                case rel => exact ⟨r, acc ++ [({ c with text := t }, .slice A n cc)], a + (1 + k), f', rfl, by go_num, by omega, by simp; omega, by omega, by rw [List.length_append, List.length_singleton]; exact HN, hpush, hE7⟩
                case measure => simp [sLen, str_size]; omega
theorem Parse_any (s : ByteArray) (w : World) (hs : s.size < 2147483648) (he : Env w) (hf : FormatsOK w) : Calls Tryd.prog 7 #[.string s] w (ParsePost w (parse s.data.toList)) := by
  refine (Parse_coll s w hs he hf).mono ?_
  rintro e w' ⟨⟨A, n, c, a, er, rfl, h1, h2⟩, hx⟩
  refine ⟨⟨A, n, c, a, er, rfl, fun l hl => ?_, h2⟩, hx⟩
  obtain ⟨⟨acc, h3, h4⟩, h5, h6⟩ := h1 l hl
  exact ⟨h3 ▸ h4.view, h5, h6⟩
end Go.Proofs.YtnbmmgeoglfbdaaDoor.Sc

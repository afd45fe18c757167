/- Decoding in plain Lean; walk: node of a decoder. Walk: Decode. Decoding what was encoded, in plain Lean. The text of a rational number is read as that number. The first lines of an encoded tree end too early. What Decode answers to cut texts. Plain: reading certificates as the reference does. Plain: words, numbers and multipliers as the reference reads them. Plain: the nodes of the reference, and the text of a tree. Walk: Decimal of the reference. -/
import Derived.Test.YtljncdcjkdgkeaaGreatDoorRCE1
import Derived.Lib.IndexBytes
import Derived.Lib.IndexMore
import Derived.Lib.SplitLaws
import Derived.Lib.ItoaLen
set_option linter.unusedVariables false
set_option linter.unusedSimpArgs false
namespace Go.Proofs.YtljncdcjkdgkeaaGreatDoor.Dc
open Go.RowKit Go.Proofs.YtljncdcjkdgkeaaGreatDoor.Big Go.Proofs.YtljncdcjkdgkeaaGreatDoor.Lp Go.Proofs.YtljncdcjkdgkeaaGreatDoor.Rt

def splB : BL := [115, 112, 108, 105, 116]
/-- a line: a split, or a leaf; and the lines behind it -/
def hdL (l : BL) : Except Int ((BL × List BL) × BL) := match cutB 10 l with
  | none => .error 4
  | some (a, b) => match parts 32 a with
    | [] => .error 3
    | w0 :: ws => .ok ((w0, ws), b)
def spl (ws : List BL) : Option (Int × Int) := match ws with
  | [x, y] => match num x, num y with
    | some v, some fl => if 0 ≤ v ∧ v ≤ 9999 then some (v, fl) else none
    | _, _ => none
  | _ => none
def dN : Nat → BL → Except Int (CT × BL)
  | f, l => match hdL l with
    | .error e => .error e
    | .ok ((w0, ws), b) =>
      if w0 = splB then (match f, spl ws with
        | f + 1, some (v, fl) => match dN f b with
          | .error e => .error e
          | .ok (x, r) => match dN f r with
            | .error e => .error e
            | .ok (y, r') => .ok (.node v fl false 0 (fun _ => 0) x y, r')
        | _, _ => .error 3)
      else match lfT (w0 :: ws) with
        | some t => .ok (t, b)
        | none => .error 3
def NodePost (w : World) (db : Nat) (r : Except Int (CT × BL)) (e : Ending) (w' : World) : Prop :=
  Fr (fun k => k = db) w w' ∧ match r with
  | .ok (t, rest) => ∃ A, e = .returned (.pointer A) ∧ TreeI w' t A w.heap.size w'.heap.size ∧ Box w' db 100 #[.string (str rest), .int .i64 0]
  | .error c => c ≠ 0 ∧ e = .returned (.pointer none) ∧ ∃ s, Box w' db 100 #[.string s, .int .i64 c]
theorem dN_err {f : Nat} {l : BL} {c : Int} (h : hdL l = .error c) : dN f l = .error c := by rw [dN, h]
theorem dN_leaf {f : Nat} {l w0 b : BL} {ws : List BL} (h : hdL l = .ok ((w0, ws), b)) (hw : ¬ w0 = splB) : dN f l = match lfT (w0 :: ws) with | some t => .ok (t, b) | none => .error 3 := by
  rw [dN, h]; show (if w0 = splB then _ else _) = _; rw [if_neg hw]
theorem dN_zero {l b : BL} {ws : List BL} (h : hdL l = .ok ((splB, ws), b)) : dN 0 l = .error 3 := by
  rw [dN, h]; show (if splB = splB then _ else _) = _; rw [if_pos rfl]
theorem dN_bad {f : Nat} {l b : BL} {ws : List BL} (h : hdL l = .ok ((splB, ws), b)) (hs : spl ws = none) : dN f l = .error 3 := by
  rw [dN, h]; show (if splB = splB then _ else _) = _; rw [if_pos rfl, hs]
  cases f <;> rfl
theorem dN_in {f : Nat} {l b : BL} {ws : List BL} {v fl : Int} (h : hdL l = .ok ((splB, ws), b)) (hs : spl ws = some (v, fl)) : dN (f + 1) l = match dN f b with
    | .error e => .error e
    | .ok (x, r) => match dN f r with
      | .error e => .error e
      | .ok (y, r') => .ok (.node v fl false 0 (fun _ => 0) x y, r') := by
  rw [dN, h]; show (if splB = splB then _ else _) = _; rw [if_pos rfl, hs]
theorem cutB_len {c : UInt8} {l a b : BL} (h : cutB c l = some (a, b)) : a.length ≤ l.length ∧ b.length ≤ l.length := by
  obtain ⟨rfl, -⟩ := cutB_spec h
  simp <;> omega
theorem hdL_len {l w0 b : BL} {ws : List BL} (h : hdL l = .ok ((w0, ws), b)) : b.length ≤ l.length := by
  unfold hdL at h
  split at h
  · cases h
  · next a b' hc =>
    split at h
    · cases h
    · injection h with h
      injection h with h1 h2
      subst h2
      exact (cutB_len hc).2
theorem dN_len : ∀ (f : Nat) (l : BL) (t : CT) (r : BL), dN f l = .ok (t, r) → r.length ≤ l.length := by
  intro f
  induction f with
  | zero =>
    intro l t r h
    cases hh : hdL l with
    | error e => rw [dN_err hh] at h; cases h
    | ok p =>
      obtain ⟨⟨w0, ws⟩, b⟩ := p
      have hb := hdL_len hh
      by_cases hw : w0 = splB
      · subst hw
        rw [dN_zero hh] at h; cases h
      · rw [dN_leaf hh hw] at h
        split at h
        · injection h with h; injection h with _ h; subst h; exact hb
        · cases h
  | succ f ih =>
    intro l t r h
    cases hh : hdL l with
    | error e => rw [dN_err hh] at h; cases h
    | ok p =>
      obtain ⟨⟨w0, ws⟩, b⟩ := p
      have hb := hdL_len hh
      by_cases hw : w0 = splB
      · subst hw
        cases hs : spl ws with
        | none => rw [dN_bad hh hs] at h; cases h
        | some q =>
          obtain ⟨v, fl⟩ := q
          rw [dN_in hh hs] at h
          cases ha : dN f b with
          | error e => rw [ha] at h; cases h
          | ok p =>
            obtain ⟨x, r1⟩ := p
            rw [ha] at h
            dsimp only at h
            cases hb' : dN f r1 with
            | error e => rw [hb'] at h; cases h
            | ok p =>
              obtain ⟨y, r2⟩ := p
              rw [hb'] at h
              injection h with h
              injection h with _ h
              subst h
              have h1 := ih _ _ _ ha
              have h2 := ih _ _ _ hb'
              omega
      · rw [dN_leaf hh hw] at h
        split at h
        · injection h with h; injection h with _ h; subst h; exact hb
        · cases h
set_option maxHeartbeats 1000000 in
set_option maxRecDepth 100000 in
theorem node_b : ∀ (f : Nat) (l : BL) (db : Nat) (w0 w : World), f ≤ 200 → l.length ≤ 1048576 → Ext w0 w → w0.heap.size ≤ db → Env w0 → Box w db 100 #[.string (str l), .int .i64 0] →
    Calls Tryz.prog 40 #[.pointer (some ⟨db, 0, none⟩), .int .i64 ((200 - f : Nat) : Int)] w (NodePost w db (dN f l)) := by
  intro f
  induction f using Nat.strongRecOn with
  | _ f ih =>
  intro l db w0 w hf hl hE0 hdb he hD
  obtain ⟨R, hR⟩ : ∃ R, R = dN f l := ⟨_, rfl⟩
  rw [← hR]
  have HR := Lib.hid hR
  clear hR
  obtain ⟨lev, hlev⟩ : ∃ k, k = 200 - f := ⟨_, rfl⟩
  rw [← hlev]
  have HLV := Lib.hid hlev
  clear hlev
  have c0 := hD.c0
  go_enter Tryz.func40, Tryz.ntmps40
  go_wp2_with fail
  refine (Cut_any (str l) 10 w (by rw [str_size]; omega) (he.ext hE0)).mono ?_
  rintro e w1 ⟨⟨a, b, fd, rfl, hc1, hc2⟩, hx1⟩
  rw [str_list] at hc1 hc2
  have hD1 := hD.ext hx1
  have d0 := hD1.c0
  have d1 := hD1.c1
  have z0 := hD1.frozen 0
  have z1 := hD1.frozen 1
  clear c0
  cases fd with
  | false =>
    have HF : Hid (R = .error 4) := Lib.hid (by rw [HR.out]; exact dN_err (by unfold hdL; rw [(hc2 rfl).1]))
    clear hc1 hc2
    go_wp2_with fail
    go_ret
    rw [HF.out]
    exact ⟨(Fr.of (P := fun k => k = db) hx1).set (p := ⟨db, 1, none⟩) rfl (fun z => by rw [d1]; intro e; cases e) _, by decide, rfl, _, hD1.set 1 _⟩
  | true =>
  have hcut := hc1 rfl
  clear hc1 hc2
  obtain ⟨hal, hbl⟩ := cutB_len hcut
  go_upto_region 6 with fail
  have hD2 : Box (w1.setCell ⟨db, 0, none⟩ (.string (str b))) db 100 #[.string (str b), .int .i64 0] := hD1.set 0 _
  have k2 : Fr (fun k => k = db) w (w1.setCell ⟨db, 0, none⟩ (.string (str b))) := (Fr.of (P := fun k => k = db) hx1).set (p := ⟨db, 0, none⟩) rfl (fun z => by rw [d0]; intro e; cases e) _
  generalize (w1.setCell ⟨db, 0, none⟩ (.string (str b))) = W2 at *
  have hE2 : Ext w0 W2 := k2.ext hE0 (fun k hk => by rw [hk]; exact hdb)
  clear d0 d1 z0 z1 hD1 hx1 hD
  go_wp2_with fail
  refine (Split_any (str a) 32 W2 (by rw [str_size]; omega) (he.ext hE2)).mono ?_
  rintro e w3 ⟨⟨v, rfl, hrow⟩, hx3⟩
  rw [str_list] at hrow
  obtain ⟨w0', ws, hp⟩ : ∃ w0' ws, parts 32 a = w0' :: ws := by
    cases h : parts 32 a with
    | nil => exact absurd h (parts_ne _ _)
    | cons x y => exact ⟨x, y, rfl⟩
  rw [hp] at hrow
  have hhd : hdL l = .ok ((w0', ws), b) := by unfold hdL; rw [hcut]; show (match parts 32 a with | [] => _ | w0 :: ws => _) = _; rw [hp]
  have hwl : ws.length ≤ 1048576 := by
    have := parts_len 32 a
    rw [hp] at this
    simp at this
    omega
  have hwm : ∀ x ∈ ws, x.length ≤ 1048576 := fun x hx => by
    have := parts_mem_len 32 a x (by rw [hp]; exact List.mem_cons_of_mem _ hx)
    omega
  have HHD := Lib.hid hhd
  have HWM := Lib.hid hwm
  have hE3 := hE2.trans hx3
  have k3 := k2.step hx3
  have hD3 := hD2.ext hx3
  clear hp hhd hwm hcut hal hD2 hx3 hE2 k2
  have hrow0 := hrow
  obtain ⟨A, c, rfl, h1, h2, h3⟩ := hrow
  obtain ⟨bw, off, rfl, hcell⟩ := h3 (by simp [sV])
  have e0 := hcell 0 (.string (str w0')) rfl
  rw [Nat.add_zero] at e0
  obtain ⟨N, hN⟩ : ∃ N, N = ws.length := ⟨_, rfl⟩
  have hlen : (sV (w0' :: ws)).length = N + 1 := by rw [sV_len, hN]; rfl
  rw [hlen] at h1 hrow0 ⊢
  have i1 : (0 : Int) < ((N + 1 : Nat) : Int) := by omega
  have hsl : (str w0').toList = w0' := by rw [Lib.toList_data, str_list]
  have HN := Lib.hid hN
  have HC := Lib.hid hcell
  clear h3 hcell hlen hN
  by_cases hsp : w0' = splB
  case neg =>
    have e9 : (w0' == [115, 112, 108, 105, 116]) = false := by simpa [splB] using hsp
    have HF : Hid (R = match lfT (w0' :: ws) with | some t => .ok (t, b) | none => .error 3) := Lib.hid (by rw [HR.out]; exact dN_leaf HHD.out hsp)
    clear hsp
    go_wp2_with fail
    refine (leaf_b db (str b) _ w0' ws _ hD3 hrow0 hwl (he.ext hE3)).mono ?_
    rintro e w4 ⟨k4, hpost⟩
    obtain ⟨L, hL⟩ : ∃ L, L = lfT (w0' :: ws) := ⟨_, rfl⟩
    rw [← hL] at hpost HF
    have hsz := k3.size
    clear hL e9
    cases L with
    | none =>
      obtain ⟨rfl, hD4⟩ := hpost
      go_wp2_with fail
      go_ret
      rw [HF.out]
      exact ⟨k3.trans k4, by decide, rfl, _, hD4⟩
    | some t =>
      obtain ⟨A4, rfl, hT, hD4⟩ := hpost
      go_wp2_with fail
      go_ret
      rw [HF.out]
      exact ⟨k3.trans k4, _, rfl, hT.up hsz (Nat.le_refl _), hD4⟩
  case pos =>
  subst hsp
  have e9 : (splB == [115, 112, 108, 105, 116]) = true := by decide
  have d1 := hD3.c1
  have z1 := hD3.frozen 1
  have fail3 : ∀ (W : World), Ext w3 W → R = .error 3 → NodePost w db R (.returned (.pointer none)) (W.setCell ⟨db, 1, none⟩ (.int .i64 3)) := fun W hW hR => by
    have hD9 := hD3.ext hW
    rw [hR]
    exact ⟨(k3.step hW).set (p := ⟨db, 1, none⟩) rfl (fun z => by rw [hD9.c1]; intro e; cases e) _, by decide, rfl, _, hD9.set 1 _⟩
  have HFAIL := Lib.hid fail3
  clear fail3
  by_cases hN2 : N = 2
  case neg =>
    have e3 : ¬ ((N : Int) + 1 = 3) := by omega
    have e1 : (((N : Int) + 1) == 3) = false := by rw [beq_eq_false_iff_ne]; exact e3
    have e2 : (((N : Int) + 1) != 3) = true := by rw [bne, e1]; rfl
    have HF : Hid (R = .error 3) := Lib.hid (by
      rw [HR.out]
      refine dN_bad HHD.out ?_
      have hl2 : ws.length ≠ 2 := by rw [← HN.out]; exact hN2
      unfold spl
      split
      · exact absurd rfl hl2
      · rfl)
    clear hN2
    go_wp2_with fail
    go_ret
    exact HFAIL.out _ (Ext.refl _) HF.out
  case pos =>
  subst hN2
  by_cases hf0 : f = 0
  case pos =>
    have e3 : ¬ (lev : Int) < 200 := by have := HLV.out; omega
    have e2 : decide ((200 : Int) ≤ (lev : Int)) = true := by simp; omega
    have HF : Hid (R = .error 3) := Lib.hid (by rw [HR.out, hf0]; exact dN_zero HHD.out)
    clear hf0
    go_wp2_with fail
    go_ret
    exact HFAIL.out _ (Ext.refl _) HF.out
  case neg =>
  obtain ⟨g, hg⟩ : ∃ g, f = g + 1 := ⟨f - 1, by omega⟩
  have e2' : (lev : Int) < 200 := by have := HLV.out; omega
  have e2 : decide ((200 : Int) ≤ (lev : Int)) = false := by simp; omega
  obtain ⟨x, y, hxy⟩ : ∃ x y, ws = [x, y] := by
    have := HN.out
    match ws, this with
    | [x, y], _ => exact ⟨x, y, rfl⟩
  have e3 := HC.out 1 (.string (str x)) (by rw [hxy]; rfl)
  have e4 := HC.out 2 (.string (str y)) (by rw [hxy]; rfl)
  have hx9 : x.length ≤ 1048576 := HWM.out x (by rw [hxy]; simp)
  have hy9 : y.length ≤ 1048576 := HWM.out y (by rw [hxy]; simp)
  have HXY := Lib.hid hxy
  have HG := Lib.hid hg
  have IH := Lib.hid ih
  clear hxy hg hf0 ih hrow0
  go_wp2_with fail
  refine (decimal_any (str x) _ (by rw [str_size]; omega) (he.ext hE3)).mono ?_
  rintro e w4 ⟨⟨v, bv, rfl, hbv, hv⟩, hx4⟩
  rw [str_list] at hbv hv
  have HBV := Lib.hid hbv
  have HV := Lib.hid hv
  clear hbv hv
  have e4 := hx4.cell e4
  clear e3 e0 e9
  go_wp2_with fail
  refine (decimal_any (str y) _ (by rw [str_size]; omega) (he.ext (hE3.trans hx4))).mono ?_
  rintro e w5 ⟨⟨fl, bf, rfl, hbf, hfl⟩, hx5⟩
  rw [str_list] at hbf hfl
  have HBF := Lib.hid hbf
  have HFL := Lib.hid hfl
  clear hbf hfl
  have hx35 := hx4.trans hx5
  clear e4 hx4 hx5
  have hspl : spl [x, y] = match num x, num y with
    | some v, some fl => if 0 ≤ v ∧ v ≤ 9999 then some (v, fl) else none
    | _, _ => none := rfl
  have hD5 := hD3.ext hx35
  have d1 := hD5.c1
  have z1 := hD5.frozen 1
  by_cases hgood : (bv = true ∧ bf = true) ∧ 0 ≤ v ∧ v ≤ 9999
  case neg =>
    have HF : Hid (R = .error 3) := Lib.hid (by
      rw [HR.out]
      refine dN_bad HHD.out ?_
      rw [HXY.out, hspl]
      have hbv := HBV.out
      have hbf := HBF.out
      have hv := HV.out
      cases hnx : num x with
      | none => rfl
      | some v' =>
        cases hny : num y with
        | none => rfl
        | some fl' =>
          have e1 := hv _ hnx
          rw [hnx] at hbv
          rw [hny] at hbf
          show (if 0 ≤ v' ∧ v' ≤ 9999 then _ else none) = none
          rw [if_neg (by rw [← e1]; intro h; exact hgood ⟨⟨hbv, hbf⟩, h⟩)])
    clear hspl HV HFL HBV HBF
    cases bv with
    | false =>
      go_wp2_with fail
      go_ret
      exact HFAIL.out _ hx35 HF.out
    | true =>
      cases bf with
      | false =>
        go_wp2_with fail
        go_ret
        exact HFAIL.out _ hx35 HF.out
      | true =>
        by_cases hv0 : v < 0
        · have u1 : decide (v < 0) = true := decide_eq_true hv0
          go_wp2_with fail
          go_ret
          exact HFAIL.out _ hx35 HF.out
        · have u1 : decide (v < 0) = false := decide_eq_false hv0
          have hv9 : (9999 : Int) < v := by
            by_cases h : (9999 : Int) < v
            · exact h
            · exact absurd ⟨⟨rfl, rfl⟩, by omega, by omega⟩ hgood
          have u2 : decide ((9999 : Int) < v) = true := decide_eq_true hv9
          go_wp2_with fail
          go_ret
          exact HFAIL.out _ hx35 HF.out
  case pos =>
  obtain ⟨⟨rfl, rfl⟩, hv0, hv9⟩ := hgood
  have hsp2 : spl ws = some (v, fl) := by
    rw [HXY.out, hspl]
    have hbv := HBV.out
    have hbf := HBF.out
    have hv := HV.out
    have hfl := HFL.out
    cases hnx : num x with
    | none => rw [hnx] at hbv; cases hbv
    | some v' =>
      cases hny : num y with
      | none => rw [hny] at hbf; cases hbf
      | some fl' =>
        have e1 := hv _ hnx
        have e2 := hfl _ hny
        show (if 0 ≤ v' ∧ v' ≤ 9999 then _ else none) = _
        rw [← e1, ← e2, if_pos ⟨hv0, hv9⟩]
  have hRin := dN_in (f := g) HHD.out hsp2
  rw [← HG.out, ← HR.out] at hRin
  have HRI := Lib.hid hRin
  have u1 : decide (v < 0) = false := decide_eq_false (by omega)
  have u2 : decide ((9999 : Int) < v) = false := decide_eq_false (by omega)
  have k5 := k3.step hx35
  have hE5 := hE3.trans hx35
  clear hspl HV HFL HBV HBF hsp2 hRin k3 hE3 hD3 hv0 hv9
  go_upto_region 18 with fail
  have TB := Box.new w5 79 (NodeC v fl none none false none 0 0)
  have hET : Ext w5 (w5.alloc (.cells (NodeC v fl none none false none 0 0) 79)) := (Ext.refl w5).alloc _
  unfold NodeC at TB hET
  have hsz : (w5.alloc (.cells #[.int .i64 v, .int .i64 fl, .pointer none, .pointer none, .bool false, .slice none 0 0] 79)).heap.size = w5.heap.size + 1 := by simp
  generalize (w5.alloc (.cells #[.int .i64 v, .int .i64 fl, .pointer none, .pointer none, .bool false, .slice none 0 0] 79)) = U at *
  obtain ⟨tb, htb⟩ : ∃ z, z = w5.heap.size := ⟨_, rfl⟩
  rw [← htb] at TB hsz ⊢
  have hDU := hD5.ext hET
  have kU := k5.step hET
  have hEU := hE5.trans hET
  have hwt : w.heap.size ≤ tb := by rw [htb]; exact k5.size
  have hdt : db < tb := by rw [htb]; exact hD5.lt
  clear htb d1 z1 hD5 hET k5 hE5 hx35 u1 u2
  have hc1 := IH.out g (by have := HG.out; omega) b db w0 U (by have := HG.out; omega) (by omega) hEU hdb he hDU
  rw [show ((200 - g : Nat) : Int) = (lev : Int) + 1 by have := HLV.out; have := HG.out; omega] at hc1
  obtain ⟨RA, hRA⟩ : ∃ r, r = dN g b := ⟨_, rfl⟩
  rw [← hRA] at hc1
  have HRA := Lib.hid hRA
  clear hRA
  have rl : IntKind.i64.wrap ((lev : Int) + 1) = (lev : Int) + 1 := IntWalk.i64_in _ (by omega)
  go_wp2_with fail
  refine hc1.mono ?_
  clear hc1
  rintro e w6 ⟨k6, hpost⟩
  have hbt : ¬ tb = db := by omega
  have TB6 := k6.box TB hbt
  have z2 := TB6.frozen 2
  have c2 : w6.cell? ⟨tb, 2, none⟩ = some (.pointer none) := TB6.cell 2
  cases RA with
  | error cc =>
    obtain ⟨hcc, rfl, s, hD6⟩ := hpost
    have HF : Hid (R = .error cc) := Lib.hid (by rw [HRI.out, ← HRA.out])
    go_upto_region 19 with fail
    have k7 : Fr (fun k => k = db) w (w6.setCell ⟨tb, 2, none⟩ (.pointer none)) := (kU.trans k6).setN (p := ⟨tb, 2, none⟩) hwt _
    have hD7 := hD6.far (p := ⟨tb, 2, none⟩) (by show db ≠ tb; omega) (.pointer none)
    generalize (w6.setCell ⟨tb, 2, none⟩ (.pointer none)) = W7 at *
    have d1 := hD7.c1
    have e6 : (cc == 0) = false := by rw [beq_eq_false_iff_ne]; exact hcc
    have e7 : (cc != 0) = true := by rw [bne, e6]; rfl
    clear z2 c2
    go_wp2_with fail
    go_ret
    rw [HF.out]
    exact ⟨k7, hcc, rfl, _, hD7⟩
  | ok q =>
  obtain ⟨xt, r⟩ := q
  obtain ⟨A6, rfl, hT6, hD6⟩ := hpost
  have hrl := dN_len g b xt r HRA.out.symm
  have HRI2 : Hid (R = match dN g r with | .error e => .error e | .ok (y, r') => .ok (.node v fl false 0 (fun _ => 0) xt y, r')) := Lib.hid (by rw [HRI.out, ← HRA.out])
  have hU6 : U.heap.size ≤ w6.heap.size := k6.size
  go_upto_region 19 with fail
  have k7 : Fr (fun k => k = db) w (w6.setCell ⟨tb, 2, none⟩ (.pointer A6)) := (kU.trans k6).setN (p := ⟨tb, 2, none⟩) hwt _
  have k67 : Fr (fun k => k = tb) w6 (w6.setCell ⟨tb, 2, none⟩ (.pointer A6)) := (Fr.refl (fun k => k = tb) w6).set (p := ⟨tb, 2, none⟩) rfl (fun z => by rw [c2]; intro e; cases e) _
  have hD7 := hD6.far (p := ⟨tb, 2, none⟩) (by show db ≠ tb; omega) (.pointer A6)
  have TB7 : Box (w6.setCell ⟨tb, 2, none⟩ (.pointer A6)) tb 79 (NodeC v fl A6 none false none 0 0) := TB6.set 2 (.pointer A6)
  have hT7 := hT6.fr k67 (fun k h1 h2 => by omega)
  have hs7 := k67.size
  clear k67 hT6 hD6 TB6 z2 c2
  generalize (w6.setCell ⟨tb, 2, none⟩ (.pointer A6)) = W7 at *
  have hE7 : Ext w0 W7 := k7.ext hE0 (fun k hk => by rw [hk]; exact hdb)
  have hT7 := hT7.up (Nat.le_refl _) hs7
  have d1 := hD7.c1
  have hc2 := IH.out g (by have := HG.out; omega) r db w0 W7 (by have := HG.out; omega) (by omega) hE7 hdb he hD7
  rw [show ((200 - g : Nat) : Int) = (lev : Int) + 1 by have := HLV.out; have := HG.out; omega] at hc2
  obtain ⟨RB, hRB⟩ : ∃ x, x = dN g r := ⟨_, rfl⟩
  rw [← hRB] at hc2
  have HRB := Lib.hid hRB
  clear hRB
  go_wp2_with fail
  refine hc2.mono ?_
  clear hc2 d1
  rintro e w8 ⟨k8, hpost⟩
  have TB8 := k8.box TB7 hbt
  have hT8 := hT7.fr k8 (fun k h1 h2 => by omega)
  have z3 := TB8.frozen 3
  have c3 : w8.cell? ⟨tb, 3, none⟩ = some (.pointer none) := TB8.cell 3
  have hs8 := k8.size
  cases RB with
  | error cc =>
    obtain ⟨hcc, rfl, s, hD8⟩ := hpost
    have HF : Hid (R = .error cc) := Lib.hid (by rw [HRI2.out, ← HRB.out])
    go_upto_region 22 with fail
    have k9 : Fr (fun k => k = db) w (w8.setCell ⟨tb, 3, none⟩ (.pointer none)) := (k7.trans k8).setN (p := ⟨tb, 3, none⟩) hwt _
    have hD9 := hD8.far (p := ⟨tb, 3, none⟩) (by show db ≠ tb; omega) (.pointer none)
    generalize (w8.setCell ⟨tb, 3, none⟩ (.pointer none)) = W9 at *
    have d1 := hD9.c1
    have e6 : (cc == 0) = false := by rw [beq_eq_false_iff_ne]; exact hcc
    have e7 : (cc != 0) = true := by rw [bne, e6]; rfl
    clear z3 c3
    go_wp2_with fail
    go_ret
    rw [HF.out]
    exact ⟨k9, hcc, rfl, _, hD9⟩
  | ok q =>
  obtain ⟨yt, r'⟩ := q
  obtain ⟨A8, rfl, hY8, hD8⟩ := hpost
  have HF : Hid (R = .ok (.node v fl false 0 (fun _ => 0) xt yt, r')) := Lib.hid (by rw [HRI2.out, ← HRB.out])
  go_upto_region 22 with fail
  have k9 : Fr (fun k => k = db) w (w8.setCell ⟨tb, 3, none⟩ (.pointer A8)) := (k7.trans k8).setN (p := ⟨tb, 3, none⟩) hwt _
  have k89 : Fr (fun k => k = tb) w8 (w8.setCell ⟨tb, 3, none⟩ (.pointer A8)) := (Fr.refl (fun k => k = tb) w8).set (p := ⟨tb, 3, none⟩) rfl (fun z => by rw [c3]; intro e; cases e) _
  have hD9 := hD8.far (p := ⟨tb, 3, none⟩) (by show db ≠ tb; omega) (.pointer A8)
  have TB9 : Box (w8.setCell ⟨tb, 3, none⟩ (.pointer A8)) tb 79 (NodeC v fl A6 A8 false none 0 0) := TB8.set 3 (.pointer A8)
  have hT9 := hT8.fr k89 (fun k h1 h2 => by omega)
  have hY9 := hY8.fr k89 (fun k h1 h2 => by omega)
  have hs9 := k89.size
  clear k89 hT8 hY8 hD8 TB8 z3 c3
  generalize (w8.setCell ⟨tb, 3, none⟩ (.pointer A8)) = W9 at *
  have d1 := hD9.c1
  go_wp2_with fail
  go_ret
  rw [HF.out]
  exact ⟨k9, _, rfl, ⟨tb, A6, A8, none, 0, _, _, rfl, hwt, (by omega), TB9, ⟨⟨Nat.le_refl _, by decide, fun h => absurd h (by omega)⟩, fun h => absurd h (by omega)⟩, hT9, hY9.up (Nat.le_refl _) hs9⟩, hD9⟩
end Go.Proofs.YtljncdcjkdgkeaaGreatDoor.Dc
namespace Go.Proofs.YtljncdcjkdgkeaaGreatDoor.Dc
open Go.RowKit Go.Proofs.YtljncdcjkdgkeaaGreatDoor.Big Go.Proofs.YtljncdcjkdgkeaaGreatDoor.Lp Go.Proofs.YtljncdcjkdgkeaaGreatDoor.Rt

def decP (l : BL) : Except Int CT := if 65536 < l.length then .error 5 else if l ≠ [] ∧ Lib.hasSuffix l [10] = false then .error 3 else match dN 200 l with
  | .error e => .error e
  | .ok (t, r) => if r = [] then .ok t else .error 3
def DecPost (w : World) (r : Except Int CT) (e : Ending) (w' : World) : Prop := Ext w w' ∧ match r with
  | .ok t => ∃ A, e = .returned (.tuple #[.pointer A, .int .i64 0]) ∧ TreeI w' t A w.heap.size w'.heap.size
  | .error c => e = .returned (.tuple #[.pointer none, .int .i64 c])
set_option maxHeartbeats 1000000 in
set_option maxRecDepth 100000 in
theorem Decode_b (l : BL) (w : World) (he : Env w) : Calls Tryz.prog 13 #[.string (str l)] w (DecPost w (decP l)) := by
  by_cases h0 : 65536 < l.length
  · refine (decode_long (str l) w h0).mono ?_
    rintro e w' ⟨rfl, hx⟩
    exact ⟨hx, by rw [show decP l = .error 5 from if_pos h0]⟩
  by_cases hnil : l = []
  · subst hnil
    refine (decode_none w he.mx).mono ?_
    rintro e w' ⟨rfl, hx⟩
    exact ⟨hx, by rw [show decP [] = .error 4 from by unfold decP; rw [if_neg h0, if_neg (fun h => h.1 rfl), dN_err (show hdL [] = .error 4 from rfl)]]⟩
  have hsz : (str l).size = l.length := str_size l
  have hsl : (str l).toList = l := by rw [Lib.toList_data, str_list]
  have h1 : decide ((65536 : Int) < (l.length : Int)) = false := by simp; omega
  have h2 : (l == []) = false := by simpa using hnil
  have h3 : l.isEmpty = false := by simpa using hnil
  obtain ⟨F, hF⟩ : ∃ F, F = Lib.hasSuffix l [10] := ⟨_, rfl⟩
  have HF := Lib.hid hF
  have HNIL := Lib.hid hnil
  have HH0 := Lib.hid h0
  have hsuf := Tryz.strings_HasSuffix (str l) ⟨#[10]⟩ w (by rw [hsz]; omega)
  rw [str_list, show (⟨#[10]⟩ : ByteArray).data.toList = [10] from rfl, ← hF] at hsuf
  clear hF hnil h0
  go_enter Tryz.func13, Tryz.ntmps13
  go_wp2_with fail
  refine hsuf.mono ?_
  clear hsuf
  rintro e w1 ⟨rfl, rfl⟩
  cases F with
  | false =>
    have HR : Hid (decP l = .error 3) := Lib.hid (by unfold decP; rw [if_neg HH0.out, if_pos ⟨HNIL.out, HF.out.symm⟩])
    go_wp2_with fail
    refine bodyPost_ret (v := .tuple #[.pointer none, .int .i64 3]) (by simp [results, Tryz.results13, go_sem]) rfl ?_
    exact ⟨Ext.refl _, by rw [HR.out]⟩
  | true =>
  have HR : Hid (decP l = match dN 200 l with | .error e => .error e | .ok (t, r) => if r = [] then .ok t else .error 3) := Lib.hid (by unfold decP; rw [if_neg HH0.out, if_neg (fun h => by rw [← HF.out] at h; exact absurd h.2 (by decide))])
  go_upto_region 6 with fail
  have DB := Box.new w1 100 #[.string (str l), .int .i64 0]
  have hE : Ext w1 (w1.alloc (.cells #[.string (str l), .int .i64 0] 100)) := (Ext.refl w1).alloc _
  have hsV : (w1.alloc (.cells #[.string (str l), .int .i64 0] 100)).heap.size = w1.heap.size + 1 := by simp
  generalize (w1.alloc (.cells #[.string (str l), .int .i64 0] 100)) = V at *
  obtain ⟨db, hdb⟩ : ∃ x, x = w1.heap.size := ⟨_, rfl⟩
  rw [← hdb] at DB ⊢
  have hdw : w1.heap.size ≤ db := by omega
  clear hdb
  have hnb := node_b 200 l db w1 V (by omega) (by have := HH0.out; omega) hE hdw he DB
  rw [show ((200 - 200 : Nat) : Int) = 0 from rfl] at hnb
  obtain ⟨RA, hRA⟩ : ∃ r, r = dN 200 l := ⟨_, rfl⟩
  rw [← hRA] at hnb
  have HRA := Lib.hid hRA
  clear hRA h1 h2 h3 hsl hsz
  go_wp2_with fail
  refine hnb.mono ?_
  clear hnb
  rintro e w2 ⟨k2, hpost⟩
  have hE2 : Ext w1 w2 := k2.ext hE (fun k hk => by rw [hk]; exact hdw)
  cases RA with
  | error c =>
    obtain ⟨hc, rfl, s, DB2⟩ := hpost
    have HQ : Hid (decP l = .error c) := Lib.hid (by rw [HR.out, ← HRA.out])
    have c0 := DB2.c0
    have c1 := DB2.c1
    have e6 : (c == 0) = false := by rw [beq_eq_false_iff_ne]; exact hc
    have e7 : (c != 0) = true := by rw [bne, e6]; rfl
    go_upto_region 8 with fail
    go_region
    all_goals (
      go_wp2_with fail
      refine bodyPost_ret (v := .tuple #[.pointer none, .int .i64 c]) (by simp [results, Tryz.results13, go_sem]) rfl ?_
      exact ⟨by first | exact hE2.drew | exact hE2, by rw [HQ.out]⟩)
  | ok q =>
    obtain ⟨t, r⟩ := q
    obtain ⟨A, rfl, hT, DB2⟩ := hpost
    have hT2 := hT.up (b' := w1.heap.size) (by omega) (Nat.le_refl _)
    have c0 := DB2.c0
    have c1 := DB2.c1
    have hrl : (str r).toList = r := by rw [Lib.toList_data, str_list]
    by_cases hr : r = []
    · have HQ : Hid (decP l = .ok t) := Lib.hid (by rw [HR.out, ← HRA.out]; exact if_pos hr)
      have e6 : (r == []) = true := by simpa using hr
      have e7 : r.isEmpty = true := by simpa using hr
      clear hr
      go_wp2_with fail
      refine bodyPost_ret (v := .tuple #[.pointer A, .int .i64 0]) (by simp [results, Tryz.results13, go_sem]) rfl ?_
      exact ⟨hE2, by rw [HQ.out]; exact ⟨A, rfl, hT2⟩⟩
    · have HQ : Hid (decP l = .error 3) := Lib.hid (by rw [HR.out, ← HRA.out]; exact if_neg hr)
      have e6 : (r == []) = false := by simpa using hr
      have e7 : r.isEmpty = false := by simpa using hr
      clear hr
      go_wp2_with fail
      refine bodyPost_ret (v := .tuple #[.pointer none, .int .i64 3]) (by simp [results, Tryz.results13, go_sem]) rfl ?_
      exact ⟨hE2, by rw [HQ.out]⟩
end Go.Proofs.YtljncdcjkdgkeaaGreatDoor.Dc
namespace Go.Proofs.YtljncdcjkdgkeaaGreatDoor.Dc
open Go.RowKit Go.Proofs.YtljncdcjkdgkeaaGreatDoor.Big Go.Proofs.YtljncdcjkdgkeaaGreatDoor.Lp Go.Proofs.YtljncdcjkdgkeaaGreatDoor.Rt
open Go.Lib (itoa)

theorem parts_snoc {c : UInt8} {b : BL} (hb : c ∉ b) : ∀ (a : BL), parts c (a ++ c :: b) = parts c a ++ [b]
  | [] => by
    rw [List.nil_append, show parts c (c :: b) = [] :: parts c b from by conv => lhs; unfold parts; rw [if_pos rfl], parts_none hb]
    rfl
  | x :: r => by
    have ih := parts_snoc hb r
    rw [List.cons_append]
    conv => lhs; unfold parts
    conv => rhs; unfold parts
    by_cases h : x = c
    · rw [if_pos h, if_pos h, ih]; rfl
    · rw [if_neg h, if_neg h, ih]
      cases hp : parts c r with
      | nil => exact absurd hp (parts_ne _ _)
      | cons p ps => rfl
end Go.Proofs.YtljncdcjkdgkeaaGreatDoor.Dc
namespace Go.Proofs.YtljncdcjkdgkeaaGreatDoor.Dc
open Go.RowKit Go.Proofs.YtljncdcjkdgkeaaGreatDoor.Big Go.Proofs.YtljncdcjkdgkeaaGreatDoor.Lp Go.Proofs.YtljncdcjkdgkeaaGreatDoor.Rt
open Go.Lib (itoa)

theorem dec_head : ∀ (u : Nat), 0 < u → (Lib.decDigits u).head? ≠ some 48 := by
  intro u
  induction u using Nat.strongRecOn with
  | _ u ih =>
  intro hu h
  by_cases hs : u < 10
  · rw [Lib.decDigits, dif_pos hs] at h
    have h2 := congrArg (fun o => o.map UInt8.toNat) h
    simp at h2
    omega
  · rw [Lib.decDigits, dif_neg hs] at h
    have hne := dec_ne (u / 10)
    cases hc : Lib.decDigits (u / 10) with
    | nil => exact hne hc
    | cons x r =>
      rw [hc] at h
      exact ih (u / 10) (by omega) (by omega) (by rw [hc]; exact h)
theorem dec_of_itoa (z : Int) : isDec (itoa z) = true := by
  have key : ∀ (u : Nat), (if (Lib.decDigits u).head? = some 48 then (Lib.decDigits u == [48]) else true) = true := fun u => by
    by_cases hu : u = 0
    · subst hu; decide +kernel
    · rw [if_neg (dec_head u (by omega))]
  rw [isDec_eq]
  rcases Int.lt_or_le z 0 with h | h
  · obtain ⟨u, rfl⟩ : ∃ u : Nat, z = -(u : Int) := ⟨z.natAbs, by omega⟩
    rw [Lib.itoa_neg u (by omega)]
    have h1 : negd (45 :: Lib.decDigits u) = true := by simp [negd, Lib.hasPrefix, List.isPrefixOf]
    have h2 : rest (45 :: Lib.decDigits u) = Lib.decDigits u := by unfold rest Lib.trimPrefix; unfold negd at h1; rw [h1]; rfl
    rw [h2, digs_dec, if_neg (dec_head u (by omega))]
    simp [dec_ne u]
  · obtain ⟨u, rfl⟩ : ∃ u : Nat, z = (u : Int) := ⟨z.natAbs, by omega⟩
    rw [Lib.itoa_nonneg u]
    have h1 := digs_neg (digs_dec u)
    have hk := key u
    rw [rest_pos h1, digs_dec, h1]
    simp only [Bool.not_false, Bool.and_true]
    rw [hk]
    simp [dec_ne u]
end Go.Proofs.YtljncdcjkdgkeaaGreatDoor.Dc
namespace Go.Proofs.YtljncdcjkdgkeaaGreatDoor.Dc
open Go.RowKit Go.Proofs.YtljncdcjkdgkeaaGreatDoor.Big Go.Proofs.YtljncdcjkdgkeaaGreatDoor.Lp Go.Proofs.YtljncdcjkdgkeaaGreatDoor.Rt
open Go.Lib (itoa)

/-- whole lines -/
def whole (p : BL) : Prop := p = [] ∨ p.getLast? = some 10
theorem whole_tail {a b : BL} (h : whole (a ++ b)) : whole b := by
  by_cases hb : b = []
  · exact .inl hb
  · rcases h with h | h
    · exact absurd (List.append_eq_nil_iff.1 h).2 hb
    · refine .inr ?_
      rw [List.getLast?_append] at h
      cases hg : b.getLast? with
      | none => exact absurd (List.getLast?_eq_none_iff.1 hg) hb
      | some x => rw [hg] at h; simpa using h
end Go.Proofs.YtljncdcjkdgkeaaGreatDoor.Dc
namespace Go.Proofs.YtljncdcjkdgkeaaGreatDoor.Dc
open Go.RowKit Go.Proofs.YtljncdcjkdgkeaaGreatDoor.Big Go.Proofs.YtljncdcjkdgkeaaGreatDoor.Lp Go.Proofs.YtljncdcjkdgkeaaGreatDoor.Rt
open Go.Lib (itoa)

theorem suffix_one {l : BL} {c : UInt8} : Lib.hasSuffix l [c] = true ↔ l.getLast? = some c := by
  unfold Lib.hasSuffix
  rw [List.isSuffixOf_iff_suffix]
  constructor
  · rintro ⟨t, rfl⟩; simp
  · intro h
    rcases List.eq_nil_or_concat l with rfl | ⟨t, x, rfl⟩
    · cases h
    · simp at h
      exact ⟨t, by simp [h]⟩
end Go.Proofs.YtljncdcjkdgkeaaGreatDoor.Dc
namespace Go.Proofs.YtljncdcjkdgkeaaGreatDoor.Dc
open Go.RowKit Go.Proofs.YtljncdcjkdgkeaaGreatDoor.Big Go.Proofs.YtljncdcjkdgkeaaGreatDoor.Lp Go.Proofs.YtljncdcjkdgkeaaGreatDoor.Rt
open Go.Lib (itoa)

/-- no more than 15 digits in a row -/
def Short (l : BL) : Prop := ∀ a d b, l = a ++ (d ++ b) → (∀ c ∈ d, 48 ≤ c.toNat ∧ c.toNat ≤ 57) → d.length ≤ 15
theorem Short.mid {a m b : BL} (h : Short (a ++ (m ++ b))) : Short m := fun a' d b' e hd => h (a ++ a') d (b' ++ b) (by rw [e]; simp) hd
theorem Short.left {a b : BL} (h : Short (a ++ b)) : Short a := Short.mid (a := []) (m := a) (b := b) h
theorem Short.right {a b : BL} (h : Short (a ++ b)) : Short b := Short.mid (a := a) (m := b) (b := []) (by simpa using h)
theorem Short.all {l : BL} (h : Short l) (hd : ∀ c ∈ l, 48 ≤ c.toNat ∧ c.toNat ≤ 57) : l.length ≤ 15 := h [] l [] (by simp) hd
/-- parts lie in the text -/
theorem parts_in (c : UInt8) : ∀ (N : Nat) (l : BL), l.length = N → ∀ x ∈ parts c l, ∃ a b, l = a ++ (x ++ b) := by
  intro N
  induction N using Nat.strongRecOn with
  | _ N ih =>
  intro l hl x hx
  cases h : cutB c l with
  | none =>
    rw [parts_none (cutB_none_iff.1 h), List.mem_singleton] at hx
    subst hx
    exact ⟨[], [], by simp⟩
  | some p =>
    obtain ⟨a, b⟩ := p
    obtain ⟨rfl, ha⟩ := cutB_spec h
    rw [parts_some ha] at hx
    rcases List.mem_cons.1 hx with e | hx
    · subst e; exact ⟨[], c :: b, rfl⟩
    · obtain ⟨a', b', e⟩ := ih b.length (by rw [← hl]; simp; omega) b rfl x hx
      exact ⟨a ++ c :: a', b', by rw [e]; simp⟩
theorem parts_short {c : UInt8} {l : BL} (h : Short l) : ∀ x ∈ parts c l, Short x := by
  intro x hx
  obtain ⟨a, b, e⟩ := parts_in c l.length l rfl x hx
  rw [e] at h
  exact h.mid
/-- a line: none: malformed; true: a split -/
def lnR (a : BL) : Option Bool := match parts 32 a with
  | [] => none
  | w0 :: ws => if w0 = splB then (if (spl ws).isSome then some true else none) else if (lfT (w0 :: ws)).isSome then some false else none
/-- the reference's loop: the levels of the nodes to come, the text -/
def refS : List Nat → Nat → BL → Int
  | op, 0, _ => if op = [] then 0 else if op.any (fun d => decide (200 < d)) then 3 else 4
  | op, n + 1, l => if l = [] then (if op = [] then 0 else if op.any (fun d => decide (200 < d)) then 3 else 4) else match cutB 10 l with
    | none => 3
    | some (a, b) => match op with
      | [] => 3
      | d :: st => if 200 < d then 3 else match lnR a with
        | none => 3
        | some true => refS ((d + 1) :: (d + 1) :: st) n b
        | some false => refS st n b
theorem cutB_less {c : UInt8} {l a b : BL} (h : cutB c l = some (a, b)) : b.length < l.length := by
  obtain ⟨rfl, -⟩ := cutB_spec h
  simp; omega
/-- any fuel does -/
theorem refS_fuel : ∀ (n m : Nat) (op : List Nat) (l : BL), l.length ≤ n → l.length ≤ m → refS op n l = refS op m l := by
  have nilS : ∀ (m : Nat) (op : List Nat), refS op m [] = (if op = [] then 0 else if op.any (fun d => decide (200 < d)) then 3 else 4) := fun m op => by
    cases m with
    | zero => rfl
    | succ m => exact if_pos rfl
  intro n
  induction n with
  | zero =>
    intro m op l h1 h2
    have : l = [] := List.eq_nil_of_length_eq_zero (by omega)
    subst this
    rw [nilS, nilS]
  | succ n ih =>
    intro m op l h1 h2
    by_cases hl : l = []
    · subst hl; rw [nilS, nilS]
    · obtain ⟨k, rfl⟩ : ∃ k, m = k + 1 := ⟨m - 1, by have := List.length_pos_iff.2 hl; omega⟩
      show (if l = [] then _ else _) = (if l = [] then _ else _)
      rw [if_neg hl, if_neg hl]
      cases hc : cutB 10 l with
      | none => rfl
      | some p =>
        obtain ⟨a, b⟩ := p
        have hb := cutB_less hc
        cases op with
        | nil => rfl
        | cons d st =>
          dsimp only
          by_cases hd : 200 < d
          · rw [if_pos hd, if_pos hd]
          · rw [if_neg hd, if_neg hd]
            cases lnR a with
            | none => rfl
            | some q =>
              cases q with
              | true => exact ih k _ b (by omega) (by omega)
              | false => exact ih k _ b (by omega) (by omega)
def refL (op : List Nat) (l : BL) : Int := refS op l.length l
theorem refL_nil (op : List Nat) : refL op [] = (if op = [] then 0 else if op.any (fun d => decide (200 < d)) then 3 else 4) := rfl
theorem refL_none {op : List Nat} {l : BL} (hl : l ≠ []) (h : cutB 10 l = none) : refL op l = 3 := by
  unfold refL
  obtain ⟨k, hk⟩ : ∃ k, l.length = k + 1 := ⟨l.length - 1, by have := List.length_pos_iff.2 hl; omega⟩
  rw [hk]
  show (if l = [] then _ else _) = _
  rw [if_neg hl, h]
theorem refL_cut {op : List Nat} {l a b : BL} (h : cutB 10 l = some (a, b)) : refL op l = match op with
      | [] => 3
      | d :: st => if 200 < d then 3 else match lnR a with
        | none => 3
        | some true => refL ((d + 1) :: (d + 1) :: st) b
        | some false => refL st b := by
  have hl : l ≠ [] := fun e => by rw [e] at h; cases h
  have hb := cutB_less h
  unfold refL
  obtain ⟨k, hk⟩ : ∃ k, l.length = k + 1 := ⟨l.length - 1, by have := List.length_pos_iff.2 hl; omega⟩
  rw [hk]
  have e : refS op (k + 1) l = match op with
      | [] => 3
      | d :: st => if 200 < d then 3 else match lnR a with
        | none => 3
        | some true => refS ((d + 1) :: (d + 1) :: st) k b
        | some false => refS st k b := by
    show (if l = [] then _ else _) = _
    rw [if_neg hl, h]
  rw [e]
  cases op with
  | nil => rfl
  | cons d st =>
    dsimp only
    by_cases hd : 200 < d
    · rw [if_pos hd, if_pos hd]
    · rw [if_neg hd, if_neg hd]
      cases lnR a with
      | none => rfl
      | some q =>
        cases q with
        | true => exact refS_fuel _ _ _ b (by omega) (Nat.le_refl _)
        | false => exact refS_fuel _ _ _ b (by omega) (Nat.le_refl _)
/-- below the last level -/
theorem refL_deep (st : List Nat) (l : BL) : refL (201 :: st) l = 3 := by
  by_cases hl : l = []
  · subst hl
    rw [refL_nil, if_neg (by simp), if_pos (by simp)]
  · cases hc : cutB 10 l with
    | none => exact refL_none hl hc
    | some p =>
      obtain ⟨a, b⟩ := p
      rw [refL_cut hc]
      exact if_pos (by decide)
theorem refL_over (l : BL) (hl : l ≠ []) : refL [] l = 3 := by
  cases hc : cutB 10 l with
  | none => exact refL_none hl hc
  | some p =>
    obtain ⟨a, b⟩ := p
    rw [refL_cut hc]
/-- a text whose last line is not whole -/
theorem refL_ragged : ∀ (N : Nat) (l : BL) (op : List Nat), l.length = N → ¬ whole l → refL op l = 3 := by
  intro N
  induction N using Nat.strongRecOn with
  | _ N ih =>
  intro l op hN hw
  have hl : l ≠ [] := fun e => hw (.inl e)
  cases hc : cutB 10 l with
  | none => exact refL_none hl hc
  | some p =>
    obtain ⟨a, b⟩ := p
    have hb := cutB_less hc
    obtain ⟨e, -⟩ := cutB_spec hc
    have hwb : ¬ whole b := by
      intro hb'
      apply hw
      right
      rw [e]
      rcases hb' with h | h
      · rw [h]; simp
      · rw [List.getLast?_append, List.getLast?_cons, h]; rfl
    rw [refL_cut hc]
    cases op with
    | nil => rfl
    | cons d st =>
      dsimp only
      by_cases hd : 200 < d
      · rw [if_pos hd]
      · rw [if_neg hd]
        cases lnR a with
        | none => rfl
        | some q =>
          cases q with
          | true => exact ih b.length (by omega) b _ rfl hwb
          | false => exact ih b.length (by omega) b _ rfl hwb
/-- the decoder and the reference agree on whole lines -/
theorem ref_dec : ∀ (f : Nat) (l : BL) (st : List Nat), f ≤ 200 → (∀ d ∈ st, d ≤ 200) → whole l →
    match dN f l with
    | .error c => refL ((200 - f) :: st) l = c
    | .ok (_, r) => refL ((200 - f) :: st) l = refL st r ∧ whole r := by
  intro f
  induction f with
  | zero =>
    intro l st hf hst hw
    cases hc : cutB 10 l with
    | none =>
      have hl : l = [] := by
        rcases hw with h | h
        · exact h
        · exact absurd (List.mem_of_getLast? h) (cutB_none_iff.1 hc)
      subst hl
      rw [dN_err (show hdL [] = .error 4 from rfl)]
      show refL _ [] = 4
      rw [refL_nil, if_neg (by simp), if_neg]
      simp only [List.any_cons, Bool.or_eq_true, decide_eq_true_eq, List.any_eq_true, not_or, not_exists, not_and]
      exact ⟨by omega, fun d hd => by have := hst d hd; omega⟩
    | some p =>
      obtain ⟨a, b⟩ := p
      obtain ⟨e, -⟩ := cutB_spec hc
      have hwb : whole b := whole_tail (a := a ++ [10]) (by rw [show (a ++ [10]) ++ b = l by rw [e]; simp]; exact hw)
      cases hp : parts 32 a with
      | nil => exact absurd hp (parts_ne _ _)
      | cons w0 ws =>
        have hh : hdL l = .ok ((w0, ws), b) := by unfold hdL; rw [hc]; show (match parts 32 a with | [] => _ | w0 :: ws => _) = _; rw [hp]
        have hln : lnR a = if w0 = splB then (if (spl ws).isSome then some true else none) else if (lfT (w0 :: ws)).isSome then some false else none := by unfold lnR; rw [hp]
        have hr := refL_cut (op := (200 - 0) :: st) hc
        dsimp only at hr
        rw [if_neg (by omega)] at hr
        by_cases hs : w0 = splB
        · subst hs
          rw [dN_zero hh]
          show refL _ l = 3
          rw [hr, hln, if_pos rfl]
          cases spl ws with
          | none => rfl
          | some q => exact refL_deep _ _
        · rw [dN_leaf hh hs]
          rw [hln, if_neg hs] at hr
          cases ht : lfT (w0 :: ws) with
          | none => rw [ht] at hr; exact hr
          | some t => rw [ht] at hr; exact ⟨hr, hwb⟩
  | succ g ih =>
    intro l st hf hst hw
    cases hc : cutB 10 l with
    | none =>
      have hl : l = [] := by
        rcases hw with h | h
        · exact h
        · exact absurd (List.mem_of_getLast? h) (cutB_none_iff.1 hc)
      subst hl
      rw [dN_err (show hdL [] = .error 4 from rfl)]
      show refL _ [] = 4
      rw [refL_nil, if_neg (by simp), if_neg]
      simp only [List.any_cons, Bool.or_eq_true, decide_eq_true_eq, List.any_eq_true, not_or, not_exists, not_and]
      exact ⟨by omega, fun d hd => by have := hst d hd; omega⟩
    | some p =>
      obtain ⟨a, b⟩ := p
      obtain ⟨e, -⟩ := cutB_spec hc
      have hwb : whole b := whole_tail (a := a ++ [10]) (by rw [show (a ++ [10]) ++ b = l by rw [e]; simp]; exact hw)
      cases hp : parts 32 a with
      | nil => exact absurd hp (parts_ne _ _)
      | cons w0 ws =>
        have hh : hdL l = .ok ((w0, ws), b) := by unfold hdL; rw [hc]; show (match parts 32 a with | [] => _ | w0 :: ws => _) = _; rw [hp]
        have hln : lnR a = if w0 = splB then (if (spl ws).isSome then some true else none) else if (lfT (w0 :: ws)).isSome then some false else none := by unfold lnR; rw [hp]
        have hr := refL_cut (op := (200 - (g + 1)) :: st) hc
        dsimp only at hr
        rw [if_neg (by omega)] at hr
        by_cases hs : w0 = splB
        · subst hs
          rw [hln, if_pos rfl] at hr
          cases hq : spl ws with
          | none =>
            rw [dN_bad hh hq]
            rw [hq] at hr
            exact hr
          | some q =>
            obtain ⟨v, fl⟩ := q
            rw [hq] at hr
            dsimp only [Option.isSome, if_true] at hr
            rw [if_pos rfl, show 200 - (g + 1) + 1 = 200 - g by omega] at hr
            rw [dN_in hh hq]
            have i1 := ih b ((200 - g) :: st) (by omega) (fun d hd => by
              rcases List.mem_cons.1 hd with h | h
              · omega
              · exact hst d h) hwb
            cases h1 : dN g b with
            | error c => rw [h1] at i1; exact hr.trans i1
            | ok p1 =>
              obtain ⟨x, r⟩ := p1
              rw [h1] at i1
              obtain ⟨i1, hwr⟩ := i1
              have i2 := ih r st (by omega) hst hwr
              dsimp only
              cases h2 : dN g r with
              | error c => rw [h2] at i2; exact (hr.trans i1).trans i2
              | ok p2 =>
                obtain ⟨y, r'⟩ := p2
                rw [h2] at i2
                exact ⟨(hr.trans i1).trans i2.1, i2.2⟩
        · rw [dN_leaf hh hs]
          rw [hln, if_neg hs] at hr
          cases ht : lfT (w0 :: ws) with
          | none => rw [ht] at hr; exact hr
          | some t => rw [ht] at hr; exact ⟨hr, hwb⟩
/-- the reference's error number is the decoder's -/
def errR (l : BL) : Int := if 65536 < l.length then 5 else refL [0] l
theorem decP_ref (l : BL) : errR l = match decP l with | .error c => c | .ok _ => 0 := by
  unfold errR decP
  by_cases h1 : 65536 < l.length
  · rw [if_pos h1, if_pos h1]
  rw [if_neg h1, if_neg h1]
  by_cases h2 : l ≠ [] ∧ Lib.hasSuffix l [10] = false
  · rw [if_pos h2]
    refine refL_ragged l.length l [0] rfl (fun hw => ?_)
    rcases hw with h | h
    · exact h2.1 h
    · rw [suffix_one.2 h] at h2; exact absurd h2.2 (by decide)
  rw [if_neg h2]
  have hw : whole l := by
    by_cases hl : l = []
    · exact .inl hl
    · right
      rw [← suffix_one]
      cases hh : Lib.hasSuffix l [10] with
      | true => rfl
      | false => exact absurd ⟨hl, hh⟩ h2
  have key := ref_dec 200 l [] (Nat.le_refl _) (fun _ h => by cases h) hw
  cases hd : dN 200 l with
  | error c => rw [hd] at key; exact key
  | ok p =>
    obtain ⟨t, r⟩ := p
    rw [hd] at key
    refine key.1.trans ?_
    dsimp only
    by_cases hr : r = []
    · subst hr; rw [if_pos rfl]; rfl
    · rw [if_neg hr]; exact refL_over r hr
/-- what is accepted is the text of the tree -/
theorem parts_join : ∀ (N : Nat) (l w0 : BL) (ws : List BL), l.length = N → parts 32 l = w0 :: ws → l = w0 ++ (ws.map (fun x => 32 :: x)).flatten := by
  intro N
  induction N using Nat.strongRecOn with
  | _ N ih =>
  intro l w0 ws hN hp
  cases h : cutB 32 l with
  | none =>
    rw [parts_none (cutB_none_iff.1 h)] at hp
    injection hp with h1 h2
    subst h1 h2; simp
  | some p =>
    obtain ⟨a, b⟩ := p
    obtain ⟨rfl, ha⟩ := cutB_spec h
    rw [parts_some ha] at hp
    injection hp with h1 h2
    subst h1
    cases hb : parts 32 b with
    | nil => exact absurd hb (parts_ne _ _)
    | cons x xs =>
      have e := ih b.length (by rw [← hN]; simp; omega) b x xs rfl hb
      rw [hb] at h2
      rw [← h2, List.map_cons, List.flatten_cons, List.cons_append, ← e]
theorem nums_words : ∀ (ws : List BL) (y : Nat → Rat), (∀ j x, ws[j]? = some x → ratText (y j) = x) → numsT y ws.length = (ws.map (fun x => 32 :: x)).flatten := by
  intro ws y h
  have key : ∀ n, n ≤ ws.length → numsT y n = ((ws.take n).map (fun x => 32 :: x)).flatten := by
    intro n
    induction n with
    | zero => intro _; rfl
    | succ n ih =>
      intro hn
      have e := List.getElem?_eq_getElem (show n < ws.length by omega)
      show numsT y n ++ (32 :: ratText (y n)) = _
      rw [ih (by omega), h n _ e, List.take_add_one, e, Option.toList_some, List.map_append, List.flatten_append, List.map_singleton, List.flatten_singleton]
  have := key ws.length (Nat.le_refl _)
  rwa [List.take_length] at this
theorem dec_lt {l : BL} (h : isDec l = true) (hs : Short l) : (parseZ l).natAbs < 1000000000000000 := by
  have hd : digs (rest l) = true := by
    rw [isDec_eq] at h
    simp only [Bool.and_eq_true] at h
    exact h.1.2
  have hlen : (rest l).length ≤ 15 := by
    have hsf : ∃ a, l = a ++ rest l := by
      unfold rest Lib.trimPrefix
      split
      · exact ⟨l.take _, (List.take_append_drop _ _).symm⟩
      · exact ⟨[], rfl⟩
    obtain ⟨a, ha⟩ := hsf
    rw [ha] at hs
    refine hs.right.all (fun c hc => ?_)
    unfold digs at hd
    have := List.all_eq_true.1 hd c hc
    simp only [Bool.and_eq_true, decide_eq_true_eq] at this
    exact ⟨this.1, this.2⟩
  have h1 := valD_lt hd
  have h2 : 10 ^ (rest l).length ≤ 10 ^ 15 := Nat.pow_le_pow_right (by decide) hlen
  have h3 : (parseZ l).natAbs = valD (rest l) := by
    unfold parseZ sgn
    split <;> simp
  rw [h3]
  have : (10 : Nat) ^ 15 = 1000000000000000 := by decide
  omega
theorem rat_QB {l : BL} (h : isRat l = true) (hs : Short l) : QB 2 (parseQ l) := by
  have pw2 : pw 2 = 18446744073709551616 := by decide
  unfold isRat at h
  unfold parseQ
  rcases cut_cases l with ⟨_, e⟩ | ⟨a, b, _, hl, e⟩
  · rw [e] at h ⊢
    simp only [Bool.false_eq_true, if_false] at h ⊢
    obtain ⟨h1, h2⟩ := divInt_one' (parseZ l)
    have := dec_lt h hs
    refine ⟨?_, ?_⟩
    · unfold B; rw [h1]; omega
    · unfold B; rw [h2, pw2]; decide
  · rw [e] at h ⊢
    simp only [if_true, Bool.and_eq_true, decide_eq_true_eq] at h ⊢
    obtain ⟨⟨⟨h1, h2⟩, h3⟩, h4⟩ := h
    obtain ⟨h5, h6⟩ := red_one (show 0 < parseZ b by omega) h4
    rw [hl] at hs
    have ha := dec_lt h1 hs.left
    have hb := dec_lt h2 (Short.right (a := a ++ [47]) (b := b) (by simpa using hs))
    refine ⟨?_, ?_⟩
    · unfold B; rw [h5]; omega
    · unfold B; rw [h6]; omega
theorem lf_some {w0 : BL} {ws : List BL} {t : CT} (h : lfT (w0 :: ws) = some t) : t = .node (-1) 0 (w0 == emptyB) ws.length (yW ws) .nil .nil ∧ leafW (w0 == emptyB) = w0 ∧ ∀ x ∈ ws, isRat x = true := by
  have h : (if w0 = emptyB ∨ w0 = boundB then (if ws.all okW = true then some (CT.node (-1) 0 (w0 == emptyB) ws.length (yW ws) CT.nil CT.nil) else none) else none) = some t := h
  by_cases h0 : w0 = emptyB ∨ w0 = boundB
  · rw [if_pos h0] at h
    by_cases ha : ws.all okW = true
    · rw [if_pos ha] at h
      injection h with h
      refine ⟨h.symm, ?_, fun x hx => ?_⟩
      · rcases h0 with rfl | rfl <;> decide
      · have := List.all_eq_true.1 ha x hx
        unfold okW at this
        rw [Bool.and_eq_true] at this
        exact this.2
    · rw [if_neg ha] at h; cases h
  · rw [if_neg h0] at h; cases h
theorem spl_some {ws : List BL} {v fl : Int} (h : spl ws = some (v, fl)) : ws = [itoa v, itoa fl] ∧ 0 ≤ v ∧ v ≤ 9999 ∧ Lp.fit fl = true := by
  unfold spl at h
  split at h
  · next x y =>
    split at h
    · next v' fl' hx hy =>
      split at h
      · next hv =>
        injection h with h
        injection h with h1 h2
        subst h1 h2
        obtain ⟨e1, -⟩ := num_some hx
        obtain ⟨e2, i2⟩ := num_some hy
        rw [e1, e2]
        exact ⟨rfl, hv.1, hv.2, fit_iff.2 ⟨by have := i2.1; omega, by have := i2.2; omega⟩⟩
      · cases h
    · cases h
  · cases h
theorem dN_back : ∀ (f : Nat) (l : BL) (t : CT) (r : BL), dN f l = .ok (t, r) → l.length ≤ 300 → Short l → l = treeT t ++ r ∧ t.wf = true ∧ t.okY 2 ∧ 6 * t.dep ≤ (treeT t).length := by
  have leaf : ∀ (l w0 b : BL) (ws : List BL) (a : BL) (t : CT), cutB 10 l = some (a, b) → parts 32 a = w0 :: ws → lfT (w0 :: ws) = some t → l.length ≤ 300 → Short l → l = treeT t ++ b ∧ t.wf = true ∧ t.okY 2 ∧ 6 * t.dep ≤ (treeT t).length := by
    intro l w0 b ws a t hc hp ht hl hs
    obtain ⟨rfl, hw0, hws⟩ := lf_some ht
    obtain ⟨e, -⟩ := cutB_spec hc
    have ea := parts_join a.length a w0 ws rfl hp
    have hsa : Short a := by rw [e] at hs; exact hs.left
    have hget : ∀ j x, ws[j]? = some x → yW ws j = parseQ x := fun j x hx => by unfold yW; rw [List.getD_eq_getElem?_getD, hx]; rfl
    have hn : numsT (yW ws) ws.length = (ws.map (fun x => 32 :: x)).flatten := nums_words ws _ (fun j x hx => by
      rw [hget j x hx]; exact text_parse (hws x (List.mem_of_getElem? hx)))
    have etree : treeT (.node (-1) 0 (w0 == emptyB) ws.length (yW ws) .nil .nil) = w0 ++ (ws.map (fun x => 32 :: x)).flatten ++ [10] := by
      show leafT _ _ _ = _
      unfold leafT
      rw [hw0, hn]
    have hwl := parts_len 32 a
    rw [hp] at hwl
    have hal : a.length ≤ l.length := (cutB_len hc).1
    refine ⟨?_, rfl, ⟨fit_iff.2 ⟨by decide, by decide⟩, ?_, fun j hj => ?_, trivial, trivial⟩, ?_⟩
    · rw [etree, e, ea]; simp
    · simp at hwl; omega
    · have ej := List.getElem?_eq_getElem hj
      rw [hget j _ ej]
      exact rat_QB (hws _ (List.getElem_mem hj)) (parts_short (c := 32) hsa _ (by rw [hp]; exact List.mem_cons_of_mem _ (List.getElem_mem hj)))
    · rw [etree]
      have : 5 ≤ w0.length := by rw [← hw0]; generalize (w0 == emptyB) = q; cases q <;> decide
      show 6 * (1 + max 0 0) ≤ _
      simp only [List.length_append, List.length_singleton]
      omega
  intro f
  induction f with
  | zero =>
    intro l t r h hl hs
    cases hc : cutB 10 l with
    | none => rw [dN_err (show hdL l = .error 4 by unfold hdL; rw [hc])] at h; cases h
    | some p =>
      obtain ⟨a, b⟩ := p
      cases hp : parts 32 a with
      | nil => exact absurd hp (parts_ne _ _)
      | cons w0 ws =>
        have hh : hdL l = .ok ((w0, ws), b) := by unfold hdL; rw [hc]; show (match parts 32 a with | [] => _ | w0 :: ws => _) = _; rw [hp]
        by_cases hsp : w0 = splB
        · subst hsp; rw [dN_zero hh] at h; cases h
        · rw [dN_leaf hh hsp] at h
          cases ht : lfT (w0 :: ws) with
          | none => rw [ht] at h; cases h
          | some t' =>
            rw [ht] at h
            injection h with h
            injection h with h1 h2
            subst h1 h2
            exact leaf l w0 b ws a t' hc hp ht hl hs
  | succ g ih =>
    intro l t r h hl hs
    cases hc : cutB 10 l with
    | none => rw [dN_err (show hdL l = .error 4 by unfold hdL; rw [hc])] at h; cases h
    | some p =>
      obtain ⟨a, b⟩ := p
      cases hp : parts 32 a with
      | nil => exact absurd hp (parts_ne _ _)
      | cons w0 ws =>
        have hh : hdL l = .ok ((w0, ws), b) := by unfold hdL; rw [hc]; show (match parts 32 a with | [] => _ | w0 :: ws => _) = _; rw [hp]
        by_cases hsp : w0 = splB
        · subst hsp
          cases hq : spl ws with
          | none => rw [dN_bad hh hq] at h; cases h
          | some q =>
            obtain ⟨v, fl⟩ := q
            rw [dN_in hh hq] at h
            obtain ⟨e, -⟩ := cutB_spec hc
            have ea := parts_join a.length a splB ws rfl hp
            obtain ⟨rfl, hv0, hv9, hff⟩ := spl_some hq
            have hin : l = inT v fl ++ b := by rw [e, ea]; simp [inT, splB]
            have hsb : Short b := by rw [hin] at hs; exact hs.right
            have hbl := (cutB_len hc).2
            cases h1 : dN g b with
            | error c => rw [h1] at h; cases h
            | ok p1 =>
              obtain ⟨x, r1⟩ := p1
              rw [h1] at h
              dsimp only at h
              obtain ⟨e1, w1, o1, d1⟩ := ih b x r1 h1 (by omega) hsb
              have hsr : Short r1 := by rw [e1] at hsb; exact hsb.right
              have hrl := dN_len g b x r1 h1
              cases h2 : dN g r1 with
              | error c => rw [h2] at h; cases h
              | ok p2 =>
                obtain ⟨y, r2⟩ := p2
                rw [h2] at h
                injection h with h
                injection h with h3 h4
                subst h3 h4
                obtain ⟨e2, w2, o2, d2⟩ := ih r1 y r2 h2 (by omega) hsr
                have et : treeT (.node v fl false 0 (fun _ => 0) x y) = inT v fl ++ (treeT x ++ treeT y) := if_pos hv0
                have hvn : ¬ v = -1 := by omega
                refine ⟨?_, ?_, ⟨hff, by decide, fun j hj => absurd hj (by omega), o1, o2⟩, ?_⟩
                · rw [et, hin]
                  conv => lhs; rw [e1, e2]
                  simp
                · show (if v = -1 then _ else _) = true
                  rw [if_neg hvn]
                  simp [hv0, hv9, w1, w2]
                · rw [et]
                  show 6 * (1 + max x.dep y.dep) ≤ _
                  have : 8 ≤ (inT v fl).length := by unfold inT; simp; omega
                  simp only [List.length_append]
                  omega
        · rw [dN_leaf hh hsp] at h
          cases ht : lfT (w0 :: ws) with
          | none => rw [ht] at h; cases h
          | some t' =>
            rw [ht] at h
            injection h with h
            injection h with h1 h2
            subst h1 h2
            exact leaf l w0 b ws a t' hc hp ht hl hs
theorem decP_back {l : BL} {t : CT} (h : decP l = .ok t) (hl : l.length ≤ 300) (hs : Short l) : treeT t = l ∧ t.wf = true ∧ t.okY 2 ∧ t.dep ≤ 50 := by
  unfold decP at h
  rw [if_neg (by omega)] at h
  split at h
  · cases h
  · cases hd : dN 200 l with
    | error c => rw [hd] at h; cases h
    | ok p =>
      obtain ⟨t', r⟩ := p
      rw [hd] at h
      dsimp only at h
      split at h
      · next hr =>
        injection h with h
        subst h hr
        obtain ⟨e, h1, h2, h3⟩ := dN_back 200 l t' [] hd hl hs
        rw [List.append_nil] at e
        rw [← e] at h3
        exact ⟨e.symm, h1, h2, by omega⟩
      · cases h
end Go.Proofs.YtljncdcjkdgkeaaGreatDoor.Dc
namespace Go.Proofs.YtljncdcjkdgkeaaGreatDoor.Dc
open Go.RowKit Go.Proofs.YtljncdcjkdgkeaaGreatDoor.Big Go.Proofs.YtljncdcjkdgkeaaGreatDoor.Lp Go.Proofs.YtljncdcjkdgkeaaGreatDoor.Rt
open Go.Lib (itoa)

theorem rest_neg (r : BL) : rest (45 :: r) = r := by
  have h : negd (45 :: r) = true := by simp [negd, Lib.hasPrefix, List.isPrefixOf]
  unfold rest Lib.trimPrefix
  unfold negd at h
  rw [h]; rfl
theorem negd_cons {c : UInt8} {r : BL} (h : c ≠ 45) : negd (c :: r) = false := by
  simp [negd, Lib.hasPrefix, List.isPrefixOf, Ne.symm h]
theorem negd_yes (r : BL) : negd (45 :: r) = true := by simp [negd, Lib.hasPrefix, List.isPrefixOf]
theorem rest_nil : rest [] = [] := by decide
theorem cutB_rest (s : BL) : cutB 47 (rest s) = (cutB 47 s).map (fun p => (rest p.1, p.2)) := by
  cases s with
  | nil => rw [rest_nil]; rfl
  | cons c r =>
    by_cases hc : c = 45
    · subst hc
      rw [rest_neg]
      conv => rhs; unfold cutB
      rw [if_neg (by decide)]
      cases cutB 47 r with
      | none => rfl
      | some p => show some p = some (rest (45 :: p.1), p.2); rw [rest_neg]
    · rw [rest_pos (negd_cons hc)]
      unfold cutB
      by_cases h47 : c = 47
      · rw [if_pos h47]; show some _ = some (rest [], r); rw [rest_nil]
      · rw [if_neg h47]
        cases cutB 47 r with
        | none => rfl
        | some p => show some (c :: p.1, p.2) = some (rest (c :: p.1), p.2); rw [rest_pos (negd_cons hc)]
/-- a decimal number greater than 0 without leading zeros -/
def digR (l : BL) : Bool := !l.isEmpty && digs l && decide (l.head? ≠ some 48)
def mulR (s : BL) : Bool := (s == [48]) || match cutB 47 (rest s) with
  | none => digR (rest s) && decide ((rest s).length < 16)
  | some (a, b) => digR a && (digR b && (decide (b ≠ [49]) && (decide (a.length < 16) && (decide (b.length < 16) && (Nat.gcd (valD a) (valD b) == 1)))))
theorem isDec_digR (l : BL) : isDec l = ((l == [48]) || digR (rest l)) := by
  rw [isDec_eq]
  unfold digR
  by_cases hh : (rest l).head? = some 48
  · rw [if_pos hh]
    rw [show decide ((rest l).head? ≠ some 48) = false by simp [hh], Bool.and_false, Bool.or_false]
    cases hn : negd l with
    | true =>
      have : (l == [48]) = false := by
        rw [beq_eq_false_iff_ne]
        intro e
        rw [e] at hn; exact absurd hn (by decide)
      rw [this]; simp
    | false =>
      rw [rest_pos hn]
      cases h2 : (l == [48]) with
      | false => simp
      | true =>
        have := eq_of_beq h2
        subst this
        decide
  · rw [if_neg hh]
    have : (l == [48]) = false := by
      rw [beq_eq_false_iff_ne]
      intro e
      rw [e] at hh; exact hh (by decide)
    rw [this]
    simp [hh]
theorem abs_parse (l : BL) : (parseZ l).natAbs = valD (rest l) := by
  unfold parseZ sgn
  split <;> simp
theorem digR_iff {l : BL} : digR l = true ↔ l.isEmpty = false ∧ digs l = true ∧ l.head? ≠ some 48 := by
  unfold digR
  simp only [Bool.and_eq_true, Bool.not_eq_true', decide_eq_true_eq, and_assoc]
theorem digs_mem {l : BL} (h : digs l = true) : ∀ c ∈ l, 48 ≤ c.toNat ∧ c.toNat ≤ 57 := by
  intro c hc
  unfold digs at h
  have := List.all_eq_true.1 h c hc
  simp only [Bool.and_eq_true, decide_eq_true_eq] at this
  exact ⟨this.1, this.2⟩
theorem digR_val {l : BL} (h : digR l = true) : Lib.decDigits (valD l) = l ∧ 0 < valD l := by
  obtain ⟨h1, h2, h3⟩ := digR_iff.1 h
  obtain ⟨e1, e2⟩ := dec_rest h1 h2 (fun hh => absurd hh h3)
  refine ⟨e1, e2 (fun e => h3 (by rw [e]; rfl))⟩
theorem digR_itoa {l : BL} (h : digR l = true) : itoa (valD l : Int) = l := by
  rw [Lib.itoa_nonneg, (digR_val h).1]
theorem mul_isRat {s : BL} (hs : Short s) : mulR s = isRat s := by
  unfold mulR isRat
  rw [cut_eq, cutB_rest]
  cases hc : cutB 47 s with
  | none =>
    show ((s == [48]) || (digR (rest s) && decide ((rest s).length < 16))) = isDec s
    rw [isDec_digR]
    cases hd : digR (rest s) with
    | false => simp
    | true =>
      have hl : (rest s).length ≤ 15 := by
        have hsf : ∃ a, s = a ++ rest s := by
          unfold rest Lib.trimPrefix
          split
          · exact ⟨s.take _, (List.take_append_drop _ _).symm⟩
          · exact ⟨[], rfl⟩
        obtain ⟨a, ha⟩ := hsf
        rw [ha] at hs
        exact hs.right.all (digs_mem (digR_iff.1 hd).2.1)
      rw [decide_eq_true (show (rest s).length < 16 by omega)]
      rfl
  | some p =>
    obtain ⟨a, b⟩ := p
    obtain ⟨e, ha⟩ := cutB_spec hc
    have h0 : (s == [48]) = false := by
      rw [beq_eq_false_iff_ne]
      intro e0
      rw [e] at e0
      cases a with
      | nil => injection e0 with e1 _; exact absurd e1 (by decide)
      | cons x r =>
        injection e0 with e1 e2
        exact absurd (congrArg List.length e2) (by simp)
    rw [h0, Bool.false_or]
    show (digR (rest a) && (digR b && (decide (b ≠ [49]) && (decide ((rest a).length < 16) && (decide (b.length < 16) && (Nat.gcd (valD (rest a)) (valD b) == 1)))))) = (isDec a && isDec b && decide (1 < parseZ b) && decide (Nat.gcd (parseZ a).natAbs (parseZ b).natAbs = 1))
    rw [Bool.eq_iff_iff]
    simp only [Bool.and_eq_true, decide_eq_true_eq, and_assoc, beq_iff_eq]
    rw [abs_parse, abs_parse]
    rw [e] at hs
    constructor
    · rintro ⟨h1, h2, h3, -, -, h6⟩
      have hb := digR_iff.1 h2
      have hnb : negd b = false := digs_neg hb.2.1
      have hrb : rest b = b := rest_pos hnb
      obtain ⟨v1, v2⟩ := digR_val h2
      refine ⟨by rw [isDec_digR, h1, Bool.or_true], by rw [isDec_digR, hrb, h2, Bool.or_true], ?_, by rw [hrb]; exact h6⟩
      have hne : valD b ≠ 1 := fun e1 => h3 (by rw [← v1, e1, Lib.decDigits, dif_pos (by decide)]; rfl)
      unfold parseZ
      rw [hnb, hrb]
      show (1 : Int) < sgn false (valD b)
      unfold sgn
      simp
      omega
    · rintro ⟨h1, h2, h3, h4⟩
      have hnb : negd b = false := by
        cases hn : negd b with
        | false => rfl
        | true =>
          exfalso
          unfold parseZ at h3
          rw [hn] at h3
          unfold sgn at h3
          simp at h3
          omega
      have hrb : rest b = b := rest_pos hnb
      have hpb : (parseZ b) = (valD b : Int) := by
        unfold parseZ
        rw [hnb, hrb]
        unfold sgn
        simp
      rw [hpb] at h3
      rw [hrb] at h4
      have hb : digR b = true := by
        rw [isDec_digR, hrb, Bool.or_eq_true] at h2
        rcases h2 with h2 | h2
        · have := eq_of_beq h2
          subst this
          exact absurd h3 (by decide)
        · exact h2
      have hra : digR (rest a) = true := by
        rw [isDec_digR, Bool.or_eq_true] at h1
        rcases h1 with h1 | h1
        · have := eq_of_beq h1
          subst this
          have e0 : valD (rest [48]) = 0 := by decide
          rw [e0, Nat.gcd_zero_left] at h4
          omega
        · exact h1
      have hsa : Short (rest a) := by
        have hsf : ∃ x, a = x ++ rest a := by
          unfold rest Lib.trimPrefix
          split
          · exact ⟨a.take _, (List.take_append_drop _ _).symm⟩
          · exact ⟨[], rfl⟩
        obtain ⟨x, hx⟩ := hsf
        have h5 := hs.left
        rw [hx] at h5
        exact h5.right
      have hsb : Short b := Short.right (a := a ++ [47]) (b := b) (by simpa using hs)
      have l1 := hsa.all (digs_mem (digR_iff.1 hra).2.1)
      have l2 := hsb.all (digs_mem (digR_iff.1 hb).2.1)
      refine ⟨hra, hb, fun e1 => ?_, by omega, by omega, h4⟩
      rw [e1] at h3
      exact absurd h3 (by decide)
/-- the reference's Number -/
def numR (s : BL) : Option Int := if (rest s).isEmpty = false ∧ digs (rest s) = true ∧ itoa (parseZ s) = s then some (parseZ s) else none
theorem parse_inI {s : BL} (hs : Short s) (hd : digs (rest s) = true) : (parseZ s).natAbs < 1000000000000000 := by
  have hlen : (rest s).length ≤ 15 := by
    have hsf : ∃ a, s = a ++ rest s := by
      unfold rest Lib.trimPrefix
      split
      · exact ⟨s.take _, (List.take_append_drop _ _).symm⟩
      · exact ⟨[], rfl⟩
    obtain ⟨a, ha⟩ := hsf
    rw [ha] at hs
    exact hs.right.all (digs_mem hd)
  have h1 := valD_lt hd
  have h2 : 10 ^ (rest s).length ≤ 10 ^ 15 := Nat.pow_le_pow_right (by decide) hlen
  rw [abs_parse]
  have : (10 : Nat) ^ 15 = 1000000000000000 := by decide
  omega
theorem num_ref {s : BL} (hs : Short s) : num s = numR s := by
  unfold numR
  by_cases h : (rest s).isEmpty = false ∧ digs (rest s) = true ∧ itoa (parseZ s) = s
  · rw [if_pos h]
    have hb := parse_inI hs h.2.1
    have := num_itoa (v := parseZ s) ⟨by omega, by omega⟩
    rw [h.2.2] at this
    exact this
  · rw [if_neg h]
    cases hn : num s with
    | none => rfl
    | some u =>
      exfalso
      apply h
      obtain ⟨e, -⟩ := num_some hn
      have hd := dec_of_itoa u
      rw [← e, isDec_eq] at hd
      simp only [Bool.and_eq_true, Bool.not_eq_true'] at hd
      refine ⟨hd.1.1, hd.1.2, ?_⟩
      rw [e, parse_itoa]
/-- words, one byte after another -/
theorem parts_last {c x : UInt8} (hx : x ≠ c) : ∀ (l : BL) (A : List BL) (p : BL), parts c l = A ++ [p] → parts c (l ++ [x]) = A ++ [p ++ [x]]
  | [], A, p, h => by
    rw [show parts c [] = [[]] from rfl] at h
    cases A with
    | nil =>
      injection h with h1 _
      subst h1
      show parts c [x] = _
      unfold parts
      rw [if_neg hx]; rfl
    | cons a A =>
      injection h with _ h2
      cases A <;> cases h2
  | y :: r, A, p, h => by
    rw [List.cons_append]
    unfold parts at h ⊢
    by_cases hy : y = c
    · rw [if_pos hy] at h ⊢
      cases A with
      | nil =>
        injection h with _ h2
        exact absurd h2 (parts_ne _ _)
      | cons a A =>
        injection h with h1 h2
        rw [parts_last hx r A p h2, ← h1]; rfl
    · rw [if_neg hy] at h ⊢
      cases hp : parts c r with
      | nil => exact absurd hp (parts_ne _ _)
      | cons q qs =>
        rw [hp] at h
        cases A with
        | nil =>
          injection h with h1 h2
          subst h1 h2
          rw [parts_last hx r [] q hp]
          rfl
        | cons a A =>
          injection h with h1 h2
          rw [parts_last hx r (q :: A) p (by rw [hp, h2]; rfl), ← h1]
          rfl
theorem parts_sep (c : UInt8) (l : BL) : parts c (l ++ [c]) = parts c l ++ [[]] := parts_snoc (b := []) (by simp) l
/-- the digits at the end -/
def Tail (p : BL) (n : Nat) : Prop := ∃ a d, p = a ++ d ∧ d.length = n ∧ (∀ c ∈ d, 48 ≤ c.toNat ∧ c.toNat ≤ 57) ∧ ∀ x, a.getLast? = some x → ¬ (48 ≤ x.toNat ∧ x.toNat ≤ 57)
theorem Tail.nil : Tail [] 0 := ⟨[], [], rfl, rfl, by simp, by simp⟩
theorem Short.nil : Short [] := fun a d b h _ => by
  have := congrArg List.length h
  simp at this
  omega
theorem Tail.no {p : BL} {n : Nat} {c : UInt8} (hc : ¬ (48 ≤ c.toNat ∧ c.toNat ≤ 57)) : Tail (p ++ [c]) 0 :=
  ⟨p ++ [c], [], by simp, rfl, by simp, fun x h => by
    rw [List.getLast?_append, List.getLast?_singleton] at h
    injection h with h
    rw [← h]; exact hc⟩
theorem Tail.dig {p : BL} {n : Nat} {c : UInt8} (h : Tail p n) (hc : 48 ≤ c.toNat ∧ c.toNat ≤ 57) : Tail (p ++ [c]) (n + 1) := by
  obtain ⟨a, d, rfl, h1, h2, h3⟩ := h
  refine ⟨a, d ++ [c], by simp, by simp [h1], fun x hx => ?_, h3⟩
  rcases List.mem_append.1 hx with hx | hx
  · exact h2 x hx
  · rw [List.mem_singleton.1 hx]; exact hc
theorem short_snoc {p : BL} {c : UInt8} (h : Short p) (hend : ∀ a d, p ++ [c] = a ++ d → (∀ x ∈ d, 48 ≤ x.toNat ∧ x.toNat ≤ 57) → d.length ≤ 15) : Short (p ++ [c]) := by
  intro a d b e hd
  rcases List.eq_nil_or_concat b with rfl | ⟨b', x, rfl⟩
  · exact hend a d (by rw [e]; simp) hd
  · rw [List.concat_eq_append] at e
    have e2 : p ++ [c] = (a ++ (d ++ b')) ++ [x] := by rw [e]; simp
    have e3 := (List.append_inj' e2 rfl).1
    exact h a d b' e3 hd
theorem short_no {p : BL} {c : UInt8} (h : Short p) (hc : ¬ (48 ≤ c.toNat ∧ c.toNat ≤ 57)) : Short (p ++ [c]) := by
  refine short_snoc h (fun a d e hd => ?_)
  rcases List.eq_nil_or_concat d with rfl | ⟨d', x, rfl⟩
  · simp
  · rw [List.concat_eq_append] at e hd
    have e2 : p ++ [c] = (a ++ d') ++ [x] := by rw [e]; simp
    have e3 := (List.append_inj' e2 rfl).2
    injection e3 with e3 _
    exact absurd (hd x (by simp)) (by rw [← e3]; exact hc)
theorem short_dig {p : BL} {n : Nat} {c : UInt8} (h : Short p) (ht : Tail p n) (hc : 48 ≤ c.toNat ∧ c.toNat ≤ 57) (hn : n + 1 ≤ 15) : Short (p ++ [c]) := by
  refine short_snoc h (fun a' d' e hd => ?_)
  obtain ⟨a, d, rfl, h1, h2, h3⟩ := ht
  rcases Nat.lt_or_ge 15 d'.length with hlt | hge
  · exfalso
    have e2 : a' ++ d' = a ++ (d ++ [c]) := by rw [← e]; simp
    rcases List.append_eq_append_iff.1 e2 with ⟨r, k1, k2⟩ | ⟨r, k1, k2⟩
    · rcases List.eq_nil_or_concat r with rfl | ⟨r', x, rfl⟩
      · have := congrArg List.length k2
        simp at this
        omega
      · rw [List.concat_eq_append] at k1 k2
        refine h3 x (by rw [k1]; simp) (hd x (by rw [k2]; simp))
    · have := congrArg List.length k2
      simp at this
      omega
  · exact hge
end Go.Proofs.YtljncdcjkdgkeaaGreatDoor.Dc
namespace Go.Proofs.YtljncdcjkdgkeaaGreatDoor.Dc
open Go.RowKit Go.Proofs.YtljncdcjkdgkeaaGreatDoor.Big Go.Proofs.YtljncdcjkdgkeaaGreatDoor.Lp Go.Proofs.YtljncdcjkdgkeaaGreatDoor.Rt
open Go.Lib (itoa)

/-- a node of the reference -/
structure RN where
  vr : Int
  fl : Int
  em : Bool
  ys : List BL
/-- the nodes of a tree in pre-order -/
def flat : CT → List RN
  | .nil => []
  | .node vr fl em n y a b => ⟨vr, fl, em, (List.range n).map (fun j => ratText (y j))⟩ :: (if vr = -1 then [] else flat a ++ flat b)
end Go.Proofs.YtljncdcjkdgkeaaGreatDoor.Dc
namespace Go.Proofs.YtljncdcjkdgkeaaGreatDoor.Dc
open Go.RowKit Go.Proofs.YtljncdcjkdgkeaaGreatDoor.Big Go.Proofs.YtljncdcjkdgkeaaGreatDoor.Lp Go.Proofs.YtljncdcjkdgkeaaGreatDoor.Rt
open Go.Lib (itoa decDigits)

theorem str_append (a b : BL) : str a ++ str b = str (a ++ b) := by
  apply ByteArray.ext
  simp [str]
theorem digC (k : Nat) (hk : k < 10) : (⟨#[48, 49, 50, 51, 52, 53, 54, 55, 56, 57]⟩ : ByteArray).extract k (k + 1) = str [UInt8.ofNat (48 + k)] := by
  rcases (by omega : k = 0 ∨ k = 1 ∨ k = 2 ∨ k = 3 ∨ k = 4 ∨ k = 5 ∨ k = 6 ∨ k = 7 ∨ k = 8 ∨ k = 9) with rfl | rfl | rfl | rfl | rfl | rfl | rfl | rfl | rfl | rfl <;> rfl
theorem itoa_one {k : Nat} (h : k < 10) : itoa (k : Int) = [UInt8.ofNat (48 + k)] := by
  rw [Lib.itoa_nonneg, decDigits, dif_pos h]
theorem itoa_neg1 {k : Nat} (h0 : 0 < k) (h : k < 10) : itoa (-(k : Int)) = [45, UInt8.ofNat (48 + k)] := by
  rw [Lib.itoa_neg k h0, decDigits, dif_pos h]
theorem itoa_step {n : Int} (h : 10 ≤ n.natAbs) : itoa n = itoa (n.tdiv 10) ++ [UInt8.ofNat (48 + n.natAbs % 10)] := by
  rcases Int.lt_or_le n 0 with h0 | h0
  · obtain ⟨u, rfl⟩ : ∃ u : Nat, n = -(u : Int) := ⟨n.natAbs, by omega⟩
    have e : (-(u : Int)).tdiv 10 = -((u / 10 : Nat) : Int) := by rw [Int.neg_tdiv]; congr 1
    have hu : 10 ≤ u := by omega
    rw [e, Lib.itoa_neg u (by omega), Lib.itoa_neg (u / 10) (by omega), decDigits, dif_neg (by omega), show (-(u : Int)).natAbs = u by omega]
    rfl
  · obtain ⟨u, rfl⟩ : ∃ u : Nat, n = (u : Int) := ⟨n.natAbs, by omega⟩
    have e : (u : Int).tdiv 10 = ((u / 10 : Nat) : Int) := rfl
    rw [e, Lib.itoa_nonneg, Lib.itoa_nonneg, decDigits, dif_neg (by omega)]
    rfl
theorem digit_abs (n : Int) : (n < 0 → n.tmod 10 = -((n.natAbs % 10 : Nat) : Int)) ∧ (0 ≤ n → n.tmod 10 = ((n.natAbs % 10 : Nat) : Int)) := by
  constructor
  · intro h
    obtain ⟨u, rfl⟩ : ∃ u : Nat, n = -(u : Int) := ⟨n.natAbs, by omega⟩
    rw [Int.neg_tmod, show (-(u : Int)).natAbs = u by omega]
    rfl
  · intro h
    obtain ⟨u, rfl⟩ : ∃ u : Nat, n = (u : Int) := ⟨n.natAbs, by omega⟩
    rfl
theorem tdiv_abs (k : Int) : (k.tdiv 10).natAbs = k.natAbs / 10 := by rw [Int.natAbs_tdiv]; rfl
theorem itoa_lenI {n : Int} (h : inI n) : (itoa n).length ≤ 31 := Nat.le_trans (Lib.itoa_length_le n h.1 h.2) (by decide)
set_option maxHeartbeats 1000000 in
set_option maxRecDepth 100000 in
theorem Decimal_b : ∀ (N : Nat) (n : Int) (w : World), n.natAbs = N → inI n → Calls Tryz.prog 64 #[.int .i64 n] w (fun e w' => e = .returned (.string (str (itoa n))) ∧ w' = w) := by
  intro N
  induction N using Nat.strongRecOn with
  | _ N ih =>
  intro n w hN hn
  obtain ⟨h1, h2⟩ := hn
  obtain ⟨d, hd⟩ : ∃ d, d = n.natAbs % 10 := ⟨_, rfl⟩
  have hd10 : d < 10 := by omega
  obtain ⟨dn, dp⟩ := digit_abs n
  rw [← hd] at dn dp
  obtain ⟨D, hDD⟩ : ∃ D, D = str [UInt8.ofNat (48 + d)] := ⟨_, rfl⟩
  have hx := digC d hd10
  rw [← hDD] at hx
  have hsd : D.size = 1 := by rw [hDD]; rfl
  obtain ⟨S, hS⟩ : ∃ S, S = str (itoa n) := ⟨_, rfl⟩
  rw [← hS]
  obtain ⟨q, hqq⟩ : ∃ q, q = n.tdiv 10 := ⟨_, rfl⟩
  have hqa : q.natAbs = n.natAbs / 10 := by rw [hqq]; exact tdiv_abs n
  have hqi : inI q := by unfold inI; omega
  have HST : Hid (10 ≤ n.natAbs → str (itoa q) ++ D = S) := Lib.hid (fun h => by rw [hS, itoa_step h, hDD, hd, hqq, str_append])
  have HPOS : Hid (0 ≤ n → n < 10 → D = S) := Lib.hid (fun h1 h2 => by
    obtain ⟨u, rfl⟩ : ∃ u : Nat, n = (u : Int) := ⟨n.natAbs, by omega⟩
    rw [hS, itoa_one (by omega), hDD]
    congr 3; omega)
  have HNEG : Hid (n < 0 → -10 < n → (⟨#[45]⟩ : ByteArray) ++ D = S) := Lib.hid (fun h1 h2 => by
    obtain ⟨u, rfl⟩ : ∃ u : Nat, n = -(u : Int) := ⟨n.natAbs, by omega⟩
    rw [hS, itoa_neg1 (by omega) (by omega), hDD]
    have e : (-(u : Int)).natAbs % 10 = u := by omega
    rw [hd, e]
    exact str_append [45] [UInt8.ofNat (48 + u)])
  have IH : Hid (10 ≤ n.natAbs → ∀ w, Calls Tryz.prog 64 #[.int .i64 q] w (fun e w' => e = .returned (.string (str (itoa q))) ∧ w' = w)) := Lib.hid (fun h w => ih q.natAbs (by omega) q w rfl hqi)
  have hlq := itoa_lenI hqi
  have r3 : IntKind.i64.wrap (n.tdiv 10) = q := by rw [← hqq]; exact IntWalk.i64_in _ ⟨by have := hqi.1; omega, by have := hqi.2; omega⟩
  obtain ⟨Q, hQ⟩ : ∃ Q, Q = str (itoa q) := ⟨_, rfl⟩
  have hsq : Q.size ≤ 31 := by rw [hQ]; exact hlq
  rw [← hQ] at HST IH
  have hcat : ¬ 9223372036854775807 < Q.size + 1 := by omega
  clear hqq hDD hd hN hS hQ hlq hqa hqi
  have i0 : (0 : Int) ≤ (d : Int) := by omega
  have i1 : (d : Int) ≤ (d : Int) + 1 := by omega
  have i2 : (d : Int) + 1 ≤ 10 := by omega
  have r1 : IntKind.i64.wrap ((d : Int) + 1) = (d : Int) + 1 := IntWalk.i64_in _ (by omega)
  have r2 : IntKind.i64.wrap (d : Int) = (d : Int) := IntWalk.i64_in _ (by omega)
  by_cases hneg : n < 0
  · have hdn := dn hneg
    clear dn dp
    by_cases hs : -10 < n
    · have hs' : decide (-10 < n) = true := decide_eq_true hs
      have HF := Lib.hid (HNEG.out hneg hs)
      clear HNEG HPOS HST IH
      go_enter Tryz.func64, Tryz.ntmps64
      go_wp2_with fail
      go_ret
      rw [HF.out]
      exact ⟨rfl, rfl⟩
    · have hs' : decide (-10 < n) = false := decide_eq_false hs
      have HF := Lib.hid (HST.out (by omega))
      have HI := IH.out (by omega)
      clear HNEG HPOS HST IH
      go_enter Tryz.func64, Tryz.ntmps64
      go_wp2_with fail
      refine (HI _).mono ?_
      rintro e w' ⟨rfl, rfl⟩
      go_wp2_with fail
      go_ret
      rw [HF.out]
      exact ⟨rfl, rfl⟩
  · have hdn := dp (by omega)
    clear dn dp
    by_cases hs : n < 10
    · have hs' : decide (n < 10) = true := decide_eq_true hs
      have HF := Lib.hid (HPOS.out (by omega) hs)
      clear HNEG HPOS HST IH
      go_enter Tryz.func64, Tryz.ntmps64
      go_wp2_with fail
      go_ret
      rw [HF.out]
      exact ⟨rfl, rfl⟩
    · have hs' : decide (n < 10) = false := decide_eq_false hs
      have HF := Lib.hid (HST.out (by omega))
      have HI := IH.out (by omega)
      clear HNEG HPOS HST IH
      go_enter Tryz.func64, Tryz.ntmps64
      go_wp2_with fail
      refine (HI _).mono ?_
      rintro e w' ⟨rfl, rfl⟩
      go_wp2_with fail
      go_ret
      rw [HF.out]
      exact ⟨rfl, rfl⟩
theorem extract_drop (t : BL) (a b : Nat) : (str t).extract a b = str ((t.drop a).take (b - a)) := by
  have h1 := Lib.extract_toList (str t) a b
  rw [str_list] at h1
  rw [← h1, Lib.toList_data, str_of]
theorem extract_take (t : BL) (k : Nat) : (str t).extract 0 k = str (t.take k) := by rw [extract_drop]; simp
theorem extract_rest (t : BL) (k n : Nat) (hn : t.length ≤ n) : (str t).extract k n = str (t.drop k) := by
  rw [extract_drop]
  congr 1
  rw [List.take_of_length_le]
  rw [List.length_drop]; omega
theorem str_get {t : BL} {k : Nat} {c : UInt8} (hc : t[k]? = some c) (h : k < (str t).size) : (str t)[k]'h = c := by
  have h' : k < t.length := h
  rw [List.getElem?_eq_getElem h'] at hc
  have e : (str t)[k]'h = t[k]'h' := by simp [str, ByteArray.getElem_eq_getElem_data]
  exact e.trans (Option.some.inj hc)
theorem str_eq_iff (a b : BL) : ((str a).toList == (str b).toList) = decide (a = b) := by
  rw [Lib.toList_data, Lib.toList_data, str_list, str_list, Bool.eq_iff_iff]; simp
end Go.Proofs.YtljncdcjkdgkeaaGreatDoor.Dc

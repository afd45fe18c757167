/- Walk: integral of ilp. Walks: the deferred function of Solve. Walk: Solve of ilp. Plain: the examples of the chapter. Maps whose keys are pointers: any number of entries. Walks: rats and  -/
import Derived.Test.YtljncdcjkdgkeaaGreatDoorYIBR
import Derived.Defers
import Derived.Recover
import Derived.WalkLawsBesides
import Derived.Deep.QuietTactic
import Derived.BigQuiet
import Derived.Deep.Cut
import Derived.Test.YtljncdcjkdgkeaaGreatDoorProg
import Derived.Test.YtljncdcjkdgkeaaGreatDoorYLV5
import Derived.Test.YtljncdcjkdgkeaaGreatDoorYShelf
import Derived.Test.YtljncdcjkdgkeaaGreatDoorYIN
import Derived.Laws.EntriesVeiled
import Derived.Test.YtljncdcjkdgkeaaGreatDoorYLN3
set_option linter.unusedVariables false
set_option linter.unusedSimpArgs false
namespace Go.Proofs.YtljncdcjkdgkeaaGreatDoor.Lp
open Go.RowKit Go.Proofs.YtljncdcjkdgkeaaGreatDoor.Big Go.Proofs.YtljncdcjkdgkeaaGreatDoor.Rt
def intL (f : Nat → Rat) : Nat → Bool
 | 0 => true
 | j + 1 => intL f j && decide ((f j).den = 1)
theorem intL_iff {f : Nat → Rat} {n : Nat} : intL f n = true ↔ ∀ j, j < n → (f j).den = 1 := by
 induction n with
 | zero => exact ⟨fun _ i hi => absurd hi (by omega), fun _ => rfl⟩
 | succ n ih =>
   show (intL f n && decide ((f n).den = 1)) = true ↔ _
   rw [Bool.and_eq_true, ih, decide_eq_true_eq]
   constructor
   ·rintro ⟨a, b⟩ i hi
    by_cases e : i = n
    ·subst e; exact b
    ·exact a i (by omega)
   ·intro h; exact ⟨fun i hi => h i (by omega), h n (by omega)⟩
def intR (p : Prob) : Nat → Bool
 | 0 => true
 | i + 1 => intR p i && (decide ((p.right i).den = 1) && intL (p.coef i) (p.len i))
theorem intR_iff {p : Prob} {n : Nat} : intR p n = true ↔ ∀ i, i < n → (p.right i).den = 1 ∧ ∀ j, j < p.len i → (p.coef i j).den = 1 := by
 induction n with
 | zero => exact ⟨fun _ i hi => absurd hi (by omega), fun _ => rfl⟩
 | succ n ih =>
   show (intR p n && (decide ((p.right n).den = 1) && intL (p.coef n) (p.len n))) = true ↔ _
   rw [Bool.and_eq_true, Bool.and_eq_true, ih, decide_eq_true_eq, intL_iff]
   constructor
   ·rintro ⟨a, b⟩ i hi
    by_cases e : i = n
    ·subst e; exact b
    ·exact a i (by omega)
   ·intro h; exact ⟨fun i hi => h i (by omega), h n (by omega)⟩
def intB (p : Prob) : Bool := intL p.obj p.n && intR p p.m
set_option maxHeartbeats 8000000 in
set_option maxRecDepth 100000 in
theorem qk3 (v : Value) (p : Prob) (K : Nat) (w : World) (hv : qga w v p) (h1 : 1 ≤ p.n) (ho : ∀ j, j < p.n → QB K (p.obj j)) (hr : ∀ i, i < p.m → QB K (p.right i)) (hc : ∀ i, i < p.m → ∀ j, j < p.len i → QB K (p.coef i j)) :
 Calls Tryz.prog 82 #[v] w (qjz w (.bool (intB p))) := by
 obtain ⟨Ao, co, Ar, cr, rfl, hob, hmc, hcr, hrows⟩ := hv
 have hoc := hob.1
 have hoc2 := hob.2.1
 obtain ⟨F, hF⟩ : ∃ F, F = intB p := ⟨_, rfl⟩
 rw [← hF]
 obtain ⟨n, hn⟩ : ∃ n, n = p.n := ⟨_, rfl⟩
 obtain ⟨m, hm⟩ : ∃ n, n = p.m := ⟨_, rfl⟩
 have HF : Hid (F = (intL p.obj n && intR p m)) := Lib.hid (by rw [hF, hn, hm]; rfl)
 rw [← hn] at hoc hob ho h1
 rw [← hm] at hmc hrows hr hc
 rw [← hn, ← hm]
 have HROW := Lib.hid hrows
 have HO := Lib.hid ho
 have HR := Lib.hid hr
 have HC := Lib.hid hc
 have HOB := Lib.hid hob
 clear hn hm hF hob hrows ho hr hc
 have PB := Box.new w 41 #[.slice Ao n co, .slice Ar m cr]
 have hE0 : Ext w (w.alloc (.cells #[.slice Ao n co, .slice Ar m cr] 41)) := (Ext.refl w).alloc _
 go_enter Tryz.func82, Tryz.ntmps82
 go_upto_region 1 with fail
 generalize (w.alloc (.cells #[.slice Ao n co, .slice Ar m cr] 41)) = V at *
 obtain ⟨pb, hpb⟩ : ∃ x, x = w.heap.size := ⟨_, rfl⟩
 rw [← hpb] at PB ⊢
 clear hpb
 have c0 := PB.c0
 have hobV := HOB.out.ext hE0
 obtain ⟨bo, rfl, hRo⟩ := hobV.2.2 h1
 go_upto_region 2 with fail
 clear c0
 go_loopw [12] (fun i wr => ∃ j : Nat, j ≤ n ∧ i = .int .i64 j ∧ Hid (intL p.obj j = true) ∧ Ext V wr) (fun i _ => n - (intOf i).toNat)
 case atStart => exact ⟨0, by omega, rfl, Lib.hid rfl, Ext.refl V⟩
 case round =>
  obtain ⟨j, hj, rfl, HJ, hx⟩ := hrel
  by_cases hlt : j < n
  ·obtain ⟨p3, A3, m3, c3, p3', A3', m3', c3', a0, a1, a2, a3, hr3⟩ := (hRo.ext hx).at hlt
   have i1 : (0 : Int) ≤ (j : Int) := by omega
   have i2 : (j : Int) < (n : Int) := by omega
   go_upto_region 4 with fail
   have Bx := Box.new wr 58 #[.bool p3, .slice A3 m3 c3, .bool p3', .slice A3' m3' c3']
   have hEx : Ext wr (wr.alloc (.cells #[.bool p3, .slice A3 m3 c3, .bool p3', .slice A3' m3' c3'] 58)) := (Ext.refl wr).alloc _
   generalize (wr.alloc (.cells #[.bool p3, .slice A3 m3 c3, .bool p3', .slice A3' m3' c3'] 58)) = X at *
   have hq : RatB X _ (p.obj j) K := ⟨hr3.ext hEx, HO.out j hlt⟩
   have b0 := Bx.c0
   have b1 := Bx.c1
   have b2 : X.cell? ⟨wr.heap.size, 2, none⟩ = some _ := Bx.cell 2
   have b3 : X.cell? ⟨wr.heap.size, 3, none⟩ = some _ := Bx.cell 3
   clear a0 a1 a2 a3 hr3
   go_wp2_with fail
   refine (qx6 _ (p.obj j) K _ hq).mono ?_
   rintro e w5 ⟨rfl, hx5⟩
   clear b0 b1 b2 b3 hq
   have hxx := (hx.trans hEx).trans hx5
   obtain ⟨S, hS⟩ : ∃ S, S = decide ((p.obj j).den = 1) := ⟨_, rfl⟩
   rw [← hS]
   cases S with
   | true =>
     have HN1 : Hid (intL p.obj (j + 1) = true) := Lib.hid (by show (intL p.obj j && decide ((p.obj j).den = 1)) = true; rw [HJ.out, ← hS]; rfl)
     clear hS
     go_wp2_with fail
     go_roundw
     case rel => first | exact ⟨j + 1, by omega, by go_num, HN1, hxx⟩ | ((repeat (apply Exists.intro (α := Value))); exact ⟨⟨j + 1, by omega, by go_num, HN1, hxx⟩, rfl⟩)
     case measure => simp [intOf]; omega
   | false =>
     have HE : Hid (F = false) := Lib.hid (by
      rw [HF.out]
      cases e : intL p.obj n with
      | false => rfl
      | true => exact absurd (intL_iff.1 e j hlt) (of_decide_eq_false hS.symm))
     clear hS
     go_wp2_with fail
     go_ret
     exact ⟨by rw [HE.out]; rfl, hE0.trans hxx⟩
  ·obtain rfl : j = n := by omega
   have HF2 : Hid (F = intR p m) := Lib.hid (by rw [HF.out, HJ.out]; rfl)
   have c1 := (PB.ext hx).c1
   have hE1 := hE0.trans hx
   clear hobV hRo HO HOB HJ HF PB hE0
   go_upto_region 8 with fail
   clear c1 hx
   go_loopw [23] (fun i wv => ∃ k : Nat, k ≤ m ∧ i = .int .i64 k ∧ Hid (intR p k = true) ∧ Ext w wv) (fun i _ => m - (intOf i).toNat)
   case atStart => exact ⟨0, by omega, rfl, Lib.hid rfl, hE1⟩
   case round =>
    obtain ⟨k, hk, rfl, HK, hx⟩ := hrel
    clear hE1
    by_cases hlt : k < m
    ·obtain ⟨br, rfl, hrow⟩ := HROW.out (by omega)
     obtain ⟨Ac, cc, bx, A, d, e, bz, A', d', e', g0, g1, g2, g3, g4, g5, r1, r2, r3⟩ := hrow k hlt
     have g0 := hx.cell g0
     have g1 := hx.cell g1
     have g2 := hx.cell g2
     have g3 := hx.cell g3
     have g4 := hx.cell g4
     have g5 := hx.cell g5
     have r1 := r1.ext hx
     have r3 := r3.ext hx
     have hcc := r1.1
     have hcc2 := r1.2.1
     obtain ⟨l, hl⟩ : ∃ l, l = p.len k := ⟨_, rfl⟩
     obtain ⟨R, hR⟩ : ∃ R : Int, R = (p.rel k : Int) := ⟨_, rfl⟩
     rw [← hl] at g0 r1 hcc
     rw [← hR] at g1
     have HL := Lib.hid hl
     have HR1 := Lib.hid r1
     have HR3 := Lib.hid r3
     have i1 : (0 : Int) ≤ (k : Int) := by omega
     have i2 : (k : Int) < (m : Int) := by omega
     clear hrow r1 r2 r3 hl hR
     go_upto_region 10 with fail
     have RB := Box.new wr 75 #[.slice Ac l cc, .int .u8 R, .bool bx, .slice A d e, .bool bz, .slice A' d' e']
     have hEr : Ext wr (wr.alloc (.cells #[.slice Ac l cc, .int .u8 R, .bool bx, .slice A d e, .bool bz, .slice A' d' e'] 75)) := (Ext.refl wr).alloc _
     generalize (wr.alloc (.cells #[.slice Ac l cc, .int .u8 R, .bool bx, .slice A d e, .bool bz, .slice A' d' e'] 75)) = Y at *
     obtain ⟨rb, hrb⟩ : ∃ x, x = wr.heap.size := ⟨_, rfl⟩
     rw [← hrb] at RB ⊢
     clear hrb g0 g1 g2 g3 g4 g5
     have q0 := RB.c0
     have q2 : Y.cell? ⟨rb, 2, none⟩ = some _ := RB.cell 2
     have q3 : Y.cell? ⟨rb, 3, none⟩ = some _ := RB.cell 3
     have q4 : Y.cell? ⟨rb, 4, none⟩ = some _ := RB.cell 4
     have q5 : Y.cell? ⟨rb, 5, none⟩ = some _ := RB.cell 5
     have hxY := hx.trans hEr
     go_wp2_with fail
     refine (qx6 _ (p.right k) K _ ⟨HR3.out.ext hEr, HR.out k hlt⟩).mono ?_
     rintro e5 w5 ⟨rfl, hx5⟩
     have hx6 := hxY.trans hx5
     have q0 := hx5.cell q0
     have HRC : Hid (q94 w5 Ac l cc (p.coef k)) := Lib.hid ((HR1.out.ext hEr).ext hx5)
     clear q2 q3 q4 q5 RB hEr hxY hx5 HR1 HR3
     obtain ⟨S, hS⟩ : ∃ S, S = decide ((p.right k).den = 1) := ⟨_, rfl⟩
     rw [← hS]
     cases S with
     | false =>
       have HE : Hid (F = false) := Lib.hid (by
        rw [HF2.out]
        cases e : intR p m with
        | false => rfl
        | true => exact absurd (intR_iff.1 e k hlt).1 (of_decide_eq_false hS.symm))
       clear hS
       go_wp2_with fail
       go_ret
       exact ⟨by rw [HE.out]; rfl, hx6⟩
     | true =>
       have HS := Lib.hid hS
       clear hS
       go_upto_region 13 with fail
       clear q0
       go_loopw [34] (fun i wv => ∃ j : Nat, j ≤ l ∧ i = .int .i64 j ∧ Hid (intL (p.coef k) j = true) ∧ Ext w5 wv) (fun i _ => l - (intOf i).toNat)
       case atStart => exact ⟨0, by omega, rfl, Lib.hid rfl, Ext.refl w5⟩
       case round =>
        obtain ⟨j, hj, rfl, HJ, hy⟩ := hrel
        by_cases hlj : j < l
        ·obtain ⟨bc, rfl, hRc⟩ := HRC.out.2.2 (by omega)
         obtain ⟨p3, A3, m3, c3, p3', A3', m3', c3', a0, a1, a2, a3, hr3⟩ := (hRc.ext hy).at hlj
         have i1 : (0 : Int) ≤ (j : Int) := by omega
         have i2 : (j : Int) < (l : Int) := by omega
         go_upto_region 15 with fail
         have Bx := Box.new wr 58 #[.bool p3, .slice A3 m3 c3, .bool p3', .slice A3' m3' c3']
         have hEx : Ext wr (wr.alloc (.cells #[.bool p3, .slice A3 m3 c3, .bool p3', .slice A3' m3' c3'] 58)) := (Ext.refl wr).alloc _
         generalize (wr.alloc (.cells #[.bool p3, .slice A3 m3 c3, .bool p3', .slice A3' m3' c3'] 58)) = X at *
         have hq : RatB X _ (p.coef k j) K := ⟨hr3.ext hEx, HC.out k hlt j (by rw [← HL.out]; exact hlj)⟩
         have b0 := Bx.c0
         have b1 := Bx.c1
         have b2 : X.cell? ⟨wr.heap.size, 2, none⟩ = some _ := Bx.cell 2
         have b3 : X.cell? ⟨wr.heap.size, 3, none⟩ = some _ := Bx.cell 3
         clear a0 a1 a2 a3 hr3
         go_wp2_with fail
         refine (qx6 _ (p.coef k j) K _ hq).mono ?_
         rintro e w5 ⟨rfl, hx5⟩
         clear b0 b1 b2 b3 hq
         have hyy := (hy.trans hEx).trans hx5
         obtain ⟨S, hS⟩ : ∃ S, S = decide ((p.coef k j).den = 1) := ⟨_, rfl⟩
         rw [← hS]
         cases S with
         | true =>
           have HN1 : Hid (intL (p.coef k) (j + 1) = true) := Lib.hid (by show (intL (p.coef k) j && decide ((p.coef k j).den = 1)) = true; rw [HJ.out, ← hS]; rfl)
           clear hS
           go_wp2_with fail
           go_roundw
           case rel => first | exact ⟨j + 1, by omega, by go_num, HN1, hyy⟩ | ((repeat (apply Exists.intro (α := Value))); exact ⟨⟨j + 1, by omega, by go_num, HN1, hyy⟩, rfl⟩)
           case measure => simp [intOf]; omega
         | false =>
           have HE : Hid (F = false) := Lib.hid (by
            rw [HF2.out]
            cases e : intR p m with
            | false => rfl
            | true => exact absurd ((intR_iff.1 e k hlt).2 j (by rw [← HL.out]; exact hlj)) (of_decide_eq_false hS.symm))
           clear hS
           go_wp2_with fail
           go_ret
           exact ⟨by rw [HE.out]; rfl, hx6.trans hyy⟩
        ·obtain rfl : j = l := by omega
         have HN2 : Hid (intR p (k + 1) = true) := Lib.hid (by show (intR p k && (decide ((p.right k).den = 1) && intL (p.coef k) (p.len k))) = true; rw [HK.out, ← HS.out, ← HL.out, HJ.out]; rfl)
         have hyw := hx6.trans hy
         go_wp2_with fail
         go_roundw
         case rel => first | exact ⟨k + 1, by omega, by go_num, HN2, hyw⟩ | ((repeat (apply Exists.intro (α := Value))); exact ⟨⟨k + 1, by omega, by go_num, HN2, hyw⟩, rfl⟩)
         case measure => simp [intOf]; omega
    ·obtain rfl : k = m := by omega
     have HE : Hid (F = true) := Lib.hid (by rw [HF2.out, HK.out])
     go_wp2_with fail
     go_ret
     exact ⟨by rw [HE.out]; rfl, hx⟩
open Go.RowKit Go.Proofs.YtljncdcjkdgkeaaGreatDoor.Big
theorem qur (p q : Addr) (w : World) : CallsD Tryz.prog 83 #[.pointer (some p), .pointer (some q)] .returning w fun e u' w' => e = .returned (.tuple #[]) ∧ u' = .returning ∧ w' = w := by
 have hnil : ∀ w : World, (binOp BinOp.neq 20 .nilIface .nilIface).run Tryz.prog w = .ok (.bool false) w := fun _ => by kernel_rfl
 refine callsD_of_wpS Tryz.func83 rfl fun c₀ cs hu => ?_
 apply wpS_seq
 apply wpS_region
 simp [wpOpsS, go_sem, recoverD, hu, Tryz.ntmps83, Exit.thenS]
 apply wpS_seq
 apply wpS_region
 simp [wpOpsS, go_sem, Exit.thenS, hnil]
 refine wpS_cond (t := false) (by simp [Act.eval, Array.replicate]) ?_
 simp only [Bool.false_eq_true, if_false]
 refine wpS_of_wp (wp_skip ?_)
 cases c₀
 simp_all [bodyPostS, results, Tryz.results83, Exit.thenS]
set_option maxRecDepth 100000 in
set_option maxHeartbeats 4000000 in
theorem q46 (rb eb : Nat) (c : Int) (older : List PanicEntry) (w : World) (x0 x1 x2 y0 : Value) (hR : Box w rb 115 #[x0, x1, x2]) (hE : Box w eb 27 #[y0]) (hne : rb ≠ eb) : CallsD Tryz.prog 83 #[.pointer (some ⟨rb, 0, none⟩), .pointer (some ⟨eb, 0, none⟩)] (.panicking ({ v := .iface 149 (.agg #[.int .i64 c]), recovered := false } :: older)) w fun e u' w' => e = .returned (.tuple #[]) ∧ u' = .panicking ({ v := .iface 149 (.agg #[.int .i64 c]), recovered := true } :: older) ∧
 Box w' rb 115 #[.int .i64 0, .slice none 0 0, .pointer none] ∧ Box w' eb 27 #[.int .i64 c] ∧ ∀ a, Ext a w → a.heap.size ≤ rb → a.heap.size ≤ eb → Ext a w' := by
 have hneq : ∀ w : World, (binOp BinOp.neq 20 (.iface 149 (.agg #[.int .i64 c])) .nilIface).run Tryz.prog w = .ok (.bool true) w := fun _ => by kernel_rfl
 have r0 := hR.c0
 have r1 := hR.c1
 have r2 : w.cell? ⟨rb, 2, none⟩ = some x2 := hR.cell 2
 have z0 := hR.frozen 0
 have z1 := hR.frozen 1
 have z2 := hR.frozen 2
 have e0 := hE.c0
 have e1 := hE.frozen 0
 refine callsD_of_wpS Tryz.func83 rfl fun c₀ cs hu => ?_
 apply wpS_seq
 apply wpS_region
 simp [wpOpsS, go_sem, recoverD, hu, Tryz.ntmps83, Exit.thenS]
 apply wpS_seq
 apply wpS_region
 simp [wpOpsS, go_sem, Exit.thenS, hneq]
 refine wpS_cond (t := true) (by simp [Act.eval, Array.replicate]) ?_
 simp only [if_true]
 refine wpS_of_wp ?_
 clear hu hneq
 show Code.wp _ _ _ { tmps := #[Value.pointer (some { block := rb, off := 0 }), Value.pointer (some { block := eb, off := 0 }), .iface 149 (.agg #[.int .i64 c]), undef, undef, .iface 149 (.agg #[.int .i64 c]), .iface 149 (.agg #[.int .i64 c]), .bool true, undef, undef, undef, undef, undef, undef, undef, undef, undef], defers := [] } _
 go_upto_region 3 with fail
 have hR1 := ((((hR.set 0 (.int .i64 0)).set 1 (.slice none 0 0)).set 2 (.pointer none)).far (p := ⟨eb, 0, none⟩) hne (.int .i64 3))
 have hE1 := ((((hE.far (p := ⟨rb, 0, none⟩) (Ne.symm hne) (.int .i64 0)).far (p := ⟨rb, 1, none⟩) (Ne.symm hne) (.slice none 0 0)).far (p := ⟨rb, 2, none⟩) (Ne.symm hne) (.pointer none)).set 0 (.int .i64 3))
 have hx1 : ∀ a, Ext a w → a.heap.size ≤ rb → a.heap.size ≤ eb → Ext a ((((w.setCell ⟨rb, 0, none⟩ (.int .i64 0)).setCell ⟨rb, 1, none⟩ (.slice none 0 0)).setCell ⟨rb, 2, none⟩ (.pointer none)).setCell ⟨eb, 0, none⟩ (.int .i64 3)) := fun a ha h1 h2 => (((ha.set (p := ⟨rb, 0, none⟩) h1 _).set (p := ⟨rb, 1, none⟩) h1 _).set (p := ⟨rb, 2, none⟩) h1 _).set (p := ⟨eb, 0, none⟩) h2 _
 generalize ((((w.setCell ⟨rb, 0, none⟩ (.int .i64 0)).setCell ⟨rb, 1, none⟩ (.slice none 0 0)).setCell ⟨rb, 2, none⟩ (.pointer none)).setCell ⟨eb, 0, none⟩ (.int .i64 3)) = w1 at *
 clear r0 r1 r2 z0 z1 z2 e0 e1 hR hE
 have hta : ∀ w : World, (Instr.typeAssert (.iface 149 (.agg #[.int .i64 c])) 20 149 true).run Tryz.prog w = .ok (.tuple #[.agg #[.int .i64 c], .bool true]) w := fun _ => by kernel_rfl
 go_upto_region 4 with fail
 have hF2 := Box.new w1 149 #[.int .i64 c]
 have hR2 := hR1.alloc (.cells #[.int .i64 c] 149)
 have hE2 := hE1.alloc (.cells #[.int .i64 c] 149)
 have hx2 : ∀ a, Ext a w → a.heap.size ≤ rb → a.heap.size ≤ eb → Ext a (w1.alloc (.cells #[.int .i64 c] 149)) := fun a ha h1 h2 => (hx1 a ha h1 h2).alloc _
 generalize (w1.alloc (.cells #[.int .i64 c] 149)) = w2 at *
 have q0 := hF2.c0
 have e0 := hE2.c0
 have e1 := hE2.frozen 0
 clear hta
 go_wp2_with fail
 simp [bodyPostS, results, Tryz.results83]
 exact ⟨hR2.far (p := ⟨eb, 0, none⟩) hne _, hE2.set 0 _, fun a ha h1 h2 => (hx2 a ha h1 h2).set (p := ⟨eb, 0, none⟩) h2 _⟩
inductive SRes where
 | fail (c : Int)
 | done (v : Int) (x : Nat → Int) (t : BT)
def resR : Except Int (BT × BS) → SRes
 | .error c => .fail c
 | .ok (t, s) => match s.best with
   | none => .fail 17
   | some (v, x) => .done v x t
theorem q2w {t : BT} {s : BS} (h : s.best = none) : resR (.ok (t, s)) = .fail 17 := by simp [resR, h]
theorem qyf {t : BT} {s : BS} {v : Int} {x : Nat → Int} (h : s.best = some (v, x)) : resR (.ok (t, s)) = .done v x t := by simp [resR, h]
noncomputable def quu (L : Nat) (p : Prob) : SRes := if qba p = true ∧ intB p = true then resR (q9d L p) else .fail 3
def SoPost (K : Nat) (p : Prob) (w : World) : SRes → Ending → World → Prop
 | .fail c, e, w' => e = .returned (.tuple #[.agg #[.int .i64 0, .slice none 0 0, .pointer none], .int .i64 c]) ∧ Ext w w'
 | .done v x t, e, w' => ∃ g b h, e = .returned (.tuple #[.agg #[.int .i64 v, .slice (some ⟨g, 0, none⟩) p.n p.n, .pointer (some ⟨b, 0, none⟩)], .int .i64 0]) ∧ Pts w' g p.n x ∧ qmf K w' t b h ∧ h ≤ w'.heap.size ∧ w.heap.size ≤ b ∧ Ext w w'
theorem boxesT3 (w : World) (E0 E1 E2 : TypeId) (c0 c1 c2 : Array Value) :
 Box (((w.alloc (.cells c0 E0)).alloc (.cells c1 E1)).alloc (.cells c2 E2)) w.heap.size E0 c0 ∧ Box (((w.alloc (.cells c0 E0)).alloc (.cells c1 E1)).alloc (.cells c2 E2)) (w.heap.size + 1) E1 c1 ∧
 Box (((w.alloc (.cells c0 E0)).alloc (.cells c1 E1)).alloc (.cells c2 E2)) (w.heap.size + 1 + 1) E2 c2 ∧ Ext w (((w.alloc (.cells c0 E0)).alloc (.cells c1 E1)).alloc (.cells c2 E2)) := by
 have s1 : (w.alloc (.cells c0 E0)).heap.size = w.heap.size + 1 := by simp
 have s2 : ((w.alloc (.cells c0 E0)).alloc (.cells c1 E1)).heap.size = w.heap.size + 1 + 1 := by simp
 refine ⟨((Box.new w E0 c0).alloc _).alloc _, ?_, ?_, (((Ext.refl w).alloc _).alloc _).alloc _⟩
 ·have := (Box.new (w.alloc (.cells c0 E0)) E1 c1).alloc (.cells c2 E2); rwa [s1] at this
 ·have := Box.new ((w.alloc (.cells c0 E0)).alloc (.cells c1 E1)) E2 c2; rwa [s2] at this
theorem wp_calm {P : Program} {c : Code} {K : Act → World → Prop} {Q : Exit → Act → World → Prop} {a : Act} {w : World} (h : c.wp P (Exit.then K (fun _ _ _ => False)) a w) : c.wp P (Exit.then K Q) a w :=
 wp_mono h (fun e a w h => by cases e <;> first | exact h | exact h.elim)
theorem qut {w : World} {rb eb : Nat} {x0 x1 x2 y0 : Value} (RB : Box w rb 115 #[x0, x1, x2]) (EB : Box w eb 27 #[y0]) (hne : rb ≠ eb) (u0 u1 u2 v0 : Value) :
 Box ((((w.setCell ⟨rb, 0, none⟩ u0).setCell ⟨rb, 1, none⟩ u1).setCell ⟨rb, 2, none⟩ u2).setCell ⟨eb, 0, none⟩ v0) rb 115 #[u0, u1, u2] ∧ Box ((((w.setCell ⟨rb, 0, none⟩ u0).setCell ⟨rb, 1, none⟩ u1).setCell ⟨rb, 2, none⟩ u2).setCell ⟨eb, 0, none⟩ v0) eb 27 #[v0] ∧
 ∀ a, Ext a w → a.heap.size ≤ rb → a.heap.size ≤ eb → Ext a ((((w.setCell ⟨rb, 0, none⟩ u0).setCell ⟨rb, 1, none⟩ u1).setCell ⟨rb, 2, none⟩ u2).setCell ⟨eb, 0, none⟩ v0) :=
 ⟨(((RB.set 0 u0).set 1 u1).set 2 u2).far (p := ⟨eb, 0, none⟩) hne v0, (((EB.far (p := ⟨rb, 0, none⟩) (Ne.symm hne) u0).far (p := ⟨rb, 1, none⟩) (Ne.symm hne) u1).far (p := ⟨rb, 2, none⟩) (Ne.symm hne) u2).set 0 v0,
   fun a ha h1 h2 => (((ha.set (p := ⟨rb, 0, none⟩) h1 _).set (p := ⟨rb, 1, none⟩) h1 _).set (p := ⟨rb, 2, none⟩) h1 _).set (p := ⟨eb, 0, none⟩) h2 _⟩
theorem put_fr {w : World} {rb eb : Nat} {x0 : Int} {A : Option Addr} {n c : Nat} {b : Option Addr} {y0 : Int} (RB : Box w rb 115 #[.int .i64 x0, .slice A n c, .pointer b]) (EB : Box w eb 27 #[.int .i64 y0]) (hne : rb ≠ eb) (u0 u1 u2 v0 : Value) :
 Fr (fun k => k = rb ∨ k = eb) w ((((w.setCell ⟨rb, 0, none⟩ u0).setCell ⟨rb, 1, none⟩ u1).setCell ⟨rb, 2, none⟩ u2).setCell ⟨eb, 0, none⟩ v0) := by
 refine ((((Fr.refl (fun k => k = rb ∨ k = eb) w).set (p := ⟨rb, 0, none⟩) (.inl rfl) (fun z => ?_) _).set (p := ⟨rb, 1, none⟩) (.inl rfl) (fun z => ?_) _).set (p := ⟨rb, 2, none⟩) (.inl rfl) (fun z => ?_) _).set (p := ⟨eb, 0, none⟩) (.inr rfl) (fun z => ?_) _
 ·rw [RB.cell 0]; intro e; cases e
 ·rw [(RB.set 0 _).cell 1]; intro e; cases e
 ·rw [((RB.set 0 _).set 1 _).cell 2]; intro e; cases e
 ·rw [(((EB.far (p := ⟨rb, 0, none⟩) (Ne.symm hne) u0).far (p := ⟨rb, 1, none⟩) (Ne.symm hne) u1).far (p := ⟨rb, 2, none⟩) (Ne.symm hne) u2).cell 0]; intro e; cases e
set_option maxHeartbeats 8000000 in
set_option maxRecDepth 100000 in
theorem Solve_i (v : Value) (p : Prob) (z : Int) (kk M K L : Nat) (w : World) (hv : qga w v p) (hz0 : -9223372036854775808 ≤ z) (hz1 : z ≤ 9223372036854775807) (hL : (L : Int) = max z 0) (hC : qba p = true → CanI p kk M K) (hM : p.m + L ≤ M) (hL2 : L ≤ 1000) :
 Calls Tryz.prog 52 #[v, .int .i64 z] w (SoPost (K + 2) p w (quu L p)) := by
 have HC := Lib.hid hC
 have hv0 := hv
 obtain ⟨Ao, co, Ar, cr, rfl, -⟩ := hv0
 obtain ⟨R, hR⟩ : ∃ x, x = quu L p := ⟨_, rfl⟩
 rw [← hR]
 have HR := Lib.hid hR
 have HLZ := Lib.hid hL
 clear hR hC hL
 have hmf : ∀ (fn : Fn) (first cap : Array Value) (w : World), (Instr.makeFunc fn first cap).run Tryz.prog w = .ok (.func fn first cap) w := fun _ _ _ _ => rfl
 go_enter_defers Tryz.func52, Tryz.ntmps52
 go_upto_region 1 with fail
 obtain ⟨PB, RB, EB, hE0⟩ := boxesT3 w 41 115 27 #[.slice Ao p.n co, .slice Ar p.m cr] #[.int .i64 0, .slice none 0 0, .pointer none] #[.int .i64 0]
 generalize (((w.alloc (.cells #[.slice Ao p.n co, .slice Ar p.m cr] 41)).alloc (.cells #[.int .i64 0, .slice none 0 0, .pointer none] 115)).alloc (.cells #[.int .i64 0] 27)) = V at *
 obtain ⟨eb, heb⟩ : ∃ x, x = w.heap.size + 1 + 1 := ⟨_, rfl⟩
 obtain ⟨rb, hrb⟩ : ∃ x, x = w.heap.size + 1 := ⟨_, rfl⟩
 obtain ⟨pb, hpb⟩ : ∃ x, x = w.heap.size := ⟨_, rfl⟩
 rw [← heb] at EB ⊢
 rw [← hrb] at RB ⊢
 rw [← hpb] at PB ⊢
 have hne : rb ≠ eb := by omega
 have hwr : w.heap.size ≤ rb := by omega
 have hwe : w.heap.size ≤ eb := by omega
 clear heb hrb hpb
 have c0 := PB.c0
 have c1 := PB.c1
 have hvV := hv.ext hE0
 go_wp2_with fail
 refine (q72 _ p _ hvV).mono ?_
 rintro e w1 ⟨rfl, hx1⟩
 have hE1 := hE0.trans hx1
 have hv1 := hvV.ext hx1
 have PB := PB.ext hx1
 have RB := RB.ext hx1
 have EB := EB.ext hx1
 have c0 := PB.c0
 have c1 := PB.c1
 clear hvV hE0 hx1
 obtain ⟨B, hB⟩ : ∃ B, B = qba p := ⟨_, rfl⟩
 rw [← hB]
 cases B with
 | false =>
   have HE : Hid (R = .fail 3) := Lib.hid (by rw [HR.out]; unfold quu; rw [if_neg (fun h => by rw [h.1] at hB; cases hB)])
   clear hB
   obtain ⟨RB2, EB2, hx2⟩ := qut RB EB hne (.int .i64 0) (.slice none 0 0) (.pointer none) (.int .i64 3)
   have q0 := RB.c0
   have q1 := RB.c1
   have q2 : (w1).cell? ⟨rb, 2, none⟩ = some _ := RB.cell 2
   have z0 := RB.frozen 0
   have z1 := RB.frozen 1
   have z2 := RB.frozen 2
   have e0 := EB.c0
   have y0 := EB.frozen 0
   go_wp2_with fail
   clear q0 q1 q2 z0 z1 z2 e0 y0
   have q0 := RB2.c0
   have q1 := RB2.c1
   have q2 := RB2.cell 2
   have e0 := EB2.c0
   refine ⟨.tuple #[.agg #[.int .i64 0, .slice none 0 0, .pointer none], .int .i64 3], by simp [results, Tryz.results52, go_sem, q0, q1, q2, e0], ?_⟩
   rw [HE.out]
   exact ⟨rfl, hx2 w hE1 hwr hwe⟩
 | true =>
   have HV : Hid (qba p = true) := Lib.hid hB.symm
   obtain ⟨a1, a2, a3, a4⟩ := validB_iff.1 hB.symm
   have hCan := HC.out hB.symm
   clear hB
   go_wp2_with fail
   refine (qk3 _ p 3 _ hv1 a1 (fun j hj => qqj (by omega) (hCan.obj j hj)) hCan.right (fun i hi j hj => qqj (by omega) (hCan.coef i hi j (by rw [← (a4 i hi).1]; exact hj)))).mono ?_
   rintro e w2 ⟨rfl, hx2⟩
   have hE2 := hE1.trans hx2
   have hv2 := hv1.ext hx2
   have PB := PB.ext hx2
   have RB := RB.ext hx2
   have EB := EB.ext hx2
   have HCAN := Lib.hid hCan
   clear hE1 hv1 hx2 a2 a3 a4 c0 c1 hCan
   have c0 := PB.c0
   have c1 := PB.c1
   obtain ⟨I, hI⟩ : ∃ B, B = intB p := ⟨_, rfl⟩
   rw [← hI]
   cases I with
   | false =>
     have HE : Hid (R = .fail 3) := Lib.hid (by rw [HR.out]; unfold quu; rw [if_neg (fun h => by rw [h.2] at hI; cases hI)])
     clear hI
     obtain ⟨RB2, EB2, hx2⟩ := qut RB EB hne (.int .i64 0) (.slice none 0 0) (.pointer none) (.int .i64 3)
     have q0 := RB.c0
     have q1 := RB.c1
     have q2 : (w2).cell? ⟨rb, 2, none⟩ = some _ := RB.cell 2
     have z0 := RB.frozen 0
     have z1 := RB.frozen 1
     have z2 := RB.frozen 2
     have e0 := EB.c0
     have y0 := EB.frozen 0
     go_wp2_with fail
     clear q0 q1 q2 z0 z1 z2 e0 y0
     have q0 := RB2.c0
     have q1 := RB2.c1
     have q2 := RB2.cell 2
     have e0 := EB2.c0
     refine ⟨.tuple #[.agg #[.int .i64 0, .slice none 0 0, .pointer none], .int .i64 3], by simp [results, Tryz.results52, go_sem, q0, q1, q2, e0], ?_⟩
     rw [HE.out]
     exact ⟨rfl, hx2 w hE2 hwr hwe⟩
   | true =>
     have HI : Hid (intB p = true) := Lib.hid hI.symm
     clear hI
     go_upto_region 5 with fail
     rw [← HLZ.out]
     have SB : Box (w2.alloc (.cells #[.int .i64 (L : Int), .int .i64 0, .bool false, .int .i64 0, .slice none 0 0] 153)) w2.heap.size 153 #[.int .i64 (L : Int), .int .i64 0, .bool false, .int .i64 0, .slice none 0 0] := Box.new w2 _ _
     have hxs : Ext w2 (w2.alloc (.cells #[.int .i64 (L : Int), .int .i64 0, .bool false, .int .i64 0, .slice none 0 0] 153)) := (Ext.refl w2).alloc _
     generalize (w2.alloc (.cells #[.int .i64 (L : Int), .int .i64 0, .bool false, .int .i64 0, .slice none 0 0] 153)) = w3 at *
     obtain ⟨sb, hsb⟩ : ∃ x, x = w2.heap.size := ⟨_, rfl⟩
     rw [← hsb] at SB ⊢
     have hws : w.heap.size ≤ sb := by have := hE2.size; omega
     clear hsb
     have hS0 : qhb w3 sb L p.n ⟨0, none⟩ := ⟨false, 0, none, 0, 0, SB, fun _ => rfl, fun v x e => by cases e⟩
     have hE3 := hE2.trans hxs
     have hv3 := hv2.ext hxs
     have RB := RB.ext hxs
     have EB := EB.ext hxs
     have PB := PB.ext hxs
     have c0 := PB.c0
     have c1 := PB.c1
     have hrs : rb ≠ sb := qb8 RB SB (by decide)
     have hes : eb ≠ sb := qb8 EB SB (by decide)
     obtain ⟨r, hr⟩ : ∃ r, r = q9d L p := ⟨_, rfl⟩
     have HSR : Hid (R = resR r) := Lib.hid (by rw [HR.out, hr]; unfold quu; rw [if_pos ⟨HV.out, HI.out⟩])
     have hN := node_all L sb kk M K (L + 1) hL2 p ⟨0, none⟩ _ w3 HCAN.out hS0 hv3 (by show L < 0 + (L + 1); omega) (by show p.m + (L - 0) ≤ M; omega)
     rw [show qtq L (L + 1) p ⟨0, none⟩ = r from hr.symm] at hN
     clear hr hE2 hv2 hS0 hxs
     go_wp2_with fail
     refine hN.mono ?_
     clear hN c0 c1
     cases r with
     | error c =>
       rintro e w4 ⟨hF, rfl⟩
       have HE : Hid (R = .fail c) := Lib.hid HSR.out
       have RB4 := hF.box RB hrs
       have EB4 := hF.box EB hes
       have hE4 := hF.ext hE3 (fun b hb => hb ▸ hws)
       refine leaves_cons (f := 83) (args := #[.pointer (some ⟨rb, 0, none⟩), .pointer (some ⟨eb, 0, none⟩)]) (by simp) (by simp [go_sem]) ?_
       refine (q46 rb eb c [] _ _ _ _ _ RB4 EB4 hne).mono ?_
       rintro e u' w5 ⟨rfl, rfl, hR5, hE5, hx5⟩
       have q0 := hR5.c0
       have q1 := hR5.c1
       have q2 := hR5.cell 2
       have e0 := hE5.c0
       refine ⟨.tuple #[.agg #[.int .i64 0, .slice none 0 0, .pointer none], .int .i64 c], by simp [results, Tryz.results52, go_sem, q0, q1, q2, e0], ?_⟩
       rw [HE.out]
       exact ⟨rfl, hx5 w hE4 hwr hwe⟩
     | ok q =>
       obtain ⟨t, s⟩ := q
       rintro e w4 ⟨hF, b, rfl, hb, hT, hS⟩
       have RB := hF.box RB hrs
       have EB := hF.box EB hes
       have hE4 := hF.ext hE3 (fun b hb => hb ▸ hws)
       have hwb : w.heap.size ≤ b := Nat.le_trans hE3.size hb
       obtain ⟨fo, va, A, m, c, SB4, hn0, hs0⟩ := hS
       have s2 : w4.cell? ⟨sb, 2, none⟩ = some (.bool fo) := SB4.cell 2
       clear SB hF
       cases hbest : s.best with
       | none =>
         obtain rfl : fo = false := hn0 hbest
         have HE : Hid (R = .fail 17) := Lib.hid (by rw [HSR.out]; exact q2w hbest)
         clear hbest hn0 hs0 HSR
         obtain ⟨RB2, EB2, hx2⟩ := qut RB EB hne (.int .i64 0) (.slice none 0 0) (.pointer none) (.int .i64 17)
         have q0 := RB.c0
         have q1 := RB.c1
         have q2 : (w4).cell? ⟨rb, 2, none⟩ = some _ := RB.cell 2
         have z0 := RB.frozen 0
         have z1 := RB.frozen 1
         have z2 := RB.frozen 2
         have e0 := EB.c0
         have y0 := EB.frozen 0
         go_wp2_with fail
         clear q0 q1 q2 z0 z1 z2 e0 y0
         generalize ((((w4.setCell ⟨rb, 0, none⟩ (.int .i64 0)).setCell ⟨rb, 1, none⟩ (.slice none 0 0)).setCell ⟨rb, 2, none⟩ (.pointer none)).setCell ⟨eb, 0, none⟩ (.int .i64 17)) = w5 at *
         refine leaves_cons (f := 83) (args := #[.pointer (some ⟨rb, 0, none⟩), .pointer (some ⟨eb, 0, none⟩)]) (by simp) (by simp [go_sem]) ?_
         refine (qur _ _ _).mono ?_
         rintro e u' w6 ⟨rfl, rfl, rfl⟩
         have q0 := RB2.c0
         have q1 := RB2.c1
         have q2 := RB2.cell 2
         have e0 := EB2.c0
         refine ⟨.tuple #[.agg #[.int .i64 0, .slice none 0 0, .pointer none], .int .i64 17], by simp [results, Tryz.results52, go_sem, q0, q1, q2, e0], ?_⟩
         rw [HE.out]
         exact ⟨rfl, hx2 w hE4 hwr hwe⟩
       | some q9 =>
         obtain ⟨bv, bx⟩ := q9
         obtain ⟨rfl, rfl, hfv, rfl, rfl, g, rfl, hPt⟩ := hs0 bv bx hbest
         have HE : Hid (R = .done va bx t) := Lib.hid (by rw [HSR.out]; exact qyf hbest)
         clear hbest hn0 hs0 HSR
         have s3 : w4.cell? ⟨sb, 3, none⟩ = some (.int .i64 va) := SB4.cell 3
         have s4 : w4.cell? ⟨sb, 4, none⟩ = some (.slice (some ⟨g, 0, none⟩) p.n p.n) := SB4.cell 4
         obtain ⟨RB2, EB2, hx2⟩ := qut RB EB hne (.int .i64 va) (.slice (some ⟨g, 0, none⟩) p.n p.n) (.pointer (some ⟨b, 0, none⟩)) (.int .i64 0)
         have hF5 := put_fr RB EB hne (.int .i64 va) (.slice (some ⟨g, 0, none⟩) p.n p.n) (.pointer (some ⟨b, 0, none⟩)) (.int .i64 0)
         have hPt5 : Pts _ g p.n bx := hPt.fr hF5 (by
          obtain ⟨cs, k1, -⟩ := id hPt
          rintro (h | h)
          ·exact qb8 k1 RB (by decide) h
          ·exact qb8 k1 EB (by decide) h)
         have hT5 := hT.fr hF5 (fun k cs h1 h2 => by
          rcases h2 with h | h
          ·exact qb8 h1 RB (by decide) h
          ·exact qb8 h1 EB (by decide) h) (fun b n f h1 h2 => by
          obtain ⟨cs, k1, -⟩ := id h1
          rcases h2 with h | h
          ·exact qb8 k1 RB (by decide) h
          ·exact qb8 k1 EB (by decide) h)
         have hx5 := hx2 w hE4 hwr hwe
         have hsz5 := hF5.size
         have q0 := RB.c0
         have q1 := RB.c1
         have q2 : (w4).cell? ⟨rb, 2, none⟩ = some _ := RB.cell 2
         have z0 := RB.frozen 0
         have z1 := RB.frozen 1
         have z2 := RB.frozen 2
         have e0 := EB.c0
         have y0 := EB.frozen 0
         go_upto_region 8 with fail
         refine wp_calm ?_
         clear hx2 hF5 hPt hT
         go_region_law (fail)
         all_goals (
          clear q0 q1 q2 z0 z1 z2 e0 y0 s2 s3 s4
          generalize ((((w4.setCell ⟨rb, 0, none⟩ (.int .i64 va)).setCell ⟨rb, 1, none⟩ (.slice (some ⟨g, 0, none⟩) p.n p.n)).setCell ⟨rb, 2, none⟩ (.pointer (some ⟨b, 0, none⟩))).setCell ⟨eb, 0, none⟩ (.int .i64 0)) = w5 at *
          go_wp2_with fail
          refine leaves_cons (f := 83) (args := #[.pointer (some ⟨rb, 0, none⟩), .pointer (some ⟨eb, 0, none⟩)]) (by simp) (by simp [go_sem]) ?_
          refine (qur _ _ _).mono ?_
          rintro e u' w6 ⟨rfl, rfl, rfl⟩
          have q0 := RB2.c0
          have q1 := RB2.c1
          have q2 := RB2.cell 2
          have e0 := EB2.c0
          refine ⟨.tuple #[.agg #[.int .i64 va, .slice (some ⟨g, 0, none⟩) p.n p.n, .pointer (some ⟨b, 0, none⟩)], .int .i64 0], by simp [results, Tryz.results52, go_sem, q0, q1, q2, e0], ?_⟩
          rw [HE.out]
          first
           | exact ⟨g, b, w4.heap.size, rfl, hPt5, hT5, hsz5, hwb, hx5⟩
           | exact ⟨g, b, w4.heap.size, rfl, hPt5.ext (Ext.drew (Ext.refl _)), hT5.ext (Ext.drew (Ext.refl _)), hsz5, hwb, hx5.drew⟩)
theorem q26 {p : Prob} (h : intB p = true) : p.IntObj := by
 unfold intB at h
 rw [Bool.and_eq_true] at h
 exact intL_iff.1 h.1
theorem IP.can {ip : IP} (hok : ip.ok) {k M K : Nat} (hn : ip.pl.toP.n ≤ k) (hm : ip.pl.toP.m ≤ M) (hM : M ≤ 1000) (hK : bK3 M k 2 3 2 ≤ K) (hK2 : K ≤ 134217728) (hv : qba ip.pl.toP = true) : CanI ip.pl.toP k M K :=
 ⟨hv, hn, hm, hM, fun j _ => IP.obj_b hok j, fun i hi j _ => IP.coef_b hok hi j, fun i hi => qqj (by omega) (IP.right_b hok hi), hK, hK2⟩
end Go.Proofs.YtljncdcjkdgkeaaGreatDoor.Lp
namespace Go.Proofs.YtljncdcjkdgkeaaGreatDoor.Big
open Go.RowKit
def keyP (k : Nat) : Value := .pointer (some ⟨k, 0, none⟩)
def PMap (w : World) (r : Nat) (S : List (Nat × Value)) : Prop :=
 ∃ es clock, w.heap[r]? = some (.map es clock) ∧ es.toList.map (fun e => (e.key, e.val)) = S.map fun p => (keyP p.1, p.2)
def qes (w : World) (k : Nat) : Prop := ∃ cs E, w.heap[k]? = some (.cells cs E (0, 0))
def qoh (k : Nat) : List (Nat × Value) → Option (Nat × Value)
 | [] => none
 | p :: S => if p.1 = k then some (0, p.2) else (qoh k S).map fun q => (q.1 + 1, q.2)
def qp1 (r : Nat) (w w' : World) : Prop := (∃ es c, w.heap[r]? = some (.map es c)) ∧ ∃ es c, w' = qao w r es c
section
variable {P : Program} {w w' : World} {mt kt et pt : TypeId} {r : Nat} {S : List (Nat × Value)} {j : TypeInfo}
theorem qp1.far (h : qp1 r w w') {k : Nat} (hk : k ≠ r) : w'.heap[k]? = w.heap[k]? := by
 obtain ⟨⟨es, c, h1⟩, es', c', rfl⟩ := h
 exact qx2 h1 es' c' hk
theorem qp1.size (h : qp1 r w w') : w'.heap.size = w.heap.size := by
 obtain ⟨⟨es, c, h1⟩, es', c', rfl⟩ := h
 simp [qao]
theorem qp1.box (h : qp1 r w w') {b : Nat} {E : TypeId} {cs : Array Value} (hb : Box w b E cs) : Box w' b E cs := by
 have hne : b ≠ r := by
  rintro rfl
  obtain ⟨⟨es, c, h1⟩, -⟩ := h
  unfold Box at hb
  rw [hb] at h1; cases h1
 exact (h.far hne).trans hb
theorem qp1.cells (h : qp1 r w w') {b : Nat} (hb : qes w b) : qes w' b := by
 obtain ⟨cs, E, hb⟩ := hb
 exact ⟨cs, E, h.box (E := E) (cs := cs) hb⟩
theorem PMap.lt (h : PMap w r S) : r < w.heap.size := by
 obtain ⟨es, c, h1, -⟩ := h
 rcases Nat.lt_or_ge r w.heap.size with h' | h'
 ·exact h'
 ·rw [Array.getElem?_eq_none h'] at h1; cases h1
theorem PMap.ext (h : PMap w r S) (k : Ext w w') : PMap w' r S := by
 have hl := h.lt
 obtain ⟨es, c, h1, h2⟩ := h
 exact ⟨es, c, (Below.block k r hl).trans h1, h2⟩
theorem PMap.nobox (h : PMap w r S) {b : Nat} {E : TypeId} {cs : Array Value} (hb : Box w b E cs) : b ≠ r := by
 rintro rfl
 obtain ⟨es, c, h1, -⟩ := h
 unfold Box at hb
 rw [hb] at h1; cases h1
theorem qes.ext {k : Nat} (h : qes w k) (x : Ext w w') : qes w' k := by
 obtain ⟨cs, E, h1⟩ := h
 exact ⟨cs, E, Box.ext (E := E) (cs := cs) h1 x⟩
theorem qgf (hk : P.underlying kt = some (.pointer pt)) (hj : P.info? pt = some j) (hsz : j.size ≠ 0) {a b : Nat} (ha : qes w a) (hb : qes w b) : (Op.equal kt (keyP a) (keyP b)).run P w = .ok (decide (b = a)) w := by
 unfold keyP
 by_cases e : b = a
 ·subst e
  rw [qb6 hk hj]; simp
 ·obtain ⟨ca, ta, ha⟩ := ha
  obtain ⟨cb, tb, hb⟩ := hb
  have hne : (⟨a, 0, none⟩ : Addr) ≠ ⟨b, 0, none⟩ := fun h => e (by injection h with h; exact h.symm)
  have h : ∀ d : Nat, (Op.equalIn (d + 1) kt (.pointer (some ⟨a, 0, none⟩)) (.pointer (some ⟨b, 0, none⟩))).run P w = .ok false w := fun d => by
   simp [Op.equalIn, run_underlying hk, sizeOf, typeInfo, hj, hsz, run_sameAddr_other w hne ha hb]
  simp [Op.equal, Op.maxDepth, h 9999, e]
theorem qjf (hk : P.underlying kt = some (.pointer pt)) (hj : P.info? pt = some j) (hsz : j.size ≠ 0) (k : Nat) (hkB : qes w k) (es : List MapEntry) (S : List (Nat × Value)) (i : Nat) (h : es.map (fun e => (e.key, e.val)) = S.map fun p => (keyP p.1, p.2)) (hS : ∀ p ∈ S, qes w p.1) :
 (Instr.findAsking kt (keyP k) es i).run P w = .ok ((qoh k S).map fun q => (i + q.1, q.2)) w := by
 induction es generalizing S i with
 | nil =>
   cases S with
   | nil => simp [Instr.findAsking, qoh]
   | cons p S => simp at h
 | cons e es ih =>
   cases S with
   | nil => simp at h
   | cons p S =>
     simp only [List.map_cons, List.cons.injEq, Prod.mk.injEq] at h
     obtain ⟨⟨h1, h2⟩, h3⟩ := h
     have he := qgf (P := P) (w := w) hk hj hsz hkB (hS p (by simp))
     have hi := ih S (i + 1) h3 (fun q hq => hS q (by simp [hq]))
     unfold qoh
     by_cases e1 : p.1 = k
     ·rw [e1] at he h1
      simp only [decide_true] at he
      simp [Instr.findAsking, h1, h2, he, e1]
     ·rw [decide_eq_false e1] at he
      rw [if_neg e1]
      simp only [Instr.findAsking, h1, Sem.run_bind, he, Result.andThen, Bool.false_eq_true, if_false, hi]
      congr 1
      cases qoh k S with
      | none => rfl
      | some q => simp; omega
theorem qwz (hk : P.underlying kt = some (.pointer pt)) (hj : P.info? pt = some j) (hsz : j.size ≠ 0) (k : Nat) (hkB : qes w k) (es : List MapEntry) (S : List (Nat × Value)) (h : es.map (fun e => (e.key, e.val)) = S.map fun p => (keyP p.1, p.2)) (hS : ∀ p ∈ S, qes w p.1) :
 (Instr.findKey kt (keyP k) es).run P w = .ok (qoh k S) w := by
 cases es with
 | nil =>
   cases S with
   | nil => exact qs4 hk _
   | cons p S => simp at h
 | cons e es =>
   cases S with
   | nil => simp at h
   | cons p S =>
     have hf := qjf hk hj hsz k hkB (e :: es) (p :: S) 0 h hS
     have he : e.key = keyP p.1 := by
      simp only [List.map_cons, List.cons.injEq, Prod.mk.injEq] at h
      exact h.1.1
     have hn : Instr.findNow (.pointer pt) (keyP k) (e :: es) 0 = none := by
      simp [Instr.findNow, he, keyP, Instr.sameNow]
     simp only [Nat.zero_add] at hf
     have hid : ((qoh k (p :: S)).map fun q => (q.1, q.2)) = qoh k (p :: S) := by cases qoh k (p :: S) <;> rfl
     rw [hid] at hf
     simp only [Instr.findKey, Sem.run_bind, run_underlying hk, Result.andThen, hn]
     exact hf
theorem qsu {z : Value} (hm : P.underlying mt = some (.map kt et)) (hk : P.underlying kt = some (.pointer pt)) (hj : P.info? pt = some j) (hsz : j.size ≠ 0) (hb : PMap w r S) (hS : ∀ p ∈ S, qes w p.1) (k : Nat) (hkB : qes w k) (hz : (zeroValue et).run P w = .ok z w) :
 (∀ ok, (Instr.lookup mt (.map (some r)) (.pointer (some ⟨k, 0, none⟩)) ok).run P w = .ok (match qoh k S with | some q => (if ok then .tuple #[q.2, .bool true] else q.2) | none => (if ok then .tuple #[z, .bool false] else z)) w) := by
 intro ok
 obtain ⟨es, c, h1, h2⟩ := hb
 have hf := qwz hk hj hsz k hkB es.toList S h2 hS
 unfold keyP at hf
 cases e : qoh k S with
 | none =>
   rw [e] at hf
   cases ok <;> simp [Instr.lookup, run_underlying hm, Result.andThen, MapKept.run_getObj_map h1, qdf (n := 9999) hk, hf, hz]
 | some q =>
   rw [e] at hf
   cases ok <;> simp [Instr.lookup, run_underlying hm, Result.andThen, MapKept.run_getObj_map h1, qdf (n := 9999) hk, hf]
theorem pfind_none_iff {k : Nat} {S : List (Nat × Value)} : qoh k S = none ↔ ∀ p ∈ S, p.1 ≠ k := by
 induction S with
 | nil => simp [qoh]
 | cons p S ih =>
   unfold qoh
   by_cases e : p.1 = k
   ·simp [e]
   ·simp [e, ih]
theorem qgl (hm : P.underlying mt = some (.map kt et)) (hk : P.underlying kt = some (.pointer pt)) (hj : P.info? pt = some j) (hsz : j.size ≠ 0) (hb : PMap w r S) (hS : ∀ p ∈ S, qes w p.1) (k : Nat) (hkB : qes w k) (hno : ∀ p ∈ S, p.1 ≠ k) (v : Value) :
 ∃ w', (Instr.mapUpdate mt (.map (some r)) (.pointer (some ⟨k, 0, none⟩)) v).run P w = .ok () w' ∧ PMap w' r (S ++ [(k, v)]) ∧ qp1 r w w' := by
 obtain ⟨es, c, h1, h2⟩ := hb
 have hf := qwz hk hj hsz k hkB es.toList S h2 hS
 rw [pfind_none_iff.2 hno] at hf
 unfold keyP at hf
 refine ⟨qao w r (es.push { key := keyP k, val := v, born := c }) (c + 1), ?_, ⟨_, _, qs7 h1 _ _, ?_⟩, ⟨⟨es, c, h1⟩, _, _, rfl⟩⟩
 ·simp [Instr.mapUpdate, run_underlying hm, Result.andThen, MapKept.run_getObj_map h1, qdf (n := 9999) hk, hf, MapKept.run_setObj_map _ h1, qao, keyP]
 ·simp [h2]
theorem qkl (hm : P.underlying mt = some (.map kt et)) (hk : P.underlying kt = some (.pointer pt)) (hj : P.info? pt = some j) (hsz : j.size ≠ 0) (k : Nat) (A B : List (Nat × Value)) (v0 : Value) (hb : PMap w r (A ++ (k, v0) :: B)) (hS : ∀ p ∈ A ++ (k, v0) :: B, qes w p.1) (hno : ∀ p ∈ A, p.1 ≠ k) (v : Value) :
 ∃ w', (Instr.mapUpdate mt (.map (some r)) (.pointer (some ⟨k, 0, none⟩)) v).run P w = .ok () w' ∧ PMap w' r (A ++ (k, v) :: B) ∧ qp1 r w w' := by
 obtain ⟨es, c, h1, h2⟩ := hb
 have hf := qwz hk hj hsz k (hS (k, v0) (by simp)) es.toList _ h2 hS
 have hp : qoh k (A ++ (k, v0) :: B) = some (A.length, v0) := by
  clear hS h2 hf
  induction A with
  | nil => simp [qoh]
  | cons p A ih =>
    have h0 : p.1 ≠ k := hno p (by simp)
    simp [qoh, h0, ih (fun q hq => hno q (by simp [hq]))]
 rw [hp] at hf
 unfold keyP at hf
 have hat : es[A.length]? = some { key := keyP k, val := v0, born := ((es[A.length]?).map (·.born)).getD 0 } := by
  have h3 : (es.toList.map (fun e => (e.key, e.val)))[A.length]? = some (keyP k, v0) := by rw [h2]; simp
  rw [List.getElem?_map, Array.getElem?_toList] at h3
  cases e : es[A.length]? with
  | none => rw [e] at h3; cases h3
  | some x =>
    rw [e] at h3
    simp only [Option.map_some, Option.some.injEq, Prod.mk.injEq] at h3
    simp [← h3.1, ← h3.2]
 have hs : (Instr.keyThatStays (keyP k) (.pointer (some ⟨k, 0, none⟩))).run P w = .ok (.pointer (some ⟨k, 0, none⟩)) w := by
  simp [Instr.keyThatStays, Instr.sameBits, keyP]
 have hkey : ((es[A.length]?).map (·.key)).getD (.pointer (some ⟨k, 0, none⟩)) = keyP k := by rw [hat]; rfl
 refine ⟨qao w r (es.modify A.length fun e => { e with key := .pointer (some ⟨k, 0, none⟩), val := v }) c, ?_, ⟨_, _, qs7 h1 _ _, ?_⟩, ⟨⟨es, c, h1⟩, _, _, rfl⟩⟩
 ·simp [Instr.mapUpdate, run_underlying hm, Result.andThen, MapKept.run_getObj_map h1, qdf (n := 9999) hk, hf, hkey, hs, MapKept.run_setObj_map _ h1, qao]
 ·apply List.ext_getElem?
  intro i
  have h3 := congrArg (fun l : List (Value × Value) => l[i]?) h2
  simp only [List.getElem?_map, Array.getElem?_toList] at h3
  simp only [List.getElem?_map, Array.getElem?_toList, Array.getElem?_modify]
  by_cases e : A.length = i
  ·subst e
   rw [if_pos rfl, hat]
   simp [keyP]
  ·rw [if_neg e]
   have hg : (A ++ (k, v0) :: B)[i]? = (A ++ (k, v) :: B)[i]? := by
    rcases Nat.lt_or_ge i A.length with hl | hg
    ·rw [List.getElem?_append_left hl, List.getElem?_append_left hl]
    ·rw [List.getElem?_append_right hg, List.getElem?_append_right hg]
     obtain ⟨d, hd⟩ : ∃ d, i - A.length = d + 1 := ⟨i - A.length - 1, by omega⟩
     rw [hd]; rfl
   rw [← hg]
   cases e2 : es[i]? with
   | none => rw [e2] at h3; simpa using h3
   | some x => rw [e2] at h3; simpa using h3
end
end Go.Proofs.YtljncdcjkdgkeaaGreatDoor.Big
namespace Go.Proofs.YtljncdcjkdgkeaaGreatDoor.Lp
open Go.RowKit Go.Proofs.YtljncdcjkdgkeaaGreatDoor.Big Go.Proofs.YtljncdcjkdgkeaaGreatDoor.Rt
theorem nodeF_err {L k : Nat} {p : Prob} {s : BS} {c : Int} (h : qtq L k p s = .error c) : c = 13 ∨ c = 18 ∨ c = 2 := by
 induction k generalizing p s with
 | zero =>
   have h : (Except.error 13 : Except Int (BT × BS)) = .error c := h
   injection h with h
   exact .inl h.symm
 | succ k ih =>
   by_cases hL : L ≤ s.solved
   ·rw [q81 hL] at h
    injection h with h
    exact .inl h.symm
   ·cases es : p.sol with
    | inf y => rw [qu9 hL es] at h; cases h
    | unb =>
      rw [q6h hL es] at h
      injection h with h
      exact .inr (.inl h.symm)
    | opt z x y =>
      cases hc : s.cut z with
      | true => rw [qrh hL es hc] at h; cases h
      | false =>
        cases hf : qqr x p.n with
        | none =>
          cases hb : (qus x p.n && fit z.floor) with
          | false =>
            rw [q0d hL es hc hf hb] at h
            injection h with h
            exact .inr (.inr h.symm)
          | true =>
            rw [Bool.and_eq_true] at hb
            rw [qsh hL es hc hf hb.1 hb.2] at h
            cases h
        | some v =>
          cases hb : fit (x v).floor with
          | false =>
            rw [quy hL es hc hf hb] at h
            injection h with h
            exact .inr (.inr h.symm)
          | true =>
            cases h1 : qtq L k (p.side v (x v).floor false) s.tick with
            | error c1 =>
              rw [q8k hL es hc hf hb h1] at h
              injection h with h
              subst h
              exact ih h1
            | ok q1 =>
              obtain ⟨lo, s1⟩ := q1
              cases h2 : qtq L k (p.side v (x v).floor true) s1 with
              | error c2 =>
                rw [q9e hL es hc hf hb h1 h2] at h
                injection h with h
                subst h
                exact ih h2
              | ok q2 =>
                obtain ⟨hi, s2⟩ := q2
                rw [q6g hL es hc hf hb h1 h2] at h
                cases h
theorem qiy {L : Nat} {p : Prob} (hv : qba p = true) (hi : intB p = true) : quu L p = resR (q9d L p) := by unfold quu; rw [if_pos ⟨hv, hi⟩]
theorem q1l {L : Nat} {p : Prob} {y : Nat → Rat} (hL : 0 < L) (hv : qba p = true) (hi : intB p = true) (h : p.sol = .inf y) : quu L p = .fail 17 := by
 rw [qiy hv hi]
 have : q9d L p = .ok (.leaf true p.m y, BS.tick ⟨0, none⟩) := qu9 (by show ¬ L ≤ 0; omega) h
 rw [this]
 exact q2w rfl
theorem q6m {L : Nat} {p : Prob} (hL : 0 < L) (hv : qba p = true) (hi : intB p = true) (h : p.sol = .unb) : quu L p = .fail 18 := by
 rw [qiy hv hi]
 have : q9d L p = .error 18 := q6h (by show ¬ L ≤ 0; omega) h
 rw [this]
 rfl
theorem qnm {L : Nat} {p : Prob} {c : Int} (h : quu L p = .fail c) : c = 3 ∨ c = 13 ∨ c = 18 ∨ c = 2 ∨ c = 17 := by
 unfold quu at h
 split at h
 ·cases hr : q9d L p with
  | error e =>
    rw [hr] at h
    have h : SRes.fail e = .fail c := h
    injection h with h
    subst h
    rcases nodeF_err hr with h | h | h <;> simp [h]
  | ok q =>
    obtain ⟨t, s⟩ := q
    rw [hr] at h
    cases hb : s.best with
    | none =>
      rw [q2w hb] at h
      injection h with h
      simp [← h]
    | some q =>
      obtain ⟨v, x⟩ := q
      rw [qyf hb] at h
      cases h
 ·injection h with h
  exact .inl h.symm
structure Found (L : Nat) (p : Prob) (v : Int) (x : Nat → Int) (t : BT) : Prop where
 feas : p.FeasI x
 obj : p.objI x = (v : Rat)
 fitv : fit v = true
 fitx : ∀ j, j < p.n → fit (x j) = true
 best : ∀ u, p.FeasI u → p.objI u ≤ (v : Rat)
 tree : t.Ok p (some v)
 eq : ∃ s, q9d L p = .ok (t, s) ∧ s.best = some (v, x)
 sol : ∃ z a y, p.sol = .opt z a y ∧ (v : Rat) ≤ z
theorem qyn {L : Nat} {p : Prob} {v : Int} {x : Nat → Int} {t : BT} (hL : 0 < L) (h : quu L p = .done v x t) : Found L p v x t := by
 have hvi : qba p = true ∧ intB p = true := by
  unfold quu at h
  split at h
  ·next hc => exact hc
  ·cases h
 have hv := (validB_iff.1 hvi.1).vrel
 have ho := q26 hvi.2
 have h0 := h
 rw [qiy hvi.1 hvi.2] at h
 cases hr : q9d L p with
 | error e => rw [hr] at h; cases h
 | ok q =>
   obtain ⟨t', s⟩ := q
   rw [hr] at h
   cases hb : s.best with
   | none => rw [q2w hb] at h; cases h
   | some q =>
     obtain ⟨v', x'⟩ := q
     rw [qyf hb] at h
     injection h with e1 e2 e3
     subst e1 e2 e3
     obtain ⟨g1, g2, g3⟩ := qpb hv ho hr
     obtain ⟨a1, a2, a3, a4, a5⟩ := g2 _ _ hb
     refine ⟨a1, a2, a3, a4, a5, ?_, ⟨s, hr, hb⟩, ?_⟩
     ·unfold BS.val at g1
      rw [hb] at g1
      exact g1
     ·cases es : p.sol with
      | inf y => rw [q1l hL hvi.1 hvi.2 es] at h0; cases h0
      | unb => rw [q6m hL hvi.1 hvi.2 es] at h0; cases h0
      | opt z a y =>
        refine ⟨z, a, y, rfl, ?_⟩
        have hI := Prob.is hv
        rw [es] at hI
        rcases hI with ⟨-, -, h⟩ | ⟨h, -⟩ | ⟨h, -⟩
        ·exact h _ ⟨_, a1, a2⟩
        ·cases h
        ·cases h
theorem qx3 {L : Nat} {p : Prob} {v : Int} {x : Nat → Int} {t : BT} (h : quu L p = .done v x t) : intB p = true := by
 unfold quu at h
 split at h
 ·next hc => exact hc.2
 ·cases h
def BT.ct : BT → CT
 | .leaf e m y => .node (-1) 0 e m y .nil .nil
 | .node v f a b => .node (v : Int) f false 0 (fun _ => 0) a.ct b.ct
theorem BT.ct_dep (t : BT) : t.ct.dep ≤ t.size := by
 induction t with
 | leaf e m y => exact Nat.le_refl _
 | node v f a b iha ihb =>
   show 1 + max a.ct.dep b.ct.dep ≤ a.size + b.size + 1
   omega
theorem qmf.treeS {K : Nat} {w : World} {t : BT} {b h : Nat} (x : qmf K w t b h) : qse w t.ct (some ⟨b, 0, none⟩) := by
 induction t generalizing b h with
 | leaf e m y =>
   obtain ⟨-, A, c, h2, h3, -⟩ := x
   exact ⟨b, none, none, A, c, rfl, h2, h3, rfl, rfl⟩
 | node v f a z iha ihz =>
   obtain ⟨bx, hx, bz, h1, h2, h3, h4, h5⟩ := x
   exact ⟨b, _, _, none, 0, rfl, h5, ⟨Nat.le_refl _, by omega, fun h => absurd h (by omega)⟩, iha h2, ihz h4⟩
theorem qmf.ok {K : Nat} {w : World} {t : BT} {b h : Nat} {p : Prob} {V : Option Int} (x : qmf K w t b h) (k : t.Ok p V) (hm : p.m + t.size ≤ 1000) : t.ct.okY K ∧ t.ct.okN := by
 induction t generalizing b h p with
 | leaf e m y =>
   obtain ⟨-, A, c, h2, h3, h4⟩ := x
   have hmm : m = p.m := by cases e with | true => exact k.1 | false => exact k.1
   have hs : (BT.leaf e m y).size = 1 := rfl
   exact ⟨⟨by decide, by omega, h4, trivial, trivial⟩, ⟨by omega, trivial, trivial⟩⟩
 | node v f a z iha ihz =>
   obtain ⟨bx, hx, bz, h1, h2, h3, h4, h5⟩ := x
   obtain ⟨k1, k2, k3, k4⟩ := k
   have hs : (BT.node v f a z).size = a.size + z.size + 1 := rfl
   rw [hs] at hm
   have i1 := iha h2 k3 (by show p.m + 1 + a.size ≤ 1000; omega)
   have i2 := ihz h4 k4 (by show p.m + 1 + z.size ≤ 1000; omega)
   exact ⟨⟨k2, by omega, fun j hj => absurd hj (by omega), i1.1, i2.1⟩, ⟨by omega, i1.2, i2.2⟩⟩
theorem CT.okY_up {K K' : Nat} (h : K ≤ K') {t : CT} (x : t.okY K) : t.okY K' := by
 induction t with
 | nil => trivial
 | node vr fl em n y a b iha ihb => exact ⟨x.1, x.2.1, fun j hj => qqj h (x.2.2.1 j hj), iha x.2.2.2.1, ihb x.2.2.2.2⟩
def Rng (b h k : Nat) : Prop := b ≤ k ∧ k < h
def Part (w : World) (A : Option Addr) (b h K0 K D : Nat) (u : CT) (Au : Option Addr) (bu hu : Nat) : Prop :=
 qjd w u Au bu hu ∧ u.okY K0 ∧ u.okN ∧ ∀ W u', Fr (Rng bu hu) w W → qjd W u' Au bu hu → u'.okY K → u'.okN → u'.dep ≤ u.dep → ∃ t', qjd W t' A b h ∧ t'.okY K ∧ t'.okN ∧ t'.dep ≤ D
theorem Part.whole {w : World} {t : CT} {A : Option Addr} {b h K0 K : Nat} (x : qjd w t A b h) (k : t.okY K0) (n : t.okN) : Part w A b h K0 K t.dep t A b h := ⟨x, k, n, fun W u' _ h1 h2 h3 h4 => ⟨u', h1, h2, h3, h4⟩⟩
theorem Part.self {w : World} {A : Option Addr} {b h K0 K D : Nat} {u : CT} {Au : Option Addr} {bu hu : Nat} (hK : K0 ≤ K) (x : Part w A b h K0 K D u Au bu hu) : ∃ t', qjd w t' A b h ∧ t'.okY K ∧ t'.okN ∧ t'.dep ≤ D :=
 x.2.2.2 w u (Fr.refl _ _) x.1 (CT.okY_up hK x.2.1) x.2.2.1 (Nat.le_refl _)
theorem Part.low {w : World} {A : Option Addr} {b h K0 K D : Nat} {vr fl : Int} {em : Bool} {n : Nat} {y : Nat → Rat} {lo hi : CT} {k m1 m2 bu hu c : Nat} {L H Y : Option Addr}
 (hK : K0 ≤ K) (hk : bu ≤ k) (hk1 : k < m1) (B : Box w k 79 (q89 vr fl L H em Y n c)) (hY : qrr w bu m1 Y n c y) (hl : qjd w lo L m1 m2) (hh : qjd w hi H m2 hu)
 (x : Part w A b h K0 K D (.node vr fl em n y lo hi) (some ⟨k, 0, none⟩) bu hu) : Part w A b h K0 K D lo L m1 m2 := by
 obtain ⟨-, ⟨q1, q2, q3, q4, q5⟩, ⟨r1, r2, r3⟩, hx⟩ := x
 have l1 := hl.le
 have l2 := hh.le
 refine ⟨hl, q4, r2, fun W u' hF hu' o1 o2 o3 => hx W (.node vr fl em n y u' hi) (hF.weak (fun i hi => ⟨by have := hi.1; omega, by have := hi.2; omega⟩)) ?_ ⟨q1, q2, fun j hj => qqj hK (q3 j hj), o1, CT.okY_up hK q5⟩ ⟨r1, o2, r3⟩ ?_⟩
 ·exact ⟨k, L, H, Y, c, m1, m2, rfl, hk, hk1, hF.box B (fun e => by have := e.1; omega), hY.fr hF (fun i _ h2 e => by have := e.1; omega), hu', hh.fr hF (fun i h1 _ e => by have := e.2; omega)⟩
 ·show 1 + max u'.dep hi.dep ≤ 1 + max lo.dep hi.dep
  omega
theorem Part.high {w : World} {A : Option Addr} {b h K0 K D : Nat} {vr fl : Int} {em : Bool} {n : Nat} {y : Nat → Rat} {lo hi : CT} {k m1 m2 bu hu c : Nat} {L H Y : Option Addr}
 (hK : K0 ≤ K) (hk : bu ≤ k) (hk1 : k < m1) (B : Box w k 79 (q89 vr fl L H em Y n c)) (hY : qrr w bu m1 Y n c y) (hl : qjd w lo L m1 m2) (hh : qjd w hi H m2 hu)
 (x : Part w A b h K0 K D (.node vr fl em n y lo hi) (some ⟨k, 0, none⟩) bu hu) : Part w A b h K0 K D hi H m2 hu := by
 obtain ⟨-, ⟨q1, q2, q3, q4, q5⟩, ⟨r1, r2, r3⟩, hx⟩ := x
 have l1 := hl.le
 have l2 := hh.le
 refine ⟨hh, q5, r3, fun W u' hF hu' o1 o2 o3 => hx W (.node vr fl em n y lo u') (hF.weak (fun i hi => ⟨by have := hi.1; omega, by have := hi.2; omega⟩)) ?_ ⟨q1, q2, fun j hj => qqj hK (q3 j hj), CT.okY_up hK q4, o1⟩ ⟨r1, r2, o2⟩ ?_⟩
 ·exact ⟨k, L, H, Y, c, m1, m2, rfl, hk, hk1, hF.box B (fun e => by have := e.1; omega), hY.fr hF (fun i _ h2 e => by have := e.1; omega), hl.fr hF (fun i _ h2 e => by have := e.1; omega), hu'⟩
 ·show 1 + max lo.dep u'.dep ≤ 1 + max lo.dep hi.dep
  omega
theorem Part.change {w W : World} {A : Option Addr} {b h K0 K D : Nat} {vr fl : Int} {em : Bool} {n j : Nat} {y : Nat → Rat} {q : Rat} {lo hi : CT} {k m1 m2 bu hu c g : Nat} {L H : Option Addr}
 (hK : K0 ≤ K) (hk : bu ≤ k) (hk1 : k < m1) (B : Box w k 79 (q89 vr fl L H em (some ⟨g, 0, none⟩) n c)) (hY : qrr w bu m1 (some ⟨g, 0, none⟩) n c y) (hn : 0 < n) (hl : qjd w lo L m1 m2) (hh : qjd w hi H m2 hu)
 (x : Part w A b h K0 K D (.node vr fl em n y lo hi) (some ⟨k, 0, none⟩) bu hu) (hF : Fr (fun i => i = g) w W) (hR : RowR W g n (fun i => if i = j then q else y i)) (hq : QB K q) : ∃ t', qjd W t' A b h ∧ t'.okY K ∧ t'.okN ∧ t'.dep ≤ D := by
 obtain ⟨-, ⟨q1, q2, q3, q4, q5⟩, ⟨r1, r2, r3⟩, hx⟩ := x
 have l1 := hl.le
 have l2 := hh.le
 have g1 := hY.2 hn g rfl
 have g0 : bu ≤ g := by
  obtain ⟨g', e, hr, hb⟩ := hY.1.2.2 hn
  injection e with e
  injection e with e
  omega
 have hkg : k ≠ g := by
  rintro rfl
  obtain ⟨g', e, hr, hb⟩ := hY.1.2.2 hn
  injection e with e
  injection e with e
  subst e
  obtain ⟨cs, hc, -⟩ := hr
  unfold Box at B
  rw [B] at hc
  injection hc with hc
  injection hc with _ hc
  exact absurd hc (by decide)
 refine hx W (.node vr fl em n (fun i => if i = j then q else y i) lo hi) (hF.weak (fun i e => ⟨by omega, by omega⟩)) ?_ ⟨q1, q2, fun i hi => ?_, CT.okY_up hK q4, CT.okY_up hK q5⟩ ⟨r1, r2, r3⟩ (Nat.le_refl _)
 ·exact ⟨k, L, H, some ⟨g, 0, none⟩, c, m1, m2, rfl, hk, hk1, hF.box B hkg, ⟨⟨hY.1.1, hY.1.2.1, fun _ => ⟨g, rfl, hR, g0⟩⟩, hY.2⟩, hl.fr hF (fun i h1 _ e => by omega), hh.fr hF (fun i h1 _ e => by omega)⟩
 ·show QB K (if i = j then q else y i)
  split
  ·exact hq
  ·exact qqj hK (q3 i hi)
end Go.Proofs.YtljncdcjkdgkeaaGreatDoor.Lp

/- Walk: the law's same. -/
import Derived.Test.YtljncdcjkdgkeaaGreatDoorKW17
import Derived.Test.YtljncdcjkdgkeaaGreatDoorKCYB
import Derived.Test.YtljncdcjkdgkeaaGreatDoorKCDB
set_option linter.unusedVariables false
set_option linter.unusedSimpArgs false
namespace Go.Proofs.YtljncdcjkdgkeaaGreatDoor.Dc
open Go.RowKit Go.Proofs.YtljncdcjkdgkeaaGreatDoor.Big Go.Proofs.YtljncdcjkdgkeaaGreatDoor.Lp Go.Proofs.YtljncdcjkdgkeaaGreatDoor.Rt

def TruP (w : World) (e : Ending) (w' : World) : Prop := e = .returned (.bool true) ∧ Ext w w'
set_option maxHeartbeats 4000000 in
set_option maxRecDepth 100000 in
theorem same_node (w : World) (ka kb d n ca cb : Nat) (vr fl : Int) (em : Bool) (La Ha Ya Lb Hb Yb : Option Addr) (y z : Nat → Rat) (NA : Box w ka 79 (NodeC vr fl La Ha em Ya n ca)) (NB : Box w kb 79 (NodeC vr fl Lb Hb em Yb n cb)) (hYa : RatsV w Ya n ca y) (hYb : RatsV w Yb n cb z) (hn : n ≤ 1000) (hq : ∀ j, j < n → QB 2 (y j)) (hyz : ∀ j, j < n → y j = z j) (hd : d ≤ 199)
    (H1 : ∀ W, Ext w W → Calls Tryz.prog 26 #[.pointer La, .pointer Lb, .int .i64 ((d : Int) + 1)] W (TruP W))
    (H2 : ∀ W, Ext w W → Calls Tryz.prog 26 #[.pointer Ha, .pointer Hb, .int .i64 ((d : Int) + 1)] W (TruP W)) :
    Calls Tryz.prog 26 #[.pointer (some ⟨ka, 0, none⟩), .pointer (some ⟨kb, 0, none⟩), .int .i64 (d : Int)] w (TruP w) := by
  have HH1 := Lib.hid H1
  have HH2 := Lib.hid H2
  have HQ := Lib.hid hq
  have HYZ := Lib.hid hyz
  clear H1 H2 hq hyz
  have hna : ∀ W, (binOp BinOp.eql 25 (.pointer (some ⟨ka, 0, none⟩)) (.pointer none)).run Tryz.prog W = .ok (.bool false) W := fun _ => by kernel_rfl
  have hnb : ∀ W, (binOp BinOp.eql 25 (.pointer (some ⟨kb, 0, none⟩)) (.pointer none)).run Tryz.prog W = .ok (.bool false) W := fun _ => by kernel_rfl
  have e200 : decide ((200 : Int) < (d : Int)) = false := by simp; omega
  have r1 : IntKind.i64.wrap ((d : Int) + 1) = (d : Int) + 1 := IntWalk.i64_in _ (by omega)
  have a0 : w.cell? ⟨ka, 0, none⟩ = some (.int .i64 vr) := NA.cell 0
  have a1 : w.cell? ⟨ka, 1, none⟩ = some (.int .i64 fl) := NA.cell 1
  have a4 : w.cell? ⟨ka, 4, none⟩ = some (.bool em) := NA.cell 4
  have a5 : w.cell? ⟨ka, 5, none⟩ = some (.slice Ya n ca) := NA.cell 5
  have b0 : w.cell? ⟨kb, 0, none⟩ = some (.int .i64 vr) := NB.cell 0
  have b1 : w.cell? ⟨kb, 1, none⟩ = some (.int .i64 fl) := NB.cell 1
  have b4 : w.cell? ⟨kb, 4, none⟩ = some (.bool em) := NB.cell 4
  have b5 : w.cell? ⟨kb, 5, none⟩ = some (.slice Yb n cb) := NB.cell 5
  go_enter Tryz.func26, Tryz.ntmps26
  go_upto_region 3 with fail
  go_cut [67] (fun v wx => v = .bool false ∧ Ext w wx)
  case first =>
    go_quiet (fail)
    go_wp2_with fail
    go_meet
    exact ⟨by simp, (Ext.refl w).drewN _⟩
  case rest =>
  rename_i hK
  obtain ⟨rfl, hxc⟩ := hcut
  refine hK _ _ ?_
  clear hK a0 a1 a4 a5 b0 b1 b4 b5 hna hnb e200
  go_wp2_with fail
  go_loopw [7] (fun iv wr => ∃ k : Nat, k ≤ n ∧ iv = .int .i64 k ∧ Ext w wr) (fun iv _ => n - (intOf iv).toNat)
  case atStart => exact ⟨0, by omega, rfl, hxc⟩
  case round =>
    clear hxc
    obtain ⟨k, hk, rfl, hxr⟩ := hrel
    have NAr := NA.ext hxr
    have NBr := NB.ext hxr
    have a5 : wr.cell? ⟨ka, 5, none⟩ = some (.slice Ya n ca) := NAr.cell 5
    have b5 : wr.cell? ⟨kb, 5, none⟩ = some (.slice Yb n cb) := NBr.cell 5
    by_cases hlt : k < n
    · obtain ⟨ya, rfl, hra⟩ := hYa.2.2 (by omega)
      obtain ⟨yb, rfl, hrb⟩ := hYb.2.2 (by omega)
      obtain ⟨p, B1, m1, d1, p', B1', m1', d1', q0, q1, q2, q3, hr⟩ := hra.at hlt
      obtain ⟨s, C1, n1, f1, s', C1', n1', f1', g0, g1, g2, g3, hs⟩ := hrb.at hlt
      have hrB : RatB wr (.agg #[.bool p, .slice B1 m1 d1, .bool p', .slice B1' m1' d1']) (y k) 2 := ⟨hr.ext hxr, HQ.out k hlt⟩
      have hsB : RatB wr (.agg #[.bool s, .slice C1 n1 f1, .bool s', .slice C1' n1' f1']) (z k) 2 := ⟨hs.ext hxr, by rw [← HYZ.out k hlt]; exact HQ.out k hlt⟩
      have HC : Hid (∀ W, Ext wr W → Calls Tryz.prog 23 #[.agg #[.bool p, .slice B1 m1 d1, .bool p', .slice B1' m1' d1'], .agg #[.bool s, .slice C1 n1 f1, .bool s', .slice C1' n1' f1']] W (fun e w' => e = .returned (.int .i64 0) ∧ Ext W w')) := Lib.hid (fun W hW => by
        have := RatCmp_b _ _ (y k) (z k) 2 2 W (hrB.ext hW) (hsB.ext hW) (by decide)
        rw [HYZ.out k hlt, cmpQ_self] at this
        exact this)
      have i5 : (0 : Int) ≤ (k : Int) := by omega
      have i6 : (k : Int) < (n : Int) := by omega
      have ka5 : ∀ w', Later wr w' → w'.cell? ⟨ka, 5, none⟩ = some (.slice (some ⟨ya, 0, none⟩) n ca) := fun w' h => Ext.cell h a5
      have kb5 : ∀ w', Later wr w' → w'.cell? ⟨kb, 5, none⟩ = some (.slice (some ⟨yb, 0, none⟩) n cb) := fun w' h => Ext.cell h b5
      have k0 : ∀ w', Later wr w' → w'.cell? ⟨ya, k * 4, none⟩ = some (.bool p) := fun w' h => Ext.cell h (hxr.cell q0)
      have k1 : ∀ w', Later wr w' → w'.cell? ⟨ya, k * 4 + 1, none⟩ = some (.slice B1 m1 d1) := fun w' h => Ext.cell h (hxr.cell q1)
      have k2 : ∀ w', Later wr w' → w'.cell? ⟨ya, k * 4 + 2, none⟩ = some (.bool p') := fun w' h => Ext.cell h (hxr.cell q2)
      have k3 : ∀ w', Later wr w' → w'.cell? ⟨ya, k * 4 + 3, none⟩ = some (.slice B1' m1' d1') := fun w' h => Ext.cell h (hxr.cell q3)
      have l0 : ∀ w', Later wr w' → w'.cell? ⟨yb, k * 4, none⟩ = some (.bool s) := fun w' h => Ext.cell h (hxr.cell g0)
      have l1 : ∀ w', Later wr w' → w'.cell? ⟨yb, k * 4 + 1, none⟩ = some (.slice C1 n1 f1) := fun w' h => Ext.cell h (hxr.cell g1)
      have l2 : ∀ w', Later wr w' → w'.cell? ⟨yb, k * 4 + 2, none⟩ = some (.bool s') := fun w' h => Ext.cell h (hxr.cell g2)
      have l3 : ∀ w', Later wr w' → w'.cell? ⟨yb, k * 4 + 3, none⟩ = some (.slice C1' n1' f1') := fun w' h => Ext.cell h (hxr.cell g3)
      have ks := Later.refl wr
      clear q0 q1 q2 q3 g0 g1 g2 g3 hr hs hrB hsB hra hrb a5 b5
      go_wp2_with fail
      go_region_held3 (fun w' => Later wr w') ((repeat (first | (with_reducible assumption) | (with_reducible apply Later.drew) | (with_reducible apply Later.drewN)))) (first
        | (go_at_call 23; (with_reducible refine (HC.out _ (by repeat (first | (with_reducible exact Ext.refl _) | (with_reducible apply Ext.drew) | (with_reducible apply Ext.drewN)))).mono ?_); rintro e1 w4 ⟨rfl, hx4⟩; (have hy4 : Ext wr w4 := Ext.trans (by repeat (first | (with_reducible exact Ext.refl _) | (with_reducible apply Ext.drew) | (with_reducible apply Ext.drewN))) hx4); (have hL4 : Later wr w4 := hy4)))
      all_goals (
        go_wp2_with fail
        go_roundw
        case rel => exact ⟨k + 1, by omega, by go_num, hxr.trans hy4⟩
        case measure => simp [intOf]; omega)
    · obtain rfl : k = n := by omega
      have a2 : ∀ w', Later wr w' → w'.cell? ⟨ka, 2, none⟩ = some (.pointer La) := fun w' h => Ext.cell h (NAr.cell 2)
      have a3 : ∀ w', Later wr w' → w'.cell? ⟨ka, 3, none⟩ = some (.pointer Ha) := fun w' h => Ext.cell h (NAr.cell 3)
      have b2 : ∀ w', Later wr w' → w'.cell? ⟨kb, 2, none⟩ = some (.pointer Lb) := fun w' h => Ext.cell h (NBr.cell 2)
      have b3 : ∀ w', Later wr w' → w'.cell? ⟨kb, 3, none⟩ = some (.pointer Hb) := fun w' h => Ext.cell h (NBr.cell 3)
      have ks := Later.refl wr
      go_upto_region 10 with fail
      go_region_held3 (fun w' => Later wr w') ((repeat (first | (with_reducible assumption) | (with_reducible apply Later.drew) | (with_reducible apply Later.drewN)))) (first
        | (go_at_call 26; (with_reducible refine (HH1.out _ (Ext.trans hxr (by repeat (first | (with_reducible exact Ext.refl _) | (with_reducible apply Ext.drew) | (with_reducible apply Ext.drewN))))).mono ?_); rintro e1 w4 ⟨rfl, hx4⟩; (have hy4 : Ext wr w4 := Ext.trans (by repeat (first | (with_reducible exact Ext.refl _) | (with_reducible apply Ext.drew) | (with_reducible apply Ext.drewN))) hx4); (have hL4 : Later wr w4 := hy4))
        | (go_at_call 26; (with_reducible refine (HH2.out _ (Ext.trans hxr (Ext.trans hy4 (by repeat (first | (with_reducible exact Ext.refl _) | (with_reducible apply Ext.drew) | (with_reducible apply Ext.drewN)))))).mono ?_); rintro e1 w5 ⟨rfl, hx5⟩; (have hy5 : Ext wr w5 := Ext.trans hy4 (Ext.trans (by repeat (first | (with_reducible exact Ext.refl _) | (with_reducible apply Ext.drew) | (with_reducible apply Ext.drewN))) hx5)); (have hL5 : Later wr w5 := hy5)))
      all_goals (
        go_wp2_with fail
        go_ret
        exact ⟨rfl, hxr.trans hy5⟩)
theorem same_b : ∀ (t u : CT) (A B : Option Addr) (b h b' h' d : Nat) (w : World), TreeI w t A b h → TreeI w u B b' h' → eqT t u → t.okY 2 → d + t.dep ≤ 200 → Calls Tryz.prog 26 #[.pointer A, .pointer B, .int .i64 (d : Int)] w (TruP w) := by
  intro t
  induction t with
  | nil =>
    intro u A B b h b' h' d w hT hU he hok hd
    cases u with
    | node => exact he.elim
    | nil =>
      obtain ⟨rfl, -⟩ := hT
      obtain ⟨rfl, -⟩ := hU
      go_enter Tryz.func26, Tryz.ntmps26
      go_wp2_with fail
      go_ret
      exact ⟨rfl, Ext.refl _⟩
  | node vr fl em n y lo hi iha ihb =>
    intro u A B b h b' h' d w hT hU he hok hd
    cases u with
    | nil => exact he.elim
    | node vr' fl' em' n' z lo' hi' =>
      obtain ⟨rfl, rfl, rfl, rfl, hyz, hlo', hhi'⟩ := he
      obtain ⟨k, L, H, Y, c, m1, m2, rfl, h1, h2, NA, hY, hlo, hhi⟩ := hT
      obtain ⟨k', L', H', Y', c', m1', m2', rfl, h1', h2', NB, hY', hlo2, hhi2⟩ := hU
      obtain ⟨o1, o2, o3, o4, o5⟩ := hok
      have hdd : (CT.node vr fl em n y lo hi).dep = 1 + max lo.dep hi.dep := rfl
      rw [hdd] at hd
      refine same_node w k k' d n c c' vr fl em L H Y L' H' Y' y z NA NB hY.1.rats hY'.1.rats o2 o3 hyz (by omega) (fun W hW => ?_) (fun W hW => ?_)
      · have := iha lo' L L' m1 m2 m1' m2' (d + 1) W (hlo.ext hW) (hlo2.ext hW) hlo' o4 (by omega)
        rw [show ((d + 1 : Nat) : Int) = (d : Int) + 1 by omega] at this
        exact this
      · have := ihb hi' H H' m2 h m2' h' (d + 1) W (hhi.ext hW) (hhi2.ext hW) hhi' o5 (by omega)
        rw [show ((d + 1 : Nat) : Int) = (d : Int) + 1 by omega] at this
        exact this
end Go.Proofs.YtljncdcjkdgkeaaGreatDoor.Dc

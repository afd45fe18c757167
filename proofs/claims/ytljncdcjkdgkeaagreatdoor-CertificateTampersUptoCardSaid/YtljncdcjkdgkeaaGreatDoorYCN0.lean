/- Walk: number. -/
import Derived.Test.YtljncdcjkdgkeaaGreatDoorYLN3
set_option linter.unusedVariables false
set_option linter.unusedSimpArgs false
namespace Go.Proofs.YtljncdcjkdgkeaaGreatDoor.Lp
open Go.RowKit Go.Proofs.YtljncdcjkdgkeaaGreatDoor.Big Go.Proofs.YtljncdcjkdgkeaaGreatDoor.Rt
def qn4 (n : Int) (d : Nat) : Rat := Rat.divInt n (1 + ((d % 4 : Nat) : Int))
set_option maxHeartbeats 4000000 in
theorem number4_b (n : Int) (d : Nat) (w : World) (hn : in32 n) (hd : d ≤ 255) : Calls Tryz.prog 54 #[.int .i32 n, .int .u8 (d : Int)] w (q3z w (qn4 n d) 2) := by
 obtain ⟨Q, hQ⟩ : ∃ Q, Q = qn4 n d := ⟨_, rfl⟩
 rw [← hQ]
 obtain ⟨m, hm⟩ : ∃ m : Int, m = 1 + ((d % 4 : Nat) : Int) := ⟨_, rfl⟩
 have hm0 : 0 < m := by omega
 have hm1 : m < 5 := by omega
 have HQ : Hid (Q = Rat.divInt n m) := Lib.hid (by rw [hQ, hm]; rfl)
 have B0 := Box.new w 58 #[.bool false, .slice none 0 0, .bool false, .slice none 0 0]
 have hE0 : Ext w (w.alloc (.cells #[.bool false, .slice none 0 0, .bool false, .slice none 0 0] 58)) := (Ext.refl w).alloc _
 obtain ⟨n1, n2⟩ := hn
 go_enter Tryz.func54, Tryz.ntmps54
 go_upto_region 1 with fail
 generalize (w.alloc (.cells #[.bool false, .slice none 0 0, .bool false, .slice none 0 0] 58)) = V at *
 go_wp2_with fail
 refine (q6i _ _ _ (by omega) (by omega) (by omega) (by omega) (by omega)).mono ?_
 rintro e w1 ⟨v1, rfl, hb1, hx1⟩
 obtain ⟨p1, A1, m1, c1, p1', A1', m1', c1', rfl⟩ := hb1.1.shape
 rw [show Rat.divInt n (1 + (d : Int) % 4) = Q by rw [HQ.out, hm]; congr 1] at hb1
 have hE1 := hE0.trans hx1
 have B1 := B0.ext hx1
 go_upto_region 2 with fail
 have B5 := Box.new w1 58 #[.bool p1, .slice A1 m1 c1, .bool p1', .slice A1' m1' c1']
 have hE5 : Ext w1 (w1.alloc (.cells #[.bool p1, .slice A1 m1 c1, .bool p1', .slice A1' m1' c1'] 58)) := (Ext.refl w1).alloc _
 generalize (w1.alloc (.cells #[.bool p1, .slice A1 m1 c1, .bool p1', .slice A1' m1' c1'] 58)) = U at *
 have B2 := B1.ext hE5
 have hb2 := hb1.ext hE5
 have hE := hE1.trans hE5
 have x0 := B5.c0
 have x1 := B5.c1
 have x2 := B5.c2
 have x3 := B5.c3
 have z0 := B2.c0
 have z1 := B2.c1
 have z2 := B2.c2
 have z3 := B2.c3
 have f0 := B2.frozen 0
 have f1 := B2.frozen 1
 have f2 := B2.frozen 2
 have f3 := B2.frozen 3
 go_wp2_with fail
 obtain ⟨pp, pb⟩ := RatV.put hb2.1 B2
 have pc0 := pb.c0
 have pc1 := pb.c1
 have pc2 := pb.c2
 have pc3 := pb.c3
 refine bodyPost_ret (v := .agg #[.bool p1, .slice A1 m1 c1, .bool p1', .slice A1' m1' c1']) (by simp [results, Tryz.results54, go_sem, pc0, pc1, pc2, pc3]) rfl ?_
 exact ⟨_, rfl, ⟨pp, hb2.2⟩, (((hE.set (by simp) _).set (by simp) _).set (by simp) _).set (by simp) _⟩
end Go.Proofs.YtljncdcjkdgkeaaGreatDoor.Lp

/- Walk: proves of the laws of ilp, at an inner node. -/
import Derived.Test.YthafabkjidifeaaIBR
import Derived.Test.YthafabkjidifeaaIN1
set_option linter.unusedVariables false
set_option linter.unusedSimpArgs false
namespace Go.Proofs.Ythafabkjidifeaa.Lp
open Go.RowKit Go.Proofs.Ythafabkjidifeaa.Big Go.Proofs.Ythafabkjidifeaa.Rt

/-- the count's block -/
def PLb (lb k : Nat) : Prop := k = lb
/-- what proves leaves: the count N -/
def PvPost (lb N : Nat) (w : World) (e : Ending) (w' : World) : Prop := e = .returned (.bool true) ∧ Box w' lb 3 #[.int .i64 (N : Int)] ∧ Fr (PLb lb) w w'
theorem Box.neE {w : World} {b b' : Nat} {E E' : TypeId} {cs cs' : Array Value} (h : Box w b E cs) (h' : Box w b' E' cs') (hE : E ≠ E') : b ≠ b' := fun e => by
  subst e
  unfold Box at h h'
  rw [h] at h'
  injection h' with h'
  injection h' with h1 h2
  exact hE h2
set_option maxHeartbeats 2000000 in
set_option maxRecDepth 100000 in
theorem proves_node (x : Value) (p : Prob) (v : Nat) (f V : Int) (bx bz nb lb a b N2 N : Nat) (w : World) (hx : ProbV w x p) (hval : validB p = true) (hv : v < p.n) (hf : fit f = true) (NB : Box w nb 95 (NodeC v f (some ⟨bx, 0, none⟩) (some ⟨bz, 0, none⟩) false none 0 0)) (LB : Box w lb 3 #[.int .i64 (a : Int)]) (ha : a = b + 1) (hb : b ≤ 1000000)
    (H1 : ∀ W y, Fr (PLb lb) w W → Box W lb 3 #[.int .i64 (b : Int)] → ProbV W y (p.side v f false) → Calls Try.prog 25 #[y, .pointer (some ⟨bx, 0, none⟩), .int .i64 V, .pointer (some ⟨lb, 0, none⟩)] W (PvPost lb N2 W))
    (H2 : ∀ W y, Fr (PLb lb) w W → Box W lb 3 #[.int .i64 (N2 : Int)] → ProbV W y (p.side v f true) → Calls Try.prog 25 #[y, .pointer (some ⟨bz, 0, none⟩), .int .i64 V, .pointer (some ⟨lb, 0, none⟩)] W (PvPost lb N W)) :
    Calls Try.prog 25 #[x, .pointer (some ⟨nb, 0, none⟩), .int .i64 V, .pointer (some ⟨lb, 0, none⟩)] w (PvPost lb N w) := by
  have HH1 := Lib.hid H1
  have HH2 := Lib.hid H2
  have r1 : IntKind.i64.wrap ((a : Int) - 1) = (b : Int) := by rw [show (a : Int) - 1 = (b : Int) by omega]; exact IntWalk.i64_in _ (by omega)
  clear H1 H2 ha
  obtain ⟨Ao, co, Ar, cr, rfl, -⟩ := id hx
  have PB := Box.new w 39 #[.slice Ao p.n co, .slice Ar p.m cr]
  have hE0 : Ext w (w.alloc (.cells #[.slice Ao p.n co, .slice Ar p.m cr] 39)) := (Ext.refl w).alloc _
  have hlw := LB.lt
  have hnl : nb ≠ lb := Box.neE (E := 95) (E' := 3) NB LB (by decide)
  go_enter Try.func25, Try.ntmps25
  go_upto_region 1 with fail
  generalize (w.alloc (.cells #[.slice Ao p.n co, .slice Ar p.m cr] 39)) = V0 at *
  obtain ⟨pb, hpb⟩ : ∃ x, x = w.heap.size := ⟨_, rfl⟩
  rw [← hpb] at PB ⊢
  have hpl : pb ≠ lb := by omega
  clear hpb
  have LB0 := LB.ext hE0
  have l0 := LB0.c0
  have z0 := LB0.frozen 0
  have hnz : ∀ W, (binOp BinOp.eql 30 (.pointer (some ⟨nb, 0, none⟩)) (.pointer none)).run Try.prog W = .ok (.bool false) W := fun _ => by kernel_rfl
  go_upto_region 2 with fail
  have hF : Fr (PLb lb) V0 (V0.setCell ⟨lb, 0, none⟩ (.int .i64 b)) := (Fr.refl (PLb lb) V0).set (p := ⟨lb, 0, none⟩) (show lb = lb from rfl) (fun z => by rw [l0]; intro e; cases e) _
  have LB1 : Box (V0.setCell ⟨lb, 0, none⟩ (.int .i64 b)) lb 3 #[.int .i64 b] := LB0.set 0 _
  have hF1 : Fr (PLb lb) w (V0.setCell ⟨lb, 0, none⟩ (.int .i64 b)) := (Fr.of hE0).trans hF
  have PB1 := PB.far (p := ⟨lb, 0, none⟩) hpl (.int .i64 b)
  have hx1 := (hx.ext hE0).frB hF (E := 3) (by decide) LB0
  have NB1 := hF.box (NB.ext hE0) hnl
  clear l0 z0 hF LB0 PB hE0 hx
  generalize (V0.setCell ⟨lb, 0, none⟩ (.int .i64 b)) = V1 at *
  have l0 := LB1.c0
  have hne : ∀ W c, (binOp BinOp.neq 30 (.pointer (some ⟨c, 0, none⟩)) (.pointer none)).run Try.prog W = .ok (.bool true) W := fun _ _ => by kernel_rfl
  have i0 : decide ((b : Int) < 0) = false := by simp
  have i1 : decide ((0 : Int) ≤ (v : Int)) = true := by simp
  have i2 : decide (v < p.n) = true := by simpa using hv
  go_upto_region 4 with fail
  clear hnz l0
  have k0 : ∀ w', Fr (PLb lb) V1 w' → w'.cell? ⟨nb, 0, none⟩ = some (.int .i64 (v : Int)) := fun w' h => (h.box NB1 hnl).cell 0
  have k1 : ∀ w', Fr (PLb lb) V1 w' → w'.cell? ⟨nb, 1, none⟩ = some (.int .i64 f) := fun w' h => (h.box NB1 hnl).cell 1
  have k2 : ∀ w', Fr (PLb lb) V1 w' → w'.cell? ⟨nb, 2, none⟩ = some (.pointer (some ⟨bx, 0, none⟩)) := fun w' h => (h.box NB1 hnl).cell 2
  have k3 : ∀ w', Fr (PLb lb) V1 w' → w'.cell? ⟨nb, 3, none⟩ = some (.pointer (some ⟨bz, 0, none⟩)) := fun w' h => (h.box NB1 hnl).cell 3
  have k4 : ∀ w', Fr (PLb lb) V1 w' → w'.cell? ⟨nb, 4, none⟩ = some (.bool false) := fun w' h => (h.box NB1 hnl).cell 4
  have k5 : ∀ w', Fr (PLb lb) V1 w' → w'.cell? ⟨nb, 5, none⟩ = some (.slice none 0 0) := fun w' h => (h.box NB1 hnl).cell 5
  have k6 : ∀ w', Fr (PLb lb) V1 w' → w'.cell? ⟨pb, 0, none⟩ = some (.slice Ao p.n co) := fun w' h => (h.box PB1 hpl).c0
  have k7 : ∀ w', Fr (PLb lb) V1 w' → w'.cell? ⟨pb, 1, none⟩ = some (.slice Ar p.m cr) := fun w' h => (h.box PB1 hpl).c1
  have HX : Hid (∀ W, Fr (PLb lb) V1 W → ProbV W (.agg #[.slice Ao p.n co, .slice Ar p.m cr]) p) := Lib.hid (fun W h => hx1.frB h (E := 3) (by decide) LB1)
  have ks := Fr.refl (PLb lb) V1
  go_wp2_with fail
  dsimp only [List.append]
  clear hx1 NB1 PB1
  go_region_held3 (fun w' => Fr (PLb lb) V1 w') ((repeat (first | (with_reducible assumption) | (with_reducible apply Fr.drew) | (with_reducible apply Fr.drewN)))) (first
    | (go_at_call 26; (with_reducible refine (Branch_b _ p v f false _ (HX.out _ (by repeat (first | (with_reducible assumption) | (with_reducible exact Fr.refl _ _) | (with_reducible apply Fr.drew) | (with_reducible apply Fr.drewN)))) hval hv hf).mono ?_); rintro e wa ⟨y1, rfl, hy1, hxa⟩; (have LBa := LB1.ext (Ext.trans (by repeat (first | (with_reducible exact Ext.refl _) | (with_reducible apply Ext.drew) | (with_reducible apply Ext.drewN))) hxa)); (have hFa : Fr (PLb lb) V1 wa := Fr.trans (by repeat (first | (with_reducible assumption) | (with_reducible exact Fr.refl _ _) | (with_reducible apply Fr.drew) | (with_reducible apply Fr.drewN))) (Fr.of hxa)))
    | (go_at_call 26; (with_reducible refine (Branch_b _ p v f true _ (HX.out _ (by repeat (first | (with_reducible assumption) | (with_reducible exact Fr.refl _ _) | (with_reducible apply Fr.drew) | (with_reducible apply Fr.drewN)))) hval hv hf).mono ?_); rintro e wc ⟨y2, rfl, hy2, hxc⟩; (have LBc := LBb.ext (Ext.trans (by repeat (first | (with_reducible exact Ext.refl _) | (with_reducible apply Ext.drew) | (with_reducible apply Ext.drewN))) hxc)); (have hFc : Fr (PLb lb) V1 wc := Fr.trans (by repeat (first | (with_reducible assumption) | (with_reducible exact Fr.refl _ _) | (with_reducible apply Fr.drew) | (with_reducible apply Fr.drewN))) (Fr.of hxc)))
    | (go_at_call 25; (with_reducible refine (HH1.out _ y1 (hF1.trans (by repeat (first | (with_reducible assumption) | (with_reducible exact Fr.refl _ _) | (with_reducible apply Fr.drew) | (with_reducible apply Fr.drewN)))) (LBa.ext (by repeat (first | (with_reducible exact Ext.refl _) | (with_reducible apply Ext.drew) | (with_reducible apply Ext.drewN)))) (hy1.ext (by repeat (first | (with_reducible exact Ext.refl _) | (with_reducible apply Ext.drew) | (with_reducible apply Ext.drewN))))).mono ?_); rintro e wb ⟨rfl, LBb, hFb0⟩; (have hFb : Fr (PLb lb) V1 wb := Fr.trans (by repeat (first | (with_reducible assumption) | (with_reducible exact Fr.refl _ _) | (with_reducible apply Fr.drew) | (with_reducible apply Fr.drewN))) hFb0))
    | (go_at_call 25; (with_reducible refine (HH2.out _ y2 (hF1.trans (by repeat (first | (with_reducible assumption) | (with_reducible exact Fr.refl _ _) | (with_reducible apply Fr.drew) | (with_reducible apply Fr.drewN)))) (LBc.ext (by repeat (first | (with_reducible exact Ext.refl _) | (with_reducible apply Ext.drew) | (with_reducible apply Ext.drewN)))) (hy2.ext (by repeat (first | (with_reducible exact Ext.refl _) | (with_reducible apply Ext.drew) | (with_reducible apply Ext.drewN))))).mono ?_); rintro e wd ⟨rfl, LBd, hFd0⟩; (have hFd : Fr (PLb lb) V1 wd := Fr.trans (by repeat (first | (with_reducible assumption) | (with_reducible exact Fr.refl _ _) | (with_reducible apply Fr.drew) | (with_reducible apply Fr.drewN))) hFd0))
    )
  all_goals (
    clear k0 k1 k2 k3 k4 k5 k6 k7
    have hF7 := hF1.trans hFd
    go_wp2_with fail
    go_ret
    exact ⟨rfl, LBd, hF7⟩)
end Go.Proofs.Ythafabkjidifeaa.Lp

/- The law CertificateTampers answers true for every problem and choice of a change that hold together at most 1048576 values, and leaves its arguments as they were: the card. -/
import Derived.Test.YtljncdcjkdgkeaaGreatDoorTie
import Derived.Test.YtljncdcjkdgkeaaGreatDoorYSBC
import Derived.Test.YtljncdcjkdgkeaaGreatDoorYCardU
import Derived.Test.YtljncdcjkdgkeaaGreatDoorCards
set_option linter.unusedVariables false
set_option linter.unusedSimpArgs false
namespace Go.Proofs.YtljncdcjkdgkeaaGreatDoor.Big
open Go.ChangeShapes Go.WideShapes Go.ChangeAt Go.RowKit Go.Proofs.YtljncdcjkdgkeaaGreatDoor.Lp
def laidAllT : List (String × DataW Unit) := Rows.certificateTampersRow.laid
theorem laidPowT : laidAllT.filter (fun x => x.1 == "internal/strconv.uint64pow10") = [("internal/strconv.uint64pow10", Lib.tabData .u64 Lib.pow10Tab)] := by kernel_rfl
theorem tab_of_laidT {W : World} (h : laidMetH Tryz.prog laidAllT W) : TabOK W := by
 have h : laidMet Tryz.prog laidAllT W := h
 have h1 := h.filter (fun x => x.1 == "internal/strconv.uint64pow10")
 rw [laidPowT] at h1
 exact Lib.tabIs_of_head (rest := []) gPow gPowType Tryz.underlying208 Tryz.underlying145 cellsU64 cellsPow h1
end Go.Proofs.YtljncdcjkdgkeaaGreatDoor.Big
namespace Go.Proofs.YtljncdcjkdgkeaaGreatDoor.certificateTampers
open Go.ChangeShapes Go.WideShapes Go.ChangeAt Go.RowKit Go.Proofs.YtljncdcjkdgkeaaGreatDoor.Big Go.Proofs.YtljncdcjkdgkeaaGreatDoor.Lp
open Go.ChangeMaps (open_string shut_string)
set_option maxRecDepth 100000 in
theorem contract (H : Type) (enc : TypeId × Value → H) (W : World) (base : Nat) (args : Array Value) (ds gs : List (DataW H)) (before : List MemPlace)
 (hval : ∀ (j : Nat) t v, Tryz.f5.params[j]? = some t → args[j]? = some v → Value.okWide Tryz.prog W .any base t v)
 (hW : DataW.Whole enc Tryz.prog Tryz.f5.params.toList Rows.certificateTampersSpec.vars false W args.toList ds gs before) (hcond : Rows.uptoBulkAll (ds ++ gs) ≤ 1048576) (hL : laidMetH Tryz.prog Rows.certificateTampersUptoRow.laid W) :
 Calls Tryz.prog 5 args W fun e W' => ∃ v, e = .returned v ∧ Rows.certificateTampersSpec.post enc Tryz.prog Tryz.f5 false true false false W args v W' := by
 have hW' := hW
 obtain ⟨p, q, hA0, hV, _, hfz, hnd⟩ := hW
 have hA : DataW.TrodAll enc Tryz.prog W 0 (fun _ => true) true Tryz.f5.params.toList args.toList ds p := hA0
 rw [Tryz.params5] at hA hval
 obtain ⟨rfl, rfl⟩ := trodVars_none hV
 rw [List.append_nil] at hcond
 obtain ⟨v0, vs0, d0, ds0, p0, q0, hargs, rfl, rfl, h0, r0⟩ := trodAll_cons hA; obtain ⟨v1, vs1, d1, ds1, p1, q1, hargs1, rfl, rfl, h1, r1⟩ := trodAll_cons r0; obtain ⟨v2, vs2, d2, ds2, p2, q2, hargs2, rfl, rfl, h2, r2⟩ := trodAll_cons r1; obtain ⟨v3, vs3, d3, ds3, p3, q3, hargs3, rfl, rfl, h3, r3⟩ := trodAll_cons r2; obtain ⟨v4, vs4, d4, ds4, p4, q4, hargs4, rfl, rfl, h4, r4⟩ := trodAll_cons r3; obtain ⟨rfl, rfl, rfl⟩ := trodAll_nil r4; obtain rfl : args = #[v0, v1, v2, v3, v4] := (by cases args; simp_all); obtain ⟨ip, hip, hok⟩ := open_ip (hval 0 37 v0 rfl rfl) h0 (Nat.le_trans (bulk_part (by simp)) hcond); obtain ⟨z1, rfl, -, -, wf1⟩ := open_int Tryz.underlying5 (hval 1 5 v1 rfl rfl) h1; obtain ⟨z2, rfl, -, -, wf2⟩ := open_int Tryz.underlying5 (hval 2 5 v2 rfl rfl) h2; obtain ⟨z3, rfl, -, -, wf3⟩ := open_int Tryz.underlying47 (hval 3 47 v3 rfl rfl) h3; obtain ⟨z4, rfl, -, -, wf4⟩ := open_int Tryz.underlying47 (hval 4 47 v4 rfl rfl) h4; obtain ⟨n1, rfl⟩ : ∃ z : Nat, z1 = (z : Int) := ⟨z1.toNat, by have := wf8 wf1; omega⟩; obtain ⟨n2, rfl⟩ : ∃ z : Nat, z2 = (z : Int) := ⟨z2.toNat, by have := wf8 wf2; omega⟩
 clear hA0
 have hL0 : laidMetH Tryz.prog laidAllT W := hL
 have htab : TabOK W := tab_of_laidT hL0
 refine (tampers_any _ ip n1 n2 z3 z4 W hip hok (by have := wf8 wf1; omega) (by have := wf8 wf2; omega) (wfi8 wf3).1 (wfi8 wf3).2 (wfi8 wf4).1 (wfi8 wf4).2 htab).mono fun e W' ⟨he, hg⟩ => ?_
 subst he
 exact ⟨_, rfl, post_stay hW' rfl (by rw [Tryz.params5]; intro t ht; simp at ht; first | (subst ht; exact ⟨by kernel_rfl, of_decide_eq_true (by kernel_rfl)⟩) | (rcases ht with rfl | rfl <;> exact ⟨by kernel_rfl, of_decide_eq_true (by kernel_rfl)⟩) | (rcases ht with rfl | rfl | rfl <;> exact ⟨by kernel_rfl, of_decide_eq_true (by kernel_rfl)⟩) | (rcases ht with rfl | rfl | rfl | rfl <;> exact ⟨by kernel_rfl, of_decide_eq_true (by kernel_rfl)⟩)) rfl rfl (fun _ _ _ => trodAll_cons_mk (shut_bool Tryz.underlying4 _) trodAll_mk0) hg (ok_one (by kernel_rfl) rfl (okWide_bool_mk Tryz.underlying4 _))⟩
theorem laid_met (os : Os) : laidMet Tryz.prog Rows.certificateTampersUptoRow.laid ((laidWorld os).forCall (fun _ _ => 0) ⟨#[], #[.agg #[.slice none 0 0, .slice none 0 0, .int .u8 0], .int .u8 0, .int .u8 0, .int .i8 0, .int .i8 0], []⟩).memory :=
 laidMet_of_run' 8 (by kernel_rfl) (by kernel_rfl)
theorem reads (os : Os) {H : Type} (enc : TypeId × Value → H) : ∃ places, DataW.whole enc Tryz.prog ((laidWorld os).forCall (fun _ _ => 0) ⟨#[], #[.agg #[.slice none 0 0, .slice none 0 0, .int .u8 0], .int .u8 0, .int .u8 0, .int .i8 0, .int .i8 0], []⟩).memory Tryz.f5.params.toList Rows.certificateTampersSpec.vars false #[.agg #[.slice none 0 0, .slice none 0 0, .int .u8 0], .int .u8 0, .int .u8 0, .int .i8 0, .int .i8 0].toList 8 = some ([.agg [.nil, .nil, .lit (.int .u8 0)], .lit (.int .u8 0), .lit (.int .u8 0), .lit (.int .i8 0), .lit (.int .i8 0)], [], places) :=
 ⟨[], by kernel_rfl⟩
set_option maxRecDepth 100000 in
theorem lifted (os : Os) (started : os.Started) (H : Type) (enc : TypeId × Value → H) (F : Stop.Interp) :
 ReturnsInHanded {} Tryz.checked os 5 .any ((Rows.OpenSpec.upto Rows.certificateTampersSpec).preRow enc Tryz.prog Tryz.f5 Rows.certificateTampersUptoRow.domain false Rows.certificateTampersUptoRow.laid) (((Rows.OpenSpec.upto Rows.certificateTampersSpec).at F).post enc Tryz.prog Tryz.f5 false true false false) := by
 obtain ⟨places, hx⟩ := reads os enc
 refine returnsInHanded_of_row (C := Tryz.checked) (s := Rows.OpenSpec.upto Rows.certificateTampersSpec) own started (by kernel_rfl) Tryz.func5
  (witness_row_at (enc := enc) (C := Tryz.checked) false (laidWorld os) #[.agg #[.slice none 0 0, .slice none 0 0, .int .u8 0], .int .u8 0, .int .u8 0, .int .i8 0, .int .i8 0] rfl (by kernel_rfl) (by kernel_rfl) (by kernel_rfl)
   (OpenSpec.preRow_of_cond 8 hx (by kernel_rfl) (fun k hk => by cases hk; kernel_rfl) (by kernel_rfl) (laid_met os))) ?_
 intro W base args ds gs before hval hW _ hcond _ hL _ _
 exact contract H enc W base args ds gs before hval hW (of_decide_eq_true (hcond _ rfl)) hL
theorem said : Rows.CertificateTampersUptoSaid :=
 OpenClaim.holds_of_cond 5 Tryz.f5 rfl rfl rfl rfl rfl rfl rfl ⟨rfl, rfl, rfl, rfl, rfl⟩ rfl rfl rfl rfl rfl (by kernel_rfl) Tryz.func5 (by kernel_rfl)
  (of_decide_eq_true (by kernel_rfl)) (by unfold Func.isWrapper; first | (rw [if_pos (by decide +kernel)]; kernel_rfl) | (rw [if_neg (by decide +kernel)]; exact ⟨rfl, rfl⟩))
  (fun os started H enc _ F => by rw [OpenClaim.pre_eq_preRow]; exact lifted os started H enc F)
theorem plain (f : FuncId) (fn : Func) (hf : Tryz.pinned.checked.prog.funcNamed "ontime/ontimelaw37.CertificateTampers" = some f) (hfn : Tryz.pinned.checked.prog.funcs[f]? = some fn) :
 true = Tryz.pinned.checked.prog.looks [] ∧ ∀ (j : Nat) t, fn.params[j]? = some t → Tryz.pinned.checked.prog.wantsStandIn t = false := by
 obtain rfl : f = 5 := Option.some.inj ((show Tryz.prog.funcNamed "ontime/ontimelaw37.CertificateTampers" = some 5 by kernel_rfl).symm.trans hf) |>.symm
 obtain rfl : fn = Tryz.f5 := (Option.some.inj (Tryz.func5.symm.trans hfn)).symm
 refine ⟨by kernel_rfl, fun j t ht => ?_⟩
 rw [Tryz.params5] at ht
 have hm := Array.mem_of_getElem? ht
 have hall : ∀ t ∈ (#[37, 5, 5, 47, 47] : Array Nat), Tryz.prog.wantsStandIn t = false := by decide +kernel
 exact hall t hm
theorem card : Rows.CertificateTampersUptoCardSaid :=
 Claim7.holds_tied_plain_at .later [] _ _ _ _ said (fun _ h => by cases h) (by kernel_rfl) (fun _ h => by cases h) certificateTampersUpto_row_tie rfl ⟨rfl, rfl⟩ (by kernel_rfl) rfl plain (by kernel_rfl)
end Go.Proofs.YtljncdcjkdgkeaaGreatDoor.certificateTampers

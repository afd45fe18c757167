/- Plain: what little gives (LpSmall). -/
import Derived.Test.YtgffcblldebelaaDoorLZH
import Derived.Test.YtgffcblldebelaaDoorLZI
set_option linter.unusedVariables false
set_option linter.unusedSimpArgs false
namespace Go.Proofs.YtgffcblldebelaaDoor.Lp
open Go.RowKit Go.Proofs.YtgffcblldebelaaDoor.Big Go.Proofs.YtgffcblldebelaaDoor.Rt

theorem inB_iff {x : Int} : inB x = true ↔ -60 ≤ x ∧ x ≤ 60 := by
  unfold inB; rw [Bool.and_eq_true, decide_eq_true_eq, decide_eq_true_eq]
theorem inC_getD {l : List Int} (h : l.all inB = true) (i : Nat) : inC 60 (l.getD i 0) := by
  rw [List.getD_eq_getElem?_getD]
  cases e : l[i]? with
  | none => show inC 60 0; unfold inC; omega
  | some x =>
    have := inB_iff.1 (List.all_eq_true.1 h x (List.mem_of_getElem? e))
    show inC 60 x
    unfold inC; omega
theorem qn_one (x : Int) {d : Nat} (hd : d % 6 = 0) : qn x d = (x : Rat) := by
  unfold qn
  rw [hd]
  show Rat.divInt x 1 = (x : Rat)
  rw [Rat.divInt_eq_div]
  grind
theorem IP.rp_pl {p : IP} (hd : p.den % 6 = 0) : p.pl = p.rp.pl := by
  unfold IP.pl RP.pl IP.rp
  have e1 : p.obj.map (qn · p.den) = p.obj.map (fun z : Int => (z : Rat)) := List.map_congr_left fun x _ => qn_one x hd
  have e2 : p.rows.map (IRow.rl p.den) = (p.rows.map IRow.rr).map RR.rl := by
    rw [List.map_map]
    refine List.map_congr_left fun r _ => ?_
    show (⟨r.coef.map (qn · p.den), r.rel, qn r.right p.den⟩ : RL) = ⟨r.coef.map (fun z : Int => (z : Rat)), r.rel, (r.right : Rat)⟩
    rw [qn_one _ hd, List.map_congr_left fun x _ => qn_one x hd]
  rw [e1, e2]
theorem little_iff {p : IP} : littleB p = true ↔ p.den % 6 = 0 ∧ 1 ≤ p.obj.length ∧ p.obj.length ≤ 3 ∧ p.rows.length ≤ 4 ∧ validB p.pl.toP = true ∧ p.obj.all inB = true ∧ p.rows.all rowB = true := by
  unfold littleB headB
  simp only [Bool.and_eq_true, decide_eq_true_eq, and_assoc]
theorem little_ok {p : IP} (h : littleB p = true) : p.rp.ok 4 := by
  obtain ⟨-, h1, h2, h3, h4, -, -⟩ := little_iff.1 h
  have hv := validB_iff.1 h4
  refine ⟨h1, h2, by show (p.rows.map IRow.rr).length ≤ 4; rw [List.length_map]; exact h3, fun r hr => ?_⟩
  obtain ⟨s, hs, rfl⟩ := List.mem_map.1 hr
  obtain ⟨i, hi⟩ := List.getElem?_of_mem hs
  have hm : i < p.pl.toP.m := by rw [IP.pm]; exact (List.getElem?_eq_some_iff.1 hi).1
  obtain ⟨a, b, c⟩ := hv.2.2.2 i hm
  have e1 : p.pl.toP.len i = s.coef.length := by show (p.pl.rows.getD i RL.zero).coef.length = _; rw [IP.row hi]; simp [IRow.rl]
  have e2 : p.pl.toP.rel i = s.rel := by show (p.pl.rows.getD i RL.zero).rel = _; rw [IP.row hi]; rfl
  rw [e1, IP.pn] at a
  rw [e2] at b c
  exact ⟨a, b, c⟩
theorem little_sm {p : IP} (h : littleB p = true) (hok : p.ok) : p.rp.Sm := by
  obtain ⟨-, -, -, -, -, h1, h2⟩ := little_iff.1 h
  refine ⟨fun i => inC_getD h1 i, fun r hr => ?_⟩
  obtain ⟨s, hs, rfl⟩ := List.mem_map.1 hr
  have hb := List.all_eq_true.1 h2 s hs
  unfold rowB at hb
  rw [Bool.and_eq_true] at hb
  have := inB_iff.1 hb.1
  exact ⟨by show inC 60 s.right; unfold inC; omega, fun i => inC_getD hb.2 i, (hok.2.2.2.2 s hs).2.2.1⟩
end Go.Proofs.YtgffcblldebelaaDoor.Lp

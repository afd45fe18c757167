/- Plain: the reference's two numbers are small (LpSmall). -/
import Derived.Test.YtgffcblldebelaaDoorLZF
set_option linter.unusedVariables false
set_option linter.unusedSimpArgs false
namespace Go.Proofs.YtgffcblldebelaaDoor.Lp
open Go.RowKit Go.Proofs.YtgffcblldebelaaDoor.Big Go.Proofs.YtgffcblldebelaaDoor.Rt

theorem RP.fold_in {p : RP} {M : Nat} (h : p.ok M) (hM : M ≤ 5) (hs : p.Sm) : ∀ (l : List (List Nat)) (s : Int × Int × Bool), (∀ q ∈ l, q ∈ p.all) → inC 240000000 s.1 ∧ 0 ≤ s.2.1 ∧ s.2.1 ≤ 1296000 → inC 240000000 (l.foldl p.step s).1 ∧ 0 ≤ (l.foldl p.step s).2.1 ∧ (l.foldl p.step s).2.1 ≤ 1296000
  | [], _, _, hb => hb
  | q :: l, s, hl, hb => by
    obtain ⟨a, b, c⟩ := RP.meet_in h hM hs (hl q (List.mem_cons_self ..))
    exact RP.fold_in h hM hs l (p.step s q) (fun r hr => hl r (List.mem_cons_of_mem _ hr)) (RP.step_in (C := 0) hs a b c hb)
theorem RP.best_in {p : RP} {M : Nat} (h : p.ok M) (hM : M ≤ 5) (hs : p.Sm) : inC 240000000 (p.best p.all).1 ∧ 0 ≤ (p.best p.all).2.1 ∧ (p.best p.all).2.1 ≤ 1296000 :=
  RP.fold_in h hM hs p.all (0, 1, false) (fun _ hq => hq) ⟨by show inC 240000000 0; unfold inC; omega, by show (0 : Int) ≤ 1; omega, by show (1 : Int) ≤ 1296000; omega⟩
theorem RP.solve_in {p : RP} (h : p.ok 4) (hs : p.Sm) : inC 240000000 p.solve.1 ∧ 0 ≤ p.solve.2.1 ∧ p.solve.2.1 ≤ 1296000 := by
  obtain ⟨a, b, c⟩ := RP.best_in h (by omega) hs
  have h0 : inC 240000000 0 := by unfold inC; omega
  unfold RP.solve
  split
  · split
    · exact ⟨h0, by show (0 : Int) ≤ 1; omega, by show (1 : Int) ≤ 1296000; omega⟩
    · exact ⟨a, b, c⟩
  · exact ⟨h0, by show (0 : Int) ≤ 1; omega, by show (1 : Int) ≤ 1296000; omega⟩
end Go.Proofs.YtgffcblldebelaaDoor.Lp

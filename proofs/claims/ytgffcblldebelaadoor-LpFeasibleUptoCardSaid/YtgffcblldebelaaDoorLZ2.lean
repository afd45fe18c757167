/- Plain: what the reference of LpSmall computes; Cramer's rule for at most three columns. -/
import Derived.Test.YtgffcblldebelaaDoorLZ1
set_option linter.unusedVariables false
set_option linter.unusedSimpArgs false
namespace Go.Proofs.YtgffcblldebelaaDoor.Lp

def smI : Nat → (Nat → Int) → Int
  | 0, _ => 0
  | n + 1, f => smI n f + f n
theorem smI_cast (n : Nat) (f : Nat → Int) : ((smI n f : Int) : Rat) = sm n (fun j => (f j : Rat)) := by
  induction n with
  | zero => rfl
  | succ n ih => show ((smI n f + f n : Int) : Rat) = sm n (fun j => (f j : Rat)) + (f n : Rat); rw [← ih]; push_cast; rfl
theorem smI_congr {n : Nat} {f g : Nat → Int} (h : ∀ j, j < n → f j = g j) : smI n f = smI n g := by
  induction n with
  | zero => rfl
  | succ n ih =>
    show smI n f + f n = smI n g + g n
    rw [ih (fun j hj => h j (by omega)), h n (by omega)]
def dotI (a b : List Int) : Int := smI (min a.length b.length) (fun i => a.getD i 0 * b.getD i 0)
/-- a row without a place -/
def minorR (k : Nat) (r : List Int) (j : Nat) : List Int := ((List.range k).filter (fun i => i != j)).map (fun i => r.getD i 0)
def minor (k : Nat) (m : List (List Int)) (j : Nat) : List (List Int) := (List.range (k - 1)).map fun i => minorR k (m.getD (i + 1) []) j
def sgI (j : Nat) : Int := if j % 2 = 0 then 1 else -1
def detN : Nat → List (List Int) → Int
  | 0, _ => 1
  | n + 1, m => smI (n + 1) (fun j => sgI j * (m.getD 0 []).getD j 0 * detN n (minor (n + 1) m j))
structure RR where
  coef : List Int
  rel : Nat
  right : Int
structure RP where
  obj : List Int
  rows : List RR
def unitI (n j : Nat) : List Int := (List.range n).map fun i => if i = j then 1 else 0
def RP.left (p : RP) : List (List Int) := p.rows.map RR.coef ++ (List.range p.obj.length).map (unitI p.obj.length)
def RP.rhs (p : RP) : List Int := p.rows.map RR.right ++ List.replicate p.obj.length 0
def meetD (left : List (List Int)) (pick : List Nat) : Int := detN pick.length (pick.map fun i => left.getD i [])
def meetC (left : List (List Int)) (right : List Int) (pick : List Nat) (j : Nat) : Int := detN pick.length (pick.map fun i => (left.getD i []).set j (right.getD i 0))
def meetX (left : List (List Int)) (right : List Int) (pick : List Nat) : List Int := (List.range pick.length).map fun j => if meetD left pick < 0 then 0 - meetC left right pick j else meetC left right pick j
def meetA (left : List (List Int)) (pick : List Nat) : Int := if meetD left pick < 0 then 0 - meetD left pick else meetD left pick
def holdsI (rel : Nat) (l r : Int) : Bool := !((rel == 1 && decide (r < l)) || (rel == 2 && l != r) || (rel == 3 && decide (l < r)))
def RP.feas (p : RP) (x : List Int) (d : Int) : Bool := (x.all fun z => decide (0 ≤ z)) && p.rows.all fun r => holdsI r.rel (dotI r.coef x) (r.right * d)
/-- value, denominator, found -/
def RP.step (p : RP) (s : Int × Int × Bool) (pick : List Nat) : Int × Int × Bool :=
  if 0 < meetA p.left pick ∧ p.feas (meetX p.left p.rhs pick) (meetA p.left pick) = true then
    if s.2.2 = false ∨ s.1 * meetA p.left pick < dotI p.obj (meetX p.left p.rhs pick) * s.2.1 then (dotI p.obj (meetX p.left p.rhs pick), meetA p.left pick, true) else s
  else s
def RP.best (p : RP) (picks : List (List Nat)) : Int × Int × Bool := picks.foldl p.step (0, 1, false)
/-- the picks behind a pick -/
def nextAt (pick : List Nat) (limit : Nat) : Nat → Option (List Nat)
  | 0 => none
  | i + 1 => if pick.getD i 0 + pick.length < limit + i then some (pick.take i ++ (List.range (pick.length - i)).map (fun k => pick.getD i 0 + 1 + k)) else nextAt pick limit i
def nextP (pick : List Nat) (limit : Nat) : Option (List Nat) := nextAt pick limit pick.length
def picksF : Nat → List Nat → Nat → List (List Nat)
  | 0, _, _ => []
  | f + 1, pick, limit => pick :: (match nextP pick limit with | none => [] | some q => picksF f q limit)
def picks (n limit : Nat) : List (List Nat) := picksF 60 (List.range n) limit
def pickB (n N : Nat) : Bool :=
  decide ((picks n N).length < 60) && (picks n N).all (fun q => q.length == n && q.all fun i => decide (i < N)) &&
    (match n with
    | 1 => (List.range N).all fun a => (picks n N).contains [a]
    | 2 => (List.range N).all fun b => (List.range b).all fun a => (picks n N).contains [a, b]
    | 3 => (List.range N).all fun c => (List.range c).all fun b => (List.range b).all fun a => (picks n N).contains [a, b, c]
    | _ => true)
theorem pickB_ok : ((List.range 3).all fun n => (List.range 9).all fun N => decide (N < n + 1) || pickB (n + 1) N) = true := by decide +kernel
theorem pickB_at {n N : Nat} (h0 : 1 ≤ n) (h1 : n ≤ 3) (h2 : n ≤ N) (h3 : N ≤ 8) : pickB n N = true := by
  have h := List.all_eq_true.1 pickB_ok (n - 1) (List.mem_range.2 (by omega))
  have h := List.all_eq_true.1 h N (List.mem_range.2 (by omega))
  rw [show n - 1 + 1 = n by omega] at h
  simpa [Nat.not_lt.2 h2] using h
theorem picks_mem {n N : Nat} (h0 : 1 ≤ n) (h1 : n ≤ 3) (h2 : n ≤ N) (h3 : N ≤ 8) {q : List Nat} (hq : q ∈ picks n N) : q.length = n ∧ ∀ i ∈ q, i < N := by
  have h := pickB_at h0 h1 h2 h3
  unfold pickB at h
  rw [Bool.and_eq_true, Bool.and_eq_true] at h
  have h4 := List.all_eq_true.1 h.1.2 q hq
  rw [Bool.and_eq_true] at h4
  exact ⟨by simpa using h4.1, fun i hi => by simpa using List.all_eq_true.1 h4.2 i hi⟩
theorem picks_len {n N : Nat} (h0 : 1 ≤ n) (h1 : n ≤ 3) (h2 : n ≤ N) (h3 : N ≤ 8) : (picks n N).length < 60 := by
  have h := pickB_at h0 h1 h2 h3
  unfold pickB at h
  rw [Bool.and_eq_true, Bool.and_eq_true] at h
  simpa using h.1.1
theorem picks_1 {N a : Nat} (h2 : 1 ≤ N) (h3 : N ≤ 8) (ha : a < N) : [a] ∈ picks 1 N := by
  have h := pickB_at (n := 1) (by omega) (by omega) h2 h3
  unfold pickB at h
  rw [Bool.and_eq_true, Bool.and_eq_true] at h
  have h4 := List.all_eq_true.1 h.2 a (List.mem_range.2 ha)
  simpa using h4
theorem picks_2 {N a b : Nat} (h2 : 2 ≤ N) (h3 : N ≤ 8) (hab : a < b) (hb : b < N) : [a, b] ∈ picks 2 N := by
  have h := pickB_at (n := 2) (by omega) (by omega) h2 h3
  unfold pickB at h
  rw [Bool.and_eq_true, Bool.and_eq_true] at h
  have h4 := List.all_eq_true.1 (List.all_eq_true.1 h.2 b (List.mem_range.2 hb)) a (List.mem_range.2 hab)
  simpa using h4
theorem picks_3 {N a b c : Nat} (h2 : 3 ≤ N) (h3 : N ≤ 8) (hab : a < b) (hbc : b < c) (hc : c < N) : [a, b, c] ∈ picks 3 N := by
  have h := pickB_at (n := 3) (by omega) (by omega) h2 h3
  unfold pickB at h
  rw [Bool.and_eq_true, Bool.and_eq_true] at h
  have h4 := List.all_eq_true.1 (List.all_eq_true.1 (List.all_eq_true.1 h.2 c (List.mem_range.2 hc)) b (List.mem_range.2 hbc)) a (List.mem_range.2 hab)
  simpa using h4
end Go.Proofs.YtgffcblldebelaaDoor.Lp

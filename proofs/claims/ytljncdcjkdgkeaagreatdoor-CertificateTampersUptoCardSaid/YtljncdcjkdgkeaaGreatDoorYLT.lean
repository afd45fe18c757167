/- Memory of linear programs: rows of rational numbers that are written; what a call leaves that writes some blocks. Walk: subtract (a multiple of a row from another). A tableau in memory. W -/
import Derived.Test.YtljncdcjkdgkeaaGreatDoorYLJ
import Derived.Test.YtljncdcjkdgkeaaGreatDoorYT4
set_option linter.unusedVariables false
set_option linter.unusedSimpArgs false
namespace Go.Proofs.YtljncdcjkdgkeaaGreatDoor.Big
theorem Later.cell {a b : World} (h : Later a b) {p : Addr} {v : Value} (hc : a.cell? p = some v) : b.cell? p = some v := Ext.cell h hc
end Go.Proofs.YtljncdcjkdgkeaaGreatDoor.Big
namespace Go.Proofs.YtljncdcjkdgkeaaGreatDoor.Lp
open Go.RowKit Go.Proofs.YtljncdcjkdgkeaaGreatDoor.Big Go.Proofs.YtljncdcjkdgkeaaGreatDoor.Rt
structure Fr (P : Nat → Prop) (w w' : World) : Prop where
 os : w'.os = w.os
 tape : w'.tape = w.tape
 output : w'.output = w.output
 size : w.heap.size ≤ w'.heap.size
 block : ∀ k, k < w.heap.size → ¬ P k → w'.heap[k]? = w.heap[k]?
 digs : ∀ b i z, w.cell? ⟨b, i, none⟩ = some (.int .u32 z) → w'.cell? ⟨b, i, none⟩ = some (.int .u32 z)
section
variable {P Q : Nat → Prop} {a w w' w'' : World}
theorem Fr.refl (P : Nat → Prop) (w : World) : Fr P w w := ⟨rfl, rfl, rfl, Nat.le_refl _, fun _ _ _ => rfl, fun _ _ _ h => h⟩
theorem Fr.trans (h : Fr P a w) (k : Fr P w w') : Fr P a w' :=
 ⟨k.os.trans h.os, k.tape.trans h.tape, k.output.trans h.output, Nat.le_trans h.size k.size, fun i hi hp => (k.block i (Nat.lt_of_lt_of_le hi h.size) hp).trans (h.block i hi hp), fun b i z hc => k.digs b i z (h.digs b i z hc)⟩
theorem Fr.of (k : Ext w w') : Fr P w w' := ⟨k.os, k.tape, k.output, k.size, fun i hi _ => Below.block k i hi, fun _ _ _ hc => k.cell hc⟩
theorem Fr.step (h : Fr P a w) (k : Ext w w') : Fr P a w' := h.trans (Fr.of k)
theorem Fr.drew (h : Fr P a w) : Fr P a w.drew := ⟨h.os, h.tape, h.output, h.size, h.block, h.digs⟩
theorem Fr.drewN (h : Fr P a w) (n : Nat) : Fr P a (w.drewN n) := ⟨h.os, h.tape, h.output, h.size, h.block, h.digs⟩
theorem Fr.alloc (h : Fr P a w) (o : Obj) : Fr P a (w.alloc o) := h.step ((Ext.refl w).alloc o)
theorem Fr.set (h : Fr P a w) {p : Addr} (hp : P p.block) (hc : ∀ z, w.cell? p ≠ some (.int .u32 z)) (u : Value) : Fr P a (w.setCell p u) :=
 ⟨h.os, h.tape, h.output, by simpa [World.setCell] using h.size, fun k hk hne => (Below.heap_setCell w p u k (fun e => hne (e ▸ hp))).trans (h.block k hk hne), fun b i z hz => by
  have h1 := h.digs b i z hz
  rw [World.cell?_setCell_other _ _ _ _ (fun e => hc z (by rw [e]; exact h1))]; exact h1⟩
theorem Fr.setN (h : Fr P a w) {p : Addr} (hp : a.heap.size ≤ p.block) (u : Value) : Fr P a (w.setCell p u) :=
 ⟨h.os, h.tape, h.output, by simpa [World.setCell] using h.size, fun k hk hne => (Below.heap_setCell w p u k (by omega)).trans (h.block k hk hne), fun b i z hz => by
  have h1 := h.digs b i z hz
  have h2 := World.block_lt_of_cell? a _ hz
  rw [World.cell?_setCell_other _ _ _ _ (fun e => by rw [e] at hp; simp at hp h2; omega)]; exact h1⟩
theorem Fr.weak (h : Fr P w w') (hPQ : ∀ b, P b → Q b) : Fr Q w w' := ⟨h.os, h.tape, h.output, h.size, fun k hk hne => h.block k hk (fun hp => hne (hPQ k hp)), h.digs⟩
theorem Fr.ext (h : Fr P w w') (k : Ext a w) (hP : ∀ b, P b → a.heap.size ≤ b) : Ext a w' :=
 ⟨h.os.trans k.os, h.tape.trans k.tape, h.output.trans k.output, Nat.le_trans k.size h.size, fun i hi => (h.block i (Nat.lt_of_lt_of_le hi k.size) (fun hp => absurd (hP i hp) (by omega))).trans (Below.block k i hi)⟩
theorem Fr.row (h : Fr P w w') {b : Nat} (hb : ¬ P b) {o : Obj} (hr : w.heap[b]? = some o) : w'.heap[b]? = some o := by
 have hl : b < w.heap.size := by
  rcases Nat.lt_or_ge b w.heap.size with hlt | hge
  ·exact hlt
  ·rw [Array.getElem?_eq_none hge] at hr; cases hr
 exact (h.block b hl hb).trans hr
theorem Fr.cell (h : Fr P w w') {b i : Nat} (hb : ¬ P b) {v : Value} (hc : w.cell? ⟨b, i, none⟩ = some v) : w'.cell? ⟨b, i, none⟩ = some v :=
 (World.cell?_of_block (w := w) (w' := w') (a := ⟨b, i, none⟩) (h.block b (World.block_lt_of_cell? w _ hc) hb)).trans hc
theorem Fr.box (h : Fr P w w') {b : Nat} {E : TypeId} {cs : Array Value} (hx : Box w b E cs) (hb : ¬ P b) : Box w' b E cs := h.row hb hx
theorem Fr.dig (h : Fr P w w') {v : Value} {n V : Nat} (hd : Dig w v n V) : Dig w' v n V := by
 obtain ⟨A, c, rfl, h1, h2, h3, h4⟩ := hd
 refine ⟨A, c, rfl, h1, h2, h3, fun hn => ?_⟩
 obtain ⟨b', off, rfl, hc⟩ := h4 hn
 exact ⟨b', off, rfl, fun j hj => h.digs _ _ _ (hc j hj)⟩
theorem Fr.big (h : Fr P w w') {v : Value} {z : Int} (hb : BigV w v z) : BigV w' v z := by
 obtain ⟨s, n, rfl, h1, h2⟩ := hb
 exact ⟨s, n, rfl, h.dig h1, h2⟩
theorem Fr.rat (h : Fr P w w') {v : Value} {q : Rat} (hr : RatV w v q) : RatV w' v q := by
 obtain ⟨p, A, n, c, p', A', n', c', z, rfl, h1, h2, h3⟩ := hr
 exact ⟨p, A, n, c, p', A', n', c', z, rfl, h.big h1, h.big h2, h3⟩
theorem Fr.ratB (h : Fr P w w') {v : Value} {q : Rat} {k : Nat} (hr : RatB w v q k) : RatB w' v q k := ⟨h.rat hr.1, hr.2⟩
end
def At (w : World) (cs : Array Value) (i : Nat) (q : Rat) : Prop :=
 ∃ p A m c p' A' m' c', cs[i]? = some (.bool p) ∧ cs[i + 1]? = some (.slice A m c) ∧ cs[i + 2]? = some (.bool p') ∧ cs[i + 3]? = some (.slice A' m' c') ∧ RatV w (.agg #[.bool p, .slice A m c, .bool p', .slice A' m' c']) q
def RowR (w : World) (b n : Nat) (f : Nat → Rat) : Prop :=
 ∃ cs : Array Value, w.heap[b]? = some (.cells cs 58 (0, 0)) ∧ n * 4 ≤ cs.size ∧ ∀ j, j < n → At w cs (j * 4) (f j)
section
variable {P : Nat → Prop} {w w' : World} {b n : Nat} {f g : Nat → Rat}
theorem RowR.lt (h : RowR w b n f) : b < w.heap.size := by
 obtain ⟨cs, h1, _⟩ := h
 rcases Nat.lt_or_ge b w.heap.size with hlt | hge
 ·exact hlt
 ·rw [Array.getElem?_eq_none hge] at h1; cases h1
theorem RowR.frozen (h : RowR w b n f) (i : Nat) : w.frozen? ⟨b, i, none⟩ = false := by
 obtain ⟨cs, h1, _⟩ := h; simp [World.frozen?, h1]
theorem RowR.fr (h : RowR w b n f) (k : Fr P w w') (hb : ¬ P b) : RowR w' b n f := by
 obtain ⟨cs, h1, h2, h3⟩ := h
 refine ⟨cs, k.row hb h1, h2, fun j hj => ?_⟩
 obtain ⟨p, A, m, c, p', A', m', c', e0, e1, e2, e3, hr⟩ := h3 j hj
 exact ⟨p, A, m, c, p', A', m', c', e0, e1, e2, e3, k.rat hr⟩
theorem RowR.ext (h : RowR w b n f) (k : Ext w w') : RowR w' b n f := h.fr (P := fun _ => False) (Fr.of k) id
theorem RowR.congr (h : RowR w b n f) (e : ∀ j, j < n → f j = g j) : RowR w b n g := by
 obtain ⟨cs, h1, h2, h3⟩ := h
 exact ⟨cs, h1, h2, fun j hj => by rw [← e j hj]; exact h3 j hj⟩
theorem RowR.at (h : RowR w b n f) {j : Nat} (hj : j < n) : ∃ p A m c p' A' m' c', w.cell? ⟨b, j * 4, none⟩ = some (.bool p) ∧ w.cell? ⟨b, j * 4 + 1, none⟩ = some (.slice A m c) ∧ w.cell? ⟨b, j * 4 + 2, none⟩ = some (.bool p') ∧ w.cell? ⟨b, j * 4 + 3, none⟩ = some (.slice A' m' c') ∧ RatV w (.agg #[.bool p, .slice A m c, .bool p', .slice A' m' c']) (f j) := by
 obtain ⟨cs, h1, h2, h3⟩ := h
 obtain ⟨p, A, m, c, p', A', m', c', e0, e1, e2, e3, hr⟩ := h3 j hj
 have hc : ∀ i, w.cell? ⟨b, i, none⟩ = cs[i]? := fun i => cell_of_row w b i cs _ (0, 0) h1
 exact ⟨p, A, m, c, p', A', m', c', by rw [hc]; exact e0, by rw [hc]; exact e1, by rw [hc]; exact e2, by rw [hc]; exact e3, hr⟩
theorem RowR.set (h : RowR w b n f) {j : Nat} (hj : j < n) {p p' : Bool} {A A' : Option Addr} {m c m' c' : Nat} {q : Rat} (hq : RatV w (.agg #[.bool p, .slice A m c, .bool p', .slice A' m' c']) q) :
 RowR ((((w.setCell ⟨b, j * 4, none⟩ (.bool p)).setCell ⟨b, j * 4 + 1, none⟩ (.slice A m c)).setCell ⟨b, j * 4 + 2, none⟩ (.bool p')).setCell ⟨b, j * 4 + 3, none⟩ (.slice A' m' c')) b n (fun i => if i = j then q else f i) ∧
 Fr (fun k => k = b) w ((((w.setCell ⟨b, j * 4, none⟩ (.bool p)).setCell ⟨b, j * 4 + 1, none⟩ (.slice A m c)).setCell ⟨b, j * 4 + 2, none⟩ (.bool p')).setCell ⟨b, j * 4 + 3, none⟩ (.slice A' m' c')) := by
 have hF : Fr (fun k => k = b) w ((((w.setCell ⟨b, j * 4, none⟩ (.bool p)).setCell ⟨b, j * 4 + 1, none⟩ (.slice A m c)).setCell ⟨b, j * 4 + 2, none⟩ (.bool p')).setCell ⟨b, j * 4 + 3, none⟩ (.slice A' m' c')) := by
  obtain ⟨p1, A1, m1, c1, p1', A1', m1', c1', e0, e1, e2, e3, _⟩ := h.at hj
  have key : ∀ (W : World) (i i' : Nat) (u : Value), i ≠ i' → (W.setCell ⟨b, i, none⟩ u).cell? ⟨b, i', none⟩ = W.cell? ⟨b, i', none⟩ := fun W i i' u hne => World.cell?_setCell_other _ _ _ _ (fun e => hne (by injection e))
  refine Fr.set (Fr.set (Fr.set (Fr.set (Fr.refl (fun k => k = b) w) (p := ⟨b, j * 4, none⟩) rfl ?_ _) (p := ⟨b, j * 4 + 1, none⟩) rfl ?_ _) (p := ⟨b, j * 4 + 2, none⟩) rfl ?_ _) (p := ⟨b, j * 4 + 3, none⟩) rfl ?_ _
  ·intro z; rw [e0]; intro h; cases h
  ·intro z; rw [key _ _ _ _ (by omega), e1]; intro h; cases h
  ·intro z; rw [key _ _ _ _ (by omega), key _ _ _ _ (by omega), e2]; intro h; cases h
  ·intro z; rw [key _ _ _ _ (by omega), key _ _ _ _ (by omega), key _ _ _ _ (by omega), e3]; intro h; cases h
 refine ⟨?_, hF⟩
 obtain ⟨cs, h1, h2, h3⟩ := h
 refine ⟨(((cs.setIfInBounds (j * 4) (.bool p)).setIfInBounds (j * 4 + 1) (.slice A m c)).setIfInBounds (j * 4 + 2) (.bool p')).setIfInBounds (j * 4 + 3) (.slice A' m' c'), ?_, by simpa using h2, fun i hi => ?_⟩
 ·simp [World.setCell, Array.getElem?_modify, h1]
 ·by_cases e : i = j
  ·subst e
   show At _ _ _ (if i = i then q else f i)
   rw [if_pos rfl]
   refine ⟨p, A, m, c, p', A', m', c', ?_, ?_, ?_, ?_, hF.rat hq⟩
   ·rw [Array.getElem?_setIfInBounds_ne (by omega), Array.getElem?_setIfInBounds_ne (by omega), Array.getElem?_setIfInBounds_ne (by omega), Array.getElem?_setIfInBounds_self_of_lt (by omega)]
   ·rw [Array.getElem?_setIfInBounds_ne (by omega), Array.getElem?_setIfInBounds_ne (by omega), Array.getElem?_setIfInBounds_self_of_lt (by simp; omega)]
   ·rw [Array.getElem?_setIfInBounds_ne (by omega), Array.getElem?_setIfInBounds_self_of_lt (by simp; omega)]
   ·rw [Array.getElem?_setIfInBounds_self_of_lt (by simp; omega)]
  ·show At _ _ _ (if i = j then q else f i)
   rw [if_neg e]
   obtain ⟨p1, A1, m1, c1, p1', A1', m1', c1', e0, e1, e2, e3, hr⟩ := h3 i hi
   have key : ∀ d, d < 4 → ((((cs.setIfInBounds (j * 4) (.bool p)).setIfInBounds (j * 4 + 1) (.slice A m c)).setIfInBounds (j * 4 + 2) (.bool p')).setIfInBounds (j * 4 + 3) (.slice A' m' c'))[i * 4 + d]? = cs[i * 4 + d]? := fun d hd => by
    rw [Array.getElem?_setIfInBounds_ne (by omega), Array.getElem?_setIfInBounds_ne (by omega), Array.getElem?_setIfInBounds_ne (by omega), Array.getElem?_setIfInBounds_ne (by omega)]
   exact ⟨p1, A1, m1, c1, p1', A1', m1', c1', by rw [← e0]; exact key 0 (by omega), by rw [← e1]; exact key 1 (by omega), by rw [← e2]; exact key 2 (by omega), by rw [← e3]; exact key 3 (by omega), hF.rat hr⟩
end
def SubPost (w : World) (ba n : Nat) (f : Nat → Rat) (e : Ending) (w' : World) : Prop := e = .returned (.tuple #[]) ∧ RowR w' ba n f ∧ Fr (fun k => k = ba) w w'
set_option maxHeartbeats 4000000 in
theorem q4n (ba bb n ca cb : Nat) (f g : Nat → Rat) (v : Value) (q : Rat) (K : Nat) (w : World) (hne : bb ≠ ba) (ha : RowR w ba n f) (hb : RowR w bb n g) (hv : RatB w v q K)
 (hf : ∀ j, j < n → QB K (f j)) (hg : ∀ j, j < n → QB K (g j)) (hK : K ≤ 1073741824) (hn : n ≤ 1099511627776) :
 Calls Tryz.prog 169 #[.slice (some ⟨ba, 0, none⟩) n ca, .slice (some ⟨bb, 0, none⟩) n cb, v] w (SubPost w ba n (fun j => f j - g j * q)) := by
 obtain ⟨p0, A0, n0, c0, p0', A0', n0', c0', rfl⟩ := hv.1.shape
 have HF := Lib.hid hf
 have HG := Lib.hid hg
 clear hf hg
 have hla := ha.lt
 have hlb := hb.lt
 go_enter Tryz.func169, Tryz.ntmps169
 go_wp2_with fail
 have B0 := Box.new w 58 #[.bool p0, .slice A0 n0 c0, .bool p0', .slice A0' n0' c0']
 have hE0 : Ext w (w.alloc (.cells #[.bool p0, .slice A0 n0 c0, .bool p0', .slice A0' n0' c0'] 58)) := (Ext.refl w).alloc _
 generalize (w.alloc (.cells #[.bool p0, .slice A0 n0 c0, .bool p0', .slice A0' n0' c0'] 58)) = W at *
 have ha := ha.ext hE0
 have hb := hb.ext hE0
 have hv := hv.ext hE0
 have hB : w.heap.size ≠ ba := by omega
 go_loopw [10] (fun i wr => ∃ j : Nat, j ≤ n ∧ i = .int .i64 j ∧ RowR wr ba n (fun i => if i < j then f i - g i * q else f i) ∧ Fr (fun k => k = ba) W wr) (fun i _ => n - (intOf i).toNat)
 case atStart => exact ⟨0, by omega, rfl, ha.congr (fun j _ => by rw [if_neg (by omega)]), Fr.refl _ _⟩
 case round =>
  obtain ⟨j, hj, rfl, hR, hF⟩ := hrel
  by_cases hlt : j < n
  ·have hbr := hb.fr hF hne
   obtain ⟨p1, A1, m1, c1, p1', A1', m1', c1', e0, e1, e2, e3, hr⟩ := hbr.at hlt
   go_wp2_with fail
   have Bx := Box.new wr 58 #[.bool p1, .slice A1 m1 c1, .bool p1', .slice A1' m1' c1']
   have hEx : Ext wr (wr.alloc (.cells #[.bool p1, .slice A1 m1 c1, .bool p1', .slice A1' m1' c1'] 58)) := (Ext.refl wr).alloc _
   refine (qpl _ (g j) K _ ⟨hr.ext hEx, HG.out j hlt⟩).mono ?_
   rintro e w1 ⟨rfl, hx1⟩
   have hE1 := hEx.trans hx1
   have hF1 := hF.step hE1
   have hR1 := hR.ext hE1
   obtain ⟨sg, hsg⟩ : ∃ s, s = (g j).num.sign := ⟨_, rfl⟩
   rw [← hsg]
   by_cases hg0 : g j = 0
   ·have e5 : (sg != 0) = false := by rw [hsg, hg0]; rfl
    have HG0 := Lib.hid hg0
    clear hg0 hsg
    go_wp2_with fail
    exact ⟨⟨j + 1, by omega, by go_num, hR1.congr (fun i _ => by
     by_cases h1 : i < j
     ·rw [if_pos h1, if_pos (by omega)]
     ·rw [if_neg h1]
      by_cases h2 : i < j + 1
      ·obtain rfl : i = j := by omega
       rw [if_pos h2, HG0.out]; grind
      ·rw [if_neg h2]), hF1⟩, by simp [intOf]; omega⟩
   ·have e5 : (sg != 0) = true := by rw [hsg]; have := q9n (x := (g j).num) (fun h => hg0 (Rat.num_eq_zero.1 h)); simpa using this
    clear hsg hg0
    obtain ⟨p2, A2, m2, c2, p2', A2', m2', c2', a0, a1, a2, a3, har⟩ := hR1.at hlt
    rw [if_neg (by omega)] at har
    have Bx := Bx.ext hx1
    have By := hF1.box B0 hB
    have hga : RatB w1 _ (g j) K := ⟨hr.ext hE1, HG.out j hlt⟩
    have hva : RatB w1 _ q K := hF1.ratB hv
    have haa : RatB w1 _ (f j) K := ⟨har, HF.out j hlt⟩
    have ka0 : ∀ w', Later w1 w' → w'.cell? ⟨ba, j * 4, none⟩ = some _ := fun w' h => Later.cell h a0
    have ka1 : ∀ w', Later w1 w' → w'.cell? ⟨ba, j * 4 + 1, none⟩ = some _ := fun w' h => Later.cell h a1
    have ka2 : ∀ w', Later w1 w' → w'.cell? ⟨ba, j * 4 + 2, none⟩ = some _ := fun w' h => Later.cell h a2
    have ka3 : ∀ w', Later w1 w' → w'.cell? ⟨ba, j * 4 + 3, none⟩ = some _ := fun w' h => Later.cell h a3
    have kx0 : ∀ w', Later w1 w' → w'.cell? ⟨_, 0, none⟩ = some _ := fun w' h => (Bx.ext h).c0
    have kx1 : ∀ w', Later w1 w' → w'.cell? ⟨_, 1, none⟩ = some _ := fun w' h => (Bx.ext h).c1
    have kx2 : ∀ w', Later w1 w' → w'.cell? ⟨_, 2, none⟩ = some _ := fun w' h => (Bx.ext h).c2
    have kx3 : ∀ w', Later w1 w' → w'.cell? ⟨_, 3, none⟩ = some _ := fun w' h => (Bx.ext h).c3
    have ky0 : ∀ w', Later w1 w' → w'.cell? ⟨_, 0, none⟩ = some _ := fun w' h => (By.ext h).c0
    have ky1 : ∀ w', Later w1 w' → w'.cell? ⟨_, 1, none⟩ = some _ := fun w' h => (By.ext h).c1
    have ky2 : ∀ w', Later w1 w' → w'.cell? ⟨_, 2, none⟩ = some _ := fun w' h => (By.ext h).c2
    have ky3 : ∀ w', Later w1 w' → w'.cell? ⟨_, 3, none⟩ = some _ := fun w' h => (By.ext h).c3
    have ks := Later.refl w1
    clear e0 e1 e2 e3 a0 a1 a2 a3
    go_upto_region 5 with fail
    go_region_with (first
     | (go_at_call 87; (with_reducible refine (qmy _ _ _ _ _ _ _ (RatB.ext hga eAx) (RatB.ext hva eAx) (by omega)).mono ?_); rintro e wk ⟨vk, rfl, hbk, hxk⟩; (obtain ⟨pk, Ak, nk, ck, pk', Ak', nk', ck', rfl⟩ := hbk.1.shape); (have hkL : Later w1 wk := Ext.trans eBx hxk))
     | (go_at_call 184; (with_reducible refine (RatSub_b _ _ _ _ _ _ _ (RatB.ext haa eAx) (RatB.ext hbk eAx) (by omega)).mono ?_); rintro e wl ⟨vl, rfl, hbl, hxl⟩; (obtain ⟨pl, Al, nl, cl, pl', Al', nl', cl', rfl⟩ := hbl.1.shape); (have hlL : Ext w1 wl := Ext.trans eAx hxl); (have hRl := hR1.ext hlL); (have f0 := hRl.frozen (j * 4)); (have f1 := hRl.frozen (j * 4 + 1)); (have f2 := hRl.frozen (j * 4 + 2)); (have f3 := hRl.frozen (j * 4 + 3)); (obtain ⟨_, _, _, _, _, _, _, _, b0, b1, b2, b3, _⟩ := hRl.at hlt))
     )
    all_goals (
     obtain ⟨s1, s2⟩ := hRl.set hlt hbl.1
     go_wp2_with fail
     exact ⟨⟨j + 1, by omega, by go_num, s1.congr (fun i _ => by
      by_cases h1 : i < j
      ·rw [if_neg (by omega), if_pos h1, if_pos (by omega)]
      ·by_cases h2 : i < j + 1
       ·obtain rfl : i = j := by omega
        rw [if_pos rfl, if_pos h2]
       ·rw [if_neg (by omega), if_neg h1, if_neg h2]), (hF1.step hlL).trans s2⟩, by simp [intOf]; omega⟩)
  ·obtain rfl : j = n := by omega
   go_wp2_with fail
   go_end0
   exact ⟨rfl, hR.congr (fun i hi => by rw [if_pos hi]), (Fr.of hE0).trans hF⟩
structure TA where
 t : Nat
 Ar : Option Addr
 br : Nat
 cr : Nat
 rw : Nat → Nat
 Ab : Option Addr
 bb : Nat
 cb : Nat
 Au : Option Addr
 bu : Nat
 cu : Nat
 Af : Option Addr
 bf : Nat
 cf : Nat
structure Tab (a : TA) (m W art : Nat) (w : World) (cv : Value) (R : Nat → Nat → Rat) (b u : Nat → Nat) (fl : Nat → Bool) : Prop where
 self : Box w a.t 200 #[.slice a.Ar m a.cr, cv, .slice a.Ab m a.cb, .slice a.Au m a.cu, .slice a.Af m a.cf, .int .i64 (art : Int), .int .i64 (W : Int)]
 adr : 0 < m → a.Ar = some ⟨a.br, 0, none⟩ ∧ a.Ab = some ⟨a.bb, 0, none⟩ ∧ a.Au = some ⟨a.bu, 0, none⟩ ∧ a.Af = some ⟨a.bf, 0, none⟩
 cap : m ≤ a.cr ∧ m ≤ a.cb ∧ m ≤ a.cu ∧ m ≤ a.cf
 rows : ∀ i, i < m → w.cell? ⟨a.br, i, none⟩ = some (.slice (some ⟨a.rw i, 0, none⟩) (W + 1) (W + 1))
 row : ∀ i, i < m → RowR w (a.rw i) (W + 1) (R i)
 bas : ∀ i, i < m → w.cell? ⟨a.bb, i, none⟩ = some (.int .i64 (b i : Int))
 basF : ∀ i, i < m → w.frozen? ⟨a.bb, i, none⟩ = false
 unit : ∀ i, i < m → w.cell? ⟨a.bu, i, none⟩ = some (.int .i64 (u i : Int))
 flip : ∀ i, i < m → w.cell? ⟨a.bf, i, none⟩ = some (.bool (fl i))
 inj : ∀ i, i < m → ∀ k, k < m → a.rw i = a.rw k → i = k
 nd : 0 < m → a.t ≠ a.br ∧ a.t ≠ a.bb ∧ a.t ≠ a.bu ∧ a.t ≠ a.bf ∧ a.bb ≠ a.br ∧ a.bb ≠ a.bu ∧ a.bb ≠ a.bf
 ndr : ∀ i, i < m → a.rw i ≠ a.t ∧ a.rw i ≠ a.br ∧ a.rw i ≠ a.bb ∧ a.rw i ≠ a.bu ∧ a.rw i ≠ a.bf
structure Cst (a : TA) (m W : Nat) (w : World) (bc : Nat) (C : Nat → Rat) : Prop where
 row : RowR w bc (W + 1) C
 nt : bc ≠ a.t
 nr : ∀ i, i < m → bc ≠ a.rw i
 nb : 0 < m → bc ≠ a.br ∧ bc ≠ a.bb ∧ bc ≠ a.bu ∧ bc ≠ a.bf
def tP (a : TA) (m bc : Nat) (k : Nat) : Prop := (∃ i, i < m ∧ k = a.rw i) ∨ k = bc ∨ (0 < m ∧ k = a.bb)
theorem Fr.frozen {P : Nat → Prop} {w w' : World} (h : Fr P w w') {b i : Nat} (hb : ¬ P b) {v : Value} (hc : w.cell? ⟨b, i, none⟩ = some v) : w'.frozen? ⟨b, i, none⟩ = w.frozen? ⟨b, i, none⟩ :=
 World.frozen?_of_block (w := w) (w' := w') (a := ⟨b, i, none⟩) (h.block b (World.block_lt_of_cell? w _ hc) hb)
section
variable {a : TA} {m W art bc : Nat} {w w' : World} {cv : Value} {R R' : Nat → Nat → Rat} {C : Nat → Rat} {b u : Nat → Nat} {fl : Nat → Bool} {P : Nat → Prop}
theorem Tab.fr (h : Tab a m W art w cv R b u fl) (k : Fr P w w') (ht : ¬ P a.t) (hb : 0 < m → ¬ P a.br ∧ ¬ P a.bb ∧ ¬ P a.bu ∧ ¬ P a.bf) (hr : ∀ i, i < m → ¬ P (a.rw i)) : Tab a m W art w' cv R b u fl := by
 refine ⟨k.box h.self ht, h.adr, h.cap, fun i hi => ?_, fun i hi => (h.row i hi).fr k (hr i hi), fun i hi => ?_, fun i hi => ?_, fun i hi => ?_, fun i hi => ?_, h.inj, h.nd, h.ndr⟩
 ·exact k.cell (hb (by omega)).1 (h.rows i hi)
 ·exact k.cell (hb (by omega)).2.1 (h.bas i hi)
 ·rw [k.frozen (hb (by omega)).2.1 (h.bas i hi)]; exact h.basF i hi
 ·exact k.cell (hb (by omega)).2.2.1 (h.unit i hi)
 ·exact k.cell (hb (by omega)).2.2.2 (h.flip i hi)
theorem Tab.ext (h : Tab a m W art w cv R b u fl) (k : Ext w w') : Tab a m W art w' cv R b u fl := h.fr (P := fun _ => False) (Fr.of k) id (fun _ => ⟨id, id, id, id⟩) (fun _ _ => id)
theorem Cst.fr (h : Cst a m W w bc C) (k : Fr P w w') (hb : ¬ P bc) : Cst a m W w' bc C := ⟨h.row.fr k hb, h.nt, h.nr, h.nb⟩
theorem Cst.ext (h : Cst a m W w bc C) (k : Ext w w') : Cst a m W w' bc C := h.fr (P := fun _ => False) (Fr.of k) id
theorem Tab.congr (h : Tab a m W art w cv R b u fl) (e : ∀ i, i < m → ∀ j, j ≤ W → R i j = R' i j) : Tab a m W art w cv R' b u fl :=
 ⟨h.self, h.adr, h.cap, h.rows, fun i hi => (h.row i hi).congr (fun j hj => e i hi j (by omega)), h.bas, h.basF, h.unit, h.flip, h.inj, h.nd, h.ndr⟩
theorem Cst.congr {C' : Nat → Rat} (h : Cst a m W w bc C) (e : ∀ j, j ≤ W → C j = C' j) : Cst a m W w bc C' := ⟨h.row.congr (fun j hj => e j (by omega)), h.nt, h.nr, h.nb⟩
theorem Tab.put (h : Tab a m W art w cv R b u fl) {i : Nat} (hi : i < m) {f : Nat → Rat} (hf : RowR w' (a.rw i) (W + 1) f) (k : Fr (fun k => k = a.rw i) w w') : Tab a m W art w' cv (fun k j => if k = i then f j else R k j) b u fl := by
 obtain ⟨n0, n1, n2, n3, n4⟩ := h.ndr i hi
 refine ⟨k.box h.self (fun e => n0 e.symm), h.adr, h.cap, fun l hl => ?_, fun l hl => ?_, fun l hl => ?_, fun l hl => ?_, fun l hl => ?_, fun l hl => ?_, h.inj, h.nd, h.ndr⟩
 ·exact k.cell (fun e => n1 e.symm) (h.rows l hl)
 ·by_cases e : l = i
  ·subst e; exact hf.congr (fun j _ => by rw [if_pos rfl])
  ·exact ((h.row l hl).fr k (fun e' => e (h.inj l hl i hi e'))).congr (fun j _ => by rw [if_neg e])
 ·exact k.cell (fun e => n2 e.symm) (h.bas l hl)
 ·rw [k.frozen (fun e => n2 e.symm) (h.bas l hl)]; exact h.basF l hl
 ·exact k.cell (fun e => n3 e.symm) (h.unit l hl)
 ·exact k.cell (fun e => n4 e.symm) (h.flip l hl)
theorem Tab.putB (h : Tab a m W art w cv R b u fl) {r : Nat} (hr : r < m) (c : Nat) : Tab a m W art (w.setCell ⟨a.bb, r, none⟩ (.int .i64 (c : Int))) cv R (fun i => if i = r then c else b i) u fl ∧ Fr (fun k => k = a.bb) w (w.setCell ⟨a.bb, r, none⟩ (.int .i64 (c : Int))) := by
 have k : Fr (fun k => k = a.bb) w (w.setCell ⟨a.bb, r, none⟩ (.int .i64 (c : Int))) := (Fr.refl (fun k => k = a.bb) w).set (p := ⟨a.bb, r, none⟩) rfl (fun z => by rw [h.bas r hr]; intro e; cases e) _
 refine ⟨?_, k⟩
 obtain ⟨n0, n1, n2, n3, n4, n5, n6⟩ := h.nd (by omega)
 refine ⟨k.box h.self n1, h.adr, h.cap, fun l hl => ?_, fun l hl => ?_, fun l hl => ?_, fun l hl => ?_, fun l hl => ?_, fun l hl => ?_, h.inj, h.nd, h.ndr⟩
 ·exact k.cell (fun e => n4 e.symm) (h.rows l hl)
 ·exact (h.row l hl).fr k (h.ndr l hl).2.2.1
 ·by_cases e : l = r
  ·subst e
   rw [if_pos rfl]
   exact World.cell?_setCell_same _ _ _ (h.bas l hl)
  ·rw [if_neg e, World.cell?_setCell_other _ _ _ _ (fun e' => e (by injection e' with _ e'; exact e'.symm))]; exact h.bas l hl
 ·rw [show (w.setCell ⟨a.bb, r, none⟩ (.int .i64 (c : Int))).frozen? ⟨a.bb, l, none⟩ = w.frozen? ⟨a.bb, l, none⟩ from World.frozen?_setCell _ _ _ _]; exact h.basF l hl
 ·exact k.cell (fun e => n5 e.symm) (h.unit l hl)
 ·exact k.cell (fun e => n6 e.symm) (h.flip l hl)
end
def PivPost (a : TA) (m W art bc : Nat) (cv : Value) (w : World) (R : Nat → Nat → Rat) (C : Nat → Rat) (b u : Nat → Nat) (fl : Nat → Bool) (e : Ending) (w' : World) : Prop :=
 e = .returned (.tuple #[]) ∧ Tab a m W art w' cv R b u fl ∧ Cst a m W w' bc C ∧ Fr (tP a m bc) w w'
theorem QB0 {k : Nat} (hk : 0 < k) : QB k 0 := by
 refine ⟨?_, ?_⟩
 ·show B k 0
  have := pw_le hk; rw [qfj] at this; unfold B; simp; omega
 ·exact qgv hk
def pvT (R : Nat → Nat → Rat) (r c i : Nat) (k j : Nat) : Rat := if k = r ∨ k < i then pvR R r c k j else R k j
set_option maxHeartbeats 8000000 in
theorem pivot_b (a : TA) (m W art bc r c : Nat) (R : Nat → Nat → Rat) (C : Nat → Rat) (b u : Nat → Nat) (fl : Nat → Bool) (K : Nat) (w : World)
 (hT : Tab a m W art w (.slice (some ⟨bc, 0, none⟩) (W + 1) (W + 1)) R b u fl) (hC : Cst a m W w bc C) (hr : r < m) (hc : c < W) (h0 : R r c ≠ 0)
 (hR : ∀ i, i < m → ∀ j, j ≤ W → QB K (R i j)) (hQ : ∀ j, j ≤ W → QB K (C j)) (hK : K ≤ 268435456) (hm : m ≤ 1099511627776) (hW : W < 1099511627776) :
 Calls Tryz.prog 170 #[.pointer (some ⟨a.t, 0, none⟩), .int .i64 (r : Int), .int .i64 (c : Int)] w (PivPost a m W art bc (.slice (some ⟨bc, 0, none⟩) (W + 1) (W + 1)) w (pvR R r c) (pvC R C r c) (pvB b r c) u fl) := by
 obtain ⟨hAr, hAb, hAu, hAf⟩ := hT.adr (by omega)
 have hse := hT.self
 rw [hAr, hAb, hAu, hAf] at hse
 have s0 := hse.c0
 have r0 := hT.rows r hr
 have HH := Lib.hid h0
 have HR := Lib.hid hR
 have HQ := Lib.hid hQ
 have hcap := hT.cap.1
 clear h0 hR hQ
 obtain ⟨p1, A1, m1, c1, p1', A1', m1', c1', e0, e1, e2, e3, hd⟩ := (hT.row r hr).at (j := c) (by omega)
 go_enter Tryz.func170, Tryz.ntmps170
 go_wp2_with fail
 have B0 := Box.new w 58 #[.bool p1, .slice A1 m1 c1, .bool p1', .slice A1' m1' c1']
 have hE0 : Ext w (w.alloc (.cells #[.bool p1, .slice A1 m1 c1, .bool p1', .slice A1' m1' c1'] 58)) := (Ext.refl w).alloc _
 have hsz : w.heap.size < (w.alloc (.cells #[.bool p1, .slice A1 m1 c1, .bool p1', .slice A1' m1' c1'] 58)).heap.size := by simp
 generalize (w.alloc (.cells #[.bool p1, .slice A1 m1 c1, .bool p1', .slice A1' m1' c1'] 58)) = V at *
 have hT0 := hT.ext hE0
 have hC0 := hC.ext hE0
 have hd0 := hd.ext hE0
 have hrl := (hT.row r hr).lt
 have hBr : w.heap.size ≠ a.rw r := by omega
 clear e0 e1 e2 e3 hd r0 s0 hse hT hC
 have hRow := hT0.row r hr
 obtain ⟨d, hdd⟩ : ∃ d, d = R r c := ⟨_, rfl⟩
 obtain ⟨D, hDD⟩ : ∃ D : Value, D = .agg #[.bool p1, .slice A1 m1 c1, .bool p1', .slice A1' m1' c1'] := ⟨_, rfl⟩
 have hdB : RatB V (.agg #[.bool p1, .slice A1 m1 c1, .bool p1', .slice A1' m1' c1']) d K := by rw [hdd]; exact ⟨hd0, HR.out r hr c (by omega)⟩
 have HN0 : Hid (d.num ≠ 0) := Lib.hid (by rw [hdd]; exact fun h => HH.out (Rat.num_eq_zero.1 h))
 have HDD := Lib.hid hdd
 clear hdd hd0 hDD
 go_loopw [25] (fun i wr => ∃ j : Nat, j ≤ W + 1 ∧ i = .int .i64 j ∧ RowR wr (a.rw r) (W + 1) (fun i => if i < j then R r i / d else R r i) ∧ Fr (fun k => k = a.rw r) V wr) (fun i _ => W + 1 - (intOf i).toNat)
 case atStart => exact ⟨0, by omega, rfl, hRow.congr (fun j _ => by rw [if_neg (by omega)]), Fr.refl _ _⟩
 case round =>
  obtain ⟨j, hj, rfl, hRw, hF⟩ := hrel
  by_cases hlt : j < W + 1
  ·obtain ⟨p2, A2, m2, c2, p2', A2', m2', c2', e0, e1, e2, e3, hx⟩ := hRw.at hlt
   rw [if_neg (by omega)] at hx
   go_wp2_with fail
   have Bx := Box.new wr 58 #[.bool p2, .slice A2 m2 c2, .bool p2', .slice A2' m2' c2']
   have hEx : Ext wr (wr.alloc (.cells #[.bool p2, .slice A2 m2 c2, .bool p2', .slice A2' m2' c2'] 58)) := (Ext.refl wr).alloc _
   refine (qpl _ (R r j) K _ ⟨hx.ext hEx, HR.out r hr j (by omega)⟩).mono ?_
   rintro e w1 ⟨rfl, hx1⟩
   have hE1 := hEx.trans hx1
   have hF1 := hF.step hE1
   have hR1 := hRw.ext hE1
   have hxa : RatB w1 _ (R r j) K := ⟨hx.ext hE1, HR.out r hr j (by omega)⟩
   obtain ⟨y, hy⟩ : ∃ y, y = R r j := ⟨_, rfl⟩
   rw [← hy] at hxa ⊢
   obtain ⟨sg, hsg⟩ : ∃ s, s = y.num.sign := ⟨_, rfl⟩
   rw [← hsg]
   by_cases hg0 : y = 0
   ·have e5 : (sg != 0) = false := by rw [hsg, hg0]; rfl
    have HG0 : Hid (R r j = 0) := Lib.hid (hy.symm.trans hg0)
    clear hg0 hsg hy
    go_wp2_with fail
    exact ⟨⟨j + 1, by omega, by go_num, hR1.congr (fun i _ => by
     by_cases h1 : i < j
     ·rw [if_pos h1, if_pos (by omega)]
     ·rw [if_neg h1]
      by_cases h2 : i < j + 1
      ·obtain rfl : i = j := by omega
       rw [if_pos h2, HG0.out]; grind
      ·rw [if_neg h2]), hF1⟩, by simp [intOf]; omega⟩
   ·have e5 : (sg != 0) = true := by rw [hsg]; have := q9n (x := y.num) (fun h => hg0 (Rat.num_eq_zero.1 h)); simpa using this
    have HY := Lib.hid hy
    clear hsg hg0 hy
    have Bx := Bx.ext hx1
    have By := hF1.box B0 hBr
    have kx0 := Bx.c0
    have kx1 := Bx.c1
    have kx2 := Bx.c2
    have kx3 := Bx.c3
    have ky0 := By.c0
    have ky1 := By.c1
    have ky2 := By.c2
    have ky3 := By.c3
    clear e0 e1 e2 e3
    go_wp2_with fail
    refine (qae _ _ y d K K w1 hxa (hF1.ratB hdB) (by omega) HN0.out).mono ?_
    rintro e w2 ⟨v2, rfl, hb2, hx2⟩
    obtain ⟨p3, A3, m3, c3, p3', A3', m3', c3', rfl⟩ := hb2.1.shape
    have hR2 := hR1.ext hx2
    have f0 := hR2.frozen (j * 4)
    have f1 := hR2.frozen (j * 4 + 1)
    have f2 := hR2.frozen (j * 4 + 2)
    have f3 := hR2.frozen (j * 4 + 3)
    obtain ⟨_, _, _, _, _, _, _, _, b0, b1, b2, b3, _⟩ := hR2.at hlt
    obtain ⟨s1, s2⟩ := hR2.set hlt hb2.1
    go_wp2_with fail
    exact ⟨⟨j + 1, by omega, by go_num, s1.congr (fun i _ => by
     by_cases h1 : i < j
     ·rw [if_neg (by omega), if_pos h1, if_pos (by omega)]
     ·by_cases h2 : i < j + 1
      ·obtain rfl : i = j := by omega
       rw [if_pos rfl, if_pos h2, HY.out]
      ·rw [if_neg (by omega), if_neg h1, if_neg h2]), (hF1.step hx2).trans s2⟩, by simp [intOf]; omega⟩
  ·obtain rfl : j = W + 1 := by omega
   rw [show ((W + 1 : Nat) : Int) = (W : Int) + 1 from rfl]
   have hT1 := hT0.put hr hRw hF
   have hC1 := hC0.fr hF (hC0.nr r hr)
   have hT2 := hT1.congr (R' := pvT R r c 0) (fun k hk j hj => by
    unfold pvT
    by_cases e : k = r
    ·rw [if_pos e, if_pos (show j < W + 1 by omega), if_pos (show k = r ∨ k < 0 from .inl e), e, qg8, HDD.out]
    ·rw [if_neg e, if_neg (show ¬ (k = r ∨ k < 0) by omega)])
   have hF2 : Fr (tP a m bc) V wr := hF.weak (fun k hk => .inl ⟨r, hr, hk⟩)
   have HGB : Hid (∀ j, j < W + 1 → QB (K + K) (R r j / d)) := Lib.hid (fun j hj => QB_div (HR.out r hr j (by omega)) hdB.2 HN0.out)
   clear hT1 hF hRw hdB
   have hse := hT2.self
   rw [hAr, hAb, hAu, hAf] at hse
   have q0 := hse.c0
   go_wp2_with fail
   clear q0 hse
   go_loopw [48] (fun i ws => ∃ k : Nat, k ≤ m ∧ i = .int .i64 k ∧ Tab a m W art ws (.slice (some ⟨bc, 0, none⟩) (W + 1) (W + 1)) (pvT R r c k) b u fl ∧ Cst a m W ws bc C ∧ Fr (tP a m bc) V ws) (fun i _ => m - (intOf i).toNat)
   case atStart => exact ⟨0, by omega, rfl, hT2, hC1, hF2⟩
   case round =>
    clear hT2 hC1 hF2
    obtain ⟨i, hi, rfl, hT, hC, hF⟩ := hrel
    have hRr : RowR wr (a.rw r) (W + 1) (fun j => R r j / d) := (hT.row r hr).congr (fun j _ => by show pvT R r c i r j = R r j / d; unfold pvT; rw [if_pos (.inl rfl), qg8, HDD.out])
    by_cases hlt : i < m
    ·have q1 := hT.rows i hlt
     by_cases hir : i = r
     ·have e6 : ((i : Int) != (r : Int)) = false := by simp [hir]
      have HIR := Lib.hid hir
      clear hir
      go_wp2_with fail
      have hir := HIR.out
      exact ⟨⟨i + 1, by omega, by go_num, hT.congr (fun k hk j hj => by
       unfold pvT
       by_cases h1 : k = r ∨ k < i
       ·rw [if_pos h1, if_pos (by omega)]
       ·rw [if_neg h1, if_neg (by omega)]), hC, hF⟩, by simp [intOf]; omega⟩
     ·have e6 : ((i : Int) != (r : Int)) = true := by simp; omega
      have hRi : RowR wr (a.rw i) (W + 1) (R i) := (hT.row i hlt).congr (fun j _ => by unfold pvT; rw [if_neg (by omega)])
      obtain ⟨p2, A2, m2, c2, p2', A2', m2', c2', e0, e1, e2, e3, hx⟩ := hRi.at (j := c) (by omega)
      go_wp2_with fail
      refine (qpl _ (R i c) K _ ⟨hx, HR.out i hlt c (by omega)⟩).mono ?_
      rintro e w1 ⟨rfl, hx1⟩
      have hT1 := hT.ext hx1
      have hC1 := hC.ext hx1
      have hF1 := hF.step hx1
      have hxa : RatB w1 _ (R i c) K := ⟨hx.ext hx1, HR.out i hlt c (by omega)⟩
      obtain ⟨y, hy⟩ : ∃ y, y = R i c := ⟨_, rfl⟩
      rw [← hy] at hxa ⊢
      obtain ⟨sg, hsg⟩ : ∃ s, s = y.num.sign := ⟨_, rfl⟩
      rw [← hsg]
      by_cases hg0 : y = 0
      ·have e5 : (sg != 0) = false := by rw [hsg, hg0]; rfl
       have HG0 : Hid (R i c = 0) := Lib.hid (hy.symm.trans hg0)
       clear hg0 hsg hy
       go_wp2_with fail
       have hT2 := hT1.congr (R' := pvT R r c (i + 1)) (fun k hk j hj => by
        unfold pvT
        by_cases h1 : k = r ∨ k < i
        ·rw [if_pos h1, if_pos (by omega)]
        ·rw [if_neg h1]
         by_cases h2 : k = i
         ·subst h2; rw [if_pos (by omega), qd7 R c j hir, HG0.out]; grind
         ·rw [if_neg (by omega)])
       go_roundw
       case rel => exact ⟨i + 1, by omega, by go_num, hT2, hC1, hF1⟩
       case measure => simp [intOf]; omega
      ·have e5 : (sg != 0) = true := by rw [hsg]; have := q9n (x := y.num) (fun h => hg0 (Rat.num_eq_zero.1 h)); simpa using this
       have HY := Lib.hid hy
       clear hsg hg0 hy
       have e0 := hx1.cell e0
       have e1 := hx1.cell e1
       have e2 := hx1.cell e2
       have e3 := hx1.cell e3
       go_wp2_with fail
       refine (q4n (a.rw i) (a.rw r) (W + 1) (W + 1) (W + 1) (R i) (fun j => R r j / d) _ y (K + K) w1 (fun e => hir (hT.inj r hr i hlt e).symm) (hRi.ext hx1) (hRr.ext hx1) ⟨hxa.1, qqj (by omega) hxa.2⟩ (fun j hj => qqj (by omega) (HR.out i hlt j (by omega))) HGB.out (by omega) (by omega)).mono ?_
       rintro e w2 ⟨rfl, hs1, hs2⟩
       have hT2 := (hT1.put hlt hs1 hs2).congr (R' := pvT R r c (i + 1)) (fun k hk j hj => by
        unfold pvT
        by_cases h2 : k = i
        ·subst h2; rw [if_pos rfl, if_pos (by omega), qd7 R c j hir, HY.out, HDD.out]
        ·rw [if_neg h2]
         by_cases h1 : k = r ∨ k < i
         ·rw [if_pos h1, if_pos (by omega)]
         ·rw [if_neg h1, if_neg (by omega)])
       have hC2 := hC1.fr hs2 (hC.nr i hlt)
       have hF2 : Fr (tP a m bc) V w2 := hF1.trans (hs2.weak (fun k hk => .inl ⟨i, hlt, hk⟩))
       go_wp2_with fail
       go_roundw
       case rel => exact ⟨i + 1, by omega, by go_num, hT2, hC2, hF2⟩
       case measure => simp [intOf]; omega
    ·obtain rfl : i = m := by omega
     have hT := hT.congr (R' := pvR R r c) (fun k hk j hj => by unfold pvT; rw [if_pos (by omega)])
     have hse := hT.self
     rw [hAr, hAb, hAu, hAf] at hse
     have q1 := hse.c1
     obtain ⟨p2, A2, m2, c2, p2', A2', m2', c2', e0, e1, e2, e3, hx⟩ := hC.row.at (j := c) (by omega)
     go_wp2_with fail
     refine (qpl _ (C c) K _ ⟨hx, HQ.out c (by omega)⟩).mono ?_
     rintro e w1 ⟨rfl, hx1⟩
     have hT1 := hT.ext hx1
     have hC1 := hC.ext hx1
     have hF1 := hF.step hx1
     have hxa : RatB w1 _ (C c) K := ⟨hx.ext hx1, HQ.out c (by omega)⟩
     have hse := hT1.self
     rw [hAr, hAb, hAu, hAf] at hse
     obtain ⟨y, hy⟩ : ∃ y, y = C c := ⟨_, rfl⟩
     rw [← hy] at hxa ⊢
     obtain ⟨sg, hsg⟩ : ∃ s, s = y.num.sign := ⟨_, rfl⟩
     rw [← hsg]
     by_cases hg0 : y = 0
     ·have e5 : (sg != 0) = false := by rw [hsg, hg0]; rfl
      have hC2 := hC1.congr (C' := pvC R C r c) (fun j hj => by unfold pvC; rw [← hy, hg0]; grind)
      have q2 := hse.c2
      have b0 := hT1.bas r hr
      have bf := hT1.basF r hr
      obtain ⟨s1, s2⟩ := hT1.putB hr c
      have hbc := (hC2.nb (by omega)).2.1
      clear hg0 hsg hy q1
      go_wp2_with fail
      go_end0
      exact ⟨rfl, s1, hC2.fr s2 hbc, ((Fr.of hE0).trans hF1).trans (s2.weak (fun k hk => .inr (.inr ⟨by omega, hk⟩)))⟩
     ·have e5 : (sg != 0) = true := by rw [hsg]; have := q9n (x := y.num) (fun h => hg0 (Rat.num_eq_zero.1 h)); simpa using this
      have HY := Lib.hid hy
      clear hsg hg0 hy q1
      have q1 := hse.c1
      have e0 := hx1.cell e0
      have e1 := hx1.cell e1
      have e2 := hx1.cell e2
      have e3 := hx1.cell e3
      have ka0 : ∀ w', Later w1 w' → w'.cell? ⟨bc, c * 4, none⟩ = some _ := fun w' h => Later.cell h e0
      have ka1 : ∀ w', Later w1 w' → w'.cell? ⟨bc, c * 4 + 1, none⟩ = some _ := fun w' h => Later.cell h e1
      have ka2 : ∀ w', Later w1 w' → w'.cell? ⟨bc, c * 4 + 2, none⟩ = some _ := fun w' h => Later.cell h e2
      have ka3 : ∀ w', Later w1 w' → w'.cell? ⟨bc, c * 4 + 3, none⟩ = some _ := fun w' h => Later.cell h e3
      have ka4 : ∀ w', Later w1 w' → w'.cell? ⟨a.t, 1, none⟩ = some _ := fun w' h => Later.cell h q1
      have ks := Later.refl w1
      clear e0 e1 e2 e3 q1
      have hRr : RowR w1 (a.rw r) (W + 1) (fun j => R r j / d) := (hT1.row r hr).congr (fun j _ => by rw [qg8, HDD.out])
      have hxa2 : RatB w1 _ y (K + K) := ⟨hxa.1, qqj (by omega) hxa.2⟩
      have HQ2 : ∀ j, j < W + 1 → QB (K + K) (C j) := fun j hj => qqj (by omega) (HQ.out j (by omega))
      have HQ2 := Lib.hid HQ2
      have hne2 : a.rw r ≠ bc := fun e => hC.nr r hr e.symm
      go_upto_region 15 with fail
      go_region_with (first | (go_at_call 169; (with_reducible refine (q4n bc (a.rw r) (W + 1) (W + 1) (W + 1) C (fun j => R r j / d) _ y (K + K) _ hne2 (hC1.row.ext eBx) (hRr.ext eBx) (RatB.ext hxa2 eBx) HQ2.out HGB.out (by omega) (by omega)).mono ?_); rintro e w2 ⟨rfl, hs1, hs2⟩))
      all_goals (
       have hbc := (hC1.nb (by omega)).2.1
       have hF2 : Fr (fun k => k = bc) w1 w2 := Fr.trans (Fr.of eBx) hs2
       have hT2 := hT1.fr hF2 (fun e => hC1.nt e.symm) (fun hm => ⟨fun e => (hC1.nb hm).1 e.symm, fun e => (hC1.nb hm).2.1 e.symm, fun e => (hC1.nb hm).2.2.1 e.symm, fun e => (hC1.nb hm).2.2.2 e.symm⟩) (fun k hk e => hC1.nr k hk e.symm)
       have hC2 : Cst a i W w2 bc (pvC R C r c) := ⟨hs1.congr (fun j hj => by unfold pvC; rw [HY.out, HDD.out]), hC1.nt, hC1.nr, hC1.nb⟩
       have hse := hT2.self
       rw [hAr, hAb, hAu, hAf] at hse
       have q2 := hse.c2
       have b0 := hT2.bas r hr
       have bf := hT2.basF r hr
       obtain ⟨s1, s2⟩ := hT2.putB hr c
       go_wp2_with fail
       go_end0
       exact ⟨rfl, s1, hC2.fr s2 hbc, (((Fr.of hE0).trans hF1).trans (hF2.weak (fun k hk => .inr (.inl hk)))).trans (s2.weak (fun k hk => .inr (.inr ⟨by omega, hk⟩)))⟩)
def optI : Option Nat → Int | none => -1 | some k => (k : Int)
theorem entL_ge {C : Nat → Rat} {f : Bool} {j : Nat} (h : ¬ C j < 0) : entL C f (j + 1) = entL C f j := by
 show (match entL C f j with | none => if C j < 0 then some j else none | some k => if f = true then some k else if C j < 0 ∧ C j < C k then some j else some k) = _
 split
 ·next e => rw [if_neg h, e]
 ·next k e => rw [e, if_neg (c := C j < 0 ∧ C j < C k) (fun h' => h h'.1)]; split <;> rfl
theorem q24 {C : Nat → Rat} {j n : Nat} (h : entL C true j = none) (h0 : C j < 0) (hn : j < n) : entL C true n = some j := by
 obtain ⟨d, rfl⟩ : ∃ d, n = j + 1 + d := ⟨n - (j + 1), by omega⟩
 clear hn
 induction d with
 | zero =>
   show (match entL C true j with | none => if C j < 0 then some j else none | some k => if true = true then some k else if C j < 0 ∧ C j < C k then some j else some k) = _
   rw [h]; exact if_pos h0
 | succ d ih =>
   show (match entL C true (j + 1 + d) with | none => if C (j + 1 + d) < 0 then some (j + 1 + d) else none | some k => if true = true then some k else if C (j + 1 + d) < 0 ∧ C (j + 1 + d) < C k then some (j + 1 + d) else some k) = _
   rw [ih]; exact if_pos rfl
theorem entL_new {C : Nat → Rat} {f : Bool} {j : Nat} (h : entL C f j = none) (h0 : C j < 0) : entL C f (j + 1) = some j := by
 show (match entL C f j with | none => if C j < 0 then some j else none | some k => if f = true then some k else if C j < 0 ∧ C j < C k then some j else some k) = _
 rw [h]; exact if_pos h0
theorem entL_old {C : Nat → Rat} {j k : Nat} (h : entL C false j = some k) (h0 : C j < 0) : entL C false (j + 1) = if C j < C k then some j else some k := by
 show (match entL C false j with | none => if C j < 0 then some j else none | some k => if false = true then some k else if C j < 0 ∧ C j < C k then some j else some k) = _
 rw [h]
 show (if false = true then some k else if C j < 0 ∧ C j < C k then some j else some k) = _
 rw [if_neg (by decide)]
 by_cases h1 : C j < C k
 ·rw [if_pos ⟨h0, h1⟩, if_pos h1]
 ·rw [if_neg (fun e => h1 e.2), if_neg h1]
theorem num_neg {q : Rat} : q < 0 ↔ q.num < 0 := by
 rw [← Rat.not_le, ← Int.not_le, Rat.num_nonneg]
def IdxPost (w : World) (o : Option Nat) (e : Ending) (w' : World) : Prop := e = .returned (.int .i64 (optI o)) ∧ Ext w w'
set_option maxHeartbeats 8000000 in
theorem q73 (a : TA) (m W art bc : Nat) (R : Nat → Nat → Rat) (C : Nat → Rat) (b u : Nat → Nat) (fl : Nat → Bool) (first : Bool) (K : Nat) (w : World)
 (hT : Tab a m W art w (.slice (some ⟨bc, 0, none⟩) (W + 1) (W + 1)) R b u fl) (hC : Cst a m W w bc C)
 (hQ : ∀ j, j ≤ W → QB K (C j)) (hK : K ≤ 268435456) (ha : art ≤ W) (hW : W < 1099511627776) :
 Calls Tryz.prog 171 #[.pointer (some ⟨a.t, 0, none⟩), .bool first] w (IdxPost w (entL C first art)) := by
 obtain ⟨o, ho⟩ : ∃ o, o = entL C first art := ⟨_, rfl⟩
 rw [← ho]
 have HO := Lib.hid ho
 have HQ := Lib.hid hQ
 clear ho hQ
 have q5 : w.cell? ⟨a.t, 5, none⟩ = some (.int .i64 (art : Int)) := hT.self.cell 5
 go_enter Tryz.func171, Tryz.ntmps171
 go_wp2_with fail
 go_loopw [5, 11] (fun bv i wr => ∃ (j : Nat) (p : Option Nat), j ≤ art ∧ i = .int .i64 j ∧ bv = .int .i64 (optI p) ∧ Hid (p = entL C first j) ∧ (first = true → p = none) ∧ Ext w wr) (fun _ i _ => art - (intOf i).toNat)
 case atStart => exact ⟨0, none, by omega, rfl, rfl, Lib.hid rfl, fun _ => rfl, Ext.refl w⟩
 case round =>
  obtain ⟨j, p, hj, rfl, rfl, HP, hf, hx⟩ := hrel
  by_cases hlt : j < art
  ·have hT1 := hT.ext hx
   have hC1 := hC.ext hx
   have q1 : wr.cell? ⟨a.t, 1, none⟩ = some _ := hT1.self.cell 1
   obtain ⟨p1, A1, m1, c1, p1', A1', m1', c1', e0, e1, e2, e3, hd⟩ := hC1.row.at (j := j) (by omega)
   go_wp2_with fail
   refine (qpl _ (C j) K _ ⟨hd, HQ.out j (by omega)⟩).mono ?_
   rintro e w1 ⟨rfl, hx1⟩
   have hX1 := hx.trans hx1
   obtain ⟨y, hy⟩ : ∃ y, y = C j := ⟨_, rfl⟩
   have HY := Lib.hid hy
   rw [← hy] at hd ⊢
   clear hy
   obtain ⟨sg, hsg⟩ : ∃ s, s = y.num.sign := ⟨_, rfl⟩
   rw [← hsg]
   by_cases hn : y < 0
   ·have e5 : decide (0 ≤ sg) = false := by rw [hsg, Int.sign_eq_neg_one_of_neg (num_neg.1 hn)]; rfl
    have HN := Lib.hid hn
    clear hsg hn
    cases first with
    | true =>
      obtain rfl := hf rfl
      have HE : Hid (o = some j) := Lib.hid (by rw [HO.out]; exact q24 HP.out.symm (by rw [← HY.out]; exact HN.out) hlt)
      go_wp2_with fail
      go_ret
      exact ⟨by rw [HE.out]; rfl, hX1⟩
    | false =>
      have q1 := hx1.cell q1
      have e0 := hx1.cell e0
      have e1 := hx1.cell e1
      have e2 := hx1.cell e2
      have e3 := hx1.cell e3
      cases p with
      | none =>
        rw [show optI none = -1 from rfl]
        go_upto_region 8 with fail
        go_region
        have HE : Hid (some j = entL C false (j + 1)) := Lib.hid (entL_new HP.out.symm (by rw [← HY.out]; exact HN.out)).symm
        all_goals (
         go_wp2_with fail
         go_roundw
         case rel => exact ⟨j + 1, some j, by omega, by go_num, rfl, HE, (fun h => by cases h), hX1.drew⟩
         case measure => simp [intOf]; omega)
      | some k =>
        have hkj := (qcn HP.out.symm).1
        rw [show optI (some k) = (k : Int) from rfl]
        obtain ⟨z, hz⟩ : ∃ z, z = C k := ⟨_, rfl⟩
        obtain ⟨p2, A2, m2, c2, p2', A2', m2', c2', g0, g1, g2, g3, hz2⟩ := hC1.row.at (j := k) (by omega)
        have g0 := hx1.cell g0
        have g1 := hx1.cell g1
        have g2 := hx1.cell g2
        have g3 := hx1.cell g3
        have hya : RatB w1 _ y K := ⟨hd.ext hx1, by rw [HY.out]; exact HQ.out j (by omega)⟩
        have hza : RatB w1 _ z K := ⟨by rw [hz]; exact hz2.ext hx1, by rw [hz]; exact HQ.out k (by omega)⟩
        have HE : Hid (entL C false (j + 1) = if y < z then some j else some k) := Lib.hid (by rw [hz, HY.out]; exact entL_old HP.out.symm (by rw [← HY.out]; exact HN.out))
        obtain ⟨cq, hcq⟩ : ∃ c, c = cmpQ y z := ⟨_, rfl⟩
        have HCQ := Lib.hid hcq
        clear hz2 hz hcq
        have kq : ∀ w', Later w1 w' → w'.cell? ⟨a.t, 1, none⟩ = some _ := fun w' h => Later.cell h q1
        have k0 : ∀ w', Later w1 w' → w'.cell? ⟨bc, j * 4, none⟩ = some _ := fun w' h => Later.cell h e0
        have k1 : ∀ w', Later w1 w' → w'.cell? ⟨bc, j * 4 + 1, none⟩ = some _ := fun w' h => Later.cell h e1
        have k2 : ∀ w', Later w1 w' → w'.cell? ⟨bc, j * 4 + 2, none⟩ = some _ := fun w' h => Later.cell h e2
        have k3 : ∀ w', Later w1 w' → w'.cell? ⟨bc, j * 4 + 3, none⟩ = some _ := fun w' h => Later.cell h e3
        have l0 : ∀ w', Later w1 w' → w'.cell? ⟨bc, k * 4, none⟩ = some _ := fun w' h => Later.cell h g0
        have l1 : ∀ w', Later w1 w' → w'.cell? ⟨bc, k * 4 + 1, none⟩ = some _ := fun w' h => Later.cell h g1
        have l2 : ∀ w', Later w1 w' → w'.cell? ⟨bc, k * 4 + 2, none⟩ = some _ := fun w' h => Later.cell h g2
        have l3 : ∀ w', Later w1 w' → w'.cell? ⟨bc, k * 4 + 3, none⟩ = some _ := fun w' h => Later.cell h g3
        have ks := Later.refl w1
        have i1 : (0 : Int) ≤ (j : Int) := by omega
        have i2 : (j : Int) < (W : Int) + 1 := by omega
        have i3 : (0 : Int) ≤ (k : Int) := by omega
        have i4 : (k : Int) < (W : Int) + 1 := by omega
        have i5 : decide ((k : Int) < 0) = false := by simp
        clear q1 e0 e1 e2 e3 g0 g1 g2 g3
        go_upto_region 8 with fail
        go_region_held3 (fun w' => Later w1 w') ((repeat (first | assumption | apply Later.drew | apply Later.drewN | apply Later.alloc | (refine Later.step ?_ (by assumption))))) (first
         | (go_at_call 23; (with_reducible refine (q8w _ _ _ _ _ _ _ (RatB.ext hya eBx) (RatB.ext hza eBx) (by omega)).mono ?_); rintro e w2 ⟨rfl, hx2⟩; rw [← HCQ.out])
         )
        by_cases hyz : y < z
        ·have e7 : decide (cq < 0) = true := by rw [HCQ.out]; unfold cmpQ; rw [if_pos hyz]; rfl
         have HE2 : Hid (some j = entL C false (j + 1)) := Lib.hid (by rw [HE.out, if_pos hyz])
         clear hyz
         all_goals (
          rw [e7]
          clear e7
          go_wp2_with fail
          go_roundw
          case rel => exact ⟨j + 1, some j, by omega, by go_num, rfl, HE2, (fun h => by cases h), hX1.trans (show Later w1 _ by assumption)⟩
          case measure => simp [intOf]; omega)
        ·have e7 : decide (cq < 0) = false := by rw [HCQ.out]; unfold cmpQ; rw [if_neg hyz]; split <;> rfl
         have HE2 : Hid (some k = entL C false (j + 1)) := Lib.hid (by rw [HE.out, if_neg hyz])
         clear hyz
         all_goals (
          rw [e7]
          clear e7
          go_wp2_with fail
          go_roundw
          case rel => exact ⟨j + 1, some k, by omega, by go_num, rfl, HE2, (fun h => by cases h), hX1.trans (show Later w1 _ by assumption)⟩
          case measure => simp [intOf]; omega)
   ·have e5 : decide (0 ≤ sg) = true := by
     rw [hsg]
     rcases q83 y.num with ⟨a, b⟩ | ⟨a, b⟩ | ⟨a, b⟩ <;> rw [b] <;> first | rfl | exact absurd (num_neg.2 a) hn
    have HE := Lib.hid (entL_ge (f := first) (C := C) (j := j) (by rw [← HY.out]; exact hn))
    clear hsg hn
    go_wp2_with fail
    go_roundw
    case rel => exact ⟨j + 1, p, by omega, by go_num, rfl, Lib.hid (by rw [HE.out]; exact HP.out), hf, hX1⟩
    case measure => simp [intOf]; omega
  ·obtain rfl : j = art := by omega
   have HE : Hid (optI p = optI o) := Lib.hid (by rw [HO.out, HP.out])
   go_wp2_with fail
   go_ret
   exact ⟨by rw [HE.out]; rfl, hx⟩
theorem kFx {P : Nat → Prop} {a w : World} (h : Fr P a w := by (repeat (first | assumption | apply Fr.drew | apply Fr.drewN | apply Fr.alloc | (refine Fr.step ?_ (by assumption)) | (refine Fr.trans ?_ (by assumption))))) : Fr P a w := h
theorem kLx {a w : World} (h : Later a w := by (repeat (first | (with_reducible assumption) | (with_reducible apply Later.drew) | (with_reducible apply Later.drewN) | (with_reducible refine Later.step ?_ (by with_reducible assumption))))) : Later a w := h
end Go.Proofs.YtljncdcjkdgkeaaGreatDoor.Lp

/- Walk: Size of ilp. -/
import Derived.Test.YthafabkjidifeaaIZ0
set_option linter.unusedVariables false
set_option linter.unusedSimpArgs false
namespace Go.Proofs.Ythafabkjidifeaa.Lp
open Go.RowKit Go.Proofs.Ythafabkjidifeaa.Big Go.Proofs.Ythafabkjidifeaa.Rt

theorem zeroN (w : World) : (zeroValue 3).run Try.prog w = .ok (.int .i64 0) w := by kernel_rfl
theorem zeroB (w : World) : (zeroValue 4).run Try.prog w = .ok (.bool false) w := by kernel_rfl
theorem infoNd : (Try.prog.info? 95).map (·.size) = some 6 := by kernel_rfl
theorem MapTo.fr {r : Nat} {w w' : World} (h : MapTo r w w') {P : Nat → Prop} (hP : P r) : Fr P w w' := by
  have hs := h.size
  have hf := fun i => h.far (k := i)
  obtain ⟨⟨es, c, h1⟩, es', c', rfl⟩ := h
  refine ⟨rfl, rfl, rfl, by omega, fun k hk hne => hf k (fun e => hne (e ▸ hP)), fun b i z hz => ?_⟩
  by_cases e : b = r
  · subst e
    unfold World.cell? at hz
    rw [h1] at hz
    cases hz
  · exact (World.cell?_of_block (a := ⟨b, i, none⟩) (hf b e)).trans hz
theorem Fr.cells {P : Nat → Prop} {w w' : World} (h : Fr P w w') {k : Nat} (hk : CellsB w k) (hn : ¬ P k) : CellsB w' k := by
  obtain ⟨cs, E, h1⟩ := hk
  exact ⟨cs, E, h.row hn h1⟩
theorem PMap_cells {w : World} {r : Nat} {S : List (Nat × Value)} (h : PMap w r S) {k : Nat} (hk : CellsB w k) : k ≠ r := by
  obtain ⟨cs, E, h1⟩ := hk
  exact h.nobox (E := E) (cs := cs) h1
theorem run_delete_all {P : Program} {w : World} {mt kt et pt kt' : TypeId} {r : Nat} {S : List (Nat × Value)} {j : TypeInfo} (hm : P.underlying mt = some (.map kt et)) (hk : P.underlying kt = some (.pointer pt)) (hj : P.info? pt = some j) (hsz : j.size ≠ 0) (k : Nat) (v0 : Value) (hb : PMap w r (S ++ [(k, v0)])) (hS : ∀ p ∈ S ++ [(k, v0)], CellsB w p.1) (hno : ∀ p ∈ S, p.1 ≠ k) :
    ∃ w', (∀ ty : TypeId, (Builtin.delete_ #[mt, kt'] ty #[.map (some r), .pointer (some ⟨k, 0, none⟩)]).run P w = .ok (.tuple #[]) w') ∧ PMap w' r S ∧ MapTo r w w' := by
  obtain ⟨es, c, h1, h2⟩ := hb
  have hf := run_findKey_p hk hj hsz k (hS (k, v0) (by simp)) es.toList _ h2 hS
  have hp : pfind k (S ++ [(k, v0)]) = some (S.length, v0) := by
    clear hS h2 hf
    induction S with
    | nil => simp [pfind]
    | cons p A ih =>
      have h0 : p.1 ≠ k := hno p (by simp)
      simp [pfind, h0, ih (fun q hq => hno q (by simp [hq]))]
  rw [hp] at hf
  unfold keyP at hf
  have hlen : es.size = S.length + 1 := by
    have := congrArg List.length h2
    simpa using this
  refine ⟨mapWorld w r (es.eraseIdxIfInBounds S.length) c, fun ty => ?_, ⟨_, _, mapWorld_map h1 _ _, ?_⟩, ⟨⟨es, c, h1⟩, _, _, rfl⟩⟩
  · simp [Builtin.delete_, run_underlying hm, Result.andThen, MapKept.run_getObj_map h1, run_checkKey_ptr (n := 9999) hk, hf, MapKept.run_setObj_map _ h1, mapWorld]
  · have e : (es.eraseIdxIfInBounds S.length).toList = es.toList.eraseIdx S.length := by simp
    rw [e]
    have h3 := congrArg (fun l : List (Value × Value) => l.eraseIdx S.length) h2
    simp only [List.map_append, List.map_cons, List.map_nil] at h3
    rw [List.eraseIdx_append_of_length_le (by simp)] at h3
    simp only [List.length_map, Nat.sub_self, List.eraseIdx_cons_zero, List.append_nil] at h3
    rw [← h3, map_eraseIdx']
/-- the blocks of the two maps -/
def PS (om sm k : Nat) : Prop := k = om ∨ k = sm
/-- what size leaves -/
def SzPost (om sm : Nat) (So Ss : List (Nat × Value)) (n b h : Nat) (w : World) (e : Ending) (w' : World) : Prop :=
  e = .returned (.int .i64 (n : Int)) ∧ PMap w' om So ∧ (∃ N, PMap w' sm (Ss ++ N) ∧ ∀ p ∈ N, b ≤ p.1 ∧ p.1 < h ∧ CellsB w' p.1) ∧ Fr (PS om sm) w w'
theorem pfind_lt {k : Nat} {S : List (Nat × Value)} (h : ∀ p ∈ S, p.1 < k) : pfind k S = none := pfind_none_iff.2 fun p hp e => by have := h p hp; omega
def szK (ob sx fb : Nat) : Value := .func (.func 39) #[] #[.pointer (some ⟨ob, 0, none⟩), .pointer (some ⟨sx, 0, none⟩), .pointer (some ⟨fb, 0, none⟩)]
set_option maxHeartbeats 600000 in
set_option maxRecDepth 100000 in
theorem size1_step (vr fl : Int) (lo hi : Option Addr) (em : Bool) (A : Option Addr) (m c ob sx fb om sm b h1 h n1 n2 : Nat) (w : World) (So Ss : List (Nat × Value)) (hbh : b < h) (hh1 : h1 ≤ h) (NB : Box w b 95 (NodeC vr fl lo hi em A m c)) (OB : Box w ob 93 #[.map (some om)]) (SB : Box w sx 92 #[.map (some sm)])
    (FB : Box w fb 48 #[szK ob sx fb]) (hO : PMap w om So) (hS : PMap w sm Ss) (hne : om ≠ sm) (hSo : ∀ p ∈ So, p.1 < b ∧ CellsB w p.1) (hSs : ∀ p ∈ Ss, p.1 < b ∧ CellsB w p.1) (hn1 : n1 + n2 ≤ 1000000)
    (H1 : ∀ W, PMap W om (So ++ [(b, .bool true)]) → PMap W sm Ss → Fr (PS om sm) w W → Calls Try.prog 39 #[.pointer lo, .pointer (some ⟨ob, 0, none⟩), .pointer (some ⟨sx, 0, none⟩), .pointer (some ⟨fb, 0, none⟩)] W (SzPost om sm (So ++ [(b, .bool true)]) Ss n1 (b + 1) h1 W))
    (H2 : ∀ W N, PMap W om (So ++ [(b, .bool true)]) → PMap W sm (Ss ++ N) → (∀ p ∈ N, b + 1 ≤ p.1 ∧ p.1 < h1 ∧ CellsB W p.1) → Fr (PS om sm) w W → Calls Try.prog 39 #[.pointer hi, .pointer (some ⟨ob, 0, none⟩), .pointer (some ⟨sx, 0, none⟩), .pointer (some ⟨fb, 0, none⟩)] W (SzPost om sm (So ++ [(b, .bool true)]) (Ss ++ N) n2 (b + 1) h W)) :
    Calls Try.prog 39 #[.pointer (some ⟨b, 0, none⟩), .pointer (some ⟨ob, 0, none⟩), .pointer (some ⟨sx, 0, none⟩), .pointer (some ⟨fb, 0, none⟩)] w (SzPost om sm So Ss (1 + n1 + n2) b h w) := by
  obtain ⟨j, hj, hsz⟩ := Option.map_eq_some_iff.1 infoNd
  have hsz : j.size ≠ 0 := by omega
  have hnl : ∀ W, (binOp BinOp.eql 30 (.pointer (some ⟨b, 0, none⟩)) (.pointer none)).run Try.prog W = .ok (.bool false) W := fun _ => by kernel_rfl
  have hkB : CellsB w b := ⟨_, _, NB⟩
  have hl1 := run_lookup_p (P := Try.prog) (mt := 93) Try.underlying93 Try.underlying30 hj hsz hO (fun p hp => (hSo p hp).2) b hkB (zeroB w) false
  have hl2 := run_lookup_p (P := Try.prog) (mt := 92) Try.underlying92 Try.underlying30 hj hsz hS (fun p hp => (hSs p hp).2) b hkB (zeroN w) true
  rw [pfind_lt (fun p hp => (hSo p hp).1)] at hl1
  rw [pfind_lt (fun p hp => (hSs p hp).1)] at hl2
  simp only [Bool.false_eq_true, if_false, if_true] at hl1 hl2
  obtain ⟨w1, hu1, hO1, hm1⟩ := run_update_new (P := Try.prog) (mt := 93) Try.underlying93 Try.underlying30 hj hsz hO (fun p hp => (hSo p hp).2) b hkB (fun p hp e => by have := (hSo p hp).1; omega) (.bool true)
  have o0 := OB.c0
  have s0 := SB.c0
  have hob1 : ob ≠ om := hO.nobox OB
  have hob2 : ob ≠ sm := hS.nobox OB
  have hsx1 : sx ≠ om := hO.nobox SB
  have hsx2 : sx ≠ sm := hS.nobox SB
  have hfb1 : fb ≠ om := hO.nobox FB
  have hfb2 : fb ≠ sm := hS.nobox FB
  have hnb1 : b ≠ om := hO.nobox NB
  have hnb2 : b ≠ sm := hS.nobox NB
  have OB1 := hm1.box OB
  have SB1 := hm1.box SB
  have FB1 := hm1.box FB
  have NB1 := hm1.box NB
  have hS1 := hm1.pmap (Ne.symm hne) hS
  have hF1 : Fr (PS om sm) w w1 := MapTo.fr hm1 (.inl rfl)
  have HH1 := Lib.hid H1
  have HH2 := Lib.hid H2
  have HSO := Lib.hid hSo
  have HSS := Lib.hid hSs
  clear H1 H2 hSo hSs
  go_enter Try.func39, Try.ntmps39
  go_upto_region 7 with fail
  clear hl1 hl2 hu1 o0 s0 hm1
  have k0 : ∀ w', Fr (PS om sm) w1 w' → w'.cell? ⟨fb, 0, none⟩ = some (.func (.func 39) #[] #[.pointer (some ⟨ob, 0, none⟩), .pointer (some ⟨sx, 0, none⟩), .pointer (some ⟨fb, 0, none⟩)]) := fun w' h => (h.box FB1 (fun e => e.elim hfb1 hfb2)).c0
  have k1 : ∀ w', Fr (PS om sm) w1 w' → w'.cell? ⟨b, 2, none⟩ = some (.pointer lo) := fun w' h => (h.box NB1 (fun e => e.elim hnb1 hnb2)).cell 2
  have k2 : ∀ w', Fr (PS om sm) w1 w' → w'.cell? ⟨b, 3, none⟩ = some (.pointer hi) := fun w' h => (h.box NB1 (fun e => e.elim hnb1 hnb2)).cell 3
  have r1 : IntKind.i64.wrap (1 + (n1 : Int)) = 1 + (n1 : Int) := IntWalk.i64_in _ (by omega)
  have r2 : IntKind.i64.wrap (1 + (n1 : Int) + (n2 : Int)) = 1 + (n1 : Int) + (n2 : Int) := IntWalk.i64_in _ (by omega)
  have ks := Fr.refl (PS om sm) w1
  go_region_held3 (fun w' => Fr (PS om sm) w1 w') ((repeat (first | (with_reducible assumption) | (with_reducible apply Fr.drew) | (with_reducible apply Fr.drewN) | (with_reducible refine Fr.trans ?_ (by with_reducible assumption))))) (first
    | (go_at_call 39; (with_reducible refine (HH1.out _ (hO1.ext (by repeat (first | (with_reducible exact Ext.refl _) | (with_reducible apply Ext.drew) | (with_reducible apply Ext.drewN)))) (hS1.ext (by repeat (first | (with_reducible exact Ext.refl _) | (with_reducible apply Ext.drew) | (with_reducible apply Ext.drewN)))) (hF1.trans (by repeat (first | (with_reducible exact Fr.refl _ _) | (with_reducible apply Fr.drew) | (with_reducible apply Fr.drewN))))).mono ?_); rintro e wk ⟨rfl, hOk, ⟨N1, hSk, hN1⟩, hFk⟩; (have hFk1 : Fr (PS om sm) w1 wk := Fr.trans (by repeat (first | (with_reducible exact Fr.refl _ _) | (with_reducible apply Fr.drew) | (with_reducible apply Fr.drewN))) hFk))
    | (go_at_call 39; (with_reducible refine (HH2.out _ N1 (hOk.ext (by repeat (first | (with_reducible exact Ext.refl _) | (with_reducible apply Ext.drew) | (with_reducible apply Ext.drewN)))) (hSk.ext (by repeat (first | (with_reducible exact Ext.refl _) | (with_reducible apply Ext.drew) | (with_reducible apply Ext.drewN)))) (fun p hp => ⟨(hN1 p hp).1, (hN1 p hp).2.1, (hN1 p hp).2.2.ext (by repeat (first | (with_reducible exact Ext.refl _) | (with_reducible apply Ext.drew) | (with_reducible apply Ext.drewN)))⟩) (hF1.trans (hFk1.trans (by repeat (first | (with_reducible exact Fr.refl _ _) | (with_reducible apply Fr.drew) | (with_reducible apply Fr.drewN)))))).mono ?_); rintro e wm ⟨rfl, hOm, ⟨N2, hSm, hN2⟩, hFm⟩; (have hFm1 : Fr (PS om sm) wk wm := Fr.trans (by repeat (first | (with_reducible exact Fr.refl _ _) | (with_reducible apply Fr.drew) | (with_reducible apply Fr.drewN))) hFm))
    )
  all_goals (
    have hFw : Fr (PS om sm) w wm := hF1.trans (hFk1.trans hFm1)
    have hno : ∀ k, CellsB w k → ¬ PS om sm k := fun k hk e => e.elim (PMap_cells hO hk) (PMap_cells hS hk)
    have hCb : CellsB wm b := Fr.cells hFw hkB (hno b hkB)
    have hN1m : ∀ p ∈ N1, b + 1 ≤ p.1 ∧ p.1 < h1 ∧ CellsB wm p.1 := fun p hp => ⟨(hN1 p hp).1, (hN1 p hp).2.1, Fr.cells hFm1 (hN1 p hp).2.2 (fun e => e.elim (PMap_cells hOk (hN1 p hp).2.2) (PMap_cells hSk (hN1 p hp).2.2))⟩
    obtain ⟨w3, hd, hO3, hm3⟩ := run_delete_all (P := Try.prog) (mt := 93) (kt' := 30) Try.underlying93 Try.underlying30 hj hsz b (.bool true) hOm (fun p hp => by
      rcases List.mem_append.1 hp with h | h
      · exact Fr.cells hFw (HSO.out p h).2 (hno _ (HSO.out p h).2)
      · obtain rfl := List.mem_singleton.1 h
        exact hCb) (fun p hp => by have := (HSO.out p hp).1; omega)
    have hS3 := hm3.pmap (Ne.symm hne) hSm
    obtain ⟨w4, hu4, hS4, hm4⟩ := run_update_new (P := Try.prog) (mt := 92) Try.underlying92 Try.underlying30 hj hsz hS3 (fun p hp => by
      rcases List.mem_append.1 hp with h | h
      · rcases List.mem_append.1 h with h | h
        · exact hm3.cells (Fr.cells hFw (HSS.out p h).2 (hno _ (HSS.out p h).2))
        · exact hm3.cells (hN1m p h).2.2
      · exact hm3.cells (hN2 p h).2.2) b (hm3.cells hCb) (fun p hp => by
      rcases List.mem_append.1 hp with h | h
      · rcases List.mem_append.1 h with h | h
        · have := (HSS.out p h).1; omega
        · have := (hN1m p h).1; omega
      · have := (hN2 p h).1; omega) (.int .i64 (1 + (n1 : Int) + (n2 : Int)))
    have hm4' := hm4
    have o0 := (hFw.box OB (fun e => e.elim hob1 hob2)).c0
    have s0 := (hm3.box (hFw.box SB (fun e => e.elim hsx1 hsx2))).c0
    have hF4 : Fr (PS om sm) w w4 := (hFw.trans (MapTo.fr hm3 (.inl rfl))).trans (MapTo.fr hm4 (.inr rfl))
    have hO4 := hm4.pmap hne hO3
    clear k0 k1 k2 r1 r2
    go_wp2_with fail
    go_ret
    refine ⟨by congr 2, hO4, ⟨N1 ++ N2 ++ [(b, .int .i64 (1 + (n1 : Int) + (n2 : Int)))], by simpa [List.append_assoc] using hS4, fun p hp => ?_⟩, hF4⟩
    rcases List.mem_append.1 hp with h | h
    · rcases List.mem_append.1 h with h | h
      · exact ⟨by have := (hN1m p h).1; omega, by have := (hN1m p h).2.1; omega, hm4.cells (hm3.cells (hN1m p h).2.2)⟩
      · exact ⟨by have := (hN2 p h).1; omega, (hN2 p h).2.1, hm4.cells (hm3.cells (hN2 p h).2.2)⟩
    · obtain rfl := List.mem_singleton.1 h
      exact ⟨Nat.le_refl _, hbh, hm4.cells (hm3.cells hCb)⟩)
theorem size_nilS {om sm b h : Nat} {So Ss : List (Nat × Value)} (v1 v2 v3 : Value) (W : World) (hO : PMap W om So) (hS : PMap W sm Ss) : Calls Try.prog 39 #[.pointer none, v1, v2, v3] W (SzPost om sm So Ss 0 b h W) := by
  refine (size_nil1 v1 v2 v3 W).mono ?_
  rintro e w' ⟨rfl, rfl⟩
  exact ⟨rfl, hO, ⟨[], by simpa using hS, fun p hp => by cases hp⟩, Fr.refl _ _⟩
theorem SzPost.up {om sm n b b' h h' : Nat} {So Ss : List (Nat × Value)} {w : World} {e : Ending} {w' : World} (k : SzPost om sm So Ss n b h w e w') (hb : b' ≤ b) (hh : h ≤ h') : SzPost om sm So Ss n b' h' w e w' := by
  obtain ⟨k1, k2, ⟨N, k3, k4⟩, k5⟩ := k
  exact ⟨k1, k2, ⟨N, k3, fun p hp => ⟨Nat.le_trans hb (k4 p hp).1, Nat.lt_of_lt_of_le (k4 p hp).2.1 hh, (k4 p hp).2.2⟩⟩, k5⟩
theorem size1_b (K : Nat) (t : BT) (ob sx fb om sm b h : Nat) (w : World) (So Ss : List (Nat × Value)) (hT : TreeV K w t b h) (hsz : t.size ≤ 1000000) (OB : Box w ob 93 #[.map (some om)]) (SB : Box w sx 92 #[.map (some sm)])
    (FB : Box w fb 48 #[szK ob sx fb]) (hO : PMap w om So) (hS : PMap w sm Ss) (hne : om ≠ sm) (hSo : ∀ p ∈ So, p.1 < b ∧ CellsB w p.1) (hSs : ∀ p ∈ Ss, p.1 < b ∧ CellsB w p.1) :
    Calls Try.prog 39 #[.pointer (some ⟨b, 0, none⟩), .pointer (some ⟨ob, 0, none⟩), .pointer (some ⟨sx, 0, none⟩), .pointer (some ⟨fb, 0, none⟩)] w (SzPost om sm So Ss t.size b h w) := by
  induction t generalizing b h w So Ss with
  | leaf e m y =>
    obtain ⟨h1, A, c, h2, -⟩ := hT
    exact size1_step (-1) 0 none none e A m c ob sx fb om sm b (b + 1) h 0 0 w So Ss h1 h1 h2 OB SB FB hO hS hne hSo hSs (by omega) (fun W k1 k2 _ => size_nilS _ _ _ W k1 k2) (fun W N k1 k2 _ _ => size_nilS _ _ _ W k1 k2)
  | node v f x z ihx ihz =>
    obtain ⟨bx, hx, bz, g1, g2, g3, g4, g5⟩ := hT
    have l1 := g2.lt
    have l2 := g4.lt
    have hs1 : x.size + z.size + 1 ≤ 1000000 := hsz
    have hbox : ∀ (W : World), Fr (PS om sm) w W → Box W ob 93 #[.map (some om)] ∧ Box W sx 92 #[.map (some sm)] ∧ Box W fb 48 #[szK ob sx fb] := fun W hF =>
      ⟨hF.box OB (fun e => e.elim (hO.nobox OB) (hS.nobox OB)), hF.box SB (fun e => e.elim (hO.nobox SB) (hS.nobox SB)), hF.box FB (fun e => e.elim (hO.nobox FB) (hS.nobox FB))⟩
    have hcell : ∀ (W : World), Fr (PS om sm) w W → ∀ (k : Nat), CellsB w k → CellsB W k := fun W hF k hk => Fr.cells hF hk (fun e => e.elim (PMap_cells hO hk) (PMap_cells hS hk))
    have htree : ∀ (W : World), Fr (PS om sm) w W → ∀ (t : BT) (b h : Nat), TreeV K w t b h → TreeV K W t b h := fun W hF t b h hT => hT.fr hF (fun k cs hc e => e.elim (hO.nobox (E := _) (cs := cs) hc) (hS.nobox (E := _) (cs := cs) hc)) (fun b n f hr e => by
      obtain ⟨cs, hc, -⟩ := hr
      exact e.elim (hO.nobox (E := _) (cs := cs) hc) (hS.nobox (E := _) (cs := cs) hc))
    have hb : CellsB w b := ⟨_, _, g5⟩
    have := size1_step (v : Int) f (some ⟨bx, 0, none⟩) (some ⟨bz, 0, none⟩) false none 0 0 ob sx fb om sm b hx h x.size z.size w So Ss (by omega) (by omega) g5 OB SB FB hO hS hne hSo hSs (by omega)
      (fun W k1 k2 hF => by
        obtain ⟨q1, q2, q3⟩ := hbox W hF
        refine (ihx bx hx W _ _ (htree W hF _ _ _ g2) (by omega) q1 q2 q3 k1 k2 (fun p hp => ?_) (fun p hp => ⟨by have := (hSs p hp).1; omega, hcell W hF _ (hSs p hp).2⟩)).mono (fun _ _ k => k.up (by omega) (Nat.le_refl _))
        rcases List.mem_append.1 hp with hp | hp
        · exact ⟨by have := (hSo p hp).1; omega, hcell W hF _ (hSo p hp).2⟩
        · obtain rfl := List.mem_singleton.1 hp
          exact ⟨g1, hcell W hF _ hb⟩)
      (fun W N k1 k2 k3 hF => by
        obtain ⟨q1, q2, q3⟩ := hbox W hF
        refine (ihz bz h W _ _ (htree W hF _ _ _ g4) (by omega) q1 q2 q3 k1 k2 (fun p hp => ?_) (fun p hp => ?_)).mono (fun _ _ k => k.up (by omega) (Nat.le_refl _))
        · rcases List.mem_append.1 hp with hp | hp
          · exact ⟨by have := (hSo p hp).1; omega, hcell W hF _ (hSo p hp).2⟩
          · obtain rfl := List.mem_singleton.1 hp
            exact ⟨by omega, hcell W hF _ hb⟩
        · rcases List.mem_append.1 hp with hp | hp
          · exact ⟨by have := (hSs p hp).1; omega, hcell W hF _ (hSs p hp).2⟩
          · exact ⟨by have := (k3 p hp).2.1; omega, (k3 p hp).2.2⟩)
    rw [show (BT.node v f x z).size = 1 + x.size + z.size by show x.size + z.size + 1 = _; omega]
    exact this
set_option maxHeartbeats 1000000 in
set_option maxRecDepth 100000 in
theorem size_b (K : Nat) (t : BT) (b h : Nat) (w : World) (hT : TreeV K w t b h) (hsz : t.size ≤ 1000000) : Calls Try.prog 19 #[.pointer (some ⟨b, 0, none⟩)] w (ValPost w (.int .i64 (t.size : Int))) := by
  have hmm := @run_makeMap Try.prog
  have hmf : ∀ (fn : Fn) (first cap : Array Value) (w : World), (Instr.makeFunc fn first cap).run Try.prog w = .ok (.func fn first cap) w := fun _ _ _ _ => rfl
  obtain ⟨V, hV, hM0, hB0, hM1, hB1, hF, hE⟩ := boxesS w 92 93 48
  go_enter Try.func19, Try.ntmps19
  go_upto_region 4 with fail
  simp only [← hV]
  clear hV hmm
  obtain ⟨fb, hfb⟩ : ∃ x, x = w.heap.size + 1 + 1 + 1 + 1 := ⟨_, rfl⟩
  obtain ⟨ob, hob⟩ : ∃ x, x = w.heap.size + 1 + 1 + 1 := ⟨_, rfl⟩
  obtain ⟨om, hom⟩ : ∃ x, x = w.heap.size + 1 + 1 := ⟨_, rfl⟩
  obtain ⟨sx, hsx⟩ : ∃ x, x = w.heap.size + 1 := ⟨_, rfl⟩
  obtain ⟨sm, hsm⟩ : ∃ x, x = w.heap.size := ⟨_, rfl⟩
  rw [← hfb, ← hob, ← hsx]
  rw [← hfb] at hF
  rw [← hob, ← hom] at hB1
  rw [← hom] at hM1
  rw [← hsx, ← hsm] at hB0
  rw [← hsm] at hM0
  have hfs : w.heap.size ≤ fb := by omega
  have hws : w.heap.size ≤ sm := by omega
  have hwo : w.heap.size ≤ om := by omega
  have hne : om ≠ sm := by omega
  have n1 : ob ≠ fb := by omega
  have n2 : sx ≠ fb := by omega
  have n3 : om ≠ fb := by omega
  have n4 : sm ≠ fb := by omega
  clear hfb hob hom hsx hsm
  have f0 := hF.c0
  have f1 := hF.frozen 0
  have hTV := hT.ext hE
  obtain ⟨Kf, hK⟩ : ∃ K : Value, K = szK ob sx fb := ⟨_, rfl⟩
  have hF2 := hF.set 0 Kf
  have hB02 := hB0.far (p := ⟨fb, 0, none⟩) n2 Kf
  have hB12 := hB1.far (p := ⟨fb, 0, none⟩) n1 Kf
  have hE2 : Ext w (V.setCell ⟨fb, 0, none⟩ Kf) := hE.set (p := ⟨fb, 0, none⟩) hfs Kf
  have hT2 := hT.ext hE2
  have hM02 : PMap (V.setCell ⟨fb, 0, none⟩ Kf) sm [] := by
    obtain ⟨es, c, k1, k2⟩ := hM0
    exact ⟨es, c, (Below.heap_setCell V ⟨fb, 0, none⟩ Kf sm n4).trans k1, k2⟩
  have hM12 : PMap (V.setCell ⟨fb, 0, none⟩ Kf) om [] := by
    obtain ⟨es, c, k1, k2⟩ := hM1
    exact ⟨es, c, (Below.heap_setCell V ⟨fb, 0, none⟩ Kf om n3).trans k1, k2⟩
  go_upto_region 5 with fail
  rw [show Value.func (.func 39) #[] #[.pointer (some ⟨ob, 0, none⟩), .pointer (some ⟨sx, 0, none⟩), .pointer (some ⟨fb, 0, none⟩)] = Kf from hK.symm]
  generalize (V.setCell ⟨fb, 0, none⟩ Kf) = V2 at *
  have hF3 : Box V2 fb 48 #[Kf] := hF2
  rw [hK] at hF3
  clear hF2 f0 hK
  have k0 : V2.cell? ⟨fb, 0, none⟩ = some (.func (.func 39) #[] #[.pointer (some ⟨ob, 0, none⟩), .pointer (some ⟨sx, 0, none⟩), .pointer (some ⟨fb, 0, none⟩)]) := hF3.c0
  go_wp2_with fail
  refine (size1_b K t ob sx fb om sm b h _ [] [] hT2 hsz hB12 hB02 hF3 hM12 hM02 hne (fun p hp => by cases hp) (fun p hp => by cases hp)).mono ?_
  rintro e w3 ⟨rfl, -, -, hFF⟩
  have hx := hFF.ext hE2 (fun b hb => hb.elim (fun e => e ▸ hwo) (fun e => e ▸ hws))
  go_wp2_with fail
  go_ret
  exact ⟨rfl, hx⟩
end Go.Proofs.Ythafabkjidifeaa.Lp

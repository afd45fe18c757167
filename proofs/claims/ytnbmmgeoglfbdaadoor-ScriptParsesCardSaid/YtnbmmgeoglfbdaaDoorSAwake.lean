/- Walk: awake of the script's laws; Parse by its outcome. -/
import Derived.Test.YtnbmmgeoglfbdaaDoorSFormat2
import Derived.Test.YtnbmmgeoglfbdaaDoorSParse
set_option linter.unusedVariables false
set_option linter.unusedSimpArgs false
namespace Go.Proofs.YtnbmmgeoglfbdaaDoor.Sc
open Go.RowKit Go.Proofs.YtnbmmgeoglfbdaaDoor.Big

def exText : BL := [115, 111, 117, 114, 99, 101, 32, 49, 10, 115, 104, 97, 114, 101, 100, 32, 115, 91, 50, 93, 59, 10, 114, 117, 110, 32, 52, 48, 10, 115, 104, 111, 119, 32, 116, 10]
def exLine : BL := [115, 104, 97, 114, 101, 100, 32, 115, 91, 50, 93, 59, 10]
def exCmds : List Cmd := [⟨1, [], [], exLine⟩, ⟨8, [], [40], []⟩, ⟨11, [116], [], []⟩]
theorem dec_small (u : Nat) (h : u < 10) : Lib.decDigits u = [UInt8.ofNat (48 + u)] := by rw [Lib.decDigits, dif_pos h]
theorem itoa_1 : Lib.itoa 1 = [49] := by unfold Lib.itoa; rw [if_neg (by decide), show (1 : Int).toNat = 1 from rfl, dec_small 1 (by omega)]; rfl
theorem itoa_40 : Lib.itoa 40 = [52, 48] := by
  unfold Lib.itoa
  rw [if_neg (by decide), show (40 : Int).toNat = 40 from rfl, Lib.decDigits, dif_neg (by omega), show 40 / 10 = 4 from rfl, dec_small 4 (by omega)]; rfl
theorem ex_format : formatL exCmds = exText := by
  have h1 : formatC ⟨1, [], [], exLine⟩ = [115, 111, 117, 114, 99, 101, 32] ++ (Lib.itoa 1 ++ 10 :: exLine) := rfl
  have h2 : formatC ⟨8, [], [40], []⟩ = [114, 117, 110, 32] ++ (Lib.itoa 40 ++ [10]) := by
    unfold formatC lineC numT; simp [fN, fT]; rfl
  have h3 : formatC ⟨11, [116], [], []⟩ = [115, 104, 111, 119, 32, 116, 10] := rfl
  unfold exCmds
  rw [formatL_cons, formatL_cons, formatL_cons, h1, h2, h3, itoa_1, itoa_40]
  rfl
theorem ex_good : Good exCmds := by
  intro c hc
  unfold exCmds at hc
  simp only [List.mem_cons, List.not_mem_nil, or_false] at hc
  rcases hc with rfl | rfl | rfl
  · exact ⟨by decide, fun v hv => by cases hv⟩
  · exact ⟨by decide, fun v hv => by simp at hv; subst hv; unfold inI; omega⟩
  · exact ⟨by decide, fun v hv => by cases hv⟩
theorem ex_parse : parse exText = .ok exCmds := by rw [← ex_format]; exact parse_format ex_good (by decide)
/-- Parse, at a text whose outcome is known -/
def OkPost (w : World) (l : List Cmd) (e : Ending) (w' : World) : Prop := (∃ A n c, e = .returned (.tuple #[.slice A n c, .int .i64 0, .int .i64 0]) ∧ CmdsV w' (.slice A n c) l) ∧ Ext w w'
theorem Parse_ok (s : ByteArray) (l : List Cmd) (w : World) (hs : s.size < 2147483648) (he : Env w) (hf : FormatsOK w) (h : parse s.data.toList = .ok l) : Calls Tryd.prog 7 #[.string s] w (OkPost w l) := by
  refine (Parse_any s w hs he hf).mono ?_
  rintro e w' ⟨⟨A, n, c, a, er, rfl, h1, _⟩, hx⟩
  obtain ⟨h2, rfl, rfl⟩ := h1 l h
  exact ⟨⟨A, n, c, rfl, h2⟩, hx⟩
def ErrPost (w : World) (a e : Nat) (en : Ending) (w' : World) : Prop := en = .returned (.tuple #[.slice none 0 0, .int .i64 (a : Int), .int .i64 (e : Int)]) ∧ Ext w w'
theorem Parse_err (s : ByteArray) (a er : Nat) (w : World) (hs : s.size < 2147483648) (he : Env w) (hf : FormatsOK w) (h : parse s.data.toList = .err a er) : Calls Tryd.prog 7 #[.string s] w (ErrPost w a er) := by
  refine (Parse_any s w hs he hf).mono ?_
  rintro e w' ⟨⟨A, n, c, a', er', rfl, _, h1⟩, hx⟩
  obtain ⟨rfl, rfl, rfl, rfl, rfl⟩ := h1 a er h
  exact ⟨rfl, hx⟩
set_option maxHeartbeats 2000000 in
set_option maxRecDepth 100000 in
theorem awake_any (w : World) (he : Env w) (hf : FormatsOK w) : Calls Tryd.prog 6 #[] w (BoolPost w true) := by
  go_enter Tryd.func6, Tryd.ntmps6
  go_wp2_with fail
  refine (Parse_ok _ exCmds _ (by decide) he hf ex_parse).mono ?_
  rintro e w1 ⟨⟨A, n, c, rfl, hv⟩, hx1⟩
  obtain ⟨b, off, A0, n0, c0, rfl, p0, p1, p2, p3, p4⟩ := hv.at_ (k := 0) (by decide)
  obtain ⟨b', off', A1, n1, c1, e1, q0, q1, q2, q3, q4⟩ := hv.at_ (k := 1) (by decide)
  injection e1 with e1
  injection e1 with e1 e2
  subst e1 e2
  obtain ⟨b', off', A2, n2, c2, e1, r0, r1, r2, r3, r4⟩ := hv.at_ (k := 2) (by decide)
  injection e1 with e1
  injection e1 with e1 e2
  subst e1 e2
  have hn : n = 3 := hv.inj.1
  have hcap : 3 ≤ c := hv.inj.2.1
  subst hn
  have hq4 : Row w1 (.slice A1 n1 c1) (iV [40]) := q4
  have t0 : w1.cell? ⟨b, off + 3, none⟩ = some (.string ⟨#[115, 104, 97, 114, 101, 100, 32, 115, 91, 50, 93, 59, 10]⟩) := p3
  have t1 : w1.cell? ⟨b, off + 4, none⟩ = some (.int .u8 8) := q0
  have t2 : w1.cell? ⟨b, off + 4 + 2, none⟩ = some (.slice A1 n1 c1) := q2
  have t3 : w1.cell? ⟨b, off + 8 + 1, none⟩ = some (.string ⟨#[116]⟩) := r1
  clear p0 p1 p2 p3 p4 q0 q1 q2 q3 q4 r0 r1 r2 r3 r4
  go_wp2_with fail
  have hE1 : Ext w1 (w1.alloc (.cells #[.int .i64 40] 3)) := (Ext.refl w1).alloc _
  have hrw : Row (w1.alloc (.cells #[.int .i64 40] 3)) (.slice (some ⟨w1.heap.size, 0, none⟩) 1 1) (iV [40]) := by
    refine ⟨_, 1, rfl, by simp, by omega, fun _ => ⟨_, 0, rfl, fun j u hj => ?_⟩⟩
    rw [Nat.zero_add, World.cell?_alloc_new]
    match j, hj with
    | 0, hj => simpa [iV] using hj
    | j + 1, hj => simp [iV] at hj
  refine (EqInts_any A1 _ n1 c1 1 1 [40] [40] _ (hq4.ext hE1) hrw).mono ?_
  rintro e w2 ⟨rfl, hx2⟩
  have t3 := (hE1.trans hx2).cell t3
  have hx3 := (hx1.trans hE1).trans hx2
  clear t0 t1 t2 hE1 hrw hq4
  rw [show decide ([(40 : Int)] = [40]) = true from rfl]
  go_wp2_with fail
  go_ret
  exact ⟨rfl, hx3⟩
end Go.Proofs.YtnbmmgeoglfbdaaDoor.Sc

/- DERIVED: THE SHELF's CONTRACTS AT THIS DUMP, IN PLAIN WORDS (tools/lay-plain.mjs out of 'TryzShelf.lean', which tools/lay-shelf.mjs wrote): THE SAME DECLARATIONS UNDER THE SAME NAMES: 'im -/
import Derived.OrdersHeld
import Derived.Shelf.Strings.Builder1
import Derived.Shelf.Strings.Builder2
import Derived.Shelf.Small.Bits
import Derived.Shelf.Small.Wraps
import Derived.Shelf.Strings.BuilderF
import Derived.Shelf.Strings.BuilderK
import Derived.Shelf.Utf8.RuneCount
import Derived.Shelf.Strings.Builder2Cap
import Derived.Shelf.Strconv.Atoi
import Derived.Shelf.Strconv.Itoa0
import Derived.Shelf.Strconv.Itoa1
import Derived.Shelf.LaysM
import Derived.Shelf.Strconv.Itoa2
import Derived.Shelf.Strconv.Itoa3
import Derived.Shelf.Strconv.AtoiErrFast
import Derived.Shelf.Strconv.ParseIntEmpty
import Derived.Shelf.Strconv.AtoiFail
import Derived.Shelf.Strconv.Clone
import Derived.Shelf.Strconv.SyntaxError
import Derived.Shelf.LaysC
import Derived.Shelf.Strconv.ToError
import Derived.Shelf.Strconv.AtoiErr
import Derived.Shelf.Strconv.ErrVar
import Derived.Shelf.Strconv.Lower
import Derived.Shelf.Strconv.ParseUint10
import Derived.Shelf.Strconv.ParseUint10Empty
import Derived.Shelf.Strconv.ParseUint10Any
import Derived.Shelf.Strconv.ParseInt10
import Derived.Shelf.Strconv.AtoiLong
import Derived.Shelf.Strconv.AtoiInnerAll
import Derived.Shelf.Strconv.RangeError
import Derived.Shelf.Strconv.ToErrorRange
import Derived.Shelf.Strconv.AtoiAll
import Derived.Shelf.Strconv.ErrVarAll
import Derived.Shelf.Strconv.ParseUintEmpty
import Derived.Shelf.Strconv.ParseUint10b64
import Derived.Shelf.Strconv.ParseUint10b32
import Derived.Shelf.Strconv.ParseUint10b16
import Derived.Shelf.Strconv.ParseUint10b8
import Derived.Shelf.Strconv.ParseUint10At
import Derived.Shelf.Strconv.ParseInt10At64
import Derived.Shelf.Strconv.ParseInt10At32
import Derived.Shelf.Strconv.ParseInt10At16
import Derived.Shelf.Strconv.ParseInt10At8
import Derived.Shelf.Strconv.ParseInt10All
import Derived.Shelf.Strings.Search1
import Derived.Shelf.Strings.Search2
import Derived.Shelf.Strings.Search3
import Derived.Shelf.Strings.Cut
import Derived.Shelf.Strings.Count
import Derived.Shelf.Strings.Shaped
import Derived.Shelf.Strings.Prefix
import Derived.Shelf.Strings.Split
import Derived.Shelf.Strings.SplitShaped
import Derived.Shelf.Unicode.Decode
import Derived.Shelf.Strings.RuneCount
import Derived.Shelf.Strings.Explode
import Derived.Shelf.Bits.Mul64
import Derived.Shelf.Strings.Repeat
import Derived.Shelf.Unicode.DecodeSlow
import Derived.Shelf.Unicode.DecodeAny
import Derived.Shelf.Strings.BuilderCap
import Derived.Test.YtljncdcjkdgkeaaGreatDoorProg
import Derived.Below
import Derived.Lib.BitFns
import Derived.Lib.ItoaNum
import Derived.WalkKit
import Derived.WalkSpells
import Derived.Lib.Hide
import Derived.Deep.Draws
set_option linter.unusedVariables false
set_option linter.unusedSimpArgs false
namespace Go.Proofs
open Go.Shelf
def Tryz.lays170_ren : Go.Shelf.Ren := ⟨fun | 170 => 34 | n => n, fun | 70 => 86 | 3 => 3 | 0 => 0 | 72 => 88 | 37 => 44 | 5 => 5 | n => n, fun | n => n⟩
theorem Tryz.lays170 : Go.Proofs.Lays.n170 Tryz.prog Tryz.lays170_ren := {
 mixed := by kernel_rfl
 f170 := Tryz.func34.trans (congrArg some (by kernel_rfl))
 t0 := Tryz.underlying0
 a0 := Tryz.isAgg0
 z0 := Tryz.sizeOf0
 v0 := Tryz.zeroValue0
 t3 := Tryz.underlying3
 a3 := Tryz.isAgg3
 z3 := Tryz.sizeOf3
 v3 := Tryz.zeroValue3
 t37 := Tryz.underlying44
 a37 := Tryz.isAgg44
 z37 := Tryz.sizeOf44
 v37 := Tryz.zeroValue44
 t70 := Tryz.underlying86
 a70 := Tryz.isAgg86
 z70 := Tryz.sizeOf86
 v70 := Tryz.zeroValue86
 t72 := Tryz.underlying88
 a72 := Tryz.isAgg88
 z72 := Tryz.sizeOf88
 v72 := Tryz.zeroValue88 }
open Go.RowKit in
theorem Tryz.Builder_Len (B b : Nat) (bs : List Value) (w : World) (h : Lib.IsBuilder 88 5 B b bs w) :
 Calls Tryz.prog 34 #[.pointer (some ⟨b, 0, none⟩)] w fun e w' => e = .returned (.int .i64 bs.length) ∧ w' = w := Any.Builder_Len Tryz.lays170 B b bs w h
def Tryz.lays169_ren : Go.Shelf.Ren := ⟨fun | 169 => 38 | n => n, fun | 70 => 86 | 9 => 9 | 0 => 0 | 72 => 88 | 37 => 44 | 127 => 134 | 3 => 3 | 5 => 5 | n => n, fun | n => n⟩
theorem Tryz.lays169 : Go.Proofs.Lays.n169 Tryz.prog Tryz.lays169_ren := {
 mixed := by kernel_rfl
 f169 := Tryz.func38.trans (congrArg some (by kernel_rfl))
 t0 := Tryz.underlying0
 a0 := Tryz.isAgg0
 z0 := Tryz.sizeOf0
 v0 := Tryz.zeroValue0
 t3 := Tryz.underlying3
 a3 := Tryz.isAgg3
 z3 := Tryz.sizeOf3
 v3 := Tryz.zeroValue3
 t9 := Tryz.underlying9
 a9 := Tryz.isAgg9
 z9 := Tryz.sizeOf9
 v9 := Tryz.zeroValue9
 t37 := Tryz.underlying44
 a37 := Tryz.isAgg44
 z37 := Tryz.sizeOf44
 v37 := Tryz.zeroValue44
 t70 := Tryz.underlying86
 a70 := Tryz.isAgg86
 z70 := Tryz.sizeOf86
 v70 := Tryz.zeroValue86
 t72 := Tryz.underlying88
 a72 := Tryz.isAgg88
 z72 := Tryz.sizeOf88
 v72 := Tryz.zeroValue88
 t127 := Tryz.underlying134
 a127 := Tryz.isAgg134
 z127 := Tryz.sizeOf134
 v127 := Tryz.zeroValue134 }
theorem Tryz.Builder_Extra_169 : Builder.Extra Tryz.prog Tryz.lays169_ren := {
 sizeBuilder := by kernel_rfl
 liesBuilder := by kernel_rfl
 t5 := Tryz.underlying5
 a5 := Tryz.isAgg5
 z5 := Tryz.sizeOf5
 v5 := Tryz.zeroValue5
 infoByte := by kernel_rfl
 cellsByte := by kernel_rfl
 sizeByte := by kernel_rfl
 neB5 := by decide }
open Go.RowKit in
theorem Tryz.Builder_String_any (B b : Nat) (l : List UInt8) (w : World) (h : Lib.IsBuilder 88 5 B b (Lib.byteCells l) w) (hBw : B ≤ w.heap.size) :
 Calls Tryz.prog 38 #[.pointer (some ⟨b, 0, none⟩)] w fun e w' => e = .returned (.string ⟨l.toArray⟩) ∧ Below B w w' := Any.Builder_String_any Tryz.lays169 Tryz.Builder_Extra_169 B b l w h hBw
def Tryz.lays128_ren : Go.Shelf.Ren := ⟨fun | 128 => 173 | n => n, fun | 51 => 147 | 3 => 3 | 4 => 4 | 46 => 119 | 5 => 5 | 9 => 9 | n => n, fun | n => n⟩
def Tryz.lays133_ren : Go.Shelf.Ren := ⟨fun | 133 => 138 | 128 => 173 | n => n, fun | 51 => 147 | 3 => 3 | 4 => 4 | 46 => 119 | 5 => 5 | 9 => 9 | n => n, fun | n => n⟩
theorem Tryz.lays133 : Go.Proofs.Lays.n133 Tryz.prog Tryz.lays133_ren := {
 mixed := by kernel_rfl
 f128 := Tryz.func173.trans (congrArg some (by kernel_rfl))
 f133 := Tryz.func138.trans (congrArg some (by kernel_rfl))
 t3 := Tryz.underlying3
 a3 := Tryz.isAgg3
 z3 := Tryz.sizeOf3
 v3 := Tryz.zeroValue3
 t4 := Tryz.underlying4
 a4 := Tryz.isAgg4
 z4 := Tryz.sizeOf4
 v4 := Tryz.zeroValue4
 t5 := Tryz.underlying5
 a5 := Tryz.isAgg5
 z5 := Tryz.sizeOf5
 v5 := Tryz.zeroValue5
 t9 := Tryz.underlying9
 a9 := Tryz.isAgg9
 z9 := Tryz.sizeOf9
 v9 := Tryz.zeroValue9
 t46 := Tryz.underlying119
 a46 := Tryz.isAgg119
 z46 := Tryz.sizeOf119
 v46 := Tryz.zeroValue119
 t51 := Tryz.underlying147
 a51 := Tryz.isAgg147
 z51 := Tryz.sizeOf147
 v51 := Tryz.zeroValue147 }
theorem Tryz.bits_LeadingZeros32 (x : Int) (w : World) (h0 : 0 ≤ x) (h1 : x ≤ 4294967295) :
 Calls Tryz.prog 138 #[.int .u32 x] w fun e w' => e = .returned (.int .i64 (32 - (Lib.bitLen x.toNat : Int))) ∧ w' = w := Any.bits_LeadingZeros32 Tryz.lays133 x w h0 h1
def Tryz.lays283_ren : Go.Shelf.Ren := ⟨fun | 283 => 116 | n => n, fun | 3 => 3 | 9 => 9 | 4 => 4 | n => n, fun | n => n⟩
theorem Tryz.lays283 : Go.Proofs.Lays.n283 Tryz.prog Tryz.lays283_ren := {
 mixed := by kernel_rfl
 f283 := Tryz.func116.trans (congrArg some (by kernel_rfl))
 t3 := Tryz.underlying3
 a3 := Tryz.isAgg3
 z3 := Tryz.sizeOf3
 v3 := Tryz.zeroValue3
 t4 := Tryz.underlying4
 a4 := Tryz.isAgg4
 z4 := Tryz.sizeOf4
 v4 := Tryz.zeroValue4
 t9 := Tryz.underlying9
 a9 := Tryz.isAgg9
 z9 := Tryz.sizeOf9
 v9 := Tryz.zeroValue9 }
open Go.Lib in
theorem Tryz.internal_strconv_small (i : Nat) (h : i < 100) (w : World) :
 Calls Tryz.prog 116 #[.int .i64 i] w fun e w' => e = .returned (.string ⟨(Lib.decDigits i).toArray⟩) ∧ w' = w := Any.internal_strconv_small Tryz.lays283 i h w
def Tryz.laysM284_ren : Go.Shelf.Ren := ⟨fun | 284 => 117 | 129 => 143 | 317 => 142 | 318 => 144 | n => n, fun | 53 => 145 | 3 => 3 | 212 => 208 | 0 => 0 | 4 => 4 | 46 => 119 | 5 => 5 | 9 => 9 | n => n, fun | 17 => 0 | n => n⟩
theorem Tryz.laysM284 : Go.Proofs.LaysM.n284 Tryz.prog Tryz.laysM284_ren := {
 mixed := by kernel_rfl
 f129 := Tryz.func143.trans (congrArg some (by kernel_rfl))
 f284 := Tryz.func117.trans (congrArg some (by kernel_rfl))
 f317 := Tryz.func142.trans (congrArg some (by kernel_rfl))
 f318 := Tryz.func144.trans (congrArg some (by kernel_rfl))
 t0 := Tryz.underlying0
 a0 := Tryz.isAgg0
 z0 := Tryz.sizeOf0
 v0 := Tryz.zeroValue0
 t3 := Tryz.underlying3
 a3 := Tryz.isAgg3
 z3 := Tryz.sizeOf3
 v3 := Tryz.zeroValue3
 t4 := Tryz.underlying4
 a4 := Tryz.isAgg4
 z4 := Tryz.sizeOf4
 v4 := Tryz.zeroValue4
 t5 := Tryz.underlying5
 a5 := Tryz.isAgg5
 z5 := Tryz.sizeOf5
 v5 := Tryz.zeroValue5
 t9 := Tryz.underlying9
 a9 := Tryz.isAgg9
 z9 := Tryz.sizeOf9
 v9 := Tryz.zeroValue9
 t46 := Tryz.underlying119
 a46 := Tryz.isAgg119
 z46 := Tryz.sizeOf119
 v46 := Tryz.zeroValue119
 t53 := Tryz.underlying145
 a53 := Tryz.isAgg145
 z53 := Tryz.sizeOf145
 v53 := Tryz.zeroValue145
 t212 := Tryz.underlying208
 a212 := Tryz.isAgg208
 z212 := Tryz.sizeOf208
 v212 := Tryz.zeroValue208
 g17 := by kernel_rfl
 i0 := by kernel_rfl
 i3 := by kernel_rfl
 i4 := by kernel_rfl
 i5 := by kernel_rfl
 i9 := by kernel_rfl
 i46 := by kernel_rfl
 i53 := by kernel_rfl
 i212 := by kernel_rfl
 m17 := by kernel_rfl }
open Go.Lib in
theorem Tryz.internal_strconv_numDigits (u : Nat) (h1 : 1 ≤ u) (h2 : u < 18446744073709551616) (w : World) (htab : Lib.TabIs Tryz.prog w "internal/strconv.uint64pow10" .u64 Lib.pow10Tab) :
 Calls Tryz.prog 117 #[.int .u64 u] w fun e w' => e = .returned (.int .i64 (Lib.nDigits u)) ∧ w' = w := Any.internal_strconv_numDigits Tryz.laysM284 u h1 h2 w htab
def Tryz.lays285_ren : Go.Shelf.Ren := ⟨fun | 285 => 118 | n => n, fun | 37 => 44 | 53 => 145 | 3 => 3 | 4 => 4 | 51 => 147 | 9 => 9 | 5 => 5 | 0 => 0 | n => n, fun | n => n⟩
theorem Tryz.lays285 : Go.Proofs.Lays.n285 Tryz.prog Tryz.lays285_ren := {
 mixed := by kernel_rfl
 f285 := Tryz.func118.trans (congrArg some (by kernel_rfl))
 t0 := Tryz.underlying0
 a0 := Tryz.isAgg0
 z0 := Tryz.sizeOf0
 v0 := Tryz.zeroValue0
 t3 := Tryz.underlying3
 a3 := Tryz.isAgg3
 z3 := Tryz.sizeOf3
 v3 := Tryz.zeroValue3
 t4 := Tryz.underlying4
 a4 := Tryz.isAgg4
 z4 := Tryz.sizeOf4
 v4 := Tryz.zeroValue4
 t5 := Tryz.underlying5
 a5 := Tryz.isAgg5
 z5 := Tryz.sizeOf5
 v5 := Tryz.zeroValue5
 t9 := Tryz.underlying9
 a9 := Tryz.isAgg9
 z9 := Tryz.sizeOf9
 v9 := Tryz.zeroValue9
 t37 := Tryz.underlying44
 a37 := Tryz.isAgg44
 z37 := Tryz.sizeOf44
 v37 := Tryz.zeroValue44
 t51 := Tryz.underlying147
 a51 := Tryz.isAgg147
 z51 := Tryz.sizeOf147
 v51 := Tryz.zeroValue147
 t53 := Tryz.underlying145
 a53 := Tryz.isAgg145
 z53 := Tryz.sizeOf145
 v53 := Tryz.zeroValue145 }
open Go.RowKit Go.Sort Go.Lib in
theorem Tryz.internal_strconv_formatBase10 (blk off cap : Nat) (u : Nat) (d : Array UInt8) (w : World) (hH : Holds (fun (b : UInt8) => Value.int .u8 (b.toNat : Int)) w blk off d) (hu : u < 10 ^ d.size) (hu64 : u < 18446744073709551616) (hsz : d.size < 4611686018427387904) :
 Calls Tryz.prog 118 #[.slice (some ⟨blk, off, none⟩) d.size cap, .int .u64 u] w fun e w' =>
  e = .returned (.tuple #[]) ∧ ∃ (n v' : Nat) (dk : Array UInt8), w' = (putRow (fun (b : UInt8) => Value.int .u8 (b.toNat : Int)) w blk off dk).drewN n ∧ FmtInv d.size u 0 v' dk := Any.internal_strconv_formatBase10 Tryz.lays285 blk off cap u d w hH hu hu64 hsz
def Tryz.lays105_ren : Go.Shelf.Ren := ⟨fun | 105 => 100 | 212 => 121 | 99 => 122 | 165 => 123 | 166 => 35 | 170 => 34 | 169 => 38 | 263 => 147 | 264 => 148 | 206 => 149 | 240 => 68 | 241 => 150 | 276 => 95 | 277 => 176 | n => n, fun | 9 => 9 | 3 => 3 | 4 => 4 | 20 => 20 | 0 => 0 | 46 => 119 | 109 => 186 | 5 => 5 | 72 => 88 | 76 => 93 | 51 => 147 | 146 => 212 | 53 => 145 | 148 => 214 | 70 => 86 | 37 => 44 | 75 => 92 | 127 => 134 | 164 => 160 | 80 => 96 | n => n, fun | n => n⟩
theorem Tryz.lays105 : Go.Proofs.Lays.n105 Tryz.prog Tryz.lays105_ren := {
 mixed := by kernel_rfl
 f99 := Tryz.func122.trans (congrArg some (by kernel_rfl))
 f105 := Tryz.func100.trans (congrArg some (by kernel_rfl))
 f165 := Tryz.func123.trans (congrArg some (by kernel_rfl))
 f166 := Tryz.func35.trans (congrArg some (by kernel_rfl))
 f169 := Tryz.func38.trans (congrArg some (by kernel_rfl))
 f170 := Tryz.func34.trans (congrArg some (by kernel_rfl))
 f206 := Tryz.func149.trans (congrArg some (by kernel_rfl))
 f212 := Tryz.func121.trans (congrArg some (by kernel_rfl))
 f240 := Tryz.func68.trans (congrArg some (by kernel_rfl))
 f241 := Tryz.func150.trans (congrArg some (by kernel_rfl))
 f263 := Tryz.func147.trans (congrArg some (by kernel_rfl))
 f264 := Tryz.func148.trans (congrArg some (by kernel_rfl))
 f276 := Tryz.func95.trans (congrArg some (by kernel_rfl))
 f277 := Tryz.func176.trans (congrArg some (by kernel_rfl))
 t0 := Tryz.underlying0
 a0 := Tryz.isAgg0
 z0 := Tryz.sizeOf0
 v0 := Tryz.zeroValue0
 t3 := Tryz.underlying3
 a3 := Tryz.isAgg3
 z3 := Tryz.sizeOf3
 v3 := Tryz.zeroValue3
 t4 := Tryz.underlying4
 a4 := Tryz.isAgg4
 z4 := Tryz.sizeOf4
 v4 := Tryz.zeroValue4
 t5 := Tryz.underlying5
 a5 := Tryz.isAgg5
 z5 := Tryz.sizeOf5
 v5 := Tryz.zeroValue5
 t9 := Tryz.underlying9
 a9 := Tryz.isAgg9
 z9 := Tryz.sizeOf9
 v9 := Tryz.zeroValue9
 t20 := Tryz.underlying20
 a20 := Tryz.isAgg20
 z20 := Tryz.sizeOf20
 v20 := Tryz.zeroValue20
 t37 := Tryz.underlying44
 a37 := Tryz.isAgg44
 z37 := Tryz.sizeOf44
 v37 := Tryz.zeroValue44
 t46 := Tryz.underlying119
 a46 := Tryz.isAgg119
 z46 := Tryz.sizeOf119
 v46 := Tryz.zeroValue119
 t51 := Tryz.underlying147
 a51 := Tryz.isAgg147
 z51 := Tryz.sizeOf147
 v51 := Tryz.zeroValue147
 t53 := Tryz.underlying145
 a53 := Tryz.isAgg145
 z53 := Tryz.sizeOf145
 v53 := Tryz.zeroValue145
 t70 := Tryz.underlying86
 a70 := Tryz.isAgg86
 z70 := Tryz.sizeOf86
 v70 := Tryz.zeroValue86
 t72 := Tryz.underlying88
 a72 := Tryz.isAgg88
 z72 := Tryz.sizeOf88
 v72 := Tryz.zeroValue88
 t75 := Tryz.underlying92
 a75 := Tryz.isAgg92
 z75 := Tryz.sizeOf92
 v75 := Tryz.zeroValue92
 t76 := Tryz.underlying93
 a76 := Tryz.isAgg93
 z76 := Tryz.sizeOf93
 v76 := Tryz.zeroValue93
 t109 := Tryz.underlying186
 a109 := Tryz.isAgg186
 z109 := Tryz.sizeOf186
 v109 := Tryz.zeroValue186
 t127 := Tryz.underlying134
 a127 := Tryz.isAgg134
 z127 := Tryz.sizeOf134
 v127 := Tryz.zeroValue134
 t146 := Tryz.underlying212
 a146 := Tryz.isAgg212
 z146 := Tryz.sizeOf212
 v146 := Tryz.zeroValue212
 t148 := Tryz.underlying214
 a148 := Tryz.isAgg214
 z148 := Tryz.sizeOf214
 v148 := Tryz.zeroValue214
 t164 := Tryz.underlying160
 a164 := Tryz.isAgg160
 z164 := Tryz.sizeOf160
 v164 := Tryz.zeroValue160 }
theorem Tryz.Builder_Extra_105 : Builder.Extra Tryz.prog Tryz.lays105_ren := {
 sizeBuilder := by kernel_rfl
 liesBuilder := by kernel_rfl
 t5 := Tryz.underlying5
 a5 := Tryz.isAgg5
 z5 := Tryz.sizeOf5
 v5 := Tryz.zeroValue5
 infoByte := by kernel_rfl
 cellsByte := by kernel_rfl
 sizeByte := by kernel_rfl
 neB5 := by decide }
open Go.RowKit Go.Lib in
theorem Tryz.strings_Repeat_main (s : ByteArray) (c : Nat) (w : World) (hc2 : 2 ≤ c) (hc : c ≤ 9223372036854775807) (hlen : s.size * c ≤ 140737488355328) (h0 : 0 < s.size) :
 Calls Tryz.prog 100 #[.string s, .int .i64 c] w fun e w' => e = .returned (.string ⟨(Lib.repeatL s.data.toList c).toArray⟩) ∧ Below w.heap.size w w' := Any.strings_Repeat_main Tryz.lays105 Tryz.Builder_Extra_105 s c w hc2 hc hlen h0
open Go.RowKit Go.Lib in
theorem Tryz.strings_Repeat_zero (s : ByteArray) (w : World) :
 Calls Tryz.prog 100 #[.string s, .int .i64 0] w fun e w' => e = .returned (.string ⟨#[]⟩) ∧ w' = w := Any.strings_Repeat_zero Tryz.lays105 s w
open Go.RowKit Go.Lib in
theorem Tryz.strings_Repeat_one (s : ByteArray) (w : World) :
 Calls Tryz.prog 100 #[.string s, .int .i64 1] w fun e w' => e = .returned (.string s) ∧ w' = w := Any.strings_Repeat_one Tryz.lays105 s w
end Go.Proofs
namespace Go.Proofs.YtljncdcjkdgkeaaGreatDoor.Big
def pw (n : Nat) : Nat := 4294967296 ^ n
theorem qcr : pw 0 = 1 := rfl
theorem qfe (n : Nat) : pw (n + 1) = pw n * 4294967296 := Nat.pow_succ ..
theorem qpt (n : Nat) : 0 < pw n := Nat.pow_pos (by omega)
theorem qv1 (a b : Nat) : pw (a + b) = pw a * pw b := Nat.pow_add ..
theorem qcv {a b : Nat} (h : a ≤ b) : pw a ≤ pw b := Nat.pow_le_pow_right (by omega) h
theorem qfj : pw 1 = 4294967296 := rfl
theorem le_of_pw {n L V : Nat} (h : pw (n - 1) ≤ V) (hV : V < pw L) : n ≤ L := by
 rcases Nat.lt_or_ge L n with h1 | h1
 ·have := qcv (show L ≤ n - 1 by omega); omega
 ·exact h1
def dgt (V j : Nat) : Nat := V / pw j % 4294967296
theorem qpa (V j : Nat) : dgt V j < 4294967296 := Nat.mod_lt _ (by omega)
theorem q1n (V j : Nat) : V % pw (j + 1) = V % pw j + pw j * dgt V j := by
 rw [qfe]; exact Nat.mod_mul
theorem q12 (V j : Nat) : V / pw j = V / pw (j + 1) * 4294967296 + dgt V j := by
 unfold dgt; rw [qfe, ← Nat.div_div_eq_div_mul]; omega
theorem qfl {V j : Nat} (h : V < pw j) : dgt V j = 0 := by
 unfold dgt; rw [Nat.div_eq_of_lt h]
theorem q6u {V n : Nat} (h : V < pw (n + 1)) (hd : dgt V n = 0) : V < pw n := by
 have h1 := q12 V n
 have h2 : V / pw (n + 1) = 0 := Nat.div_eq_of_lt h
 rw [h2, hd] at h1
 have := (Nat.div_eq_zero_iff (a := V) (b := pw n)).1 (by omega)
 have := qpt n
 omega
theorem qzq {V n : Nat} (hd : dgt V n ≠ 0) : pw n ≤ V := by
 rcases Nat.lt_or_ge V (pw n) with h | h
 ·exact absurd (qfl h) hd
 ·exact h
theorem dgt_mod {V n j : Nat} (h : j < n) : dgt (V % pw n) j = dgt V j := by
 unfold dgt
 obtain ⟨k, rfl⟩ : ∃ k, n = j + (k + 1) := ⟨n - j - 1, by omega⟩
 rw [qv1, qfe, Nat.mul_comm (pw k), Nat.mod_mul_right_div_self, Nat.mod_mul_right_mod]
theorem qfk {V n : Nat} (h : V < pw n) : V % pw n = V := Nat.mod_eq_of_lt h
theorem mod_le (V n : Nat) : V % pw n < pw n := Nat.mod_lt _ (qpt n)
theorem qks {V W i : Nat} (hd : V / pw (i + 1) = W / pw (i + 1)) (h : dgt V i < dgt W i) : V < W := by
 have h1 := q12 V i
 have h2 := q12 W i
 rw [hd] at h1
 have h3 : V / pw i < W / pw i := by omega
 exact Nat.lt_of_div_lt_div h3
theorem q7h {V W i : Nat} (hd : V / pw (i + 1) = W / pw (i + 1)) (h : dgt V i = dgt W i) : V / pw i = W / pw i := by
 have h1 := q12 V i
 have h2 := q12 W i
 rw [hd, h] at h1; omega
theorem qaa {A k t : Nat} : (A + pw k * t) / pw (k + 1) = (A / pw k + t) / 4294967296 := by
 rw [qfe, ← Nat.div_div_eq_div_mul, Nat.add_mul_div_left _ _ (qpt k)]
theorem qaz {A k t : Nat} : dgt (A + pw k * t) k = (A / pw k + t) % 4294967296 := by
 unfold dgt; rw [Nat.add_mul_div_left _ _ (qpt k)]
theorem qtf {V W k : Nat} (h : V % pw (k + 1) = W % pw (k + 1)) : dgt V k = dgt W k := by
 rw [← dgt_mod (V := V) (Nat.lt_succ_self k), ← dgt_mod (V := W) (Nat.lt_succ_self k), h]
theorem qwi (V W k : Nat) : dgt (V + pw (k + 1) * W) k = dgt V k := qtf (by rw [Nat.add_mul_mod_self_left])
theorem qdp (V n : Nat) : V = V % pw n + pw n * (V / pw n) := (Nat.mod_add_div V (pw n)).symm
theorem ring1 {X Y a b p q dx dy s t : Nat} (h1 : X = a + p * dx + q * s) (h2 : Y = b + p * dy + q * t) : X + Y = ((a + b) + p * (dx + dy)) + q * (s + t) := by subst h1 h2; grind
theorem ring2 {X a p q dx s f m : Nat} (h1 : X = a + p * dx + q * s) : X * f + m = ((m + f * a) + p * (dx * f)) + q * (s * f) := by subst h1; grind
theorem ring3 (a b p x y : Nat) : a + p * x + (b + p * y) = (a + b) + p * (x + y) := by grind
theorem ring4 (m f a p d : Nat) : m + f * (a + p * d) = (m + f * a) + p * (d * f) := by grind
/- the sum -/
def sumc (X Y i : Nat) : Nat := (X % pw i + Y % pw i) / pw i
theorem q3l (X Y : Nat) : sumc X Y 0 = 0 := by simp [sumc, qcr, Nat.mod_one]
theorem qpc (X Y i : Nat) : sumc X Y (i + 1) = (dgt X i + dgt Y i + sumc X Y i) / 4294967296 := by
 unfold sumc
 rw [q1n, q1n, ring3, qaa]
 congr 1; omega
theorem q74 (X Y i : Nat) : dgt (X + Y) i = (dgt X i + dgt Y i + sumc X Y i) % 4294967296 := by
 have : (X + Y) = ((X % pw i + Y % pw i) + pw i * (dgt X i + dgt Y i)) + pw (i + 1) * (X / pw (i + 1) + Y / pw (i + 1)) := by
  have h1 := qdp X (i + 1)
  have h2 := qdp Y (i + 1)
  rw [q1n] at h1 h2
  exact ring1 h1 h2
 rw [this, qwi, qaz]
 unfold sumc; congr 1; omega
theorem qyw (X Y i : Nat) : sumc X Y i ≤ 1 := by
 unfold sumc
 have h1 := mod_le X i
 have h2 := mod_le Y i
 have := (Nat.div_lt_iff_lt_mul (qpt i) (x := X % pw i + Y % pw i) (y := 2)).2 (by omega)
 omega
theorem qqm {X Y n : Nat} (hX : X < pw n) (hY : Y < pw n) : sumc X Y n = dgt (X + Y) n := by
 have := qyw X Y n
 unfold sumc at *; unfold dgt; rw [qfk hX, qfk hY] at *
 generalize (X + Y) / pw n = q at *
 omega
/- the difference: the borrow -/
def difc (X Y i : Nat) : Nat := if X % pw i < Y % pw i then 1 else 0
theorem difc_zero (X Y : Nat) : difc X Y 0 = 0 := by simp [difc, qcr, Nat.mod_one]
theorem qbv (X Y i : Nat) : difc X Y i ≤ 1 := by unfold difc; split <;> omega
theorem qsp (X Y i : Nat) (h : Y ≤ X) :
 (dgt X i < dgt Y i + difc X Y i → difc X Y (i + 1) = 1 ∧ dgt (X - Y) i + dgt Y i + difc X Y i = dgt X i + 4294967296) ∧
 (dgt Y i + difc X Y i ≤ dgt X i → difc X Y (i + 1) = 0 ∧ dgt (X - Y) i + dgt Y i + difc X Y i = dgt X i) := by
 -- the sum of X - Y and Y
 have hs := q74 (X - Y) Y i
 have hc := qpc (X - Y) Y i
 have e : X - Y + Y = X := by omega
 rw [e] at hs
 have key : ∀ k, difc X Y k = sumc (X - Y) Y k := by
  intro k
  unfold difc sumc
  have h1 : X % pw k = ((X - Y) % pw k + Y % pw k) % pw k := by rw [← Nat.add_mod, e]
  have a1 := mod_le (X - Y) k
  have a2 := mod_le Y k
  rcases Nat.lt_or_ge ((X - Y) % pw k + Y % pw k) (pw k) with hl | hl
  ·rw [Nat.mod_eq_of_lt hl] at h1
   rw [Nat.div_eq_of_lt hl, if_neg (by omega)]
  ·have h2 : ((X - Y) % pw k + Y % pw k) % pw k = (X - Y) % pw k + Y % pw k - pw k := by
    rw [Nat.mod_eq_sub_mod hl, Nat.mod_eq_of_lt (by omega)]
   have h3 : ((X - Y) % pw k + Y % pw k) / pw k = 1 := by
    have u := qyw (X - Y) Y k
    unfold sumc at u
    have := (Nat.le_div_iff_mul_le (qpt k) (x := 1) (y := (X - Y) % pw k + Y % pw k)).2 (by omega)
    omega
   rw [h3, if_pos (by omega)]
 rw [key i, key (i + 1), hc, hs]
 have b1 := qpa (X - Y) i
 have b2 := qpa Y i
 have b3 := qyw (X - Y) Y i
 constructor <;> intro h <;> omega
/- digits times a factor, plus more -/
def scac (X f m i : Nat) : Nat := (m + f * (X % pw i)) / pw i
theorem qg0 (X f m : Nat) : scac X f m 0 = m := by simp [scac, qcr, Nat.mod_one]
theorem qhk (X f m i : Nat) : scac X f m (i + 1) = (dgt X i * f + scac X f m i) / 4294967296 := by
 unfold scac
 rw [q1n, ring4, qaa]
 congr 1; omega
theorem qzo (X f m i : Nat) : dgt (X * f + m) i = (dgt X i * f + scac X f m i) % 4294967296 := by
 have : X * f + m = ((m + f * (X % pw i)) + pw i * (dgt X i * f)) + pw (i + 1) * (X / pw (i + 1) * f) := by
  have h1 := qdp X (i + 1)
  rw [q1n] at h1
  exact ring2 h1
 rw [this, qwi, qaz]
 unfold scac; congr 1; omega
theorem qey (X f m i : Nat) (hf : 0 < f) (hm : m < f) : scac X f m i < f := by
 unfold scac
 rw [Nat.div_lt_iff_lt_mul (qpt i)]
 have h1 := mod_le X i
 have h2 : f * (X % pw i) + f ≤ f * pw i := by
  have : f * (X % pw i + 1) ≤ f * pw i := Nat.mul_le_mul_left _ (by omega)
  rwa [Nat.mul_add, Nat.mul_one] at this
 omega
theorem qmi {X f m n : Nat} (hX : X < pw n) (h : X * f + m < pw (n + 1)) : scac X f m n = dgt (X * f + m) n := by
 unfold scac dgt
 rw [qfk hX, Nat.add_comm m, Nat.mul_comm f X]
 have : (X * f + m) / pw n < 4294967296 := by
  rw [Nat.div_lt_iff_lt_mul (qpt n)]; rw [qfe] at h; omega
 generalize (X * f + m) / pw n = q at *
 omega
/- division by one small number, from the top -/
theorem qny (X a b : Nat) : X / a / b = X / b / a := by rw [Nat.div_div_eq_div_mul, Nat.div_div_eq_div_mul, Nat.mul_comm]
theorem ring5 (b q r d : Nat) : (b * q + r) * 4294967296 + d = (r * 4294967296 + d) + b * (q * 4294967296) := by
 rw [Nat.add_mul, Nat.mul_assoc]; omega
theorem dvs_lt {r d b : Nat} (hr : r < b) (hd : d < 4294967296) : (r * 4294967296 + d) / b < 4294967296 := by
 rw [Nat.div_lt_iff_lt_mul (by omega)]
 have : (r + 1) * 4294967296 ≤ b * 4294967296 := Nat.mul_le_mul_right _ hr
 omega
theorem dvs_dgt (X b i : Nat) (hb : 0 < b) : dgt (X / b) i = ((X / pw (i + 1)) % b * 4294967296 + dgt X i) / b := by
 have h1 := q12 X i
 have h2 := Nat.div_add_mod (X / pw (i + 1)) b
 have h3 := dvs_lt (Nat.mod_lt (X / pw (i + 1)) hb) (qpa X i)
 show X / b / pw i % 4294967296 = _
 rw [qny, h1, ← h2, ring5, Nat.add_mul_div_left _ _ hb]
 rw [Nat.mul_add_mod, Nat.mod_mod]
 generalize ((X / pw (i + 1)) % b * 4294967296 + dgt X i) / b = q at *
 omega
theorem dvs_mod (X b i : Nat) : (X / pw i) % b = ((X / pw (i + 1)) % b * 4294967296 + dgt X i) % b := by
 have h1 := q12 X i
 have h2 := Nat.div_add_mod (X / pw (i + 1)) b
 rw [h1, ← h2, ring5, Nat.add_mul_mod_self_left, Nat.mul_add_mod, Nat.mod_mod]
/- shifts to the right -/
theorem shr_dgt (X s i : Nat) (hs : s ≤ 32) : dgt (X / 2 ^ s) i = (dgt X (i + 1) * 4294967296 + dgt X i) / 2 ^ s % 4294967296 := by
 have h1 := q12 X i
 have h2 := q12 X (i + 1)
 have hp : 0 < 2 ^ s := Nat.two_pow_pos s
 have hB : 2 ^ s * 2 ^ (32 - s) = 4294967296 := by rw [← Nat.pow_add, show s + (32 - s) = 32 by omega]
 show X / 2 ^ s / pw i % 4294967296 = _
 rw [qny, h1, h2]
 generalize X / pw (i + 1 + 1) = q
 rw [show (q * 4294967296 + dgt X (i + 1)) * 4294967296 + dgt X i = (dgt X (i + 1) * 4294967296 + dgt X i) + 2 ^ s * (q * 2 ^ (32 - s) * 4294967296) by
  rw [show 2 ^ s * (q * 2 ^ (32 - s) * 4294967296) = (2 ^ s * 2 ^ (32 - s)) * (q * 4294967296) by ac_rfl, hB]; omega]
 rw [Nat.add_mul_div_left _ _ hp, Nat.add_mul_mod_self_right]
/- the product: row i, place j -/
def prow (X Y i : Nat) : Nat := X % pw i * Y
def mulA (X Y i j : Nat) : Nat := prow X Y i % pw (i + j) + dgt X i * pw i * (Y % pw j)
def mulc (X Y i j : Nat) : Nat := mulA X Y i j / pw (i + j)
theorem prow_zero (X Y : Nat) : prow X Y 0 = 0 := by simp [prow, qcr, Nat.mod_one]
theorem ring6 (a p d y : Nat) : (a + p * d) * y = a * y + d * p * y := by rw [Nat.add_mul, Nat.mul_comm p d]
theorem qz2 (X Y i : Nat) : prow X Y (i + 1) = prow X Y i + dgt X i * pw i * Y := by
 unfold prow; rw [q1n, ring6]
theorem qzt {X Y i m : Nat} (hY : Y < pw m) : prow X Y i < pw (i + m) := by
 unfold prow
 rw [qv1]
 have h1 := mod_le X i
 have h2 : X % pw i * Y ≤ X % pw i * pw m := Nat.mul_le_mul_left _ (by omega)
 have h3 : (X % pw i + 1) * pw m ≤ pw i * pw m := Nat.mul_le_mul_right _ (by omega)
 rw [Nat.add_mul] at h3
 have := qpt m
 omega
theorem qvb {X Y n : Nat} (hX : X < pw n) : prow X Y n = X * Y := by unfold prow; rw [qfk hX]
theorem ring7 (a p q s d e t : Nat) : a + p * q * d + e * p * (t + q * s) = (a + e * p * t) + p * q * (d + e * s) := by grind
theorem qkt (X Y i j : Nat) : mulA X Y i (j + 1) = mulA X Y i j + pw (i + j) * (dgt (prow X Y i) (i + j) + dgt X i * dgt Y j) := by
 unfold mulA
 rw [← Nat.add_assoc, q1n, q1n, qv1 i j, ring7]
theorem mulc_zero (X Y i : Nat) : mulc X Y i 0 = 0 := by
 unfold mulc mulA; rw [qcr, Nat.mod_one, Nat.mul_zero, Nat.add_zero, Nat.add_zero]; exact Nat.div_eq_of_lt (mod_le _ _)
theorem mulc_succ (X Y i j : Nat) : mulc X Y i (j + 1) = (dgt X i * dgt Y j + dgt (prow X Y i) (i + j) + mulc X Y i j) / 4294967296 := by
 unfold mulc
 rw [qkt, ← Nat.add_assoc, qaa]
 congr 1; omega
theorem ring8 (a p q s y z e b : Nat) (h1 : a = b + p * q * z) : a + e * p * (y + q * s) = (b + e * p * y) + p * q * (z + e * s) := by subst h1; grind
theorem mul_dgt (X Y i j : Nat) : dgt (prow X Y (i + 1)) (i + j) = (dgt X i * dgt Y j + dgt (prow X Y i) (i + j) + mulc X Y i j) % 4294967296 := by
 have h1 := qdp (prow X Y i) (i + (j + 1))
 have h2 := qdp Y (j + 1)
 have h3 : prow X Y (i + 1) = mulA X Y i (j + 1) + pw (i + j + 1) * (prow X Y i / pw (i + (j + 1)) + dgt X i * (Y / pw (j + 1))) := by
  rw [qz2]
  unfold mulA
  rw [Nat.add_assoc i j 1]
  rw [qv1 i (j + 1)] at h1 ⊢
  conv => lhs; arg 2; rw [h2]
  exact ring8 _ _ _ _ _ _ _ _ h1
 rw [h3, qwi, qkt, qaz]
 unfold mulc
 congr 1; omega
theorem mulA_lt (X Y i j : Nat) : mulA X Y i j < pw (i + j) * 4294967296 := by
 unfold mulA
 have h1 := mod_le (prow X Y i) (i + j)
 have h2 := mod_le Y j
 have h3 : dgt X i * pw i * (Y % pw j) ≤ 4294967295 * pw i * pw j := Nat.mul_le_mul (Nat.mul_le_mul_right _ (by have := qpa X i; omega)) (by omega)
 rw [Nat.mul_assoc 4294967295, ← qv1] at h3
 omega
theorem mulc_lt (X Y i j : Nat) : mulc X Y i j < 4294967296 := by
 unfold mulc
 rw [Nat.div_lt_iff_lt_mul (qpt _), Nat.mul_comm]
 exact mulA_lt X Y i j
theorem mulc_full {X Y i m : Nat} (hY : Y < pw m) : mulc X Y i m = dgt (prow X Y (i + 1)) (i + m) := by
 have h1 := mulc_lt X Y i m
 have h2 : mulA X Y i m = prow X Y (i + 1) := by
  unfold mulA
  rw [qfk (qzt hY), qfk hY, qz2]
 unfold mulc at *
 unfold dgt
 rw [h2] at h1 ⊢
 exact (Nat.mod_eq_of_lt h1).symm
theorem prow_high {X Y i m p : Nat} (hY : Y < pw m) (hp : i + m < p) : dgt (prow X Y i) p = dgt (prow X Y (i + 1)) p := by
 rw [qfl (Nat.lt_of_lt_of_le (qzt (X := X) (i := i) hY) (qcv (by omega))),
  qfl (Nat.lt_of_lt_of_le (qzt (X := X) (i := i + 1) hY) (qcv (by omega)))]
theorem mul_bound {a b c d : Nat} (ha : a < 4294967296) (hb : b < 4294967296) (hc : c < 4294967296) (hd : d < 4294967296) : a * b + c + d < 18446744073709551616 := by
 have : a * b ≤ 4294967295 * 4294967295 := Nat.mul_le_mul (by omega) (by omega)
 omega
theorem mul_lt_pw {X Y n m : Nat} (hX : X < pw n) (hY : Y < pw m) : X * Y < pw (n + m) := by
 rw [← qvb (Y := Y) hX]; exact qzt hY
theorem qia {D n : Nat} (hn : 0 < n) (hD : D < pw n) : D / pw (n - 1) = dgt D (n - 1) := by
 have h := q12 D (n - 1)
 rw [show n - 1 + 1 = n by omega, Nat.div_eq_of_lt hD] at h
 omega
theorem div_pw2 {D n : Nat} (hn : 2 ≤ n) (hD : D < pw n) : D / pw (n - 2) = dgt D (n - 1) * 4294967296 + dgt D (n - 2) := by
 have h := q12 D (n - 2)
 rw [show n - 2 + 1 = n - 1 by omega, qia (by omega) hD] at h
 exact h
section
variable {P D n : Nat}
theorem guess_ge (hn : 0 < n) (hD : D < pw n) : P / D * dgt D (n - 1) ≤ P / pw (n - 1) := by
 rw [← qia hn hD, Nat.le_div_iff_mul_le (qpt _), Nat.mul_assoc]
 exact Nat.le_trans (Nat.mul_le_mul_left _ (Nat.div_mul_le_self _ _)) (Nat.div_mul_le_self _ _)
theorem high_lt (hn : 0 < n) (hD : D < pw n) (hP : P < 4294967296 * D) : P / pw (n - 1) < 4294967296 * dgt D (n - 1) + 4294967296 := by
 rw [Nat.div_lt_iff_lt_mul (qpt _), ← qia hn hD, show 4294967296 * (D / pw (n - 1)) + 4294967296 = 4294967296 * (D / pw (n - 1) + 1) by omega, Nat.mul_assoc]
 have := Nat.lt_div_mul_add (qpt (n - 1)) (a := D)
 rw [← Nat.succ_mul] at this
 exact Nat.lt_of_lt_of_le hP (Nat.mul_le_mul_left _ (Nat.le_of_lt this))
theorem guess_gt {g : Nat} (hD0 : 0 < D) (h : P / pw (n - 2) < g * (D / pw (n - 2))) : P / D < g := by
 rcases Nat.lt_or_ge (P / D) g with h1 | h1
 ·exact h1
 ·exfalso
  have h1 : g ≤ P / D := h1
  rw [Nat.le_div_iff_mul_le hD0] at h1
  have h2 : g * (D / pw (n - 2)) * pw (n - 2) ≤ P := Nat.le_trans (by rw [Nat.mul_assoc]; exact Nat.mul_le_mul_left _ (Nat.div_mul_le_self _ _)) h1
  rw [← Nat.le_div_iff_mul_le (qpt _)] at h2
  exact absurd h (Nat.not_lt.2 h2)
theorem guess_le {g : Nat} (hn : 2 ≤ n) (hDl : pw (n - 1) ≤ D) (hg : g < 4294967296) (h : g * (D / pw (n - 2)) ≤ P / pw (n - 2)) : g ≤ P / D + 1 := by
 have hD0 : 0 < D := Nat.lt_of_lt_of_le (qpt _) hDl
 rcases Nat.eq_zero_or_pos g with h0 | h0
 ·rw [h0]; exact Nat.zero_le _
 have h1 : g * (D / pw (n - 2)) * pw (n - 2) ≤ P := Nat.le_trans (Nat.mul_le_mul_right _ h) (Nat.div_mul_le_self _ _)
 have h2 : D < D / pw (n - 2) * pw (n - 2) + pw (n - 2) := Nat.lt_div_mul_add (qpt _)
 have h3 : g * D ≤ g * (D / pw (n - 2) * pw (n - 2)) + g * pw (n - 2) := by rw [← Nat.mul_add]; exact Nat.mul_le_mul_left _ (Nat.le_of_lt h2)
 have h4 : g * pw (n - 2) < pw (n - 1) := by
  rw [show n - 1 = n - 2 + 1 by omega, qfe, Nat.mul_comm]
  exact Nat.mul_lt_mul_of_pos_left hg (qpt _)
 rw [← Nat.mul_assoc] at h3
 have h5 : (g - 1) * D ≤ P := by rw [Nat.sub_mul, Nat.one_mul]; omega
 rw [← Nat.le_div_iff_mul_le hD0] at h5
 omega
end
theorem ring9 (a p d x g y s s' w e b : Nat) (h1 : a + p * s = g * y + w) (h2 : d + 4294967296 * s' = g * x + s + e) (hb : b = p * 4294967296) :
 a + p * d + b * s' = g * (y + p * x) + (w + p * e) := by
 subst hb
 have : p * (d + 4294967296 * s') = p * (g * x + s + e) := by rw [h2]
 simp only [Nat.mul_add] at this ⊢
 have e1 : p * (4294967296 * s') = p * 4294967296 * s' := by ac_rfl
 have e2 : p * (g * x) = g * (p * x) := by ac_rfl
 omega
theorem eq_of_mod {U V M x y : Nat} (hU : U < M) (hV : V < M) (h : U + M * x = V + M * y) : U = V := by
 have : (U + M * x) % M = (V + M * y) % M := by rw [h]
 rwa [Nat.add_mul_mod_self_left, Nat.add_mul_mod_self_left, Nat.mod_eq_of_lt hU, Nat.mod_eq_of_lt hV] at this
theorem ring10 {P a M A z d g D b B W c C s U : Nat} (h : P + z * (M * d) = g * D + W) (hP : P = a + M * A) (hD : D = b + M * B) (hW : W = c + M * C) (hs : a + M * s = g * b + U) :
 U + M * (A + z * d) = c + M * (s + g * B + C) := by
 subst hP hD hW
 simp only [Nat.mul_add] at h ⊢
 have e1 : z * (M * d) = M * (z * d) := by ac_rfl
 have e2 : g * (M * B) = M * (g * B) := by ac_rfl
 omega
theorem sub_step {P D W g n k z s s' e : Nat} (hk : k ≤ n) (hW : P + z * pw (n + 1) = g * D + W) (h : P % pw k + pw k * s = g * (D % pw k) + W % pw k)
 (he : dgt P k + 4294967296 * s' = g * dgt D k + s + e) (heb : e < 4294967296) :
 e = dgt W k ∧ P % pw (k + 1) + pw (k + 1) * s' = g * (D % pw (k + 1)) + W % pw (k + 1) := by
 have h1 : P % pw (k + 1) + pw (k + 1) * s' = g * (D % pw (k + 1)) + (W % pw k + pw k * e) := by
  rw [q1n, q1n D]; exact ring9 _ _ _ _ _ _ _ _ _ _ _ h he (qfe k)
 obtain ⟨d, hd⟩ : ∃ d, pw (n + 1) = pw (k + 1) * d := ⟨pw (n - k), by rw [← qv1]; congr 1; omega⟩
 rw [hd] at hW
 have hU : W % pw k + pw k * e < pw (k + 1) := by
  have a1 := mod_le W k
  have a2 : pw k * e ≤ pw k * 4294967295 := Nat.mul_le_mul_left _ (by omega)
  rw [qfe]; omega
 have h2 := eq_of_mod hU (mod_le W (k + 1)) (ring10 hW (qdp P (k + 1)) (qdp D (k + 1)) (qdp W (k + 1)) h1)
 refine ⟨?_, by rw [h1, h2]⟩
 rw [q1n] at h2
 exact Nat.eq_of_mul_eq_mul_left (qpt k) (by omega)
theorem sub_last {P D W g n z s : Nat} (hP : P < pw (n + 1)) (hD : D < pw n) (hWl : W < pw (n + 1)) (hW : P + z * pw (n + 1) = g * D + W) (h : P % pw n + pw n * s = g * (D % pw n) + W % pw n) :
 dgt W n + s = dgt P n + 4294967296 * z := by
 have h1 := qdp P n
 have h2 := qdp W n
 have e1 : P / pw n = dgt P n := by have := q12 P n; rw [Nat.div_eq_of_lt hP] at this; omega
 have e2 : W / pw n = dgt W n := by have := q12 W n; rw [Nat.div_eq_of_lt hWl] at this; omega
 rw [e1] at h1
 rw [e2] at h2
 rw [qfk hD] at h
 have e3 : z * pw (n + 1) = pw n * (4294967296 * z) := by rw [qfe]; ac_rfl
 refine Nat.eq_of_mul_eq_mul_left (qpt n) ?_
 rw [Nat.mul_add, Nat.mul_add, ← e3]
 omega
theorem left_over {P D g n : Nat} (hP : P < pw (n + 1)) (hD : D < pw n) (hD0 : 0 < D) (hg1 : P / D ≤ g) (hg2 : g ≤ P / D + 1) :
 ∃ z W, P + z * pw (n + 1) = g * D + W ∧ W < pw (n + 1) ∧ ((z = 0 ∧ g = P / D ∧ W = P % D) ∨ (z = 1 ∧ g = P / D + 1 ∧ W + D = P % D + pw (n + 1))) := by
 have h1 := Nat.div_add_mod P D
 rw [Nat.mul_comm] at h1
 have hDn : D ≤ pw (n + 1) := Nat.le_trans (Nat.le_of_lt hD) (qcv (by omega))
 rcases Nat.lt_or_ge (P / D) g with h2 | h2
 ·have e : g = P / D + 1 := by generalize P / D = q at *; omega
  have hm := Nat.mod_lt P hD0
  refine ⟨1, P % D + pw (n + 1) - D, ?_, ?_, .inr ⟨rfl, e, ?_⟩⟩
  ·rw [e, Nat.add_mul, Nat.one_mul, Nat.one_mul]; generalize P % D = r at *; generalize P / D * D = r2 at *; omega
  ·generalize P % D = r at *; omega
  ·generalize P % D = r at *; omega
 ·have e : g = P / D := by generalize P / D = q at *; omega
  exact ⟨0, P % D, by rw [e, Nat.zero_mul, Nat.add_zero]; exact h1.symm, Nat.lt_of_le_of_lt (Nat.mod_le _ _) hP, .inl ⟨rfl, e, rfl⟩⟩
/- the guess -/
structure DPre (P D n : Nat) : Prop where
 n2 : 2 ≤ n
 hP : P < pw (n + 1)
 hPD : P < 4294967296 * D
 hD : D < pw n
 top : 2147483648 ≤ dgt D (n - 1)
theorem DPre.pos {P D n : Nat} (h : DPre P D n) : 0 < D := by
 rcases Nat.eq_zero_or_pos D with h0 | h0
 ·have := h.hPD; subst h0; omega
 ·exact h0
theorem DPre.high {P D n : Nat} (h : DPre P D n) : P / pw (n - 1) = dgt P n * 4294967296 + dgt P (n - 1) := by
 have h1 := q12 P (n - 1)
 have h2 := h.n2
 rw [show n - 1 + 1 = n by omega, show P / pw n = dgt P n from qia (n := n + 1) (by omega) h.hP] at h1
 exact h1
theorem DPre.high3 {P D n : Nat} (h : DPre P D n) : P / pw (n - 2) = (dgt P n * 4294967296 + dgt P (n - 1)) * 4294967296 + dgt P (n - 2) := by
 have h1 := q12 P (n - 2)
 have h2 := h.n2
 rw [show n - 2 + 1 = n - 1 by omega, h.high] at h1
 exact h1
def GI (P D n g l : Nat) : Prop := g * dgt D (n - 1) + l = dgt P n * 4294967296 + dgt P (n - 1) ∧ P / D ≤ g
theorem GI.start {P D n : Nat} (h : DPre P D n) : GI P D n ((dgt P n * 4294967296 + dgt P (n - 1)) / dgt D (n - 1)) ((dgt P n * 4294967296 + dgt P (n - 1)) % dgt D (n - 1)) ∧
 (dgt P n * 4294967296 + dgt P (n - 1)) / dgt D (n - 1) ≤ 4294967297 := by
 have ht := h.top
 have hn := h.n2
 refine ⟨⟨by rw [Nat.mul_comm]; exact Nat.div_add_mod _ _, ?_⟩, ?_⟩
 ·rw [Nat.le_div_iff_mul_le (by omega), ← h.high]; exact guess_ge (by omega) h.hD
 ·have h1 := high_lt (by omega) h.hD h.hPD
  rw [h.high] at h1
  have h2 : (dgt P n * 4294967296 + dgt P (n - 1)) / dgt D (n - 1) < 4294967298 := by
   rw [Nat.div_lt_iff_lt_mul (by omega)]; omega
  generalize (dgt P n * 4294967296 + dgt P (n - 1)) / dgt D (n - 1) = q at *
  omega
theorem ring11 (g dt l h d2 p2 : Nat) (h1 : g * dt + l = h) : g * (dt * 4294967296 + d2) + l * 4294967296 = h * 4294967296 + g * d2 := by
 subst h1
 rw [Nat.mul_add, Nat.add_mul, ← Nat.mul_assoc]; omega
theorem ab1 (u L U3 u2 p : Nat) (h1 : u + L = U3 + u2) (h2 : L + p < u2) : U3 + p < u := by omega
theorem ab2 (u L U3 u2 p : Nat) (h1 : u + L = U3 + u2) (h2 : u2 ≤ L + p) : u ≤ U3 + p := by omega
theorem GI.dec {P D n g l : Nat} (h : DPre P D n) (hi : GI P D n g l) (hb : 4294967296 ≤ g ∨ l * 4294967296 + dgt P (n - 2) < g * dgt D (n - 2)) :
 GI P D n (g - 1) (l + dgt D (n - 1)) ∧ 1 ≤ g := by
 obtain ⟨h1, h2⟩ := hi
 have hlt : P / D < g := by
  rcases hb with hb | hb
  ·have : P / D < 4294967296 := by rw [Nat.div_lt_iff_lt_mul h.pos]; exact h.hPD
   exact Nat.lt_of_lt_of_le this hb
  ·refine guess_gt (n := n) h.pos ?_
   rw [h.high3, div_pw2 h.n2 h.hD]
   have := ring11 g _ l _ (dgt D (n - 2)) (dgt P (n - 2)) h1
   exact ab1 _ _ _ _ _ this hb
 have hg : 1 ≤ g := Nat.lt_of_le_of_lt (Nat.zero_le _) hlt
 refine ⟨⟨?_, Nat.le_sub_one_of_lt hlt⟩, hg⟩
 rw [← h1, Nat.sub_mul, Nat.one_mul]
 have : dgt D (n - 1) ≤ g * dgt D (n - 1) := Nat.le_mul_of_pos_left _ hg
 omega
theorem GI.out {P D n g l : Nat} (h : DPre P D n) (hi : GI P D n g l) (hb : 4294967296 ≤ l ∨ (g < 4294967296 ∧ g * dgt D (n - 2) ≤ l * 4294967296 + dgt P (n - 2))) :
 g < 4294967296 ∧ P / D ≤ g ∧ g ≤ P / D + 1 := by
 obtain ⟨h1, h2⟩ := hi
 have hn := h.n2
 have hg : g < 4294967296 := by
  rcases hb with hb | hb
  ·have h3 := high_lt (by omega) h.hD h.hPD
   rw [h.high, ← h1] at h3
   have h4 : g * dgt D (n - 1) < 4294967296 * dgt D (n - 1) := by omega
   exact Nat.lt_of_mul_lt_mul_right h4
  ·exact hb.1
 refine ⟨hg, h2, guess_le hn ?_ hg ?_⟩
 ·have := h.top
  exact qzq (by omega)
 ·rw [h.high3, div_pw2 hn h.hD]
  have h3 := ring11 g _ l _ (dgt D (n - 2)) (dgt P (n - 2)) h1
  have h4 : g * dgt D (n - 2) ≤ l * 4294967296 + dgt P (n - 2) := by
   rcases hb with hb | hb
   ·have : g * dgt D (n - 2) ≤ 4294967295 * 4294967296 := Nat.mul_le_mul (by omega) (Nat.le_of_lt (qpa _ _))
    omega
   ·exact hb.2
  exact ab2 _ _ _ _ _ h3 h4
/- the whole division -/
def rst (R D j : Nat) : Nat := D * (R / D % pw j) + R % D
theorem rst_full {R D c : Nat} (h : R / D < pw c) : rst R D c = R := by unfold rst; rw [qfk h]; exact Nat.div_add_mod R D
theorem rst_zero (R D : Nat) : rst R D 0 = R % D := by unfold rst; rw [qcr, Nat.mod_one]; omega
theorem q25 {R D j : Nat} (hD : 0 < D) : rst R D j < D * pw j := by
 unfold rst
 have h1 := mod_le (R / D) j
 have h2 := Nat.mod_lt R hD
 have h3 : D * (R / D % pw j + 1) ≤ D * pw j := Nat.mul_le_mul_left _ h1
 rw [Nat.mul_add] at h3; omega
theorem q2i (R D j : Nat) : rst R D (j + 1) = rst R D j + pw j * (dgt (R / D) j * D) := by
 unfold rst
 rw [q1n, Nat.mul_add, show D * (pw j * dgt (R / D) j) = pw j * (dgt (R / D) j * D) by ac_rfl]; omega
theorem rst_div (R D j : Nat) : rst R D (j + 1) / pw j = rst R D j / pw j + dgt (R / D) j * D := by
 rw [q2i, Nat.add_mul_div_left _ _ (qpt j)]
theorem rst_quo {R D j : Nat} (hD : 0 < D) : rst R D (j + 1) / pw j / D = dgt (R / D) j := by
 rw [rst_div, Nat.add_mul_div_right _ _ hD, Nat.div_eq_of_lt, Nat.zero_add]
 rw [Nat.div_lt_iff_lt_mul (qpt j)]; exact q25 hD
theorem rst_rem {R D j : Nat} (hD : 0 < D) : rst R D (j + 1) / pw j % D = rst R D j / pw j := by
 rw [rst_div, Nat.add_mul_mod_self_right, Nat.mod_eq_of_lt]
 rw [Nat.div_lt_iff_lt_mul (qpt j)]; exact q25 hD
theorem dgt_div (V j p : Nat) : dgt (V / pw j) p = dgt V (j + p) := by
 unfold dgt; rw [Nat.div_div_eq_div_mul, ← qv1]
theorem rst_low {R D j p : Nat} (h : p < j) : dgt (rst R D (j + 1)) p = dgt (rst R D j) p := by
 obtain ⟨k, rfl⟩ : ∃ k, j = p + 1 + k := ⟨j - p - 1, by omega⟩
 rw [q2i, qv1, Nat.mul_assoc, qwi]
theorem qef {A B s : Nat} : A * 2 ^ s / (B * 2 ^ s) = A / B := Nat.mul_div_mul_right A B (Nat.two_pow_pos s)
theorem qbm {A B s : Nat} : A * 2 ^ s % (B * 2 ^ s) / 2 ^ s = A % B := by
 rw [Nat.mul_mod_mul_right, Nat.mul_div_cancel _ (Nat.two_pow_pos s)]
theorem lz_top {x : Nat} (h0 : 0 < x) (h1 : x < 4294967296) : Lib.bitLen x ≤ 32 ∧ 1 ≤ Lib.bitLen x ∧ 2147483648 ≤ x * 2 ^ (32 - Lib.bitLen x) ∧ (x + 1) * 2 ^ (32 - Lib.bitLen x) ≤ 4294967296 := by
 have h2 := Lib.bitLen_le x 32 (by omega) h1
 obtain ⟨h3, h4, h5⟩ := Lib.bitLenAux_bounds 64 x (by omega) (by omega)
 have e : Lib.bitLenAux 64 x = Lib.bitLen x := rfl
 rw [e] at h3 h4 h5
 refine ⟨h2, h3, ?_, ?_⟩
 ·have : 2 ^ (Lib.bitLen x - 1) * 2 ^ (32 - Lib.bitLen x) ≤ x * 2 ^ (32 - Lib.bitLen x) := Nat.mul_le_mul_right _ h4
  rw [← Nat.pow_add, show Lib.bitLen x - 1 + (32 - Lib.bitLen x) = 31 by omega] at this
  exact this
 ·have : (x + 1) * 2 ^ (32 - Lib.bitLen x) ≤ 2 ^ Lib.bitLen x * 2 ^ (32 - Lib.bitLen x) := Nat.mul_le_mul_right _ h5
  rw [← Nat.pow_add, show Lib.bitLen x + (32 - Lib.bitLen x) = 32 by omega] at this
  exact this
section
variable {V n s : Nat}
theorem shl_lt (hn : 1 ≤ n) (hV : V < pw n) (h : (dgt V (n - 1) + 1) * 2 ^ s ≤ 4294967296) : V * 2 ^ s < pw n := by
 have h1 := Nat.lt_div_mul_add (qpt (n - 1)) (a := V)
 rw [qia hn hV] at h1
 have h2 : (V + 1) * 2 ^ s ≤ (dgt V (n - 1) + 1) * pw (n - 1) * 2 ^ s := Nat.mul_le_mul_right _ (by rw [Nat.succ_mul]; omega)
 have h3 : (dgt V (n - 1) + 1) * pw (n - 1) * 2 ^ s ≤ pw n := by
  rw [show (dgt V (n - 1) + 1) * pw (n - 1) * 2 ^ s = pw (n - 1) * ((dgt V (n - 1) + 1) * 2 ^ s) by ac_rfl]
  have := Nat.mul_le_mul_left (pw (n - 1)) h
  rw [← qfe, show n - 1 + 1 = n by omega] at this
  exact this
 have h4 := Nat.two_pow_pos s
 rw [Nat.add_mul, Nat.one_mul] at h2
 omega
theorem shl_top (hn : 1 ≤ n) (hV : V < pw n) (h : (dgt V (n - 1) + 1) * 2 ^ s ≤ 4294967296) (h2 : 2147483648 ≤ dgt V (n - 1) * 2 ^ s) : 2147483648 ≤ dgt (V * 2 ^ s) (n - 1) := by
 rw [← qia hn (shl_lt hn hV h)]
 refine Nat.le_trans h2 ?_
 rw [Nat.le_div_iff_mul_le (qpt _)]
 have h1 := Nat.div_mul_le_self V (pw (n - 1))
 rw [qia hn hV] at h1
 rw [show dgt V (n - 1) * 2 ^ s * pw (n - 1) = dgt V (n - 1) * pw (n - 1) * 2 ^ s by ac_rfl]
 exact Nat.mul_le_mul_right _ h1
end
theorem quo_lt {A B n m : Nat} (hA : A < pw n) (hm : 1 ≤ m) (hmn : m ≤ n) (hB : pw (m - 1) ≤ B) : A / B < pw (n - m + 1) := by
 have hB0 : 0 < B := Nat.lt_of_lt_of_le (qpt _) hB
 rw [Nat.div_lt_iff_lt_mul hB0]
 refine Nat.lt_of_lt_of_le hA ?_
 have := Nat.mul_le_mul_left (pw (n - m + 1)) hB
 rw [← qv1, show n - m + 1 + (m - 1) = n by omega] at this
 exact this
theorem q9m {R D j m : Nat} (hD0 : 0 < D) (hD : D < pw m) : rst R D j < pw (m + j) := by
 have h1 := q25 (R := R) (j := j) hD0
 have h2 : D * pw j ≤ pw m * pw j := Nat.mul_le_mul_right _ (Nat.le_of_lt hD)
 rw [← qv1] at h2
 omega
theorem win_pre {R D j m : Nat} (hm : 2 ≤ m) (hD0 : 0 < D) (hD : D < pw m) (ht : 2147483648 ≤ dgt D (m - 1)) : DPre (rst R D (j + 1) / pw j) D m := by
 refine ⟨hm, ?_, ?_, hD, ht⟩
 ·rw [Nat.div_lt_iff_lt_mul (qpt j), ← qv1]
  have := q9m (R := R) (j := j + 1) hD0 hD
  rwa [show m + 1 + j = m + (j + 1) by omega]
 ·rw [Nat.div_lt_iff_lt_mul (qpt j)]
  have := q25 (R := R) (j := j + 1) hD0
  rwa [qfe, ← Nat.mul_assoc, Nat.mul_right_comm, Nat.mul_comm D] at this
theorem qp2 {n m X Y : Nat} (hX : X < pw n) (hY : Y < pw m) (tX : n = 0 ∨ pw (n - 1) ≤ X) (tY : m = 0 ∨ pw (m - 1) ≤ Y) : (n < m → X < Y) ∧ (m < n → Y < X) := by
 constructor
 ·intro h
  rcases tY with h0 | h0
  ·omega
  ·exact Nat.lt_of_lt_of_le hX (Nat.le_trans (qcv (by omega)) h0)
 ·intro h
  rcases tX with h0 | h0
  ·omega
  ·exact Nat.lt_of_lt_of_le hY (Nat.le_trans (qcv (by omega)) h0)
open Go.RowKit
def Ext (w w' : World) : Prop := Below w.heap.size w w'
theorem Ext.refl (w : World) : Ext w w := Below.refl _ _
theorem Ext.size {w w' : World} (h : Ext w w') : w.heap.size ≤ w'.heap.size := Below.size h
theorem Ext.trans {a b c : World} (h : Ext a b) (k : Ext b c) : Ext a c := Below.trans h (Below.mono k h.size)
theorem Ext.drew {a w : World} (h : Ext a w) : Ext a w.drew := Below.drew h
theorem Ext.drewN {a w : World} (h : Ext a w) (n : Nat) : Ext a (w.drewN n) := ⟨h.os, h.tape, h.output, h.size, h.block⟩
theorem Ext.alloc {a w : World} (h : Ext a w) (o : Obj) : Ext a (w.alloc o) := Below.alloc h h.size o
theorem Ext.set {a w : World} (h : Ext a w) {p : Addr} (hp : a.heap.size ≤ p.block) (u : Value) : Ext a (w.setCell p u) := Below.setCell h hp u
theorem Ext.cell {w w' : World} (h : Ext w w') {p : Addr} {v : Value} (hc : w.cell? p = some v) : w'.cell? p = some v :=
 (Below.cell h (World.block_lt_of_cell? w _ hc)).trans hc
def Dig (w : World) (v : Value) (n V : Nat) : Prop :=
 ∃ A c, v = .slice A n c ∧ n ≤ c ∧ c ≤ 4398046511104 ∧ V < pw n ∧
  (0 < n → ∃ b off, A = some ⟨b, off, none⟩ ∧ ∀ j, j < n → w.cell? ⟨b, off + j, none⟩ = some (.int .u32 (dgt V j : Int)))
theorem Dig.ext {w w' : World} {v : Value} {n V : Nat} (h : Dig w v n V) (k : Ext w w') : Dig w' v n V := by
 obtain ⟨A, c, rfl, h1, h2, h3, h4⟩ := h
 refine ⟨A, c, rfl, h1, h2, h3, fun hn => ?_⟩
 obtain ⟨b, off, rfl, hc⟩ := h4 hn
 exact ⟨b, off, rfl, fun j hj => k.cell (hc j hj)⟩
def cmpI (X Y : Nat) : Int := if X < Y then -1 else if Y < X then 1 else 0
theorem cmp_lt {n k X Y : Nat} (hk : k ≤ n) (hk2 : k < n) (hd : X / pw (n - k) = Y / pw (n - k)) (h : dgt X (n - 1 - k) < dgt Y (n - 1 - k)) : cmpI X Y = -1 := by
 rw [show n - k = (n - 1 - k) + 1 by omega] at hd
 have := qks hd h
 simp [cmpI, this]
theorem cmp_gt {n k X Y : Nat} (hk : k ≤ n) (hk2 : k < n) (hd : X / pw (n - k) = Y / pw (n - k)) (h : dgt Y (n - 1 - k) < dgt X (n - 1 - k)) : cmpI X Y = 1 := by
 rw [show n - k = (n - 1 - k) + 1 by omega] at hd
 have := qks hd.symm h
 unfold cmpI
 rw [if_neg (by omega), if_pos this]
theorem cmp_step {n k X Y : Nat} (hk2 : k < n) (hd : X / pw (n - k) = Y / pw (n - k)) (h : dgt X (n - 1 - k) = dgt Y (n - 1 - k)) : X / pw (n - (k + 1)) = Y / pw (n - (k + 1)) := by
 rw [show n - k = (n - 1 - k) + 1 by omega] at hd
 rw [show n - (k + 1) = n - 1 - k by omega]
 exact q7h hd h
theorem qpf {X Y k : Nat} (h : Y ≤ X) : IntKind.u64.wrap (IntKind.u64.wrap ((dgt X k : Int) - (difc X Y k : Int)) - (dgt Y k : Int)) / 9223372036854775808 = (difc X Y (k + 1) : Nat) ∧
 IntKind.u64.wrap (IntKind.u64.wrap ((dgt X k : Int) - (difc X Y k : Int)) - (dgt Y k : Int)) % 4294967296 = (dgt (X - Y) k : Nat) := by
 have hs := qsp X Y k h
 have h1 := qpa X k
 have h2 := qpa Y k
 have h3 := qbv X Y k
 have h4 := qpa (X - Y) k
 rw [IntKind.wrap_u64, IntKind.wrap_u64]
 rcases Nat.lt_or_ge (dgt X k) (dgt Y k + difc X Y k) with hl | hl
 ·obtain ⟨a, b⟩ := hs.1 hl; rw [a]; omega
 ·obtain ⟨a, b⟩ := hs.2 hl; rw [a]; omega
theorem qrx {X Y k : Nat} (h : Y ≤ X) (hy : dgt Y k = 0) : IntKind.u64.wrap ((dgt X k : Int) - (difc X Y k : Int)) / 9223372036854775808 = (difc X Y (k + 1) : Nat) ∧
 IntKind.u64.wrap ((dgt X k : Int) - (difc X Y k : Int)) % 4294967296 = (dgt (X - Y) k : Nat) := by
 have hs := qsp X Y k h
 have h1 := qpa X k
 have h3 := qbv X Y k
 have h4 := qpa (X - Y) k
 rw [hy] at hs
 rw [IntKind.wrap_u64]
 rcases Nat.lt_or_ge (dgt X k) (0 + difc X Y k) with hl | hl
 ·obtain ⟨a, b⟩ := hs.1 hl; rw [a]; omega
 ·obtain ⟨a, b⟩ := hs.2 hl; rw [a]; omega
theorem qdq {k : IntKind} {a b : Int} (h : a = b) : Value.int k a = Value.int k b := by rw [h]
theorem or32 (a b : Nat) (ha : a ≤ 4294967295) (hb : b < 4294967296) : bits .or .u64 ((a : Int) * 4294967296) (b : Int) = (a : Int) * 4294967296 + (b : Int) := by
 refine bits_join .u64 64 (by decide) (fun n h0 h1 => IntWalk.u64_in n ⟨h0, by omega⟩) 32 _ _ (by omega) ?_ ?_ (by omega) ?_ ?_ <;> simp <;> omega
theorem or_shl (a b s : Nat) (hs : s ≤ 32) (ha : a < 4294967296) (hb : b < 2 ^ s) : bits .or .u64 (IntKind.u64.wrap ((a : Int) * 2 ^ s)) (b : Int) = ((a * 2 ^ s + b : Nat) : Int) := by
 have h1 : a * 2 ^ s < 2 ^ 64 := by
  have h2 : 2 ^ s ≤ 2 ^ 32 := Nat.pow_le_pow_right (by omega) hs
  have h3 : a * 2 ^ s ≤ a * 2 ^ 32 := Nat.mul_le_mul_left _ h2
  omega
 have hb2 : b < 2 ^ 64 := by
  have h2 : 2 ^ s ≤ 2 ^ 32 := Nat.pow_le_pow_right (by omega) hs
  omega
 have e : ((a : Int) * 2 ^ s) = ((a * 2 ^ s : Nat) : Int) := by simp
 rw [e, IntWalk.u64_in _ ⟨by omega, by omega⟩]
 rw [bits_join .u64 64 (by decide) (fun n h0 h1 => IntWalk.u64_in n ⟨h0, by omega⟩) s _ _ (by omega) (by simp) (by exact_mod_cast h1) (by omega) (by exact_mod_cast hb) (by exact_mod_cast hb2)]
 simp
def Trm (n V : Nat) : Prop := n = 0 ∨ pw (n - 1) ≤ V
def TrimPost (w : World) (V : Nat) (e : Ending) (w' : World) : Prop := ∃ v n, e = .returned v ∧ Dig w v n V ∧ Trm n V ∧ w = w'
theorem Dig.nil (w : World) : Dig w (.slice none 0 0) 0 0 := ⟨none, 0, rfl, by omega, by omega, by simp [qcr], fun h => absurd h (by omega)⟩
theorem Dig.cut {w : World} {b off n c V m : Nat} (hc : ∀ j, j < n → w.cell? ⟨b, off + j, none⟩ = some (.int .u32 (dgt V j : Int))) (hm : m ≤ n) (hn : n ≤ c) (hc2 : c ≤ 4398046511104) (hV : V < pw m) :
 Dig w (.slice (some ⟨b, off, none⟩) m c) m V := ⟨_, c, rfl, by omega, hc2, hV, fun _ => ⟨b, off, rfl, fun j hj => hc j (by omega)⟩⟩
theorem Dig.inj {w : World} {A : Option Addr} {n m c V : Nat} (h : Dig w (.slice A m c) n V) : m = n ∧ n ≤ c ∧ c ≤ 4398046511104 ∧ V < pw n ∧
 (0 < n → ∃ b off, A = some ⟨b, off, none⟩ ∧ ∀ j, j < n → w.cell? ⟨b, off + j, none⟩ = some (.int .u32 (dgt V j : Int))) := by
 obtain ⟨A', c', e1, h1, h2, h3, h4⟩ := h
 injection e1 with a b c
 subst a b c
 exact ⟨rfl, h1, h2, h3, h4⟩
def qtd (w : World) (V : Nat) (e : Ending) (w' : World) : Prop := ∃ v n, e = .returned v ∧ Dig w' v n V ∧ Trm n V ∧ Ext w w'
def DivPost (w : World) (V r : Nat) (e : Ending) (w' : World) : Prop := ∃ v n, e = .returned (.tuple #[v, .int .u64 r]) ∧ Dig w' v n V ∧ Trm n V ∧ Ext w w'
def Arr (w : World) (b n : Nat) (E : TypeId) (f : Nat → Nat) : Prop :=
 ∃ cs : Array Value, w.heap[b]? = some (.cells cs E (0, 0)) ∧ cs.size = n ∧ ∀ j, j < n → cs[j]? = some (.int .u32 (f j : Int))
section
variable {w w' : World} {b n : Nat} {E : TypeId} {f g : Nat → Nat}
theorem Arr.lt (h : Arr w b n E f) : b < w.heap.size := by
 obtain ⟨cs, h1, _⟩ := h
 rcases Nat.lt_or_ge b w.heap.size with hlt | hge
 ·exact hlt
 ·rw [Array.getElem?_eq_none hge] at h1; cases h1
theorem Arr.cell (h : Arr w b n E f) {j : Nat} (hj : j < n) : w.cell? ⟨b, j, none⟩ = some (.int .u32 (f j : Int)) := by
 obtain ⟨cs, h1, _, h3⟩ := h
 unfold World.cell?
 rw [h1]
 simpa using h3 j hj
theorem Arr.frozen (h : Arr w b n E f) (j : Nat) : w.frozen? ⟨b, j, none⟩ = false := by
 obtain ⟨cs, h1, _⟩ := h
 simp [World.frozen?, h1]
theorem Arr.ext (h : Arr w b n E f) (k : Ext w w') : Arr w' b n E f := by
 have hl := h.lt
 obtain ⟨cs, h1, h2⟩ := h
 exact ⟨cs, (Below.block k b hl).trans h1, h2⟩
theorem Arr.congr (h : Arr w b n E f) (hfg : ∀ j, j < n → f j = g j) : Arr w b n E g := by
 obtain ⟨cs, h1, h2, h3⟩ := h
 exact ⟨cs, h1, h2, fun j hj => by rw [h3 j hj, hfg j hj]⟩
theorem Arr.set (h : Arr w b n E f) (i u : Nat) : Arr (w.setCell ⟨b, i, none⟩ (.int .u32 (u : Int))) b n E (fun j => if j = i then u else f j) := by
 obtain ⟨cs, h1, h2, h3⟩ := h
 refine ⟨cs.setIfInBounds i (.int .u32 (u : Int)), ?_, by simpa using h2, fun j hj => ?_⟩
 ·simp [World.setCell, Array.getElem?_modify, h1]
 ·by_cases hji : j = i
  ·subst hji; simp [Array.getElem?_setIfInBounds_self, h2, hj]
  ·rw [Array.getElem?_setIfInBounds_ne (Ne.symm hji), h3 j hj]; simp [hji]
theorem Arr.setI (h : Arr w b n E f) (i : Nat) (e : Int) (u : Nat) (he : e = (u : Int)) : Arr (w.setCell ⟨b, i, none⟩ (.int .u32 e)) b n E (fun j => if j = i then u else f j) := by
 subst he; exact h.set i u
theorem Arr.other {p : Addr} (h : Arr w b n E f) (hp : b ≠ p.block) (u : Value) : Arr (w.setCell p u) b n E f := by
 obtain ⟨cs, h1, h2⟩ := h
 exact ⟨cs, (Below.heap_setCell w p u b hp).trans h1, h2⟩
theorem Arr.dig {V : Nat} (h : Arr w b n E f) (hn : n ≤ 4398046511104) (hV : V < pw n) (hf : ∀ j, j < n → f j = dgt V j) : Dig w (.slice (some ⟨b, 0, none⟩) n n) n V :=
 ⟨_, n, rfl, Nat.le_refl _, hn, hV, fun _ => ⟨b, 0, rfl, fun j hj => by rw [Nat.zero_add, h.cell hj, hf j hj]⟩⟩
end
def q8x (w : World) (b n : Nat) (E : TypeId) (V k : Nat) : Prop := ∃ f, Arr w b n E f ∧ ∀ j, j < k → f j = dgt V j
def qlb (w : World) (b n : Nat) (E : TypeId) (V k : Nat) : Prop := ∃ f, Arr w b n E f ∧ ∀ j, k ≤ j → j < n → f j = dgt V j
section
variable {w w' : World} {b n : Nat} {E : TypeId} {V k : Nat}
theorem q8x.start {f : Nat → Nat} (h : Arr w b n E f) : q8x w b n E V 0 := ⟨f, h, fun j hj => absurd hj (by omega)⟩
theorem qlb.start {f : Nat → Nat} (h : Arr w b n E f) : qlb w b n E V n := ⟨f, h, fun j h1 h2 => absurd h2 (by omega)⟩
theorem q8x.cell (h : q8x w b n E V k) {j : Nat} (hj : j < n) : ∃ u : Nat, w.cell? ⟨b, j, none⟩ = some (.int .u32 (u : Int)) := by
 obtain ⟨f, h, _⟩ := h; exact ⟨_, h.cell hj⟩
theorem qlb.cell (h : qlb w b n E V k) {j : Nat} (hj : j < n) : ∃ u : Nat, w.cell? ⟨b, j, none⟩ = some (.int .u32 (u : Int)) := by
 obtain ⟨f, h, _⟩ := h; exact ⟨_, h.cell hj⟩
theorem q8x.frozen (h : q8x w b n E V k) (j : Nat) : w.frozen? ⟨b, j, none⟩ = false := by obtain ⟨f, h, _⟩ := h; exact h.frozen j
theorem qlb.frozen (h : qlb w b n E V k) (j : Nat) : w.frozen? ⟨b, j, none⟩ = false := by obtain ⟨f, h, _⟩ := h; exact h.frozen j
theorem q8x.step (h : q8x w b n E V k) {e : Int} (he : e = (dgt V k : Nat)) : q8x (w.setCell ⟨b, k, none⟩ (.int .u32 e)) b n E V (k + 1) := by
 obtain ⟨f, h, hf⟩ := h
 refine ⟨_, h.setI k e _ he, fun j hj => ?_⟩
 by_cases hjk : j = k
 ·subst hjk; simp
 ·simp [hjk]; exact hf j (by omega)
theorem qlb.step {i : Nat} (h : qlb w b n E V (i + 1)) {e : Int} (he : e = (dgt V i : Nat)) : qlb (w.setCell ⟨b, i, none⟩ (.int .u32 e)) b n E V i := by
 obtain ⟨f, h, hf⟩ := h
 refine ⟨_, h.setI i e _ he, fun j h1 h2 => ?_⟩
 by_cases hjk : j = i
 ·subst hjk; simp
 ·simp [hjk]; exact hf j (by omega) h2
theorem q8x.dig (h : q8x w b n E V n) (hn : n ≤ 4398046511104) (hV : V < pw n) : Dig w (.slice (some ⟨b, 0, none⟩) n n) n V := by
 obtain ⟨f, h, hf⟩ := h; exact h.dig hn hV hf
theorem qlb.dig (h : qlb w b n E V 0) (hn : n ≤ 4398046511104) (hV : V < pw n) : Dig w (.slice (some ⟨b, 0, none⟩) n n) n V := by
 obtain ⟨f, h, hf⟩ := h; exact h.dig hn hV (fun j hj => hf j (by omega) hj)
end
def q1d (w : World) (b n : Nat) (E : TypeId) (X Y i j : Nat) : Prop := ∃ f, Arr w b n E f ∧ ∀ p, p < n → f p = if p < i + j then dgt (prow X Y (i + 1)) p else dgt (prow X Y i) p
section
variable {w : World} {b n : Nat} {E : TypeId} {X Y i j : Nat}
theorem q1d.cell (h : q1d w b n E X Y i j) (hj : i + j < n) : w.cell? ⟨b, i + j, none⟩ = some (.int .u32 (dgt (prow X Y i) (i + j) : Nat)) := by
 obtain ⟨f, h, hf⟩ := h
 rw [h.cell hj, hf _ hj, if_neg (by omega)]
theorem q1d.frozen (h : q1d w b n E X Y i j) (p : Nat) : w.frozen? ⟨b, p, none⟩ = false := by obtain ⟨f, h, _⟩ := h; exact h.frozen p
theorem q1d.drewN (h : q1d w b n E X Y i j) (k : Nat) : q1d (w.drewN k) b n E X Y i j := h
theorem q1d.step (h : q1d w b n E X Y i j) {e : Int} (he : e = (dgt (prow X Y (i + 1)) (i + j) : Nat)) : q1d (w.setCell ⟨b, i + j, none⟩ (.int .u32 e)) b n E X Y i (j + 1) := by
 obtain ⟨f, h, hf⟩ := h
 refine ⟨_, h.setI (i + j) e _ he, fun p hp => ?_⟩
 by_cases hpk : p = i + j
 ·subst hpk; simp
 ·simp [hpk, hf p hp]
  by_cases h1 : p < i + j
  ·rw [if_pos h1, if_pos (by omega)]
  ·rw [if_neg h1, if_neg (by omega)]
theorem q1d.next {m : Nat} (h : q1d w b n E X Y i (m + 1)) (hY : Y < pw m) : q1d w b n E X Y (i + 1) 0 := by
 obtain ⟨f, h, hf⟩ := h
 refine ⟨f, h, fun p hp => ?_⟩
 rw [hf p hp]
 by_cases h1 : p < i + 1 + 0
 ·rw [if_pos (show p < i + (m + 1) by omega), if_pos h1]
  refine qtf ?_
  rw [qz2 X Y (i + 1)]
  obtain ⟨k, hk⟩ : ∃ k, i + 1 = p + 1 + k := ⟨i - p, by omega⟩
  rw [hk, qv1 (p + 1) k, show dgt X (p + 1 + k) * (pw (p + 1) * pw k) * Y = pw (p + 1) * (dgt X (p + 1 + k) * pw k * Y) by ac_rfl, Nat.add_mul_mod_self_left]
 ·rw [if_neg h1]
  by_cases h2 : p < i + (m + 1)
  ·rw [if_pos h2]
  ·rw [if_neg h2]; exact prow_high hY (by omega)
theorem q1d.start {f : Nat → Nat} (h : Arr w b n E f) (hf : ∀ p, p < n → f p = 0) : q1d w b n E X Y 0 0 :=
 ⟨f, h, fun p hp => by rw [if_neg (by omega), hf p hp, prow_zero, qfl (qpt _)]⟩
theorem q1d.dig {m k : Nat} (h : q1d w b n E X Y k 0) (hn : n = k + m) (hc : n ≤ 4398046511104) (hX : X < pw k) (hY : Y < pw m) : Dig w (.slice (some ⟨b, 0, none⟩) n n) n (X * Y) := by
 obtain ⟨f, h, hf⟩ := h
 refine h.dig hc (by rw [hn]; exact mul_lt_pw hX hY) (fun j hj => ?_)
 rw [hf j hj]
 have e := qvb (Y := Y) hX
 by_cases h1 : j < k + 0
 ·rw [if_pos h1]
  have : prow X Y (k + 1) = prow X Y k := by rw [qz2, qfl hX]; simp
  rw [this, e]
 ·rw [if_neg h1, e]
end
def Upd (b : Nat) (w w' : World) : Prop := w.grownBy w' (some b)
section
variable {b : Nat} {w w' w'' : World}
theorem Upd.refl (b : Nat) (w : World) : Upd b w w := World.grownBy.refl _ _
theorem Upd.block (h : Upd b w w') {k : Nat} (hk : k < w.heap.size) (hb : k ≠ b) : w'.heap[k]? = w.heap[k]? := World.grownBy.block h k hk (fun e => hb (by injection e))
theorem Upd.drewN (h : Upd b w w') (k : Nat) : Upd b w (w'.drewN k) := by
 have h' : w.grownBy w' (some b) := h
 exact ⟨h'.os, h'.tape, h'.output, h'.size, h'.block⟩
theorem Upd.set (h : Upd b w w') (i : Nat) (u : Value) : Upd b w (w'.setCell ⟨b, i, none⟩ u) := by
 have h' : w.grownBy w' (some b) := h
 exact ⟨h'.os, h'.tape, h'.output, by simpa [World.setCell] using h'.size, fun k hk hb => (Below.heap_setCell w' _ u k (fun e => hb (by simp [e]))).trans (h'.block k hk hb)⟩
theorem Upd.cell (h : Upd b w w') {p : Addr} {v : Value} (hc : w.cell? p = some v) (hb : p.block ≠ b) : w'.cell? p = some v :=
 (World.cell?_of_block (w := w) (h.block (World.block_lt_of_cell? w _ hc) hb)).trans hc
theorem Upd.below {B : Nat} {a : World} (h : Upd b w w') (k : Below B a w) (hB : B ≤ w.heap.size) (hb : B ≤ b) : Below B a w' :=
 k.grown h hB (fun j e => by injection e with e; omega)
theorem Upd.ext_of {a : World} (h : Upd b w w') (k : Ext a w) (hb : a.heap.size ≤ b) : Ext a w' := h.below k k.size hb
end
theorem Ext.of_grown {w w' : World} (h : w.grownBy w' none) : Ext w w' := (Below.refl _ _).grown h (Nat.le_refl _) (fun _ e => by cases e)
theorem q7x {P : Program} (w : World) {ops : Array Oper} {rest : List Oper} {o : Oper} {a : Act} {Q : Exit → Act → World → Prop}
 (hg : o.guard = none) (l c : Operand) (t : TypeId) (hop : o.op = Op.makeSlice t l c)
 (e : TypeId) (h1 : P.underlying t = some (.slice e)) (hinfo : (P.info? e).map (fun i => (i.zero, i.size, i.bytes)) = some (some (.int .u32 0), 1, 4))
 (L C : Int) (hl : a.eval l = .int .i64 L) (hc : a.eval c = .int .i64 C) (n : Nat) (hL : L = (n : Int)) (hC : C = (n : Int)) (hn : n ≤ 4398046511104)
 (hK : ∀ w', Arr w' w.heap.size n e (fun _ => 0) → Ext w w' → wpList P ops Q rest (a.put o.dst (.slice (some ⟨w.heap.size, 0, none⟩) n n)) w') :
 wpList P ops Q (o :: rest) a w := by
 obtain ⟨i0, hi, hz0, hz1, hz2⟩ := info_parts hinfo
 refine wpList_make_full w hg l c t hop w.heap.size e i0 _ 1 h1 hi hz0 hz1 .i64 .i64 L C n hl hc hL hC (by rw [hz2]; omega) (by unfold maxLen; omega) (Nat.le_refl _) ?_
 intro w' hown hgr
 refine hK w' ?_ (Ext.of_grown hgr)
 obtain ⟨hlen, hh⟩ := hown
 rcases hh with ⟨h, _⟩ | ⟨g, cap, cur, hv, _, hh, hcap, _, hsz, htake⟩
 ·cases h
 ·injection hv with e1 e2 e3
  injection e1 with e1
  injection e1 with e1
  subst e1 e3
  refine ⟨cur, hh, by omega, fun j hj => ?_⟩
  have : cur.toList = (madeCells (Value.int IntKind.u32 0).cells (n * 1)).toList := by
   rw [← htake, List.take_of_length_le (by simp; omega)]
  rw [← Array.getElem?_toList, this]
  simp [madeCells, Value.cells, hj, Nat.mod_one]
def BigV (w : World) (v : Value) (z : Int) : Prop := ∃ s n, v = .agg #[.bool (decide (z < 0)), s] ∧ Dig w s n z.natAbs ∧ Trm n z.natAbs
theorem BigV.ext {w w' : World} {v : Value} {z : Int} (h : BigV w v z) (k : Ext w w') : BigV w' v z := by
 obtain ⟨s, n, rfl, h1, h2⟩ := h; exact ⟨s, n, rfl, h1.ext k, h2⟩
theorem BigV.zero (w : World) : BigV w (.agg #[.bool false, .slice none 0 0]) 0 := ⟨_, 0, rfl, Dig.nil w, .inl rfl⟩
def sgn (neg : Bool) (V : Nat) : Int := if neg then -(V : Int) else (V : Int)
theorem q3t (neg : Bool) (V : Nat) : (sgn neg V).natAbs = V := by unfold sgn; split <;> omega
theorem qdt (neg : Bool) (V : Nat) : decide (sgn neg V < 0) = (neg && decide (0 < V)) := by
 unfold sgn; cases neg <;> simp <;> omega
def qxf (w : World) (z : Int) (e : Ending) (w' : World) : Prop := ∃ v, e = .returned v ∧ BigV w' v z ∧ Ext w w'
theorem Trm.le {n V L : Nat} (h : Trm n V) (hV : V < pw L) : n ≤ L := by
 rcases h with h | h
 ·omega
 ·exact le_of_pw h hV
theorem Trm.pos_iff {n V : Nat} (h : Trm n V) (hV : V < pw n) : 0 < n ↔ 0 < V := by
 constructor
 ·intro h0
  rcases h with h | h
  ·omega
  ·exact Nat.lt_of_lt_of_le (qpt _) h
 ·intro h0
  rcases Nat.eq_zero_or_pos n with h1 | h1
  ·subst h1; rw [qcr] at hV; omega
  ·exact h1
def Box (w : World) (b : Nat) (E : TypeId) (cs : Array Value) : Prop := w.heap[b]? = some (.cells cs E (0, 0))
section
variable {w w' : World} {b : Nat} {E : TypeId} {cs : Array Value}
theorem Box.lt (h : Box w b E cs) : b < w.heap.size := by
 rcases Nat.lt_or_ge b w.heap.size with hlt | hge
 ·exact hlt
 ·unfold Box at h; rw [Array.getElem?_eq_none hge] at h; cases h
theorem Box.cell (h : Box w b E cs) (i : Nat) : w.cell? ⟨b, i, none⟩ = cs[i]? := cell_of_row w b i cs E (0, 0) h
theorem Box.frozen (h : Box w b E cs) (i : Nat) : w.frozen? ⟨b, i, none⟩ = false := by unfold Box at h; simp [World.frozen?, h]
theorem Box.new (w : World) (E : TypeId) (cs : Array Value) : Box (w.alloc (.cells cs E)) w.heap.size E cs := heap_alloc_new w _
theorem Box.drew (h : Box w b E cs) : Box w.drew b E cs := h
theorem Box.drewN (h : Box w b E cs) (n : Nat) : Box (w.drewN n) b E cs := h
theorem Box.ext (h : Box w b E cs) (k : Ext w w') : Box w' b E cs := (Below.block k b h.lt).trans h
theorem Box.alloc (h : Box w b E cs) (o : Obj) : Box (w.alloc o) b E cs := h.ext ((Ext.refl w).alloc o)
theorem Box.far (h : Box w b E cs) {p : Addr} (hp : b ≠ p.block) (u : Value) : Box (w.setCell p u) b E cs := (Below.heap_setCell w p u b hp).trans h
theorem Box.set (h : Box w b E cs) (i : Nat) (u : Value) : Box (w.setCell ⟨b, i, none⟩ u) b E (cs.setIfInBounds i u) := by
 unfold Box at h ⊢
 simp [World.setCell, Array.getElem?_modify, h]
theorem Box.c0 {x : Value} {r : List Value} (h : Box w b E (x :: r).toArray) : w.cell? ⟨b, 0, none⟩ = some x := h.cell 0
theorem Box.c1 {x y : Value} {r : List Value} (h : Box w b E (x :: y :: r).toArray) : w.cell? ⟨b, 1, none⟩ = some y := h.cell 1
end
theorem BigV.form {w : World} {v : Value} {z : Int} (h : BigV w v z) : ∃ A n c, v = .agg #[.bool (decide (z < 0)), .slice A n c] ∧ Dig w (.slice A n c) n z.natAbs ∧ Trm n z.natAbs := by
 obtain ⟨s, n, rfl, h1, h2⟩ := h
 have h1' := h1
 obtain ⟨A, c, rfl, _⟩ := h1'
 exact ⟨A, n, c, rfl, h1, h2⟩
theorem qws (w : World) (E : TypeId) (c0 c1 c2 : Array Value) :
 Box (((w.alloc (.cells c0 E)).alloc (.cells c1 E)).alloc (.cells c2 E)) w.heap.size E c0 ∧ Box (((w.alloc (.cells c0 E)).alloc (.cells c1 E)).alloc (.cells c2 E)) (w.heap.size + 1) E c1 ∧
 Box (((w.alloc (.cells c0 E)).alloc (.cells c1 E)).alloc (.cells c2 E)) (w.heap.size + 1 + 1) E c2 ∧ Ext w (((w.alloc (.cells c0 E)).alloc (.cells c1 E)).alloc (.cells c2 E)) := by
 have s1 : (w.alloc (.cells c0 E)).heap.size = w.heap.size + 1 := by simp
 have s2 : ((w.alloc (.cells c0 E)).alloc (.cells c1 E)).heap.size = w.heap.size + 1 + 1 := by simp
 refine ⟨((Box.new w E c0).alloc _).alloc _, ?_, ?_, (((Ext.refl w).alloc _).alloc _).alloc _⟩
 ·have := (Box.new (w.alloc (.cells c0 E)) E c1).alloc (.cells c2 E); rwa [s1] at this
 ·have := Box.new ((w.alloc (.cells c0 E)).alloc (.cells c1 E)) E c2; rwa [s2] at this
theorem qc5 (w : World) (E : TypeId) (c0 c1 : Array Value) :
 Box ((w.alloc (.cells c0 E)).alloc (.cells c1 E)) w.heap.size E c0 ∧ Box ((w.alloc (.cells c0 E)).alloc (.cells c1 E)) (w.heap.size + 1) E c1 ∧ Ext w ((w.alloc (.cells c0 E)).alloc (.cells c1 E)) := by
 have s1 : (w.alloc (.cells c0 E)).heap.size = w.heap.size + 1 := by simp
 refine ⟨(Box.new w E c0).alloc _, ?_, ((Ext.refl w).alloc _).alloc _⟩
 have := Box.new (w.alloc (.cells c0 E)) E c1; rwa [s1] at this
structure KE (R : List Nat) (w W0 w' : World) : Prop where
 ext : Ext w w'
 hr : ∀ r, r ∈ R → w.heap.size ≤ r
 size : W0.heap.size ≤ w'.heap.size
 block : ∀ k, k < W0.heap.size → k ∉ R → w'.heap[k]? = W0.heap[k]?
section
variable {R : List Nat} {b : Nat} {w W0 w' w'' : World} {E : TypeId} {cs : Array Value}
theorem KE.start (h : Ext w W0) (hr : ∀ r, r ∈ R → w.heap.size ≤ r) : KE R w W0 W0 := ⟨h, hr, Nat.le_refl _, fun _ _ _ => rfl⟩
theorem KE.drew (h : KE R w W0 w') : KE R w W0 w'.drew := ⟨h.ext.drew, h.hr, h.size, h.block⟩
theorem KE.drewN (h : KE R w W0 w') (n : Nat) : KE R w W0 (w'.drewN n) := ⟨h.ext.drewN n, h.hr, h.size, h.block⟩
theorem KE.step (h : KE R w W0 w') (k : Ext w' w'') : KE R w W0 w'' :=
 ⟨h.ext.trans k, h.hr, Nat.le_trans h.size k.size, fun i hi hr => (k.block i (Nat.lt_of_lt_of_le hi h.size)).trans (h.block i hi hr)⟩
theorem KE.alloc (h : KE R w W0 w') (o : Obj) : KE R w W0 (w'.alloc o) := h.step ((Ext.refl _).alloc o)
theorem KE.set {p : Addr} (h : KE R w W0 w') (hp : p.block ∈ R) (u : Value) : KE R w W0 (w'.setCell p u) :=
 ⟨h.ext.set (h.hr _ hp) u, h.hr, by simpa [World.setCell] using h.size, fun k hk hne => (Below.heap_setCell w' p u k (fun e => hne (e ▸ hp))).trans (h.block k hk hne)⟩
theorem KE.bx (h : KE R w W0 w') (hb : Box W0 b E cs) (hne : b ∉ R) : Box w' b E cs := (h.block b hb.lt hne).trans hb
theorem KE.box (hb : Box W0 b E cs) (hne : b ∉ R) (i : Nat) : ∀ w', KE R w W0 w' → w'.cell? ⟨b, i, none⟩ = cs[i]? := fun w' h =>
 ((cell_of_row w' b i cs E (0, 0) ((h.block b hb.lt hne).trans hb)))
theorem KE.c0 {x : Value} {l : List Value} (hb : Box W0 b E (x :: l).toArray) (hne : b ∉ R) : ∀ w', KE R w W0 w' → w'.cell? ⟨b, 0, none⟩ = some x := KE.box hb hne 0
theorem KE.c1 {x y : Value} {l : List Value} (hb : Box W0 b E (x :: y :: l).toArray) (hne : b ∉ R) : ∀ w', KE R w W0 w' → w'.cell? ⟨b, 1, none⟩ = some y := KE.box hb hne 1
end
theorem boxes4 (w : World) (E : TypeId) (c0 c1 c2 c3 : Array Value) :
 Box ((((w.alloc (.cells c0 E)).alloc (.cells c1 E)).alloc (.cells c2 E)).alloc (.cells c3 E)) w.heap.size E c0 ∧ Box ((((w.alloc (.cells c0 E)).alloc (.cells c1 E)).alloc (.cells c2 E)).alloc (.cells c3 E)) (w.heap.size + 1) E c1 ∧
 Box ((((w.alloc (.cells c0 E)).alloc (.cells c1 E)).alloc (.cells c2 E)).alloc (.cells c3 E)) (w.heap.size + 1 + 1) E c2 ∧ Box ((((w.alloc (.cells c0 E)).alloc (.cells c1 E)).alloc (.cells c2 E)).alloc (.cells c3 E)) (w.heap.size + 1 + 1 + 1) E c3 ∧
 Ext w ((((w.alloc (.cells c0 E)).alloc (.cells c1 E)).alloc (.cells c2 E)).alloc (.cells c3 E)) := by
 obtain ⟨h0, h1, h2, hE⟩ := qws w E c0 c1 c2
 refine ⟨h0.alloc _, h1.alloc _, h2.alloc _, ?_, hE.alloc _⟩
 have := Box.new (((w.alloc (.cells c0 E)).alloc (.cells c1 E)).alloc (.cells c2 E)) E c3
 rwa [show (((w.alloc (.cells c0 E)).alloc (.cells c1 E)).alloc (.cells c2 E)).heap.size = w.heap.size + 1 + 1 + 1 by simp] at this
def q32 : Value → Bool | .int _ _ => false | _ => true
theorem Dig.far {w : World} {b : Nat} {E : TypeId} {x y : Value} {v : Value} {n V : Nat} (h : Dig w v n V) (hb : Box w b E #[x, y]) (hx : q32 x = true) (hy : q32 y = true) (i : Nat) (u : Value) : Dig (w.setCell ⟨b, i, none⟩ u) v n V := by
 obtain ⟨A, c, rfl, h1, h2, h3, h4⟩ := h
 refine ⟨A, c, rfl, h1, h2, h3, fun hn => ?_⟩
 obtain ⟨b', off, rfl, hc⟩ := h4 hn
 refine ⟨b', off, rfl, fun j hj => ?_⟩
 have hcj := hc j hj
 by_cases hbb : b' = b
 ·subst hbb
  exfalso
  rw [hb.cell] at hcj
  match off + j, hcj with
  | 0, h => simp at h; subst h; cases hx
  | 1, h => simp at h; subst h; cases hy
  | i + 2, h => simp at h
 ·rw [World.cell?_setCell_other _ _ _ _ (fun e => hbb (by injection e with e; exact e.symm))]; exact hcj
theorem BigV.put {w : World} {b : Nat} {E : TypeId} {p q : Bool} {A A0 : Option Addr} {n c n0 c0 : Nat} {z : Int} (h : BigV w (.agg #[.bool p, .slice A n c]) z) (hb : Box w b E #[.bool q, .slice A0 n0 c0]) :
 BigV ((w.setCell ⟨b, 0, none⟩ (.bool p)).setCell ⟨b, 1, none⟩ (.slice A n c)) (.agg #[.bool p, .slice A n c]) z ∧
  ((w.setCell ⟨b, 0, none⟩ (.bool p)).setCell ⟨b, 1, none⟩ (.slice A n c)).cell? ⟨b, 0, none⟩ = some (.bool p) ∧
  ((w.setCell ⟨b, 0, none⟩ (.bool p)).setCell ⟨b, 1, none⟩ (.slice A n c)).cell? ⟨b, 1, none⟩ = some (.slice A n c) := by
 have hb1 : Box (w.setCell ⟨b, 0, none⟩ (.bool p)) b E #[.bool p, .slice A0 n0 c0] := hb.set 0 _
 have hb2 : Box ((w.setCell ⟨b, 0, none⟩ (.bool p)).setCell ⟨b, 1, none⟩ (.slice A n c)) b E #[.bool p, .slice A n c] := hb1.set 1 _
 refine ⟨?_, hb2.c0, hb2.c1⟩
 obtain ⟨s, m, e, hd, ht⟩ := h
 exact ⟨s, m, e, (hd.far hb rfl rfl 0 _).far hb1 rfl rfl 1 _, ht⟩
theorem q3k (x : Int) : x = (x.natAbs : Int) ∧ ¬ x < 0 ∨ x = -(x.natAbs : Int) ∧ x < 0 := by omega
theorem sgn_mul (x y : Int) : sgn (!(decide (x < 0) == decide (y < 0))) (x.natAbs * y.natAbs) = x * y := by
 unfold sgn
 rcases q3k x with ⟨ex, hx⟩ | ⟨ex, hx⟩ <;> rcases q3k y with ⟨ey, hy⟩ | ⟨ey, hy⟩ <;> simp only [hx, hy] <;> simp
 ·rw [← ex, ← ey]
 ·conv => rhs; rw [ex, ey]
  rw [Int.mul_neg]
 ·conv => rhs; rw [ex, ey]
  rw [Int.neg_mul]
 ·conv => rhs; rw [ex, ey]
  rw [Int.neg_mul_neg]
theorem eAx {a w : World} (h : Ext a w := by repeat (first | (with_reducible exact Ext.refl _) | (with_reducible apply Ext.drew) | (with_reducible apply Ext.drewN) | (with_reducible refine Ext.trans ?_ (by assumption)))) : Ext a w := h
theorem eBx {a w : World} (h : Ext a w := by repeat (first | (with_reducible exact Ext.refl _) | (with_reducible apply Ext.drew) | (with_reducible apply Ext.drewN))) : Ext a w := h
theorem eCx {a w : World} (h : Ext a w := by repeat (first | (with_reducible exact Ext.refl _) | (with_reducible apply Ext.drew) | (with_reducible apply Ext.drewN) | (with_reducible refine Ext.trans ?_ (by with_reducible assumption)))) : Ext a w := h
theorem tkx {P : Program} {ops : Array Oper} {Q : Exit → Act → World → Prop} {md : Region.Mode} {S : World → Prop} {i : Nat} {oi : Oper} {v : Value} {fuel : Nat} {listed : Array Bool} {a : Act} {w : World} (hi : ops[i]? = some oi) (hr : ∀ w, S w → (execOp a.eval oi).run P w = .ok (.value v) w) (hS : S w) (h : wpAnyH P md ops Q S fuel (listed.setIfInBounds i true) (a.put oi.dst v) w) (hs : Region.noSelect ops = true := by kernel_rfl) (hf : Region.free md ops listed i = true := by kernel_rfl) (hc : (Region.ready md ops listed).contains i = true := by kernel_rfl) (hQ : ∀ c a w, Q (.panic c) (a.put oi.dst v) w → Q (.panic c) a w := by exact fun _ _ _ h => h) (hw : Region.wanted oi (yielded ops a.tmps) = true := by rfl) : wpAnyH P md ops Q S (fuel + 1) listed a w := wpAnyH_take hi hs hf hc hQ (Or.inl ⟨hw, hr⟩) hS h
theorem sqa {α : Type _} (l : List α) (i : Nat) (a : α) : l.toArray.setIfInBounds i a = (l.set i a).toArray := by simp
theorem sqb {α : Type _} (x : α) (xs : List α) (a : α) : (x :: xs).set 0 a = a :: xs := rfl
theorem sqc {α : Type _} (x : α) (xs : List α) (i : Nat) (a : α) : (x :: xs).set (i + 1) a = x :: xs.set i a := rfl
end Go.Proofs.YtljncdcjkdgkeaaGreatDoor.Big

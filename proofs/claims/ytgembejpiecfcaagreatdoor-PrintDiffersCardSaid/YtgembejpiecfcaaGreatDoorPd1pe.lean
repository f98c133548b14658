/- Lemmas and contracts for the proof of PrintDiffers (several texts in one, printed by wip/tools/pack.py): Shelf TeC VbA TeD VbB. -/
import Derived.Shelf.Strings.Builder1
import Derived.Shelf.Strings.Builder2
import Derived.Shelf.Strings.OnBuilder
import Derived.Shelf.Small.Strs
import Derived.Shelf.Small.Wraps
import Derived.Shelf.Strings.BuilderF
import Derived.Shelf.Strings.BuilderK
import Derived.Shelf.Utf8.RuneCount
import Derived.Shelf.Strconv.Itoa0
import Derived.Shelf.Strconv.Itoa1
import Derived.Shelf.LaysM
import Derived.Shelf.Strconv.Itoa2
import Derived.Shelf.Strconv.Itoa3
import Derived.Shelf.Strings.Search1
import Derived.Shelf.Strings.Search2
import Derived.Shelf.Strings.Search3
import Derived.Shelf.Strings.Count
import Derived.Shelf.Strings.Shaped
import Derived.Shelf.Strings.Prefix
import Derived.Shelf.Strings.Split
import Derived.Shelf.Strings.Replace
import Derived.Shelf.Strings.SplitShaped
import Derived.Shelf.Unicode.Decode
import Derived.Shelf.Strings.RuneCount
import Derived.Shelf.Strings.Explode
import Derived.Shelf.Bits.Mul64
import Derived.Shelf.Strings.Repeat
import Derived.Shelf.Unicode.DecodeSlow
import Derived.Shelf.Unicode.DecodeAny
import Derived.Test.YtgembejpiecfcaaGreatDoorProg
import Derived.Test.YtgembejpiecfcaaGreatDoorPd1pa
import Derived.Lib.IndexAny
import Derived.Test.YtgembejpiecfcaaGreatDoorPd1pb
set_option maxRecDepth 100000
set_option maxHeartbeats 16000000
namespace Go.Proofs
open Go.Shelf
def Tryz.lays169_ren : Go.Shelf.Ren := ⟨fun | 169 => 40 | n => n, fun | 70 => 81 | 9 => 9 | 0 => 0 | 72 => 83 | 37 => 79 | 127 => 150 | 3 => 3 | 5 => 5 | n => n, fun | n => n⟩
def Tryz.lays156_ren : Go.Shelf.Ren := ⟨fun | 156 => 97 | 165 => 89 | 166 => 37 | 169 => 40 | 240 => 86 | 241 => 139 | 276 => 135 | 277 => 163 | n => n, fun | 31 => 38 | 9 => 9 | 3 => 3 | 4 => 4 | 0 => 0 | 20 => 20 | 72 => 83 | 76 => 86 | 70 => 81 | 37 => 79 | 75 => 85 | 127 => 150 | 164 => 181 | 5 => 5 | 80 => 76 | n => n, fun | n => n⟩
theorem Tryz.lays156 : Go.Proofs.Lays.n156 Tryz.prog Tryz.lays156_ren := {
  mixed := by kernel_rfl
  f156 := Tryz.func97.trans (congrArg some (by kernel_rfl))
  f165 := Tryz.func89.trans (congrArg some (by kernel_rfl))
  f166 := Tryz.func37.trans (congrArg some (by kernel_rfl))
  f169 := Tryz.func40.trans (congrArg some (by kernel_rfl))
  f240 := Tryz.func86.trans (congrArg some (by kernel_rfl))
  f241 := Tryz.func139.trans (congrArg some (by kernel_rfl))
  f276 := Tryz.func135.trans (congrArg some (by kernel_rfl))
  f277 := Tryz.func163.trans (congrArg some (by kernel_rfl))
  t0 := Tryz.underlying0
  a0 := Tryz.isAgg0
  z0 := Tryz.sizeOf0
  v0 := Tryz.zeroValue0
  t3 := Tryz.underlying3
  a3 := Tryz.isAgg3
  z3 := Tryz.sizeOf3
  v3 := Tryz.zeroValue3
  t4 := Tryz.underlying4
  a4 := Tryz.isAgg4
  z4 := Tryz.sizeOf4
  v4 := Tryz.zeroValue4
  t9 := Tryz.underlying9
  a9 := Tryz.isAgg9
  z9 := Tryz.sizeOf9
  v9 := Tryz.zeroValue9
  t20 := Tryz.underlying20
  a20 := Tryz.isAgg20
  z20 := Tryz.sizeOf20
  v20 := Tryz.zeroValue20
  t31 := Tryz.underlying38
  a31 := Tryz.isAgg38
  z31 := Tryz.sizeOf38
  v31 := Tryz.zeroValue38
  t37 := Tryz.underlying79
  a37 := Tryz.isAgg79
  z37 := Tryz.sizeOf79
  v37 := Tryz.zeroValue79
  t70 := Tryz.underlying81
  a70 := Tryz.isAgg81
  z70 := Tryz.sizeOf81
  v70 := Tryz.zeroValue81
  t72 := Tryz.underlying83
  a72 := Tryz.isAgg83
  z72 := Tryz.sizeOf83
  v72 := Tryz.zeroValue83
  t75 := Tryz.underlying85
  a75 := Tryz.isAgg85
  z75 := Tryz.sizeOf85
  v75 := Tryz.zeroValue85
  t76 := Tryz.underlying86
  a76 := Tryz.isAgg86
  z76 := Tryz.sizeOf86
  v76 := Tryz.zeroValue86
  t127 := Tryz.underlying150
  a127 := Tryz.isAgg150
  z127 := Tryz.sizeOf150
  v127 := Tryz.zeroValue150
  t164 := Tryz.underlying181
  a164 := Tryz.isAgg181
  z164 := Tryz.sizeOf181
  v164 := Tryz.zeroValue181 }
theorem Tryz.Builder_Extra_156 : Builder.Extra Tryz.prog Tryz.lays156_ren := {
  sizeBuilder := by kernel_rfl
  liesBuilder := by kernel_rfl
  t5 := Tryz.underlying5
  a5 := Tryz.isAgg5
  z5 := Tryz.sizeOf5
  v5 := Tryz.zeroValue5
  infoByte := by kernel_rfl
  cellsByte := by kernel_rfl
  sizeByte := by kernel_rfl
  neB5 := by decide }
open Go.RowKit in
theorem Tryz.strings_Join (bk o c : Nat) (xs : List ByteArray) (sep : ByteArray) (w : World) (hcells : ∀ (j : Nat) x, xs[j]? = some x → w.cell? ⟨bk, o + j, none⟩ = some (.string x)) (hbk : bk < w.heap.size) (hN : xs.length ≤ 140737488355328) (hcap : xs.length ≤ c) (hlen : (Lib.join (xs.map (·.data.toList)) sep.data.toList).length ≤ 140737488355328) :
    Calls Tryz.prog 97 #[.slice (some ⟨bk, o, none⟩) xs.length c, .string sep] w fun e w' => e = .returned (.string ⟨(Lib.join (xs.map (·.data.toList)) sep.data.toList).toArray⟩) ∧ Below w.heap.size w w' := Any.strings_Join Tryz.lays156 Tryz.Builder_Extra_156 bk o c xs sep w hcells hbk hN hcap hlen
def Tryz.lays137_ren : Go.Shelf.Ren := ⟨fun | 137 => 174 | 217 => 176 | 266 => 187 | n => n, fun | 9 => 9 | 5 => 5 | 3 => 3 | n => n, fun | n => n⟩
theorem Tryz.lays137 : Go.Proofs.Lays.n137 Tryz.prog Tryz.lays137_ren := {
  mixed := by kernel_rfl
  f137 := Tryz.func174.trans (congrArg some (by kernel_rfl))
  f217 := Tryz.func176.trans (congrArg some (by kernel_rfl))
  f266 := Tryz.func187.trans (congrArg some (by kernel_rfl))
  t3 := Tryz.underlying3
  a3 := Tryz.isAgg3
  z3 := Tryz.sizeOf3
  v3 := Tryz.zeroValue3
  t5 := Tryz.underlying5
  a5 := Tryz.isAgg5
  z5 := Tryz.sizeOf5
  v5 := Tryz.zeroValue5
  t9 := Tryz.underlying9
  a9 := Tryz.isAgg9
  z9 := Tryz.sizeOf9
  v9 := Tryz.zeroValue9 }
open Go.RowKit in
theorem Tryz.strings_IndexByte (s : ByteArray) (c : Int) (w : World) :
    Calls Tryz.prog 174 #[.string s, .int .u8 c] w fun e w' => e = .returned (.int .i64 (Lib.indexByte s.data.toList c.toNat.toUInt8)) ∧ w' = w := Any.strings_IndexByte Tryz.lays137 s c w
def Tryz.lays104_ren : Go.Shelf.Ren := ⟨fun | 104 => 47 | 211 => 95 | 207 => 141 | n => n, fun | 9 => 9 | 4 => 4 | 24 => 94 | 3 => 3 | n => n, fun | n => n⟩
theorem Tryz.lays104 : Go.Proofs.Lays.n104 Tryz.prog Tryz.lays104_ren := {
  mixed := by kernel_rfl
  f104 := Tryz.func47.trans (congrArg some (by kernel_rfl))
  f207 := Tryz.func141.trans (congrArg some (by kernel_rfl))
  f211 := Tryz.func95.trans (congrArg some (by kernel_rfl))
  t3 := Tryz.underlying3
  a3 := Tryz.isAgg3
  z3 := Tryz.sizeOf3
  v3 := Tryz.zeroValue3
  t4 := Tryz.underlying4
  a4 := Tryz.isAgg4
  z4 := Tryz.sizeOf4
  v4 := Tryz.zeroValue4
  t9 := Tryz.underlying9
  a9 := Tryz.isAgg9
  z9 := Tryz.sizeOf9
  v9 := Tryz.zeroValue9
  t24 := Tryz.underlying94
  a24 := Tryz.isAgg94
  z24 := Tryz.sizeOf94
  v24 := Tryz.zeroValue94 }
open Go.RowKit in
theorem Tryz.strings_CutSuffix (s p : ByteArray) (w : World) (hs : s.size ≤ 9223372036854775807) :
    Calls Tryz.prog 47 #[.string s, .string p] w fun e w' => e = .returned (.tuple #[.string ⟨(Lib.trimSuffix s.data.toList p.data.toList).toArray⟩, .bool (Lib.hasSuffix s.data.toList p.data.toList)]) ∧ w' = w := Any.strings_CutSuffix Tryz.lays104 s p w hs
def Tryz.lays171_ren : Go.Shelf.Ren := ⟨fun | 171 => 99 | 243 => 146 | 246 => 147 | 283 => 168 | 284 => 169 | 285 => 170 | 286 => 171 | 129 => 181 | 317 => 180 | 318 => 182 | 319 => 183 | 320 => 184 | 337 => 189 | 338 => 190 | n => n, fun | 3 => 3 | 9 => 9 | 2 => 2 | 4 => 4 | 171 => 201 | 0 => 0 | 53 => 185 | 37 => 79 | 5 => 5 | 173 => 204 | 212 => 208 | 51 => 62 | 20 => 20 | 213 => 209 | 46 => 97 | 232 => 221 | 233 => 222 | n => n, fun | 17 => 1 | 18 => 4 | 19 => 5 | n => n⟩
theorem Tryz.lays171 : Go.Proofs.Lays.n171 Tryz.prog Tryz.lays171_ren := {
  mixed := by kernel_rfl
  f129 := Tryz.func181.trans (congrArg some (by kernel_rfl))
  f171 := Tryz.func99.trans (congrArg some (by kernel_rfl))
  f243 := Tryz.func146.trans (congrArg some (by kernel_rfl))
  f246 := Tryz.func147.trans (congrArg some (by kernel_rfl))
  f283 := Tryz.func168.trans (congrArg some (by kernel_rfl))
  f284 := Tryz.func169.trans (congrArg some (by kernel_rfl))
  f285 := Tryz.func170.trans (congrArg some (by kernel_rfl))
  f286 := Tryz.func171.trans (congrArg some (by kernel_rfl))
  f317 := Tryz.func180.trans (congrArg some (by kernel_rfl))
  f318 := Tryz.func182.trans (congrArg some (by kernel_rfl))
  f319 := Tryz.func183.trans (congrArg some (by kernel_rfl))
  f320 := Tryz.func184.trans (congrArg some (by kernel_rfl))
  f337 := Tryz.func189.trans (congrArg some (by kernel_rfl))
  f338 := Tryz.func190.trans (congrArg some (by kernel_rfl))
  t0 := Tryz.underlying0
  a0 := Tryz.isAgg0
  z0 := Tryz.sizeOf0
  v0 := Tryz.zeroValue0
  t2 := Tryz.underlying2
  a2 := Tryz.isAgg2
  z2 := Tryz.sizeOf2
  v2 := Tryz.zeroValue2
  t3 := Tryz.underlying3
  a3 := Tryz.isAgg3
  z3 := Tryz.sizeOf3
  v3 := Tryz.zeroValue3
  t4 := Tryz.underlying4
  a4 := Tryz.isAgg4
  z4 := Tryz.sizeOf4
  v4 := Tryz.zeroValue4
  t5 := Tryz.underlying5
  a5 := Tryz.isAgg5
  z5 := Tryz.sizeOf5
  v5 := Tryz.zeroValue5
  t9 := Tryz.underlying9
  a9 := Tryz.isAgg9
  z9 := Tryz.sizeOf9
  v9 := Tryz.zeroValue9
  t20 := Tryz.underlying20
  a20 := Tryz.isAgg20
  z20 := Tryz.sizeOf20
  v20 := Tryz.zeroValue20
  t37 := Tryz.underlying79
  a37 := Tryz.isAgg79
  z37 := Tryz.sizeOf79
  v37 := Tryz.zeroValue79
  t46 := Tryz.underlying97
  a46 := Tryz.isAgg97
  z46 := Tryz.sizeOf97
  v46 := Tryz.zeroValue97
  t51 := Tryz.underlying62
  a51 := Tryz.isAgg62
  z51 := Tryz.sizeOf62
  v51 := Tryz.zeroValue62
  t53 := Tryz.underlying185
  a53 := Tryz.isAgg185
  z53 := Tryz.sizeOf185
  v53 := Tryz.zeroValue185
  t171 := Tryz.underlying201
  a171 := Tryz.isAgg201
  z171 := Tryz.sizeOf201
  v171 := Tryz.zeroValue201
  t173 := Tryz.underlying204
  a173 := Tryz.isAgg204
  z173 := Tryz.sizeOf204
  v173 := Tryz.zeroValue204
  t212 := Tryz.underlying208
  a212 := Tryz.isAgg208
  z212 := Tryz.sizeOf208
  v212 := Tryz.zeroValue208
  t213 := Tryz.underlying209
  a213 := Tryz.isAgg209
  z213 := Tryz.sizeOf209
  t232 := Tryz.underlying221
  a232 := Tryz.isAgg221
  z232 := Tryz.sizeOf221
  v232 := Tryz.zeroValue221
  t233 := Tryz.underlying222
  a233 := Tryz.isAgg222
  z233 := Tryz.sizeOf222
  v233 := Tryz.zeroValue222
  g17 := by kernel_rfl
  g18 := by kernel_rfl
  g19 := by kernel_rfl }
open Go.RowKit Go.Sort Go.Lib in
theorem Tryz.strconv_Itoa_small (i : Nat) (hi : i < 100) (w : World) :
    Calls Tryz.prog 99 #[.int .i64 i] w fun e w' => e = .returned (.string ⟨(Lib.decDigits i).toArray⟩) ∧ w' = w := Any.strconv_Itoa_small Tryz.lays171 i hi w
def Tryz.lays144_ren : Go.Shelf.Ren := ⟨fun | 144 => 162 | 143 => 144 | 219 => 167 | 217 => 176 | 225 => 177 | 224 => 178 | 267 => 179 | 266 => 187 | 314 => 188 | n => n, fun | 9 => 9 | 4 => 4 | 3 => 3 | 5 => 5 | 46 => 97 | 146 => 183 | 51 => 62 | n => n, fun | 1 => 0 | n => n⟩
theorem Tryz.lays144 : Go.Proofs.Lays.n144 Tryz.prog Tryz.lays144_ren := {
  mixed := by kernel_rfl
  f143 := Tryz.func144.trans (congrArg some (by kernel_rfl))
  f144 := Tryz.func162.trans (congrArg some (by kernel_rfl))
  f217 := Tryz.func176.trans (congrArg some (by kernel_rfl))
  f219 := Tryz.func167.trans (congrArg some (by kernel_rfl))
  f224 := Tryz.func178.trans (congrArg some (by kernel_rfl))
  f225 := Tryz.func177.trans (congrArg some (by kernel_rfl))
  f266 := Tryz.func187.trans (congrArg some (by kernel_rfl))
  f267 := Tryz.func179.trans (congrArg some (by kernel_rfl))
  f314 := Tryz.func188.trans (congrArg some (by kernel_rfl))
  t3 := Tryz.underlying3
  a3 := Tryz.isAgg3
  z3 := Tryz.sizeOf3
  v3 := Tryz.zeroValue3
  t4 := Tryz.underlying4
  a4 := Tryz.isAgg4
  z4 := Tryz.sizeOf4
  v4 := Tryz.zeroValue4
  t5 := Tryz.underlying5
  a5 := Tryz.isAgg5
  z5 := Tryz.sizeOf5
  v5 := Tryz.zeroValue5
  t9 := Tryz.underlying9
  a9 := Tryz.isAgg9
  z9 := Tryz.sizeOf9
  v9 := Tryz.zeroValue9
  t46 := Tryz.underlying97
  a46 := Tryz.isAgg97
  z46 := Tryz.sizeOf97
  v46 := Tryz.zeroValue97
  t51 := Tryz.underlying62
  a51 := Tryz.isAgg62
  z51 := Tryz.sizeOf62
  v51 := Tryz.zeroValue62
  t146 := Tryz.underlying183
  a146 := Tryz.isAgg183
  z146 := Tryz.sizeOf183
  v146 := Tryz.zeroValue183
  g1 := by kernel_rfl }
open Go.RowKit Go.Lib in
theorem Tryz.strings_Contains_one (s : ByteArray) (c : UInt8) (w : World) :
    Calls Tryz.prog 162 #[.string s, .string ⟨#[c]⟩] w fun e w' => e = .returned (.bool (decide (0 ≤ Lib.indexByte s.data.toList c))) ∧ w' = w := Any.strings_Contains_one Tryz.lays144 s c w
def Tryz.lays99_ren : Go.Shelf.Ren := ⟨fun | 99 => 88 | 206 => 138 | n => n, fun | 9 => 9 | 4 => 4 | 3 => 3 | n => n, fun | n => n⟩
theorem Tryz.lays99 : Go.Proofs.Lays.n99 Tryz.prog Tryz.lays99_ren := {
  mixed := by kernel_rfl
  f99 := Tryz.func88.trans (congrArg some (by kernel_rfl))
  f206 := Tryz.func138.trans (congrArg some (by kernel_rfl))
  t3 := Tryz.underlying3
  a3 := Tryz.isAgg3
  z3 := Tryz.sizeOf3
  v3 := Tryz.zeroValue3
  t4 := Tryz.underlying4
  a4 := Tryz.isAgg4
  z4 := Tryz.sizeOf4
  v4 := Tryz.zeroValue4
  t9 := Tryz.underlying9
  a9 := Tryz.isAgg9
  z9 := Tryz.sizeOf9
  v9 := Tryz.zeroValue9 }
open Go.RowKit Go.Lib in
theorem Tryz.strings_HasPrefix (s p : ByteArray) (w : World) :
    Calls Tryz.prog 88 #[.string s, .string p] w fun e w' => e = .returned (.bool (Lib.hasPrefix s.data.toList p.data.toList)) ∧ w' = w := Any.strings_HasPrefix Tryz.lays99 s p w
def Tryz.lays146_ren : Go.Shelf.Ren := ⟨fun | 146 => 48 | 221 => 96 | 268 => 142 | 138 => 143 | 143 => 144 | 195 => 164 | 197 => 165 | 218 => 166 | 219 => 167 | 260 => 175 | 217 => 176 | 225 => 177 | 224 => 178 | 267 => 179 | 266 => 187 | 314 => 188 | n => n, fun | 9 => 9 | 31 => 38 | 3 => 3 | 4 => 4 | 0 => 0 | 105 => 198 | 21 => 21 | 5 => 5 | 46 => 97 | 119 => 213 | 139 => 216 | 138 => 215 | 146 => 183 | 51 => 62 | n => n, fun | 1 => 0 | 3 => 2 | 4 => 3 | n => n⟩
theorem Tryz.lays146 : Go.Proofs.Lays.n146 Tryz.prog Tryz.lays146_ren := {
  mixed := by kernel_rfl
  f138 := Tryz.func143.trans (congrArg some (by kernel_rfl))
  f143 := Tryz.func144.trans (congrArg some (by kernel_rfl))
  f146 := Tryz.func48.trans (congrArg some (by kernel_rfl))
  f195 := Tryz.func164.trans (congrArg some (by kernel_rfl))
  f197 := Tryz.func165.trans (congrArg some (by kernel_rfl))
  f217 := Tryz.func176.trans (congrArg some (by kernel_rfl))
  f218 := Tryz.func166.trans (congrArg some (by kernel_rfl))
  f219 := Tryz.func167.trans (congrArg some (by kernel_rfl))
  f221 := Tryz.func96.trans (congrArg some (by kernel_rfl))
  f224 := Tryz.func178.trans (congrArg some (by kernel_rfl))
  f225 := Tryz.func177.trans (congrArg some (by kernel_rfl))
  f260 := Tryz.func175.trans (congrArg some (by kernel_rfl))
  f266 := Tryz.func187.trans (congrArg some (by kernel_rfl))
  f267 := Tryz.func179.trans (congrArg some (by kernel_rfl))
  f268 := Tryz.func142.trans (congrArg some (by kernel_rfl))
  f314 := Tryz.func188.trans (congrArg some (by kernel_rfl))
  t0 := Tryz.underlying0
  a0 := Tryz.isAgg0
  z0 := Tryz.sizeOf0
  v0 := Tryz.zeroValue0
  t3 := Tryz.underlying3
  a3 := Tryz.isAgg3
  z3 := Tryz.sizeOf3
  v3 := Tryz.zeroValue3
  t4 := Tryz.underlying4
  a4 := Tryz.isAgg4
  z4 := Tryz.sizeOf4
  v4 := Tryz.zeroValue4
  t5 := Tryz.underlying5
  a5 := Tryz.isAgg5
  z5 := Tryz.sizeOf5
  v5 := Tryz.zeroValue5
  t9 := Tryz.underlying9
  a9 := Tryz.isAgg9
  z9 := Tryz.sizeOf9
  v9 := Tryz.zeroValue9
  t21 := Tryz.underlying21
  a21 := Tryz.isAgg21
  z21 := Tryz.sizeOf21
  v21 := Tryz.zeroValue21
  t31 := Tryz.underlying38
  a31 := Tryz.isAgg38
  z31 := Tryz.sizeOf38
  v31 := Tryz.zeroValue38
  t46 := Tryz.underlying97
  a46 := Tryz.isAgg97
  z46 := Tryz.sizeOf97
  v46 := Tryz.zeroValue97
  t51 := Tryz.underlying62
  a51 := Tryz.isAgg62
  z51 := Tryz.sizeOf62
  v51 := Tryz.zeroValue62
  t105 := Tryz.underlying198
  a105 := Tryz.isAgg198
  z105 := Tryz.sizeOf198
  v105 := Tryz.zeroValue198
  t119 := Tryz.underlying213
  a119 := Tryz.isAgg213
  z119 := Tryz.sizeOf213
  t138 := Tryz.underlying215
  a138 := Tryz.isAgg215
  z138 := Tryz.sizeOf215
  v138 := Tryz.zeroValue215
  t139 := Tryz.underlying216
  a139 := Tryz.isAgg216
  z139 := Tryz.sizeOf216
  v139 := Tryz.zeroValue216
  t146 := Tryz.underlying183
  a146 := Tryz.isAgg183
  z146 := Tryz.sizeOf183
  v146 := Tryz.zeroValue183
  g1 := by kernel_rfl
  g3 := by kernel_rfl
  g4 := by kernel_rfl }
open Go.RowKit Go.Lib in
theorem Tryz.strings_Split (s sep : ByteArray) (m : Int) (w : World) (hs : s.size < 4294967281) (hm : w.cell? ⟨0, 0, none⟩ = some (.int .i64 m)) (h1 : 1 ≤ sep.size) :
    Calls Tryz.prog 48 #[.string s, .string sep] w fun e w' =>
      e = .returned (.slice (some ⟨w.heap.size, 0, none⟩) (Lib.countB s sep + 1) (Lib.countB s sep + 1)) ∧ w' = w.alloc (.cells ((Lib.splitB sep 0 (Lib.countB s sep) s).map Value.string).toArray 9) := Any.strings_Split Tryz.lays146 (by kernel_rfl) s sep m w hs hm h1
def Tryz.lays155_ren : Go.Shelf.Ren := ⟨fun | 155 => 98 | 154 => 145 | 138 => 143 | 165 => 89 | 143 => 144 | 166 => 37 | 197 => 165 | 169 => 40 | 195 => 164 | 218 => 166 | 240 => 86 | 241 => 139 | 219 => 167 | 260 => 175 | 276 => 135 | 277 => 163 | 217 => 176 | 225 => 177 | 224 => 178 | 267 => 179 | 266 => 187 | 314 => 188 | n => n, fun | 9 => 9 | 3 => 3 | 4 => 4 | 72 => 83 | 0 => 0 | 76 => 86 | 105 => 198 | 21 => 21 | 5 => 5 | 70 => 81 | 20 => 20 | 37 => 79 | 75 => 85 | 127 => 150 | 164 => 181 | 46 => 97 | 119 => 213 | 139 => 216 | 138 => 215 | 146 => 183 | 51 => 62 | 80 => 76 | n => n, fun | 1 => 0 | 3 => 2 | 4 => 3 | n => n⟩
theorem Tryz.lays155 : Go.Proofs.Lays.n155 Tryz.prog Tryz.lays155_ren := {
  mixed := by kernel_rfl
  f138 := Tryz.func143.trans (congrArg some (by kernel_rfl))
  f143 := Tryz.func144.trans (congrArg some (by kernel_rfl))
  f154 := Tryz.func145.trans (congrArg some (by kernel_rfl))
  f155 := Tryz.func98.trans (congrArg some (by kernel_rfl))
  f165 := Tryz.func89.trans (congrArg some (by kernel_rfl))
  f166 := Tryz.func37.trans (congrArg some (by kernel_rfl))
  f169 := Tryz.func40.trans (congrArg some (by kernel_rfl))
  f195 := Tryz.func164.trans (congrArg some (by kernel_rfl))
  f197 := Tryz.func165.trans (congrArg some (by kernel_rfl))
  f217 := Tryz.func176.trans (congrArg some (by kernel_rfl))
  f218 := Tryz.func166.trans (congrArg some (by kernel_rfl))
  f219 := Tryz.func167.trans (congrArg some (by kernel_rfl))
  f224 := Tryz.func178.trans (congrArg some (by kernel_rfl))
  f225 := Tryz.func177.trans (congrArg some (by kernel_rfl))
  f240 := Tryz.func86.trans (congrArg some (by kernel_rfl))
  f241 := Tryz.func139.trans (congrArg some (by kernel_rfl))
  f260 := Tryz.func175.trans (congrArg some (by kernel_rfl))
  f266 := Tryz.func187.trans (congrArg some (by kernel_rfl))
  f267 := Tryz.func179.trans (congrArg some (by kernel_rfl))
  f276 := Tryz.func135.trans (congrArg some (by kernel_rfl))
  f277 := Tryz.func163.trans (congrArg some (by kernel_rfl))
  f314 := Tryz.func188.trans (congrArg some (by kernel_rfl))
  t0 := Tryz.underlying0
  a0 := Tryz.isAgg0
  z0 := Tryz.sizeOf0
  v0 := Tryz.zeroValue0
  t3 := Tryz.underlying3
  a3 := Tryz.isAgg3
  z3 := Tryz.sizeOf3
  v3 := Tryz.zeroValue3
  t4 := Tryz.underlying4
  a4 := Tryz.isAgg4
  z4 := Tryz.sizeOf4
  v4 := Tryz.zeroValue4
  t5 := Tryz.underlying5
  a5 := Tryz.isAgg5
  z5 := Tryz.sizeOf5
  v5 := Tryz.zeroValue5
  t9 := Tryz.underlying9
  a9 := Tryz.isAgg9
  z9 := Tryz.sizeOf9
  v9 := Tryz.zeroValue9
  t20 := Tryz.underlying20
  a20 := Tryz.isAgg20
  z20 := Tryz.sizeOf20
  v20 := Tryz.zeroValue20
  t21 := Tryz.underlying21
  a21 := Tryz.isAgg21
  z21 := Tryz.sizeOf21
  v21 := Tryz.zeroValue21
  t37 := Tryz.underlying79
  a37 := Tryz.isAgg79
  z37 := Tryz.sizeOf79
  v37 := Tryz.zeroValue79
  t46 := Tryz.underlying97
  a46 := Tryz.isAgg97
  z46 := Tryz.sizeOf97
  v46 := Tryz.zeroValue97
  t51 := Tryz.underlying62
  a51 := Tryz.isAgg62
  z51 := Tryz.sizeOf62
  v51 := Tryz.zeroValue62
  t70 := Tryz.underlying81
  a70 := Tryz.isAgg81
  z70 := Tryz.sizeOf81
  v70 := Tryz.zeroValue81
  t72 := Tryz.underlying83
  a72 := Tryz.isAgg83
  z72 := Tryz.sizeOf83
  v72 := Tryz.zeroValue83
  t75 := Tryz.underlying85
  a75 := Tryz.isAgg85
  z75 := Tryz.sizeOf85
  v75 := Tryz.zeroValue85
  t76 := Tryz.underlying86
  a76 := Tryz.isAgg86
  z76 := Tryz.sizeOf86
  v76 := Tryz.zeroValue86
  t105 := Tryz.underlying198
  a105 := Tryz.isAgg198
  z105 := Tryz.sizeOf198
  v105 := Tryz.zeroValue198
  t119 := Tryz.underlying213
  a119 := Tryz.isAgg213
  z119 := Tryz.sizeOf213
  t127 := Tryz.underlying150
  a127 := Tryz.isAgg150
  z127 := Tryz.sizeOf150
  v127 := Tryz.zeroValue150
  t138 := Tryz.underlying215
  a138 := Tryz.isAgg215
  z138 := Tryz.sizeOf215
  v138 := Tryz.zeroValue215
  t139 := Tryz.underlying216
  a139 := Tryz.isAgg216
  z139 := Tryz.sizeOf216
  v139 := Tryz.zeroValue216
  t146 := Tryz.underlying183
  a146 := Tryz.isAgg183
  z146 := Tryz.sizeOf183
  v146 := Tryz.zeroValue183
  t164 := Tryz.underlying181
  a164 := Tryz.isAgg181
  z164 := Tryz.sizeOf181
  v164 := Tryz.zeroValue181
  g1 := by kernel_rfl
  g3 := by kernel_rfl
  g4 := by kernel_rfl }
theorem Tryz.Builder_Extra_155 : Builder.Extra Tryz.prog Tryz.lays155_ren := {
  sizeBuilder := by kernel_rfl
  liesBuilder := by kernel_rfl
  t5 := Tryz.underlying5
  a5 := Tryz.isAgg5
  z5 := Tryz.sizeOf5
  v5 := Tryz.zeroValue5
  infoByte := by kernel_rfl
  cellsByte := by kernel_rfl
  sizeByte := by kernel_rfl
  neB5 := by decide }
open Go.RowKit Go.Lib in
theorem Tryz.strings_ReplaceAll (s old new : ByteArray) (m : Int) (w : World) (hs : s.size < 4294967281) (hm : w.cell? ⟨0, 0, none⟩ = some (.int .i64 m)) (h1 : 1 ≤ old.size) (hlen : s.size + Lib.countB s old * new.size ≤ 140737488355328) :
    Calls Tryz.prog 98 #[.string s, .string old, .string new] w fun e w' =>
      e = .returned (.string ⟨(Lib.replaceAll s.data.toList old.data.toList new.data.toList).toArray⟩) ∧ Below w.heap.size w w' := Any.strings_ReplaceAll Tryz.lays155 Tryz.Builder_Extra_155 s old new m w hs hm h1 hlen
def Tryz.lays105_ren : Go.Shelf.Ren := ⟨fun | 105 => 38 | 212 => 87 | 99 => 88 | 165 => 89 | 166 => 37 | 170 => 90 | 169 => 40 | 263 => 136 | 264 => 137 | 206 => 138 | 240 => 86 | 241 => 139 | 276 => 135 | 277 => 163 | n => n, fun | 9 => 9 | 3 => 3 | 4 => 4 | 20 => 20 | 0 => 0 | 46 => 97 | 109 => 147 | 5 => 5 | 72 => 83 | 76 => 86 | 51 => 62 | 146 => 183 | 53 => 185 | 148 => 186 | 70 => 81 | 37 => 79 | 75 => 85 | 127 => 150 | 164 => 181 | 80 => 76 | n => n, fun | n => n⟩
theorem Tryz.lays105 : Go.Proofs.Lays.n105 Tryz.prog Tryz.lays105_ren := {
  mixed := by kernel_rfl
  f99 := Tryz.func88.trans (congrArg some (by kernel_rfl))
  f105 := Tryz.func38.trans (congrArg some (by kernel_rfl))
  f165 := Tryz.func89.trans (congrArg some (by kernel_rfl))
  f166 := Tryz.func37.trans (congrArg some (by kernel_rfl))
  f169 := Tryz.func40.trans (congrArg some (by kernel_rfl))
  f170 := Tryz.func90.trans (congrArg some (by kernel_rfl))
  f206 := Tryz.func138.trans (congrArg some (by kernel_rfl))
  f212 := Tryz.func87.trans (congrArg some (by kernel_rfl))
  f240 := Tryz.func86.trans (congrArg some (by kernel_rfl))
  f241 := Tryz.func139.trans (congrArg some (by kernel_rfl))
  f263 := Tryz.func136.trans (congrArg some (by kernel_rfl))
  f264 := Tryz.func137.trans (congrArg some (by kernel_rfl))
  f276 := Tryz.func135.trans (congrArg some (by kernel_rfl))
  f277 := Tryz.func163.trans (congrArg some (by kernel_rfl))
  t0 := Tryz.underlying0
  a0 := Tryz.isAgg0
  z0 := Tryz.sizeOf0
  v0 := Tryz.zeroValue0
  t3 := Tryz.underlying3
  a3 := Tryz.isAgg3
  z3 := Tryz.sizeOf3
  v3 := Tryz.zeroValue3
  t4 := Tryz.underlying4
  a4 := Tryz.isAgg4
  z4 := Tryz.sizeOf4
  v4 := Tryz.zeroValue4
  t5 := Tryz.underlying5
  a5 := Tryz.isAgg5
  z5 := Tryz.sizeOf5
  v5 := Tryz.zeroValue5
  t9 := Tryz.underlying9
  a9 := Tryz.isAgg9
  z9 := Tryz.sizeOf9
  v9 := Tryz.zeroValue9
  t20 := Tryz.underlying20
  a20 := Tryz.isAgg20
  z20 := Tryz.sizeOf20
  v20 := Tryz.zeroValue20
  t37 := Tryz.underlying79
  a37 := Tryz.isAgg79
  z37 := Tryz.sizeOf79
  v37 := Tryz.zeroValue79
  t46 := Tryz.underlying97
  a46 := Tryz.isAgg97
  z46 := Tryz.sizeOf97
  v46 := Tryz.zeroValue97
  t51 := Tryz.underlying62
  a51 := Tryz.isAgg62
  z51 := Tryz.sizeOf62
  v51 := Tryz.zeroValue62
  t53 := Tryz.underlying185
  a53 := Tryz.isAgg185
  z53 := Tryz.sizeOf185
  v53 := Tryz.zeroValue185
  t70 := Tryz.underlying81
  a70 := Tryz.isAgg81
  z70 := Tryz.sizeOf81
  v70 := Tryz.zeroValue81
  t72 := Tryz.underlying83
  a72 := Tryz.isAgg83
  z72 := Tryz.sizeOf83
  v72 := Tryz.zeroValue83
  t75 := Tryz.underlying85
  a75 := Tryz.isAgg85
  z75 := Tryz.sizeOf85
  v75 := Tryz.zeroValue85
  t76 := Tryz.underlying86
  a76 := Tryz.isAgg86
  z76 := Tryz.sizeOf86
  v76 := Tryz.zeroValue86
  t109 := Tryz.underlying147
  a109 := Tryz.isAgg147
  z109 := Tryz.sizeOf147
  v109 := Tryz.zeroValue147
  t127 := Tryz.underlying150
  a127 := Tryz.isAgg150
  z127 := Tryz.sizeOf150
  v127 := Tryz.zeroValue150
  t146 := Tryz.underlying183
  a146 := Tryz.isAgg183
  z146 := Tryz.sizeOf183
  v146 := Tryz.zeroValue183
  t148 := Tryz.underlying186
  a148 := Tryz.isAgg186
  z148 := Tryz.sizeOf186
  v148 := Tryz.zeroValue186
  t164 := Tryz.underlying181
  a164 := Tryz.isAgg181
  z164 := Tryz.sizeOf181
  v164 := Tryz.zeroValue181 }
theorem Tryz.Builder_Extra_105 : Builder.Extra Tryz.prog Tryz.lays105_ren := {
  sizeBuilder := by kernel_rfl
  liesBuilder := by kernel_rfl
  t5 := Tryz.underlying5
  a5 := Tryz.isAgg5
  z5 := Tryz.sizeOf5
  v5 := Tryz.zeroValue5
  infoByte := by kernel_rfl
  cellsByte := by kernel_rfl
  sizeByte := by kernel_rfl
  neB5 := by decide }
open Go.RowKit Go.Lib in
theorem Tryz.strings_Repeat (s : ByteArray) (c : Nat) (w : World) (hc : c ≤ 9223372036854775807) (hlen : s.size * c ≤ 140737488355328) :
    Calls Tryz.prog 38 #[.string s, .int .i64 c] w fun e w' => e = .returned (.string ⟨(Lib.repeatL s.data.toList c).toArray⟩) ∧ Below w.heap.size w w' := Any.strings_Repeat Tryz.lays105 Tryz.Builder_Extra_105 s c w hc hlen
end Go.Proofs

set_option linter.unusedVariables false
set_option linter.unusedSimpArgs false
namespace Go.Proofs.YtgembejpiecfcaaGreatDoor
open Go.RowKit
open Classical
theorem letter_any (c : Int) (w : World) :
    Calls Tryz.prog 159 #[.int .u8 c] w fun e w' => e = .returned (.bool (letC c)) ∧ w = w' := by
  go_enter Tryz.func159, Tryz.ntmps159
  go_wp2
  all_goals go_ret
  all_goals exact ⟨ret_bool (by unfold letC; rw [Bool.eq_iff_iff]; simp; try omega), rfl⟩
theorem digit_any (c : Int) (w : World) :
    Calls Tryz.prog 186 #[.int .u8 c] w fun e w' => e = .returned (.bool (digC c)) ∧ w = w' := by
  go_enter Tryz.func186, Tryz.ntmps186
  go_wp2
  all_goals go_ret
  all_goals exact ⟨ret_bool (by unfold digC; rw [Bool.eq_iff_iff]; simp; try omega), rfl⟩
theorem word_any (c : Int) (w : World) :
    Calls Tryz.prog 173 #[.int .u8 c] w fun e w' => e = .returned (.bool (wrdC c)) ∧ w = w' := by
  go_enter Tryz.func173, Tryz.ntmps173
  go_wp2_with (first
    | (go_at_call 159; refine (letter_any _ _).mono ?_; rintro e w' ⟨rfl, rfl⟩)
    | (go_at_call 186; refine (digit_any _ _).mono ?_; rintro e w' ⟨rfl, rfl⟩))
  all_goals go_ret
  all_goals exact ⟨ret_bool (by unfold wrdC; simp_all), rfl⟩
theorem name_any (c : UInt8) (w : World) :
    Calls Tryz.prog 161 #[.int .u8 (c.toNat : Int)] w fun e w' => e = .returned (.bool (namC c)) ∧ w = w' := by
  go_enter Tryz.func161, Tryz.ntmps161
  go_wp2_with (first
    | (go_at_call 173; refine (word_any _ _).mono ?_; rintro e w' ⟨rfl, rfl⟩)
    | (go_at_call 174; refine (Tryz.strings_IndexByte _ _ _).mono ?_; rintro e w' ⟨rfl, rfl⟩))
  all_goals go_ret
  all_goals exact ⟨ret_bool (by unfold namC sgnS; rw [Lib.contains_iff_indexByte]; simp_all), rfl⟩
theorem tokenAll_any (s : St) (w : World) (hf : s.length ≤ 1000000) :
    Calls Tryz.prog 160 #[.string (bs s), .func (.func 161) #[] #[]] w fun e w' => e = .returned (.bool (s.all namC)) ∧ w = w' := by
  go_enter Tryz.func160, Tryz.ntmps160
  go_wp2_with fail
  go_loop [8] (fun i => ∃ k : Nat, k ≤ s.length ∧ i = .int .i64 k ∧ (s.take k).all namC = true) (fun i => s.length - (intOf i).toNat)
  case atStart => exact ⟨0, Nat.zero_le _, rfl, rfl⟩
  case round =>
    obtain ⟨k, hk, rfl, hall⟩ := hrel
    have HA := Lib.hid hall
    clear hall
    by_cases hlt : k < s.length
    · by_cases hq : namC s[k] = true
      · go_wp2_with (go_at_call 161; refine (name_any _ _).mono ?_; rintro e w' ⟨rfl, rfl⟩)
        go_round
        case rel => exact ⟨k + 1, by omega, by go_num, by rw [List.take_succ_eq_append_getElem hlt, List.all_append, HA.out]; simp [hq]⟩
        case measure => simp [intOf]; omega
      · rw [Bool.not_eq_true] at hq
        go_wp2_with (go_at_call 161; refine (name_any _ _).mono ?_; rintro e w' ⟨rfl, rfl⟩)
        go_ret
        exact ⟨ret_bool (by symm; rw [List.all_eq_false]; exact ⟨_, List.getElem_mem hlt, by simp [hq]⟩), rfl⟩
    · go_wp2_with fail
      go_ret
      exact ⟨ret_bool (by rw [← HA.out, List.take_of_length_le (by omega)]), rfl⟩
theorem chr0 {s : St} (h : 1 ≤ s.length) : chr s 0 = (s[0].toNat : Int) := by
  unfold chr; rw [List.getD_eq_getElem?_getD, List.getElem?_eq_getElem h]; rfl
theorem tokenName_any (s : St) (w : World) :
    Calls Tryz.prog 133 #[.string (bs s)] w fun e w' => e = .returned (.bool (nameOk s)) ∧ w = w' := by
  by_cases h1 : 1 ≤ s.length
  · by_cases h2 : s.length ≤ 31
    · have e0 : (bs s).size = s.length := bs_size s
      go_enter Tryz.func133, Tryz.ntmps133
      go_wp2_with (first
        | (go_at_call 159; refine (letter_any _ _).mono ?_; rintro e w' ⟨rfl, rfl⟩)
        | (go_at_call 160; refine (tokenAll_any _ _ (by omega)).mono ?_; rintro e w' ⟨rfl, rfl⟩))
      all_goals go_ret
      all_goals exact ⟨ret_bool (by unfold nameOk; rw [chr0 h1]; simp_all), rfl⟩
    · have e0 : (bs s).size = s.length := bs_size s
      go_enter Tryz.func133, Tryz.ntmps133
      go_wp2_with fail
      go_ret
      exact ⟨ret_bool (by unfold nameOk; simp [h1, h2]), rfl⟩
  · go_enter Tryz.func133, Tryz.ntmps133
    go_wp2_with fail
    go_ret
    exact ⟨ret_bool (by unfold nameOk; simp [h1]), rfl⟩
theorem hasPre35 (s : St) : Lib.hasPrefix s [35] = decide (s.head? = some 35) := by
  cases s with
  | nil => rfl
  | cons a l =>
    by_cases h : a = 35
    · subst h; simp [Lib.hasPrefix, List.isPrefixOf]
    · have h2 : ¬ 35 = a := fun e => h e.symm
      simp [Lib.hasPrefix, List.isPrefixOf, h, h2]
theorem tokenProp_any (s : St) (w : World) (hf : s.length ≤ 9223372036854775807) :
    Calls Tryz.prog 134 #[.string (bs s)] w fun e w' => e = .returned (.bool (propOk s)) ∧ w = w' := by
  by_cases hp : s.head? = some 35
  · have hl : Lib.hasPrefix s [35] = true := by rw [hasPre35]; simp [hp]
    have hs : 1 ≤ s.length := by cases s with | nil => simp at hp | cons a l => simp
    have ht : List.take (s.length - 1) s.tail = s.tail := List.take_of_length_le (by simp)
    have hu : undr s = 95 :: s.tail := by unfold undr; rw [if_pos hp]
    go_enter Tryz.func134, Tryz.ntmps134
    go_wp2_with (first
      | (go_at_call 88; refine (Tryz.strings_HasPrefix _ _ _).mono ?_; rintro e w' ⟨rfl, rfl⟩)
      | (go_at_call 133; refine (tokenName_any _ _).mono ?_; rintro e w' ⟨rfl, rfl⟩)
      | (go_at_call 162; refine (Tryz.strings_Contains_one _ _ _).mono ?_; rintro e w' ⟨rfl, rfl⟩))
    all_goals go_ret
    all_goals exact ⟨ret_bool (by unfold propOk; rw [hu, Lib.contains_iff_indexByte]; simp_all), rfl⟩
  · have hl : Lib.hasPrefix s [35] = false := by rw [hasPre35]; simp [hp]
    have hu : undr s = s := by unfold undr; rw [if_neg hp]
    go_enter Tryz.func134, Tryz.ntmps134
    go_wp2_with (first
      | (go_at_call 88; refine (Tryz.strings_HasPrefix _ _ _).mono ?_; rintro e w' ⟨rfl, rfl⟩)
      | (go_at_call 133; refine (tokenName_any _ _).mono ?_; rintro e w' ⟨rfl, rfl⟩)
      | (go_at_call 162; refine (Tryz.strings_Contains_one _ _ _).mono ?_; rintro e w' ⟨rfl, rfl⟩))
    all_goals go_ret
    all_goals exact ⟨ret_bool (by unfold propOk; rw [hu, Lib.contains_iff_indexByte]; simp_all), rfl⟩
end Go.Proofs.YtgembejpiecfcaaGreatDoor

set_option linter.unusedVariables false
set_option linter.unusedSimpArgs false
namespace Go.Proofs.YtgembejpiecfcaaGreatDoor
open Go.RowKit
theorem rletter_any (c : Int) (w : World) :
    Calls Tryz.prog 123 #[.int .u8 c] w fun e w' => e = .returned (.bool (letC c)) ∧ w = w' := by
  go_enter Tryz.func123, Tryz.ntmps123
  go_wp2
  all_goals go_ret
  all_goals exact ⟨ret_bool (by unfold letC; rw [Bool.eq_iff_iff]; simp; try omega), rfl⟩
theorem rword_any (c : Int) (w : World) :
    Calls Tryz.prog 155 #[.int .u8 c] w fun e w' => e = .returned (.bool (wrdC c)) ∧ w = w' := by
  obtain ⟨B, hB⟩ : ∃ B : Bool, wrdC c = B := ⟨_, rfl⟩
  rw [hB]
  cases hl : letC c with
  | true =>
    have e : B = true := by rw [← hB]; unfold wrdC; rw [hl]; rfl
    subst e
    clear hB
    go_enter Tryz.func155, Tryz.ntmps155
    go_wp2_with (go_at_call 123; refine (rletter_any _ _).mono ?_; rintro e w' ⟨rfl, rfl⟩; rw [hl])
    go_ret
    exact ⟨ret_bool (by simp), rfl⟩
  | false =>
    have e : B = (digC c || c == 95) := by rw [← hB]; unfold wrdC; rw [hl]; rfl
    have E := Lib.hid e
    clear hB e
    go_enter Tryz.func155, Tryz.ntmps155
    go_wp2_with (go_at_call 123; refine (rletter_any _ _).mono ?_; rintro e w' ⟨rfl, rfl⟩; rw [hl])
    all_goals go_ret
    all_goals exact ⟨ret_bool (by rw [E.out]; unfold digC; rw [Bool.eq_iff_iff]; simp; try omega), rfl⟩
theorem among_any (c : UInt8) (s : St) (w : World) (hf : s.length ≤ 1000000) :
    Calls Tryz.prog 120 #[.int .u8 (c.toNat : Int), .string (bs s)] w fun e w' => e = .returned (.bool (s.contains c)) ∧ w = w' := by
  obtain ⟨D, hD⟩ : ∃ D : Bool, s.contains c = D := ⟨_, rfl⟩
  have HD := Lib.hid hD
  rw [hD]
  clear hD
  go_enter Tryz.func120, Tryz.ntmps120
  go_wp2_with fail
  go_loop [5] (fun i => ∃ k : Nat, k ≤ s.length ∧ i = .int .i64 k ∧ (s.take k).contains c = false) (fun i => s.length - (intOf i).toNat)
  case atStart => exact ⟨0, Nat.zero_le _, rfl, rfl⟩
  case round =>
    obtain ⟨k, hk, rfl, hall⟩ := hrel
    have HA := Lib.hid hall
    clear hall
    by_cases hlt : k < s.length
    · by_cases hq : s[k] = c
      · have q1 : ((s[k].toNat : Int) == (c.toNat : Int)) = true := by rw [hq]; simp
        have q2 : (s[k].toNat : Int) = (c.toNat : Int) := by rw [hq]
        have M : Hid (s.contains c = true) := Lib.hid (by rw [List.contains_iff_mem, ← hq]; exact List.getElem_mem hlt)
        clear hq
        go_wp2_with fail
        go_ret
        exact ⟨ret_bool (by rw [← HD.out, M.out]), rfl⟩
      · have q0 : ¬ s[k].toNat = c.toNat := fun e => hq (UInt8.toNat_inj.1 e)
        have q1 : ((s[k].toNat : Int) == (c.toNat : Int)) = false := by rw [beq_eq_false_iff_ne]; omega
        have q2 : ¬ (s[k].toNat : Int) = (c.toNat : Int) := by omega
        have Q := Lib.hid hq
        clear hq
        go_wp2_with fail
        go_round
        case rel =>
          refine ⟨k + 1, by omega, by go_num, ?_⟩
          rw [← Bool.not_eq_true, List.contains_iff_mem, List.take_succ_eq_append_getElem hlt, List.mem_append, List.mem_singleton]
          rintro (h | h)
          · have := HA.out
            rw [← Bool.not_eq_true, List.contains_iff_mem] at this
            exact this h
          · exact Q.out h.symm
        case measure => simp [intOf]; omega
    · go_wp2_with fail
      go_ret
      exact ⟨ret_bool (by rw [← HD.out, ← HA.out, List.take_of_length_le (by omega)]), rfl⟩
theorem rname_any (c : UInt8) (w : World) :
    Calls Tryz.prog 156 #[.int .u8 (c.toNat : Int)] w fun e w' => e = .returned (.bool (namC c)) ∧ w = w' := by
  cases hl : wrdC c.toNat with
  | true =>
    have e : Hid (namC c = true) := Lib.hid (by unfold namC; rw [hl]; rfl)
    go_enter Tryz.func156, Tryz.ntmps156
    go_wp2_with (go_at_call 155; refine (rword_any _ _).mono ?_; rintro e w' ⟨rfl, rfl⟩; rw [hl])
    go_ret
    exact ⟨ret_bool (by rw [e.out]), rfl⟩
  | false =>
    obtain ⟨D, hD⟩ : ∃ D : Bool, sgnS.contains c = D := ⟨_, rfl⟩
    have e : Hid (namC c = D) := Lib.hid (by unfold namC; rw [hl, hD]; rfl)
    have AM : ∀ w : World, Calls Tryz.prog 120 #[.int .u8 (c.toNat : Int), .string ⟨#[44, 46, 43, 45, 63, 35, 64]⟩] w fun e w' => e = .returned (.bool D) ∧ w = w' := fun w => by
      rw [← hD]; exact among_any c sgnS w (by decide)
    have HAM := Lib.hid AM
    clear AM hD
    go_enter Tryz.func156, Tryz.ntmps156
    go_wp2_with (first
      | (go_at_call 155; refine (rword_any _ _).mono ?_; rintro e w' ⟨rfl, rfl⟩; rw [hl])
      | (go_at_call 120; refine (HAM.out _).mono ?_; rintro e w' ⟨rfl, rfl⟩))
    go_ret
    exact ⟨ret_bool (by rw [e.out]), rfl⟩
theorem refName_any (s : St) (w : World) :
    Calls Tryz.prog 129 #[.string (bs s)] w fun e w' => e = .returned (.bool (nameOk s)) ∧ w = w' := by
  by_cases h1 : 1 ≤ s.length
  · by_cases h2 : s.length ≤ 31
    · have e0 : (bs s).size = s.length := bs_size s
      by_cases h3 : (letC (chr s 0) || chr s 0 == 95) = true
      · have N : Hid (nameOk s = s.all namC) := Lib.hid (by unfold nameOk; rw [h3]; simp [h1, h2])
        have h3' := h3
        rw [chr0 h1] at h3'
        have g1 : letC (s[0].toNat : Int) = true ∨ ((s[0].toNat : Int) = 95) := by simpa using h3'
        clear h3 h3'
        obtain ⟨B, hB⟩ : ∃ B : Bool, letC (s[0].toNat : Int) = B := ⟨_, rfl⟩
        rw [hB] at g1
        go_enter Tryz.func129, Tryz.ntmps129
        have loop : B = true ∨ (B = false ∧ s[0].toNat = 95) := by
          cases B with
          | true => exact .inl rfl
          | false => exact .inr ⟨rfl, by rcases g1 with q | q; · cases q
                                         · omega⟩
        clear g1
        rcases loop with rfl | ⟨rfl, h95⟩
        · go_wp2_with (go_at_call 123; refine (rletter_any _ _).mono ?_; rintro e w' ⟨rfl, rfl⟩; rw [hB])
          go_loop [3] (fun i => ∃ k : Nat, k ≤ s.length ∧ i = .int .i64 k ∧ (s.take k).all namC = true) (fun i => s.length - (intOf i).toNat)
          case atStart => exact ⟨0, Nat.zero_le _, rfl, rfl⟩
          case round =>
            obtain ⟨k, hk, rfl, hall⟩ := hrel
            have HA := Lib.hid hall
            clear hall
            by_cases hlt : k < s.length
            · by_cases hq : namC s[k] = true
              · go_wp2_with (go_at_call 156; refine (rname_any _ _).mono ?_; rintro e w' ⟨rfl, rfl⟩; rw [hq])
                go_round
                case rel => exact ⟨k + 1, by omega, by go_num, by rw [List.take_succ_eq_append_getElem hlt, List.all_append, HA.out]; simp [hq]⟩
                case measure => simp [intOf]; omega
              · rw [Bool.not_eq_true] at hq
                go_wp2_with (go_at_call 156; refine (rname_any _ _).mono ?_; rintro e w' ⟨rfl, rfl⟩; rw [hq])
                go_ret
                exact ⟨ret_bool (by rw [N.out]; symm; rw [List.all_eq_false]; exact ⟨_, List.getElem_mem hlt, by simp [hq]⟩), rfl⟩
            · go_wp2_with fail
              go_ret
              exact ⟨ret_bool (by rw [N.out, ← HA.out, List.take_of_length_le (by omega)]), rfl⟩
        · have q1 : (s[0].toNat : Int) = 95 := by omega
          have q2 : ((s[0].toNat : Int) != 95) = false := by rw [q1]; rfl
          have q3 : ((s[0].toNat : Int) == 95) = true := by rw [q1]; rfl
          clear q1 h95
          go_wp2_with (go_at_call 123; refine (rletter_any _ _).mono ?_; rintro e w' ⟨rfl, rfl⟩; rw [hB])
          go_loop [3] (fun i => ∃ k : Nat, k ≤ s.length ∧ i = .int .i64 k ∧ (s.take k).all namC = true) (fun i => s.length - (intOf i).toNat)
          case atStart => exact ⟨0, Nat.zero_le _, rfl, rfl⟩
          case round =>
            obtain ⟨k, hk, rfl, hall⟩ := hrel
            have HA := Lib.hid hall
            clear hall
            by_cases hlt : k < s.length
            · by_cases hq : namC s[k] = true
              · go_wp2_with (go_at_call 156; refine (rname_any _ _).mono ?_; rintro e w' ⟨rfl, rfl⟩; rw [hq])
                go_round
                case rel => exact ⟨k + 1, by omega, by go_num, by rw [List.take_succ_eq_append_getElem hlt, List.all_append, HA.out]; simp [hq]⟩
                case measure => simp [intOf]; omega
              · rw [Bool.not_eq_true] at hq
                go_wp2_with (go_at_call 156; refine (rname_any _ _).mono ?_; rintro e w' ⟨rfl, rfl⟩; rw [hq])
                go_ret
                exact ⟨ret_bool (by rw [N.out]; symm; rw [List.all_eq_false]; exact ⟨_, List.getElem_mem hlt, by simp [hq]⟩), rfl⟩
            · go_wp2_with fail
              go_ret
              exact ⟨ret_bool (by rw [N.out, ← HA.out, List.take_of_length_le (by omega)]), rfl⟩
      · have N : Hid (nameOk s = false) := Lib.hid (by unfold nameOk; rw [Bool.not_eq_true] at h3; rw [h3]; simp)
        rw [chr0 h1, Bool.not_eq_true, Bool.or_eq_false_iff] at h3
        have g1 := h3.1
        have g2 : ¬ (s[0].toNat : Int) = 95 := by simpa using h3.2
        have g3 : ¬ s[0].toNat = 95 := by omega
        have g4 : ((s[0].toNat : Int) != 95) = true := by rw [bne_iff_ne]; exact g2
        have g5 : ((s[0].toNat : Int) == 95) = false := by rw [beq_eq_false_iff_ne]; exact g2
        clear h3
        go_enter Tryz.func129, Tryz.ntmps129
        go_wp2_with (go_at_call 123; refine (rletter_any _ _).mono ?_; rintro e w' ⟨rfl, rfl⟩; rw [g1])
        go_ret
        exact ⟨ret_bool (by rw [N.out]), rfl⟩
    · have e0 : (bs s).size = s.length := bs_size s
      go_enter Tryz.func129, Tryz.ntmps129
      go_wp2_with fail
      go_ret
      exact ⟨ret_bool (by unfold nameOk; simp [h1, h2]), rfl⟩
  · go_enter Tryz.func129, Tryz.ntmps129
    go_wp2_with fail
    go_ret
    exact ⟨ret_bool (by unfold nameOk; simp [h1]), rfl⟩
end Go.Proofs.YtgembejpiecfcaaGreatDoor

set_option linter.unusedVariables false
set_option linter.unusedSimpArgs false
namespace Go.Proofs.YtgembejpiecfcaaGreatDoor
open Go.RowKit
open Classical
theorem prps_at {w : World} {a : Option Addr} {ps : List Prp} (h : SlOf 2 RPrp w a ps) (k : Nat) (hk : k < ps.length) : ∃ b o, a = some ⟨b, o, none⟩ ∧ w.cell? ⟨b, o + k * 2, none⟩ = some (.string (bs ps[k].name)) ∧ w.cell? ⟨b, o + k * 2 + 1, none⟩ = some (.string (bs ps[k].val)) ∧ ps[k].name.length ≤ 9223372036854775807 ∧ ps[k].val.length ≤ 9223372036854775807 := by
  obtain ⟨b, o, e, ⟨c0, l0⟩, ⟨c1, l1⟩⟩ := h k hk
  exact ⟨b, o, e, c0, c1, l0, l1⟩
theorem nods_at {w : World} {a : Option Addr} {ts : Tr} (h : SlOf 3 RNod w a ts) (k : Nat) (hk : k < ts.length) : ∃ b o pa pc, a = some ⟨b, o, none⟩ ∧ w.cell? ⟨b, o + k * 3, none⟩ = some (.int .i64 ts[k].parent) ∧ w.cell? ⟨b, o + k * 3 + 1, none⟩ = some (.string (bs ts[k].name)) ∧ w.cell? ⟨b, o + k * 3 + 2, none⟩ = some (.slice pa ts[k].props.length pc) ∧ SlOf 2 RPrp w pa ts[k].props ∧ Fit ts[k].props.length ∧ Wide ts[k].parent ∧ ts[k].name.length ≤ 9223372036854775807 := by
  obtain ⟨b, o, e, ⟨c0, w0⟩, ⟨c1, l1⟩, ⟨pa, pc, c2, _, hf, hs⟩⟩ := h k hk
  exact ⟨b, o, pa, pc, e, c0, c1, c2, hs, hf, w0, l1⟩
theorem check1_any (n v : St) (w : World) (hf : v.length ≤ 9223372036854775807) :
    Calls Tryz.prog 82 #[.agg #[.string (bs n), .string (bs v)]] w (Grows w (.bool (decide (256 < v.length)))) := by
  go_enter Tryz.func82, Tryz.ntmps82
  go_wp2
  go_ret
  exact ⟨ret_bool (by rw [Bool.eq_iff_iff]; simp; try omega), (Gr.refl _).alloc _⟩
theorem idxPrp_any (ps : List Prp) (a : Option Addr) (cap : Nat) (w : World) (h : SlOf 2 RPrp w a ps) (hf : Fit ps.length) :
    Calls Tryz.prog 132 #[.slice a ps.length cap, .func (.func 82) #[] #[]] w fun e w' => ∃ i : Int, e = .returned (.int .i64 i) ∧ (decide (0 ≤ i) = ps.any (fun p => decide (256 < p.val.length))) ∧ Gr w w' := by
  unfold Fit at hf
  have H := Lib.hid h
  clear h
  go_enter Tryz.func132, Tryz.ntmps132
  go_wp2
  go_loopw [8] (fun i wr => ∃ k : Nat, k ≤ ps.length ∧ i = .int .i64 k ∧ (∀ j (hj : j < k) (hjl : j < ps.length), ¬ 256 < ps[j].val.length) ∧ Gr w wr) (fun i _ => ps.length - (intOf i).toNat)
  case atStart => exact ⟨0, Nat.zero_le _, rfl, fun j h => absurd h (by omega), Gr.refl _⟩
  case round =>
    obtain ⟨k, hk, rfl, hall, hg⟩ := hrel
    have HA := Lib.hid hall
    have HG := Lib.hid hg
    clear hall hg
    by_cases hlt : k < ps.length
    · obtain ⟨b, o, rfl, c0, c1, l0, l1⟩ := prps_at (H.out.gr RPrp.mono HG.out) k hlt
      by_cases hq : 256 < ps[k].val.length
      · have Q := Lib.hid hq
        have E : (decide (256 < ps[k].val.length)) = true := by simp [hq]
        clear hq
        go_wp2_with (go_at_call 82; refine (check1_any _ _ _ l1).mono ?_; rintro e w' ⟨rfl, O, d, rfl⟩)
        go_ret
        refine ⟨_, rfl, ?_, HG.out.xt _ _⟩
        rw [eq_comm, show decide (0 ≤ (k : Int)) = true by simp, List.any_eq_true]
        exact ⟨_, List.getElem_mem hlt, by simpa using Q.out⟩
      · have Q := Lib.hid hq
        have E : (decide (256 < ps[k].val.length)) = false := by simp [hq]
        clear hq
        go_wp2_with (go_at_call 82; refine (check1_any _ _ _ l1).mono ?_; rintro e w' ⟨rfl, O, d, rfl⟩)
        go_roundw
        case rel =>
          refine ⟨k + 1, by omega, by go_num, fun j hj hjl => ?_, HG.out.xt _ _⟩
          by_cases e : j = k
          · subst e; exact Q.out
          · exact HA.out j (by omega) hjl
        case measure => simp [intOf]; omega
    · go_wp2
      go_ret
      refine ⟨_, rfl, ?_, HG.out⟩
      rw [eq_comm, show decide ((0:Int) ≤ -1) = false by simp, List.any_eq_false]
      intro x hx
      obtain ⟨j, hj, rfl⟩ := List.getElem_of_mem hx
      simpa using HA.out j (by omega) hj
theorem conPrp_any (ps : List Prp) (a : Option Addr) (cap : Nat) (w : World) (h : SlOf 2 RPrp w a ps) (hf : Fit ps.length) :
    Calls Tryz.prog 81 #[.slice a ps.length cap, .func (.func 82) #[] #[]] w (Grows w (.bool (ps.any (fun p => decide (256 < p.val.length))))) := by
  have H := Lib.hid h
  have HF := Lib.hid hf
  clear h hf
  go_enter Tryz.func81, Tryz.ntmps81
  go_wp2_with fail
  refine (idxPrp_any ps a cap _ H.out HF.out).mono ?_
  rintro e w' ⟨x, rfl, hx, O, d, rfl⟩
  have X := Lib.hid hx
  clear hx
  go_wp2_with fail
  go_ret
  exact ⟨ret_bool X.out, (Gr.refl _).xt _ _⟩
def OkPar (ts : Tr) : Prop := ∀ i (h : i < ts.length), 0 < i → 0 ≤ ts[i].parent ∧ ts[i].parent < i
theorem par_get {ts : Tr} {u : Nat} (h : u < ts.length) : par ts (u : Int) = ts[u].parent := by
  unfold par; rw [List.getD_eq_getElem?_getD, Int.toNat_natCast, List.getElem?_eq_getElem h]; rfl
theorem depN_eq {ts : Tr} (hp : OkPar ts) : ∀ (f g u : Nat), u ≤ f → u ≤ g → u < ts.length → depN ts f (u : Int) = depN ts g (u : Int) := by
  intro f
  induction f with
  | zero => intro g u h1 h2 h3; obtain rfl : u = 0 := by omega
            cases g <;> simp [depN]
  | succ f ih =>
    intro g u h1 h2 h3
    by_cases h0 : u = 0
    · subst h0; cases g <;> simp [depN]
    · obtain ⟨g, rfl⟩ : ∃ g', g = g' + 1 := ⟨g - 1, by omega⟩
      obtain ⟨p0, p1⟩ := hp u h3 (by omega)
      obtain ⟨q, hq⟩ : ∃ q : Nat, ts[u].parent = q := ⟨ts[u].parent.toNat, by omega⟩
      rw [depN, depN, if_pos (by omega), if_pos (by omega), par_get h3, hq, ih g q (by omega) (by omega) (by omega)]
def dep (ts : Tr) (u : Nat) : Nat := depN ts u (u : Int)
theorem dep_zero (ts : Tr) : dep ts 0 = 0 := rfl
theorem dep_succ {ts : Tr} (hp : OkPar ts) {u q : Nat} (h : u < ts.length) (h0 : 0 < u) (hq : ts[u].parent = q) : dep ts u = dep ts q + 1 := by
  have := hp u h h0
  obtain ⟨v, rfl⟩ : ∃ v, u = v + 1 := ⟨u - 1, by omega⟩
  unfold dep
  rw [depN, if_pos (by omega), par_get h, hq, depN_eq hp v q q (by omega) (by omega) (by omega)]
theorem dep_le {ts : Tr} (hp : OkPar ts) : ∀ u, u < ts.length → dep ts u ≤ u := by
  intro u
  induction u using Nat.strongRecOn with
  | _ u ih =>
    intro h
    by_cases h0 : u = 0
    · subst h0; simp [dep_zero]
    · obtain ⟨p0, p1⟩ := hp u h (by omega)
      obtain ⟨q, hq⟩ : ∃ q : Nat, ts[u].parent = q := ⟨ts[u].parent.toNat, by omega⟩
      rw [dep_succ hp h (by omega) hq]
      have := ih q (by omega) (by omega)
      omega
theorem depth_any (ts : Tr) (a : Option Addr) (cap i : Nat) (w : World) (h : SlOf 3 RNod w a ts) (hf : ts.length ≤ 1000000) (hp : OkPar ts) (hi : i < ts.length) :
    Calls Tryz.prog 85 #[.agg #[.slice a ts.length cap], .int .i64 i] w (Grows w (.int .i64 (dep ts i : Nat))) := by
  have H := Lib.hid h
  have HP := Lib.hid hp
  clear h hp
  go_enter Tryz.func85, Tryz.ntmps85
  go_wp2_with fail
  go_loop [1, 5] (fun u n => ∃ k m : Nat, k < ts.length ∧ u = .int .i64 k ∧ n = .int .i64 m ∧ m + dep ts k = dep ts i) (fun u _ => (intOf u).toNat)
  case atStart => exact ⟨i, 0, hi, rfl, rfl, by omega⟩
  case round =>
    obtain ⟨k, m, hk, rfl, rfl, hs⟩ := hrel
    by_cases h0 : 0 < k
    · obtain ⟨b, o, pa, pc, rfl, c0, c1, c2, _⟩ := nods_at H.out k hk
      obtain ⟨p0, p1⟩ := HP.out k hk h0
      obtain ⟨q, hq⟩ : ∃ q : Nat, ts[k].parent = q := ⟨ts[k].parent.toNat, by omega⟩
      have D := dep_succ HP.out hk h0 hq
      have L := dep_le HP.out i hi
      rw [hq] at c0
      have HS := Lib.hid hs
      have hh := has_of_cell c0
      have hD := Lib.hid D
      have hQ := Lib.hid hq
      clear hs D hq c1 c2
      rw [hQ.out] at p1
      have hm : m + 1 ≤ 1000000 := by have := HS.out; have := hD.out; omega
      go_wp2_with fail
      go_round
      case rel => exact ⟨q, m + 1, by omega, rfl, by go_num, by have := HS.out; have := hD.out; omega⟩
      case measure => simp [intOf]; omega
    · obtain rfl : k = 0 := by omega
      have D := dep_zero ts
      rw [D] at hs
      have HS := Lib.hid hs
      clear hs D
      go_wp2_with fail
      go_ret
      exact ⟨ret_int (by have := HS.out; omega), (Gr.refl _).alloc _⟩
theorem undr_len (s : St) : (undr s).length = s.length := by
  unfold undr
  split
  · rename_i h
    cases s with
    | nil => simp at h
    | cons a l => simp
  · rfl
theorem propLenV {s : St} (h : propOk s = true) : 1 ≤ s.length ∧ s.length ≤ 31 := by
  unfold propOk nameOk at h
  simp only [Bool.and_eq_true, decide_eq_true_eq, undr_len] at h
  exact ⟨h.1.1.1.1, h.1.1.1.2⟩
theorem prop_at {s : St} (h : propOk s = true) : ∀ i (hi : i < s.length), s[i] ≠ 64 := by
  intro i hi e
  have h2 : (64 : UInt8) ∉ undr s := by
    unfold propOk at h
    simp only [Bool.and_eq_true, Bool.not_eq_true', ← Bool.not_eq_true, List.contains_iff_mem] at h
    exact h.2
  apply h2
  unfold undr
  split
  · rename_i hh
    cases s with
    | nil => simp at hh
    | cons a l =>
      simp only [List.head?_cons, Option.some.injEq] at hh
      subst hh
      cases i with
      | zero => simp at e
      | succ i => rw [List.getElem_cons_succ] at e; rw [← e]; exact List.mem_cons_of_mem _ (List.getElem_mem _)
  · rw [← e]; exact List.getElem_mem hi
theorem prop_hash {s : St} (h : propOk s = true) (h0 : 0 < s.length) (hh : s[0] = 35) : nameOk (97 :: s.tail) = true := by
  have hu : undr s = 95 :: s.tail := by
    unfold undr
    rw [if_pos]
    cases s with
    | nil => simp at h0
    | cons a l => simpa using hh
  unfold propOk at h
  rw [hu] at h
  unfold nameOk at h ⊢
  simp only [Bool.and_eq_true, decide_eq_true_eq, List.all_cons] at h ⊢
  exact ⟨⟨⟨h.1.1.1.1, h.1.1.1.2⟩, rfl⟩, rfl, h.1.2.2⟩
theorem prop_plain {s : St} (h : propOk s = true) (h0 : 0 < s.length) (hh : s[0] ≠ 35) : nameOk s = true := by
  have hu : undr s = s := by
    unfold undr
    rw [if_neg]
    cases s with
    | nil => simp
    | cons a l => simpa using hh
  unfold propOk at h
  rw [hu, Bool.and_eq_true] at h
  exact h.1
theorem refProp_ok (s : St) (h : propOk s = true) (w : World) :
    Calls Tryz.prog 77 #[.string (bs s)] w fun e w' => e = .returned (.bool true) ∧ w = w' := by
  obtain ⟨h1, h2⟩ := propLenV h
  have HP := Lib.hid h
  have AT := Lib.hid (prop_at h)
  have e0 : (bs s).size = s.length := bs_size s
  clear h
  go_enter Tryz.func77, Tryz.ntmps77
  go_wp2_with fail
  go_loop [3] (fun i => ∃ k : Nat, k ≤ s.length ∧ i = .int .i64 k) (fun i => s.length - (intOf i).toNat)
  case atStart => exact ⟨0, Nat.zero_le _, rfl⟩
  case round =>
    obtain ⟨k, hk, rfl⟩ := hrel
    by_cases hlt : k < s.length
    · have q0 := AT.out k hlt
      have q1 : ¬ (s[k].toNat : Int) = 64 := fun e => q0 (UInt8.toNat_inj.1 (by show s[k].toNat = 64; omega))
      have q2 : ((s[k].toNat : Int) == 64) = false := by rw [beq_eq_false_iff_ne]; exact q1
      clear q0
      go_wp2_with fail
      go_round
      case rel => exact ⟨k + 1, by omega, by go_num⟩
      case measure => simp [intOf]; omega
    · obtain rfl : k = s.length := by omega
      by_cases hh : s[0] = 35
      · have NO := Lib.hid (prop_hash HP.out (by omega) hh)
        have q1 : (s[0].toNat : Int) = 35 := by rw [hh]; rfl
        have q2 : ((s[0].toNat : Int) == 35) = true := by rw [q1]; rfl
        clear q1 hh
        by_cases hl : s.length = 1
        · have HL := Lib.hid hl
          have q3 : ((s.length : Int) == 1) = true := by rw [hl]; rfl
          have q4 : (s.length : Int) = 1 := by omega
          clear hl
          go_wp2_with fail
          go_ret
          exact ⟨ret_bool (by simp), rfl⟩
        · have q3 : ((s.length : Int) == 1) = false := by rw [beq_eq_false_iff_ne]; omega
          have ht : List.take (s.length - 1) s.tail = s.tail := List.take_of_length_le (by simp)
          have ht2 : (s.drop 1).take (s.length - 1) = s.tail := by rw [List.drop_one]; exact ht
          go_wp2_with (go_at_call 129; refine (refName_any _ _).mono ?_; rintro e w' ⟨rfl, rfl⟩)
          go_ret
          exact ⟨ret_bool (by rw [NO.out]), rfl⟩
      · have NO := Lib.hid (prop_plain HP.out (by omega) hh)
        have q1 : ¬ (s[0].toNat : Int) = 35 := fun e => hh (UInt8.toNat_inj.1 (by show s[0].toNat = 35; omega))
        have q2 : ((s[0].toNat : Int) == 35) = false := by rw [beq_eq_false_iff_ne]; exact q1
        clear hh
        go_wp2_with (go_at_call 129; refine (refName_any _ _).mono ?_; rintro e w' ⟨rfl, rfl⟩; rw [NO.out])
        go_ret
        exact ⟨ret_bool (by simp), rfl⟩
theorem VT.props {ts : Tr} (h : VT ts) {k : Nat} (hk : k < ts.length) : PV ts[k].props := by
  have := h.prp k hk
  rwa [nd_get hk] at this
/-! limits. -/
def LimT (ts : Tr) : Prop := 1 ≤ ts.length ∧ ts.length ≤ 120 ∧ ∀ n ∈ ts, n.props.length ≤ 24 ∧ ∀ p ∈ n.props, p.val.length ≤ 256
theorem VT.lim {ts : Tr} (h : VT ts) : LimT ts := ⟨h.pos, h.few, fun n hn => by
  obtain ⟨k, hk, rfl⟩ := List.getElem_of_mem hn
  exact ⟨by have := (h.props hk).len; omega, fun p hp => ((h.props hk).mem p hp).2⟩⟩
theorem limits_ok (ts : Tr) (a : Option Addr) (cap : Nat) (w : World) (h : SlOf 3 RNod w a ts) (hl : LimT ts) :
    Calls Tryz.prog 79 #[.agg #[.slice a ts.length cap]] w (Grows w (.bool false)) := by
  have H := Lib.hid h
  have HL := Lib.hid hl
  have l1 := hl.1
  have l2 := hl.2.1
  clear h hl
  go_enter Tryz.func79, Tryz.ntmps79
  go_wp2_with fail
  go_loopw [20] (fun i wr => ∃ k : Nat, k ≤ ts.length ∧ i = .int .i64 k ∧ Gr w wr) (fun i _ => ts.length - (intOf i).toNat)
  case atStart => exact ⟨0, Nat.zero_le _, rfl, (Gr.refl _).alloc _⟩
  case round =>
    obtain ⟨k, hk, rfl, hg⟩ := hrel
    have HG := Lib.hid hg
    clear hg
    by_cases hlt : k < ts.length
    · obtain ⟨b, o, pa, pc, rfl, c0, c1, c2, hps, hpf, hw, hnl⟩ := nods_at (H.out.gr RNod.mono HG.out) k hlt
      have NL := Lib.hid (HL.out.2.2 _ (List.getElem_mem hlt))
      obtain ⟨n, hn⟩ : ∃ n, ts[k] = n := ⟨_, rfl⟩
      rw [hn] at c0 c1 c2 hps NL
      have HPS := Lib.hid hps
      have n24 := NL.out.1
      have hh := has_of_cell c0
      clear hn hps hpf hw hnl
      go_wp2_with fail
      obtain ⟨w5, hw5⟩ : ∃ wo, wo = wr := ⟨_, rfl⟩
      rw [← hw5] at HG HPS
      go_loopw [31] (fun i wr => ∃ m : Nat, m ≤ n.props.length ∧ i = .int .i64 m ∧ Gr w5 wr) (fun i _ => n.props.length - (intOf i).toNat)
      case atStart => exact ⟨0, Nat.zero_le _, rfl, by rw [hw5]; exact (Gr.refl _).alloc _⟩
      case round =>
        clear hw5
        obtain ⟨m, hm, rfl, hg⟩ := hrel
        have HJ := Lib.hid hg
        clear hg
        by_cases hml : m < n.props.length
        · obtain ⟨b2, o2, rfl, d0, d1, l0, l1⟩ := prps_at (HPS.out.gr RPrp.mono HJ.out) m hml
          have v256 := NL.out.2 _ (List.getElem_mem hml)
          have hh2 := has_of_cell d0
          obtain ⟨q, hq⟩ : ∃ q, n.props[m] = q := ⟨_, rfl⟩
          rw [hq] at d0 d1 v256
          clear hq l0 l1
          go_wp2_with fail
          go_roundw
          case rel => exact ⟨m + 1, by omega, by go_num, HJ.out.alloc _⟩
          case measure => simp [intOf]; omega
        · go_wp2_with fail
          go_roundw
          case rel => exact ⟨k + 1, by omega, by go_num, HG.out.trans HJ.out⟩
          case measure => simp [intOf]; omega
    · go_wp2_with fail
      go_ret
      exact ⟨ret_bool (by simp), HG.out⟩
/-! names. -/
theorem VT.hdr {ts : Tr} (h : VT ts) {k : Nat} (hk : k < ts.length) : (k = 0 ∧ ts[k].parent = -1 ∧ ts[k].name = []) ∨ (0 < k ∧ 0 ≤ ts[k].parent ∧ ts[k].parent < k ∧ nameOk ts[k].name = true) := by
  by_cases h0 : k = 0
  · subst h0
    have := h.root
    rw [nd_get hk] at this
    exact .inl ⟨rfl, this⟩
  · have h1 := h.par (show 0 < k by omega) hk
    have h2 := h.shp.par k (by omega) hk
    have h3 := (h.name (show 0 < k by omega) hk).1
    unfold nmT at h3
    rw [nd_get hk] at h1 h3
    exact .inr ⟨by omega, by omega, by omega, h3⟩
theorem names_ok (ts : Tr) (a : Option Addr) (cap : Nat) (w : World) (h : SlOf 3 RNod w a ts) (hv : VT ts) :
    Calls Tryz.prog 91 #[.agg #[.slice a ts.length cap]] w (Grows w (.bool true)) := by
  have H := Lib.hid h
  have HV := Lib.hid hv
  have l1 := hv.pos
  have l2 := hv.few
  clear h hv
  go_enter Tryz.func91, Tryz.ntmps91
  go_wp2_with fail
  go_loopw [10] (fun i wr => ∃ k : Nat, k ≤ ts.length ∧ i = .int .i64 k ∧ Gr w wr) (fun i _ => ts.length - (intOf i).toNat)
  case atStart => exact ⟨0, Nat.zero_le _, rfl, (Gr.refl _).alloc _⟩
  case round =>
    obtain ⟨k, hk, rfl, hg⟩ := hrel
    have HG := Lib.hid hg
    clear hg
    by_cases hlt : k < ts.length
    · obtain ⟨b, o, pa, pc, rfl, c0, c1, c2, hps, hpf, hw, hnl⟩ := nods_at (H.out.gr RNod.mono HG.out) k hlt
      have PP := Lib.hid (HV.out.props hlt)
      have HD := HV.out.hdr hlt
      obtain ⟨n, hn⟩ : ∃ n, ts[k] = n := ⟨_, rfl⟩
      rw [hn] at c0 c1 c2 hps PP HD
      have HPS := Lib.hid hps
      have n24 := PP.out.len
      have hh := has_of_cell c0
      clear hn hps hpf hw hnl
      rcases HD with ⟨k0, q1, q2⟩ | ⟨k0, q1, q2, q3⟩
      case' inl =>
        have kb : ((k : Int) == 0) = true := by simp [k0]
        have kg : decide (0 < k) = false := by simp [k0]
        rw [q1] at c0
        rw [q2] at c1
        clear k0 q1 q2
        go_wp2_with fail
      case' inr =>
        have kb : ((k : Int) == 0) = false := by rw [beq_eq_false_iff_ne]; omega
        have kg : decide (0 < k) = true := by simpa using k0
        have p0 : decide (n.parent < 0) = false := by simp; omega
        have p1 : decide ((k : Int) ≤ n.parent) = false := by simp; omega
        have Q3 := Lib.hid q3
        clear k0 q1 q2 q3
        go_wp2_with (go_at_call 129; refine (refName_any _ _).mono ?_; rintro e w' ⟨rfl, rfl⟩; rw [Q3.out])
      all_goals
        obtain ⟨w5, hw5⟩ : ∃ wo, wo = wr := ⟨_, rfl⟩
        rw [← hw5] at HG HPS
        go_loopw [51] (fun i wr => ∃ m : Nat, m ≤ n.props.length ∧ i = .int .i64 m ∧ Gr w5 wr) (fun i _ => n.props.length - (intOf i).toNat)
        case atStart => exact ⟨0, Nat.zero_le _, rfl, by rw [hw5]; exact (Gr.refl _).alloc _⟩
        case round =>
          clear hw5
          obtain ⟨m, hm, rfl, hg⟩ := hrel
          have HJ := Lib.hid hg
          clear hg
          by_cases hml : m < n.props.length
          · obtain ⟨b2, o2, rfl, d0, d1, l0, l1⟩ := prps_at (HPS.out.gr RPrp.mono HJ.out) m hml
            have PO := Lib.hid (PP.out.prop _ (List.getElem_mem hml)).1
            have hh2 := has_of_cell d0
            obtain ⟨q, hq⟩ : ∃ q, n.props[m] = q := ⟨_, rfl⟩
            rw [hq] at d0 d1 PO
            clear hq l0 l1
            go_wp2_with (go_at_call 77; refine (refProp_ok _ PO.out _).mono ?_; rintro e w' ⟨rfl, rfl⟩)
            go_roundw
            case rel => exact ⟨m + 1, by omega, by go_num, HJ.out.alloc _⟩
            case measure => simp [intOf]; omega
          · go_wp2_with fail
            go_roundw
            case rel => exact ⟨k + 1, by omega, by go_num, HG.out.trans HJ.out⟩
            case measure => simp [intOf]; omega
    · go_wp2_with fail
      go_ret
      exact ⟨ret_bool (by simp), HG.out⟩
end Go.Proofs.YtgembejpiecfcaaGreatDoor

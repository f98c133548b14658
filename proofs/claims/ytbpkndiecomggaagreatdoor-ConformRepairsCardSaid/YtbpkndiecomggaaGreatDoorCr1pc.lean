/- Lemmas and contracts for the proof of ConformRepairs (several texts in one, printed by wip/tools/pack.py): Shelf TeC VbA TeD VbB TeE. -/
import Derived.Shelf.Small.Strs
import Derived.Shelf.Small.Wraps
import Derived.Shelf.Utf8.RuneCount
import Derived.Shelf.Strings.Search1
import Derived.Shelf.Strings.Search2
import Derived.Shelf.Strings.Search3
import Derived.Shelf.Strings.Count
import Derived.Shelf.LaysM
import Derived.Shelf.Strings.Shaped
import Derived.Shelf.Strings.Prefix
import Derived.Shelf.Strings.Split
import Derived.Shelf.Strings.SplitShaped
import Derived.Shelf.Unicode.Decode
import Derived.Shelf.Strings.RuneCount
import Derived.Shelf.Strings.Explode
import Derived.Shelf.Unicode.DecodeSlow
import Derived.Shelf.Unicode.DecodeAny
import Derived.Shelf.Slices.Turned
import Derived.Test.YtbpkndiecomggaaGreatDoorProg
import Derived.Test.YtbpkndiecomggaaGreatDoorCr1pa
import Derived.Lib.IndexAny
import Derived.Test.YtbpkndiecomggaaGreatDoorCr1pb
set_option maxRecDepth 100000
set_option maxHeartbeats 16000000
namespace Go.Proofs
open Go.Shelf
def Tryz.lays137_ren : Go.Shelf.Ren := ⟨fun | 137 => 142 | 217 => 156 | 266 => 162 | n => n, fun | 9 => 9 | 5 => 5 | 3 => 3 | n => n, fun | n => n⟩
theorem Tryz.lays137 : Go.Proofs.Lays.n137 Tryz.prog Tryz.lays137_ren := {
  mixed := by kernel_rfl
  f137 := Tryz.func142.trans (congrArg some (by kernel_rfl))
  f217 := Tryz.func156.trans (congrArg some (by kernel_rfl))
  f266 := Tryz.func162.trans (congrArg some (by kernel_rfl))
  t3 := Tryz.underlying3
  a3 := Tryz.isAgg3
  z3 := Tryz.sizeOf3
  v3 := Tryz.zeroValue3
  t5 := Tryz.underlying5
  a5 := Tryz.isAgg5
  z5 := Tryz.sizeOf5
  v5 := Tryz.zeroValue5
  t9 := Tryz.underlying9
  a9 := Tryz.isAgg9
  z9 := Tryz.sizeOf9
  v9 := Tryz.zeroValue9 }
open Go.RowKit in
theorem Tryz.strings_IndexByte (s : ByteArray) (c : Int) (w : World) :
    Calls Tryz.prog 142 #[.string s, .int .u8 c] w fun e w' => e = .returned (.int .i64 (Lib.indexByte s.data.toList c.toNat.toUInt8)) ∧ w' = w := Any.strings_IndexByte Tryz.lays137 s c w
def Tryz.lays104_ren : Go.Shelf.Ren := ⟨fun | 104 => 118 | 211 => 136 | 207 => 150 | n => n, fun | 9 => 9 | 4 => 4 | 24 => 52 | 3 => 3 | n => n, fun | n => n⟩
theorem Tryz.lays104 : Go.Proofs.Lays.n104 Tryz.prog Tryz.lays104_ren := {
  mixed := by kernel_rfl
  f104 := Tryz.func118.trans (congrArg some (by kernel_rfl))
  f207 := Tryz.func150.trans (congrArg some (by kernel_rfl))
  f211 := Tryz.func136.trans (congrArg some (by kernel_rfl))
  t3 := Tryz.underlying3
  a3 := Tryz.isAgg3
  z3 := Tryz.sizeOf3
  v3 := Tryz.zeroValue3
  t4 := Tryz.underlying4
  a4 := Tryz.isAgg4
  z4 := Tryz.sizeOf4
  v4 := Tryz.zeroValue4
  t9 := Tryz.underlying9
  a9 := Tryz.isAgg9
  z9 := Tryz.sizeOf9
  v9 := Tryz.zeroValue9
  t24 := Tryz.underlying52
  a24 := Tryz.isAgg52
  z24 := Tryz.sizeOf52
  v24 := Tryz.zeroValue52 }
open Go.RowKit in
theorem Tryz.strings_CutSuffix (s p : ByteArray) (w : World) (hs : s.size ≤ 9223372036854775807) :
    Calls Tryz.prog 118 #[.string s, .string p] w fun e w' => e = .returned (.tuple #[.string ⟨(Lib.trimSuffix s.data.toList p.data.toList).toArray⟩, .bool (Lib.hasSuffix s.data.toList p.data.toList)]) ∧ w' = w := Any.strings_CutSuffix Tryz.lays104 s p w hs
def Tryz.lays144_ren : Go.Shelf.Ren := ⟨fun | 144 => 127 | 143 => 144 | 219 => 157 | 217 => 156 | 225 => 163 | 224 => 164 | 267 => 165 | 266 => 162 | 314 => 167 | n => n, fun | 9 => 9 | 4 => 4 | 3 => 3 | 5 => 5 | 46 => 107 | 146 => 165 | 51 => 164 | n => n, fun | 1 => 1 | n => n⟩
theorem Tryz.lays144 : Go.Proofs.Lays.n144 Tryz.prog Tryz.lays144_ren := {
  mixed := by kernel_rfl
  f143 := Tryz.func144.trans (congrArg some (by kernel_rfl))
  f144 := Tryz.func127.trans (congrArg some (by kernel_rfl))
  f217 := Tryz.func156.trans (congrArg some (by kernel_rfl))
  f219 := Tryz.func157.trans (congrArg some (by kernel_rfl))
  f224 := Tryz.func164.trans (congrArg some (by kernel_rfl))
  f225 := Tryz.func163.trans (congrArg some (by kernel_rfl))
  f266 := Tryz.func162.trans (congrArg some (by kernel_rfl))
  f267 := Tryz.func165.trans (congrArg some (by kernel_rfl))
  f314 := Tryz.func167.trans (congrArg some (by kernel_rfl))
  t3 := Tryz.underlying3
  a3 := Tryz.isAgg3
  z3 := Tryz.sizeOf3
  v3 := Tryz.zeroValue3
  t4 := Tryz.underlying4
  a4 := Tryz.isAgg4
  z4 := Tryz.sizeOf4
  v4 := Tryz.zeroValue4
  t5 := Tryz.underlying5
  a5 := Tryz.isAgg5
  z5 := Tryz.sizeOf5
  v5 := Tryz.zeroValue5
  t9 := Tryz.underlying9
  a9 := Tryz.isAgg9
  z9 := Tryz.sizeOf9
  v9 := Tryz.zeroValue9
  t46 := Tryz.underlying107
  a46 := Tryz.isAgg107
  z46 := Tryz.sizeOf107
  v46 := Tryz.zeroValue107
  t51 := Tryz.underlying164
  a51 := Tryz.isAgg164
  z51 := Tryz.sizeOf164
  v51 := Tryz.zeroValue164
  t146 := Tryz.underlying165
  a146 := Tryz.isAgg165
  z146 := Tryz.sizeOf165
  v146 := Tryz.zeroValue165
  g1 := by kernel_rfl }
open Go.RowKit Go.Lib in
theorem Tryz.strings_Contains_one (s : ByteArray) (c : UInt8) (w : World) :
    Calls Tryz.prog 127 #[.string s, .string ⟨#[c]⟩] w fun e w' => e = .returned (.bool (decide (0 ≤ Lib.indexByte s.data.toList c))) ∧ w' = w := Any.strings_Contains_one Tryz.lays144 s c w
def Tryz.lays99_ren : Go.Shelf.Ren := ⟨fun | 99 => 126 | 206 => 143 | n => n, fun | 9 => 9 | 4 => 4 | 3 => 3 | n => n, fun | n => n⟩
theorem Tryz.lays99 : Go.Proofs.Lays.n99 Tryz.prog Tryz.lays99_ren := {
  mixed := by kernel_rfl
  f99 := Tryz.func126.trans (congrArg some (by kernel_rfl))
  f206 := Tryz.func143.trans (congrArg some (by kernel_rfl))
  t3 := Tryz.underlying3
  a3 := Tryz.isAgg3
  z3 := Tryz.sizeOf3
  v3 := Tryz.zeroValue3
  t4 := Tryz.underlying4
  a4 := Tryz.isAgg4
  z4 := Tryz.sizeOf4
  v4 := Tryz.zeroValue4
  t9 := Tryz.underlying9
  a9 := Tryz.isAgg9
  z9 := Tryz.sizeOf9
  v9 := Tryz.zeroValue9 }
open Go.RowKit Go.Lib in
theorem Tryz.strings_HasPrefix (s p : ByteArray) (w : World) :
    Calls Tryz.prog 126 #[.string s, .string p] w fun e w' => e = .returned (.bool (Lib.hasPrefix s.data.toList p.data.toList)) ∧ w' = w := Any.strings_HasPrefix Tryz.lays99 s p w
def Tryz.lays146_ren : Go.Shelf.Ren := ⟨fun | 146 => 119 | 221 => 137 | 268 => 151 | 138 => 152 | 143 => 144 | 195 => 159 | 197 => 160 | 218 => 161 | 219 => 157 | 260 => 166 | 217 => 156 | 225 => 163 | 224 => 164 | 267 => 165 | 266 => 162 | 314 => 167 | n => n, fun | 9 => 9 | 31 => 49 | 3 => 3 | 4 => 4 | 0 => 0 | 105 => 162 | 21 => 21 | 5 => 5 | 46 => 107 | 119 => 167 | 139 => 170 | 138 => 169 | 146 => 165 | 51 => 164 | n => n, fun | 1 => 1 | 3 => 2 | 4 => 3 | n => n⟩
theorem Tryz.lays146 : Go.Proofs.Lays.n146 Tryz.prog Tryz.lays146_ren := {
  mixed := by kernel_rfl
  f138 := Tryz.func152.trans (congrArg some (by kernel_rfl))
  f143 := Tryz.func144.trans (congrArg some (by kernel_rfl))
  f146 := Tryz.func119.trans (congrArg some (by kernel_rfl))
  f195 := Tryz.func159.trans (congrArg some (by kernel_rfl))
  f197 := Tryz.func160.trans (congrArg some (by kernel_rfl))
  f217 := Tryz.func156.trans (congrArg some (by kernel_rfl))
  f218 := Tryz.func161.trans (congrArg some (by kernel_rfl))
  f219 := Tryz.func157.trans (congrArg some (by kernel_rfl))
  f221 := Tryz.func137.trans (congrArg some (by kernel_rfl))
  f224 := Tryz.func164.trans (congrArg some (by kernel_rfl))
  f225 := Tryz.func163.trans (congrArg some (by kernel_rfl))
  f260 := Tryz.func166.trans (congrArg some (by kernel_rfl))
  f266 := Tryz.func162.trans (congrArg some (by kernel_rfl))
  f267 := Tryz.func165.trans (congrArg some (by kernel_rfl))
  f268 := Tryz.func151.trans (congrArg some (by kernel_rfl))
  f314 := Tryz.func167.trans (congrArg some (by kernel_rfl))
  t0 := Tryz.underlying0
  a0 := Tryz.isAgg0
  z0 := Tryz.sizeOf0
  v0 := Tryz.zeroValue0
  t3 := Tryz.underlying3
  a3 := Tryz.isAgg3
  z3 := Tryz.sizeOf3
  v3 := Tryz.zeroValue3
  t4 := Tryz.underlying4
  a4 := Tryz.isAgg4
  z4 := Tryz.sizeOf4
  v4 := Tryz.zeroValue4
  t5 := Tryz.underlying5
  a5 := Tryz.isAgg5
  z5 := Tryz.sizeOf5
  v5 := Tryz.zeroValue5
  t9 := Tryz.underlying9
  a9 := Tryz.isAgg9
  z9 := Tryz.sizeOf9
  v9 := Tryz.zeroValue9
  t21 := Tryz.underlying21
  a21 := Tryz.isAgg21
  z21 := Tryz.sizeOf21
  v21 := Tryz.zeroValue21
  t31 := Tryz.underlying49
  a31 := Tryz.isAgg49
  z31 := Tryz.sizeOf49
  v31 := Tryz.zeroValue49
  t46 := Tryz.underlying107
  a46 := Tryz.isAgg107
  z46 := Tryz.sizeOf107
  v46 := Tryz.zeroValue107
  t51 := Tryz.underlying164
  a51 := Tryz.isAgg164
  z51 := Tryz.sizeOf164
  v51 := Tryz.zeroValue164
  t105 := Tryz.underlying162
  a105 := Tryz.isAgg162
  z105 := Tryz.sizeOf162
  v105 := Tryz.zeroValue162
  t119 := Tryz.underlying167
  a119 := Tryz.isAgg167
  z119 := Tryz.sizeOf167
  t138 := Tryz.underlying169
  a138 := Tryz.isAgg169
  z138 := Tryz.sizeOf169
  v138 := Tryz.zeroValue169
  t139 := Tryz.underlying170
  a139 := Tryz.isAgg170
  z139 := Tryz.sizeOf170
  v139 := Tryz.zeroValue170
  t146 := Tryz.underlying165
  a146 := Tryz.isAgg165
  z146 := Tryz.sizeOf165
  v146 := Tryz.zeroValue165
  g1 := by kernel_rfl
  g3 := by kernel_rfl
  g4 := by kernel_rfl }
open Go.RowKit Go.Lib in
theorem Tryz.strings_Split (s sep : ByteArray) (m : Int) (w : World) (hs : s.size < 4294967281) (hm : w.cell? ⟨1, 0, none⟩ = some (.int .i64 m)) (h1 : 1 ≤ sep.size) :
    Calls Tryz.prog 119 #[.string s, .string sep] w fun e w' =>
      e = .returned (.slice (some ⟨w.heap.size, 0, none⟩) (Lib.countB s sep + 1) (Lib.countB s sep + 1)) ∧ w' = w.alloc (.cells ((Lib.splitB sep 0 (Lib.countB s sep) s).map Value.string).toArray 9) := Any.strings_Split Tryz.lays146 (by kernel_rfl) s sep m w hs hm h1
end Go.Proofs

set_option linter.unusedVariables false
set_option linter.unusedSimpArgs false
namespace Go.Proofs.YtbpkndiecomggaaGreatDoor
open Go.RowKit
open Classical
theorem letter_any (c : Int) (w : World) :
    Calls Tryz.prog 123 #[.int .u8 c] w fun e w' => e = .returned (.bool (letC c)) ∧ w = w' := by
  go_enter Tryz.func123, Tryz.ntmps123
  go_wp2
  all_goals go_ret
  all_goals exact ⟨ret_bool (by unfold letC; rw [Bool.eq_iff_iff]; simp; try omega), rfl⟩
theorem digit_any (c : Int) (w : World) :
    Calls Tryz.prog 155 #[.int .u8 c] w fun e w' => e = .returned (.bool (digC c)) ∧ w = w' := by
  go_enter Tryz.func155, Tryz.ntmps155
  go_wp2
  all_goals go_ret
  all_goals exact ⟨ret_bool (by unfold digC; rw [Bool.eq_iff_iff]; simp; try omega), rfl⟩
theorem word_any (c : Int) (w : World) :
    Calls Tryz.prog 141 #[.int .u8 c] w fun e w' => e = .returned (.bool (wrdC c)) ∧ w = w' := by
  go_enter Tryz.func141, Tryz.ntmps141
  go_wp2_with (first
    | (go_at_call 123; refine (letter_any _ _).mono ?_; rintro e w' ⟨rfl, rfl⟩)
    | (go_at_call 155; refine (digit_any _ _).mono ?_; rintro e w' ⟨rfl, rfl⟩))
  all_goals go_ret
  all_goals exact ⟨ret_bool (by unfold wrdC; simp_all), rfl⟩
theorem name_any (c : UInt8) (w : World) :
    Calls Tryz.prog 125 #[.int .u8 (c.toNat : Int)] w fun e w' => e = .returned (.bool (namC c)) ∧ w = w' := by
  go_enter Tryz.func125, Tryz.ntmps125
  go_wp2_with (first
    | (go_at_call 141; refine (word_any _ _).mono ?_; rintro e w' ⟨rfl, rfl⟩)
    | (go_at_call 142; refine (Tryz.strings_IndexByte _ _ _).mono ?_; rintro e w' ⟨rfl, rfl⟩))
  all_goals go_ret
  all_goals exact ⟨ret_bool (by unfold namC sgnS; rw [Lib.contains_iff_indexByte]; simp_all), rfl⟩
theorem tokenAll_any (s : St) (w : World) (hf : s.length ≤ 1000000) :
    Calls Tryz.prog 124 #[.string (bs s), .func (.func 125) #[] #[]] w fun e w' => e = .returned (.bool (s.all namC)) ∧ w = w' := by
  go_enter Tryz.func124, Tryz.ntmps124
  go_wp2_with fail
  go_loop [8] (fun i => ∃ k : Nat, k ≤ s.length ∧ i = .int .i64 k ∧ (s.take k).all namC = true) (fun i => s.length - (intOf i).toNat)
  case atStart => exact ⟨0, Nat.zero_le _, rfl, rfl⟩
  case round =>
    obtain ⟨k, hk, rfl, hall⟩ := hrel
    have HA := Lib.hid hall
    clear hall
    by_cases hlt : k < s.length
    · by_cases hq : namC s[k] = true
      · go_wp2_with (go_at_call 125; refine (name_any _ _).mono ?_; rintro e w' ⟨rfl, rfl⟩)
        go_round
        case rel => exact ⟨k + 1, by omega, by go_num, by rw [List.take_succ_eq_append_getElem hlt, List.all_append, HA.out]; simp [hq]⟩
        case measure => simp [intOf]; omega
      · rw [Bool.not_eq_true] at hq
        go_wp2_with (go_at_call 125; refine (name_any _ _).mono ?_; rintro e w' ⟨rfl, rfl⟩)
        go_ret
        exact ⟨ret_bool (by symm; rw [List.all_eq_false]; exact ⟨_, List.getElem_mem hlt, by simp [hq]⟩), rfl⟩
    · go_wp2_with fail
      go_ret
      exact ⟨ret_bool (by rw [← HA.out, List.take_of_length_le (by omega)]), rfl⟩
theorem chr0 {s : St} (h : 1 ≤ s.length) : chr s 0 = (s[0].toNat : Int) := by
  unfold chr; rw [List.getD_eq_getElem?_getD, List.getElem?_eq_getElem h]; rfl
theorem tokenName_any (s : St) (w : World) :
    Calls Tryz.prog 101 #[.string (bs s)] w fun e w' => e = .returned (.bool (nameOk s)) ∧ w = w' := by
  by_cases h1 : 1 ≤ s.length
  · by_cases h2 : s.length ≤ 31
    · have e0 : (bs s).size = s.length := bs_size s
      go_enter Tryz.func101, Tryz.ntmps101
      go_wp2_with (first
        | (go_at_call 123; refine (letter_any _ _).mono ?_; rintro e w' ⟨rfl, rfl⟩)
        | (go_at_call 124; refine (tokenAll_any _ _ (by omega)).mono ?_; rintro e w' ⟨rfl, rfl⟩))
      all_goals go_ret
      all_goals exact ⟨ret_bool (by unfold nameOk; rw [chr0 h1]; simp_all), rfl⟩
    · have e0 : (bs s).size = s.length := bs_size s
      go_enter Tryz.func101, Tryz.ntmps101
      go_wp2_with fail
      go_ret
      exact ⟨ret_bool (by unfold nameOk; simp [h1, h2]), rfl⟩
  · go_enter Tryz.func101, Tryz.ntmps101
    go_wp2_with fail
    go_ret
    exact ⟨ret_bool (by unfold nameOk; simp [h1]), rfl⟩
theorem hasPre35 (s : St) : Lib.hasPrefix s [35] = decide (s.head? = some 35) := by
  cases s with
  | nil => rfl
  | cons a l =>
    by_cases h : a = 35
    · subst h; simp [Lib.hasPrefix, List.isPrefixOf]
    · have h2 : ¬ 35 = a := fun e => h e.symm
      simp [Lib.hasPrefix, List.isPrefixOf, h, h2]
theorem tokenProp_any (s : St) (w : World) (hf : s.length ≤ 9223372036854775807) :
    Calls Tryz.prog 102 #[.string (bs s)] w fun e w' => e = .returned (.bool (propOk s)) ∧ w = w' := by
  by_cases hp : s.head? = some 35
  · have hl : Lib.hasPrefix s [35] = true := by rw [hasPre35]; simp [hp]
    have hs : 1 ≤ s.length := by cases s with | nil => simp at hp | cons a l => simp
    have ht : List.take (s.length - 1) s.tail = s.tail := List.take_of_length_le (by simp)
    have hu : undr s = 95 :: s.tail := by unfold undr; rw [if_pos hp]
    go_enter Tryz.func102, Tryz.ntmps102
    go_wp2_with (first
      | (go_at_call 126; refine (Tryz.strings_HasPrefix _ _ _).mono ?_; rintro e w' ⟨rfl, rfl⟩)
      | (go_at_call 101; refine (tokenName_any _ _).mono ?_; rintro e w' ⟨rfl, rfl⟩)
      | (go_at_call 127; refine (Tryz.strings_Contains_one _ _ _).mono ?_; rintro e w' ⟨rfl, rfl⟩))
    all_goals go_ret
    all_goals exact ⟨ret_bool (by unfold propOk; rw [hu, Lib.contains_iff_indexByte]; simp_all), rfl⟩
  · have hl : Lib.hasPrefix s [35] = false := by rw [hasPre35]; simp [hp]
    have hu : undr s = s := by unfold undr; rw [if_neg hp]
    go_enter Tryz.func102, Tryz.ntmps102
    go_wp2_with (first
      | (go_at_call 126; refine (Tryz.strings_HasPrefix _ _ _).mono ?_; rintro e w' ⟨rfl, rfl⟩)
      | (go_at_call 101; refine (tokenName_any _ _).mono ?_; rintro e w' ⟨rfl, rfl⟩)
      | (go_at_call 127; refine (Tryz.strings_Contains_one _ _ _).mono ?_; rintro e w' ⟨rfl, rfl⟩))
    all_goals go_ret
    all_goals exact ⟨ret_bool (by unfold propOk; rw [hu, Lib.contains_iff_indexByte]; simp_all), rfl⟩
end Go.Proofs.YtbpkndiecomggaaGreatDoor

set_option linter.unusedVariables false
set_option linter.unusedSimpArgs false
namespace Go.Proofs.YtbpkndiecomggaaGreatDoor
open Go.RowKit
theorem rletter_any (c : Int) (w : World) :
    Calls Tryz.prog 112 #[.int .u8 c] w fun e w' => e = .returned (.bool (letC c)) ∧ w = w' := by
  go_enter Tryz.func112, Tryz.ntmps112
  go_wp2
  all_goals go_ret
  all_goals exact ⟨ret_bool (by unfold letC; rw [Bool.eq_iff_iff]; simp; try omega), rfl⟩
theorem rword_any (c : Int) (w : World) :
    Calls Tryz.prog 133 #[.int .u8 c] w fun e w' => e = .returned (.bool (wrdC c)) ∧ w = w' := by
  obtain ⟨B, hB⟩ : ∃ B : Bool, wrdC c = B := ⟨_, rfl⟩
  rw [hB]
  cases hl : letC c with
  | true =>
    have e : B = true := by rw [← hB]; unfold wrdC; rw [hl]; rfl
    subst e
    clear hB
    go_enter Tryz.func133, Tryz.ntmps133
    go_wp2_with (go_at_call 112; refine (rletter_any _ _).mono ?_; rintro e w' ⟨rfl, rfl⟩; rw [hl])
    go_ret
    exact ⟨ret_bool (by simp), rfl⟩
  | false =>
    have e : B = (digC c || c == 95) := by rw [← hB]; unfold wrdC; rw [hl]; rfl
    have E := Lib.hid e
    clear hB e
    go_enter Tryz.func133, Tryz.ntmps133
    go_wp2_with (go_at_call 112; refine (rletter_any _ _).mono ?_; rintro e w' ⟨rfl, rfl⟩; rw [hl])
    all_goals go_ret
    all_goals exact ⟨ret_bool (by rw [E.out]; unfold digC; rw [Bool.eq_iff_iff]; simp; try omega), rfl⟩
theorem among_any (c : UInt8) (s : St) (w : World) (hf : s.length ≤ 1000000) :
    Calls Tryz.prog 134 #[.int .u8 (c.toNat : Int), .string (bs s)] w fun e w' => e = .returned (.bool (s.contains c)) ∧ w = w' := by
  obtain ⟨D, hD⟩ : ∃ D : Bool, s.contains c = D := ⟨_, rfl⟩
  have HD := Lib.hid hD
  rw [hD]
  clear hD
  go_enter Tryz.func134, Tryz.ntmps134
  go_wp2_with fail
  go_loop [5] (fun i => ∃ k : Nat, k ≤ s.length ∧ i = .int .i64 k ∧ (s.take k).contains c = false) (fun i => s.length - (intOf i).toNat)
  case atStart => exact ⟨0, Nat.zero_le _, rfl, rfl⟩
  case round =>
    obtain ⟨k, hk, rfl, hall⟩ := hrel
    have HA := Lib.hid hall
    clear hall
    by_cases hlt : k < s.length
    · by_cases hq : s[k] = c
      · have q1 : ((s[k].toNat : Int) == (c.toNat : Int)) = true := by rw [hq]; simp
        have q2 : (s[k].toNat : Int) = (c.toNat : Int) := by rw [hq]
        have M : Hid (s.contains c = true) := Lib.hid (by rw [List.contains_iff_mem, ← hq]; exact List.getElem_mem hlt)
        clear hq
        go_wp2_with fail
        go_ret
        exact ⟨ret_bool (by rw [← HD.out, M.out]), rfl⟩
      · have q0 : ¬ s[k].toNat = c.toNat := fun e => hq (UInt8.toNat_inj.1 e)
        have q1 : ((s[k].toNat : Int) == (c.toNat : Int)) = false := by rw [beq_eq_false_iff_ne]; omega
        have q2 : ¬ (s[k].toNat : Int) = (c.toNat : Int) := by omega
        have Q := Lib.hid hq
        clear hq
        go_wp2_with fail
        go_round
        case rel =>
          refine ⟨k + 1, by omega, by go_num, ?_⟩
          rw [← Bool.not_eq_true, List.contains_iff_mem, List.take_succ_eq_append_getElem hlt, List.mem_append, List.mem_singleton]
          rintro (h | h)
          · have := HA.out
            rw [← Bool.not_eq_true, List.contains_iff_mem] at this
            exact this h
          · exact Q.out h.symm
        case measure => simp [intOf]; omega
    · go_wp2_with fail
      go_ret
      exact ⟨ret_bool (by rw [← HD.out, ← HA.out, List.take_of_length_le (by omega)]), rfl⟩
theorem rname_any (c : UInt8) (w : World) :
    Calls Tryz.prog 113 #[.int .u8 (c.toNat : Int)] w fun e w' => e = .returned (.bool (namC c)) ∧ w = w' := by
  cases hl : wrdC c.toNat with
  | true =>
    have e : Hid (namC c = true) := Lib.hid (by unfold namC; rw [hl]; rfl)
    go_enter Tryz.func113, Tryz.ntmps113
    go_wp2_with (go_at_call 133; refine (rword_any _ _).mono ?_; rintro e w' ⟨rfl, rfl⟩; rw [hl])
    go_ret
    exact ⟨ret_bool (by rw [e.out]), rfl⟩
  | false =>
    obtain ⟨D, hD⟩ : ∃ D : Bool, sgnS.contains c = D := ⟨_, rfl⟩
    have e : Hid (namC c = D) := Lib.hid (by unfold namC; rw [hl, hD]; rfl)
    have AM : ∀ w : World, Calls Tryz.prog 134 #[.int .u8 (c.toNat : Int), .string ⟨#[44, 46, 43, 45, 63, 35, 64]⟩] w fun e w' => e = .returned (.bool D) ∧ w = w' := fun w => by
      rw [← hD]; exact among_any c sgnS w (by decide)
    have HAM := Lib.hid AM
    clear AM hD
    go_enter Tryz.func113, Tryz.ntmps113
    go_wp2_with (first
      | (go_at_call 133; refine (rword_any _ _).mono ?_; rintro e w' ⟨rfl, rfl⟩; rw [hl])
      | (go_at_call 134; refine (HAM.out _).mono ?_; rintro e w' ⟨rfl, rfl⟩))
    go_ret
    exact ⟨ret_bool (by rw [e.out]), rfl⟩
theorem refName_any (s : St) (w : World) :
    Calls Tryz.prog 91 #[.string (bs s)] w fun e w' => e = .returned (.bool (nameOk s)) ∧ w = w' := by
  by_cases h1 : 1 ≤ s.length
  · by_cases h2 : s.length ≤ 31
    · have e0 : (bs s).size = s.length := bs_size s
      by_cases h3 : (letC (chr s 0) || chr s 0 == 95) = true
      · have N : Hid (nameOk s = s.all namC) := Lib.hid (by unfold nameOk; rw [h3]; simp [h1, h2])
        have h3' := h3
        rw [chr0 h1] at h3'
        have g1 : letC (s[0].toNat : Int) = true ∨ ((s[0].toNat : Int) = 95) := by simpa using h3'
        clear h3 h3'
        obtain ⟨B, hB⟩ : ∃ B : Bool, letC (s[0].toNat : Int) = B := ⟨_, rfl⟩
        rw [hB] at g1
        go_enter Tryz.func91, Tryz.ntmps91
        have loop : B = true ∨ (B = false ∧ s[0].toNat = 95) := by
          cases B with
          | true => exact .inl rfl
          | false => exact .inr ⟨rfl, by rcases g1 with q | q; · cases q
                                         · omega⟩
        clear g1
        rcases loop with rfl | ⟨rfl, h95⟩
        · go_wp2_with (go_at_call 112; refine (rletter_any _ _).mono ?_; rintro e w' ⟨rfl, rfl⟩; rw [hB])
          go_loop [3] (fun i => ∃ k : Nat, k ≤ s.length ∧ i = .int .i64 k ∧ (s.take k).all namC = true) (fun i => s.length - (intOf i).toNat)
          case atStart => exact ⟨0, Nat.zero_le _, rfl, rfl⟩
          case round =>
            obtain ⟨k, hk, rfl, hall⟩ := hrel
            have HA := Lib.hid hall
            clear hall
            by_cases hlt : k < s.length
            · by_cases hq : namC s[k] = true
              · go_wp2_with (go_at_call 113; refine (rname_any _ _).mono ?_; rintro e w' ⟨rfl, rfl⟩; rw [hq])
                go_round
                case rel => exact ⟨k + 1, by omega, by go_num, by rw [List.take_succ_eq_append_getElem hlt, List.all_append, HA.out]; simp [hq]⟩
                case measure => simp [intOf]; omega
              · rw [Bool.not_eq_true] at hq
                go_wp2_with (go_at_call 113; refine (rname_any _ _).mono ?_; rintro e w' ⟨rfl, rfl⟩; rw [hq])
                go_ret
                exact ⟨ret_bool (by rw [N.out]; symm; rw [List.all_eq_false]; exact ⟨_, List.getElem_mem hlt, by simp [hq]⟩), rfl⟩
            · go_wp2_with fail
              go_ret
              exact ⟨ret_bool (by rw [N.out, ← HA.out, List.take_of_length_le (by omega)]), rfl⟩
        · have q1 : (s[0].toNat : Int) = 95 := by omega
          have q2 : ((s[0].toNat : Int) != 95) = false := by rw [q1]; rfl
          have q3 : ((s[0].toNat : Int) == 95) = true := by rw [q1]; rfl
          clear q1 h95
          go_wp2_with (go_at_call 112; refine (rletter_any _ _).mono ?_; rintro e w' ⟨rfl, rfl⟩; rw [hB])
          go_loop [3] (fun i => ∃ k : Nat, k ≤ s.length ∧ i = .int .i64 k ∧ (s.take k).all namC = true) (fun i => s.length - (intOf i).toNat)
          case atStart => exact ⟨0, Nat.zero_le _, rfl, rfl⟩
          case round =>
            obtain ⟨k, hk, rfl, hall⟩ := hrel
            have HA := Lib.hid hall
            clear hall
            by_cases hlt : k < s.length
            · by_cases hq : namC s[k] = true
              · go_wp2_with (go_at_call 113; refine (rname_any _ _).mono ?_; rintro e w' ⟨rfl, rfl⟩; rw [hq])
                go_round
                case rel => exact ⟨k + 1, by omega, by go_num, by rw [List.take_succ_eq_append_getElem hlt, List.all_append, HA.out]; simp [hq]⟩
                case measure => simp [intOf]; omega
              · rw [Bool.not_eq_true] at hq
                go_wp2_with (go_at_call 113; refine (rname_any _ _).mono ?_; rintro e w' ⟨rfl, rfl⟩; rw [hq])
                go_ret
                exact ⟨ret_bool (by rw [N.out]; symm; rw [List.all_eq_false]; exact ⟨_, List.getElem_mem hlt, by simp [hq]⟩), rfl⟩
            · go_wp2_with fail
              go_ret
              exact ⟨ret_bool (by rw [N.out, ← HA.out, List.take_of_length_le (by omega)]), rfl⟩
      · have N : Hid (nameOk s = false) := Lib.hid (by unfold nameOk; rw [Bool.not_eq_true] at h3; rw [h3]; simp)
        rw [chr0 h1, Bool.not_eq_true, Bool.or_eq_false_iff] at h3
        have g1 := h3.1
        have g2 : ¬ (s[0].toNat : Int) = 95 := by simpa using h3.2
        have g3 : ¬ s[0].toNat = 95 := by omega
        have g4 : ((s[0].toNat : Int) != 95) = true := by rw [bne_iff_ne]; exact g2
        have g5 : ((s[0].toNat : Int) == 95) = false := by rw [beq_eq_false_iff_ne]; exact g2
        clear h3
        go_enter Tryz.func91, Tryz.ntmps91
        go_wp2_with (go_at_call 112; refine (rletter_any _ _).mono ?_; rintro e w' ⟨rfl, rfl⟩; rw [g1])
        go_ret
        exact ⟨ret_bool (by rw [N.out]), rfl⟩
    · have e0 : (bs s).size = s.length := bs_size s
      go_enter Tryz.func91, Tryz.ntmps91
      go_wp2_with fail
      go_ret
      exact ⟨ret_bool (by unfold nameOk; simp [h1, h2]), rfl⟩
  · go_enter Tryz.func91, Tryz.ntmps91
    go_wp2_with fail
    go_ret
    exact ⟨ret_bool (by unfold nameOk; simp [h1]), rfl⟩
end Go.Proofs.YtbpkndiecomggaaGreatDoor

set_option linter.unusedVariables false
set_option linter.unusedSimpArgs false
namespace Go.Proofs.YtbpkndiecomggaaGreatDoor
open Go.RowKit
open Classical
theorem prps_at {w : World} {a : Option Addr} {ps : List Prp} (h : SlOf 2 RPrp w a ps) (k : Nat) (hk : k < ps.length) : ∃ b o, a = some ⟨b, o, none⟩ ∧ w.cell? ⟨b, o + k * 2, none⟩ = some (.string (bs ps[k].name)) ∧ w.cell? ⟨b, o + k * 2 + 1, none⟩ = some (.string (bs ps[k].val)) ∧ ps[k].name.length ≤ 9223372036854775807 ∧ ps[k].val.length ≤ 9223372036854775807 := by
  obtain ⟨b, o, e, ⟨c0, l0⟩, ⟨c1, l1⟩⟩ := h k hk
  exact ⟨b, o, e, c0, c1, l0, l1⟩
theorem nods_at {w : World} {a : Option Addr} {ts : Tr} (h : SlOf 3 RNod w a ts) (k : Nat) (hk : k < ts.length) : ∃ b o pa pc, a = some ⟨b, o, none⟩ ∧ w.cell? ⟨b, o + k * 3, none⟩ = some (.int .i64 ts[k].parent) ∧ w.cell? ⟨b, o + k * 3 + 1, none⟩ = some (.string (bs ts[k].name)) ∧ w.cell? ⟨b, o + k * 3 + 2, none⟩ = some (.slice pa ts[k].props.length pc) ∧ SlOf 2 RPrp w pa ts[k].props ∧ Fit ts[k].props.length ∧ Wide ts[k].parent ∧ ts[k].name.length ≤ 9223372036854775807 := by
  obtain ⟨b, o, e, ⟨c0, w0⟩, ⟨c1, l1⟩, ⟨pa, pc, c2, _, hf, hs⟩⟩ := h k hk
  exact ⟨b, o, pa, pc, e, c0, c1, c2, hs, hf, w0, l1⟩
theorem check1_any (n v : St) (w : World) (hf : v.length ≤ 9223372036854775807) :
    Calls Tryz.prog 69 #[.agg #[.string (bs n), .string (bs v)]] w (Grows w (.bool (decide (256 < v.length)))) := by
  go_enter Tryz.func69, Tryz.ntmps69
  go_wp2
  go_ret
  exact ⟨ret_bool (by rw [Bool.eq_iff_iff]; simp; try omega), (Gr.refl _).alloc _⟩
theorem idxPrp_any (ps : List Prp) (a : Option Addr) (cap : Nat) (w : World) (h : SlOf 2 RPrp w a ps) (hf : Fit ps.length) :
    Calls Tryz.prog 100 #[.slice a ps.length cap, .func (.func 69) #[] #[]] w fun e w' => ∃ i : Int, e = .returned (.int .i64 i) ∧ (decide (0 ≤ i) = ps.any (fun p => decide (256 < p.val.length))) ∧ Gr w w' := by
  unfold Fit at hf
  have H := Lib.hid h
  clear h
  go_enter Tryz.func100, Tryz.ntmps100
  go_wp2
  go_loopw [8] (fun i wr => ∃ k : Nat, k ≤ ps.length ∧ i = .int .i64 k ∧ (∀ j (hj : j < k) (hjl : j < ps.length), ¬ 256 < ps[j].val.length) ∧ Gr w wr) (fun i _ => ps.length - (intOf i).toNat)
  case atStart => exact ⟨0, Nat.zero_le _, rfl, fun j h => absurd h (by omega), Gr.refl _⟩
  case round =>
    obtain ⟨k, hk, rfl, hall, hg⟩ := hrel
    have HA := Lib.hid hall
    have HG := Lib.hid hg
    clear hall hg
    by_cases hlt : k < ps.length
    · obtain ⟨b, o, rfl, c0, c1, l0, l1⟩ := prps_at (H.out.gr RPrp.mono HG.out) k hlt
      by_cases hq : 256 < ps[k].val.length
      · have Q := Lib.hid hq
        have E : (decide (256 < ps[k].val.length)) = true := by simp [hq]
        clear hq
        go_wp2_with (go_at_call 69; refine (check1_any _ _ _ l1).mono ?_; rintro e w' ⟨rfl, O, d, rfl⟩)
        go_ret
        refine ⟨_, rfl, ?_, HG.out.xt _ _⟩
        rw [eq_comm, show decide (0 ≤ (k : Int)) = true by simp, List.any_eq_true]
        exact ⟨_, List.getElem_mem hlt, by simpa using Q.out⟩
      · have Q := Lib.hid hq
        have E : (decide (256 < ps[k].val.length)) = false := by simp [hq]
        clear hq
        go_wp2_with (go_at_call 69; refine (check1_any _ _ _ l1).mono ?_; rintro e w' ⟨rfl, O, d, rfl⟩)
        go_roundw
        case rel =>
          refine ⟨k + 1, by omega, by go_num, fun j hj hjl => ?_, HG.out.xt _ _⟩
          by_cases e : j = k
          · subst e; exact Q.out
          · exact HA.out j (by omega) hjl
        case measure => simp [intOf]; omega
    · go_wp2
      go_ret
      refine ⟨_, rfl, ?_, HG.out⟩
      rw [eq_comm, show decide ((0:Int) ≤ -1) = false by simp, List.any_eq_false]
      intro x hx
      obtain ⟨j, hj, rfl⟩ := List.getElem_of_mem hx
      simpa using HA.out j (by omega) hj
theorem conPrp_any (ps : List Prp) (a : Option Addr) (cap : Nat) (w : World) (h : SlOf 2 RPrp w a ps) (hf : Fit ps.length) :
    Calls Tryz.prog 68 #[.slice a ps.length cap, .func (.func 69) #[] #[]] w (Grows w (.bool (ps.any (fun p => decide (256 < p.val.length))))) := by
  have H := Lib.hid h
  have HF := Lib.hid hf
  clear h hf
  go_enter Tryz.func68, Tryz.ntmps68
  go_wp2_with fail
  refine (idxPrp_any ps a cap _ H.out HF.out).mono ?_
  rintro e w' ⟨x, rfl, hx, O, d, rfl⟩
  have X := Lib.hid hx
  clear hx
  go_wp2_with fail
  go_ret
  exact ⟨ret_bool X.out, (Gr.refl _).xt _ _⟩
def OkPar (ts : Tr) : Prop := ∀ i (h : i < ts.length), 0 < i → 0 ≤ ts[i].parent ∧ ts[i].parent < i
theorem par_get {ts : Tr} {u : Nat} (h : u < ts.length) : par ts (u : Int) = ts[u].parent := by
  unfold par; rw [List.getD_eq_getElem?_getD, Int.toNat_natCast, List.getElem?_eq_getElem h]; rfl
theorem depN_eq {ts : Tr} (hp : OkPar ts) : ∀ (f g u : Nat), u ≤ f → u ≤ g → u < ts.length → depN ts f (u : Int) = depN ts g (u : Int) := by
  intro f
  induction f with
  | zero => intro g u h1 h2 h3; obtain rfl : u = 0 := by omega
            cases g <;> simp [depN]
  | succ f ih =>
    intro g u h1 h2 h3
    by_cases h0 : u = 0
    · subst h0; cases g <;> simp [depN]
    · obtain ⟨g, rfl⟩ : ∃ g', g = g' + 1 := ⟨g - 1, by omega⟩
      obtain ⟨p0, p1⟩ := hp u h3 (by omega)
      obtain ⟨q, hq⟩ : ∃ q : Nat, ts[u].parent = q := ⟨ts[u].parent.toNat, by omega⟩
      rw [depN, depN, if_pos (by omega), if_pos (by omega), par_get h3, hq, ih g q (by omega) (by omega) (by omega)]
def dep (ts : Tr) (u : Nat) : Nat := depN ts u (u : Int)
theorem dep_zero (ts : Tr) : dep ts 0 = 0 := rfl
theorem dep_succ {ts : Tr} (hp : OkPar ts) {u q : Nat} (h : u < ts.length) (h0 : 0 < u) (hq : ts[u].parent = q) : dep ts u = dep ts q + 1 := by
  have := hp u h h0
  obtain ⟨v, rfl⟩ : ∃ v, u = v + 1 := ⟨u - 1, by omega⟩
  unfold dep
  rw [depN, if_pos (by omega), par_get h, hq, depN_eq hp v q q (by omega) (by omega) (by omega)]
theorem dep_le {ts : Tr} (hp : OkPar ts) : ∀ u, u < ts.length → dep ts u ≤ u := by
  intro u
  induction u using Nat.strongRecOn with
  | _ u ih =>
    intro h
    by_cases h0 : u = 0
    · subst h0; simp [dep_zero]
    · obtain ⟨p0, p1⟩ := hp u h (by omega)
      obtain ⟨q, hq⟩ : ∃ q : Nat, ts[u].parent = q := ⟨ts[u].parent.toNat, by omega⟩
      rw [dep_succ hp h (by omega) hq]
      have := ih q (by omega) (by omega)
      omega
theorem depth_any (ts : Tr) (a : Option Addr) (cap i : Nat) (w : World) (h : SlOf 3 RNod w a ts) (hf : ts.length ≤ 1000000) (hp : OkPar ts) (hi : i < ts.length) :
    Calls Tryz.prog 72 #[.agg #[.slice a ts.length cap], .int .i64 i] w (Grows w (.int .i64 (dep ts i : Nat))) := by
  have H := Lib.hid h
  have HP := Lib.hid hp
  clear h hp
  go_enter Tryz.func72, Tryz.ntmps72
  go_wp2_with fail
  go_loop [1, 5] (fun u n => ∃ k m : Nat, k < ts.length ∧ u = .int .i64 k ∧ n = .int .i64 m ∧ m + dep ts k = dep ts i) (fun u _ => (intOf u).toNat)
  case atStart => exact ⟨i, 0, hi, rfl, rfl, by omega⟩
  case round =>
    obtain ⟨k, m, hk, rfl, rfl, hs⟩ := hrel
    by_cases h0 : 0 < k
    · obtain ⟨b, o, pa, pc, rfl, c0, c1, c2, _⟩ := nods_at H.out k hk
      obtain ⟨p0, p1⟩ := HP.out k hk h0
      obtain ⟨q, hq⟩ : ∃ q : Nat, ts[k].parent = q := ⟨ts[k].parent.toNat, by omega⟩
      have D := dep_succ HP.out hk h0 hq
      have L := dep_le HP.out i hi
      rw [hq] at c0
      have HS := Lib.hid hs
      have hh := has_of_cell c0
      have hD := Lib.hid D
      have hQ := Lib.hid hq
      clear hs D hq c1 c2
      rw [hQ.out] at p1
      have hm : m + 1 ≤ 1000000 := by have := HS.out; have := hD.out; omega
      go_wp2_with fail
      go_round
      case rel => exact ⟨q, m + 1, by omega, rfl, by go_num, by have := HS.out; have := hD.out; omega⟩
      case measure => simp [intOf]; omega
    · obtain rfl : k = 0 := by omega
      have D := dep_zero ts
      rw [D] at hs
      have HS := Lib.hid hs
      clear hs D
      go_wp2_with fail
      go_ret
      exact ⟨ret_int (by have := HS.out; omega), (Gr.refl _).alloc _⟩
theorem undr_len (s : St) : (undr s).length = s.length := by
  unfold undr
  split
  · rename_i h
    cases s with
    | nil => simp at h
    | cons a l => simp
  · rfl
theorem propLenV {s : St} (h : propOk s = true) : 1 ≤ s.length ∧ s.length ≤ 31 := by
  unfold propOk nameOk at h
  simp only [Bool.and_eq_true, decide_eq_true_eq, undr_len] at h
  exact ⟨h.1.1.1.1, h.1.1.1.2⟩
theorem prop_at {s : St} (h : propOk s = true) : ∀ i (hi : i < s.length), s[i] ≠ 64 := by
  intro i hi e
  have h2 : (64 : UInt8) ∉ undr s := by
    unfold propOk at h
    simp only [Bool.and_eq_true, Bool.not_eq_true', ← Bool.not_eq_true, List.contains_iff_mem] at h
    exact h.2
  apply h2
  unfold undr
  split
  · rename_i hh
    cases s with
    | nil => simp at hh
    | cons a l =>
      simp only [List.head?_cons, Option.some.injEq] at hh
      subst hh
      cases i with
      | zero => simp at e
      | succ i => rw [List.getElem_cons_succ] at e; rw [← e]; exact List.mem_cons_of_mem _ (List.getElem_mem _)
  · rw [← e]; exact List.getElem_mem hi
theorem prop_hash {s : St} (h : propOk s = true) (h0 : 0 < s.length) (hh : s[0] = 35) : nameOk (97 :: s.tail) = true := by
  have hu : undr s = 95 :: s.tail := by
    unfold undr
    rw [if_pos]
    cases s with
    | nil => simp at h0
    | cons a l => simpa using hh
  unfold propOk at h
  rw [hu] at h
  unfold nameOk at h ⊢
  simp only [Bool.and_eq_true, decide_eq_true_eq, List.all_cons] at h ⊢
  exact ⟨⟨⟨h.1.1.1.1, h.1.1.1.2⟩, rfl⟩, rfl, h.1.2.2⟩
theorem prop_plain {s : St} (h : propOk s = true) (h0 : 0 < s.length) (hh : s[0] ≠ 35) : nameOk s = true := by
  have hu : undr s = s := by
    unfold undr
    rw [if_neg]
    cases s with
    | nil => simp
    | cons a l => simpa using hh
  unfold propOk at h
  rw [hu, Bool.and_eq_true] at h
  exact h.1
theorem refProp_ok (s : St) (h : propOk s = true) (w : World) :
    Calls Tryz.prog 54 #[.string (bs s)] w fun e w' => e = .returned (.bool true) ∧ w = w' := by
  obtain ⟨h1, h2⟩ := propLenV h
  have HP := Lib.hid h
  have AT := Lib.hid (prop_at h)
  have e0 : (bs s).size = s.length := bs_size s
  clear h
  go_enter Tryz.func54, Tryz.ntmps54
  go_wp2_with fail
  go_loop [3] (fun i => ∃ k : Nat, k ≤ s.length ∧ i = .int .i64 k) (fun i => s.length - (intOf i).toNat)
  case atStart => exact ⟨0, Nat.zero_le _, rfl⟩
  case round =>
    obtain ⟨k, hk, rfl⟩ := hrel
    by_cases hlt : k < s.length
    · have q0 := AT.out k hlt
      have q1 : ¬ (s[k].toNat : Int) = 64 := fun e => q0 (UInt8.toNat_inj.1 (by show s[k].toNat = 64; omega))
      have q2 : ((s[k].toNat : Int) == 64) = false := by rw [beq_eq_false_iff_ne]; exact q1
      clear q0
      go_wp2_with fail
      go_round
      case rel => exact ⟨k + 1, by omega, by go_num⟩
      case measure => simp [intOf]; omega
    · obtain rfl : k = s.length := by omega
      by_cases hh : s[0] = 35
      · have NO := Lib.hid (prop_hash HP.out (by omega) hh)
        have q1 : (s[0].toNat : Int) = 35 := by rw [hh]; rfl
        have q2 : ((s[0].toNat : Int) == 35) = true := by rw [q1]; rfl
        clear q1 hh
        by_cases hl : s.length = 1
        · have HL := Lib.hid hl
          have q3 : ((s.length : Int) == 1) = true := by rw [hl]; rfl
          have q4 : (s.length : Int) = 1 := by omega
          clear hl
          go_wp2_with fail
          go_ret
          exact ⟨ret_bool (by simp), rfl⟩
        · have q3 : ((s.length : Int) == 1) = false := by rw [beq_eq_false_iff_ne]; omega
          have ht : List.take (s.length - 1) s.tail = s.tail := List.take_of_length_le (by simp)
          have ht2 : (s.drop 1).take (s.length - 1) = s.tail := by rw [List.drop_one]; exact ht
          go_wp2_with (go_at_call 91; refine (refName_any _ _).mono ?_; rintro e w' ⟨rfl, rfl⟩)
          go_ret
          exact ⟨ret_bool (by rw [NO.out]), rfl⟩
      · have NO := Lib.hid (prop_plain HP.out (by omega) hh)
        have q1 : ¬ (s[0].toNat : Int) = 35 := fun e => hh (UInt8.toNat_inj.1 (by show s[0].toNat = 35; omega))
        have q2 : ((s[0].toNat : Int) == 35) = false := by rw [beq_eq_false_iff_ne]; exact q1
        clear hh
        go_wp2_with (go_at_call 91; refine (refName_any _ _).mono ?_; rintro e w' ⟨rfl, rfl⟩; rw [NO.out])
        go_ret
        exact ⟨ret_bool (by simp), rfl⟩
theorem VT.props {ts : Tr} (h : VT ts) {k : Nat} (hk : k < ts.length) : PV ts[k].props := by
  have := h.prp k hk
  rwa [nd_get hk] at this
/-! limits. -/
def LimT (ts : Tr) : Prop := 1 ≤ ts.length ∧ ts.length ≤ 120 ∧ ∀ n ∈ ts, n.props.length ≤ 24 ∧ ∀ p ∈ n.props, p.val.length ≤ 256
theorem VT.lim {ts : Tr} (h : VT ts) : LimT ts := ⟨h.pos, h.few, fun n hn => by
  obtain ⟨k, hk, rfl⟩ := List.getElem_of_mem hn
  exact ⟨by have := (h.props hk).len; omega, fun p hp => ((h.props hk).mem p hp).2⟩⟩
theorem limits_ok (ts : Tr) (a : Option Addr) (cap : Nat) (w : World) (h : SlOf 3 RNod w a ts) (hl : LimT ts) :
    Calls Tryz.prog 56 #[.agg #[.slice a ts.length cap]] w (Grows w (.bool false)) := by
  have H := Lib.hid h
  have HL := Lib.hid hl
  have l1 := hl.1
  have l2 := hl.2.1
  clear h hl
  go_enter Tryz.func56, Tryz.ntmps56
  go_wp2_with fail
  go_loopw [20] (fun i wr => ∃ k : Nat, k ≤ ts.length ∧ i = .int .i64 k ∧ Gr w wr) (fun i _ => ts.length - (intOf i).toNat)
  case atStart => exact ⟨0, Nat.zero_le _, rfl, (Gr.refl _).alloc _⟩
  case round =>
    obtain ⟨k, hk, rfl, hg⟩ := hrel
    have HG := Lib.hid hg
    clear hg
    by_cases hlt : k < ts.length
    · obtain ⟨b, o, pa, pc, rfl, c0, c1, c2, hps, hpf, hw, hnl⟩ := nods_at (H.out.gr RNod.mono HG.out) k hlt
      have NL := Lib.hid (HL.out.2.2 _ (List.getElem_mem hlt))
      obtain ⟨n, hn⟩ : ∃ n, ts[k] = n := ⟨_, rfl⟩
      rw [hn] at c0 c1 c2 hps NL
      have HPS := Lib.hid hps
      have n24 := NL.out.1
      have hh := has_of_cell c0
      clear hn hps hpf hw hnl
      go_wp2_with fail
      obtain ⟨w5, hw5⟩ : ∃ wo, wo = wr := ⟨_, rfl⟩
      rw [← hw5] at HG HPS
      go_loopw [31] (fun i wr => ∃ m : Nat, m ≤ n.props.length ∧ i = .int .i64 m ∧ Gr w5 wr) (fun i _ => n.props.length - (intOf i).toNat)
      case atStart => exact ⟨0, Nat.zero_le _, rfl, by rw [hw5]; exact (Gr.refl _).alloc _⟩
      case round =>
        clear hw5
        obtain ⟨m, hm, rfl, hg⟩ := hrel
        have HJ := Lib.hid hg
        clear hg
        by_cases hml : m < n.props.length
        · obtain ⟨b2, o2, rfl, d0, d1, l0, l1⟩ := prps_at (HPS.out.gr RPrp.mono HJ.out) m hml
          have v256 := NL.out.2 _ (List.getElem_mem hml)
          have hh2 := has_of_cell d0
          obtain ⟨q, hq⟩ : ∃ q, n.props[m] = q := ⟨_, rfl⟩
          rw [hq] at d0 d1 v256
          clear hq l0 l1
          go_wp2_with fail
          go_roundw
          case rel => exact ⟨m + 1, by omega, by go_num, HJ.out.alloc _⟩
          case measure => simp [intOf]; omega
        · go_wp2_with fail
          go_roundw
          case rel => exact ⟨k + 1, by omega, by go_num, HG.out.trans HJ.out⟩
          case measure => simp [intOf]; omega
    · go_wp2_with fail
      go_ret
      exact ⟨ret_bool (by simp), HG.out⟩
/-! names. -/
theorem VT.hdr {ts : Tr} (h : VT ts) {k : Nat} (hk : k < ts.length) : (k = 0 ∧ ts[k].parent = -1 ∧ ts[k].name = []) ∨ (0 < k ∧ 0 ≤ ts[k].parent ∧ ts[k].parent < k ∧ nameOk ts[k].name = true) := by
  by_cases h0 : k = 0
  · subst h0
    have := h.root
    rw [nd_get hk] at this
    exact .inl ⟨rfl, this⟩
  · have h1 := h.par (show 0 < k by omega) hk
    have h2 := h.shp.par k (by omega) hk
    have h3 := (h.name (show 0 < k by omega) hk).1
    unfold nmT at h3
    rw [nd_get hk] at h1 h3
    exact .inr ⟨by omega, by omega, by omega, h3⟩
theorem names_ok (ts : Tr) (a : Option Addr) (cap : Nat) (w : World) (h : SlOf 3 RNod w a ts) (hv : VT ts) :
    Calls Tryz.prog 87 #[.agg #[.slice a ts.length cap]] w (Grows w (.bool true)) := by
  have H := Lib.hid h
  have HV := Lib.hid hv
  have l1 := hv.pos
  have l2 := hv.few
  clear h hv
  go_enter Tryz.func87, Tryz.ntmps87
  go_wp2_with fail
  go_loopw [10] (fun i wr => ∃ k : Nat, k ≤ ts.length ∧ i = .int .i64 k ∧ Gr w wr) (fun i _ => ts.length - (intOf i).toNat)
  case atStart => exact ⟨0, Nat.zero_le _, rfl, (Gr.refl _).alloc _⟩
  case round =>
    obtain ⟨k, hk, rfl, hg⟩ := hrel
    have HG := Lib.hid hg
    clear hg
    by_cases hlt : k < ts.length
    · obtain ⟨b, o, pa, pc, rfl, c0, c1, c2, hps, hpf, hw, hnl⟩ := nods_at (H.out.gr RNod.mono HG.out) k hlt
      have PP := Lib.hid (HV.out.props hlt)
      have HD := HV.out.hdr hlt
      obtain ⟨n, hn⟩ : ∃ n, ts[k] = n := ⟨_, rfl⟩
      rw [hn] at c0 c1 c2 hps PP HD
      have HPS := Lib.hid hps
      have n24 := PP.out.len
      have hh := has_of_cell c0
      clear hn hps hpf hw hnl
      rcases HD with ⟨k0, q1, q2⟩ | ⟨k0, q1, q2, q3⟩
      case' inl =>
        have kb : ((k : Int) == 0) = true := by simp [k0]
        have kg : decide (0 < k) = false := by simp [k0]
        rw [q1] at c0
        rw [q2] at c1
        clear k0 q1 q2
        go_wp2_with fail
      case' inr =>
        have kb : ((k : Int) == 0) = false := by rw [beq_eq_false_iff_ne]; omega
        have kg : decide (0 < k) = true := by simpa using k0
        have p0 : decide (n.parent < 0) = false := by simp; omega
        have p1 : decide ((k : Int) ≤ n.parent) = false := by simp; omega
        have Q3 := Lib.hid q3
        clear k0 q1 q2 q3
        go_wp2_with (go_at_call 91; refine (refName_any _ _).mono ?_; rintro e w' ⟨rfl, rfl⟩; rw [Q3.out])
      all_goals
        obtain ⟨w5, hw5⟩ : ∃ wo, wo = wr := ⟨_, rfl⟩
        rw [← hw5] at HG HPS
        go_loopw [51] (fun i wr => ∃ m : Nat, m ≤ n.props.length ∧ i = .int .i64 m ∧ Gr w5 wr) (fun i _ => n.props.length - (intOf i).toNat)
        case atStart => exact ⟨0, Nat.zero_le _, rfl, by rw [hw5]; exact (Gr.refl _).alloc _⟩
        case round =>
          clear hw5
          obtain ⟨m, hm, rfl, hg⟩ := hrel
          have HJ := Lib.hid hg
          clear hg
          by_cases hml : m < n.props.length
          · obtain ⟨b2, o2, rfl, d0, d1, l0, l1⟩ := prps_at (HPS.out.gr RPrp.mono HJ.out) m hml
            have PO := Lib.hid (PP.out.prop _ (List.getElem_mem hml)).1
            have hh2 := has_of_cell d0
            obtain ⟨q, hq⟩ : ∃ q, n.props[m] = q := ⟨_, rfl⟩
            rw [hq] at d0 d1 PO
            clear hq l0 l1
            go_wp2_with (go_at_call 54; refine (refProp_ok _ PO.out _).mono ?_; rintro e w' ⟨rfl, rfl⟩)
            go_roundw
            case rel => exact ⟨m + 1, by omega, by go_num, HJ.out.alloc _⟩
            case measure => simp [intOf]; omega
          · go_wp2_with fail
            go_roundw
            case rel => exact ⟨k + 1, by omega, by go_num, HG.out.trans HJ.out⟩
            case measure => simp [intOf]; omega
    · go_wp2_with fail
      go_ret
      exact ⟨ret_bool (by simp), HG.out⟩
def hdrN (i : Nat) (n : Nod) : Bool := if i = 0 then decide (n.parent = -1) && decide (n.name = []) else decide (0 ≤ n.parent) && decide (n.parent < i) && nameOk n.name
theorem nodNm_eq (i : Nat) (n : Nod) : nodNm i n = (hdrN i n && n.props.all (fun p => propOk p.name)) := rfl
theorem named_iff {ts : Tr} : namedT ts = true ↔ ∀ j (h : j < ts.length), nodNm j ts[j] = true := by
  unfold namedT
  rw [List.all_eq_true]
  constructor
  · intro h j hj
    have := h j (List.mem_range.2 hj)
    rwa [List.getD_eq_getElem?_getD, List.getElem?_eq_getElem hj] at this
  · intro h j hj
    rw [List.mem_range] at hj
    rw [List.getD_eq_getElem?_getD, List.getElem?_eq_getElem hj]
    exact h j hj
theorem named_false {ts : Tr} {k : Nat} (h : k < ts.length) (q : nodNm k ts[k] = false) : false = namedT ts := by
  symm; rw [← Bool.not_eq_true, named_iff]; intro h'; rw [h' k h] at q; cases q
theorem named_hdr {ts : Tr} {k : Nat} (h : k < ts.length) (q : hdrN k ts[k] = false) : false = namedT ts := named_false h (by rw [nodNm_eq, q]; rfl)
theorem named_prp {ts : Tr} {k : Nat} (h : k < ts.length) {m : Nat} (hm : m < ts[k].props.length) (q : propOk ts[k].props[m].name = false) : false = namedT ts :=
  named_false h (by rw [nodNm_eq, Bool.and_eq_false_iff]; right; rw [List.all_eq_false]; exact ⟨_, List.getElem_mem hm, by simp [q]⟩)
theorem named_any (ts : Tr) (a : Option Addr) (cap : Nat) (w : World) (h : SlOf 3 RNod w a ts) (hf : ts.length ≤ 1000000) :
    Calls Tryz.prog 70 #[.agg #[.slice a ts.length cap]] w (Grows w (.bool (namedT ts))) := by
  have H := Lib.hid h
  clear h
  go_enter Tryz.func70, Tryz.ntmps70
  go_wp2_with fail
  go_loopw [10] (fun i wr => ∃ k : Nat, k ≤ ts.length ∧ i = .int .i64 k ∧ (∀ j (hj : j < k) (hjl : j < ts.length), nodNm j ts[j] = true) ∧ Gr w wr) (fun i _ => ts.length - (intOf i).toNat)
  case atStart => exact ⟨0, Nat.zero_le _, rfl, fun j h => absurd h (by omega), (Gr.refl _).alloc _⟩
  case round =>
    obtain ⟨k, hk, rfl, hall, hg⟩ := hrel
    have HA := Lib.hid hall
    have HG := Lib.hid hg
    clear hall hg
    by_cases hlt : k < ts.length
    · obtain ⟨b, o, pa, pc, rfl, c0, c1, c2, hps, hpf, hw, hnl⟩ := nods_at (H.out.gr RNod.mono HG.out) k hlt
      obtain ⟨n, hn⟩ : ∃ n, n = ts[k] := ⟨_, rfl⟩
      have HN := Lib.hid hn
      rw [← hn] at c0 c1 c2 hps hpf hw hnl
      clear hn
      have hh := has_of_cell c0
      by_cases hq : hdrN k n = true
      · have HPS := Lib.hid hps
        have HQ := Lib.hid hq
        unfold Fit at hpf
        clear hps
        by_cases k0 : k = 0
        case' pos =>
          have hq1 : n.parent = -1 ∧ n.name = [] := by simpa [hdrN, k0] using hq
          have kb : ((k : Int) == 0) = true := by simp [k0]
          have kg : decide (0 < k) = false := by simp [k0]
          have K0 := Lib.hid k0
          clear k0
          rw [hq1.1] at c0
          rw [hq1.2] at c1
          clear hq hq1
          go_wp2_with fail
        case' neg =>
          have hq1 : 0 ≤ n.parent ∧ n.parent < k ∧ nameOk n.name = true := by simpa [hdrN, k0, and_assoc] using hq
          have kb : ((k : Int) == 0) = false := by simp [k0]
          have kg : decide (0 < k) = true := by simp; omega
          have p0 : decide (n.parent < 0) = false := by simp; omega
          have p1 : decide ((k : Int) ≤ n.parent) = false := by simp; omega
          have p2 := hq1.2.2
          have K0 := Lib.hid k0
          clear k0 hq1 hq
          go_wp2_with (go_at_call 101; refine (tokenName_any _ _).mono ?_; rintro e w' ⟨rfl, rfl⟩)
        all_goals
          obtain ⟨w5, hw5⟩ : ∃ wo, wo = wr := ⟨_, rfl⟩
          rw [← hw5] at HG HPS
          go_loopw [51] (fun i wr => ∃ m : Nat, m ≤ n.props.length ∧ i = .int .i64 m ∧ (∀ j (hj : j < m) (hjl : j < n.props.length), propOk n.props[j].name = true) ∧ Gr w5 wr) (fun i _ => n.props.length - (intOf i).toNat)
          case atStart => exact ⟨0, Nat.zero_le _, rfl, fun j h => absurd h (by omega), by rw [hw5]; exact (Gr.refl _).alloc _⟩
          case round =>
            clear hw5
            obtain ⟨m, hm, rfl, hal, hg⟩ := hrel
            have HB := Lib.hid hal
            have HJ := Lib.hid hg
            clear hal hg
            by_cases hml : m < n.props.length
            · obtain ⟨b2, o2, rfl, d0, d1, l0, l1⟩ := prps_at (HPS.out.gr RPrp.mono HJ.out) m hml
              have hh2 := has_of_cell d0
              by_cases hv : propOk n.props[m].name = true
              · go_wp2_with (go_at_call 102; refine (tokenProp_any _ _ l0).mono ?_; rintro e w' ⟨rfl, rfl⟩)
                go_roundw
                case rel =>
                  refine ⟨m + 1, by omega, by go_num, fun j hj hjl => ?_, HJ.out.alloc _⟩
                  by_cases e : j = m
                  · subst e; exact hv
                  · exact HB.out j (by omega) hjl
                case measure => simp [intOf]; omega
              · rw [Bool.not_eq_true] at hv
                go_wp2_with (go_at_call 102; refine (tokenProp_any _ _ l0).mono ?_; rintro e w' ⟨rfl, rfl⟩)
                go_ret
                exact ⟨ret_bool (by have := HN.out; subst this; exact named_prp hlt hml hv), (HG.out.trans HJ.out).alloc _⟩
            · go_wp2_with fail
              go_roundw
              case rel =>
                refine ⟨k + 1, by omega, by go_num, fun j hj hjl => ?_, HG.out.trans HJ.out⟩
                by_cases e : j = k
                · subst e
                  rw [← HN.out, nodNm_eq, HQ.out, Bool.true_and, List.all_eq_true]
                  intro x hx
                  obtain ⟨j, hj, rfl⟩ := List.getElem_of_mem hx
                  exact HB.out j (by omega) hj
                · exact HA.out j (by omega) hjl
              case measure => simp [intOf]; omega
      · rw [Bool.not_eq_true] at hq
        have F : Hid (false = namedT ts) := Lib.hid (named_hdr hlt (by rw [← HN.out]; exact hq))
        by_cases k0 : k = 0
        · have hq1 : n.parent = -1 → ¬ n.name = [] := by simpa [hdrN, k0] using hq
          have kb : ((k : Int) == 0) = true := by simp [k0]
          have K0 := Lib.hid k0
          by_cases hpar : n.parent = -1
          · have hne : n.name.isEmpty = false := by have := hq1 hpar; cases hz : n.name with | nil => exact absurd hz this | cons => rfl
            rw [hpar] at c0
            clear k0 hq hq1 hpar hps
            go_wp2_with fail
            go_ret
            exact ⟨ret_bool F.out, HG.out.alloc _⟩
          · have hpb : (n.parent == -1) = false := by simp [hpar]
            clear k0 hq hq1 hps
            go_wp2_with fail
            go_ret
            exact ⟨ret_bool F.out, HG.out.alloc _⟩
        · have hq1 : 0 ≤ n.parent → n.parent < k → nameOk n.name = false := by simpa [hdrN, k0] using hq
          have kb : ((k : Int) == 0) = false := by simp [k0]
          have kg : decide (0 < k) = true := by simp; omega
          clear hq
          by_cases q0 : n.parent < 0
          · have p0 : decide (n.parent < 0) = true := by simp; omega
            clear hps q0 k0
            go_wp2_with fail
            go_ret
            exact ⟨ret_bool F.out, HG.out.alloc _⟩
          · have p0 : decide (n.parent < 0) = false := by simp; omega
            by_cases q1 : (k : Int) ≤ n.parent
            · have p1 : decide ((k : Int) ≤ n.parent) = true := by simp; omega
              clear hps q0 q1 k0
              go_wp2_with fail
              go_ret
              exact ⟨ret_bool F.out, HG.out.alloc _⟩
            · have p1 : decide ((k : Int) ≤ n.parent) = false := by simp; omega
              have p2 := hq1 (by omega) (by omega)
              clear hps q0 q1 k0 hq1
              go_wp2_with (go_at_call 101; refine (tokenName_any _ _).mono ?_; rintro e w' ⟨rfl, rfl⟩)
              go_ret
              exact ⟨ret_bool F.out, HG.out.alloc _⟩
    · go_wp2_with fail
      go_ret
      exact ⟨ret_bool (named_iff.2 fun j hj => HA.out j (by omega) hj).symm, HG.out⟩
end Go.Proofs.YtbpkndiecomggaaGreatDoor

/- Lemmas and contracts for the proof of PrintDiffers (several texts in one, printed by wip/tools/pack.py): TeK VbC. -/
import Derived.Test.YtgembejpiecfcaaGreatDoorPd1pf
import Derived.Laws.BitsAllLaws
import Derived.Laws.BitsLemmas
import Derived.Test.YtgembejpiecfcaaGreatDoorPd1pb
import Derived.Test.YtgembejpiecfcaaGreatDoorPd1pe
import Derived.Test.YtgembejpiecfcaaGreatDoorPd1pc
import Derived.ArgAppend
import Derived.RangeFuncBox
set_option maxRecDepth 100000
set_option maxHeartbeats 16000000
set_option linter.unusedVariables false
set_option linter.unusedSimpArgs false
namespace Go.Proofs.YtgembejpiecfcaaGreatDoor
open Go.RowKit
open Classical
theorem infoInt : (Tryz.prog.info? 3).map (fun i => (i.zero, i.size, i.bytes)) = some (some (.int .i64 0), 1, 8) := by kernel_rfl
theorem wraps_i64s (n : Int) (h₀ : 0 ≤ n) (h₁ : n < 2 ^ 32) : IntKind.i64.wrap n = n := by rw [IntKind.wrap_i64]; omega
theorem or64 (a b : Nat) (i : Nat) (ha : a % 2 ^ i = 0) (h : b < 2 ^ i) (ha2 : a < 4294967296) (hb : b < 4294967296) : bits .or .i64 (a : Int) (b : Int) = ((a + b : Nat) : Int) := by
  have e := bits_join .i64 32 (by decide) wraps_i64s i (a : Int) (b : Int) (by omega) (by exact_mod_cast ha) (by omega) (by omega) (by exact_mod_cast h) (by omega)
  rw [e]; omega
theorem sh64 (a m : Nat) (h : a * m < 4294967296) : IntKind.i64.wrap ((a : Int) * (m : Int)) = (a : Int) * (m : Int) := by
  rw [← Int.natCast_mul]; exact wraps_i64s _ (by omega) (by omega)
def cl6F (wr wb : World) (x : Value) (zs : List Int) (c0 c1 c2 c3 : UInt8) (r : St) (t4 t17 t18 t19 t20 t21 t22 t23 t24 t25 t26 t27 t28 t29 t30 t31 t32 t33 t34 t35 t36 t37 : Value) (d : Array Bool) (w : World) : Prop :=
  (Gr wb w ∧ (d.getD 21 false = false → t4 = x) ∧ (d.getD 20 false = false → w.ownsRow wb.heap.size 3 1 x zs.length (nums zs))) ∧ (d.getD 0 false = true → t17 = x) ∧
  (d.getD 1 false = true → t18 = .string (bs (c0 :: c1 :: c2 :: c3 :: r))) ∧
  (d.getD 2 false = true → t19 = .int .u8 (c0.toNat : Int)) ∧
  (d.getD 3 false = true → t20 = .int .i64 (c0.toNat : Int)) ∧
  (d.getD 4 false = true → t21 = .int .i64 ((c0.toNat : Int) * 16777216)) ∧
  (d.getD 5 false = true → t22 = .string (bs (c0 :: c1 :: c2 :: c3 :: r))) ∧
  (d.getD 6 false = true → t23 = .int .u8 (c1.toNat : Int)) ∧
  (d.getD 7 false = true → t24 = .int .i64 (c1.toNat : Int)) ∧
  (d.getD 8 false = true → t25 = .int .i64 ((c1.toNat : Int) * 65536)) ∧
  (d.getD 9 false = true → t26 = .int .i64 ((c0.toNat : Int) * 16777216 + (c1.toNat : Int) * 65536)) ∧
  (d.getD 10 false = true → t27 = .string (bs (c0 :: c1 :: c2 :: c3 :: r))) ∧
  (d.getD 11 false = true → t28 = .int .u8 (c2.toNat : Int)) ∧
  (d.getD 12 false = true → t29 = .int .i64 (c2.toNat : Int)) ∧
  (d.getD 13 false = true → t30 = .int .i64 ((c2.toNat : Int) * 256)) ∧
  (d.getD 14 false = true → t31 = .int .i64 ((c0.toNat : Int) * 16777216 + (c1.toNat : Int) * 65536 + (c2.toNat : Int) * 256)) ∧
  (d.getD 15 false = true → t32 = .string (bs (c0 :: c1 :: c2 :: c3 :: r))) ∧
  (d.getD 16 false = true → t33 = .int .u8 (c3.toNat : Int)) ∧
  (d.getD 17 false = true → t34 = .int .i64 (c3.toNat : Int)) ∧
  (d.getD 18 false = true → t35 = .int .i64 ((num4 c0 c1 c2 c3 : Nat) : Int)) ∧
  (d.getD 19 false = true → ∃ B, t36 = .slice (some ⟨B, 0, none⟩) 1 1 ∧ (d.getD 20 false = false → Row w B 3 (nums [((num4 c0 c1 c2 c3 : Nat) : Int)]))) ∧
  (d.getD 20 false = true → (d.getD 0 false = true ∧ d.getD 19 false = true) ∧ w.ownsRow wb.heap.size 3 1 t37 (zs.length + 1) (nums (zs ++ [((num4 c0 c1 c2 c3 : Nat) : Int)]))) ∧
  (d.getD 21 false = true → d.getD 20 false = true ∧ t4 = t37)
def cl6A (c0 c1 c2 c3 : UInt8) (r : St) (t4 t17 t18 t19 t20 t21 t22 t23 t24 t25 t26 t27 t28 t29 t30 t31 t32 t33 t34 t35 t36 t37 s1 s2 s3 s5 s6 s7 s8 s9 s10 s11 s12 s13 s14 s15 s16 s38 : Value) : Act := { tmps := #[.string (bs (c0 :: c1 :: c2 :: c3 :: r)), s1, s2, s3, t4, s5, s6, s7, s8, s9, s10, s11, s12, s13, s14, s15, s16, t17, t18, t19, t20, t21, t22, t23, t24, t25, t26, t27, t28, t29, t30, t31, t32, t33, t34, t35, t36, t37, s38], defers := [] }
theorem cl6 {Q : Exit → Act → World → Prop} {wr wb : World} {x : Value} {zs : List Int} {c0 c1 c2 c3 : UInt8} {r : St}  {s1 s2 s3 s5 s6 s7 s8 s9 s10 s11 s12 s13 s14 s15 s16 s17 s18 s19 s20 s21 s22 s23 s24 s25 s26 s27 s28 s29 s30 s31 s32 s33 s34 s35 s36 s37 s38 : Value} (h : wr.ownsRow wb.heap.size 3 1 x zs.length (nums zs)) (hg0 : Gr wb wr) (hn2 : zs.length ≤ 1000000) (hr : r.length ≤ 1000000)
    (h' : ∀ t4 t17 t18 t19 t20 t21 t22 t23 t24 t25 t26 t27 t28 t29 t30 t31 t32 t33 t34 t35 t36 t37 wx, wx.ownsRow wb.heap.size 3 1 t4 (zs.length + 1) (nums (zs ++ [((num4 c0 c1 c2 c3 : Nat) : Int)])) → Gr wb wx → Q .normal (cl6A c0 c1 c2 c3 r t4 t17 t18 t19 t20 t21 t22 t23 t24 t25 t26 t27 t28 t29 t30 t31 t32 t33 t34 t35 t36 t37 s1 s2 s3 s5 s6 s7 s8 s9 s10 s11 s12 s13 s14 s15 s16 s38) wx) :
    (Code.region 6 (regIn 6 Tryz.f19) true).wp Tryz.prog Q { tmps := #[.string (bs (c0 :: c1 :: c2 :: c3 :: r)), s1, s2, s3, x, s5, s6, s7, s8, s9, s10, s11, s12, s13, s14, s15, s16, s17, s18, s19, s20, s21, s22, s23, s24, s25, s26, s27, s28, s29, s30, s31, s32, s33, s34, s35, s36, s37, s38], defers := [] } wr := by
  have H := PLift.up h
  have b0 : c0.toNat < 256 := c0.toNat_lt
  have b1 : c1.toNat < 256 := c1.toNat_lt
  have b2 : c2.toNat < 256 := c2.toNat_lt
  have b3 : c3.toNat < 256 := c3.toNat_lt
  have w0 : IntKind.i64.wrap (c0.toNat : Int) = (c0.toNat : Int) := wraps_i64s _ (by omega) (by omega)
  have w1 : IntKind.i64.wrap (c1.toNat : Int) = (c1.toNat : Int) := wraps_i64s _ (by omega) (by omega)
  have w2 : IntKind.i64.wrap (c2.toNat : Int) = (c2.toNat : Int) := wraps_i64s _ (by omega) (by omega)
  have w3 : IntKind.i64.wrap (c3.toNat : Int) = (c3.toNat : Int) := wraps_i64s _ (by omega) (by omega)
  have v0 : IntKind.i64.wrap ((c0.toNat : Int) * 16777216) = (c0.toNat : Int) * 16777216 := sh64 _ 16777216 (by omega)
  have v1 : IntKind.i64.wrap ((c1.toNat : Int) * 65536) = (c1.toNat : Int) * 65536 := sh64 _ 65536 (by omega)
  have v2 : IntKind.i64.wrap ((c2.toNat : Int) * 256) = (c2.toNat : Int) * 256 := sh64 _ 256 (by omega)
  have o1 : bits BinOp.or IntKind.i64 ((c0.toNat : Int) * 16777216) ((c1.toNat : Int) * 65536) = (c0.toNat : Int) * 16777216 + (c1.toNat : Int) * 65536 := by
    rw [show (c0.toNat : Int) * 16777216 = ((c0.toNat * 16777216 : Nat) : Int) by omega, show (c1.toNat : Int) * 65536 = ((c1.toNat * 65536 : Nat) : Int) by omega, or64 _ _ 24 (by omega) (by omega) (by omega) (by omega)]
    omega
  have o2 : bits BinOp.or IntKind.i64 ((c0.toNat : Int) * 16777216 + (c1.toNat : Int) * 65536) ((c2.toNat : Int) * 256) = (c0.toNat : Int) * 16777216 + (c1.toNat : Int) * 65536 + (c2.toNat : Int) * 256 := by
    rw [show (c0.toNat : Int) * 16777216 + (c1.toNat : Int) * 65536 = ((c0.toNat * 16777216 + c1.toNat * 65536 : Nat) : Int) by omega, show (c2.toNat : Int) * 256 = ((c2.toNat * 256 : Nat) : Int) by omega, or64 _ _ 16 (by omega) (by omega) (by omega) (by omega)]
    omega
  have o3 : bits BinOp.or IntKind.i64 ((c0.toNat : Int) * 16777216 + (c1.toNat : Int) * 65536 + (c2.toNat : Int) * 256) (c3.toNat : Int) = ((num4 c0 c1 c2 c3 : Nat) : Int) := by
    rw [show (c0.toNat : Int) * 16777216 + (c1.toNat : Int) * 65536 + (c2.toNat : Int) * 256 = ((c0.toNat * 16777216 + c1.toNat * 65536 + c2.toNat * 256 : Nat) : Int) by omega, or64 _ _ 8 (by omega) (by omega) (by omega) (by omega)]
    rfl
  have l0 : (0 : Int) < (r.length : Int) + 1 + 1 + 1 + 1 := by omega
  have l1 : (1 : Int) < (r.length : Int) + 1 + 1 + 1 + 1 := by omega
  have l2 : (2 : Int) < (r.length : Int) + 1 + 1 + 1 + 1 := by omega
  have l3 : (3 : Int) < (r.length : Int) + 1 + 1 + 1 + 1 := by omega
  clear h
  obtain ⟨j0, hj, hy0, hy1, hy2⟩ := info_parts infoInt
  simp only [regIn, Tryz.f19, regOps, Option.bind_some, Option.getD_some, Nat.beq, cond_true, cond_false]
  refine wp_region_steps (fun done a w => ∃ t4 t17 t18 t19 t20 t21 t22 t23 t24 t25 t26 t27 t28 t29 t30 t31 t32 t33 t34 t35 t36 t37, a = cl6A c0 c1 c2 c3 r t4 t17 t18 t19 t20 t21 t22 t23 t24 t25 t26 t27 t28 t29 t30 t31 t32 t33 t34 t35 t36 t37 s1 s2 s3 s5 s6 s7 s8 s9 s10 s11 s12 s13 s14 s15 s16 s38 ∧ cl6F wr wb x zs c0 c1 c2 c3 r t4 t17 t18 t19 t20 t21 t22 t23 t24 t25 t26 t27 t28 t29 t30 t31 t32 t33 t34 t35 t36 t37 done w) (by kernel_rfl) (by kernel_rfl) ?_ ⟨?_, ?_, ?_, ?_, ?_, ?_, ?_, ?_, ?_, ?_, ?_, ?_, ?_, ?_, ?_, ?_, ?_, ?_, ?_, ?_, ?_, ?_, trivial⟩ ?_
  · exact ⟨x, s17, s18, s19, s20, s21, s22, s23, s24, s25, s26, s27, s28, s29, s30, s31, s32, s33, s34, s35, s36, s37, rfl, ⟨hg0.drew, fun _ => rfl, fun _ => H.down⟩, fun q => absurd q (by decide), fun q => absurd q (by decide), fun q => absurd q (by decide), fun q => absurd q (by decide), fun q => absurd q (by decide), fun q => absurd q (by decide), fun q => absurd q (by decide), fun q => absurd q (by decide), fun q => absurd q (by decide), fun q => absurd q (by decide), fun q => absurd q (by decide), fun q => absurd q (by decide), fun q => absurd q (by decide), fun q => absurd q (by decide), fun q => absurd q (by decide), fun q => absurd q (by decide), fun q => absurd q (by decide), fun q => absurd q (by decide), fun q => absurd q (by decide), fun q => absurd q (by decide), fun q => absurd q (by decide), fun q => absurd q (by decide)⟩
  · rintro done a w hsz hnot hdep ⟨t4, t17, t18, t19, t20, t21, t22, t23, t24, t25, t26, t27, t28, t29, t30, t31, t32, t33, t34, t35, t36, t37, rfl, ⟨gw, gx⟩, f0, f1, f2, f3, f4, f5, f6, f7, f8, f9, f10, f11, f12, f13, f14, f15, f16, f17, f18, f19, f20, f21⟩ K hK
    have hn : ¬ done.getD 0 false = true := by rw [getD_both hnot]; decide
    have n21 : done.getD 21 false = false := by cases hz : done.getD 21 false with | false => rfl | true => exact absurd (f20 (f21 hz).1).1.1 hn
    obtain rfl := gx.1 n21
    have HK := PLift.up hK
    clear hK 
    simp only [cl6A]
    go_simp
    have gg : Gr w w := Gr.refl _
    refine HK.down _ _ ⟨_, _, _, _, _, _, _, _, _, _, _, _, _, _, _, _, _, _, _, _, _, _, rfl, ⟨gw, fun q => gx.1 (by rw [getD_set_ne false (by decide)] at q; exact q), fun q => Gr.owns (gx.2 (by rw [getD_set_ne false (by decide)] at q; exact q)) gg⟩, ?_, kp f1, kp f2, kp f3, kp f4, kp f5, kp f6, kp f7, kp f8, kp f9, kp f10, kp f11, kp f12, kp f13, kp f14, kp f15, kp f16, kp f17, kp f18, fun q => (let ⟨B, e, h2⟩ := f19 (done_old q (by decide)); ⟨B, e, fun q2 => (h2 (by rw [getD_set_ne false (by decide)] at q2; exact q2)).gr gg⟩), fun q => absurd (f20 (done_old q (by decide))).1.1 hn, fun q => ⟨getD_set_true (f21 (done_old q (by decide))).1, (f21 (done_old q (by decide))).2⟩⟩
    exact fun _ => rfl
  · rintro done a w hsz hnot hdep ⟨t4, t17, t18, t19, t20, t21, t22, t23, t24, t25, t26, t27, t28, t29, t30, t31, t32, t33, t34, t35, t36, t37, rfl, ⟨gw, gx⟩, f0, f1, f2, f3, f4, f5, f6, f7, f8, f9, f10, f11, f12, f13, f14, f15, f16, f17, f18, f19, f20, f21⟩ K hK
    have hn : ¬ done.getD 1 false = true := by rw [getD_both hnot]; decide
    have HK := PLift.up hK
    clear hK 
    simp only [cl6A]
    go_simp
    have gg : Gr w w := Gr.refl _
    refine HK.down _ _ ⟨_, _, _, _, _, _, _, _, _, _, _, _, _, _, _, _, _, _, _, _, _, _, rfl, ⟨gw, fun q => gx.1 (by rw [getD_set_ne false (by decide)] at q; exact q), fun q => Gr.owns (gx.2 (by rw [getD_set_ne false (by decide)] at q; exact q)) gg⟩, kp f0, fun _ => rfl, kp f2, kp f3, kp f4, kp f5, kp f6, kp f7, kp f8, kp f9, kp f10, kp f11, kp f12, kp f13, kp f14, kp f15, kp f16, kp f17, kp f18, fun q => (let ⟨B, e, h2⟩ := f19 (done_old q (by decide)); ⟨B, e, fun q2 => (h2 (by rw [getD_set_ne false (by decide)] at q2; exact q2)).gr gg⟩), fun q => ⟨⟨getD_set_true (f20 (done_old q (by decide))).1.1, getD_set_true (f20 (done_old q (by decide))).1.2⟩, Gr.owns (f20 (done_old q (by decide))).2 gg⟩, fun q => ⟨getD_set_true (f21 (done_old q (by decide))).1, (f21 (done_old q (by decide))).2⟩⟩
  · rintro done a w hsz hnot hdep ⟨t4, t17, t18, t19, t20, t21, t22, t23, t24, t25, t26, t27, t28, t29, t30, t31, t32, t33, t34, t35, t36, t37, rfl, ⟨gw, gx⟩, f0, f1, f2, f3, f4, f5, f6, f7, f8, f9, f10, f11, f12, f13, f14, f15, f16, f17, f18, f19, f20, f21⟩ K hK
    have hn : ¬ done.getD 2 false = true := by rw [getD_both hnot]; decide
    have d1 := hdep 1 (by kernel_rfl)
    obtain rfl := f1 d1
    have HK := PLift.up hK
    clear hK d1
    simp only [cl6A]
    go_simp
    have gg : Gr w w := Gr.refl _
    refine HK.down _ _ ⟨_, _, _, _, _, _, _, _, _, _, _, _, _, _, _, _, _, _, _, _, _, _, rfl, ⟨gw, fun q => gx.1 (by rw [getD_set_ne false (by decide)] at q; exact q), fun q => Gr.owns (gx.2 (by rw [getD_set_ne false (by decide)] at q; exact q)) gg⟩, kp f0, kp f1, fun _ => rfl, kp f3, kp f4, kp f5, kp f6, kp f7, kp f8, kp f9, kp f10, kp f11, kp f12, kp f13, kp f14, kp f15, kp f16, kp f17, kp f18, fun q => (let ⟨B, e, h2⟩ := f19 (done_old q (by decide)); ⟨B, e, fun q2 => (h2 (by rw [getD_set_ne false (by decide)] at q2; exact q2)).gr gg⟩), fun q => ⟨⟨getD_set_true (f20 (done_old q (by decide))).1.1, getD_set_true (f20 (done_old q (by decide))).1.2⟩, Gr.owns (f20 (done_old q (by decide))).2 gg⟩, fun q => ⟨getD_set_true (f21 (done_old q (by decide))).1, (f21 (done_old q (by decide))).2⟩⟩
  · rintro done a w hsz hnot hdep ⟨t4, t17, t18, t19, t20, t21, t22, t23, t24, t25, t26, t27, t28, t29, t30, t31, t32, t33, t34, t35, t36, t37, rfl, ⟨gw, gx⟩, f0, f1, f2, f3, f4, f5, f6, f7, f8, f9, f10, f11, f12, f13, f14, f15, f16, f17, f18, f19, f20, f21⟩ K hK
    have hn : ¬ done.getD 3 false = true := by rw [getD_both hnot]; decide
    have d2 := hdep 2 (by kernel_rfl)
    obtain rfl := f2 d2
    have HK := PLift.up hK
    clear hK d2
    simp only [cl6A]
    go_simp
    have gg : Gr w w := Gr.refl _
    refine HK.down _ _ ⟨_, _, _, _, _, _, _, _, _, _, _, _, _, _, _, _, _, _, _, _, _, _, rfl, ⟨gw, fun q => gx.1 (by rw [getD_set_ne false (by decide)] at q; exact q), fun q => Gr.owns (gx.2 (by rw [getD_set_ne false (by decide)] at q; exact q)) gg⟩, kp f0, kp f1, kp f2, fun _ => rfl, kp f4, kp f5, kp f6, kp f7, kp f8, kp f9, kp f10, kp f11, kp f12, kp f13, kp f14, kp f15, kp f16, kp f17, kp f18, fun q => (let ⟨B, e, h2⟩ := f19 (done_old q (by decide)); ⟨B, e, fun q2 => (h2 (by rw [getD_set_ne false (by decide)] at q2; exact q2)).gr gg⟩), fun q => ⟨⟨getD_set_true (f20 (done_old q (by decide))).1.1, getD_set_true (f20 (done_old q (by decide))).1.2⟩, Gr.owns (f20 (done_old q (by decide))).2 gg⟩, fun q => ⟨getD_set_true (f21 (done_old q (by decide))).1, (f21 (done_old q (by decide))).2⟩⟩
  · rintro done a w hsz hnot hdep ⟨t4, t17, t18, t19, t20, t21, t22, t23, t24, t25, t26, t27, t28, t29, t30, t31, t32, t33, t34, t35, t36, t37, rfl, ⟨gw, gx⟩, f0, f1, f2, f3, f4, f5, f6, f7, f8, f9, f10, f11, f12, f13, f14, f15, f16, f17, f18, f19, f20, f21⟩ K hK
    have hn : ¬ done.getD 4 false = true := by rw [getD_both hnot]; decide
    have d3 := hdep 3 (by kernel_rfl)
    obtain rfl := f3 d3
    have HK := PLift.up hK
    clear hK d3
    simp only [cl6A]
    go_simp
    have gg : Gr w w := Gr.refl _
    refine HK.down _ _ ⟨_, _, _, _, _, _, _, _, _, _, _, _, _, _, _, _, _, _, _, _, _, _, rfl, ⟨gw, fun q => gx.1 (by rw [getD_set_ne false (by decide)] at q; exact q), fun q => Gr.owns (gx.2 (by rw [getD_set_ne false (by decide)] at q; exact q)) gg⟩, kp f0, kp f1, kp f2, kp f3, fun _ => rfl, kp f5, kp f6, kp f7, kp f8, kp f9, kp f10, kp f11, kp f12, kp f13, kp f14, kp f15, kp f16, kp f17, kp f18, fun q => (let ⟨B, e, h2⟩ := f19 (done_old q (by decide)); ⟨B, e, fun q2 => (h2 (by rw [getD_set_ne false (by decide)] at q2; exact q2)).gr gg⟩), fun q => ⟨⟨getD_set_true (f20 (done_old q (by decide))).1.1, getD_set_true (f20 (done_old q (by decide))).1.2⟩, Gr.owns (f20 (done_old q (by decide))).2 gg⟩, fun q => ⟨getD_set_true (f21 (done_old q (by decide))).1, (f21 (done_old q (by decide))).2⟩⟩
  · rintro done a w hsz hnot hdep ⟨t4, t17, t18, t19, t20, t21, t22, t23, t24, t25, t26, t27, t28, t29, t30, t31, t32, t33, t34, t35, t36, t37, rfl, ⟨gw, gx⟩, f0, f1, f2, f3, f4, f5, f6, f7, f8, f9, f10, f11, f12, f13, f14, f15, f16, f17, f18, f19, f20, f21⟩ K hK
    have hn : ¬ done.getD 5 false = true := by rw [getD_both hnot]; decide
    have HK := PLift.up hK
    clear hK 
    simp only [cl6A]
    go_simp
    have gg : Gr w w := Gr.refl _
    refine HK.down _ _ ⟨_, _, _, _, _, _, _, _, _, _, _, _, _, _, _, _, _, _, _, _, _, _, rfl, ⟨gw, fun q => gx.1 (by rw [getD_set_ne false (by decide)] at q; exact q), fun q => Gr.owns (gx.2 (by rw [getD_set_ne false (by decide)] at q; exact q)) gg⟩, kp f0, kp f1, kp f2, kp f3, kp f4, fun _ => rfl, kp f6, kp f7, kp f8, kp f9, kp f10, kp f11, kp f12, kp f13, kp f14, kp f15, kp f16, kp f17, kp f18, fun q => (let ⟨B, e, h2⟩ := f19 (done_old q (by decide)); ⟨B, e, fun q2 => (h2 (by rw [getD_set_ne false (by decide)] at q2; exact q2)).gr gg⟩), fun q => ⟨⟨getD_set_true (f20 (done_old q (by decide))).1.1, getD_set_true (f20 (done_old q (by decide))).1.2⟩, Gr.owns (f20 (done_old q (by decide))).2 gg⟩, fun q => ⟨getD_set_true (f21 (done_old q (by decide))).1, (f21 (done_old q (by decide))).2⟩⟩
  · rintro done a w hsz hnot hdep ⟨t4, t17, t18, t19, t20, t21, t22, t23, t24, t25, t26, t27, t28, t29, t30, t31, t32, t33, t34, t35, t36, t37, rfl, ⟨gw, gx⟩, f0, f1, f2, f3, f4, f5, f6, f7, f8, f9, f10, f11, f12, f13, f14, f15, f16, f17, f18, f19, f20, f21⟩ K hK
    have hn : ¬ done.getD 6 false = true := by rw [getD_both hnot]; decide
    have d5 := hdep 5 (by kernel_rfl)
    obtain rfl := f5 d5
    have HK := PLift.up hK
    clear hK d5
    simp only [cl6A]
    go_simp
    have gg : Gr w w := Gr.refl _
    refine HK.down _ _ ⟨_, _, _, _, _, _, _, _, _, _, _, _, _, _, _, _, _, _, _, _, _, _, rfl, ⟨gw, fun q => gx.1 (by rw [getD_set_ne false (by decide)] at q; exact q), fun q => Gr.owns (gx.2 (by rw [getD_set_ne false (by decide)] at q; exact q)) gg⟩, kp f0, kp f1, kp f2, kp f3, kp f4, kp f5, fun _ => rfl, kp f7, kp f8, kp f9, kp f10, kp f11, kp f12, kp f13, kp f14, kp f15, kp f16, kp f17, kp f18, fun q => (let ⟨B, e, h2⟩ := f19 (done_old q (by decide)); ⟨B, e, fun q2 => (h2 (by rw [getD_set_ne false (by decide)] at q2; exact q2)).gr gg⟩), fun q => ⟨⟨getD_set_true (f20 (done_old q (by decide))).1.1, getD_set_true (f20 (done_old q (by decide))).1.2⟩, Gr.owns (f20 (done_old q (by decide))).2 gg⟩, fun q => ⟨getD_set_true (f21 (done_old q (by decide))).1, (f21 (done_old q (by decide))).2⟩⟩
  · rintro done a w hsz hnot hdep ⟨t4, t17, t18, t19, t20, t21, t22, t23, t24, t25, t26, t27, t28, t29, t30, t31, t32, t33, t34, t35, t36, t37, rfl, ⟨gw, gx⟩, f0, f1, f2, f3, f4, f5, f6, f7, f8, f9, f10, f11, f12, f13, f14, f15, f16, f17, f18, f19, f20, f21⟩ K hK
    have hn : ¬ done.getD 7 false = true := by rw [getD_both hnot]; decide
    have d6 := hdep 6 (by kernel_rfl)
    obtain rfl := f6 d6
    have HK := PLift.up hK
    clear hK d6
    simp only [cl6A]
    go_simp
    have gg : Gr w w := Gr.refl _
    refine HK.down _ _ ⟨_, _, _, _, _, _, _, _, _, _, _, _, _, _, _, _, _, _, _, _, _, _, rfl, ⟨gw, fun q => gx.1 (by rw [getD_set_ne false (by decide)] at q; exact q), fun q => Gr.owns (gx.2 (by rw [getD_set_ne false (by decide)] at q; exact q)) gg⟩, kp f0, kp f1, kp f2, kp f3, kp f4, kp f5, kp f6, fun _ => rfl, kp f8, kp f9, kp f10, kp f11, kp f12, kp f13, kp f14, kp f15, kp f16, kp f17, kp f18, fun q => (let ⟨B, e, h2⟩ := f19 (done_old q (by decide)); ⟨B, e, fun q2 => (h2 (by rw [getD_set_ne false (by decide)] at q2; exact q2)).gr gg⟩), fun q => ⟨⟨getD_set_true (f20 (done_old q (by decide))).1.1, getD_set_true (f20 (done_old q (by decide))).1.2⟩, Gr.owns (f20 (done_old q (by decide))).2 gg⟩, fun q => ⟨getD_set_true (f21 (done_old q (by decide))).1, (f21 (done_old q (by decide))).2⟩⟩
  · rintro done a w hsz hnot hdep ⟨t4, t17, t18, t19, t20, t21, t22, t23, t24, t25, t26, t27, t28, t29, t30, t31, t32, t33, t34, t35, t36, t37, rfl, ⟨gw, gx⟩, f0, f1, f2, f3, f4, f5, f6, f7, f8, f9, f10, f11, f12, f13, f14, f15, f16, f17, f18, f19, f20, f21⟩ K hK
    have hn : ¬ done.getD 8 false = true := by rw [getD_both hnot]; decide
    have d7 := hdep 7 (by kernel_rfl)
    obtain rfl := f7 d7
    have HK := PLift.up hK
    clear hK d7
    simp only [cl6A]
    go_simp
    have gg : Gr w w := Gr.refl _
    refine HK.down _ _ ⟨_, _, _, _, _, _, _, _, _, _, _, _, _, _, _, _, _, _, _, _, _, _, rfl, ⟨gw, fun q => gx.1 (by rw [getD_set_ne false (by decide)] at q; exact q), fun q => Gr.owns (gx.2 (by rw [getD_set_ne false (by decide)] at q; exact q)) gg⟩, kp f0, kp f1, kp f2, kp f3, kp f4, kp f5, kp f6, kp f7, fun _ => rfl, kp f9, kp f10, kp f11, kp f12, kp f13, kp f14, kp f15, kp f16, kp f17, kp f18, fun q => (let ⟨B, e, h2⟩ := f19 (done_old q (by decide)); ⟨B, e, fun q2 => (h2 (by rw [getD_set_ne false (by decide)] at q2; exact q2)).gr gg⟩), fun q => ⟨⟨getD_set_true (f20 (done_old q (by decide))).1.1, getD_set_true (f20 (done_old q (by decide))).1.2⟩, Gr.owns (f20 (done_old q (by decide))).2 gg⟩, fun q => ⟨getD_set_true (f21 (done_old q (by decide))).1, (f21 (done_old q (by decide))).2⟩⟩
  · rintro done a w hsz hnot hdep ⟨t4, t17, t18, t19, t20, t21, t22, t23, t24, t25, t26, t27, t28, t29, t30, t31, t32, t33, t34, t35, t36, t37, rfl, ⟨gw, gx⟩, f0, f1, f2, f3, f4, f5, f6, f7, f8, f9, f10, f11, f12, f13, f14, f15, f16, f17, f18, f19, f20, f21⟩ K hK
    have hn : ¬ done.getD 9 false = true := by rw [getD_both hnot]; decide
    have d4 := hdep 4 (by kernel_rfl)
    have d8 := hdep 8 (by kernel_rfl)
    obtain rfl := f4 d4
    obtain rfl := f8 d8
    have HK := PLift.up hK
    clear hK d4 d8
    simp only [cl6A]
    go_simp
    have gg : Gr w w := Gr.refl _
    refine HK.down _ _ ⟨_, _, _, _, _, _, _, _, _, _, _, _, _, _, _, _, _, _, _, _, _, _, rfl, ⟨gw, fun q => gx.1 (by rw [getD_set_ne false (by decide)] at q; exact q), fun q => Gr.owns (gx.2 (by rw [getD_set_ne false (by decide)] at q; exact q)) gg⟩, kp f0, kp f1, kp f2, kp f3, kp f4, kp f5, kp f6, kp f7, kp f8, fun _ => rfl, kp f10, kp f11, kp f12, kp f13, kp f14, kp f15, kp f16, kp f17, kp f18, fun q => (let ⟨B, e, h2⟩ := f19 (done_old q (by decide)); ⟨B, e, fun q2 => (h2 (by rw [getD_set_ne false (by decide)] at q2; exact q2)).gr gg⟩), fun q => ⟨⟨getD_set_true (f20 (done_old q (by decide))).1.1, getD_set_true (f20 (done_old q (by decide))).1.2⟩, Gr.owns (f20 (done_old q (by decide))).2 gg⟩, fun q => ⟨getD_set_true (f21 (done_old q (by decide))).1, (f21 (done_old q (by decide))).2⟩⟩
  · rintro done a w hsz hnot hdep ⟨t4, t17, t18, t19, t20, t21, t22, t23, t24, t25, t26, t27, t28, t29, t30, t31, t32, t33, t34, t35, t36, t37, rfl, ⟨gw, gx⟩, f0, f1, f2, f3, f4, f5, f6, f7, f8, f9, f10, f11, f12, f13, f14, f15, f16, f17, f18, f19, f20, f21⟩ K hK
    have hn : ¬ done.getD 10 false = true := by rw [getD_both hnot]; decide
    have HK := PLift.up hK
    clear hK 
    simp only [cl6A]
    go_simp
    have gg : Gr w w := Gr.refl _
    refine HK.down _ _ ⟨_, _, _, _, _, _, _, _, _, _, _, _, _, _, _, _, _, _, _, _, _, _, rfl, ⟨gw, fun q => gx.1 (by rw [getD_set_ne false (by decide)] at q; exact q), fun q => Gr.owns (gx.2 (by rw [getD_set_ne false (by decide)] at q; exact q)) gg⟩, kp f0, kp f1, kp f2, kp f3, kp f4, kp f5, kp f6, kp f7, kp f8, kp f9, fun _ => rfl, kp f11, kp f12, kp f13, kp f14, kp f15, kp f16, kp f17, kp f18, fun q => (let ⟨B, e, h2⟩ := f19 (done_old q (by decide)); ⟨B, e, fun q2 => (h2 (by rw [getD_set_ne false (by decide)] at q2; exact q2)).gr gg⟩), fun q => ⟨⟨getD_set_true (f20 (done_old q (by decide))).1.1, getD_set_true (f20 (done_old q (by decide))).1.2⟩, Gr.owns (f20 (done_old q (by decide))).2 gg⟩, fun q => ⟨getD_set_true (f21 (done_old q (by decide))).1, (f21 (done_old q (by decide))).2⟩⟩
  · rintro done a w hsz hnot hdep ⟨t4, t17, t18, t19, t20, t21, t22, t23, t24, t25, t26, t27, t28, t29, t30, t31, t32, t33, t34, t35, t36, t37, rfl, ⟨gw, gx⟩, f0, f1, f2, f3, f4, f5, f6, f7, f8, f9, f10, f11, f12, f13, f14, f15, f16, f17, f18, f19, f20, f21⟩ K hK
    have hn : ¬ done.getD 11 false = true := by rw [getD_both hnot]; decide
    have d10 := hdep 10 (by kernel_rfl)
    obtain rfl := f10 d10
    have HK := PLift.up hK
    clear hK d10
    simp only [cl6A]
    go_simp
    have gg : Gr w w := Gr.refl _
    refine HK.down _ _ ⟨_, _, _, _, _, _, _, _, _, _, _, _, _, _, _, _, _, _, _, _, _, _, rfl, ⟨gw, fun q => gx.1 (by rw [getD_set_ne false (by decide)] at q; exact q), fun q => Gr.owns (gx.2 (by rw [getD_set_ne false (by decide)] at q; exact q)) gg⟩, kp f0, kp f1, kp f2, kp f3, kp f4, kp f5, kp f6, kp f7, kp f8, kp f9, kp f10, fun _ => rfl, kp f12, kp f13, kp f14, kp f15, kp f16, kp f17, kp f18, fun q => (let ⟨B, e, h2⟩ := f19 (done_old q (by decide)); ⟨B, e, fun q2 => (h2 (by rw [getD_set_ne false (by decide)] at q2; exact q2)).gr gg⟩), fun q => ⟨⟨getD_set_true (f20 (done_old q (by decide))).1.1, getD_set_true (f20 (done_old q (by decide))).1.2⟩, Gr.owns (f20 (done_old q (by decide))).2 gg⟩, fun q => ⟨getD_set_true (f21 (done_old q (by decide))).1, (f21 (done_old q (by decide))).2⟩⟩
  · rintro done a w hsz hnot hdep ⟨t4, t17, t18, t19, t20, t21, t22, t23, t24, t25, t26, t27, t28, t29, t30, t31, t32, t33, t34, t35, t36, t37, rfl, ⟨gw, gx⟩, f0, f1, f2, f3, f4, f5, f6, f7, f8, f9, f10, f11, f12, f13, f14, f15, f16, f17, f18, f19, f20, f21⟩ K hK
    have hn : ¬ done.getD 12 false = true := by rw [getD_both hnot]; decide
    have d11 := hdep 11 (by kernel_rfl)
    obtain rfl := f11 d11
    have HK := PLift.up hK
    clear hK d11
    simp only [cl6A]
    go_simp
    have gg : Gr w w := Gr.refl _
    refine HK.down _ _ ⟨_, _, _, _, _, _, _, _, _, _, _, _, _, _, _, _, _, _, _, _, _, _, rfl, ⟨gw, fun q => gx.1 (by rw [getD_set_ne false (by decide)] at q; exact q), fun q => Gr.owns (gx.2 (by rw [getD_set_ne false (by decide)] at q; exact q)) gg⟩, kp f0, kp f1, kp f2, kp f3, kp f4, kp f5, kp f6, kp f7, kp f8, kp f9, kp f10, kp f11, fun _ => rfl, kp f13, kp f14, kp f15, kp f16, kp f17, kp f18, fun q => (let ⟨B, e, h2⟩ := f19 (done_old q (by decide)); ⟨B, e, fun q2 => (h2 (by rw [getD_set_ne false (by decide)] at q2; exact q2)).gr gg⟩), fun q => ⟨⟨getD_set_true (f20 (done_old q (by decide))).1.1, getD_set_true (f20 (done_old q (by decide))).1.2⟩, Gr.owns (f20 (done_old q (by decide))).2 gg⟩, fun q => ⟨getD_set_true (f21 (done_old q (by decide))).1, (f21 (done_old q (by decide))).2⟩⟩
  · rintro done a w hsz hnot hdep ⟨t4, t17, t18, t19, t20, t21, t22, t23, t24, t25, t26, t27, t28, t29, t30, t31, t32, t33, t34, t35, t36, t37, rfl, ⟨gw, gx⟩, f0, f1, f2, f3, f4, f5, f6, f7, f8, f9, f10, f11, f12, f13, f14, f15, f16, f17, f18, f19, f20, f21⟩ K hK
    have hn : ¬ done.getD 13 false = true := by rw [getD_both hnot]; decide
    have d12 := hdep 12 (by kernel_rfl)
    obtain rfl := f12 d12
    have HK := PLift.up hK
    clear hK d12
    simp only [cl6A]
    go_simp
    have gg : Gr w w := Gr.refl _
    refine HK.down _ _ ⟨_, _, _, _, _, _, _, _, _, _, _, _, _, _, _, _, _, _, _, _, _, _, rfl, ⟨gw, fun q => gx.1 (by rw [getD_set_ne false (by decide)] at q; exact q), fun q => Gr.owns (gx.2 (by rw [getD_set_ne false (by decide)] at q; exact q)) gg⟩, kp f0, kp f1, kp f2, kp f3, kp f4, kp f5, kp f6, kp f7, kp f8, kp f9, kp f10, kp f11, kp f12, fun _ => rfl, kp f14, kp f15, kp f16, kp f17, kp f18, fun q => (let ⟨B, e, h2⟩ := f19 (done_old q (by decide)); ⟨B, e, fun q2 => (h2 (by rw [getD_set_ne false (by decide)] at q2; exact q2)).gr gg⟩), fun q => ⟨⟨getD_set_true (f20 (done_old q (by decide))).1.1, getD_set_true (f20 (done_old q (by decide))).1.2⟩, Gr.owns (f20 (done_old q (by decide))).2 gg⟩, fun q => ⟨getD_set_true (f21 (done_old q (by decide))).1, (f21 (done_old q (by decide))).2⟩⟩
  · rintro done a w hsz hnot hdep ⟨t4, t17, t18, t19, t20, t21, t22, t23, t24, t25, t26, t27, t28, t29, t30, t31, t32, t33, t34, t35, t36, t37, rfl, ⟨gw, gx⟩, f0, f1, f2, f3, f4, f5, f6, f7, f8, f9, f10, f11, f12, f13, f14, f15, f16, f17, f18, f19, f20, f21⟩ K hK
    have hn : ¬ done.getD 14 false = true := by rw [getD_both hnot]; decide
    have d9 := hdep 9 (by kernel_rfl)
    have d13 := hdep 13 (by kernel_rfl)
    obtain rfl := f9 d9
    obtain rfl := f13 d13
    have HK := PLift.up hK
    clear hK d9 d13
    simp only [cl6A]
    go_simp
    have gg : Gr w w := Gr.refl _
    refine HK.down _ _ ⟨_, _, _, _, _, _, _, _, _, _, _, _, _, _, _, _, _, _, _, _, _, _, rfl, ⟨gw, fun q => gx.1 (by rw [getD_set_ne false (by decide)] at q; exact q), fun q => Gr.owns (gx.2 (by rw [getD_set_ne false (by decide)] at q; exact q)) gg⟩, kp f0, kp f1, kp f2, kp f3, kp f4, kp f5, kp f6, kp f7, kp f8, kp f9, kp f10, kp f11, kp f12, kp f13, fun _ => rfl, kp f15, kp f16, kp f17, kp f18, fun q => (let ⟨B, e, h2⟩ := f19 (done_old q (by decide)); ⟨B, e, fun q2 => (h2 (by rw [getD_set_ne false (by decide)] at q2; exact q2)).gr gg⟩), fun q => ⟨⟨getD_set_true (f20 (done_old q (by decide))).1.1, getD_set_true (f20 (done_old q (by decide))).1.2⟩, Gr.owns (f20 (done_old q (by decide))).2 gg⟩, fun q => ⟨getD_set_true (f21 (done_old q (by decide))).1, (f21 (done_old q (by decide))).2⟩⟩
  · rintro done a w hsz hnot hdep ⟨t4, t17, t18, t19, t20, t21, t22, t23, t24, t25, t26, t27, t28, t29, t30, t31, t32, t33, t34, t35, t36, t37, rfl, ⟨gw, gx⟩, f0, f1, f2, f3, f4, f5, f6, f7, f8, f9, f10, f11, f12, f13, f14, f15, f16, f17, f18, f19, f20, f21⟩ K hK
    have hn : ¬ done.getD 15 false = true := by rw [getD_both hnot]; decide
    have HK := PLift.up hK
    clear hK 
    simp only [cl6A]
    go_simp
    have gg : Gr w w := Gr.refl _
    refine HK.down _ _ ⟨_, _, _, _, _, _, _, _, _, _, _, _, _, _, _, _, _, _, _, _, _, _, rfl, ⟨gw, fun q => gx.1 (by rw [getD_set_ne false (by decide)] at q; exact q), fun q => Gr.owns (gx.2 (by rw [getD_set_ne false (by decide)] at q; exact q)) gg⟩, kp f0, kp f1, kp f2, kp f3, kp f4, kp f5, kp f6, kp f7, kp f8, kp f9, kp f10, kp f11, kp f12, kp f13, kp f14, fun _ => rfl, kp f16, kp f17, kp f18, fun q => (let ⟨B, e, h2⟩ := f19 (done_old q (by decide)); ⟨B, e, fun q2 => (h2 (by rw [getD_set_ne false (by decide)] at q2; exact q2)).gr gg⟩), fun q => ⟨⟨getD_set_true (f20 (done_old q (by decide))).1.1, getD_set_true (f20 (done_old q (by decide))).1.2⟩, Gr.owns (f20 (done_old q (by decide))).2 gg⟩, fun q => ⟨getD_set_true (f21 (done_old q (by decide))).1, (f21 (done_old q (by decide))).2⟩⟩
  · rintro done a w hsz hnot hdep ⟨t4, t17, t18, t19, t20, t21, t22, t23, t24, t25, t26, t27, t28, t29, t30, t31, t32, t33, t34, t35, t36, t37, rfl, ⟨gw, gx⟩, f0, f1, f2, f3, f4, f5, f6, f7, f8, f9, f10, f11, f12, f13, f14, f15, f16, f17, f18, f19, f20, f21⟩ K hK
    have hn : ¬ done.getD 16 false = true := by rw [getD_both hnot]; decide
    have d15 := hdep 15 (by kernel_rfl)
    obtain rfl := f15 d15
    have HK := PLift.up hK
    clear hK d15
    simp only [cl6A]
    go_simp
    have gg : Gr w w := Gr.refl _
    refine HK.down _ _ ⟨_, _, _, _, _, _, _, _, _, _, _, _, _, _, _, _, _, _, _, _, _, _, rfl, ⟨gw, fun q => gx.1 (by rw [getD_set_ne false (by decide)] at q; exact q), fun q => Gr.owns (gx.2 (by rw [getD_set_ne false (by decide)] at q; exact q)) gg⟩, kp f0, kp f1, kp f2, kp f3, kp f4, kp f5, kp f6, kp f7, kp f8, kp f9, kp f10, kp f11, kp f12, kp f13, kp f14, kp f15, fun _ => rfl, kp f17, kp f18, fun q => (let ⟨B, e, h2⟩ := f19 (done_old q (by decide)); ⟨B, e, fun q2 => (h2 (by rw [getD_set_ne false (by decide)] at q2; exact q2)).gr gg⟩), fun q => ⟨⟨getD_set_true (f20 (done_old q (by decide))).1.1, getD_set_true (f20 (done_old q (by decide))).1.2⟩, Gr.owns (f20 (done_old q (by decide))).2 gg⟩, fun q => ⟨getD_set_true (f21 (done_old q (by decide))).1, (f21 (done_old q (by decide))).2⟩⟩
  · rintro done a w hsz hnot hdep ⟨t4, t17, t18, t19, t20, t21, t22, t23, t24, t25, t26, t27, t28, t29, t30, t31, t32, t33, t34, t35, t36, t37, rfl, ⟨gw, gx⟩, f0, f1, f2, f3, f4, f5, f6, f7, f8, f9, f10, f11, f12, f13, f14, f15, f16, f17, f18, f19, f20, f21⟩ K hK
    have hn : ¬ done.getD 17 false = true := by rw [getD_both hnot]; decide
    have d16 := hdep 16 (by kernel_rfl)
    obtain rfl := f16 d16
    have HK := PLift.up hK
    clear hK d16
    simp only [cl6A]
    go_simp
    have gg : Gr w w := Gr.refl _
    refine HK.down _ _ ⟨_, _, _, _, _, _, _, _, _, _, _, _, _, _, _, _, _, _, _, _, _, _, rfl, ⟨gw, fun q => gx.1 (by rw [getD_set_ne false (by decide)] at q; exact q), fun q => Gr.owns (gx.2 (by rw [getD_set_ne false (by decide)] at q; exact q)) gg⟩, kp f0, kp f1, kp f2, kp f3, kp f4, kp f5, kp f6, kp f7, kp f8, kp f9, kp f10, kp f11, kp f12, kp f13, kp f14, kp f15, kp f16, fun _ => rfl, kp f18, fun q => (let ⟨B, e, h2⟩ := f19 (done_old q (by decide)); ⟨B, e, fun q2 => (h2 (by rw [getD_set_ne false (by decide)] at q2; exact q2)).gr gg⟩), fun q => ⟨⟨getD_set_true (f20 (done_old q (by decide))).1.1, getD_set_true (f20 (done_old q (by decide))).1.2⟩, Gr.owns (f20 (done_old q (by decide))).2 gg⟩, fun q => ⟨getD_set_true (f21 (done_old q (by decide))).1, (f21 (done_old q (by decide))).2⟩⟩
  · rintro done a w hsz hnot hdep ⟨t4, t17, t18, t19, t20, t21, t22, t23, t24, t25, t26, t27, t28, t29, t30, t31, t32, t33, t34, t35, t36, t37, rfl, ⟨gw, gx⟩, f0, f1, f2, f3, f4, f5, f6, f7, f8, f9, f10, f11, f12, f13, f14, f15, f16, f17, f18, f19, f20, f21⟩ K hK
    have hn : ¬ done.getD 18 false = true := by rw [getD_both hnot]; decide
    have d14 := hdep 14 (by kernel_rfl)
    have d17 := hdep 17 (by kernel_rfl)
    obtain rfl := f14 d14
    obtain rfl := f17 d17
    have HK := PLift.up hK
    clear hK d14 d17
    simp only [cl6A]
    go_simp
    have gg : Gr w w := Gr.refl _
    refine HK.down _ _ ⟨_, _, _, _, _, _, _, _, _, _, _, _, _, _, _, _, _, _, _, _, _, _, rfl, ⟨gw, fun q => gx.1 (by rw [getD_set_ne false (by decide)] at q; exact q), fun q => Gr.owns (gx.2 (by rw [getD_set_ne false (by decide)] at q; exact q)) gg⟩, kp f0, kp f1, kp f2, kp f3, kp f4, kp f5, kp f6, kp f7, kp f8, kp f9, kp f10, kp f11, kp f12, kp f13, kp f14, kp f15, kp f16, kp f17, fun _ => rfl, fun q => (let ⟨B, e, h2⟩ := f19 (done_old q (by decide)); ⟨B, e, fun q2 => (h2 (by rw [getD_set_ne false (by decide)] at q2; exact q2)).gr gg⟩), fun q => ⟨⟨getD_set_true (f20 (done_old q (by decide))).1.1, getD_set_true (f20 (done_old q (by decide))).1.2⟩, Gr.owns (f20 (done_old q (by decide))).2 gg⟩, fun q => ⟨getD_set_true (f21 (done_old q (by decide))).1, (f21 (done_old q (by decide))).2⟩⟩
  · rintro done a w hsz hnot hdep ⟨t4, t17, t18, t19, t20, t21, t22, t23, t24, t25, t26, t27, t28, t29, t30, t31, t32, t33, t34, t35, t36, t37, rfl, ⟨gw, gx⟩, f0, f1, f2, f3, f4, f5, f6, f7, f8, f9, f10, f11, f12, f13, f14, f15, f16, f17, f18, f19, f20, f21⟩ K hK
    have hn : ¬ done.getD 19 false = true := by rw [getD_both hnot]; decide
    have d18 := hdep 18 (by kernel_rfl)
    obtain rfl := f18 d18
    have HK := PLift.up hK
    clear hK d18
    simp only [cl6A]
    go_simp
    have gg : Gr w (w.alloc (.cells #[.int .i64 ((num4 c0 c1 c2 c3 : Nat) : Int)] 3)) := (Gr.refl _).alloc _
    refine HK.down _ _ ⟨_, _, _, _, _, _, _, _, _, _, _, _, _, _, _, _, _, _, _, _, _, _, rfl, ⟨gw.trans gg, fun q => gx.1 (by rw [getD_set_ne false (by decide)] at q; exact q), fun q => Gr.owns (gx.2 (by rw [getD_set_ne false (by decide)] at q; exact q)) gg⟩, kp f0, kp f1, kp f2, kp f3, kp f4, kp f5, kp f6, kp f7, kp f8, kp f9, kp f10, kp f11, kp f12, kp f13, kp f14, kp f15, kp f16, kp f17, kp f18, ?_, fun q => absurd (f20 (done_old q (by decide))).1.2 hn, fun q => ⟨getD_set_true (f21 (done_old q (by decide))).1, (f21 (done_old q (by decide))).2⟩⟩
    exact fun _ => ⟨_, rfl, fun _ => Row.new w _ _⟩
  · rintro done a w hsz hnot hdep ⟨t4, t17, t18, t19, t20, t21, t22, t23, t24, t25, t26, t27, t28, t29, t30, t31, t32, t33, t34, t35, t36, t37, rfl, ⟨gw, gx⟩, f0, f1, f2, f3, f4, f5, f6, f7, f8, f9, f10, f11, f12, f13, f14, f15, f16, f17, f18, f19, f20, f21⟩ K hK
    have hn : ¬ done.getD 20 false = true := by rw [getD_both hnot]; decide
    have d0 := hdep 0 (by kernel_rfl)
    have d19 := hdep 19 (by kernel_rfl)
    have n20 := getD_both hnot
    obtain ⟨B, rfl, r3⟩ := f19 d19
    refine step_append_gets _ rfl _ _ 22 rfl wb.heap.size 3 j0 (.int .i64 0) 1 8 Tryz.underlying22 hj hy0 hy1 hy2 rfl (by decide) x zs.length (nums zs) (by simp [Act.eval, cl6A, f0 d0]) (gx.2 n20) (some ⟨B, 0, none⟩) 1 1 (nums [((num4 c0 c1 c2 c3 : Nat) : Int)]) (by simp [Act.eval, cl6A]) ⟨rfl, fun _ => ⟨_, rfl, row_cells (r3 n20)⟩⟩ (nums_one _) (by unfold maxLen; omega) (by omega) gw.size ?_
    intro v w2 hown hgrow _
    refine hK _ _ ⟨_, _, _, _, _, _, _, _, _, _, _, _, _, _, _, _, _, _, _, _, _, _, rfl, ⟨gw.grown hgrow (fun k e => (owns_block (gx.2 n20) k e).1), fun q => gx.1 (by rw [getD_set_ne false (by decide)] at q; exact q), fun q => absurd q (by rw [getD_set_same (by rw [hsz]; decide)]; decide)⟩, fun _ => (by first | rfl | exact f0 d0), kp f1, kp f2, kp f3, kp f4, kp f5, kp f6, kp f7, kp f8, kp f9, kp f10, kp f11, kp f12, kp f13, kp f14, kp f15, kp f16, kp f17, kp f18, fun _ => ⟨B, rfl, fun q => absurd q (by rw [getD_set_same (by rw [hsz]; decide)]; decide)⟩, ?_, fun q => absurd (f21 (done_old q (by decide))).1 hn⟩
    exact fun _ => ⟨⟨getD_set_true d0, getD_set_true d19⟩, by simpa [nums] using hown⟩
  · rintro done a w hsz hnot hdep ⟨t4, t17, t18, t19, t20, t21, t22, t23, t24, t25, t26, t27, t28, t29, t30, t31, t32, t33, t34, t35, t36, t37, rfl, ⟨gw, gx⟩, f0, f1, f2, f3, f4, f5, f6, f7, f8, f9, f10, f11, f12, f13, f14, f15, f16, f17, f18, f19, f20, f21⟩ K hK
    have hn : ¬ done.getD 21 false = true := by rw [getD_both hnot]; decide
    have d20 := hdep 20 (by kernel_rfl)
    have HK := PLift.up hK
    clear hK 
    simp only [cl6A]
    go_simp
    have gg : Gr w w := Gr.refl _
    refine HK.down _ _ ⟨_, _, _, _, _, _, _, _, _, _, _, _, _, _, _, _, _, _, _, _, _, _, rfl, ⟨gw, fun q => absurd q (by rw [getD_set_same (by rw [hsz]; decide)]; decide), fun q => Gr.owns (gx.2 (by rw [getD_set_ne false (by decide)] at q; exact q)) gg⟩, fun q => (by first | rfl | exact f0 (done_old q (by decide))), kp f1, kp f2, kp f3, kp f4, kp f5, kp f6, kp f7, kp f8, kp f9, kp f10, kp f11, kp f12, kp f13, kp f14, kp f15, kp f16, kp f17, kp f18, fun q => (let ⟨B, e, h2⟩ := f19 (done_old q (by decide)); ⟨B, e, fun q2 => (h2 (by rw [getD_set_ne false (by decide)] at q2; exact q2)).gr gg⟩), fun q => ⟨⟨getD_set_true (f20 (done_old q (by decide))).1.1, getD_set_true (f20 (done_old q (by decide))).1.2⟩, Gr.owns (f20 (done_old q (by decide))).2 gg⟩, ?_⟩
    exact fun _ => ⟨getD_set_true d20, rfl⟩
  · rintro done a w hall ⟨t4, t17, t18, t19, t20, t21, t22, t23, t24, t25, t26, t27, t28, t29, t30, t31, t32, t33, t34, t35, t36, t37, rfl, ⟨gw, gx⟩, f0, f1, f2, f3, f4, f5, f6, f7, f8, f9, f10, f11, f12, f13, f14, f15, f16, f17, f18, f19, f20, f21⟩
    obtain rfl := (f21 (hall 21 (by decide))).2
    exact h' _ _ _ _ _ _ _ _ _ _ _ _ _ _ _ _ _ _ _ _ _ _ w (f20 (hall 20 (by decide))).2 gw
theorem VT.nod {ts : Tr} (h : VT ts) {k : Nat} (h0 : 0 < k) (hk : k < ts.length) : ts[k].parent = (pq ts k : Int) ∧ pq ts k < k ∧ ts[k].name = nmT ts k := by
  have h1 := h.par h0 hk
  have h2 := h.shp.par k h0 hk
  unfold nmT
  rw [nd_get hk] at h1 ⊢
  exact ⟨h1, h2, rfl⟩
theorem level_ok (ts : Tr) (a : Option Addr) (cap i d : Nat) (w : World) (h : SlOf 3 RNod w a ts) (hv : VT ts) (hi : i < ts.length) (hd : Dep (pq ts) i d) (hd8 : d ≤ 100) :
    Calls Tryz.prog 93 #[.agg #[.slice a ts.length cap], .int .i64 i] w (Grows w (.int .i64 (d : Nat))) := by
  have H := Lib.hid h
  have HV := Lib.hid hv
  have HD := Lib.hid hd
  have l2 := hv.few
  clear h hv hd
  go_enter Tryz.func93, Tryz.ntmps93
  go_wp2_with fail
  have RX := Lib.hid (Row.new w #[.slice a ts.length cap] 25)
  obtain ⟨W, hW⟩ : ∃ W : World, Hid (W = w.alloc (.cells #[.slice a ts.length cap] 25)) := ⟨_, Lib.hid rfl⟩
  have GW : Hid (Gr w W) := Lib.hid (by rw [hW.out]; exact (Gr.refl _).alloc _)
  rw [← hW.out] at RX ⊢
  obtain ⟨PB, hPB⟩ : ∃ N : Nat, Hid (w.heap.size = N) := ⟨_, Lib.hid rfl⟩
  rw [hPB.out] at RX
  (try rw [hPB.out])
  clear hW hPB
  go_loopw [1, 5] (fun u n wr => ∃ k m e : Nat, k < ts.length ∧ u = .int .i64 k ∧ n = .int .i64 m ∧ Dep (pq ts) k e ∧ m + e = d ∧ Gr W wr) (fun u _ _ => (intOf u).toNat)
  case atStart => exact ⟨i, 0, d, hi, rfl, rfl, HD.out, by omega, Gr.refl _⟩
  case round =>
    obtain ⟨k, m, e, hk, rfl, rfl, hde, hs, hg⟩ := hrel
    have HG := Lib.hid hg
    have x0 := (RX.out.gr hg).cell 0 (by simp)
    have hx := has_of_cell x0
    clear hg
    have DE := Lib.hid hde
    clear hde
    by_cases h0 : 0 < k
    · obtain ⟨b, o, pa, pc, rfl, c0, c1, c2, _⟩ := nods_at (H.out.gr RNod.mono (GW.out.trans HG.out)) k hk
      obtain ⟨p1, p2, _⟩ := HV.out.nod h0 hk
      obtain ⟨q, hq⟩ : ∃ q : Nat, pq ts k = q := ⟨_, rfl⟩
      have HQ := Lib.hid hq
      rw [p1, hq] at c0
      rw [hq] at p2
      have hh := has_of_cell c0
      have HS := Lib.hid hs
      have k1 : (k : Int) < ts.length := by omega
      have hm : m + 1 ≤ 1000000 := by omega
      clear p1 hq c1 c2 hs
      go_wp2_with fail
      go_roundw
      case rel =>
        have hde := DE.out
        cases hde with
        | zero => omega
        | @succ _ e2 z1 z2 =>
          rw [HQ.out] at z2
          exact ⟨q, m + 1, e2, by omega, rfl, by go_num, z2, by have := HS.out; omega, HG.out⟩
      case measure => simp [intOf]; omega
    · obtain rfl : k = 0 := by omega
      have e0 : e = 0 := by
        have hde := DE.out
        cases hde with
        | zero => rfl
        | succ z1 z2 => omega
      subst e0
      obtain rfl : m = d := by omega
      go_wp2_with fail
      go_ret
      exact ⟨rfl, GW.out.trans HG.out⟩
inductive Pth (ts : Tr) : Nat → St → Prop
  | zero : Pth ts 0 []
  | succ {u : Nat} {s : St} : 0 < u → Pth ts (pq ts u) s → Pth ts u (s ++ 47 :: nmT ts u)
theorem pth_ex {ts : Tr} (h : VT ts) : ∀ k, k < ts.length → ∃ s, Pth ts k s ∧ s.length ≤ 32 * k := by
  intro k
  induction k using Nat.strongRecOn with
  | ind k ih =>
    intro hk
    by_cases h0 : k = 0
    · subst h0; exact ⟨[], .zero, by simp⟩
    · have h2 := h.shp.par k (by omega) hk
      obtain ⟨s, hs, hl⟩ := ih (pq ts k) h2 (by omega)
      have hn := (h.name (show 0 < k by omega) hk).2
      exact ⟨_, .succ (by omega) hs, by rw [List.length_append, List.length_cons]; omega⟩
theorem path_ok (ts : Tr) (a : Option Addr) (cap i : Nat) (s : St) (w : World) (h : SlOf 3 RNod w a ts) (hv : VT ts) (hi : i < ts.length) (hp : Pth ts i s) (hsl : s.length ≤ 100000) :
    Calls Tryz.prog 131 #[.agg #[.slice a ts.length cap], .int .i64 i] w (Grows w (.string (bs (if i = 0 then [47] else s)))) := by
  have H := Lib.hid h
  have HV := Lib.hid hv
  have HP := Lib.hid hp
  have l2 := hv.few
  clear h hv hp
  by_cases h0 : i = 0
  · subst h0
    rw [if_pos rfl]
    go_enter Tryz.func131, Tryz.ntmps131
    go_wp2_with fail
    go_ret
    exact ⟨rfl, (Gr.refl _).alloc _⟩
  · rw [if_neg h0]
    have q0 : ((i : Int) == 0) = false := by rw [beq_eq_false_iff_ne]; omega
    have q1 : ¬ (i : Int) = 0 := by omega
    clear h0
    go_enter Tryz.func131, Tryz.ntmps131
    go_wp2_with fail
    have RX := Lib.hid (Row.new w #[.slice a ts.length cap] 25)
    obtain ⟨W, hW⟩ : ∃ W : World, Hid (W = w.alloc (.cells #[.slice a ts.length cap] 25)) := ⟨_, Lib.hid rfl⟩
    have GW : Hid (Gr w W) := Lib.hid (by rw [hW.out]; exact (Gr.refl _).alloc _)
    rw [← hW.out] at RX ⊢
    obtain ⟨PB, hPB⟩ : ∃ N : Nat, Hid (w.heap.size = N) := ⟨_, Lib.hid rfl⟩
    rw [hPB.out] at RX
    (try rw [hPB.out])
    clear hW hPB
    go_loopw [1, 5] (fun u n wr => ∃ (k : Nat) (x y : St), k < ts.length ∧ u = .int .i64 k ∧ n = .string (bs y) ∧ Pth ts k x ∧ x ++ y = s ∧ Gr W wr) (fun u _ _ => (intOf u).toNat)
    case atStart => exact ⟨i, s, [], hi, rfl, rfl, HP.out, by simp, Gr.refl _⟩
    case round =>
      obtain ⟨k, x, y, hk, rfl, rfl, hpx, hs, hg⟩ := hrel
      have HG := Lib.hid hg
      have x0 := (RX.out.gr hg).cell 0 (by simp)
      have hx := has_of_cell x0
      clear hg
      have PX := Lib.hid hpx
      have HS := Lib.hid hs
      clear hpx hs
      by_cases h0 : 0 < k
      · obtain ⟨b, o, pa, pc, rfl, c0, c1, c2, _⟩ := nods_at (H.out.gr RNod.mono (GW.out.trans HG.out)) k hk
        obtain ⟨p1, p2, p3⟩ := HV.out.nod h0 hk
        obtain ⟨q, hq⟩ : ∃ q : Nat, pq ts k = q := ⟨_, rfl⟩
        obtain ⟨nm, hnm⟩ : ∃ n : St, nmT ts k = n := ⟨_, rfl⟩
        have HQ := Lib.hid hq
        have HN := Lib.hid hnm
        rw [p1, hq] at c0
        rw [p3, hnm] at c1
        rw [hq] at p2
        have hh := has_of_cell c0
        have k1 : (k : Int) < ts.length := by omega
        have nl : nm.length ≤ 31 := by rw [← hnm]; exact (HV.out.name h0 hk).2
        have yl : y.length ≤ 100000 := by have := congrArg List.length HS.out; rw [List.length_append] at this; omega
        clear p1 p3 hq hnm c2
        go_wp2_with fail
        go_roundw
        case rel =>
          have hpx := PX.out
          cases hpx with
          | zero => omega
          | @succ _ s2 z1 z2 =>
            rw [HQ.out] at z2
            refine ⟨q, s2, 47 :: (nm ++ y), by omega, rfl, by simp, z2, ?_, HG.out⟩
            rw [← HS.out, HN.out]; simp
        case measure => simp [intOf]; omega
      · obtain rfl : k = 0 := by omega
        have e0 : x = [] := by
          have hpx := PX.out
          cases hpx with
          | zero => rfl
          | succ z1 z2 => omega
        subst e0
        have e1 : y = s := by have := HS.out; simpa using this
        subst e1
        go_wp2_with fail
        go_ret
        exact ⟨rfl, GW.out.trans HG.out⟩
end Go.Proofs.YtgembejpiecfcaaGreatDoor

/- Names and words that a tape picks. A statement of grow.Rule by an invariant (printed by wip/tools/gr5.py). -/
import Derived.Test.YtadldblpkgackaaGreatDoorUdA
import Derived.Test.YtadldblpkgackaaGreatDoorUbQ
set_option linter.unusedVariables false
set_option linter.unusedSimpArgs false
namespace Go.Proofs.YtadldblpkgackaaGreatDoor
open Go.RowKit
open Classical

def propsL : List St := [[114, 101, 103], [99, 111, 109, 112, 97, 116, 105, 98, 108, 101], [115, 116, 97, 116, 117, 115], [99, 108, 111, 99, 107, 115], [35, 99, 101, 108, 108, 115], [112], [113], [108, 97, 98, 101, 108], [118, 97, 108, 117, 101]]
theorem props_ok : propsL.all (fun s => propOk s && decide (s.length ≤ 31)) = true := by kernel_rfl
theorem prop_ok {s : St} (h : s ∈ propsL) : propOk s = true ∧ s.length ≤ 31 := by
  have := List.all_eq_true.1 props_ok s h
  simpa using this
theorem strV_get {l : List St} {k : Nat} (h : k < l.length) (h2 : k < (strV l).length) : (strV l)[k] = .string (bs l[k]) := by simp [strV]
set_option maxHeartbeats 1000000 in
theorem property_any (w : World) (b len : Nat) (h : Tp w b len) :
    Calls Tryz.prog 84 #[.pointer (some ⟨b, 0, none⟩)] w fun e w' => ∃ s, s ∈ propsL ∧ e = .returned (.string (bs s)) ∧ Mv b len w w' := by
  have H := Lib.hid h
  have hb := h.has
  clear h
  go_enter Tryz.func84, Tryz.ntmps84
  go_wp2_with fail
  have RX : Hid (Row (w.alloc (.cells #[.string ⟨#[114, 101, 103]⟩, .string ⟨#[99, 111, 109, 112, 97, 116, 105, 98, 108, 101]⟩, .string ⟨#[115, 116, 97, 116, 117, 115]⟩, .string ⟨#[99, 108, 111, 99, 107, 115]⟩, .string ⟨#[35, 99, 101, 108, 108, 115]⟩, .string ⟨#[112]⟩, .string ⟨#[113]⟩, .string ⟨#[108, 97, 98, 101, 108]⟩, .string ⟨#[118, 97, 108, 117, 101]⟩] 9)) w.heap.size 9 (strV propsL)) := Lib.hid (Row.new w #[.string ⟨#[114, 101, 103]⟩, .string ⟨#[99, 111, 109, 112, 97, 116, 105, 98, 108, 101]⟩, .string ⟨#[115, 116, 97, 116, 117, 115]⟩, .string ⟨#[99, 108, 111, 99, 107, 115]⟩, .string ⟨#[35, 99, 101, 108, 108, 115]⟩, .string ⟨#[112]⟩, .string ⟨#[113]⟩, .string ⟨#[108, 97, 98, 101, 108]⟩, .string ⟨#[118, 97, 108, 117, 101]⟩] 9)
  obtain ⟨W, hW⟩ : ∃ W : World, Hid (W = w.alloc (.cells #[.string ⟨#[114, 101, 103]⟩, .string ⟨#[99, 111, 109, 112, 97, 116, 105, 98, 108, 101]⟩, .string ⟨#[115, 116, 97, 116, 117, 115]⟩, .string ⟨#[99, 108, 111, 99, 107, 115]⟩, .string ⟨#[35, 99, 101, 108, 108, 115]⟩, .string ⟨#[112]⟩, .string ⟨#[113]⟩, .string ⟨#[108, 97, 98, 101, 108]⟩, .string ⟨#[118, 97, 108, 117, 101]⟩] 9)) := ⟨_, Lib.hid rfl⟩
  have GW : Hid (Gr w W) := Lib.hid (by rw [hW.out]; exact (Gr.refl _).alloc _)
  rw [← hW.out] at RX ⊢
  clear hW
  refine (nM_any W b len 9 (H.out.gr GW.out) (by omega) (by omega)).mono ?_
  rintro e w1 ⟨x, rfl, ⟨x0, x1⟩, hm⟩
  have MV := Lib.hid ((Mv.of_gr H.out GW.out).trans H.out.has hm)
  have RY := Lib.hid (hm.row RX.out (by omega))
  obtain ⟨k, rfl⟩ := Int.eq_ofNat_of_zero_le x0
  have hk : k < propsL.length := by simp [propsL]; omega
  have c0 := RY.out.cell k (by simpa [strV] using hk)
  rw [strV_get hk] at c0
  have hh := has_of_cell c0
  have k9 : (k : Int) < 9 := by omega
  have MEM := Lib.hid (List.getElem_mem hk)
  obtain ⟨s, hs⟩ : ∃ s, propsL[k] = s := ⟨_, rfl⟩
  rw [hs] at c0 MEM
  clear hm hs x0 x1
  go_wp2_with fail
  go_ret
  exact ⟨s, MEM.out, rfl, MV.out⟩
/-- A rule that a tape makes. -/
def GivesRul (b len : Nat) (w : World) (e : Ending) (w' : World) : Prop := ∃ x : RM, e = .returned (.agg #[.string (bs x.r.name), .bool x.r.req, .int .i64 x.r.kind, .int .i64 x.r.low, .int .i64 x.r.high, .int .i64 x.r.count, .slice x.a x.r.words.length x.c]) ∧ ruleP x.r = true ∧ x.r.name ∈ propsL ∧ x.r.words.length ≤ x.c ∧ (∀ A, x.a = some A → w.heap.size ≤ A.block) ∧ WAt w' x.a x.r.words ∧ Mv b len w w'
def wordsL : List St := [[111, 107, 97, 121], [100, 105, 115, 97, 98, 108, 101, 100], [97], [102, 105, 114, 115, 116]]
theorem wordsL_ok : wordsL.all visP = true := by kernel_rfl
theorem Mv.setc2 {w w1 : World} {b len B o : Nat} {v : Value} (h : Mv b len w w1) (hB : w.heap.size ≤ B) : Mv b len w (w1.setCell ⟨B, o, none⟩ v) := h.setc hB
set_option maxRecDepth 100000 in
theorem rulEnd {W w : World} {b len RB NB : Nat} {x : RM} {s1 s4 s5 s6 s7 s8 s9 s10 s11 s12 s13 s14 s15 s16 s17 s18 s19 s20 s21 s22 s23 s24 s25 s26 s27 s28 s29 s30 s31 s32 s33 s34 s35 s36 s37 s38 s39 s40 s41 s42 s43 : Value}
    (hro : Row W RB 28 [.string ⟨#[]⟩, .bool false, .int .i64 0, .int .i64 0, .int .i64 0, .int .i64 0, .slice none 0 0]) (hbox : Row W NB 28 x.enc) (hs : w.heap.size ≤ RB) (hm : Mv b len w W)
    (hx : ruleP x.r = true ∧ x.r.name ∈ propsL ∧ x.r.words.length ≤ x.c) (ha : ∀ A, x.a = some A → w.heap.size ≤ A.block) (hw : WAt W x.a x.r.words) :
    (tl 3 Tryz.f44).wp Tryz.prog (bodyPost Tryz.prog Tryz.f44 (GivesRul b len w)) { tmps := #[.pointer (some ⟨b, 0, none⟩), s1, .pointer (some ⟨RB, 0, none⟩), .pointer (some ⟨NB, 0, none⟩), s4, s5, s6, s7, s8, s9, s10, s11, s12, s13, s14, s15, s16, s17, s18, s19, s20, s21, s22, s23, s24, s25, s26, s27, s28, s29, s30, s31, s32, s33, s34, s35, s36, s37, s38, s39, s40, s41, s42, s43], defers := [] } W := by
  have RO := Lib.hid hro
  have BX := Lib.hid hbox
  have HM := Lib.hid hm
  have HX := Lib.hid hx
  have HA := Lib.hid ha
  have r0 : W.cell? ⟨RB, 0, none⟩ = some (.string ⟨#[]⟩) := RO.out.cell 0 (by simp)
  have r1 : W.cell? ⟨RB, 1, none⟩ = some (.bool false) := RO.out.cell 1 (by simp)
  have r2 : W.cell? ⟨RB, 2, none⟩ = some (.int .i64 0) := RO.out.cell 2 (by simp)
  have r3 : W.cell? ⟨RB, 3, none⟩ = some (.int .i64 0) := RO.out.cell 3 (by simp)
  have r4 : W.cell? ⟨RB, 4, none⟩ = some (.int .i64 0) := RO.out.cell 4 (by simp)
  have r5 : W.cell? ⟨RB, 5, none⟩ = some (.int .i64 0) := RO.out.cell 5 (by simp)
  have r6 : W.cell? ⟨RB, 6, none⟩ = some (.slice none 0 0) := RO.out.cell 6 (by simp)
  have q0 := RO.out.free 0
  have q1 := RO.out.free 1
  have q2 := RO.out.free 2
  have q3 := RO.out.free 3
  have q4 := RO.out.free 4
  have q5 := RO.out.free 5
  have q6 := RO.out.free 6
  have hh := has_of_cell r0
  have n0 : W.cell? ⟨NB, 0, none⟩ = some (.string (bs x.r.name)) := BX.out.cell 0 (by simp [RM.enc])
  have n1 : W.cell? ⟨NB, 1, none⟩ = some (.bool x.r.req) := BX.out.cell 1 (by simp [RM.enc])
  have n2 : W.cell? ⟨NB, 2, none⟩ = some (.int .i64 x.r.kind) := BX.out.cell 2 (by simp [RM.enc])
  have n3 : W.cell? ⟨NB, 3, none⟩ = some (.int .i64 x.r.low) := BX.out.cell 3 (by simp [RM.enc])
  have n4 : W.cell? ⟨NB, 4, none⟩ = some (.int .i64 x.r.high) := BX.out.cell 4 (by simp [RM.enc])
  have n5 : W.cell? ⟨NB, 5, none⟩ = some (.int .i64 x.r.count) := BX.out.cell 5 (by simp [RM.enc])
  have n6 : W.cell? ⟨NB, 6, none⟩ = some (.slice x.a x.r.words.length x.c) := BX.out.cell 6 (by simp [RM.enc])
  have hn := has_of_cell n0
  have HS := Lib.hid hs
  have WW : Hid (∀ (v0 v1 v2 v3 v4 v5 v6 : Value), WAt (((((((W.setCell ⟨RB, 0, none⟩ v0).setCell ⟨RB, 1, none⟩ v1).setCell ⟨RB, 2, none⟩ v2).setCell ⟨RB, 3, none⟩ v3).setCell ⟨RB, 4, none⟩ v4).setCell ⟨RB, 5, none⟩ v5).setCell ⟨RB, 6, none⟩ v6) x.a x.r.words) := Lib.hid (by
    intro v0 v1 v2 v3 v4 v5 v6
    rcases hw with q | ⟨B, o, vs, h1, h2, h3⟩
    · exact .inl q
    · have ne : RB ≠ B := RO.out.ty.apart h2.ty (by decide)
      exact .inr ⟨B, o, vs, h1, ((((((h2.oth ne).oth ne).oth ne).oth ne).oth ne).oth ne).oth ne, h3⟩)
  refine wp_code_eq (c := (Code.region 12 (regIn 12 Tryz.f44) false).seq .ret) (by kernel_rfl) ?_
  simp only [regIn, Tryz.f44, regOps, Option.bind_some, Option.getD_some, Nat.beq, cond_true, cond_false]
  clear hro hbox hs hm hx hw ha
  go_wp2_with fail
  have RR := ((((((RO.out.set 0 (.string (bs x.r.name))).set 1 (.bool x.r.req)).set 2 (.int .i64 x.r.kind)).set 3 (.int .i64 x.r.low)).set 4 (.int .i64 x.r.high)).set 5 (.int .i64 x.r.count)).set 6 (.slice x.a x.r.words.length x.c)
  have z0 := RR.cell 0 (by simp)
  have z1 := RR.cell 1 (by simp)
  have z2 := RR.cell 2 (by simp)
  have z3 := RR.cell 3 (by simp)
  have z4 := RR.cell 4 (by simp)
  have z5 := RR.cell 5 (by simp)
  have z6 := RR.cell 6 (by simp)
  simp only [List.set_cons_zero, List.set_cons_succ, List.getElem_cons_succ, List.getElem_cons_zero] at z0 z1 z2 z3 z4 z5 z6
  refine bodyPost_ret (v := .agg #[.string (bs x.r.name), .bool x.r.req, .int .i64 x.r.kind, .int .i64 x.r.low, .int .i64 x.r.high, .int .i64 x.r.count, .slice x.a x.r.words.length x.c]) (by simp [results, Tryz.results44, go_sem, z0, z1, z2, z3, z4, z5, z6]) rfl ?_
  exact ⟨x, rfl, HX.out.1, HX.out.2.1, HX.out.2.2, HA.out, WW.out _ _ _ _ _ _ _, (((((((HM.out.setc HS.out).setc HS.out).setc HS.out).setc HS.out).setc HS.out).setc HS.out).setc HS.out)⟩
end Go.Proofs.YtadldblpkgackaaGreatDoor
set_option linter.unusedVariables false
set_option linter.unusedSimpArgs false
namespace Go.Proofs.YtadldblpkgackaaGreatDoor
open Go.RowKit
open Classical

def picks5 : List Int := [0, 1, 100, 2147483648, 4294967195]
/-- After the store. -/
def Fin5 (wr : World) (b len NB : Nat) (vs : List Value) (lo : Int) (w : World) : Prop :=
  ∃ (w1 : World) (x : Int), w = w1.setCell ⟨NB, 4, none⟩ (.int .i64 (lo + x)) ∧ 0 ≤ x ∧ x ≤ 4294967195 ∧ Mv b len wr w1 ∧ Row w1 NB 28 vs
/-- What is known of each slot as soon as its operation is done. -/
def gr5F (wr : World) (b len NB : Nat) (vs : List Value) (lo : Int) (t20 t21 t22 t23 t24 t25 t26 : Value) (d : Array Bool) (w : World) : Prop :=
  (d.getD 7 false = false → Mv b len wr w ∧ Row w NB 28 vs) ∧ (d.getD 0 false = true → t20 = .pointer (some ⟨NB, 3, none⟩)) ∧
  (d.getD 1 false = true → t21 = .int .i64 lo) ∧
  (d.getD 2 false = true → t22 = .pointer (some ⟨b, 0, none⟩)) ∧
  (d.getD 3 false = true → (d.getD 7 false = false → (∃ B, t23 = .slice (some ⟨B, 0, none⟩) 5 5 ∧ B ≠ b ∧ Row w B 3 (nums picks5)))) ∧
  (d.getD 4 false = true → ∃ x : Int, t24 = .int .i64 x ∧ 0 ≤ x ∧ x ≤ 4294967195) ∧
  (d.getD 5 false = true → ∃ x : Int, t25 = .int .i64 (lo + x) ∧ 0 ≤ x ∧ x ≤ 4294967195) ∧
  (d.getD 6 false = true → t26 = .pointer (some ⟨NB, 4, none⟩)) ∧
  (d.getD 7 false = true → ((∀ j, j < 7 → d.getD j false = true) ∧ Fin5 wr b len NB vs lo w))
/-- The frame. -/
def gr5A (b NB : Nat) (t20 t21 t22 t23 t24 t25 t26 s1 s2 s4 s5 s6 s7 s8 s9 s10 s11 s12 s13 s14 s15 s16 s17 s18 s19 s27 s28 s29 s30 s31 s32 s33 s34 s35 s36 s37 s38 s39 s40 s41 s42 s43 : Value) : Act := { tmps := #[.pointer (some ⟨b, 0, none⟩), s1, s2, .pointer (some ⟨NB, 0, none⟩), s4, s5, s6, s7, s8, s9, s10, s11, s12, s13, s14, s15, s16, s17, s18, s19, t20, t21, t22, t23, t24, t25, t26, s27, s28, s29, s30, s31, s32, s33, s34, s35, s36, s37, s38, s39, s40, s41, s42, s43], defers := [] }

set_option maxRecDepth 100000 in
set_option maxHeartbeats 4000000 in
theorem gr5 {Q : Exit → Act → World → Prop} {wr : World} {b len NB : Nat} {vs : List Value} {lo : Int}  {s1 s2 s4 s5 s6 s7 s8 s9 s10 s11 s12 s13 s14 s15 s16 s17 s18 s19 s20 s21 s22 s23 s24 s25 s26 s27 s28 s29 s30 s31 s32 s33 s34 s35 s36 s37 s38 s39 s40 s41 s42 s43 : Value} (htp : Tp wr b len) (hrow : Row wr NB 28 vs) (h3 : vs[3]? = some (.int .i64 lo)) (hlen : vs.length = 7) (hlo : 0 ≤ lo ∧ lo ≤ 100) (hne : NB ≠ b)
    (h' : ∀ t20 t21 t22 t23 t24 t25 t26 wx, Fin5 wr b len NB vs lo wx → Q .normal (gr5A b NB t20 t21 t22 t23 t24 t25 t26 s1 s2 s4 s5 s6 s7 s8 s9 s10 s11 s12 s13 s14 s15 s16 s17 s18 s19 s27 s28 s29 s30 s31 s32 s33 s34 s35 s36 s37 s38 s39 s40 s41 s42 s43) wx) :
    (Code.region 5 (regIn 5 Tryz.f44) true).wp Tryz.prog Q { tmps := #[.pointer (some ⟨b, 0, none⟩), s1, s2, .pointer (some ⟨NB, 0, none⟩), s4, s5, s6, s7, s8, s9, s10, s11, s12, s13, s14, s15, s16, s17, s18, s19, s20, s21, s22, s23, s24, s25, s26, s27, s28, s29, s30, s31, s32, s33, s34, s35, s36, s37, s38, s39, s40, s41, s42, s43], defers := [] } wr := by
  have HTP := PLift.up htp
  have HRW := PLift.up hrow
  have HV3 := PLift.up h3
  have HL7 := PLift.up hlen
  have HLO := PLift.up hlo
  have HNB := PLift.up (And.intro hne trivial)
  have HBS := PLift.up htp.has
  clear htp hrow h3 hlen hlo hne
  simp only [regIn, Tryz.f44, regOps, Option.bind_some, Option.getD_some, Nat.beq, cond_true, cond_false]
  refine wp_region_steps (fun done a w => ∃ t20 t21 t22 t23 t24 t25 t26, a = gr5A b NB t20 t21 t22 t23 t24 t25 t26 s1 s2 s4 s5 s6 s7 s8 s9 s10 s11 s12 s13 s14 s15 s16 s17 s18 s19 s27 s28 s29 s30 s31 s32 s33 s34 s35 s36 s37 s38 s39 s40 s41 s42 s43 ∧ gr5F wr b len NB vs lo t20 t21 t22 t23 t24 t25 t26 done w) (by kernel_rfl) (by kernel_rfl) ?_ ⟨?_, ?_, ?_, ?_, ?_, ?_, ?_, ?_, trivial⟩ ?_
  · exact ⟨s20, s21, s22, s23, s24, s25, s26, rfl, fun _ => ⟨Mv.of_gr HTP.down (Gr.refl _).drew, HRW.down.drew⟩, fun q => absurd q (by decide), fun q => absurd q (by decide), fun q => absurd q (by decide), fun q => absurd q (by decide), fun q => absurd q (by decide), fun q => absurd q (by decide), fun q => absurd q (by decide), fun q => absurd q (by decide)⟩
  · rintro done a w hsz hnot hdep ⟨t20, t21, t22, t23, t24, t25, t26, rfl, gw, f0, f1, f2, f3, f4, f5, f6, f7⟩ K hK
    have hn : ¬ done.getD 0 false = true := by rw [getD_both hnot]; decide
    have n7 : done.getD 7 false = false := by
      cases e : done.getD 7 false with
      | false => rfl
      | true => exact absurd ((f7 e).1 0 (by decide)) hn
    replace gw := gw n7
    have HK := PLift.up hK
    clear hK 
    simp only [gr5A]
    go_simp
    have gg : Gr w w := Gr.refl _
    refine HK.down _ _ ⟨_, _, _, _, _, _, _, rfl, fun _ => gw, fun _ => rfl, fun q => f1 (done_old q (by decide)), fun q => f2 (done_old q (by decide)), fun q q2 => (let ⟨B, e, h2, h3⟩ := f3 (done_old q (by decide)) n7; ⟨B, e, h2, h3.gr gg⟩), fun q => f4 (done_old q (by decide)), fun q => f5 (done_old q (by decide)), fun q => f6 (done_old q (by decide)), fun q => absurd ((f7 (done_old q (by decide))).1 0 (by decide)) hn⟩
  · rintro done a w hsz hnot hdep ⟨t20, t21, t22, t23, t24, t25, t26, rfl, gw, f0, f1, f2, f3, f4, f5, f6, f7⟩ K hK
    have hn : ¬ done.getD 1 false = true := by rw [getD_both hnot]; decide
    have d0 := hdep 0 (by kernel_rfl)
    obtain rfl := f0 d0
    have n7 : done.getD 7 false = false := by
      cases e : done.getD 7 false with
      | false => rfl
      | true => exact absurd ((f7 e).1 1 (by decide)) hn
    replace gw := gw n7
    have c3 : w.cell? ⟨NB, 3, none⟩ = some (.int .i64 lo) := by rw [gw.2.cell 3 (List.getElem?_eq_some_iff.1 HV3.down).1]; exact congrArg some (List.getElem?_eq_some_iff.1 HV3.down).2
    have ch := has_of_cell c3
    have HK := PLift.up hK
    clear hK d0
    simp only [gr5A]
    go_simp
    have gg : Gr w w := Gr.refl _
    refine HK.down _ _ ⟨_, _, _, _, _, _, _, rfl, fun _ => gw, fun q => f0 (done_old q (by decide)), fun _ => rfl, fun q => f2 (done_old q (by decide)), fun q q2 => (let ⟨B, e, h2, h3⟩ := f3 (done_old q (by decide)) n7; ⟨B, e, h2, h3.gr gg⟩), fun q => f4 (done_old q (by decide)), fun q => f5 (done_old q (by decide)), fun q => f6 (done_old q (by decide)), fun q => absurd ((f7 (done_old q (by decide))).1 1 (by decide)) hn⟩
  · rintro done a w hsz hnot hdep ⟨t20, t21, t22, t23, t24, t25, t26, rfl, gw, f0, f1, f2, f3, f4, f5, f6, f7⟩ K hK
    have hn : ¬ done.getD 2 false = true := by rw [getD_both hnot]; decide
    have n7 : done.getD 7 false = false := by
      cases e : done.getD 7 false with
      | false => rfl
      | true => exact absurd ((f7 e).1 2 (by decide)) hn
    replace gw := gw n7
    have HK := PLift.up hK
    clear hK 
    simp only [gr5A]
    go_simp
    have gg : Gr w w := Gr.refl _
    refine HK.down _ _ ⟨_, _, _, _, _, _, _, rfl, fun _ => gw, fun q => f0 (done_old q (by decide)), fun q => f1 (done_old q (by decide)), fun _ => rfl, fun q q2 => (let ⟨B, e, h2, h3⟩ := f3 (done_old q (by decide)) n7; ⟨B, e, h2, h3.gr gg⟩), fun q => f4 (done_old q (by decide)), fun q => f5 (done_old q (by decide)), fun q => f6 (done_old q (by decide)), fun q => absurd ((f7 (done_old q (by decide))).1 2 (by decide)) hn⟩
  · rintro done a w hsz hnot hdep ⟨t20, t21, t22, t23, t24, t25, t26, rfl, gw, f0, f1, f2, f3, f4, f5, f6, f7⟩ K hK
    have hn : ¬ done.getD 3 false = true := by rw [getD_both hnot]; decide
    have n7 : done.getD 7 false = false := by
      cases e : done.getD 7 false with
      | false => rfl
      | true => exact absurd ((f7 e).1 3 (by decide)) hn
    replace gw := gw n7
    have HNE := PLift.up (show w.heap.size ≠ b by have := (gw.1.tp HTP.down).has; omega)
    have HK := PLift.up hK
    clear hK 
    simp only [gr5A]
    go_simp
    have gg : Gr w (w.alloc (.cells #[.int .i64 0, .int .i64 1, .int .i64 100, .int .i64 2147483648, .int .i64 4294967195] 3)) := (Gr.refl _).alloc _
    refine HK.down _ _ ⟨_, _, _, _, _, _, _, rfl, fun _ => ⟨gw.1.gr gg, gw.2.gr gg⟩, fun q => f0 (done_old q (by decide)), fun q => f1 (done_old q (by decide)), fun q => f2 (done_old q (by decide)), ?_, fun q => f4 (done_old q (by decide)), fun q => f5 (done_old q (by decide)), fun q => f6 (done_old q (by decide)), fun q => absurd ((f7 (done_old q (by decide))).1 3 (by decide)) hn⟩
    exact fun _ _ => ⟨_, rfl, HNE.down, Row.new w _ _⟩
  · rintro done a w hsz hnot hdep ⟨t20, t21, t22, t23, t24, t25, t26, rfl, gw, f0, f1, f2, f3, f4, f5, f6, f7⟩ K hK
    have hn : ¬ done.getD 4 false = true := by rw [getD_both hnot]; decide
    have d2 := hdep 2 (by kernel_rfl)
    have d3 := hdep 3 (by kernel_rfl)
    obtain rfl := f2 d2
    have n7 : done.getD 7 false = false := by
      cases e : done.getD 7 false with
      | false => rfl
      | true => exact absurd ((f7 e).1 4 (by decide)) hn
    replace gw := gw n7
    obtain ⟨B, rfl, h2, h3⟩ := f3 d3 n7
    have HB := PLift.up h2
    have HR := PLift.up h3
    have TP := PLift.up (gw.1.tp HTP.down)
    have GW := PLift.up gw
    clear h2 h3
    have HK := PLift.up hK
    clear hK d2
    simp only [gr5A]
    go_simp
    refine (pickM_any w b len TP.down B 5 (fun x => 0 ≤ x ∧ x ≤ 4294967195) (by omega) (by omega) HB.down (fun k hk => ?_)).mono ?_
    · have hk2 : k < picks5.length := hk
      refine ⟨_, HR.down.iat k hk2, ?_⟩
      have : ∀ z ∈ picks5, 0 ≤ z ∧ z ≤ 4294967195 := by decide
      exact this _ (List.getElem_mem hk2)
    rintro e w2 ⟨x, rfl, ⟨x0, x1⟩, hm⟩
    (try go_simp)
    refine HK.down _ _ ⟨_, _, _, _, _, _, _, rfl, fun _ => ⟨GW.down.1.trans HBS.down hm, hm.row GW.down.2 HNB.down.1⟩, fun q => f0 (done_old q (by decide)), fun q => f1 (done_old q (by decide)), fun q => f2 (done_old q (by decide)), fun _ _ => ⟨B, rfl, HB.down, hm.row HR.down HB.down⟩, ?_, fun q => f5 (done_old q (by decide)), fun q => f6 (done_old q (by decide)), fun q => absurd ((f7 (done_old q (by decide))).1 4 (by decide)) hn⟩
    exact fun _ => ⟨x, rfl, x0, x1⟩
  · rintro done a w hsz hnot hdep ⟨t20, t21, t22, t23, t24, t25, t26, rfl, gw, f0, f1, f2, f3, f4, f5, f6, f7⟩ K hK
    have hn : ¬ done.getD 5 false = true := by rw [getD_both hnot]; decide
    have d1 := hdep 1 (by kernel_rfl)
    have d4 := hdep 4 (by kernel_rfl)
    obtain rfl := f1 d1
    have n7 : done.getD 7 false = false := by
      cases e : done.getD 7 false with
      | false => rfl
      | true => exact absurd ((f7 e).1 5 (by decide)) hn
    replace gw := gw n7
    obtain ⟨x, rfl, x0, x1⟩ := f4 d4
    have hlo := HLO.down
    have HK := PLift.up hK
    clear hK d1
    simp only [gr5A]
    go_simp
    rw [Go.IntWalk.i64_in (lo + x) (by omega)]
    have gg : Gr w w := Gr.refl _
    refine HK.down _ _ ⟨_, _, _, _, _, _, _, rfl, fun _ => gw, fun q => f0 (done_old q (by decide)), fun q => f1 (done_old q (by decide)), fun q => f2 (done_old q (by decide)), fun q q2 => (let ⟨B, e, h2, h3⟩ := f3 (done_old q (by decide)) n7; ⟨B, e, h2, h3.gr gg⟩), fun _ => ⟨x, rfl, x0, x1⟩, ?_, fun q => f6 (done_old q (by decide)), fun q => absurd ((f7 (done_old q (by decide))).1 5 (by decide)) hn⟩
    exact fun _ => ⟨x, rfl, x0, x1⟩
  · rintro done a w hsz hnot hdep ⟨t20, t21, t22, t23, t24, t25, t26, rfl, gw, f0, f1, f2, f3, f4, f5, f6, f7⟩ K hK
    have hn : ¬ done.getD 6 false = true := by rw [getD_both hnot]; decide
    have n7 : done.getD 7 false = false := by
      cases e : done.getD 7 false with
      | false => rfl
      | true => exact absurd ((f7 e).1 6 (by decide)) hn
    replace gw := gw n7
    have HK := PLift.up hK
    clear hK 
    simp only [gr5A]
    go_simp
    have gg : Gr w w := Gr.refl _
    refine HK.down _ _ ⟨_, _, _, _, _, _, _, rfl, fun _ => gw, fun q => f0 (done_old q (by decide)), fun q => f1 (done_old q (by decide)), fun q => f2 (done_old q (by decide)), fun q q2 => (let ⟨B, e, h2, h3⟩ := f3 (done_old q (by decide)) n7; ⟨B, e, h2, h3.gr gg⟩), fun q => f4 (done_old q (by decide)), fun q => f5 (done_old q (by decide)), fun _ => rfl, fun q => absurd ((f7 (done_old q (by decide))).1 6 (by decide)) hn⟩
  · rintro done a w hsz hnot hdep ⟨t20, t21, t22, t23, t24, t25, t26, rfl, gw, f0, f1, f2, f3, f4, f5, f6, f7⟩ K hK
    have hn : ¬ done.getD 7 false = true := by rw [getD_both hnot]; decide
    have d0 := hdep 0 (by kernel_rfl)
    have d1 := hdep 1 (by kernel_rfl)
    have d2 := hdep 2 (by kernel_rfl)
    have d3 := hdep 3 (by kernel_rfl)
    have d4 := hdep 4 (by kernel_rfl)
    have d5 := hdep 5 (by kernel_rfl)
    have d6 := hdep 6 (by kernel_rfl)
    obtain rfl := f0 d0
    obtain rfl := f1 d1
    obtain rfl := f2 d2
    obtain rfl := f6 d6
    obtain ⟨x, rfl, x0, x1⟩ := f5 d5
    have n7 := getD_both hnot
    have g1 := gw n7
    have cf := g1.2.free 4
    have c4 : w.cell? ⟨NB, 4, none⟩ = some (vs[4]'(by rw [HL7.down]; omega)) := g1.2.cell 4 (by rw [HL7.down]; omega)
    have ch := has_of_cell c4
    have FN := PLift.up (show Fin5 wr b len NB vs lo (w.setCell ⟨NB, 4, none⟩ (.int .i64 (lo + x))) from ⟨w, x, rfl, x0, x1, g1.1, g1.2⟩)
    have DD := PLift.up (show ∀ j, j < 7 → done.getD j false = true from by intro j hj; match j, hj with | 0, _ => exact d0 | 1, _ => exact d1 | 2, _ => exact d2 | 3, _ => exact d3 | 4, _ => exact d4 | 5, _ => exact d5 | 6, _ => exact d6)
    have HK := PLift.up hK
    clear hK d0 d1 d2 d6
    simp only [gr5A]
    go_simp
    refine HK.down _ _ ⟨_, _, _, _, _, _, _, rfl, fun q => absurd q (by rw [getD_set_same (by rw [hsz]; decide)]; decide), fun q => f0 (done_old q (by decide)), fun q => f1 (done_old q (by decide)), fun q => f2 (done_old q (by decide)), fun _ q2 => absurd q2 (by rw [getD_set_same (by rw [hsz]; decide)]; decide), fun q => f4 (done_old q (by decide)), fun _ => ⟨x, rfl, x0, x1⟩, fun q => f6 (done_old q (by decide)), ?_⟩
    exact fun _ => ⟨fun j hj => getD_set_true (DD.down j hj), FN.down⟩
  · rintro done a w hall ⟨t20, t21, t22, t23, t24, t25, t26, rfl, gw, f0, f1, f2, f3, f4, f5, f6, f7⟩
    exact h' _ _ _ _ _ _ _ w (f7 (hall 7 (by decide))).2
end Go.Proofs.YtadldblpkgackaaGreatDoor

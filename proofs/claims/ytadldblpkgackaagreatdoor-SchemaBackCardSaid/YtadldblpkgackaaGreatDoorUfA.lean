/- Names and words that a tape picks. -/
import Derived.Test.YtadldblpkgackaaGreatDoorUdA
import Derived.Test.YtadldblpkgackaaGreatDoorUbQ
set_option linter.unusedVariables false
set_option linter.unusedSimpArgs false
namespace Go.Proofs.YtadldblpkgackaaGreatDoor
open Go.RowKit
open Classical

def propsL : List St := [[114, 101, 103], [99, 111, 109, 112, 97, 116, 105, 98, 108, 101], [115, 116, 97, 116, 117, 115], [99, 108, 111, 99, 107, 115], [35, 99, 101, 108, 108, 115], [112], [113], [108, 97, 98, 101, 108], [118, 97, 108, 117, 101]]
theorem props_ok : propsL.all (fun s => propOk s && decide (s.length ≤ 31)) = true := by kernel_rfl
theorem prop_ok {s : St} (h : s ∈ propsL) : propOk s = true ∧ s.length ≤ 31 := by
  have := List.all_eq_true.1 props_ok s h
  simpa using this
theorem strV_get {l : List St} {k : Nat} (h : k < l.length) (h2 : k < (strV l).length) : (strV l)[k] = .string (bs l[k]) := by simp [strV]
set_option maxHeartbeats 1000000 in
theorem property_any (w : World) (b len : Nat) (h : Tp w b len) :
    Calls Tryz.prog 84 #[.pointer (some ⟨b, 0, none⟩)] w fun e w' => ∃ s, s ∈ propsL ∧ e = .returned (.string (bs s)) ∧ Mv b len w w' := by
  have H := Lib.hid h
  have hb := h.has
  clear h
  go_enter Tryz.func84, Tryz.ntmps84
  go_wp2_with fail
  have RX : Hid (Row (w.alloc (.cells #[.string ⟨#[114, 101, 103]⟩, .string ⟨#[99, 111, 109, 112, 97, 116, 105, 98, 108, 101]⟩, .string ⟨#[115, 116, 97, 116, 117, 115]⟩, .string ⟨#[99, 108, 111, 99, 107, 115]⟩, .string ⟨#[35, 99, 101, 108, 108, 115]⟩, .string ⟨#[112]⟩, .string ⟨#[113]⟩, .string ⟨#[108, 97, 98, 101, 108]⟩, .string ⟨#[118, 97, 108, 117, 101]⟩] 9)) w.heap.size 9 (strV propsL)) := Lib.hid (Row.new w #[.string ⟨#[114, 101, 103]⟩, .string ⟨#[99, 111, 109, 112, 97, 116, 105, 98, 108, 101]⟩, .string ⟨#[115, 116, 97, 116, 117, 115]⟩, .string ⟨#[99, 108, 111, 99, 107, 115]⟩, .string ⟨#[35, 99, 101, 108, 108, 115]⟩, .string ⟨#[112]⟩, .string ⟨#[113]⟩, .string ⟨#[108, 97, 98, 101, 108]⟩, .string ⟨#[118, 97, 108, 117, 101]⟩] 9)
  obtain ⟨W, hW⟩ : ∃ W : World, Hid (W = w.alloc (.cells #[.string ⟨#[114, 101, 103]⟩, .string ⟨#[99, 111, 109, 112, 97, 116, 105, 98, 108, 101]⟩, .string ⟨#[115, 116, 97, 116, 117, 115]⟩, .string ⟨#[99, 108, 111, 99, 107, 115]⟩, .string ⟨#[35, 99, 101, 108, 108, 115]⟩, .string ⟨#[112]⟩, .string ⟨#[113]⟩, .string ⟨#[108, 97, 98, 101, 108]⟩, .string ⟨#[118, 97, 108, 117, 101]⟩] 9)) := ⟨_, Lib.hid rfl⟩
  have GW : Hid (Gr w W) := Lib.hid (by rw [hW.out]; exact (Gr.refl _).alloc _)
  rw [← hW.out] at RX ⊢
  clear hW
  refine (nM_any W b len 9 (H.out.gr GW.out) (by omega) (by omega)).mono ?_
  rintro e w1 ⟨x, rfl, ⟨x0, x1⟩, hm⟩
  have MV := Lib.hid ((Mv.of_gr H.out GW.out).trans H.out.has hm)
  have RY := Lib.hid (hm.row RX.out (by omega))
  obtain ⟨k, rfl⟩ := Int.eq_ofNat_of_zero_le x0
  have hk : k < propsL.length := by simp [propsL]; omega
  have c0 := RY.out.cell k (by simpa [strV] using hk)
  rw [strV_get hk] at c0
  have hh := has_of_cell c0
  have k9 : (k : Int) < 9 := by omega
  have MEM := Lib.hid (List.getElem_mem hk)
  obtain ⟨s, hs⟩ : ∃ s, propsL[k] = s := ⟨_, rfl⟩
  rw [hs] at c0 MEM
  clear hm hs x0 x1
  go_wp2_with fail
  go_ret
  exact ⟨s, MEM.out, rfl, MV.out⟩
/-- A rule that a tape makes. -/
def GivesRul (b len : Nat) (w : World) (e : Ending) (w' : World) : Prop := ∃ x : RM, e = .returned (.agg #[.string (bs x.r.name), .bool x.r.req, .int .i64 x.r.kind, .int .i64 x.r.low, .int .i64 x.r.high, .int .i64 x.r.count, .slice x.a x.r.words.length x.c]) ∧ ruleP x.r = true ∧ x.r.name ∈ propsL ∧ x.r.words.length ≤ x.c ∧ (∀ A, x.a = some A → w.heap.size ≤ A.block) ∧ WAt w' x.a x.r.words ∧ Mv b len w w'
def wordsL : List St := [[111, 107, 97, 121], [100, 105, 115, 97, 98, 108, 101, 100], [97], [102, 105, 114, 115, 116]]
theorem wordsL_ok : wordsL.all visP = true := by kernel_rfl
theorem Mv.setc2 {w w1 : World} {b len B o : Nat} {v : Value} (h : Mv b len w w1) (hB : w.heap.size ≤ B) : Mv b len w (w1.setCell ⟨B, o, none⟩ v) := h.setc hB
set_option maxRecDepth 100000 in
theorem rulEnd {W w : World} {b len RB NB : Nat} {x : RM} {s1 s4 s5 s6 s7 s8 s9 s10 s11 s12 s13 s14 s15 s16 s17 s18 s19 s20 s21 s22 s23 s24 s25 s26 s27 s28 s29 s30 s31 s32 s33 s34 s35 s36 s37 s38 s39 s40 s41 s42 s43 : Value}
    (hro : Row W RB 28 [.string ⟨#[]⟩, .bool false, .int .i64 0, .int .i64 0, .int .i64 0, .int .i64 0, .slice none 0 0]) (hbox : Row W NB 28 x.enc) (hs : w.heap.size ≤ RB) (hm : Mv b len w W)
    (hx : ruleP x.r = true ∧ x.r.name ∈ propsL ∧ x.r.words.length ≤ x.c) (ha : ∀ A, x.a = some A → w.heap.size ≤ A.block) (hw : WAt W x.a x.r.words) :
    (tl 3 Tryz.f44).wp Tryz.prog (bodyPost Tryz.prog Tryz.f44 (GivesRul b len w)) { tmps := #[.pointer (some ⟨b, 0, none⟩), s1, .pointer (some ⟨RB, 0, none⟩), .pointer (some ⟨NB, 0, none⟩), s4, s5, s6, s7, s8, s9, s10, s11, s12, s13, s14, s15, s16, s17, s18, s19, s20, s21, s22, s23, s24, s25, s26, s27, s28, s29, s30, s31, s32, s33, s34, s35, s36, s37, s38, s39, s40, s41, s42, s43], defers := [] } W := by
  have RO := Lib.hid hro
  have BX := Lib.hid hbox
  have HM := Lib.hid hm
  have HX := Lib.hid hx
  have HA := Lib.hid ha
  have r0 : W.cell? ⟨RB, 0, none⟩ = some (.string ⟨#[]⟩) := RO.out.cell 0 (by simp)
  have r1 : W.cell? ⟨RB, 1, none⟩ = some (.bool false) := RO.out.cell 1 (by simp)
  have r2 : W.cell? ⟨RB, 2, none⟩ = some (.int .i64 0) := RO.out.cell 2 (by simp)
  have r3 : W.cell? ⟨RB, 3, none⟩ = some (.int .i64 0) := RO.out.cell 3 (by simp)
  have r4 : W.cell? ⟨RB, 4, none⟩ = some (.int .i64 0) := RO.out.cell 4 (by simp)
  have r5 : W.cell? ⟨RB, 5, none⟩ = some (.int .i64 0) := RO.out.cell 5 (by simp)
  have r6 : W.cell? ⟨RB, 6, none⟩ = some (.slice none 0 0) := RO.out.cell 6 (by simp)
  have q0 := RO.out.free 0
  have q1 := RO.out.free 1
  have q2 := RO.out.free 2
  have q3 := RO.out.free 3
  have q4 := RO.out.free 4
  have q5 := RO.out.free 5
  have q6 := RO.out.free 6
  have hh := has_of_cell r0
  have n0 : W.cell? ⟨NB, 0, none⟩ = some (.string (bs x.r.name)) := BX.out.cell 0 (by simp [RM.enc])
  have n1 : W.cell? ⟨NB, 1, none⟩ = some (.bool x.r.req) := BX.out.cell 1 (by simp [RM.enc])
  have n2 : W.cell? ⟨NB, 2, none⟩ = some (.int .i64 x.r.kind) := BX.out.cell 2 (by simp [RM.enc])
  have n3 : W.cell? ⟨NB, 3, none⟩ = some (.int .i64 x.r.low) := BX.out.cell 3 (by simp [RM.enc])
  have n4 : W.cell? ⟨NB, 4, none⟩ = some (.int .i64 x.r.high) := BX.out.cell 4 (by simp [RM.enc])
  have n5 : W.cell? ⟨NB, 5, none⟩ = some (.int .i64 x.r.count) := BX.out.cell 5 (by simp [RM.enc])
  have n6 : W.cell? ⟨NB, 6, none⟩ = some (.slice x.a x.r.words.length x.c) := BX.out.cell 6 (by simp [RM.enc])
  have hn := has_of_cell n0
  have HS := Lib.hid hs
  have WW : Hid (∀ (v0 v1 v2 v3 v4 v5 v6 : Value), WAt (((((((W.setCell ⟨RB, 0, none⟩ v0).setCell ⟨RB, 1, none⟩ v1).setCell ⟨RB, 2, none⟩ v2).setCell ⟨RB, 3, none⟩ v3).setCell ⟨RB, 4, none⟩ v4).setCell ⟨RB, 5, none⟩ v5).setCell ⟨RB, 6, none⟩ v6) x.a x.r.words) := Lib.hid (by
    intro v0 v1 v2 v3 v4 v5 v6
    rcases hw with q | ⟨B, o, vs, h1, h2, h3⟩
    · exact .inl q
    · have ne : RB ≠ B := RO.out.ty.apart h2.ty (by decide)
      exact .inr ⟨B, o, vs, h1, ((((((h2.oth ne).oth ne).oth ne).oth ne).oth ne).oth ne).oth ne, h3⟩)
  refine wp_code_eq (c := (Code.region 12 (regIn 12 Tryz.f44) false).seq .ret) (by kernel_rfl) ?_
  simp only [regIn, Tryz.f44, regOps, Option.bind_some, Option.getD_some, Nat.beq, cond_true, cond_false]
  clear hro hbox hs hm hx hw ha
  go_wp2_with fail
  have RR := ((((((RO.out.set 0 (.string (bs x.r.name))).set 1 (.bool x.r.req)).set 2 (.int .i64 x.r.kind)).set 3 (.int .i64 x.r.low)).set 4 (.int .i64 x.r.high)).set 5 (.int .i64 x.r.count)).set 6 (.slice x.a x.r.words.length x.c)
  have z0 := RR.cell 0 (by simp)
  have z1 := RR.cell 1 (by simp)
  have z2 := RR.cell 2 (by simp)
  have z3 := RR.cell 3 (by simp)
  have z4 := RR.cell 4 (by simp)
  have z5 := RR.cell 5 (by simp)
  have z6 := RR.cell 6 (by simp)
  simp only [List.set_cons_zero, List.set_cons_succ, List.getElem_cons_succ, List.getElem_cons_zero] at z0 z1 z2 z3 z4 z5 z6
  refine bodyPost_ret (v := .agg #[.string (bs x.r.name), .bool x.r.req, .int .i64 x.r.kind, .int .i64 x.r.low, .int .i64 x.r.high, .int .i64 x.r.count, .slice x.a x.r.words.length x.c]) (by simp [results, Tryz.results44, go_sem, z0, z1, z2, z3, z4, z5, z6]) rfl ?_
  exact ⟨x, rfl, HX.out.1, HX.out.2.1, HX.out.2.2, HA.out, WW.out _ _ _ _ _ _ _, (((((((HM.out.setc HS.out).setc HS.out).setc HS.out).setc HS.out).setc HS.out).setc HS.out).setc HS.out)⟩
end Go.Proofs.YtadldblpkgackaaGreatDoor

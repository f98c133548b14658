/- Lemmas and contracts for the proof of PrintDiffers (several texts in one, printed by wip/tools/pack.py): VcH VcI PzN PzT. -/
import Derived.Test.YtgembejpiecfcaaGreatDoorPd1pn
import Derived.Test.YtgembejpiecfcaaGreatDoorPd1pi
import Derived.Test.YtgembejpiecfcaaGreatDoorPd1pm
import Derived.HandedShaped
import Derived.Shelf.Vars
import Derived.Lib.LaidTab
import Derived.Test.YtgembejpiecfcaaGreatDoorPd1pl
import Derived.Test.YtgembejpiecfcaaGreatDoorRows
import Derived.Stop.LaidErr
import Derived.LaidMore
import Derived.Stop.Joined
set_option maxRecDepth 100000
set_option maxHeartbeats 16000000
set_option linter.unusedVariables false
set_option linter.unusedSimpArgs false
namespace Go.Proofs.YtgembejpiecfcaaGreatDoor
open Go.RowKit
open Classical
theorem props_names {s : St} (h : s ∈ propsL) : s ∈ namesV := by
  have q : propsL.all (fun s => namesV.contains s) = true := by kernel_rfl
  have := List.all_eq_true.1 q s h
  simpa using this
theorem props_ex {s v : St} (h : s ∈ propsL) : OkX ⟨s, v⟩ := by
  constructor
  · have q : propsL.contains exS = false := by kernel_rfl
    rintro rfl
    rw [List.contains_iff_mem.2 h] at q
    cases q
  · have q : propsL.contains phS = false := by kernel_rfl
    intro e
    have e : s = phS := e
    rw [e] at h
    rw [List.contains_iff_mem.2 h] at q
    cases q
def til9F (wr : World) (b len PB P4 n cap base m : Nat) (ad : Option Addr) (ms : List NM) (t8 t9 t33 t34 t35 t36 t37 t38 t39 t40 t41 t42 t43 t44 : Value) (d : Array Bool) (w : World) : Prop :=
  (Mv b len wr w ∧ Row w PB 25 [.slice ad n cap]) ∧ (d.getD 0 false = true → t34 = .agg #[.slice ad n cap]) ∧
  (d.getD 1 false = true → t35 = .pointer (some ⟨b, 0, none⟩)) ∧
  (d.getD 2 false = true → t36 = .agg #[.slice ad n cap]) ∧
  (d.getD 3 false = true → ∃ s : St, t37 = .string (bs s)) ∧
  (d.getD 4 false = true → t38 = .pointer (some ⟨b, 0, none⟩)) ∧
  (d.getD 5 false = true → ∃ x : St, t39 = .string (bs x) ∧ x ∈ propsL) ∧
  (d.getD 6 false = true → t40 = .pointer (some ⟨b, 0, none⟩)) ∧
  (d.getD 7 false = true → ∃ z : St, t41 = .string (bs z) ∧ z.length ≤ 100) ∧
  (d.getD 8 false = true → ∃ (v : Value) (er : Nat), t42 = .tuple #[.agg #[v], .int .i64 (er : Int)] ∧ StepV base m w v er) ∧
  (d.getD 9 false = true → (d.getD 8 false = true ∧ t33 = t42)) ∧
  (d.getD 10 false = true → (d.getD 8 false = true ∧ ∃ (v : Value) (er : Nat), t42 = .tuple #[.agg #[v], .int .i64 (er : Int)] ∧ t43 = .agg #[v])) ∧
  (d.getD 11 false = true → (d.getD 8 false = true ∧ ∃ (v : Value) (er : Nat), t42 = .tuple #[.agg #[v], .int .i64 (er : Int)] ∧ t44 = .int .i64 (er : Int))) ∧
  (d.getD 12 false = true → ∃ B, t8 = .pointer (some ⟨B, 0, none⟩) ∧ wr.heap.size ≤ B ∧ (d.getD 13 false = false → Row w B 25 [.slice none 0 0])) ∧
  (d.getD 13 false = true → (d.getD 8 false = true ∧ d.getD 12 false = true ∧ ∃ (v : Value) (er B : Nat), t42 = .tuple #[.agg #[v], .int .i64 (er : Int)] ∧ t8 = .pointer (some ⟨B, 0, none⟩) ∧ wr.heap.size ≤ B ∧ Row w B 25 [v])) ∧
  (d.getD 14 false = true → (d.getD 8 false = true ∧ ∃ (v : Value) (er : Nat), t42 = .tuple #[.agg #[v], .int .i64 (er : Int)] ∧ t9 = .int .i64 (er : Int)))
def til9A (b P4 PB : Nat) (t8 t9 t33 t34 t35 t36 t37 t38 t39 t40 t41 t42 t43 t44 s1 s2 s3 s6 s7 s10 s11 s12 s13 s14 s15 s16 s17 s18 s19 s20 s21 s22 s23 s24 s25 s26 s27 s28 s29 s30 s31 s32 s45 s46 s47 s48 : Value) : Act := { tmps := #[.pointer (some ⟨b, 0, none⟩), s1, s2, s3, .pointer (some ⟨P4, 0, none⟩), .pointer (some ⟨PB, 0, none⟩), s6, s7, t8, t9, s10, s11, s12, s13, s14, s15, s16, s17, s18, s19, s20, s21, s22, s23, s24, s25, s26, s27, s28, s29, s30, s31, s32, t33, t34, t35, t36, t37, t38, t39, t40, t41, t42, t43, t44, s45, s46, s47, s48], defers := [] }
theorem til9 {Q : Exit → Act → World → Prop} {wr : World} {b len PB P4 n cap base m : Nat} {ad : Option Addr} {ms : List NM}  {s1 s2 s3 s6 s7 s8 s9 s10 s11 s12 s13 s14 s15 s16 s17 s18 s19 s20 s21 s22 s23 s24 s25 s26 s27 s28 s29 s30 s31 s32 s33 s34 s35 s36 s37 s38 s39 s40 s41 s42 s43 s44 s45 s46 s47 s48 : Value} (htp : Tp wr b len) (hrow : Row wr PB 25 [.slice ad n cap]) (hnb : PB ≠ b ∧ b < base ∧ b < wr.heap.size ∧ base ≤ wr.heap.size ∧ PB < wr.heap.size) (hl : (ms.map NM.n).length = n) (hm1 : n = m + 1) (hv : VB (ms.map NM.n)) (htr : TrAt base wr (.slice ad n cap) ms)
    (h' : ∀ t8 t9 t33 t34 t35 t36 t37 t38 t39 t40 t41 t42 t43 t44 wx, (∃ (v : Value) (er B : Nat), t9 = .int .i64 (er : Int) ∧ t8 = .pointer (some ⟨B, 0, none⟩) ∧ wr.heap.size ≤ B ∧ Row wx B 25 [v] ∧ StepV base m wx v er) → Mv b len wr wx → Row wx PB 25 [.slice ad n cap] → Q .normal (til9A b P4 PB t8 t9 t33 t34 t35 t36 t37 t38 t39 t40 t41 t42 t43 t44 s1 s2 s3 s6 s7 s10 s11 s12 s13 s14 s15 s16 s17 s18 s19 s20 s21 s22 s23 s24 s25 s26 s27 s28 s29 s30 s31 s32 s45 s46 s47 s48) wx) :
    (Code.region 9 (regIn 9 Tryz.f11) true).wp Tryz.prog Q { tmps := #[.pointer (some ⟨b, 0, none⟩), s1, s2, s3, .pointer (some ⟨P4, 0, none⟩), .pointer (some ⟨PB, 0, none⟩), s6, s7, s8, s9, s10, s11, s12, s13, s14, s15, s16, s17, s18, s19, s20, s21, s22, s23, s24, s25, s26, s27, s28, s29, s30, s31, s32, s33, s34, s35, s36, s37, s38, s39, s40, s41, s42, s43, s44, s45, s46, s47, s48], defers := [] } wr := by
  have HTP := PLift.up htp
  have HRW := PLift.up hrow
  have HNB := PLift.up (show PB ≠ b ∧ b < base ∧ (b < wr.heap.size ∧ PB < wr.heap.size) ∧ base ≤ wr.heap.size from ⟨hnb.1, hnb.2.1, ⟨hnb.2.2.1, hnb.2.2.2.2⟩, hnb.2.2.2.1⟩)
  have HL := PLift.up hl
  have HM1 := PLift.up hm1
  have HV := PLift.up hv
  have HTR := PLift.up htr
  have HBS := PLift.up htp.has
  clear htp hrow hnb hl hm1 hv htr
  simp only [regIn, Tryz.f11, regOps, Option.bind_some, Option.getD_some, Nat.beq, cond_true, cond_false]
  refine wp_region_steps (fun done a w => ∃ t8 t9 t33 t34 t35 t36 t37 t38 t39 t40 t41 t42 t43 t44, a = til9A b P4 PB t8 t9 t33 t34 t35 t36 t37 t38 t39 t40 t41 t42 t43 t44 s1 s2 s3 s6 s7 s10 s11 s12 s13 s14 s15 s16 s17 s18 s19 s20 s21 s22 s23 s24 s25 s26 s27 s28 s29 s30 s31 s32 s45 s46 s47 s48 ∧ til9F wr b len PB P4 n cap base m ad ms t8 t9 t33 t34 t35 t36 t37 t38 t39 t40 t41 t42 t43 t44 done w) (by kernel_rfl) (by kernel_rfl) ?_ ⟨?_, ?_, ?_, ?_, ?_, ?_, ?_, ?_, ?_, ?_, ?_, ?_, ?_, ?_, ?_, trivial⟩ ?_
  · exact ⟨s8, s9, s33, s34, s35, s36, s37, s38, s39, s40, s41, s42, s43, s44, rfl, ⟨Mv.of_gr HTP.down (Gr.refl _).drew, HRW.down.drew⟩, fun q => absurd q (by decide), fun q => absurd q (by decide), fun q => absurd q (by decide), fun q => absurd q (by decide), fun q => absurd q (by decide), fun q => absurd q (by decide), fun q => absurd q (by decide), fun q => absurd q (by decide), fun q => absurd q (by decide), fun q => absurd q (by decide), fun q => absurd q (by decide), fun q => absurd q (by decide), fun q => absurd q (by decide), fun q => absurd q (by decide), fun q => absurd q (by decide)⟩
  · rintro done a w hsz hnot hdep ⟨t8, t9, t33, t34, t35, t36, t37, t38, t39, t40, t41, t42, t43, t44, rfl, gw, f0, f1, f2, f3, f4, f5, f6, f7, f8, f9, f10, f11, f12, f13, f14⟩ K hK
    have hn : ¬ done.getD 0 false = true := by rw [getD_both hnot]; decide
    have c0 : w.cell? ⟨PB, 0, none⟩ = some (.slice ad n cap) := gw.2.cell 0 (by simp)
    have ch := has_of_cell c0
    have HK := PLift.up hK
    clear hK 
    simp only [til9A]
    go_simp
    have gg : Gr w w := Gr.refl _
    refine HK.down _ _ ⟨_, _, _, _, _, _, _, _, _, _, _, _, _, _, rfl, gw, fun _ => rfl, kp f1, kp f2, kp f3, kp f4, kp f5, kp f6, kp f7, kp f8, fun q => (let h := f9 (done_old q (by decide)); ⟨getD_set_true h.1, h.2⟩), fun q => (let h := f10 (done_old q (by decide)); ⟨getD_set_true h.1, h.2⟩), fun q => (let h := f11 (done_old q (by decide)); ⟨getD_set_true h.1, h.2⟩), fun q => (let ⟨B, e, h1, h2⟩ := f12 (done_old q (by decide)); ⟨B, e, h1, fun q2 => h2 (by rw [getD_set_ne false (by decide)] at q2; exact q2)⟩), fun q => (let ⟨h1, h2, v, er, B, e1, e2, h3, h4⟩ := f13 (done_old q (by decide)); ⟨getD_set_true h1, getD_set_true h2, v, er, B, e1, e2, h3, h4⟩), fun q => (let h := f14 (done_old q (by decide)); ⟨getD_set_true h.1, h.2⟩)⟩
  · rintro done a w hsz hnot hdep ⟨t8, t9, t33, t34, t35, t36, t37, t38, t39, t40, t41, t42, t43, t44, rfl, gw, f0, f1, f2, f3, f4, f5, f6, f7, f8, f9, f10, f11, f12, f13, f14⟩ K hK
    have hn : ¬ done.getD 1 false = true := by rw [getD_both hnot]; decide
    have HK := PLift.up hK
    clear hK 
    simp only [til9A]
    go_simp
    have gg : Gr w w := Gr.refl _
    refine HK.down _ _ ⟨_, _, _, _, _, _, _, _, _, _, _, _, _, _, rfl, gw, kp f0, fun _ => rfl, kp f2, kp f3, kp f4, kp f5, kp f6, kp f7, kp f8, fun q => (let h := f9 (done_old q (by decide)); ⟨getD_set_true h.1, h.2⟩), fun q => (let h := f10 (done_old q (by decide)); ⟨getD_set_true h.1, h.2⟩), fun q => (let h := f11 (done_old q (by decide)); ⟨getD_set_true h.1, h.2⟩), fun q => (let ⟨B, e, h1, h2⟩ := f12 (done_old q (by decide)); ⟨B, e, h1, fun q2 => h2 (by rw [getD_set_ne false (by decide)] at q2; exact q2)⟩), fun q => (let ⟨h1, h2, v, er, B, e1, e2, h3, h4⟩ := f13 (done_old q (by decide)); ⟨getD_set_true h1, getD_set_true h2, v, er, B, e1, e2, h3, h4⟩), fun q => (let h := f14 (done_old q (by decide)); ⟨getD_set_true h.1, h.2⟩)⟩
  · rintro done a w hsz hnot hdep ⟨t8, t9, t33, t34, t35, t36, t37, t38, t39, t40, t41, t42, t43, t44, rfl, gw, f0, f1, f2, f3, f4, f5, f6, f7, f8, f9, f10, f11, f12, f13, f14⟩ K hK
    have hn : ¬ done.getD 2 false = true := by rw [getD_both hnot]; decide
    have c0 : w.cell? ⟨PB, 0, none⟩ = some (.slice ad n cap) := gw.2.cell 0 (by simp)
    have ch := has_of_cell c0
    have HK := PLift.up hK
    clear hK 
    simp only [til9A]
    go_simp
    have gg : Gr w w := Gr.refl _
    refine HK.down _ _ ⟨_, _, _, _, _, _, _, _, _, _, _, _, _, _, rfl, gw, kp f0, kp f1, fun _ => rfl, kp f3, kp f4, kp f5, kp f6, kp f7, kp f8, fun q => (let h := f9 (done_old q (by decide)); ⟨getD_set_true h.1, h.2⟩), fun q => (let h := f10 (done_old q (by decide)); ⟨getD_set_true h.1, h.2⟩), fun q => (let h := f11 (done_old q (by decide)); ⟨getD_set_true h.1, h.2⟩), fun q => (let ⟨B, e, h1, h2⟩ := f12 (done_old q (by decide)); ⟨B, e, h1, fun q2 => h2 (by rw [getD_set_ne false (by decide)] at q2; exact q2)⟩), fun q => (let ⟨h1, h2, v, er, B, e1, e2, h3, h4⟩ := f13 (done_old q (by decide)); ⟨getD_set_true h1, getD_set_true h2, v, er, B, e1, e2, h3, h4⟩), fun q => (let h := f14 (done_old q (by decide)); ⟨getD_set_true h.1, h.2⟩)⟩
  · rintro done a w hsz hnot hdep ⟨t8, t9, t33, t34, t35, t36, t37, t38, t39, t40, t41, t42, t43, t44, rfl, gw, f0, f1, f2, f3, f4, f5, f6, f7, f8, f9, f10, f11, f12, f13, f14⟩ K hK
    have hn : ¬ done.getD 3 false = true := by rw [getD_both hnot]; decide
    have d1 := hdep 1 (by kernel_rfl)
    have d2 := hdep 2 (by kernel_rfl)
    obtain rfl := f1 d1
    obtain rfl := f2 d2
    have TP := PLift.up (gw.1.tp HTP.down)
    have GW := PLift.up gw
    have HK := PLift.up hK
    clear hK d1 d2
    simp only [til9A]
    go_simp
    refine (gPath_any base ms ad n cap b len w TP.down (HTR.down.mv HNB.down.2.1 GW.down.1) HV.down.v ⟨HNB.down.2.1, by have := GW.down.1.size; have := HNB.down.2.2.2; omega⟩).mono ?_
    rintro e w2 ⟨s, _, rfl, hm⟩
    (try go_simp)
    refine HK.down _ _ ⟨_, _, _, _, _, _, _, _, _, _, _, _, _, _, rfl, ⟨GW.down.1.trans HBS.down hm, hm.row GW.down.2 HNB.down.1⟩, kp f0, kp f1, kp f2, ?_, kp f4, kp f5, kp f6, kp f7, fun q => (let ⟨v, er, e, hs⟩ := f8 (done_old q (by decide)); ⟨v, er, e, hs.mv HNB.down.2.1 hm⟩), fun q => (let h := f9 (done_old q (by decide)); ⟨getD_set_true h.1, h.2⟩), fun q => (let h := f10 (done_old q (by decide)); ⟨getD_set_true h.1, h.2⟩), fun q => (let h := f11 (done_old q (by decide)); ⟨getD_set_true h.1, h.2⟩), fun q => (let ⟨B, e, h1, h2⟩ := f12 (done_old q (by decide)); ⟨B, e, h1, fun q2 => hm.row (h2 (by rw [getD_set_ne false (by decide)] at q2; exact q2)) (by have := HNB.down.2.2.1; omega)⟩), fun q => (let ⟨h1, h2, v, er, B, e1, e2, h3, h4⟩ := f13 (done_old q (by decide)); ⟨getD_set_true h1, getD_set_true h2, v, er, B, e1, e2, h3, hm.row h4 (by have := HNB.down.2.2.1; omega)⟩), fun q => (let h := f14 (done_old q (by decide)); ⟨getD_set_true h.1, h.2⟩)⟩
    exact fun _ => ⟨s, rfl⟩
  · rintro done a w hsz hnot hdep ⟨t8, t9, t33, t34, t35, t36, t37, t38, t39, t40, t41, t42, t43, t44, rfl, gw, f0, f1, f2, f3, f4, f5, f6, f7, f8, f9, f10, f11, f12, f13, f14⟩ K hK
    have hn : ¬ done.getD 4 false = true := by rw [getD_both hnot]; decide
    have HK := PLift.up hK
    clear hK 
    simp only [til9A]
    go_simp
    have gg : Gr w w := Gr.refl _
    refine HK.down _ _ ⟨_, _, _, _, _, _, _, _, _, _, _, _, _, _, rfl, gw, kp f0, kp f1, kp f2, kp f3, fun _ => rfl, kp f5, kp f6, kp f7, kp f8, fun q => (let h := f9 (done_old q (by decide)); ⟨getD_set_true h.1, h.2⟩), fun q => (let h := f10 (done_old q (by decide)); ⟨getD_set_true h.1, h.2⟩), fun q => (let h := f11 (done_old q (by decide)); ⟨getD_set_true h.1, h.2⟩), fun q => (let ⟨B, e, h1, h2⟩ := f12 (done_old q (by decide)); ⟨B, e, h1, fun q2 => h2 (by rw [getD_set_ne false (by decide)] at q2; exact q2)⟩), fun q => (let ⟨h1, h2, v, er, B, e1, e2, h3, h4⟩ := f13 (done_old q (by decide)); ⟨getD_set_true h1, getD_set_true h2, v, er, B, e1, e2, h3, h4⟩), fun q => (let h := f14 (done_old q (by decide)); ⟨getD_set_true h.1, h.2⟩)⟩
  · rintro done a w hsz hnot hdep ⟨t8, t9, t33, t34, t35, t36, t37, t38, t39, t40, t41, t42, t43, t44, rfl, gw, f0, f1, f2, f3, f4, f5, f6, f7, f8, f9, f10, f11, f12, f13, f14⟩ K hK
    have hn : ¬ done.getD 5 false = true := by rw [getD_both hnot]; decide
    have d4 := hdep 4 (by kernel_rfl)
    obtain rfl := f4 d4
    have TP := PLift.up (gw.1.tp HTP.down)
    have GW := PLift.up gw
    have HK := PLift.up hK
    clear hK d4
    simp only [til9A]
    go_simp
    refine (property_any w b len TP.down).mono ?_
    rintro e w2 ⟨x, hx, rfl, hm⟩
    (try go_simp)
    refine HK.down _ _ ⟨_, _, _, _, _, _, _, _, _, _, _, _, _, _, rfl, ⟨GW.down.1.trans HBS.down hm, hm.row GW.down.2 HNB.down.1⟩, kp f0, kp f1, kp f2, kp f3, kp f4, ?_, kp f6, kp f7, fun q => (let ⟨v, er, e, hs⟩ := f8 (done_old q (by decide)); ⟨v, er, e, hs.mv HNB.down.2.1 hm⟩), fun q => (let h := f9 (done_old q (by decide)); ⟨getD_set_true h.1, h.2⟩), fun q => (let h := f10 (done_old q (by decide)); ⟨getD_set_true h.1, h.2⟩), fun q => (let h := f11 (done_old q (by decide)); ⟨getD_set_true h.1, h.2⟩), fun q => (let ⟨B, e, h1, h2⟩ := f12 (done_old q (by decide)); ⟨B, e, h1, fun q2 => hm.row (h2 (by rw [getD_set_ne false (by decide)] at q2; exact q2)) (by have := HNB.down.2.2.1; omega)⟩), fun q => (let ⟨h1, h2, v, er, B, e1, e2, h3, h4⟩ := f13 (done_old q (by decide)); ⟨getD_set_true h1, getD_set_true h2, v, er, B, e1, e2, h3, hm.row h4 (by have := HNB.down.2.2.1; omega)⟩), fun q => (let h := f14 (done_old q (by decide)); ⟨getD_set_true h.1, h.2⟩)⟩
    exact fun _ => ⟨x, rfl, hx⟩
  · rintro done a w hsz hnot hdep ⟨t8, t9, t33, t34, t35, t36, t37, t38, t39, t40, t41, t42, t43, t44, rfl, gw, f0, f1, f2, f3, f4, f5, f6, f7, f8, f9, f10, f11, f12, f13, f14⟩ K hK
    have hn : ¬ done.getD 6 false = true := by rw [getD_both hnot]; decide
    have HK := PLift.up hK
    clear hK 
    simp only [til9A]
    go_simp
    have gg : Gr w w := Gr.refl _
    refine HK.down _ _ ⟨_, _, _, _, _, _, _, _, _, _, _, _, _, _, rfl, gw, kp f0, kp f1, kp f2, kp f3, kp f4, kp f5, fun _ => rfl, kp f7, kp f8, fun q => (let h := f9 (done_old q (by decide)); ⟨getD_set_true h.1, h.2⟩), fun q => (let h := f10 (done_old q (by decide)); ⟨getD_set_true h.1, h.2⟩), fun q => (let h := f11 (done_old q (by decide)); ⟨getD_set_true h.1, h.2⟩), fun q => (let ⟨B, e, h1, h2⟩ := f12 (done_old q (by decide)); ⟨B, e, h1, fun q2 => h2 (by rw [getD_set_ne false (by decide)] at q2; exact q2)⟩), fun q => (let ⟨h1, h2, v, er, B, e1, e2, h3, h4⟩ := f13 (done_old q (by decide)); ⟨getD_set_true h1, getD_set_true h2, v, er, B, e1, e2, h3, h4⟩), fun q => (let h := f14 (done_old q (by decide)); ⟨getD_set_true h.1, h.2⟩)⟩
  · rintro done a w hsz hnot hdep ⟨t8, t9, t33, t34, t35, t36, t37, t38, t39, t40, t41, t42, t43, t44, rfl, gw, f0, f1, f2, f3, f4, f5, f6, f7, f8, f9, f10, f11, f12, f13, f14⟩ K hK
    have hn : ¬ done.getD 7 false = true := by rw [getD_both hnot]; decide
    have d6 := hdep 6 (by kernel_rfl)
    obtain rfl := f6 d6
    have TP := PLift.up (gw.1.tp HTP.down)
    have GW := PLift.up gw
    have HK := PLift.up hK
    clear hK d6
    simp only [til9A]
    go_simp
    refine (value_any w b len TP.down).mono ?_
    rintro e w2 ⟨z, hz, rfl, hm⟩
    (try go_simp)
    refine HK.down _ _ ⟨_, _, _, _, _, _, _, _, _, _, _, _, _, _, rfl, ⟨GW.down.1.trans HBS.down hm, hm.row GW.down.2 HNB.down.1⟩, kp f0, kp f1, kp f2, kp f3, kp f4, kp f5, kp f6, ?_, fun q => (let ⟨v, er, e, hs⟩ := f8 (done_old q (by decide)); ⟨v, er, e, hs.mv HNB.down.2.1 hm⟩), fun q => (let h := f9 (done_old q (by decide)); ⟨getD_set_true h.1, h.2⟩), fun q => (let h := f10 (done_old q (by decide)); ⟨getD_set_true h.1, h.2⟩), fun q => (let h := f11 (done_old q (by decide)); ⟨getD_set_true h.1, h.2⟩), fun q => (let ⟨B, e, h1, h2⟩ := f12 (done_old q (by decide)); ⟨B, e, h1, fun q2 => hm.row (h2 (by rw [getD_set_ne false (by decide)] at q2; exact q2)) (by have := HNB.down.2.2.1; omega)⟩), fun q => (let ⟨h1, h2, v, er, B, e1, e2, h3, h4⟩ := f13 (done_old q (by decide)); ⟨getD_set_true h1, getD_set_true h2, v, er, B, e1, e2, h3, hm.row h4 (by have := HNB.down.2.2.1; omega)⟩), fun q => (let h := f14 (done_old q (by decide)); ⟨getD_set_true h.1, h.2⟩)⟩
    exact fun _ => ⟨z, rfl, hz⟩
  · rintro done a w hsz hnot hdep ⟨t8, t9, t33, t34, t35, t36, t37, t38, t39, t40, t41, t42, t43, t44, rfl, gw, f0, f1, f2, f3, f4, f5, f6, f7, f8, f9, f10, f11, f12, f13, f14⟩ K hK
    have hn : ¬ done.getD 8 false = true := by rw [getD_both hnot]; decide
    have d0 := hdep 0 (by kernel_rfl)
    have d3 := hdep 3 (by kernel_rfl)
    have d5 := hdep 5 (by kernel_rfl)
    have d7 := hdep 7 (by kernel_rfl)
    obtain rfl := f0 d0
    obtain ⟨s, rfl⟩ := f3 d3
    obtain ⟨x, rfl, hx⟩ := f5 d5
    obtain ⟨z, rfl, hz⟩ := f7 d7
    have HX := PLift.up hx
    have HZ := PLift.up hz
    have GW := PLift.up gw
    have HK := PLift.up hK
    clear hK d0
    simp only [til9A]
    go_simp
    have LK := rSet_ok (ms.map NM.n) ad cap s x z w ((HTR.down.mv HNB.down.2.1 GW.down.1).sl).2 HV.down.v (props_names HX.down) (by have := HZ.down; omega)
    rw [HL.down] at LK
    refine LK.mono ?_
    rintro e w2 ⟨hg, hq⟩
    have ST : PLift (∃ (v : Value) (er : Nat), e = .returned (.tuple #[.agg #[v], .int .i64 (er : Int)]) ∧ StepV base m w2 v er) := PLift.up (by
      rcases hq with ⟨rfl, _⟩ | ⟨k, v, m2, hk, _, rfl, h1, hmp⟩
      · exact ⟨_, 4, rfl, .inl ⟨by omega, by omega, rfl⟩⟩
      · refine ⟨v, 0, rfl, .inr ⟨rfl, m2, h1.low (by have := GW.down.1.size; have := HNB.down.2.2.2; omega), ?_, ?_⟩⟩
        · rw [hmp]; exact ⟨VT_set HV.down.v hk (PV_put (HV.down.v.prp k hk) (props_names HX.down) (by have := HZ.down; simp only; omega)), HV.down.x.set (noX_put (HV.down.x k) (props_ex HX.down))⟩
        · have h9 := congrArg List.length hmp
          unfold setN at h9
          rw [List.length_set, List.length_map, HL.down, HM1.down] at h9
          exact h9)
    clear hq
    obtain ⟨v, er, rfl, hs⟩ := ST.down
    (try go_simp)
    refine HK.down _ _ ⟨_, _, _, _, _, _, _, _, _, _, _, _, _, _, rfl, ⟨GW.down.1.gr hg, GW.down.2.gr hg⟩, kp f0, kp f1, kp f2, fun _ => ⟨s, rfl⟩, kp f4, fun _ => ⟨x, rfl, HX.down⟩, kp f6, fun _ => ⟨z, rfl, HZ.down⟩, ?_, fun q => absurd (f9 (done_old q (by decide))).1 hn, fun q => absurd (f10 (done_old q (by decide))).1 hn, fun q => absurd (f11 (done_old q (by decide))).1 hn, fun q => (let ⟨B, e, h1, h2⟩ := f12 (done_old q (by decide)); ⟨B, e, h1, fun q2 => (h2 (by rw [getD_set_ne false (by decide)] at q2; exact q2)).gr hg⟩), fun q => absurd (f13 (done_old q (by decide))).1 hn, fun q => absurd (f14 (done_old q (by decide))).1 hn⟩
    exact fun _ => ⟨v, er, rfl, hs⟩
  · rintro done a w hsz hnot hdep ⟨t8, t9, t33, t34, t35, t36, t37, t38, t39, t40, t41, t42, t43, t44, rfl, gw, f0, f1, f2, f3, f4, f5, f6, f7, f8, f9, f10, f11, f12, f13, f14⟩ K hK
    have hn : ¬ done.getD 9 false = true := by rw [getD_both hnot]; decide
    have d8 := hdep 8 (by kernel_rfl)
    have D6 := PLift.up d8
    obtain ⟨v, er, rfl, hs⟩ := f8 d8
    have HK := PLift.up hK
    clear hK 
    simp only [til9A]
    go_simp
    have gg : Gr w w := Gr.refl _
    refine HK.down _ _ ⟨_, _, _, _, _, _, _, _, _, _, _, _, _, _, rfl, gw, kp f0, kp f1, kp f2, kp f3, kp f4, kp f5, kp f6, kp f7, fun _ => ⟨v, er, rfl, hs⟩, ?_, fun q => (let h := f10 (done_old q (by decide)); ⟨getD_set_true h.1, h.2⟩), fun q => (let h := f11 (done_old q (by decide)); ⟨getD_set_true h.1, h.2⟩), fun q => (let ⟨B, e, h1, h2⟩ := f12 (done_old q (by decide)); ⟨B, e, h1, fun q2 => h2 (by rw [getD_set_ne false (by decide)] at q2; exact q2)⟩), fun q => (let ⟨h1, h2, v, er, B, e1, e2, h3, h4⟩ := f13 (done_old q (by decide)); ⟨getD_set_true h1, getD_set_true h2, v, er, B, e1, e2, h3, h4⟩), fun q => (let h := f14 (done_old q (by decide)); ⟨getD_set_true h.1, h.2⟩)⟩
    exact fun _ => ⟨getD_set_true D6.down, rfl⟩
  · rintro done a w hsz hnot hdep ⟨t8, t9, t33, t34, t35, t36, t37, t38, t39, t40, t41, t42, t43, t44, rfl, gw, f0, f1, f2, f3, f4, f5, f6, f7, f8, f9, f10, f11, f12, f13, f14⟩ K hK
    have hn : ¬ done.getD 10 false = true := by rw [getD_both hnot]; decide
    have d9 := hdep 9 (by kernel_rfl)
    obtain ⟨D6, rfl⟩ := f9 d9
    have D6 := PLift.up D6
    obtain ⟨v, er, rfl, hs⟩ := f8 D6.down
    have HK := PLift.up hK
    clear hK 
    simp only [til9A]
    go_simp
    have gg : Gr w w := Gr.refl _
    refine HK.down _ _ ⟨_, _, _, _, _, _, _, _, _, _, _, _, _, _, rfl, gw, kp f0, kp f1, kp f2, kp f3, kp f4, kp f5, kp f6, kp f7, fun _ => ⟨v, er, rfl, hs⟩, fun _ => ⟨getD_set_true D6.down, rfl⟩, ?_, fun q => (let h := f11 (done_old q (by decide)); ⟨getD_set_true h.1, h.2⟩), fun q => (let ⟨B, e, h1, h2⟩ := f12 (done_old q (by decide)); ⟨B, e, h1, fun q2 => h2 (by rw [getD_set_ne false (by decide)] at q2; exact q2)⟩), fun q => (let ⟨h1, h2, v, er, B, e1, e2, h3, h4⟩ := f13 (done_old q (by decide)); ⟨getD_set_true h1, getD_set_true h2, v, er, B, e1, e2, h3, h4⟩), fun q => (let h := f14 (done_old q (by decide)); ⟨getD_set_true h.1, h.2⟩)⟩
    exact fun _ => ⟨getD_set_true D6.down, v, er, rfl, rfl⟩
  · rintro done a w hsz hnot hdep ⟨t8, t9, t33, t34, t35, t36, t37, t38, t39, t40, t41, t42, t43, t44, rfl, gw, f0, f1, f2, f3, f4, f5, f6, f7, f8, f9, f10, f11, f12, f13, f14⟩ K hK
    have hn : ¬ done.getD 11 false = true := by rw [getD_both hnot]; decide
    have d9 := hdep 9 (by kernel_rfl)
    obtain ⟨D6, rfl⟩ := f9 d9
    have D6 := PLift.up D6
    obtain ⟨v, er, rfl, hs⟩ := f8 D6.down
    have HK := PLift.up hK
    clear hK 
    simp only [til9A]
    go_simp
    have gg : Gr w w := Gr.refl _
    refine HK.down _ _ ⟨_, _, _, _, _, _, _, _, _, _, _, _, _, _, rfl, gw, kp f0, kp f1, kp f2, kp f3, kp f4, kp f5, kp f6, kp f7, fun _ => ⟨v, er, rfl, hs⟩, fun _ => ⟨getD_set_true D6.down, rfl⟩, fun q => (let h := f10 (done_old q (by decide)); ⟨getD_set_true h.1, h.2⟩), ?_, fun q => (let ⟨B, e, h1, h2⟩ := f12 (done_old q (by decide)); ⟨B, e, h1, fun q2 => h2 (by rw [getD_set_ne false (by decide)] at q2; exact q2)⟩), fun q => (let ⟨h1, h2, v, er, B, e1, e2, h3, h4⟩ := f13 (done_old q (by decide)); ⟨getD_set_true h1, getD_set_true h2, v, er, B, e1, e2, h3, h4⟩), fun q => (let h := f14 (done_old q (by decide)); ⟨getD_set_true h.1, h.2⟩)⟩
    exact fun _ => ⟨getD_set_true D6.down, v, er, rfl, rfl⟩
  · rintro done a w hsz hnot hdep ⟨t8, t9, t33, t34, t35, t36, t37, t38, t39, t40, t41, t42, t43, t44, rfl, gw, f0, f1, f2, f3, f4, f5, f6, f7, f8, f9, f10, f11, f12, f13, f14⟩ K hK
    have hn : ¬ done.getD 12 false = true := by rw [getD_both hnot]; decide
    have GS := PLift.up gw.1.size
    have GW := PLift.up gw
    have HK := PLift.up hK
    clear hK 
    simp only [til9A]
    go_simp
    have gg : Gr w (w.alloc (.cells #[.slice none 0 0] 25)) := (Gr.refl _).alloc _
    refine HK.down _ _ ⟨_, _, _, _, _, _, _, _, _, _, _, _, _, _, rfl, ⟨GW.down.1.gr gg, GW.down.2.gr gg⟩, kp f0, kp f1, kp f2, kp f3, kp f4, kp f5, kp f6, kp f7, fun q => (let ⟨v, er, e, hs⟩ := f8 (done_old q (by decide)); ⟨v, er, e, hs.gr gg⟩), fun q => (let h := f9 (done_old q (by decide)); ⟨getD_set_true h.1, h.2⟩), fun q => (let h := f10 (done_old q (by decide)); ⟨getD_set_true h.1, h.2⟩), fun q => (let h := f11 (done_old q (by decide)); ⟨getD_set_true h.1, h.2⟩), ?_, fun q => absurd (f13 (done_old q (by decide))).2.1 hn, fun q => (let h := f14 (done_old q (by decide)); ⟨getD_set_true h.1, h.2⟩)⟩
    exact fun _ => ⟨_, rfl, GS.down, fun _ => Row.new w _ _⟩
  · rintro done a w hsz hnot hdep ⟨t8, t9, t33, t34, t35, t36, t37, t38, t39, t40, t41, t42, t43, t44, rfl, gw, f0, f1, f2, f3, f4, f5, f6, f7, f8, f9, f10, f11, f12, f13, f14⟩ K hK
    have hn : ¬ done.getD 13 false = true := by rw [getD_both hnot]; decide
    have d12 := hdep 12 (by kernel_rfl)
    have d10 := hdep 10 (by kernel_rfl)
    obtain ⟨D6, v, er, e14, rfl⟩ := f10 d10
    have D6 := PLift.up D6
    have D10 := PLift.up d12
    subst e14
    obtain ⟨v2, er2, e2, hs⟩ := f8 D6.down
    injection e2 with e2
    obtain ⟨rfl, he⟩ : v = v2 ∧ (er : Int) = er2 := by simpa using e2
    obtain rfl : er = er2 := by omega
    obtain ⟨ya, ym, yc, rfl⟩ := hs.one
    obtain ⟨B, rfl, hB, hr⟩ := f12 d12
    have n11 := getD_both hnot
    have rb := hr n11
    have RB := PLift.up rb
    have z0 := rb.cell 0 (by simp)
    have zf := rb.free 0
    have zh := has_of_cell z0
    have HBB := PLift.up hB
    have GW := PLift.up gw
    have HK := PLift.up hK
    clear hK 
    simp only [til9A]
    go_simp
    refine HK.down _ _ ⟨_, _, _, _, _, _, _, _, _, _, _, _, _, _, rfl, ⟨GW.down.1.setc HBB.down, GW.down.2.oth (by have := HNB.down.2.2.1; have := HNB.down.2.2.2; have := HBB.down; have := HNB.down.1; omega)⟩, kp f0, kp f1, kp f2, kp f3, kp f4, kp f5, kp f6, kp f7, fun _ => ⟨_, er, rfl, hs.box RB.down⟩, fun q => (let h := f9 (done_old q (by decide)); ⟨getD_set_true h.1, h.2⟩), fun _ => ⟨getD_set_true D6.down, _, er, rfl, rfl⟩, fun q => (let h := f11 (done_old q (by decide)); ⟨getD_set_true h.1, h.2⟩), fun _ => ⟨B, rfl, HBB.down, fun q2 => absurd q2 (by rw [getD_set_same (by rw [hsz]; decide)]; decide)⟩, ?_, fun q => (let h := f14 (done_old q (by decide)); ⟨getD_set_true h.1, h.2⟩)⟩
    exact fun _ => ⟨getD_set_true D6.down, getD_set_true D10.down, _, er, B, rfl, rfl, HBB.down, RB.down.set 0 _⟩
  · rintro done a w hsz hnot hdep ⟨t8, t9, t33, t34, t35, t36, t37, t38, t39, t40, t41, t42, t43, t44, rfl, gw, f0, f1, f2, f3, f4, f5, f6, f7, f8, f9, f10, f11, f12, f13, f14⟩ K hK
    have hn : ¬ done.getD 14 false = true := by rw [getD_both hnot]; decide
    have d11 := hdep 11 (by kernel_rfl)
    obtain ⟨D6, v, er, rfl, rfl⟩ := f11 d11
    have D6 := PLift.up D6
    have HK := PLift.up hK
    clear hK 
    simp only [til9A]
    go_simp
    have gg : Gr w w := Gr.refl _
    refine HK.down _ _ ⟨_, _, _, _, _, _, _, _, _, _, _, _, _, _, rfl, gw, kp f0, kp f1, kp f2, kp f3, kp f4, kp f5, kp f6, kp f7, kp f8, fun q => (let h := f9 (done_old q (by decide)); ⟨getD_set_true h.1, h.2⟩), fun q => (let h := f10 (done_old q (by decide)); ⟨getD_set_true h.1, h.2⟩), fun _ => ⟨getD_set_true D6.down, v, er, rfl, rfl⟩, fun q => (let ⟨B, e, h1, h2⟩ := f12 (done_old q (by decide)); ⟨B, e, h1, fun q2 => h2 (by rw [getD_set_ne false (by decide)] at q2; exact q2)⟩), fun q => (let ⟨h1, h2, v, er, B, e1, e2, h3, h4⟩ := f13 (done_old q (by decide)); ⟨getD_set_true h1, getD_set_true h2, v, er, B, e1, e2, h3, h4⟩), ?_⟩
    exact fun _ => ⟨getD_set_true D6.down, v, er, rfl, rfl⟩
  · rintro done a w hall ⟨t8, t9, t33, t34, t35, t36, t37, t38, t39, t40, t41, t42, t43, t44, rfl, gw, f0, f1, f2, f3, f4, f5, f6, f7, f8, f9, f10, f11, f12, f13, f14⟩
    refine h' _ _ _ _ _ _ _ _ _ _ _ _ _ _ w ?_ gw.1 gw.2
    obtain ⟨v, er, e1, hs⟩ := f8 (hall 8 (by decide))
    obtain ⟨_, _, v2, er2, B, e2, e3, h3, h4⟩ := f13 (hall 13 (by decide))
    obtain ⟨_, v3, er3, e4, e5⟩ := f14 (hall 14 (by decide))
    subst e1
    obtain ⟨rfl, he⟩ : v = v2 ∧ (er : Int) = er2 := by simpa using e2
    obtain rfl : er = er2 := by omega
    obtain ⟨_, he⟩ : v = v3 ∧ (er : Int) = er3 := by simpa using e4
    obtain rfl : er = er3 := by omega
    exact ⟨v, er, B, e5, e3, h3, h4, hs⟩
theorem VT_root : VT [⟨-1, [], []⟩] := by
  refine ⟨by simp, by simp, ⟨rfl, rfl⟩, fun i h0 hi => ?_, ⟨fun i h0 hi => ?_, fun i h0 hi => ?_, fun i j h0 hij hj => ?_, fun i hi => ?_⟩, fun i h0 hi => ?_, fun i hi => ?_⟩
  all_goals simp only [List.length_cons, List.length_nil] at *
  · omega
  · omega
  · omega
  · omega
  · obtain rfl : i = 0 := by omega
    exact ⟨0, by omega, .zero⟩
  · omega
  · obtain rfl : i = 0 := by omega
    exact ⟨by simp [nd], fun p hp => by simp [nd] at hp⟩
theorem VB_root : VB [⟨-1, [], []⟩] := ⟨VT_root, fun i p hp => by
  cases i with
  | zero => cases hp
  | succ i => cases hp⟩
def GivesTree (base n b len : Nat) (w : World) (e : Ending) (w' : World) : Prop := ∃ (v : Value) (ms : List NM), e = .returned (.agg #[v]) ∧ TrAt base w' v ms ∧ VB (ms.map NM.n) ∧ ms.length ≤ n + 1 ∧ Mv b len w w'
theorem tree_any (n b len : Nat) (w : World) (ht : Tp w b len) (hn : n ≤ 100) :
    Calls Tryz.prog 11 #[.pointer (some ⟨b, 0, none⟩), .int .i64 n] w (GivesTree w.heap.size n b len w) := by
  have H := Lib.hid ht
  have hb := ht.has
  clear ht
  obtain ⟨P0, hP0⟩ : ∃ P : Ending → World → Prop, P = GivesTree w.heap.size n b len w := ⟨_, rfl⟩
  rw [← hP0]
  have HP0 := Lib.hid hP0
  clear hP0
  go_enter Tryz.func11, Tryz.ntmps11
  go_upto_region 2 with (fail)
  obtain ⟨w1, hw1⟩ : ∃ W : World, W = w.alloc (.cells #[.slice none 0 0] 25) := ⟨_, rfl⟩
  have z1 : w1.heap.size = w.heap.size + 1 := by rw [hw1]; simp
  obtain ⟨w2, hw2⟩ : ∃ W : World, W = w1.alloc (.cells #[.int .i64 (-1), .string (bs []), .slice none 0 0] 57) := ⟨_, rfl⟩
  have z2 : w2.heap.size = w.heap.size + 1 + 1 := by rw [hw2]; simp [z1]
  obtain ⟨W, hW⟩ : ∃ W : World, W = w2.alloc (.cells #[.slice (some ⟨w.heap.size + 1, 0, none⟩) 1 1] 25) := ⟨_, rfl⟩
  have g2 : Gr w2 W := by rw [hW]; exact (Gr.refl _).alloc _
  have g1 : Gr w1 W := by refine Gr.trans ?_ g2; rw [hw2]; exact (Gr.refl _).alloc _
  have GW : Hid (Gr w W) := Lib.hid (by refine Gr.trans ?_ g1; rw [hw1]; exact (Gr.refl _).alloc _)
  have R4 : Hid (Row W w.heap.size 25 [.slice none 0 0]) := Lib.hid (by
    have q : Row w1 w.heap.size 25 [.slice none 0 0] := by rw [hw1]; exact Row.new w _ _
    exact q.gr g1)
  have R5 : Hid (Row W (w.heap.size + 1 + 1) 25 [.slice (some ⟨w.heap.size + 1, 0, none⟩) 1 1]) := Lib.hid (by
    rw [hW, ← z2]; exact Row.new w2 _ _)
  have TR0 : Hid (TrAt w.heap.size W (.slice (some ⟨w.heap.size + 1, 0, none⟩) 1 1) [⟨⟨-1, [], []⟩, none, 0⟩]) := Lib.hid (by
    have q : w2.ownsRow w.heap.size 57 3 (.slice (some ⟨w.heap.size + 1, 0, none⟩) 1 1) 1 [.int .i64 (-1), .string (bs []), .slice none 0 0] := by
      refine ⟨rfl, .inr ⟨w.heap.size + 1, 1, #[.int .i64 (-1), .string (bs []), .slice none 0 0], rfl, by omega, ?_, Nat.le_refl _, by unfold maxLen; omega, rfl, rfl⟩⟩
      rw [hw2, ← z1]
      exact heap_alloc_new w1 _
    refine ⟨Gr.owns q g2, fun m hm => ?_⟩
    rw [List.mem_singleton.1 hm]
    exact ⟨World.ownsRow_nil _ _ _ _, ⟨by simp, by simp, by simp, by simp, fun p hp => by cases hp⟩⟩)
  have eW : (((w.alloc (.cells #[.slice none 0 0] 25)).alloc (.cells #[.int .i64 (-1), .string ⟨#[]⟩, .slice none 0 0] 57)).alloc (.cells #[.slice (some ⟨w.heap.size + 1, 0, none⟩) 1 1] 25)) = W := by rw [hW, hw2, hw1]; rfl
  rw [eW]
  clear eW hW hw1 hw2 z1 z2 g1 g2
  obtain ⟨P4, hP4⟩ : ∃ N : Nat, Hid (w.heap.size = N) := ⟨_, Lib.hid rfl⟩
  have HP4 := Lib.hid hP4.out
  rw [hP4.out] at R4 R5 TR0 HP0 hb ⊢
  clear hP4
  obtain ⟨P5, hP5⟩ : ∃ N : Nat, Hid (P4 + 1 + 1 = N) := ⟨_, Lib.hid rfl⟩
  have HP5 := Lib.hid hP5.out
  rw [hP5.out] at R5 ⊢
  clear hP5
  have M0 := Lib.hid (Mv.of_gr H.out GW.out)
  have T0 := Lib.hid (H.out.gr GW.out)
  have PW : Hid (P4 ≤ W.heap.size) := Lib.hid (by have := GW.out.size; have := HP4.out; omega)
  have hbw : b < w.heap.size := H.out.has
  go_wp2_with fail
  refine (nM_any W b len (n + 1) T0.out (by omega) (by omega)).mono ?_
  rintro e wa ⟨c, rfl, ⟨c0, c1⟩, hma⟩
  have MA := Lib.hid (M0.out.trans hbw hma)
  have RA5 := Lib.hid (hma.row R5.out (by have := HP5.out; omega))
  have RA4 := Lib.hid (hma.row R4.out (by omega))
  have TRA := Lib.hid (TR0.out.mv hb hma)
  clear hma R4 R5 TR0 M0
  go_wp2_with fail
  go_loopw [6] (fun i wr => ∃ (m : Int) (v : Value) (ms : List NM), i = .int .i64 m ∧ 0 ≤ m ∧ m + ms.length ≤ n + 1 ∧ TrAt P4 wr v ms ∧ VB (ms.map NM.n) ∧ Row wr P5 25 [v] ∧ Row wr P4 25 [.slice none 0 0] ∧ Mv b len w wr) (fun i _ => (intOf i).toNat)
  case atStart => exact ⟨c, _, _, rfl, by omega, by simp; omega, TRA.out, VB_root, RA5.out, RA4.out, MA.out⟩
  case round =>
    obtain ⟨m, v, ms, rfl, m0, m1, htr, hvt, hr5, hr4, hm⟩ := hrel
    obtain ⟨va, vc, rfl⟩ := owns_slice htr.own
    have TR := Lib.hid htr
    have VV := Lib.hid hvt
    have S5 := Lib.hid hr5
    have S4 := Lib.hid hr4
    have MV := Lib.hid hm
    have TP := Lib.hid (hm.tp H.out)
    have SZ : Hid (P4 ≤ wr.heap.size) := Lib.hid (by have := hm.size; have := HP4.out; omega)
    clear htr hvt hr5 hr4 hm
    have x0 := S5.out.cell 0 (by simp)
    have xf := S5.out.free 0
    have hx := has_of_cell x0
    by_cases hlt : 0 < m
    · clear x0 xf hx
      have x0 := S5.out.cell 0 (by simp)
      have hx := has_of_cell x0
      go_wp2_with fail
      refine (step_any P4 ms va ms.length vc b len wr TP.out TR.out VV.out ⟨hb, SZ.out⟩).mono ?_
      rintro e w3 ⟨v3, m3, rfl, h3, hv3, hl3, hm3⟩
      obtain ⟨ya, yc, rfl⟩ := owns_slice h3.own
      have T3 := Lib.hid h3
      have V3 := Lib.hid hv3
      have L3 := Lib.hid hl3
      have M3 := Lib.hid (MV.out.trans hbw hm3)
      have Q5 := Lib.hid (hm3.row S5.out (by have := HP5.out; omega))
      have Q4 := Lib.hid (hm3.row S4.out (by omega))
      clear h3 hv3 hl3 hm3 x0 hx
      have z0 := Q5.out.cell 0 (by simp)
      have zf := Q5.out.free 0
      have hz := has_of_cell z0
      go_wp2_with fail
      go_roundw
      case rel =>
        refine ⟨m - 1, _, m3, by go_num, by omega, by have := L3.out; omega, T3.out.box Q5.out.ty (by decide) (T3.out.ne_ty Q5.out.ty (by decide)), V3.out, Q5.out.set 0 _, Q4.out.oth (by have := HP5.out; omega), M3.out.setc (by have := HP5.out; have := HP4.out; omega)⟩
      case measure => simp [intOf]; omega
    · obtain rfl : m = 0 := by omega
      clear x0 xf hx
      go_wp2_with fail
      refine (nM_any wr b len (2 * n + 1) TP.out (by omega) (by omega)).mono ?_
      rintro e wb ⟨d, rfl, ⟨d0, d1⟩, hmb⟩
      have MB := Lib.hid (MV.out.trans hbw hmb)
      have RB5 := Lib.hid (hmb.row S5.out (by have := HP5.out; omega))
      have RB4 := Lib.hid (hmb.row S4.out (by omega))
      have TRB := Lib.hid (TR.out.mv hb hmb)
      clear hmb S5 S4 MV TP TR
      go_wp2_with fail
      go_loopw [7] (fun i wr => ∃ (m : Int) (v : Value) (ms : List NM), i = .int .i64 m ∧ (0 ≤ m ∧ m ≤ 1000) ∧ ms.length ≤ n + 1 ∧ TrAt P4 wr v ms ∧ VB (ms.map NM.n) ∧ Row wr P5 25 [v] ∧ Row wr P4 25 [.slice none 0 0] ∧ Mv b len w wr) (fun i _ => (intOf i).toNat)
      case atStart => exact ⟨d, _, ms, rfl, ⟨by omega, by omega⟩, by omega, TRB.out, VV.out, RB5.out, RB4.out, MB.out⟩
      case round =>
        clear VV TRB RB5 RB4 MB SZ
        clear m1
        obtain ⟨m, v, ms, rfl, ⟨m0, mb⟩, m1, htr, hvt, hr5, hr4, hm⟩ := hrel
        obtain ⟨va, vc, rfl⟩ := owns_slice htr.own
        have TR := Lib.hid htr
        have VV := Lib.hid hvt
        have S5 := Lib.hid hr5
        have S4 := Lib.hid hr4
        have MV := Lib.hid hm
        have TP := Lib.hid (hm.tp H.out)
        have SZ : Hid (P4 ≤ wr.heap.size) := Lib.hid (by have := hm.size; have := HP4.out; omega)
        clear htr hvt hr5 hr4 hm
        by_cases hlt : 0 < m
        · obtain ⟨q, hq⟩ : ∃ q, ms.length = q + 1 := ⟨ms.length - 1, by have := VV.out.v.pos; rw [List.length_map] at this; omega⟩
          have QL := Lib.hid hq
          clear hq
          have P5b : P5 ≠ b := by have := HP5.out; omega
          go_wp2_with fail
          refine wp_code_eq (c := Code.region 9 (regIn 9 Tryz.f11) true) (by kernel_rfl) (til9 (wr := wr) (b := b) (len := len) (PB := P5) (P4 := P4) (n := ms.length) (cap := vc) (base := P4) (m := q) (ad := va) (ms := ms) TP.out S5.out ⟨P5b, hb, TP.out.has, SZ.out, S5.out.has⟩ (by rw [List.length_map]) QL.out VV.out TR.out ?_)
          intro t8 t9 t33 t34 t35 t36 t37 t38 t39 t40 t41 t42 t43 t44 wx ⟨v, er, B, e9, e8, hB, hr, hs⟩ hmx hpb
          subst e9
          subst e8
          have MX := Lib.hid (MV.out.trans hbw hmx)
          have Q5 := Lib.hid hpb
          have Q4 := Lib.hid (hmx.row S4.out (by omega))
          have TX := Lib.hid (TR.out.mv hb hmx)
          have BR := Lib.hid hr
          clear hmx hpb hr
          unfold til9A
          rcases hs with ⟨h1, h2, rfl⟩ | ⟨h1, m2, h2, h3, h4⟩
          · have eb : ((er : Int) == 0) = false := by rw [beq_eq_false_iff_ne]; omega
            clear h1 h2
            go_wp2_with fail
            go_roundw
            case rel => exact ⟨m - 1, _, ms, by go_num, ⟨by omega, by omega⟩, m1, TX.out, VV.out, Q5.out, Q4.out, MX.out⟩
            case measure => simp [intOf]; omega
          · obtain ⟨ya, yc, hv⟩ := owns_slice h2.own
            subst hv
            subst h1
            have T2 := Lib.hid h2
            have V2 := Lib.hid h3
            have L2 := Lib.hid h4
            have x0 := BR.out.cell 0 (by simp)
            have hx := has_of_cell x0
            have z0 := Q5.out.cell 0 (by simp)
            have zf := Q5.out.free 0
            have hz := has_of_cell z0
            clear h2 h3 h4
            go_wp2_with fail
            go_roundw
            case rel => exact ⟨m - 1, _, m2, by go_num, ⟨by omega, by omega⟩, by have := L2.out; have := QL.out; omega, T2.out.box Q5.out.ty (by decide) (T2.out.ne_ty Q5.out.ty (by decide)), V2.out, Q5.out.set 0 _, Q4.out.oth (by have := HP5.out; omega), MX.out.setc (by have := HP5.out; have := HP4.out; omega)⟩
            case measure => simp [intOf]; omega
        · obtain rfl : m = 0 := by omega
          have x0 := S5.out.cell 0 (by simp)
          have hx := has_of_cell x0
          have z0 := S4.out.cell 0 (by simp)
          have zf := S4.out.free 0
          have hz := has_of_cell z0
          go_wp2_with fail
          have RF := Lib.hid (S4.out.set 0 (.slice va ms.length vc))
          have TF := Lib.hid (TR.out.box (o := 0) (u := .slice va ms.length vc) S4.out.ty (by decide) (TR.out.ne_ty S4.out.ty (by decide)))
          have GF : Hid (Mv b len w (wr.setCell ⟨P4, 0, none⟩ (.slice va ms.length vc))) := Lib.hid (MV.out.setc (by have := HP4.out; omega))
          obtain ⟨W3, hW3⟩ : ∃ W : World, Hid (W = wr.setCell ⟨P4, 0, none⟩ (.slice va ms.length vc)) := ⟨_, Lib.hid rfl⟩
          rw [← hW3.out] at RF TF GF ⊢
          have e0 : W3.cell? ⟨P4, 0, none⟩ = some (.slice va ms.length vc) := RF.out.cell 0 (by simp)
          clear hW3 x0 hx z0 zf hz
          refine bodyPost_ret (v := .agg #[.slice va ms.length vc]) (by simp [results, Tryz.results11, e0, go_sem]) rfl ?_
          rw [HP0.out]
          exact ⟨_, ms, rfl, TF.out, VV.out, m1, GF.out⟩
theorem tree_txt {x : Tr} (h : chkT x = 0) : treeP x = treeT x := by unfold treeP; rw [if_pos h]
theorem txt_same {x y : Tr} (hx : chkT x = 0) (hy : chkT y = 0) : (treeP x == treeP y) = decide (x = y) := by
  rw [tree_txt hx, tree_txt hy, Bool.eq_iff_iff, beq_iff_eq, decide_eq_true_iff]
  exact ⟨fun h => treeT_inj (acc_of hx) (acc_of hy) h, fun h => by rw [h]⟩
theorem val_same (s t : St) : (valT s == valT t) = decide (s = t) := by
  rw [Bool.eq_iff_iff, beq_iff_eq, decide_eq_true_iff]
  exact ⟨valT_inj, fun h => by rw [h]⟩
theorem differs_walk (a : Option Addr) (len cap : Nat) (zs : List Int) (w : World) (h : RowIn w a len cap zs) (hM : MaxV w) (hT : TabV w) :
    Calls Tryz.prog 6 #[.slice a len cap] w (Grows w (.bool true)) := by
  have H := Lib.hid h
  have HM := Lib.hid hM
  have HT := Lib.hid hT
  clear h hM hT
  go_enter Tryz.func6, Tryz.ntmps6
  go_wp2_with fail
  refine (newTape_any w a len cap zs H.out).mono ?_
  rintro e w1 ⟨b, n0, rfl, ht, hg, hb, _⟩
  have TP := Lib.hid (show Tp w1 b n0 from ⟨0, ht⟩)
  have G1 := Lib.hid hg
  have BW := Lib.hid hb
  have BL : Hid (b < w1.heap.size) := Lib.hid TP.out.has
  clear ht hg hb
  go_wp2_with fail
  refine (tree_any 5 b n0 w1 TP.out (by omega)).mono ?_
  rintro e w2 ⟨v1, ms1, rfl, htr, hvb, hml1, hmv⟩
  obtain ⟨ta1, tc1, rfl⟩ := owns_slice htr.own
  have TA1 := Lib.hid htr
  have C1 := Lib.hid (chk_V hvb.v)
  have M2 := Lib.hid hmv
  clear htr hvb hmv
  go_upto_region 3 with fail
  obtain ⟨B4, hB4⟩ : ∃ B4, w2.heap.size = B4 := ⟨_, rfl⟩
  obtain ⟨w3, hw3⟩ : ∃ W : World, Hid (w2.alloc (.cells #[.slice ta1 ms1.length tc1] 25) = W) := ⟨_, Lib.hid rfl⟩
  have RX : Hid (Row w3 B4 25 [.slice ta1 ms1.length tc1]) := Lib.hid (by rw [← hw3.out, ← hB4]; exact Row.new w2 _ _)
  have g3 : Hid (Gr w2 w3) := Lib.hid (by rw [← hw3.out]; exact (Gr.refl w2).alloc _)
  have M3 := Lib.hid (M2.out.gr g3.out)
  have bB4 : Hid (b < B4) := Lib.hid (by rw [← hB4]; have := M2.out.size; have := BL.out; omega)
  rw [hw3.out]
  (try rw [hB4])
  clear hw3 hB4
  go_wp2_with fail
  refine (tree_any 5 b n0 w3 (M3.out.tp TP.out) (by omega)).mono ?_
  rintro e w4 ⟨v2, ms2, rfl, htr, hvb, hml2, hmv⟩
  obtain ⟨ta2, tc2, rfl⟩ := owns_slice htr.own
  have TA2 := Lib.hid htr
  have C2 := Lib.hid (chk_V hvb.v)
  have M4 := Lib.hid hmv
  have M14 := Lib.hid (M3.out.trans BL.out hmv)
  clear htr hvb hmv
  go_upto_region 4 with fail
  obtain ⟨B5, hB5⟩ : ∃ B5, w4.heap.size = B5 := ⟨_, rfl⟩
  obtain ⟨w5, hw5⟩ : ∃ W : World, Hid (w4.alloc (.cells #[.slice ta2 ms2.length tc2] 25) = W) := ⟨_, Lib.hid rfl⟩
  have RY : Hid (Row w5 B5 25 [.slice ta2 ms2.length tc2]) := Lib.hid (by rw [← hw5.out, ← hB5]; exact Row.new w4 _ _)
  have g5 : Hid (Gr w4 w5) := Lib.hid (by rw [← hw5.out]; exact (Gr.refl w4).alloc _)
  have M15 := Lib.hid (M14.out.gr g5.out)
  have bB5 : Hid (b < B5) := Lib.hid (by rw [← hB5]; have := M14.out.size; have := BL.out; omega)
  have M35 := Lib.hid (M4.out.gr g5.out)
  have RX5 : Hid (Row w5 B4 25 [.slice ta1 ms1.length tc1]) := Lib.hid (M35.out.row RX.out (by have := bB4.out; omega))
  have TA15 : Hid (TrAt w1.heap.size w5 (.slice ta1 ms1.length tc1) ms1) := Lib.hid ((TA1.out.gr g3.out).mv BL.out M35.out)
  have TA25 : Hid (TrAt w3.heap.size w5 (.slice ta2 ms2.length tc2) ms2) := Lib.hid (TA2.out.gr g5.out)
  have b3 : Hid (b < w3.heap.size) := Lib.hid (by have := M3.out.size; have := BL.out; omega)
  have G5 : Hid (Gr w w5) := Lib.hid (M15.out.out G1.out BW.out)
  rw [hw5.out]
  (try rw [hB5])
  clear hw5 hB5 RX TA1 TA2 M2 M4 M14 g3 g5
  have L1 : Hid (ms1.length = (ms1.map NM.n).length) := Lib.hid (by rw [List.length_map])
  have L2 : Hid (ms2.length = (ms2.map NM.n).length) := Lib.hid (by rw [List.length_map])
  have F1 : Hid (Fit (ms1.map NM.n).length) := Lib.hid (by rw [List.length_map]; unfold Fit; omega)
  have F2 : Hid (Fit (ms2.map NM.n).length) := Lib.hid (by rw [List.length_map]; unfold Fit; omega)
  have PT1 : Hid (∀ W, Gr w5 W → Calls Tryz.prog 13 #[.agg #[.slice ta1 ms1.length tc1]] W (Grows W (.tuple #[.string (bs (treeP (ms1.map NM.n))), .int .i64 0]))) := Lib.hid (fun W hg => by
    have h := ptree_any (ms1.map NM.n) ta1 tc1 W (TA15.out.gr hg).sl.2 F1.out (HM.out.gr (G5.out.trans hg)) (HT.out.gr (G5.out.trans hg))
    rw [C1.out, ← L1.out] at h
    exact h)
  have PT2 : Hid (∀ W, Gr w5 W → Calls Tryz.prog 13 #[.agg #[.slice ta2 ms2.length tc2]] W (Grows W (.tuple #[.string (bs (treeP (ms2.map NM.n))), .int .i64 0]))) := Lib.hid (fun W hg => by
    have h := ptree_any (ms2.map NM.n) ta2 tc2 W (TA25.out.gr hg).sl.2 F2.out (HM.out.gr (G5.out.trans hg)) (HT.out.gr (G5.out.trans hg))
    rw [C2.out, ← L2.out] at h
    exact h)
  have SM : Hid (∀ W, Mv b n0 w5 W → Calls Tryz.prog 26 #[.agg #[.slice ta1 ms1.length tc1], .agg #[.slice ta2 ms2.length tc2]] W (Grows W (.bool (decide (ms1.map NM.n = ms2.map NM.n))))) := Lib.hid (fun W hm => by
    have h := rsame_any (ms1.map NM.n) (ms2.map NM.n) ta1 ta2 tc1 tc2 W (TA15.out.mv BL.out hm).sl.2 (TA25.out.mv b3.out hm).sl.2 F1.out F2.out
    rw [← L1.out, ← L2.out] at h
    exact h)
  have TS : Hid ((treeP (ms1.map NM.n) == treeP (ms2.map NM.n)) = decide (ms1.map NM.n = ms2.map NM.n)) := Lib.hid (txt_same C1.out C2.out)
  obtain ⟨T1, hT1⟩ : ∃ T1, treeP (ms1.map NM.n) = T1 := ⟨_, rfl⟩
  obtain ⟨T2, hT2⟩ : ∃ T2, treeP (ms2.map NM.n) = T2 := ⟨_, rfl⟩
  obtain ⟨q, hq⟩ : ∃ q, decide (ms1.map NM.n = ms2.map NM.n) = q := ⟨_, rfl⟩
  rw [hT1] at PT1 TS
  rw [hT2] at PT2 TS
  rw [hq] at SM TS
  clear hT1 hT2 hq TA15 TA25 C1 C2 F1 F2 L1 L2 hml1 hml2
  have x0 := RX5.out.cell 0 (by simp)
  simp only [List.getElem_cons_zero] at x0
  have hx := has_of_cell x0
  go_wp2_with fail
  refine (PT1.out w5 (Gr.refl _)).mono ?_
  rintro e w6 ⟨rfl, hg⟩
  have G6 := Lib.hid hg
  clear hg x0 hx PT1
  have x0 := (RY.out.gr G6.out).cell 0 (by simp)
  simp only [List.getElem_cons_zero] at x0
  have hx := has_of_cell x0
  go_wp2_with fail
  refine (PT2.out w6 G6.out).mono ?_
  rintro e w7 ⟨rfl, hg⟩
  have G7 := Lib.hid (G6.out.trans hg)
  have M7 := Lib.hid (Mv.of_gr (M15.out.tp TP.out) G7.out)
  clear hg x0 hx PT2 G6
  go_wp2_with fail
  refine (value_any w7 b n0 (M7.out.tp (M15.out.tp TP.out))).mono ?_
  rintro e w8 ⟨s1, l1, rfl, hmv⟩
  have M8 := Lib.hid (M7.out.trans (by have := M15.out.size; have := BL.out; omega) hmv)
  clear hmv
  go_wp2_with fail
  refine (value_any w8 b n0 (M8.out.tp (M15.out.tp TP.out))).mono ?_
  rintro e w9 ⟨s2, l2, rfl, hmv⟩
  have M9 := Lib.hid (M8.out.trans (by have := M15.out.size; have := BL.out; omega) hmv)
  clear hmv
  have x0 := (M9.out.row RX5.out (by have := bB4.out; omega)).cell 0 (by simp)
  have y0 := (M9.out.row RY.out (by have := bB5.out; omega)).cell 0 (by simp)
  simp only [List.getElem_cons_zero] at x0 y0
  have hx := has_of_cell x0
  have hy := has_of_cell y0
  have G9 : Hid (Gr w w9) := Lib.hid (M9.out.out G5.out BW.out)
  have SM9 := Lib.hid (SM.out w9 M9.out)
  have VS := Lib.hid (val_same s1 s2)
  have ts := TS.out
  clear SM M7 M8 G7 RX5 RY
  go_wp2_with fail
  refine SM9.out.mono ?_
  rintro e w10 ⟨rfl, hg⟩
  have G10 := Lib.hid (G9.out.trans hg)
  clear hg SM9 x0 y0 hx hy ts TS
  have PV1 := pval_any s1 w10 (by omega) (HM.out.gr G10.out) (HT.out.gr G10.out)
  obtain ⟨U1, hU1⟩ : ∃ U1, valT s1 = U1 := ⟨_, rfl⟩
  obtain ⟨U2, hU2⟩ : ∃ U2, valT s2 = U2 := ⟨_, rfl⟩
  rw [hU1] at PV1 VS
  have HU2 := Lib.hid hU2
  rw [hU2] at VS
  obtain ⟨r, hr⟩ : ∃ r, decide (s1 = s2) = r := ⟨_, rfl⟩
  have es : (s1 == s2) = r := by rw [← hr, Bool.eq_iff_iff, beq_iff_eq, decide_eq_true_iff]
  rw [hr] at VS
  have HPV1 := Lib.hid PV1
  clear PV1 hU1 hU2 hr
  go_wp2_with fail
  refine HPV1.out.mono ?_
  rintro e w11 ⟨rfl, hg⟩
  have G11 := Lib.hid (G10.out.trans hg)
  clear hg HPV1
  have PV2 := pval_any s2 w11 (by omega) (HM.out.gr G11.out) (HT.out.gr G11.out)
  rw [HU2.out] at PV2
  have HPV2 := Lib.hid PV2
  clear PV2 HU2
  go_wp2_with fail
  refine HPV2.out.mono ?_
  rintro e w12 ⟨rfl, hg⟩
  have G12 := Lib.hid (G11.out.trans hg)
  have vs := VS.out
  clear hg HPV2
  go_wp2_with fail
  refine (awake07_any w12 (HM.out.gr G12.out) (HT.out.gr G12.out)).mono ?_
  rintro e w13 ⟨rfl, hg⟩
  have G13 := Lib.hid (G12.out.trans hg)
  clear hg
  go_wp2_with fail
  go_ret
  exact ⟨rfl, G13.out⟩
end Go.Proofs.YtgembejpiecfcaaGreatDoor

set_option linter.unusedVariables false
namespace Go.Proofs.YtgembejpiecfcaaGreatDoor
open Go Go.RowKit
variable {H : Type} {enc : TypeId × Value → H}
theorem handed_shaped_and {a : Assume} {C : Checked} {os : Os} {f : FuncId} {fn : Func} {s : ChangeSpec} {conds : List PathCond} {apart fresh handsOn again : Bool} {X : World → Array Value → Prop}
    (hX : ∀ (w w' : World) (args : Array Value), w.heap = w'.heap → X w args → X w' args)
    (own : ownKnob C.prog.godebug = none) (started : os.Started) (noInit : C.prog.inits.idxOf? f = none) (hfn : C.prog.funcs[f]? = some fn)
    (witness : ∃ (w : World) (tape : Go.Tape) (i : Input), w.os = os ∧ (w.forCall tape i).Shaped C.prog ∧ i.vars = [] ∧ Input.okWide C.prog (w.forCall tape i) .any w.heap.size f i ∧
      ((s.pre enc C.prog fn conds apart (w.forCall tape i).memory i.args ∧ X (w.forCall tape i).memory i.args) ∧ sizedMet enc C.prog fn (OpenSpec.ofChange s) apart (w.forCall tape i).memory i.args) ∧ a.holds C.prog (lone (Frame.enter C.prog f i.args .normal) [] (w.forCall tape i)))
    (contract : ∀ (W : World) (base : Nat) (args : Array Value) (ds gs : List (DataW H)) (before : List MemPlace),
      (∀ (j : Nat) t v, fn.params[j]? = some t → args[j]? = some v → Value.okWide C.prog W .any base t v) →
      DataW.Whole enc C.prog fn.params.toList s.vars apart W args.toList ds gs before → X W args → W.ShapedOpen C.prog →
      Calls C.prog f args W fun e W' => ∃ v, e = .returned v ∧ s.post enc C.prog fn apart fresh handsOn again W args v W') :
    ReturnsInHanded a C os f .any (fun w args => (s.pre enc C.prog fn conds apart w args ∧ X w args) ∧ sizedMet enc C.prog fn (OpenSpec.ofChange s) apart w args) (s.post enc C.prog fn apart fresh handsOn again) := by
  refine returnsInHanded_of_calls own started noInit witness ?_
  intro w tape i _ hsh _ hok hpre hholds
  obtain ⟨_, _, _, fn', hfn', _, _, _, _, hval⟩ := hok
  have e : fn' = fn := Option.some.inj (hfn'.symm.trans hfn)
  subst e
  obtain ⟨⟨⟨ds, gs, before, hw, hc⟩, hx⟩, hz⟩ := hpre
  have hw' := DataW.Whole.of_heap (w' := w.forCall tape i) (by rfl) hw
  refine (contract (w.forCall tape i) w.heap.size i.args ds gs before hval hw' (hX _ _ _ (by rfl) hx) hsh).mono fun e W' ⟨v, he, hp⟩ => ?_
  subst he
  exact ChangeSpec.post_blind hp
def Libs (w : World) : Prop := MaxV w ∧ TabV w
theorem brNamed : Tryz.prog.globalNamed "math/bits.deBruijn64tab" = some 5 := by kernel_rfl
theorem tBr : (Tryz.prog.globals[5]?).map (·.type) = some 222 := by kernel_rfl
def brTab : List Int := [0, 1, 56, 2, 57, 49, 28, 3, 61, 58, 42, 50, 38, 29, 17, 4, 62, 47, 59, 36, 45, 43, 51, 22, 53, 39, 33, 30, 24, 18, 12, 5, 63, 55, 48, 27, 60, 41, 37, 16, 46, 35, 44, 21, 52, 32, 23, 11, 54, 26, 40, 15, 34, 20, 31, 10, 25, 14, 19, 9, 13, 8, 7, 6]
theorem libs_of {W : World} (h : laidMetH Tryz.prog Rows.printDiffersRow.laid W) (hsh : W.ShapedOpen Tryz.prog) : Libs W := by
  rw [MakeChecks.laidMetH_plain _ _ _ (by kernel_rfl)] at h
  have ht := Lib.tabIs_of_head (k := .u8) (zs := brTab) brNamed tBr Tryz.underlying222 Tryz.underlying5 (by kernel_rfl) (by kernel_rfl) h.tail
  refine ⟨?_, ht.cell brNamed 15 (by decide)⟩
  exact cell_of_shapedOpen_int (t := 3) (zero := #[.int .i64 0]) hsh (of_decide_eq_true (by kernel_rfl)) (by kernel_rfl) rfl (by kernel_rfl) (by kernel_rfl) Tryz.underlying3
end Go.Proofs.YtgembejpiecfcaaGreatDoor

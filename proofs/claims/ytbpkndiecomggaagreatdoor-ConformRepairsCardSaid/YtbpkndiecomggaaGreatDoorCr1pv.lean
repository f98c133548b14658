/- Lemmas and contracts for the proof of ConformRepairs (several texts in one, printed by wip/tools/pack.py): WbC WbD WdB. -/
import Derived.Test.YtbpkndiecomggaaGreatDoorCr1pu
import Derived.Test.YtbpkndiecomggaaGreatDoorCr1ps
import Derived.Test.YtbpkndiecomggaaGreatDoorCr1pp
import Derived.WalkMore
set_option maxRecDepth 100000
set_option maxHeartbeats 16000000
set_option linter.unusedVariables false
set_option linter.unusedSimpArgs false
namespace Go.Proofs.YtbpkndiecomggaaGreatDoor
open Go.RowKit
open Classical
def brd17F (wr : World) (b len PT RB n cap c base : Nat) (s : St) (r : Rul) (wa ad : Option Addr) (ms : List NM) (t78 t79 t80 t81 t82 t83 t84 t85 : Value) (d : Array Bool) (w : World) : Prop :=
  (d.getD 8 false = false → Mv b len wr w ∧ Row w PT 29 [.slice ad n cap] ∧ Row w RB 51 [.string (bs r.name), .bool r.req, .int .i64 r.kind, .int .i64 r.low, .int .i64 r.high, .int .i64 r.count, .slice wa r.words.length c]) ∧ (d.getD 0 false = true → t78 = .agg #[.slice ad n cap]) ∧
  (d.getD 1 false = true → t79 = .string (bs s)) ∧
  (d.getD 2 false = true → t80 = .pointer (some ⟨RB, 0, none⟩)) ∧
  (d.getD 3 false = true → t81 = .string (bs r.name)) ∧
  (d.getD 4 false = true → t82 = .pointer (some ⟨b, 0, none⟩)) ∧
  (d.getD 5 false = true → t83 = .agg #[.string (bs r.name), .bool r.req, .int .i64 r.kind, .int .i64 r.low, .int .i64 r.high, .int .i64 r.count, .slice wa r.words.length c]) ∧
  (d.getD 6 false = true → ∃ z : St, t84 = .string (bs z) ∧ z.length ≤ 100) ∧
  (d.getD 7 false = true → (d.getD 8 false = false → ∃ (v : Value) (m2 : List NM), t85 = .agg #[v] ∧ TrAt base w v m2 ∧ VB (m2.map NM.n) ∧ m2.length = n)) ∧
  (d.getD 8 false = true → ((∀ j, j < 8 → d.getD j false = true) ∧ FinM wr b len PT base n w))
def brd17A (b PT RB : Nat) (s : St) (t78 t79 t80 t81 t82 t83 t84 t85 s1 s2 s3 s4 s5 s6 s8 s10 s11 s12 s13 s15 s16 s17 s18 s19 s20 s21 s22 s23 s24 s25 s26 s27 s28 s29 s30 s31 s32 s33 s34 s35 s36 s37 s38 s39 s40 s41 s42 s43 s44 s45 s46 s47 s48 s49 s50 s51 s52 s53 s54 s55 s56 s57 s58 s59 s60 s61 s62 s63 s64 s65 s66 s67 s68 s69 s70 s71 s72 s73 s74 s75 s76 s77 s86 s87 s88 : Value) : Act := { tmps := #[.pointer (some ⟨b, 0, none⟩), s1, s2, s3, s4, s5, s6, .pointer (some ⟨PT, 0, none⟩), s8, .string (bs s), s10, s11, s12, s13, .pointer (some ⟨RB, 0, none⟩), s15, s16, s17, s18, s19, s20, s21, s22, s23, s24, s25, s26, s27, s28, s29, s30, s31, s32, s33, s34, s35, s36, s37, s38, s39, s40, s41, s42, s43, s44, s45, s46, s47, s48, s49, s50, s51, s52, s53, s54, s55, s56, s57, s58, s59, s60, s61, s62, s63, s64, s65, s66, s67, s68, s69, s70, s71, s72, s73, s74, s75, s76, s77, t78, t79, t80, t81, t82, t83, t84, t85, s86, s87, s88], defers := [] }
theorem brd17 {Q : Exit → Act → World → Prop} {wr : World} {b len PT RB n cap c base : Nat} {s : St} {r : Rul} {wa ad : Option Addr} {ms : List NM}  {s1 s2 s3 s4 s5 s6 s8 s10 s11 s12 s13 s15 s16 s17 s18 s19 s20 s21 s22 s23 s24 s25 s26 s27 s28 s29 s30 s31 s32 s33 s34 s35 s36 s37 s38 s39 s40 s41 s42 s43 s44 s45 s46 s47 s48 s49 s50 s51 s52 s53 s54 s55 s56 s57 s58 s59 s60 s61 s62 s63 s64 s65 s66 s67 s68 s69 s70 s71 s72 s73 s74 s75 s76 s77 s78 s79 s80 s81 s82 s83 s84 s85 s86 s87 s88 : Value} (htp : Tp wr b len) (hrow : Row wr PT 29 [.slice ad n cap]) (hrb : Row wr RB 51 [.string (bs r.name), .bool r.req, .int .i64 r.kind, .int .i64 r.low, .int .i64 r.high, .int .i64 r.count, .slice wa r.words.length c]) (hnb : PT ≠ b ∧ RB ≠ b) (hnb2 : b < base) (hb0 : base ≤ wr.heap.size) (hsm : SmlF r) (hnm : r.name ∈ propsL) (hwd : WAt wr wa r.words) (hwa : ∀ A, wa = some A → b < A.block) (hv : VB (ms.map NM.n)) (htr : TrAt base wr (.slice ad n cap) ms)
    (h' : ∀ t78 t79 t80 t81 t82 t83 t84 t85 wx, FinM wr b len PT base n wx → Q .normal (brd17A b PT RB s t78 t79 t80 t81 t82 t83 t84 t85 s1 s2 s3 s4 s5 s6 s8 s10 s11 s12 s13 s15 s16 s17 s18 s19 s20 s21 s22 s23 s24 s25 s26 s27 s28 s29 s30 s31 s32 s33 s34 s35 s36 s37 s38 s39 s40 s41 s42 s43 s44 s45 s46 s47 s48 s49 s50 s51 s52 s53 s54 s55 s56 s57 s58 s59 s60 s61 s62 s63 s64 s65 s66 s67 s68 s69 s70 s71 s72 s73 s74 s75 s76 s77 s86 s87 s88) wx) :
    (Code.region 17 (regIn 17 Tryz.f10) true).wp Tryz.prog Q { tmps := #[.pointer (some ⟨b, 0, none⟩), s1, s2, s3, s4, s5, s6, .pointer (some ⟨PT, 0, none⟩), s8, .string (bs s), s10, s11, s12, s13, .pointer (some ⟨RB, 0, none⟩), s15, s16, s17, s18, s19, s20, s21, s22, s23, s24, s25, s26, s27, s28, s29, s30, s31, s32, s33, s34, s35, s36, s37, s38, s39, s40, s41, s42, s43, s44, s45, s46, s47, s48, s49, s50, s51, s52, s53, s54, s55, s56, s57, s58, s59, s60, s61, s62, s63, s64, s65, s66, s67, s68, s69, s70, s71, s72, s73, s74, s75, s76, s77, s78, s79, s80, s81, s82, s83, s84, s85, s86, s87, s88], defers := [] } wr := by
  have HTP := PLift.up htp
  have HRW := PLift.up hrow
  have HRB := PLift.up hrb
  have HNB := PLift.up hnb
  have HNB2 := PLift.up hnb2
  have HB0 := PLift.up hb0
  have HSM := PLift.up hsm
  have HNM := PLift.up hnm
  have HWD := PLift.up hwd
  have HWA := PLift.up hwa
  have HV := PLift.up hv
  have HTR := PLift.up htr
  have HBS := PLift.up htp.has
  clear htp hrow hrb hnb hnb2 hb0 hsm hnm hwd hwa hv htr
  simp only [regIn, Tryz.f10, regOps, Option.bind_some, Option.getD_some, Nat.beq, cond_true, cond_false]
  refine wp_region_steps (fun done a w => ∃ t78 t79 t80 t81 t82 t83 t84 t85, a = brd17A b PT RB s t78 t79 t80 t81 t82 t83 t84 t85 s1 s2 s3 s4 s5 s6 s8 s10 s11 s12 s13 s15 s16 s17 s18 s19 s20 s21 s22 s23 s24 s25 s26 s27 s28 s29 s30 s31 s32 s33 s34 s35 s36 s37 s38 s39 s40 s41 s42 s43 s44 s45 s46 s47 s48 s49 s50 s51 s52 s53 s54 s55 s56 s57 s58 s59 s60 s61 s62 s63 s64 s65 s66 s67 s68 s69 s70 s71 s72 s73 s74 s75 s76 s77 s86 s87 s88 ∧ brd17F wr b len PT RB n cap c base s r wa ad ms t78 t79 t80 t81 t82 t83 t84 t85 done w) (by kernel_rfl) (by kernel_rfl) ?_ ⟨?_, ?_, ?_, ?_, ?_, ?_, ?_, ?_, ?_, trivial⟩ ?_
  · exact ⟨s78, s79, s80, s81, s82, s83, s84, s85, rfl, fun _ => ⟨Mv.of_gr HTP.down (Gr.refl _).drew, HRW.down.drew, HRB.down.drew⟩, fun q => absurd q (by decide), fun q => absurd q (by decide), fun q => absurd q (by decide), fun q => absurd q (by decide), fun q => absurd q (by decide), fun q => absurd q (by decide), fun q => absurd q (by decide), fun q => absurd q (by decide), fun q => absurd q (by decide)⟩
  · rintro done a w hsz hnot hdep ⟨t78, t79, t80, t81, t82, t83, t84, t85, rfl, gw, f0, f1, f2, f3, f4, f5, f6, f7, f8⟩ K hK
    have hn : ¬ done.getD 0 false = true := by rw [getD_both hnot]; decide
    have n8 : done.getD 8 false = false := by
      cases e : done.getD 8 false with
      | false => rfl
      | true => exact absurd ((f8 e).1 0 (by decide)) hn
    replace gw := gw n8
    have c0 : w.cell? ⟨PT, 0, none⟩ = some (.slice ad n cap) := gw.2.1.cell 0 (by simp)
    have ch := has_of_cell c0
    have HK := PLift.up hK
    clear hK 
    simp only [brd17A]
    go_simp
    have gg : Gr w w := Gr.refl _
    refine HK.down _ _ ⟨_, _, _, _, _, _, _, _, rfl, fun _ => gw, fun _ => rfl, kp f1, kp f2, kp f3, kp f4, kp f5, kp f6, fun q q2 => (let ⟨v, m2, e, h1, h2⟩ := f7 (done_old q (by decide)) n8; ⟨v, m2, e, h1.gr gg, h2⟩), fun q => absurd ((f8 (done_old q (by decide))).1 0 (by decide)) hn⟩
  · rintro done a w hsz hnot hdep ⟨t78, t79, t80, t81, t82, t83, t84, t85, rfl, gw, f0, f1, f2, f3, f4, f5, f6, f7, f8⟩ K hK
    have hn : ¬ done.getD 1 false = true := by rw [getD_both hnot]; decide
    have n8 : done.getD 8 false = false := by
      cases e : done.getD 8 false with
      | false => rfl
      | true => exact absurd ((f8 e).1 1 (by decide)) hn
    replace gw := gw n8
    have HK := PLift.up hK
    clear hK 
    simp only [brd17A]
    go_simp
    have gg : Gr w w := Gr.refl _
    refine HK.down _ _ ⟨_, _, _, _, _, _, _, _, rfl, fun _ => gw, kp f0, fun _ => rfl, kp f2, kp f3, kp f4, kp f5, kp f6, fun q q2 => (let ⟨v, m2, e, h1, h2⟩ := f7 (done_old q (by decide)) n8; ⟨v, m2, e, h1.gr gg, h2⟩), fun q => absurd ((f8 (done_old q (by decide))).1 1 (by decide)) hn⟩
  · rintro done a w hsz hnot hdep ⟨t78, t79, t80, t81, t82, t83, t84, t85, rfl, gw, f0, f1, f2, f3, f4, f5, f6, f7, f8⟩ K hK
    have hn : ¬ done.getD 2 false = true := by rw [getD_both hnot]; decide
    have n8 : done.getD 8 false = false := by
      cases e : done.getD 8 false with
      | false => rfl
      | true => exact absurd ((f8 e).1 2 (by decide)) hn
    replace gw := gw n8
    have HK := PLift.up hK
    clear hK 
    simp only [brd17A]
    go_simp
    have gg : Gr w w := Gr.refl _
    refine HK.down _ _ ⟨_, _, _, _, _, _, _, _, rfl, fun _ => gw, kp f0, kp f1, fun _ => rfl, kp f3, kp f4, kp f5, kp f6, fun q q2 => (let ⟨v, m2, e, h1, h2⟩ := f7 (done_old q (by decide)) n8; ⟨v, m2, e, h1.gr gg, h2⟩), fun q => absurd ((f8 (done_old q (by decide))).1 2 (by decide)) hn⟩
  · rintro done a w hsz hnot hdep ⟨t78, t79, t80, t81, t82, t83, t84, t85, rfl, gw, f0, f1, f2, f3, f4, f5, f6, f7, f8⟩ K hK
    have hn : ¬ done.getD 3 false = true := by rw [getD_both hnot]; decide
    have d2 := hdep 2 (by kernel_rfl)
    obtain rfl := f2 d2
    have n8 : done.getD 8 false = false := by
      cases e : done.getD 8 false with
      | false => rfl
      | true => exact absurd ((f8 e).1 3 (by decide)) hn
    replace gw := gw n8
    have c0 : w.cell? ⟨RB, 0, none⟩ = some (.string (bs r.name)) := gw.2.2.cell 0 (by simp)
    have ch := has_of_cell c0
    have HK := PLift.up hK
    clear hK d2
    simp only [brd17A]
    go_simp
    have gg : Gr w w := Gr.refl _
    refine HK.down _ _ ⟨_, _, _, _, _, _, _, _, rfl, fun _ => gw, kp f0, kp f1, kp f2, fun _ => rfl, kp f4, kp f5, kp f6, fun q q2 => (let ⟨v, m2, e, h1, h2⟩ := f7 (done_old q (by decide)) n8; ⟨v, m2, e, h1.gr gg, h2⟩), fun q => absurd ((f8 (done_old q (by decide))).1 3 (by decide)) hn⟩
  · rintro done a w hsz hnot hdep ⟨t78, t79, t80, t81, t82, t83, t84, t85, rfl, gw, f0, f1, f2, f3, f4, f5, f6, f7, f8⟩ K hK
    have hn : ¬ done.getD 4 false = true := by rw [getD_both hnot]; decide
    have n8 : done.getD 8 false = false := by
      cases e : done.getD 8 false with
      | false => rfl
      | true => exact absurd ((f8 e).1 4 (by decide)) hn
    replace gw := gw n8
    have HK := PLift.up hK
    clear hK 
    simp only [brd17A]
    go_simp
    have gg : Gr w w := Gr.refl _
    refine HK.down _ _ ⟨_, _, _, _, _, _, _, _, rfl, fun _ => gw, kp f0, kp f1, kp f2, kp f3, fun _ => rfl, kp f5, kp f6, fun q q2 => (let ⟨v, m2, e, h1, h2⟩ := f7 (done_old q (by decide)) n8; ⟨v, m2, e, h1.gr gg, h2⟩), fun q => absurd ((f8 (done_old q (by decide))).1 4 (by decide)) hn⟩
  · rintro done a w hsz hnot hdep ⟨t78, t79, t80, t81, t82, t83, t84, t85, rfl, gw, f0, f1, f2, f3, f4, f5, f6, f7, f8⟩ K hK
    have hn : ¬ done.getD 5 false = true := by rw [getD_both hnot]; decide
    have n8 : done.getD 8 false = false := by
      cases e : done.getD 8 false with
      | false => rfl
      | true => exact absurd ((f8 e).1 5 (by decide)) hn
    replace gw := gw n8
    have q0 := gw.2.2.cell 0 (by simp)
    have q1 := gw.2.2.cell 1 (by simp)
    have q2 := gw.2.2.cell 2 (by simp)
    have q3 := gw.2.2.cell 3 (by simp)
    have q4 := gw.2.2.cell 4 (by simp)
    have q5 := gw.2.2.cell 5 (by simp)
    have q6 := gw.2.2.cell 6 (by simp)
    simp only [List.getElem_cons_zero, List.getElem_cons_succ] at q0 q1 q2 q3 q4 q5 q6
    have ch := has_of_cell q0
    have HK := PLift.up hK
    clear hK 
    simp only [brd17A]
    go_simp
    have gg : Gr w w := Gr.refl _
    refine HK.down _ _ ⟨_, _, _, _, _, _, _, _, rfl, fun _ => gw, kp f0, kp f1, kp f2, kp f3, kp f4, fun _ => rfl, kp f6, fun q q2 => (let ⟨v, m2, e, h1, h2⟩ := f7 (done_old q (by decide)) n8; ⟨v, m2, e, h1.gr gg, h2⟩), fun q => absurd ((f8 (done_old q (by decide))).1 5 (by decide)) hn⟩
  · rintro done a w hsz hnot hdep ⟨t78, t79, t80, t81, t82, t83, t84, t85, rfl, gw, f0, f1, f2, f3, f4, f5, f6, f7, f8⟩ K hK
    have hn : ¬ done.getD 6 false = true := by rw [getD_both hnot]; decide
    have d4 := hdep 4 (by kernel_rfl)
    have d5 := hdep 5 (by kernel_rfl)
    obtain rfl := f4 d4
    obtain rfl := f5 d5
    have n8 : done.getD 8 false = false := by
      cases e : done.getD 8 false with
      | false => rfl
      | true => exact absurd ((f8 e).1 6 (by decide)) hn
    replace gw := gw n8
    have TP := PLift.up (gw.1.tp HTP.down)
    have GW := PLift.up gw
    have HK := PLift.up hK
    clear hK d4 d5
    simp only [brd17A]
    go_simp
    refine (fit_any r wa c w b len TP.down HSM.down (HWD.down.mv GW.down.1 HWA.down) HWA.down).mono ?_
    rintro e w2 ⟨z, hz, rfl, hm⟩
    (try go_simp)
    refine HK.down _ _ ⟨_, _, _, _, _, _, _, _, rfl, fun _ => ⟨GW.down.1.trans HBS.down hm, hm.row GW.down.2.1 HNB.down.1, hm.row GW.down.2.2 HNB.down.2⟩, kp f0, kp f1, kp f2, kp f3, kp f4, kp f5, ?_, fun q q2 => (let ⟨v, m2, e, h1, h2⟩ := f7 (done_old q (by decide)) n8; ⟨v, m2, e, h1.mv HNB2.down hm, h2⟩), fun q => absurd ((f8 (done_old q (by decide))).1 6 (by decide)) hn⟩
    exact fun _ => ⟨z, rfl, hz⟩
  · rintro done a w hsz hnot hdep ⟨t78, t79, t80, t81, t82, t83, t84, t85, rfl, gw, f0, f1, f2, f3, f4, f5, f6, f7, f8⟩ K hK
    have hn : ¬ done.getD 7 false = true := by rw [getD_both hnot]; decide
    have d0 := hdep 0 (by kernel_rfl)
    have d1 := hdep 1 (by kernel_rfl)
    have d3 := hdep 3 (by kernel_rfl)
    have d6 := hdep 6 (by kernel_rfl)
    obtain rfl := f0 d0
    obtain rfl := f1 d1
    obtain rfl := f3 d3
    have n8 : done.getD 8 false = false := by
      cases e : done.getD 8 false with
      | false => rfl
      | true => exact absurd ((f8 e).1 7 (by decide)) hn
    replace gw := gw n8
    obtain ⟨z, rfl, hz⟩ := f6 d6
    have HZ := PLift.up hz
    have GW := PLift.up gw
    have HK := PLift.up hK
    clear hK d0 d1 d3
    simp only [brd17A]
    go_simp
    refine (with_any base ms ad n cap s r.name z w (HTR.down.mv HNB2.down GW.down.1) HV.down (Nat.le_trans HB0.down GW.down.1.size) (props_names HNM.down) (by have := HZ.down; omega) (props_ex HNM.down)).mono ?_
    rintro e w2 ⟨v, m2, rfl, h1, h2, h3, hg⟩
    (try go_simp)
    refine HK.down _ _ ⟨_, _, _, _, _, _, _, _, rfl, fun _ => ⟨GW.down.1.gr hg, GW.down.2.1.gr hg, GW.down.2.2.gr hg⟩, kp f0, kp f1, kp f2, kp f3, kp f4, kp f5, fun _ => ⟨z, rfl, HZ.down⟩, ?_, fun q => absurd ((f8 (done_old q (by decide))).1 7 (by decide)) hn⟩
    exact fun _ _ => ⟨v, m2, rfl, h1, h2, h3⟩
  · rintro done a w hsz hnot hdep ⟨t78, t79, t80, t81, t82, t83, t84, t85, rfl, gw, f0, f1, f2, f3, f4, f5, f6, f7, f8⟩ K hK
    have hn : ¬ done.getD 8 false = true := by rw [getD_both hnot]; decide
    have d0 := hdep 0 (by kernel_rfl)
    have d1 := hdep 1 (by kernel_rfl)
    have d2 := hdep 2 (by kernel_rfl)
    have d3 := hdep 3 (by kernel_rfl)
    have d4 := hdep 4 (by kernel_rfl)
    have d5 := hdep 5 (by kernel_rfl)
    have d6 := hdep 6 (by kernel_rfl)
    have d7 := hdep 7 (by kernel_rfl)
    obtain rfl := f0 d0
    obtain rfl := f1 d1
    obtain rfl := f2 d2
    obtain rfl := f3 d3
    obtain rfl := f4 d4
    obtain rfl := f5 d5
    have n8 := getD_both hnot
    obtain ⟨v, m2, rfl, h1, h2, h3⟩ := f7 d7 n8
    obtain ⟨ya, yc, rfl⟩ := owns_slice h1.own
    have g1 := gw n8
    have z0 := g1.2.1.cell 0 (by simp)
    have zf := g1.2.1.free 0
    have zh := has_of_cell z0
    have FN := PLift.up (show FinM wr b len PT base n (w.setCell ⟨PT, 0, none⟩ (.slice ya m2.length yc)) from ⟨w, _, m2, rfl, g1.1, g1.2.1.set 0 _, h1.box g1.2.1.ty (by decide) (h1.ne_ty g1.2.1.ty (by decide)), h2, h3⟩)
    have DD := PLift.up (show ∀ j, j < 8 → done.getD j false = true from by intro j hj; match j, hj with | 0, _ => exact d0 | 1, _ => exact d1 | 2, _ => exact d2 | 3, _ => exact d3 | 4, _ => exact d4 | 5, _ => exact d5 | 6, _ => exact d6 | 7, _ => exact d7)
    clear h3
    have HK := PLift.up hK
    clear hK d0 d1 d2 d3 d4 d5
    simp only [brd17A]
    go_simp
    refine HK.down _ _ ⟨_, _, _, _, _, _, _, _, rfl, fun q => absurd q (by rw [getD_set_same (by rw [hsz]; decide)]; decide), kp f0, kp f1, kp f2, kp f3, kp f4, kp f5, kp f6, fun q q2 => absurd q2 (by rw [getD_set_same (by rw [hsz]; decide)]; decide), ?_⟩
    exact fun _ => ⟨fun j hj => getD_set_true (DD.down j hj), FN.down⟩
  · rintro done a w hall ⟨t78, t79, t80, t81, t82, t83, t84, t85, rfl, gw, f0, f1, f2, f3, f4, f5, f6, f7, f8⟩
    exact h' _ _ _ _ _ _ _ _ w (f8 (hall 8 (by decide))).2
theorem smlF_of {r : Rul} (h : ruleP r = true) (hc : r.count ≤ 2) : SmlF r := by
  have c1 := count_range h
  obtain ⟨k, e, k1, k6⟩ := kind_nat h
  have lr : (0 ≤ r.low ∧ r.low ≤ 4294967295) ∧ (0 ≤ r.high ∧ r.high ≤ 4294967295) := by
    by_cases q : r.kind = 3
    · obtain ⟨a1, a2, a3, a4⟩ := cells_range h q
      exact ⟨⟨a1, a2⟩, a3, a4⟩
    · have := h
      unfold ruleP at this
      rw [if_neg q] at this
      simp at this
      omega
  refine ⟨⟨c1.1, hc⟩, ⟨lr.1.1, lr.1.2, lr.2.1, lr.2.2⟩, ⟨by omega, by omega⟩, words_len h, fun s hs => ?_⟩
  have hw : r.words.all visP = true := by
    unfold ruleP at h
    simp only [Bool.and_eq_true] at h
    exact h.2
  have := List.all_eq_true.1 hw s hs
  unfold visP at this
  simp at this
  omega
def BdS (P6 P7 b len m0 : Nat) (w wr : World) (v : Value) (ms : List NM) : Prop :=
  TrAt P6 wr v ms ∧ VB (ms.map NM.n) ∧ ms.length = m0 ∧ Row wr P7 29 [v] ∧ Row wr P6 29 [.slice none 0 0] ∧ Mv b len w wr
def BdN (P6 P7 b : Nat) (w : World) : Prop := w.heap.size = P6 ∧ P6 < P7 ∧ b < P6
theorem BdS.mv {P6 P7 b len m0 : Nat} {w wr w2 : World} {v : Value} {ms : List NM} (h : BdS P6 P7 b len m0 w wr v ms) (n : BdN P6 P7 b w) (hm : Mv b len wr w2) : BdS P6 P7 b len m0 w w2 v ms := by
  obtain ⟨h1, h2, h3, h4, h5, h6⟩ := h
  obtain ⟨n1, n2, n3⟩ := n
  exact ⟨h1.mv n3 hm, h2, h3, hm.row h4 (by omega), hm.row h5 (by omega), h6.trans (by omega) hm⟩
theorem BdS.gr {P6 P7 b len m0 : Nat} {w wr w2 : World} {v : Value} {ms : List NM} (h : BdS P6 P7 b len m0 w wr v ms) (hg : Gr wr w2) : BdS P6 P7 b len m0 w w2 v ms := by
  obtain ⟨h1, h2, h3, h4, h5, h6⟩ := h
  exact ⟨h1.gr hg, h2, h3, h4.gr hg, h5.gr hg, h6.gr hg⟩
theorem BdS.finM {P6 P7 b len m0 : Nat} {w wr wx : World} {v : Value} {ms : List NM} (h : BdS P6 P7 b len m0 w wr v ms) (n : BdN P6 P7 b w) (hf : FinM wr b len P7 P6 m0 wx) : ∃ v2 m2, BdS P6 P7 b len m0 w wx v2 m2 := by
  obtain ⟨h1, h2, h3, h4, h5, h6⟩ := h
  obtain ⟨n1, n2, n3⟩ := n
  obtain ⟨w1, v2, m2, e, k1, k2, k3, k4, k5⟩ := hf
  refine ⟨v2, m2, k3, k4, k5, k2, ?_, ?_⟩
  · rw [e]; exact (k1.row h5 (by omega)).oth (by omega)
  · rw [e]; exact (h6.trans (by omega) k1).setc (by omega)
theorem BdS.finB {P6 P7 b len m0 : Nat} {w wr wx : World} {v : Value} {ms : List NM} (h : BdS P6 P7 b len m0 w wr v ms) (n : BdN P6 P7 b w) (hf : FinB wr P7 P6 m0 wx) : ∃ v2 m2, BdS P6 P7 b len m0 w wx v2 m2 := by
  obtain ⟨h1, h2, h3, h4, h5, h6⟩ := h
  obtain ⟨n1, n2, n3⟩ := n
  obtain ⟨w1, v2, m2, e, k1, k2, k3, k4, k5⟩ := hf
  refine ⟨v2, m2, k3, k4, k5, k2, ?_, ?_⟩
  · rw [e]; exact (h5.gr k1).oth (by omega)
  · rw [e]; exact (h6.gr k1).setc (by omega)
theorem BdS.tp {P6 P7 b len m0 : Nat} {w wr : World} {v : Value} {ms : List NM} (h : BdS P6 P7 b len m0 w wr v ms) (ht : Tp w b len) : Tp wr b len := h.2.2.2.2.2.tp ht
theorem BdS.size {P6 P7 b len m0 : Nat} {w wr : World} {v : Value} {ms : List NM} (h : BdS P6 P7 b len m0 w wr v ms) (n : BdN P6 P7 b w) : P6 ≤ wr.heap.size := by
  have := h.2.2.2.2.2.size
  have := n.1
  omega
theorem BdS.mvw {P6 P7 b len m0 : Nat} {w wr : World} {v : Value} {ms : List NM} (h : BdS P6 P7 b len m0 w wr v ms) : Mv b len w wr := h.2.2.2.2.2
theorem BdS.form {P6 P7 b len m0 : Nat} {w wr : World} {v : Value} {ms : List NM} (h : BdS P6 P7 b len m0 w wr v ms) : ∃ va vc, v = .slice va m0 vc := by
  obtain ⟨va, vc, e⟩ := owns_slice h.1.own
  exact ⟨va, vc, by rw [e, h.2.2.1]⟩
theorem BdS.sl {P6 P7 b len m0 : Nat} {w wr : World} {va : Option Addr} {vc : Nat} {ms : List NM} (h : BdS P6 P7 b len m0 w wr (.slice va m0 vc) ms) : SlOf 3 RNod wr va (ms.map NM.n) := h.1.sl.2
theorem sch_at {b0 : Nat} {w : World} {sa : Option Addr} {n sc : Nat} {out : List SM} (h : OutAt b0 w (.slice sa n sc) out) {k : Nat} (hk : k < out.length) :
    ∃ g, sa = some ⟨g, 0, none⟩ ∧ w.cell? ⟨g, k * 3 + 2, none⟩ = some out[k].v := by
  obtain ⟨g, cap, e1, _, _, hc⟩ := owns_cell h.own (show 0 < out.length by omega)
  injection e1 with e1 _ _
  refine ⟨g, e1, ?_⟩
  rw [hc (k * 3 + 2) (by omega), flat_at SM.enc 3 (fun _ => rfl) out k 2 hk (by omega)]
  rfl
theorem rul_at {b0 : Nat} {w : World} {s : SM} (h : RlsAt b0 w s) {a : Option Addr} {n c : Nat} (hv : s.v = .slice a n c) {k : Nat} (hk : k < s.rs.length) :
    ∃ g, a = some ⟨g, 0, none⟩ ∧ ∀ j, j < 7 → w.cell? ⟨g, k * 7 + j, none⟩ = (RM.enc s.rs[k])[j]? := by
  obtain ⟨g, cap, e1, _, _, hc⟩ := owns_cell h.own (show 0 < s.rs.length by omega)
  rw [hv] at e1
  injection e1 with e1 _ _
  refine ⟨g, e1, fun j hj => ?_⟩
  rw [hc (k * 7 + j) (by omega), flat_at RM.enc 7 (fun _ => rfl) s.rs k j hk hj]
theorem compL_len {s : St} (h : s ∈ compL) : s.length ≤ 31 := by
  have : ∀ z ∈ compL, z.length ≤ 31 := by decide
  exact this s h
theorem board_any (n b len b0 : Nat) (out : List SM) (sa : Option Addr) (sc : Nat) (w : World) (ht : Tp w b len) (hn : n ≤ 100) (ho : OutAt b0 w (.slice sa out.length sc) out) (hgd : ∀ s ∈ out, GoodS b0 s) (hb0 : b < b0) :
    Calls Tryz.prog 10 #[.pointer (some ⟨b, 0, none⟩), .slice sa out.length sc, .int .i64 n] w (GivesTree w.heap.size n b len w) := by
  have H := Lib.hid ht
  have hb := ht.has
  have HO : Hid (∀ W, Mv b len w W → OutAt b0 W (.slice sa out.length sc) out) := Lib.hid fun W hm => ho.mv (fun s hs => (hgd s hs).hi) hb0 hm
  have GD := Lib.hid hgd
  have OL : Hid (out.length ≤ 24) := Lib.hid ho.len
  clear ht ho hgd
  obtain ⟨P0, hP0⟩ : ∃ P : Ending → World → Prop, P = GivesTree w.heap.size n b len w := ⟨_, rfl⟩
  rw [← hP0]
  have HP0 := Lib.hid hP0
  clear hP0
  go_enter Tryz.func10, Tryz.ntmps10
  go_wp2_with fail
  have R6 := Lib.hid (Row.new w #[.slice none 0 0] 29)
  obtain ⟨W, hW⟩ : ∃ W : World, Hid (W = w.alloc (.cells #[.slice none 0 0] 29)) := ⟨_, Lib.hid rfl⟩
  have GW : Hid (Gr w W) := Lib.hid (by rw [hW.out]; exact (Gr.refl _).alloc _)
  have SW : Hid (W.heap.size = w.heap.size + 1) := Lib.hid (by rw [hW.out]; simp)
  rw [← hW.out] at R6 ⊢
  clear hW
  have M0 := Lib.hid (Mv.of_gr H.out GW.out)
  refine (tree_any n b len W (M0.out.tp H.out) hn).mono ?_
  rintro e w1 ⟨v, ms, rfl, htr, hvt, hml, hm⟩
  obtain ⟨va, vc, rfl⟩ := owns_slice htr.own
  obtain ⟨P6, hP6⟩ : ∃ N : Nat, Hid (w.heap.size = N) := ⟨_, Lib.hid rfl⟩
  have M1 := Lib.hid (M0.out.trans hb hm)
  have Q6 := Lib.hid (hm.row R6.out (by omega))
  have TR := Lib.hid (htr.low (base' := P6) (by have := SW.out; have := hP6.out; omega))
  have VV := Lib.hid hvt
  have ML := Lib.hid hml
  clear htr hvt hml hm R6
  rw [hP6.out] at Q6 HP0 ⊢
  go_upto_region 2 with (fail)
  have R7 := Lib.hid (Row.new w1 #[.slice va ms.length vc] 29)
  have A6 := Lib.hid (Q6.out.alloc (.cells #[.slice va ms.length vc] 29))
  have TA := Lib.hid (TR.out.gr ((Gr.refl w1).alloc (.cells #[.slice va ms.length vc] 29)))
  have MA := Lib.hid (M1.out.gr ((Gr.refl w1).alloc (.cells #[.slice va ms.length vc] 29)))
  have P7L : Hid (P6 < w1.heap.size) := Lib.hid Q6.out.has
  obtain ⟨W2, hW2⟩ : ∃ W : World, Hid (W = w1.alloc (.cells #[.slice va ms.length vc] 29)) := ⟨_, Lib.hid rfl⟩
  obtain ⟨P7, hP7⟩ : ∃ N : Nat, Hid (w1.heap.size = N) := ⟨_, Lib.hid rfl⟩
  obtain ⟨m0, hm0⟩ : ∃ N : Nat, Hid (ms.length = N) := ⟨_, Lib.hid rfl⟩
  have BN : Hid (BdN P6 P7 b w) := Lib.hid ⟨hP6.out, by have := P7L.out; have := hP7.out; omega, by have := hP6.out; omega⟩
  rw [← hW2.out] at R7 A6 TA MA ⊢
  rw [hP7.out] at R7 ⊢
  rw [hm0.out] at R7 TA ML ⊢
  have ST : Hid (BdS P6 P7 b len m0 w W2 (.slice va m0 vc) ms) := Lib.hid ⟨TA.out, VV.out, hm0.out, R7.out, A6.out, MA.out⟩
  have ML2 : Hid (m0 ≤ 101) := Lib.hid (by have := ML.out; omega)
  have x0 := R7.out.cell 0 (by simp)
  have hx := has_of_cell x0
  clear R7 A6 TA MA P7L hW2 hP7 hm0 TR VV Q6 M1 M0 GW SW hP6
  go_wp2_with fail
  clear x0 hx
  go_loopw [21] (fun i wr => ∃ (k : Nat) (v : Value) (ms : List NM), i = .int .i64 (k : Int) ∧ k ≤ m0 ∧ BdS P6 P7 b len m0 w wr v ms) (fun i _ => m0 - (intOf i).toNat)
  case atStart => exact ⟨0, _, ms, rfl, Nat.zero_le _, ST.out⟩
  case round =>
    clear ST
    obtain ⟨k, v, ms2, rfl, hk, hs⟩ := hrel
    obtain ⟨vb, vd, rfl⟩ := hs.form
    have S0 := Lib.hid hs
    clear hs
    by_cases hlt : k < m0
    · have HLT := Lib.hid hlt
      have KW := Lib.hid (wrap_up (k := k) (by have := ML2.out; omega))
      obtain ⟨s, hps, _⟩ := S0.out.2.1.v.pathEx (k := k) (by rw [List.length_map, S0.out.2.2.1]; exact hlt)
      have LT : Hid (k < (ms2.map NM.n).length) := Lib.hid (by rw [List.length_map, S0.out.2.2.1]; exact hlt)
      have PC := rPath_ok (ms2.map NM.n) vb vd k s wr S0.out.sl S0.out.2.1.v LT.out hps
      rw [List.length_map, S0.out.2.2.1] at PC
      have PC := Lib.hid PC
      have x0 := S0.out.2.2.2.1.cell 0 (by simp)
      have hx := has_of_cell x0
      clear hps
      go_wp2_with (go_at_call 15; refine PC.out.mono ?_; rintro e w' ⟨rfl, O, d, rfl⟩)
      -- REST
      refine (nM_any (xt wr O d) b len 3 ((S0.out.gr ((Gr.refl _).xt O d)).tp H.out) (by omega) (by omega)).mono ?_
      rintro e w2 ⟨x, rfl, ⟨y0, y1⟩, hm⟩
      have S1 := Lib.hid ((S0.out.gr ((Gr.refl _).xt O d)).mv BN.out hm)
      clear hm x0 hx S0 PC
      by_cases hx0 : x = 0
      · subst hx0
        go_wp2_with fail
        go_roundw
        case rel => exact ⟨k + 1, _, ms2, by rw [KW.out]; simp, by have := HLT.out; omega, S1.out⟩
        case measure => rw [KW.out]; exact meas_up HLT.out
      · have ez : (x == 0) = false := by rw [beq_eq_false_iff_ne]; exact hx0
        clear hx0
        go_wp2_with fail
        refine (tCompat_any w2 b len (S1.out.tp H.out)).mono ?_
        rintro e w3 ⟨c, hc, rfl, hm⟩
        have S2 := Lib.hid (S1.out.mv BN.out hm)
        have HC := Lib.hid hc
        have NB7 : Hid (P7 ≠ b) := Lib.hid (by have := BN.out.2; omega)
        clear hm S1 hc
        go_wp2_with fail
        refine wp_code_eq (c := Code.region 8 (regIn 8 Tryz.f10) true) (by kernel_rfl) (brd8 (wr := w3) (S2.out.tp H.out) S2.out.2.2.2.1 NB7.out BN.out.2.2 (S2.out.size BN.out) (compL_len HC.out) S2.out.2.1 S2.out.1 ?_)
        intro t32 t33 t34 t35 t36 t37 t38 t39 t40 t41 t42 t43 t44 t45 t46 wx hf
        obtain ⟨v3, ms3, hs3⟩ := S2.out.finM BN.out hf
        obtain ⟨vx, vy, rfl⟩ := hs3.form
        have S3 := Lib.hid hs3
        clear hf hs3 S2
        unfold brd8A
        go_wp2_with fail
        refine (nM_any wx b len 3 (S3.out.tp H.out) (by omega) (by omega)).mono ?_
        rintro e w4 ⟨q, rfl, ⟨q0, q1⟩, hm⟩
        have S4 := Lib.hid (S3.out.mv BN.out hm)
        clear hm S3
        by_cases hq : q = 0
        · subst hq
          go_wp2_with fail
          refine wp_code_eq (c := Code.region 10 (regIn 10 Tryz.f10) true) (by kernel_rfl) (brd10 (wr := w4) S4.out.2.2.2.1 (S4.out.size BN.out) (by have := ML2.out; have := HLT.out; omega) S4.out.2.1 S4.out.1 ?_)
          intro t50 t51 t52 t53 t54 t55 t56 wy hf
          obtain ⟨v5, ms5, hs5⟩ := S4.out.finB BN.out hf
          obtain ⟨vz, vu, rfl⟩ := hs5.form
          have S5 := Lib.hid hs5
          clear hf hs5 S4
          unfold brd10A
          have FC := rFindS_any (out.map SM.sch) sa sc c wy (HO.out _ S5.out.mvw).sl.2 (by rw [List.length_map]; have := OL.out; omega)
          rw [List.length_map] at FC
          have FC := Lib.hid FC
          go_wp2_with fail
          refine FC.out.mono ?_
          clear FC
          rintro e w7 ⟨hg7, ⟨rfl, hno⟩ | ⟨k2, rfl, hk2⟩⟩
          · have S7 := Lib.hid (S5.out.gr hg7)
            clear hg7 hno
            go_wp2_with fail
            go_roundw
            case rel => exact ⟨k + 1, _, ms5, by rw [KW.out]; simp, by have := HLT.out; omega, S7.out⟩
            case measure => rw [KW.out]; exact meas_up HLT.out
          · have S7 := Lib.hid (S5.out.gr hg7)
            obtain ⟨k2l, k2c⟩ := find_at hk2
            rw [List.length_map] at k2l
            have OA := Lib.hid (HO.out _ S7.out.mvw)
            obtain ⟨g, rfl, c2⟩ := sch_at OA.out k2l
            have GS := Lib.hid (GD.out _ (List.getElem_mem k2l))
            have RA := Lib.hid (OA.out.rls _ (List.getElem_mem k2l))
            have RW : Hid (∀ W, Mv b len w W → RlsAt b0 W out[k2]) := Lib.hid fun W hm => (HO.out W hm).rls _ (List.getElem_mem k2l)
            have k2i : (k2 : Int) < (out.length : Int) := by omega
            obtain ⟨sm, hsm⟩ : ∃ sm, out[k2] = sm := ⟨_, rfl⟩
            rw [hsm] at c2 GS RA RW
            obtain ⟨ra, rc, hrv⟩ := owns_slice RA.out.own
            have HRV := Lib.hid hrv
            rw [hrv] at c2
            have hh2 := has_of_cell c2
            have RL : Hid (sm.rs.length ≤ 16) := Lib.hid RA.out.len
            clear hg7 hk2 hsm hrv k2c RA OA
            obtain ⟨rn, hrn⟩ : ∃ rn, Hid (sm.rs.length = rn) := ⟨_, Lib.hid rfl⟩
            rw [hrn.out] at c2 RL
            go_wp2_with fail
            clear c2 hh2 k2i
            go_loopw [71] (fun i wr => ∃ (j : Nat) (v : Value) (ms : List NM), i = .int .i64 (j : Int) ∧ j ≤ rn ∧ BdS P6 P7 b len m0 w wr v ms) (fun i _ => rn - (intOf i).toNat)
            case atStart => exact ⟨0, _, ms5, rfl, Nat.zero_le _, S7.out⟩
            case round =>
              clear S7
              obtain ⟨j, v, ms8, rfl, hj, hs⟩ := hrel
              obtain ⟨vf, vg, rfl⟩ := hs.form
              have S8 := Lib.hid hs
              clear hs
              by_cases hjl : j < rn
              · have JL := Lib.hid hjl
                have JW := Lib.hid (wrap_up (k := j) (by have := RL.out; omega))
                have jl2 : j < sm.rs.length := by rw [hrn.out]; exact hjl
                have RA := Lib.hid (RW.out _ S8.out.mvw)
                obtain ⟨g2, rfl, hc⟩ := rul_at RA.out HRV.out jl2
                obtain ⟨x, hx⟩ : ∃ x, sm.rs[j] = x := ⟨_, rfl⟩
                have XO : Hid (ruleP x.r = true ∧ NmR x.r) := Lib.hid (by rw [← hx]; exact ⟨(RA.out.ok _ (List.getElem_mem jl2)).1, GS.out.nam _ (List.getElem_mem jl2)⟩)
                have XA : Hid (∀ A, x.a = some A → b < A.block) := Lib.hid (by
                  intro A hA
                  have := GS.out.hi x (by rw [← hx]; exact List.getElem_mem jl2) A hA
                  omega)
                have XW : Hid (∀ W, Mv b len w W → WAt W x.a x.r.words) := Lib.hid fun W hm => (RW.out W hm).wds x (by rw [← hx]; exact List.getElem_mem jl2)
                rw [hx] at hc
                have c0 := hc 0 (by omega)
                have c1 := hc 1 (by omega)
                have c2 := hc 2 (by omega)
                have c3 := hc 3 (by omega)
                have c4 := hc 4 (by omega)
                have c5 := hc 5 (by omega)
                have c6 := hc 6 (by omega)
                simp only [RM.enc, List.getElem?_cons_zero, List.getElem?_cons_succ, Nat.add_zero] at c0 c1 c2 c3 c4 c5 c6
                have hh := has_of_cell c0
                have jli : (j : Int) < (rn : Int) := by omega
                clear hc hx jl2
                go_upto_region 16 with (fail)
                have RB := Lib.hid (Row.new wr #[.string (bs x.r.name), .bool x.r.req, .int .i64 x.r.kind, .int .i64 x.r.low, .int .i64 x.r.high, .int .i64 x.r.count, .slice x.a x.r.words.length x.c] 51)
                have G9 := Lib.hid ((Gr.refl wr).alloc (.cells #[.string (bs x.r.name), .bool x.r.req, .int .i64 x.r.kind, .int .i64 x.r.low, .int .i64 x.r.high, .int .i64 x.r.count, .slice x.a x.r.words.length x.c] 51))
                obtain ⟨W9, hW9⟩ : ∃ W : World, Hid (W = wr.alloc (.cells #[.string (bs x.r.name), .bool x.r.req, .int .i64 x.r.kind, .int .i64 x.r.low, .int .i64 x.r.high, .int .i64 x.r.count, .slice x.a x.r.words.length x.c] 51)) := ⟨_, Lib.hid rfl⟩
                rw [← hW9.out] at RB G9 ⊢
                clear hW9 c0 c1 c2 c3 c4 c5 c6 hh jli
                have S9 := Lib.hid (S8.out.gr G9.out)
                have RBB : Hid (wr.heap.size ≠ b) := Lib.hid (by have := (S8.out.tp H.out).has; omega)
                obtain ⟨BR, hBR⟩ : ∃ N : Nat, Hid (wr.heap.size = N) := ⟨_, Lib.hid rfl⟩
                rw [hBR.out] at RB RBB ⊢
                clear hBR S8 G9
                go_wp2_with fail
                refine (nM_any W9 b len 5 (S9.out.tp H.out) (by omega) (by omega)).mono ?_
                rintro e w10 ⟨z, rfl, ⟨z0, z1⟩, hm⟩
                have S10 := Lib.hid (S9.out.mv BN.out hm)
                have RB10 := Lib.hid (hm.row RB.out RBB.out)
                clear hm S9 RB
                by_cases hz : 0 < z
                · go_wp2_with fail
                  refine wp_code_eq (c := Code.region 17 (regIn 17 Tryz.f10) true) (by kernel_rfl) (brd17 (wr := w10) (r := x.r) (S10.out.tp H.out) S10.out.2.2.2.1 RB10.out ⟨NB7.out, RBB.out⟩ BN.out.2.2 (S10.out.size BN.out) (smlF_of XO.out.1 XO.out.2.2) XO.out.2.1 (XW.out _ S10.out.mvw) XA.out S10.out.2.1 S10.out.1 ?_)
                  intro t78 t79 t80 t81 t82 t83 t84 t85 wz hf
                  obtain ⟨v11, ms11, hs11⟩ := S10.out.finM BN.out hf
                  obtain ⟨vh, vi, rfl⟩ := hs11.form
                  have S11 := Lib.hid hs11
                  clear hf hs11 S10
                  unfold brd17A
                  go_wp2_with fail
                  go_roundw
                  case rel => exact ⟨j + 1, _, ms11, by rw [JW.out]; simp, by have := JL.out; omega, S11.out⟩
                  case measure => rw [JW.out]; exact meas_up JL.out
                · go_wp2_with fail
                  go_roundw
                  case rel => exact ⟨j + 1, _, ms8, by rw [JW.out]; simp, by have := JL.out; omega, S10.out⟩
                  case measure => rw [JW.out]; exact meas_up JL.out
              · go_wp2_with fail
                go_roundw
                case rel => exact ⟨k + 1, _, ms8, by rw [KW.out]; simp, by have := HLT.out; omega, S8.out⟩
                case measure => rw [KW.out]; exact meas_up HLT.out
        · have ez2 : (q == 0) = false := by rw [beq_eq_false_iff_ne]; exact hq
          clear hq
          have FC := rFindS_any (out.map SM.sch) sa sc c w4 (HO.out _ S4.out.mvw).sl.2 (by rw [List.length_map]; have := OL.out; omega)
          rw [List.length_map] at FC
          have FC := Lib.hid FC
          go_wp2_with fail
          refine FC.out.mono ?_
          clear FC
          rintro e w7 ⟨hg7, ⟨rfl, hno⟩ | ⟨k2, rfl, hk2⟩⟩
          · have S7 := Lib.hid (S4.out.gr hg7)
            clear hg7 hno
            go_wp2_with fail
            go_roundw
            case rel => exact ⟨k + 1, _, ms3, by rw [KW.out]; simp, by have := HLT.out; omega, S7.out⟩
            case measure => rw [KW.out]; exact meas_up HLT.out
          · have S7 := Lib.hid (S4.out.gr hg7)
            obtain ⟨k2l, k2c⟩ := find_at hk2
            rw [List.length_map] at k2l
            have OA := Lib.hid (HO.out _ S7.out.mvw)
            obtain ⟨g, rfl, c2⟩ := sch_at OA.out k2l
            have GS := Lib.hid (GD.out _ (List.getElem_mem k2l))
            have RA := Lib.hid (OA.out.rls _ (List.getElem_mem k2l))
            have RW : Hid (∀ W, Mv b len w W → RlsAt b0 W out[k2]) := Lib.hid fun W hm => (HO.out W hm).rls _ (List.getElem_mem k2l)
            have k2i : (k2 : Int) < (out.length : Int) := by omega
            obtain ⟨sm, hsm⟩ : ∃ sm, out[k2] = sm := ⟨_, rfl⟩
            rw [hsm] at c2 GS RA RW
            obtain ⟨ra, rc, hrv⟩ := owns_slice RA.out.own
            have HRV := Lib.hid hrv
            rw [hrv] at c2
            have hh2 := has_of_cell c2
            have RL : Hid (sm.rs.length ≤ 16) := Lib.hid RA.out.len
            clear hg7 hk2 hsm hrv k2c RA OA
            obtain ⟨rn, hrn⟩ : ∃ rn, Hid (sm.rs.length = rn) := ⟨_, Lib.hid rfl⟩
            rw [hrn.out] at c2 RL
            go_wp2_with fail
            clear c2 hh2 k2i
            go_loopw [71] (fun i wr => ∃ (j : Nat) (v : Value) (ms : List NM), i = .int .i64 (j : Int) ∧ j ≤ rn ∧ BdS P6 P7 b len m0 w wr v ms) (fun i _ => rn - (intOf i).toNat)
            case atStart => exact ⟨0, _, ms3, rfl, Nat.zero_le _, S7.out⟩
            case round =>
              clear S7
              obtain ⟨j, v, ms8, rfl, hj, hs⟩ := hrel
              obtain ⟨vf, vg, rfl⟩ := hs.form
              have S8 := Lib.hid hs
              clear hs
              by_cases hjl : j < rn
              · have JL := Lib.hid hjl
                have JW := Lib.hid (wrap_up (k := j) (by have := RL.out; omega))
                have jl2 : j < sm.rs.length := by rw [hrn.out]; exact hjl
                have RA := Lib.hid (RW.out _ S8.out.mvw)
                obtain ⟨g2, rfl, hc⟩ := rul_at RA.out HRV.out jl2
                obtain ⟨x, hx⟩ : ∃ x, sm.rs[j] = x := ⟨_, rfl⟩
                have XO : Hid (ruleP x.r = true ∧ NmR x.r) := Lib.hid (by rw [← hx]; exact ⟨(RA.out.ok _ (List.getElem_mem jl2)).1, GS.out.nam _ (List.getElem_mem jl2)⟩)
                have XA : Hid (∀ A, x.a = some A → b < A.block) := Lib.hid (by
                  intro A hA
                  have := GS.out.hi x (by rw [← hx]; exact List.getElem_mem jl2) A hA
                  omega)
                have XW : Hid (∀ W, Mv b len w W → WAt W x.a x.r.words) := Lib.hid fun W hm => (RW.out W hm).wds x (by rw [← hx]; exact List.getElem_mem jl2)
                rw [hx] at hc
                have c0 := hc 0 (by omega)
                have c1 := hc 1 (by omega)
                have c2 := hc 2 (by omega)
                have c3 := hc 3 (by omega)
                have c4 := hc 4 (by omega)
                have c5 := hc 5 (by omega)
                have c6 := hc 6 (by omega)
                simp only [RM.enc, List.getElem?_cons_zero, List.getElem?_cons_succ, Nat.add_zero] at c0 c1 c2 c3 c4 c5 c6
                have hh := has_of_cell c0
                have jli : (j : Int) < (rn : Int) := by omega
                clear hc hx jl2
                go_upto_region 16 with (fail)
                have RB := Lib.hid (Row.new wr #[.string (bs x.r.name), .bool x.r.req, .int .i64 x.r.kind, .int .i64 x.r.low, .int .i64 x.r.high, .int .i64 x.r.count, .slice x.a x.r.words.length x.c] 51)
                have G9 := Lib.hid ((Gr.refl wr).alloc (.cells #[.string (bs x.r.name), .bool x.r.req, .int .i64 x.r.kind, .int .i64 x.r.low, .int .i64 x.r.high, .int .i64 x.r.count, .slice x.a x.r.words.length x.c] 51))
                obtain ⟨W9, hW9⟩ : ∃ W : World, Hid (W = wr.alloc (.cells #[.string (bs x.r.name), .bool x.r.req, .int .i64 x.r.kind, .int .i64 x.r.low, .int .i64 x.r.high, .int .i64 x.r.count, .slice x.a x.r.words.length x.c] 51)) := ⟨_, Lib.hid rfl⟩
                rw [← hW9.out] at RB G9 ⊢
                clear hW9 c0 c1 c2 c3 c4 c5 c6 hh jli
                have S9 := Lib.hid (S8.out.gr G9.out)
                have RBB : Hid (wr.heap.size ≠ b) := Lib.hid (by have := (S8.out.tp H.out).has; omega)
                obtain ⟨BR, hBR⟩ : ∃ N : Nat, Hid (wr.heap.size = N) := ⟨_, Lib.hid rfl⟩
                rw [hBR.out] at RB RBB ⊢
                clear hBR S8 G9
                go_wp2_with fail
                refine (nM_any W9 b len 5 (S9.out.tp H.out) (by omega) (by omega)).mono ?_
                rintro e w10 ⟨z, rfl, ⟨z0, z1⟩, hm⟩
                have S10 := Lib.hid (S9.out.mv BN.out hm)
                have RB10 := Lib.hid (hm.row RB.out RBB.out)
                clear hm S9 RB
                by_cases hz : 0 < z
                · go_wp2_with fail
                  refine wp_code_eq (c := Code.region 17 (regIn 17 Tryz.f10) true) (by kernel_rfl) (brd17 (wr := w10) (r := x.r) (S10.out.tp H.out) S10.out.2.2.2.1 RB10.out ⟨NB7.out, RBB.out⟩ BN.out.2.2 (S10.out.size BN.out) (smlF_of XO.out.1 XO.out.2.2) XO.out.2.1 (XW.out _ S10.out.mvw) XA.out S10.out.2.1 S10.out.1 ?_)
                  intro t78 t79 t80 t81 t82 t83 t84 t85 wz hf
                  obtain ⟨v11, ms11, hs11⟩ := S10.out.finM BN.out hf
                  obtain ⟨vh, vi, rfl⟩ := hs11.form
                  have S11 := Lib.hid hs11
                  clear hf hs11 S10
                  unfold brd17A
                  go_wp2_with fail
                  go_roundw
                  case rel => exact ⟨j + 1, _, ms11, by rw [JW.out]; simp, by have := JL.out; omega, S11.out⟩
                  case measure => rw [JW.out]; exact meas_up JL.out
                · go_wp2_with fail
                  go_roundw
                  case rel => exact ⟨j + 1, _, ms8, by rw [JW.out]; simp, by have := JL.out; omega, S10.out⟩
                  case measure => rw [JW.out]; exact meas_up JL.out
              · go_wp2_with fail
                go_roundw
                case rel => exact ⟨k + 1, _, ms8, by rw [KW.out]; simp, by have := HLT.out; omega, S8.out⟩
                case measure => rw [KW.out]; exact meas_up HLT.out
    · obtain rfl : k = m0 := by omega
      have x0 := S0.out.2.2.2.1.cell 0 (by simp)
      have hx := has_of_cell x0
      have z0 := S0.out.2.2.2.2.1.cell 0 (by simp)
      have zf := S0.out.2.2.2.2.1.free 0
      have hz := has_of_cell z0
      go_wp2_with fail
      have TR := Lib.hid S0.out.1
      have RF := Lib.hid (S0.out.2.2.2.2.1.set 0 (.slice vb k vd))
      have TF := Lib.hid (TR.out.box (o := 0) (u := .slice vb k vd) S0.out.2.2.2.2.1.ty (by decide) (TR.out.ne_ty S0.out.2.2.2.2.1.ty (by decide)))
      have GF : Hid (Mv b len w (wr.setCell ⟨P6, 0, none⟩ (.slice vb k vd))) := Lib.hid (S0.out.mvw.setc (by have := BN.out.1; omega))
      have VF := Lib.hid S0.out.2.1
      have LF : Hid (ms2.length ≤ n + 1) := Lib.hid (by rw [S0.out.2.2.1]; exact ML.out)
      obtain ⟨W3, hW3⟩ : ∃ W : World, Hid (W = wr.setCell ⟨P6, 0, none⟩ (.slice vb k vd)) := ⟨_, Lib.hid rfl⟩
      rw [← hW3.out] at RF TF GF ⊢
      have e0 : W3.cell? ⟨P6, 0, none⟩ = some (.slice vb k vd) := RF.out.cell 0 (by simp)
      clear hW3 x0 hx z0 zf hz
      refine bodyPost_ret (v := .agg #[.slice vb k vd]) (by simp [results, Tryz.results10, e0, go_sem]) rfl ?_
      rw [HP0.out]
      exact ⟨_, ms2, rfl, TF.out, VF.out, LF.out, GF.out⟩
theorem vio_small {ts : Tr} {l : List Sch} {a : Nat} (h : VT ts) (hr : ∀ s ∈ l, s.rules.length ≤ a) {k m : Nat} (hk : k ≤ ts.length) (hm : ts.length ≤ m) : (vioF ts l k).length ≤ m * (a + 12 + 1) := by
  have := vioF_few (ts := ts) (l := l) (a := a) (b := 12) hr (fun i hi => (h.prp i hi).len) k hk
  exact Nat.le_trans this (Nat.mul_le_mul_right _ (by omega))
end Go.Proofs.YtbpkndiecomggaaGreatDoor

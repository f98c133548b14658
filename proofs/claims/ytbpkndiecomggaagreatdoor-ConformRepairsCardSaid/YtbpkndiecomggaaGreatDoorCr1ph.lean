/- Lemmas and contracts for the proof of ConformRepairs (several texts in one, printed by wip/tools/pack.py): UgA UcA UcB. -/
import Derived.Test.YtbpkndiecomggaaGreatDoorCr1pg
import Derived.Test.YtbpkndiecomggaaGreatDoorCr1pf
set_option maxRecDepth 100000
set_option maxHeartbeats 16000000
set_option linter.unusedVariables false
set_option linter.unusedSimpArgs false
namespace Go.Proofs.YtbpkndiecomggaaGreatDoor
open Go.RowKit
open Classical
theorem flatR_one (l : List RM) : ∀ u ∈ l.flatMap RM.enc, u.oneCell' = true := by
  intro u hu
  obtain ⟨x, _, h⟩ := List.mem_flatMap.1 hu
  exact x.enc_one u h
def gs15NF (wr : World) (PX RX : Nat) (x : RM) (xs : List RM) (t10 t67 t68 t69 t70 t71 t72 t73 : Value) (d : Array Bool) (w : World) : Prop :=
  Gr wr w ∧ (d.getD 0 false = true → t67 = .agg #[.string (bs x.r.name), .bool x.r.req, .int .i64 x.r.kind, .int .i64 x.r.low, .int .i64 x.r.high, .int .i64 x.r.count, .slice x.a x.r.words.length x.c]) ∧
  (d.getD 1 false = true → ∃ B, t68 = .slice (some ⟨B, 0, none⟩) 1 1 ∧ wr.heap.size ≤ B ∧ (d.getD 6 false = false → Row w B 51 x.enc)) ∧
  (d.getD 2 false = true → t69 = .pointer (some ⟨PX, 2, none⟩)) ∧
  (d.getD 3 false = true → t70 = .slice none 0 0) ∧
  (d.getD 4 false = true → t71 = .int .i64 (0 : Int)) ∧
  (d.getD 5 false = true → t72 = .slice none 0 0) ∧
  (d.getD 6 false = true → w.ownsRow wr.heap.size 51 7 t73 (1 + 0) (x.enc ++ (xs.drop 0).flatMap RM.enc)) ∧
  (d.getD 7 false = true → (w.ownsRow wr.heap.size 51 7 t10 (1 + 0) (x.enc ++ (xs.drop 0).flatMap RM.enc) ∧ d.getD 6 false = true))
def gs15NA (PX RX : Nat) (t10 t67 t68 t69 t70 t71 t72 t73 s0 s1 s2 s3 s4 s5 s7 s11 s12 s13 s14 s15 s16 s17 s18 s19 s20 s21 s22 s23 s24 s25 s26 s27 s28 s29 s30 s31 s32 s33 s34 s35 s36 s37 s38 s39 s40 s41 s42 s43 s44 s45 s46 s47 s48 s49 s50 s51 s52 s53 s54 s55 s56 s57 s58 s59 s60 s61 s62 s63 s64 s65 s66 s74 s75 s76 s77 s78 s79 s80 s81 s82 s83 s84 s85 s86 s87 : Value) : Act := { tmps := #[s0, s1, s2, s3, s4, s5, .pointer (some ⟨PX, 0, none⟩), s7, .pointer (some ⟨RX, 0, none⟩), .int .i64 (0 : Int), t10, s11, s12, s13, s14, s15, s16, s17, s18, s19, s20, s21, s22, s23, s24, s25, s26, s27, s28, s29, s30, s31, s32, s33, s34, s35, s36, s37, s38, s39, s40, s41, s42, s43, s44, s45, s46, s47, s48, s49, s50, s51, s52, s53, s54, s55, s56, s57, s58, s59, s60, s61, s62, s63, s64, s65, s66, t67, t68, t69, t70, t71, t72, t73, s74, s75, s76, s77, s78, s79, s80, s81, s82, s83, s84, s85, s86, s87], defers := [] }
theorem gs15N {Q : Exit → Act → World → Prop} {wr : World} {PX RX : Nat} {x : RM} {xs : List RM}  {s0 s1 s2 s3 s4 s5 s7 s10 s11 s12 s13 s14 s15 s16 s17 s18 s19 s20 s21 s22 s23 s24 s25 s26 s27 s28 s29 s30 s31 s32 s33 s34 s35 s36 s37 s38 s39 s40 s41 s42 s43 s44 s45 s46 s47 s48 s49 s50 s51 s52 s53 s54 s55 s56 s57 s58 s59 s60 s61 s62 s63 s64 s65 s66 s67 s68 s69 s70 s71 s72 s73 s74 s75 s76 s77 s78 s79 s80 s81 s82 s83 s84 s85 s86 s87 : Value} (hbox : Row wr RX 51 x.enc) {ps : List Value} (hps : Row wr PX 48 ps) (h2 : ps[2]? = some (.slice none 0 0)) (hgt : ∀ W, Gr wr W → Gets W none (0) 7 ((xs.drop 0).flatMap RM.enc)) (hml : 0 ≤ 100)
    (h' : ∀ t10 t67 t68 t69 t70 t71 t72 t73 wx, Gr wr wx → wx.ownsRow wr.heap.size 51 7 t10 (1 + 0) (x.enc ++ (xs.drop 0).flatMap RM.enc) → Q .normal (gs15NA PX RX t10 t67 t68 t69 t70 t71 t72 t73 s0 s1 s2 s3 s4 s5 s7 s11 s12 s13 s14 s15 s16 s17 s18 s19 s20 s21 s22 s23 s24 s25 s26 s27 s28 s29 s30 s31 s32 s33 s34 s35 s36 s37 s38 s39 s40 s41 s42 s43 s44 s45 s46 s47 s48 s49 s50 s51 s52 s53 s54 s55 s56 s57 s58 s59 s60 s61 s62 s63 s64 s65 s66 s74 s75 s76 s77 s78 s79 s80 s81 s82 s83 s84 s85 s86 s87) wx) :
    (Code.region 15 (regIn 15 Tryz.f9) true).wp Tryz.prog Q { tmps := #[s0, s1, s2, s3, s4, s5, .pointer (some ⟨PX, 0, none⟩), s7, .pointer (some ⟨RX, 0, none⟩), .int .i64 (0 : Int), s10, s11, s12, s13, s14, s15, s16, s17, s18, s19, s20, s21, s22, s23, s24, s25, s26, s27, s28, s29, s30, s31, s32, s33, s34, s35, s36, s37, s38, s39, s40, s41, s42, s43, s44, s45, s46, s47, s48, s49, s50, s51, s52, s53, s54, s55, s56, s57, s58, s59, s60, s61, s62, s63, s64, s65, s66, s67, s68, s69, s70, s71, s72, s73, s74, s75, s76, s77, s78, s79, s80, s81, s82, s83, s84, s85, s86, s87], defers := [] } wr := by
  have HBX := PLift.up hbox
  have HPS := PLift.up hps
  have HV2 := PLift.up h2
  have HGT := PLift.up hgt
  have HML := PLift.up hml
  clear hbox hps h2 hgt hml
  obtain ⟨j0, hj, hy0, hy1, hy2⟩ := info_parts infoRul
  simp only [regIn, Tryz.f9, regOps, Option.bind_some, Option.getD_some, Nat.beq, cond_true, cond_false]
  refine wp_region_steps (fun done a w => ∃ t10 t67 t68 t69 t70 t71 t72 t73, a = gs15NA PX RX t10 t67 t68 t69 t70 t71 t72 t73 s0 s1 s2 s3 s4 s5 s7 s11 s12 s13 s14 s15 s16 s17 s18 s19 s20 s21 s22 s23 s24 s25 s26 s27 s28 s29 s30 s31 s32 s33 s34 s35 s36 s37 s38 s39 s40 s41 s42 s43 s44 s45 s46 s47 s48 s49 s50 s51 s52 s53 s54 s55 s56 s57 s58 s59 s60 s61 s62 s63 s64 s65 s66 s74 s75 s76 s77 s78 s79 s80 s81 s82 s83 s84 s85 s86 s87 ∧ gs15NF wr PX RX x xs t10 t67 t68 t69 t70 t71 t72 t73 done w) (by kernel_rfl) (by kernel_rfl) ?_ ⟨?_, ?_, ?_, ?_, ?_, ?_, ?_, ?_, trivial⟩ ?_
  · exact ⟨s10, s67, s68, s69, s70, s71, s72, s73, rfl, (Gr.refl _).drew, fun q => absurd q (by decide), fun q => absurd q (by decide), fun q => absurd q (by decide), fun q => absurd q (by decide), fun q => absurd q (by decide), fun q => absurd q (by decide), fun q => absurd q (by decide), fun q => absurd q (by decide)⟩
  · rintro done a w hsz hnot hdep ⟨t10, t67, t68, t69, t70, t71, t72, t73, rfl, gw, f0, f1, f2, f3, f4, f5, f6, f7⟩ K hK
    have hn : ¬ done.getD 0 false = true := by rw [getD_both hnot]; decide
    have bx := HBX.down.gr gw
    have b0 : w.cell? ⟨RX, 0, none⟩ = some (.string (bs x.r.name)) := bx.cell 0 (by simp [RM.enc])
    have b1 : w.cell? ⟨RX, 1, none⟩ = some (.bool x.r.req) := bx.cell 1 (by simp [RM.enc])
    have b2 : w.cell? ⟨RX, 2, none⟩ = some (.int .i64 x.r.kind) := bx.cell 2 (by simp [RM.enc])
    have b3 : w.cell? ⟨RX, 3, none⟩ = some (.int .i64 x.r.low) := bx.cell 3 (by simp [RM.enc])
    have b4 : w.cell? ⟨RX, 4, none⟩ = some (.int .i64 x.r.high) := bx.cell 4 (by simp [RM.enc])
    have b5 : w.cell? ⟨RX, 5, none⟩ = some (.int .i64 x.r.count) := bx.cell 5 (by simp [RM.enc])
    have b6 : w.cell? ⟨RX, 6, none⟩ = some (.slice x.a x.r.words.length x.c) := bx.cell 6 (by simp [RM.enc])
    have ch := has_of_cell b0
    clear bx
    have HK := PLift.up hK
    clear hK 
    simp only [gs15NA]
    go_simp
    have gg : Gr w w := Gr.refl _
    refine HK.down _ _ ⟨_, _, _, _, _, _, _, _, rfl, gw, fun _ => rfl, fun q => (let ⟨B, e, h1, h2⟩ := f1 (done_old q (by decide)); ⟨B, e, h1, fun q2 => (h2 (by rw [getD_set_ne false (by decide)] at q2; exact q2)).gr gg⟩), kp f2, kp f3, kp f4, kp f5, fun q => Gr.owns (f6 (done_old q (by decide))) gg, fun q => (let h := f7 (done_old q (by decide)); ⟨Gr.owns h.1 gg, getD_set_true h.2⟩)⟩
  · rintro done a w hsz hnot hdep ⟨t10, t67, t68, t69, t70, t71, t72, t73, rfl, gw, f0, f1, f2, f3, f4, f5, f6, f7⟩ K hK
    have hn : ¬ done.getD 1 false = true := by rw [getD_both hnot]; decide
    have d0 := hdep 0 (by kernel_rfl)
    obtain rfl := f0 d0
    have GS := PLift.up gw.size
    have HK := PLift.up hK
    clear hK d0
    simp only [gs15NA]
    go_simp
    have gg : Gr w (w.alloc (.cells #[.string (bs x.r.name), .bool x.r.req, .int .i64 x.r.kind, .int .i64 x.r.low, .int .i64 x.r.high, .int .i64 x.r.count, .slice x.a x.r.words.length x.c] 51)) := (Gr.refl _).alloc _
    refine HK.down _ _ ⟨_, _, _, _, _, _, _, _, rfl, gw.trans gg, kp f0, ?_, kp f2, kp f3, kp f4, kp f5, fun q => Gr.owns (f6 (done_old q (by decide))) gg, fun q => (let h := f7 (done_old q (by decide)); ⟨Gr.owns h.1 gg, getD_set_true h.2⟩)⟩
    exact fun _ => ⟨_, rfl, GS.down, fun _ => Row.new w _ _⟩
  · rintro done a w hsz hnot hdep ⟨t10, t67, t68, t69, t70, t71, t72, t73, rfl, gw, f0, f1, f2, f3, f4, f5, f6, f7⟩ K hK
    have hn : ¬ done.getD 2 false = true := by rw [getD_both hnot]; decide
    have HK := PLift.up hK
    clear hK 
    simp only [gs15NA]
    go_simp
    have gg : Gr w w := Gr.refl _
    refine HK.down _ _ ⟨_, _, _, _, _, _, _, _, rfl, gw, kp f0, fun q => (let ⟨B, e, h1, h2⟩ := f1 (done_old q (by decide)); ⟨B, e, h1, fun q2 => (h2 (by rw [getD_set_ne false (by decide)] at q2; exact q2)).gr gg⟩), fun _ => rfl, kp f3, kp f4, kp f5, fun q => Gr.owns (f6 (done_old q (by decide))) gg, fun q => (let h := f7 (done_old q (by decide)); ⟨Gr.owns h.1 gg, getD_set_true h.2⟩)⟩
  · rintro done a w hsz hnot hdep ⟨t10, t67, t68, t69, t70, t71, t72, t73, rfl, gw, f0, f1, f2, f3, f4, f5, f6, f7⟩ K hK
    have hn : ¬ done.getD 3 false = true := by rw [getD_both hnot]; decide
    have d2 := hdep 2 (by kernel_rfl)
    obtain rfl := f2 d2
    have px := HPS.down.gr gw
    have c2 : w.cell? ⟨PX, 2, none⟩ = some (.slice none 0 0) := by rw [px.cell 2 (List.getElem?_eq_some_iff.1 HV2.down).1]; exact congrArg some (List.getElem?_eq_some_iff.1 HV2.down).2
    have ch := has_of_cell c2
    clear px
    have HK := PLift.up hK
    clear hK d2
    simp only [gs15NA]
    go_simp
    have gg : Gr w w := Gr.refl _
    refine HK.down _ _ ⟨_, _, _, _, _, _, _, _, rfl, gw, kp f0, fun q => (let ⟨B, e, h1, h2⟩ := f1 (done_old q (by decide)); ⟨B, e, h1, fun q2 => (h2 (by rw [getD_set_ne false (by decide)] at q2; exact q2)).gr gg⟩), kp f2, fun _ => rfl, kp f4, kp f5, fun q => Gr.owns (f6 (done_old q (by decide))) gg, fun q => (let h := f7 (done_old q (by decide)); ⟨Gr.owns h.1 gg, getD_set_true h.2⟩)⟩
  · rintro done a w hsz hnot hdep ⟨t10, t67, t68, t69, t70, t71, t72, t73, rfl, gw, f0, f1, f2, f3, f4, f5, f6, f7⟩ K hK
    have hn : ¬ done.getD 4 false = true := by rw [getD_both hnot]; decide
    have HK := PLift.up hK
    clear hK 
    simp only [gs15NA]
    go_simp
    have gg : Gr w w := Gr.refl _
    refine HK.down _ _ ⟨_, _, _, _, _, _, _, _, rfl, gw, kp f0, fun q => (let ⟨B, e, h1, h2⟩ := f1 (done_old q (by decide)); ⟨B, e, h1, fun q2 => (h2 (by rw [getD_set_ne false (by decide)] at q2; exact q2)).gr gg⟩), kp f2, kp f3, fun _ => rfl, kp f5, fun q => Gr.owns (f6 (done_old q (by decide))) gg, fun q => (let h := f7 (done_old q (by decide)); ⟨Gr.owns h.1 gg, getD_set_true h.2⟩)⟩
  · rintro done a w hsz hnot hdep ⟨t10, t67, t68, t69, t70, t71, t72, t73, rfl, gw, f0, f1, f2, f3, f4, f5, f6, f7⟩ K hK
    have hn : ¬ done.getD 5 false = true := by rw [getD_both hnot]; decide
    have d3 := hdep 3 (by kernel_rfl)
    have d4 := hdep 4 (by kernel_rfl)
    obtain rfl := f3 d3
    obtain rfl := f4 d4
    have HK := PLift.up hK
    clear hK d3 d4
    simp only [gs15NA]
    go_simp
    have gg : Gr w w := Gr.refl _
    refine HK.down _ _ ⟨_, _, _, _, _, _, _, _, rfl, gw, kp f0, fun q => (let ⟨B, e, h1, h2⟩ := f1 (done_old q (by decide)); ⟨B, e, h1, fun q2 => (h2 (by rw [getD_set_ne false (by decide)] at q2; exact q2)).gr gg⟩), kp f2, kp f3, kp f4, fun _ => rfl, fun q => Gr.owns (f6 (done_old q (by decide))) gg, fun q => (let h := f7 (done_old q (by decide)); ⟨Gr.owns h.1 gg, getD_set_true h.2⟩)⟩
  · rintro done a w hsz hnot hdep ⟨t10, t67, t68, t69, t70, t71, t72, t73, rfl, gw, f0, f1, f2, f3, f4, f5, f6, f7⟩ K hK
    have hn : ¬ done.getD 6 false = true := by rw [getD_both hnot]; decide
    have d1 := hdep 1 (by kernel_rfl)
    have d5 := hdep 5 (by kernel_rfl)
    obtain rfl := f5 d5
    have n6 := getD_both hnot
    obtain ⟨B, rfl, hB, h2⟩ := f1 d1
    have rB := h2 n6
    refine step_append_gets _ rfl _ _ 46 rfl wr.heap.size 51 j0 (.agg #[.string (bs []), .bool false, .int .i64 0, .int .i64 0, .int .i64 0, .int .i64 0, .slice none 0 0]) 7 80 Tryz.underlying46 hj hy0 hy1 hy2 rfl (by decide) (.slice (some ⟨B, 0, none⟩) 1 1) 1 x.enc (by simp [Act.eval, gs15NA]) (row_owns rB hB rfl (by unfold maxLen; omega)) none (0) (0) ((xs.drop 0).flatMap RM.enc) (by simp [Act.eval, gs15NA]) (HGT.down w gw) (flatR_one _) (by unfold maxLen; have := HML.down; omega) (by have := HML.down; omega) (by have := gw.size; omega) ?_
    intro v w2 hown hgrow hloc
    have gg : Gr wr w2 := gw.grown hgrow (fun j e => by cases e; exact hB)
    refine hK _ _ ⟨_, _, _, _, _, _, _, _, rfl, gg, kp f0, fun q => (let ⟨B, e, h1, h2⟩ := f1 (done_old q (by decide)); ⟨B, e, h1, fun q2 => absurd q2 (by rw [getD_set_same (by rw [hsz]; decide)]; decide)⟩), kp f2, kp f3, kp f4, kp f5, ?_, fun q => absurd (f7 (done_old q (by decide))).2 hn⟩
    exact fun _ => hown
  · rintro done a w hsz hnot hdep ⟨t10, t67, t68, t69, t70, t71, t72, t73, rfl, gw, f0, f1, f2, f3, f4, f5, f6, f7⟩ K hK
    have hn : ¬ done.getD 7 false = true := by rw [getD_both hnot]; decide
    have d6 := hdep 6 (by kernel_rfl)
    have O6 := PLift.up (f6 d6)
    have D6 := PLift.up d6
    have HK := PLift.up hK
    clear hK 
    simp only [gs15NA]
    go_simp
    have gg : Gr w w := Gr.refl _
    refine HK.down _ _ ⟨_, _, _, _, _, _, _, _, rfl, gw, kp f0, fun q => (let ⟨B, e, h1, h2⟩ := f1 (done_old q (by decide)); ⟨B, e, h1, fun q2 => (h2 (by rw [getD_set_ne false (by decide)] at q2; exact q2)).gr gg⟩), kp f2, kp f3, kp f4, kp f5, fun q => Gr.owns (f6 (done_old q (by decide))) gg, ?_⟩
    exact fun _ => ⟨O6.down, getD_set_true D6.down⟩
  · rintro done a w hall ⟨t10, t67, t68, t69, t70, t71, t72, t73, rfl, gw, f0, f1, f2, f3, f4, f5, f6, f7⟩
    exact h' _ _ _ _ _ _ _ _ w gw (f7 (hall 7 (by decide))).1
def gs15SF (wr : World) (PX RX : Nat) (x : RM) (xs : List RM) (g m c : Nat) (k : Nat) (t10 t67 t68 t69 t70 t71 t72 t73 : Value) (d : Array Bool) (w : World) : Prop :=
  Gr wr w ∧ (d.getD 0 false = true → t67 = .agg #[.string (bs x.r.name), .bool x.r.req, .int .i64 x.r.kind, .int .i64 x.r.low, .int .i64 x.r.high, .int .i64 x.r.count, .slice x.a x.r.words.length x.c]) ∧
  (d.getD 1 false = true → ∃ B, t68 = .slice (some ⟨B, 0, none⟩) 1 1 ∧ wr.heap.size ≤ B ∧ (d.getD 6 false = false → Row w B 51 x.enc)) ∧
  (d.getD 2 false = true → t69 = .pointer (some ⟨PX, 2, none⟩)) ∧
  (d.getD 3 false = true → t70 = .slice (some ⟨g, 0, none⟩) m c) ∧
  (d.getD 4 false = true → t71 = .int .i64 (k : Int)) ∧
  (d.getD 5 false = true → t72 = .slice (some ⟨g, k * 7, none⟩) (m - k) (c - k)) ∧
  (d.getD 6 false = true → w.ownsRow wr.heap.size 51 7 t73 (1 + (m - k)) (x.enc ++ (xs.drop k).flatMap RM.enc)) ∧
  (d.getD 7 false = true → (w.ownsRow wr.heap.size 51 7 t10 (1 + (m - k)) (x.enc ++ (xs.drop k).flatMap RM.enc) ∧ d.getD 6 false = true))
def gs15SA (PX RX : Nat) (k : Nat) (t10 t67 t68 t69 t70 t71 t72 t73 s0 s1 s2 s3 s4 s5 s7 s11 s12 s13 s14 s15 s16 s17 s18 s19 s20 s21 s22 s23 s24 s25 s26 s27 s28 s29 s30 s31 s32 s33 s34 s35 s36 s37 s38 s39 s40 s41 s42 s43 s44 s45 s46 s47 s48 s49 s50 s51 s52 s53 s54 s55 s56 s57 s58 s59 s60 s61 s62 s63 s64 s65 s66 s74 s75 s76 s77 s78 s79 s80 s81 s82 s83 s84 s85 s86 s87 : Value) : Act := { tmps := #[s0, s1, s2, s3, s4, s5, .pointer (some ⟨PX, 0, none⟩), s7, .pointer (some ⟨RX, 0, none⟩), .int .i64 (k : Int), t10, s11, s12, s13, s14, s15, s16, s17, s18, s19, s20, s21, s22, s23, s24, s25, s26, s27, s28, s29, s30, s31, s32, s33, s34, s35, s36, s37, s38, s39, s40, s41, s42, s43, s44, s45, s46, s47, s48, s49, s50, s51, s52, s53, s54, s55, s56, s57, s58, s59, s60, s61, s62, s63, s64, s65, s66, t67, t68, t69, t70, t71, t72, t73, s74, s75, s76, s77, s78, s79, s80, s81, s82, s83, s84, s85, s86, s87], defers := [] }
theorem gs15S {Q : Exit → Act → World → Prop} {wr : World} {PX RX : Nat} {x : RM} {xs : List RM} {g m c : Nat} {k : Nat}  {s0 s1 s2 s3 s4 s5 s7 s10 s11 s12 s13 s14 s15 s16 s17 s18 s19 s20 s21 s22 s23 s24 s25 s26 s27 s28 s29 s30 s31 s32 s33 s34 s35 s36 s37 s38 s39 s40 s41 s42 s43 s44 s45 s46 s47 s48 s49 s50 s51 s52 s53 s54 s55 s56 s57 s58 s59 s60 s61 s62 s63 s64 s65 s66 s67 s68 s69 s70 s71 s72 s73 s74 s75 s76 s77 s78 s79 s80 s81 s82 s83 s84 s85 s86 s87 : Value} (hbox : Row wr RX 51 x.enc) {ps : List Value} (hps : Row wr PX 48 ps) (h2 : ps[2]? = some (.slice (some ⟨g, 0, none⟩) m c)) (hgt : ∀ W, Gr wr W → Gets W (some ⟨g, k * 7, none⟩) ((m - k)) 7 ((xs.drop k).flatMap RM.enc)) (hml : m ≤ 100) (hkm : k ≤ m ∧ m ≤ c ∧ k < c)
    (h' : ∀ t10 t67 t68 t69 t70 t71 t72 t73 wx, Gr wr wx → wx.ownsRow wr.heap.size 51 7 t10 (1 + (m - k)) (x.enc ++ (xs.drop k).flatMap RM.enc) → Q .normal (gs15SA PX RX k t10 t67 t68 t69 t70 t71 t72 t73 s0 s1 s2 s3 s4 s5 s7 s11 s12 s13 s14 s15 s16 s17 s18 s19 s20 s21 s22 s23 s24 s25 s26 s27 s28 s29 s30 s31 s32 s33 s34 s35 s36 s37 s38 s39 s40 s41 s42 s43 s44 s45 s46 s47 s48 s49 s50 s51 s52 s53 s54 s55 s56 s57 s58 s59 s60 s61 s62 s63 s64 s65 s66 s74 s75 s76 s77 s78 s79 s80 s81 s82 s83 s84 s85 s86 s87) wx) :
    (Code.region 15 (regIn 15 Tryz.f9) true).wp Tryz.prog Q { tmps := #[s0, s1, s2, s3, s4, s5, .pointer (some ⟨PX, 0, none⟩), s7, .pointer (some ⟨RX, 0, none⟩), .int .i64 (k : Int), s10, s11, s12, s13, s14, s15, s16, s17, s18, s19, s20, s21, s22, s23, s24, s25, s26, s27, s28, s29, s30, s31, s32, s33, s34, s35, s36, s37, s38, s39, s40, s41, s42, s43, s44, s45, s46, s47, s48, s49, s50, s51, s52, s53, s54, s55, s56, s57, s58, s59, s60, s61, s62, s63, s64, s65, s66, s67, s68, s69, s70, s71, s72, s73, s74, s75, s76, s77, s78, s79, s80, s81, s82, s83, s84, s85, s86, s87], defers := [] } wr := by
  have HBX := PLift.up hbox
  have HPS := PLift.up hps
  have HV2 := PLift.up h2
  have HGT := PLift.up hgt
  have HML := PLift.up hml
  clear hbox hps h2 hgt hml
  have HKM := PLift.up hkm
  clear hkm
  obtain ⟨j0, hj, hy0, hy1, hy2⟩ := info_parts infoRul
  simp only [regIn, Tryz.f9, regOps, Option.bind_some, Option.getD_some, Nat.beq, cond_true, cond_false]
  refine wp_region_steps (fun done a w => ∃ t10 t67 t68 t69 t70 t71 t72 t73, a = gs15SA PX RX k t10 t67 t68 t69 t70 t71 t72 t73 s0 s1 s2 s3 s4 s5 s7 s11 s12 s13 s14 s15 s16 s17 s18 s19 s20 s21 s22 s23 s24 s25 s26 s27 s28 s29 s30 s31 s32 s33 s34 s35 s36 s37 s38 s39 s40 s41 s42 s43 s44 s45 s46 s47 s48 s49 s50 s51 s52 s53 s54 s55 s56 s57 s58 s59 s60 s61 s62 s63 s64 s65 s66 s74 s75 s76 s77 s78 s79 s80 s81 s82 s83 s84 s85 s86 s87 ∧ gs15SF wr PX RX x xs g m c k t10 t67 t68 t69 t70 t71 t72 t73 done w) (by kernel_rfl) (by kernel_rfl) ?_ ⟨?_, ?_, ?_, ?_, ?_, ?_, ?_, ?_, trivial⟩ ?_
  · exact ⟨s10, s67, s68, s69, s70, s71, s72, s73, rfl, (Gr.refl _).drew, fun q => absurd q (by decide), fun q => absurd q (by decide), fun q => absurd q (by decide), fun q => absurd q (by decide), fun q => absurd q (by decide), fun q => absurd q (by decide), fun q => absurd q (by decide), fun q => absurd q (by decide)⟩
  · rintro done a w hsz hnot hdep ⟨t10, t67, t68, t69, t70, t71, t72, t73, rfl, gw, f0, f1, f2, f3, f4, f5, f6, f7⟩ K hK
    have hn : ¬ done.getD 0 false = true := by rw [getD_both hnot]; decide
    have bx := HBX.down.gr gw
    have b0 : w.cell? ⟨RX, 0, none⟩ = some (.string (bs x.r.name)) := bx.cell 0 (by simp [RM.enc])
    have b1 : w.cell? ⟨RX, 1, none⟩ = some (.bool x.r.req) := bx.cell 1 (by simp [RM.enc])
    have b2 : w.cell? ⟨RX, 2, none⟩ = some (.int .i64 x.r.kind) := bx.cell 2 (by simp [RM.enc])
    have b3 : w.cell? ⟨RX, 3, none⟩ = some (.int .i64 x.r.low) := bx.cell 3 (by simp [RM.enc])
    have b4 : w.cell? ⟨RX, 4, none⟩ = some (.int .i64 x.r.high) := bx.cell 4 (by simp [RM.enc])
    have b5 : w.cell? ⟨RX, 5, none⟩ = some (.int .i64 x.r.count) := bx.cell 5 (by simp [RM.enc])
    have b6 : w.cell? ⟨RX, 6, none⟩ = some (.slice x.a x.r.words.length x.c) := bx.cell 6 (by simp [RM.enc])
    have ch := has_of_cell b0
    clear bx
    have HK := PLift.up hK
    clear hK 
    simp only [gs15SA]
    go_simp
    have gg : Gr w w := Gr.refl _
    refine HK.down _ _ ⟨_, _, _, _, _, _, _, _, rfl, gw, fun _ => rfl, fun q => (let ⟨B, e, h1, h2⟩ := f1 (done_old q (by decide)); ⟨B, e, h1, fun q2 => (h2 (by rw [getD_set_ne false (by decide)] at q2; exact q2)).gr gg⟩), kp f2, kp f3, kp f4, kp f5, fun q => Gr.owns (f6 (done_old q (by decide))) gg, fun q => (let h := f7 (done_old q (by decide)); ⟨Gr.owns h.1 gg, getD_set_true h.2⟩)⟩
  · rintro done a w hsz hnot hdep ⟨t10, t67, t68, t69, t70, t71, t72, t73, rfl, gw, f0, f1, f2, f3, f4, f5, f6, f7⟩ K hK
    have hn : ¬ done.getD 1 false = true := by rw [getD_both hnot]; decide
    have d0 := hdep 0 (by kernel_rfl)
    obtain rfl := f0 d0
    have GS := PLift.up gw.size
    have HK := PLift.up hK
    clear hK d0
    simp only [gs15SA]
    go_simp
    have gg : Gr w (w.alloc (.cells #[.string (bs x.r.name), .bool x.r.req, .int .i64 x.r.kind, .int .i64 x.r.low, .int .i64 x.r.high, .int .i64 x.r.count, .slice x.a x.r.words.length x.c] 51)) := (Gr.refl _).alloc _
    refine HK.down _ _ ⟨_, _, _, _, _, _, _, _, rfl, gw.trans gg, kp f0, ?_, kp f2, kp f3, kp f4, kp f5, fun q => Gr.owns (f6 (done_old q (by decide))) gg, fun q => (let h := f7 (done_old q (by decide)); ⟨Gr.owns h.1 gg, getD_set_true h.2⟩)⟩
    exact fun _ => ⟨_, rfl, GS.down, fun _ => Row.new w _ _⟩
  · rintro done a w hsz hnot hdep ⟨t10, t67, t68, t69, t70, t71, t72, t73, rfl, gw, f0, f1, f2, f3, f4, f5, f6, f7⟩ K hK
    have hn : ¬ done.getD 2 false = true := by rw [getD_both hnot]; decide
    have HK := PLift.up hK
    clear hK 
    simp only [gs15SA]
    go_simp
    have gg : Gr w w := Gr.refl _
    refine HK.down _ _ ⟨_, _, _, _, _, _, _, _, rfl, gw, kp f0, fun q => (let ⟨B, e, h1, h2⟩ := f1 (done_old q (by decide)); ⟨B, e, h1, fun q2 => (h2 (by rw [getD_set_ne false (by decide)] at q2; exact q2)).gr gg⟩), fun _ => rfl, kp f3, kp f4, kp f5, fun q => Gr.owns (f6 (done_old q (by decide))) gg, fun q => (let h := f7 (done_old q (by decide)); ⟨Gr.owns h.1 gg, getD_set_true h.2⟩)⟩
  · rintro done a w hsz hnot hdep ⟨t10, t67, t68, t69, t70, t71, t72, t73, rfl, gw, f0, f1, f2, f3, f4, f5, f6, f7⟩ K hK
    have hn : ¬ done.getD 3 false = true := by rw [getD_both hnot]; decide
    have d2 := hdep 2 (by kernel_rfl)
    obtain rfl := f2 d2
    have px := HPS.down.gr gw
    have c2 : w.cell? ⟨PX, 2, none⟩ = some (.slice (some ⟨g, 0, none⟩) m c) := by rw [px.cell 2 (List.getElem?_eq_some_iff.1 HV2.down).1]; exact congrArg some (List.getElem?_eq_some_iff.1 HV2.down).2
    have ch := has_of_cell c2
    clear px
    have HK := PLift.up hK
    clear hK d2
    simp only [gs15SA]
    go_simp
    have gg : Gr w w := Gr.refl _
    refine HK.down _ _ ⟨_, _, _, _, _, _, _, _, rfl, gw, kp f0, fun q => (let ⟨B, e, h1, h2⟩ := f1 (done_old q (by decide)); ⟨B, e, h1, fun q2 => (h2 (by rw [getD_set_ne false (by decide)] at q2; exact q2)).gr gg⟩), kp f2, fun _ => rfl, kp f4, kp f5, fun q => Gr.owns (f6 (done_old q (by decide))) gg, fun q => (let h := f7 (done_old q (by decide)); ⟨Gr.owns h.1 gg, getD_set_true h.2⟩)⟩
  · rintro done a w hsz hnot hdep ⟨t10, t67, t68, t69, t70, t71, t72, t73, rfl, gw, f0, f1, f2, f3, f4, f5, f6, f7⟩ K hK
    have hn : ¬ done.getD 4 false = true := by rw [getD_both hnot]; decide
    have HK := PLift.up hK
    clear hK 
    simp only [gs15SA]
    go_simp
    have gg : Gr w w := Gr.refl _
    refine HK.down _ _ ⟨_, _, _, _, _, _, _, _, rfl, gw, kp f0, fun q => (let ⟨B, e, h1, h2⟩ := f1 (done_old q (by decide)); ⟨B, e, h1, fun q2 => (h2 (by rw [getD_set_ne false (by decide)] at q2; exact q2)).gr gg⟩), kp f2, kp f3, fun _ => rfl, kp f5, fun q => Gr.owns (f6 (done_old q (by decide))) gg, fun q => (let h := f7 (done_old q (by decide)); ⟨Gr.owns h.1 gg, getD_set_true h.2⟩)⟩
  · rintro done a w hsz hnot hdep ⟨t10, t67, t68, t69, t70, t71, t72, t73, rfl, gw, f0, f1, f2, f3, f4, f5, f6, f7⟩ K hK
    have hn : ¬ done.getD 5 false = true := by rw [getD_both hnot]; decide
    have d3 := hdep 3 (by kernel_rfl)
    have d4 := hdep 4 (by kernel_rfl)
    obtain rfl := f3 d3
    obtain rfl := f4 d4
    have h1 := HKM.down
    have h3 := HML.down
    have k1 : (k : Int) ≤ m := by omega
    have k2 : ¬ c - k = 0 := by omega
    have k3 : (k : Int) ≤ c := by omega
    have k4 : (m : Int) ≤ c := by omega
    have k5 : ¬ c = k := by omega
    have HK := PLift.up hK
    clear hK d3 d4
    simp only [gs15SA]
    go_simp
    have gg : Gr w w := Gr.refl _
    refine HK.down _ _ ⟨_, _, _, _, _, _, _, _, rfl, gw, kp f0, fun q => (let ⟨B, e, h1, h2⟩ := f1 (done_old q (by decide)); ⟨B, e, h1, fun q2 => (h2 (by rw [getD_set_ne false (by decide)] at q2; exact q2)).gr gg⟩), kp f2, kp f3, kp f4, fun _ => rfl, fun q => Gr.owns (f6 (done_old q (by decide))) gg, fun q => (let h := f7 (done_old q (by decide)); ⟨Gr.owns h.1 gg, getD_set_true h.2⟩)⟩
  · rintro done a w hsz hnot hdep ⟨t10, t67, t68, t69, t70, t71, t72, t73, rfl, gw, f0, f1, f2, f3, f4, f5, f6, f7⟩ K hK
    have hn : ¬ done.getD 6 false = true := by rw [getD_both hnot]; decide
    have d1 := hdep 1 (by kernel_rfl)
    have d5 := hdep 5 (by kernel_rfl)
    obtain rfl := f5 d5
    have n6 := getD_both hnot
    obtain ⟨B, rfl, hB, h2⟩ := f1 d1
    have rB := h2 n6
    refine step_append_gets _ rfl _ _ 46 rfl wr.heap.size 51 j0 (.agg #[.string (bs []), .bool false, .int .i64 0, .int .i64 0, .int .i64 0, .int .i64 0, .slice none 0 0]) 7 80 Tryz.underlying46 hj hy0 hy1 hy2 rfl (by decide) (.slice (some ⟨B, 0, none⟩) 1 1) 1 x.enc (by simp [Act.eval, gs15SA]) (row_owns rB hB rfl (by unfold maxLen; omega)) (some ⟨g, k * 7, none⟩) ((m - k)) ((c - k)) ((xs.drop k).flatMap RM.enc) (by simp [Act.eval, gs15SA]) (HGT.down w gw) (flatR_one _) (by unfold maxLen; have := HML.down; omega) (by have := HML.down; omega) (by have := gw.size; omega) ?_
    intro v w2 hown hgrow hloc
    have gg : Gr wr w2 := gw.grown hgrow (fun j e => by cases e; exact hB)
    refine hK _ _ ⟨_, _, _, _, _, _, _, _, rfl, gg, kp f0, fun q => (let ⟨B, e, h1, h2⟩ := f1 (done_old q (by decide)); ⟨B, e, h1, fun q2 => absurd q2 (by rw [getD_set_same (by rw [hsz]; decide)]; decide)⟩), kp f2, kp f3, kp f4, kp f5, ?_, fun q => absurd (f7 (done_old q (by decide))).2 hn⟩
    exact fun _ => hown
  · rintro done a w hsz hnot hdep ⟨t10, t67, t68, t69, t70, t71, t72, t73, rfl, gw, f0, f1, f2, f3, f4, f5, f6, f7⟩ K hK
    have hn : ¬ done.getD 7 false = true := by rw [getD_both hnot]; decide
    have d6 := hdep 6 (by kernel_rfl)
    have O6 := PLift.up (f6 d6)
    have D6 := PLift.up d6
    have HK := PLift.up hK
    clear hK 
    simp only [gs15SA]
    go_simp
    have gg : Gr w w := Gr.refl _
    refine HK.down _ _ ⟨_, _, _, _, _, _, _, _, rfl, gw, kp f0, fun q => (let ⟨B, e, h1, h2⟩ := f1 (done_old q (by decide)); ⟨B, e, h1, fun q2 => (h2 (by rw [getD_set_ne false (by decide)] at q2; exact q2)).gr gg⟩), kp f2, kp f3, kp f4, kp f5, fun q => Gr.owns (f6 (done_old q (by decide))) gg, ?_⟩
    exact fun _ => ⟨O6.down, getD_set_true D6.down⟩
  · rintro done a w hall ⟨t10, t67, t68, t69, t70, t71, t72, t73, rfl, gw, f0, f1, f2, f3, f4, f5, f6, f7⟩
    exact h' _ _ _ _ _ _ _ _ w gw (f7 (hall 7 (by decide))).1
def gs15EF (wr : World) (PX RX : Nat) (x : RM) (xs : List RM) (g : Nat) (k : Nat) (t10 t67 t68 t69 t70 t71 t72 t73 : Value) (d : Array Bool) (w : World) : Prop :=
  Gr wr w ∧ (d.getD 0 false = true → t67 = .agg #[.string (bs x.r.name), .bool x.r.req, .int .i64 x.r.kind, .int .i64 x.r.low, .int .i64 x.r.high, .int .i64 x.r.count, .slice x.a x.r.words.length x.c]) ∧
  (d.getD 1 false = true → ∃ B, t68 = .slice (some ⟨B, 0, none⟩) 1 1 ∧ wr.heap.size ≤ B ∧ (d.getD 6 false = false → Row w B 51 x.enc)) ∧
  (d.getD 2 false = true → t69 = .pointer (some ⟨PX, 2, none⟩)) ∧
  (d.getD 3 false = true → t70 = .slice (some ⟨g, 0, none⟩) k k) ∧
  (d.getD 4 false = true → t71 = .int .i64 (k : Int)) ∧
  (d.getD 5 false = true → t72 = .slice (some ⟨g, 0, none⟩) 0 0) ∧
  (d.getD 6 false = true → w.ownsRow wr.heap.size 51 7 t73 (1 + 0) (x.enc ++ (xs.drop k).flatMap RM.enc)) ∧
  (d.getD 7 false = true → (w.ownsRow wr.heap.size 51 7 t10 (1 + 0) (x.enc ++ (xs.drop k).flatMap RM.enc) ∧ d.getD 6 false = true))
def gs15EA (PX RX : Nat) (k : Nat) (t10 t67 t68 t69 t70 t71 t72 t73 s0 s1 s2 s3 s4 s5 s7 s11 s12 s13 s14 s15 s16 s17 s18 s19 s20 s21 s22 s23 s24 s25 s26 s27 s28 s29 s30 s31 s32 s33 s34 s35 s36 s37 s38 s39 s40 s41 s42 s43 s44 s45 s46 s47 s48 s49 s50 s51 s52 s53 s54 s55 s56 s57 s58 s59 s60 s61 s62 s63 s64 s65 s66 s74 s75 s76 s77 s78 s79 s80 s81 s82 s83 s84 s85 s86 s87 : Value) : Act := { tmps := #[s0, s1, s2, s3, s4, s5, .pointer (some ⟨PX, 0, none⟩), s7, .pointer (some ⟨RX, 0, none⟩), .int .i64 (k : Int), t10, s11, s12, s13, s14, s15, s16, s17, s18, s19, s20, s21, s22, s23, s24, s25, s26, s27, s28, s29, s30, s31, s32, s33, s34, s35, s36, s37, s38, s39, s40, s41, s42, s43, s44, s45, s46, s47, s48, s49, s50, s51, s52, s53, s54, s55, s56, s57, s58, s59, s60, s61, s62, s63, s64, s65, s66, t67, t68, t69, t70, t71, t72, t73, s74, s75, s76, s77, s78, s79, s80, s81, s82, s83, s84, s85, s86, s87], defers := [] }
theorem gs15E {Q : Exit → Act → World → Prop} {wr : World} {PX RX : Nat} {x : RM} {xs : List RM} {g : Nat} {k : Nat}  {s0 s1 s2 s3 s4 s5 s7 s10 s11 s12 s13 s14 s15 s16 s17 s18 s19 s20 s21 s22 s23 s24 s25 s26 s27 s28 s29 s30 s31 s32 s33 s34 s35 s36 s37 s38 s39 s40 s41 s42 s43 s44 s45 s46 s47 s48 s49 s50 s51 s52 s53 s54 s55 s56 s57 s58 s59 s60 s61 s62 s63 s64 s65 s66 s67 s68 s69 s70 s71 s72 s73 s74 s75 s76 s77 s78 s79 s80 s81 s82 s83 s84 s85 s86 s87 : Value} (hbox : Row wr RX 51 x.enc) {ps : List Value} (hps : Row wr PX 48 ps) (h2 : ps[2]? = some (.slice (some ⟨g, 0, none⟩) k k)) (hgt : ∀ W, Gr wr W → Gets W (some ⟨g, 0, none⟩) (0) 7 ((xs.drop k).flatMap RM.enc)) (hml : k ≤ 100)
    (h' : ∀ t10 t67 t68 t69 t70 t71 t72 t73 wx, Gr wr wx → wx.ownsRow wr.heap.size 51 7 t10 (1 + 0) (x.enc ++ (xs.drop k).flatMap RM.enc) → Q .normal (gs15EA PX RX k t10 t67 t68 t69 t70 t71 t72 t73 s0 s1 s2 s3 s4 s5 s7 s11 s12 s13 s14 s15 s16 s17 s18 s19 s20 s21 s22 s23 s24 s25 s26 s27 s28 s29 s30 s31 s32 s33 s34 s35 s36 s37 s38 s39 s40 s41 s42 s43 s44 s45 s46 s47 s48 s49 s50 s51 s52 s53 s54 s55 s56 s57 s58 s59 s60 s61 s62 s63 s64 s65 s66 s74 s75 s76 s77 s78 s79 s80 s81 s82 s83 s84 s85 s86 s87) wx) :
    (Code.region 15 (regIn 15 Tryz.f9) true).wp Tryz.prog Q { tmps := #[s0, s1, s2, s3, s4, s5, .pointer (some ⟨PX, 0, none⟩), s7, .pointer (some ⟨RX, 0, none⟩), .int .i64 (k : Int), s10, s11, s12, s13, s14, s15, s16, s17, s18, s19, s20, s21, s22, s23, s24, s25, s26, s27, s28, s29, s30, s31, s32, s33, s34, s35, s36, s37, s38, s39, s40, s41, s42, s43, s44, s45, s46, s47, s48, s49, s50, s51, s52, s53, s54, s55, s56, s57, s58, s59, s60, s61, s62, s63, s64, s65, s66, s67, s68, s69, s70, s71, s72, s73, s74, s75, s76, s77, s78, s79, s80, s81, s82, s83, s84, s85, s86, s87], defers := [] } wr := by
  have HBX := PLift.up hbox
  have HPS := PLift.up hps
  have HV2 := PLift.up h2
  have HGT := PLift.up hgt
  have HML := PLift.up hml
  clear hbox hps h2 hgt hml
  obtain ⟨j0, hj, hy0, hy1, hy2⟩ := info_parts infoRul
  simp only [regIn, Tryz.f9, regOps, Option.bind_some, Option.getD_some, Nat.beq, cond_true, cond_false]
  refine wp_region_steps (fun done a w => ∃ t10 t67 t68 t69 t70 t71 t72 t73, a = gs15EA PX RX k t10 t67 t68 t69 t70 t71 t72 t73 s0 s1 s2 s3 s4 s5 s7 s11 s12 s13 s14 s15 s16 s17 s18 s19 s20 s21 s22 s23 s24 s25 s26 s27 s28 s29 s30 s31 s32 s33 s34 s35 s36 s37 s38 s39 s40 s41 s42 s43 s44 s45 s46 s47 s48 s49 s50 s51 s52 s53 s54 s55 s56 s57 s58 s59 s60 s61 s62 s63 s64 s65 s66 s74 s75 s76 s77 s78 s79 s80 s81 s82 s83 s84 s85 s86 s87 ∧ gs15EF wr PX RX x xs g k t10 t67 t68 t69 t70 t71 t72 t73 done w) (by kernel_rfl) (by kernel_rfl) ?_ ⟨?_, ?_, ?_, ?_, ?_, ?_, ?_, ?_, trivial⟩ ?_
  · exact ⟨s10, s67, s68, s69, s70, s71, s72, s73, rfl, (Gr.refl _).drew, fun q => absurd q (by decide), fun q => absurd q (by decide), fun q => absurd q (by decide), fun q => absurd q (by decide), fun q => absurd q (by decide), fun q => absurd q (by decide), fun q => absurd q (by decide), fun q => absurd q (by decide)⟩
  · rintro done a w hsz hnot hdep ⟨t10, t67, t68, t69, t70, t71, t72, t73, rfl, gw, f0, f1, f2, f3, f4, f5, f6, f7⟩ K hK
    have hn : ¬ done.getD 0 false = true := by rw [getD_both hnot]; decide
    have bx := HBX.down.gr gw
    have b0 : w.cell? ⟨RX, 0, none⟩ = some (.string (bs x.r.name)) := bx.cell 0 (by simp [RM.enc])
    have b1 : w.cell? ⟨RX, 1, none⟩ = some (.bool x.r.req) := bx.cell 1 (by simp [RM.enc])
    have b2 : w.cell? ⟨RX, 2, none⟩ = some (.int .i64 x.r.kind) := bx.cell 2 (by simp [RM.enc])
    have b3 : w.cell? ⟨RX, 3, none⟩ = some (.int .i64 x.r.low) := bx.cell 3 (by simp [RM.enc])
    have b4 : w.cell? ⟨RX, 4, none⟩ = some (.int .i64 x.r.high) := bx.cell 4 (by simp [RM.enc])
    have b5 : w.cell? ⟨RX, 5, none⟩ = some (.int .i64 x.r.count) := bx.cell 5 (by simp [RM.enc])
    have b6 : w.cell? ⟨RX, 6, none⟩ = some (.slice x.a x.r.words.length x.c) := bx.cell 6 (by simp [RM.enc])
    have ch := has_of_cell b0
    clear bx
    have HK := PLift.up hK
    clear hK 
    simp only [gs15EA]
    go_simp
    have gg : Gr w w := Gr.refl _
    refine HK.down _ _ ⟨_, _, _, _, _, _, _, _, rfl, gw, fun _ => rfl, fun q => (let ⟨B, e, h1, h2⟩ := f1 (done_old q (by decide)); ⟨B, e, h1, fun q2 => (h2 (by rw [getD_set_ne false (by decide)] at q2; exact q2)).gr gg⟩), kp f2, kp f3, kp f4, kp f5, fun q => Gr.owns (f6 (done_old q (by decide))) gg, fun q => (let h := f7 (done_old q (by decide)); ⟨Gr.owns h.1 gg, getD_set_true h.2⟩)⟩
  · rintro done a w hsz hnot hdep ⟨t10, t67, t68, t69, t70, t71, t72, t73, rfl, gw, f0, f1, f2, f3, f4, f5, f6, f7⟩ K hK
    have hn : ¬ done.getD 1 false = true := by rw [getD_both hnot]; decide
    have d0 := hdep 0 (by kernel_rfl)
    obtain rfl := f0 d0
    have GS := PLift.up gw.size
    have HK := PLift.up hK
    clear hK d0
    simp only [gs15EA]
    go_simp
    have gg : Gr w (w.alloc (.cells #[.string (bs x.r.name), .bool x.r.req, .int .i64 x.r.kind, .int .i64 x.r.low, .int .i64 x.r.high, .int .i64 x.r.count, .slice x.a x.r.words.length x.c] 51)) := (Gr.refl _).alloc _
    refine HK.down _ _ ⟨_, _, _, _, _, _, _, _, rfl, gw.trans gg, kp f0, ?_, kp f2, kp f3, kp f4, kp f5, fun q => Gr.owns (f6 (done_old q (by decide))) gg, fun q => (let h := f7 (done_old q (by decide)); ⟨Gr.owns h.1 gg, getD_set_true h.2⟩)⟩
    exact fun _ => ⟨_, rfl, GS.down, fun _ => Row.new w _ _⟩
  · rintro done a w hsz hnot hdep ⟨t10, t67, t68, t69, t70, t71, t72, t73, rfl, gw, f0, f1, f2, f3, f4, f5, f6, f7⟩ K hK
    have hn : ¬ done.getD 2 false = true := by rw [getD_both hnot]; decide
    have HK := PLift.up hK
    clear hK 
    simp only [gs15EA]
    go_simp
    have gg : Gr w w := Gr.refl _
    refine HK.down _ _ ⟨_, _, _, _, _, _, _, _, rfl, gw, kp f0, fun q => (let ⟨B, e, h1, h2⟩ := f1 (done_old q (by decide)); ⟨B, e, h1, fun q2 => (h2 (by rw [getD_set_ne false (by decide)] at q2; exact q2)).gr gg⟩), fun _ => rfl, kp f3, kp f4, kp f5, fun q => Gr.owns (f6 (done_old q (by decide))) gg, fun q => (let h := f7 (done_old q (by decide)); ⟨Gr.owns h.1 gg, getD_set_true h.2⟩)⟩
  · rintro done a w hsz hnot hdep ⟨t10, t67, t68, t69, t70, t71, t72, t73, rfl, gw, f0, f1, f2, f3, f4, f5, f6, f7⟩ K hK
    have hn : ¬ done.getD 3 false = true := by rw [getD_both hnot]; decide
    have d2 := hdep 2 (by kernel_rfl)
    obtain rfl := f2 d2
    have px := HPS.down.gr gw
    have c2 : w.cell? ⟨PX, 2, none⟩ = some (.slice (some ⟨g, 0, none⟩) k k) := by rw [px.cell 2 (List.getElem?_eq_some_iff.1 HV2.down).1]; exact congrArg some (List.getElem?_eq_some_iff.1 HV2.down).2
    have ch := has_of_cell c2
    clear px
    have HK := PLift.up hK
    clear hK d2
    simp only [gs15EA]
    go_simp
    have gg : Gr w w := Gr.refl _
    refine HK.down _ _ ⟨_, _, _, _, _, _, _, _, rfl, gw, kp f0, fun q => (let ⟨B, e, h1, h2⟩ := f1 (done_old q (by decide)); ⟨B, e, h1, fun q2 => (h2 (by rw [getD_set_ne false (by decide)] at q2; exact q2)).gr gg⟩), kp f2, fun _ => rfl, kp f4, kp f5, fun q => Gr.owns (f6 (done_old q (by decide))) gg, fun q => (let h := f7 (done_old q (by decide)); ⟨Gr.owns h.1 gg, getD_set_true h.2⟩)⟩
  · rintro done a w hsz hnot hdep ⟨t10, t67, t68, t69, t70, t71, t72, t73, rfl, gw, f0, f1, f2, f3, f4, f5, f6, f7⟩ K hK
    have hn : ¬ done.getD 4 false = true := by rw [getD_both hnot]; decide
    have HK := PLift.up hK
    clear hK 
    simp only [gs15EA]
    go_simp
    have gg : Gr w w := Gr.refl _
    refine HK.down _ _ ⟨_, _, _, _, _, _, _, _, rfl, gw, kp f0, fun q => (let ⟨B, e, h1, h2⟩ := f1 (done_old q (by decide)); ⟨B, e, h1, fun q2 => (h2 (by rw [getD_set_ne false (by decide)] at q2; exact q2)).gr gg⟩), kp f2, kp f3, fun _ => rfl, kp f5, fun q => Gr.owns (f6 (done_old q (by decide))) gg, fun q => (let h := f7 (done_old q (by decide)); ⟨Gr.owns h.1 gg, getD_set_true h.2⟩)⟩
  · rintro done a w hsz hnot hdep ⟨t10, t67, t68, t69, t70, t71, t72, t73, rfl, gw, f0, f1, f2, f3, f4, f5, f6, f7⟩ K hK
    have hn : ¬ done.getD 5 false = true := by rw [getD_both hnot]; decide
    have d3 := hdep 3 (by kernel_rfl)
    have d4 := hdep 4 (by kernel_rfl)
    obtain rfl := f3 d3
    obtain rfl := f4 d4
    have h3 := HML.down
    have k1 : (k : Int) ≤ k := by omega
    have HK := PLift.up hK
    clear hK d3 d4
    simp only [gs15EA]
    go_simp
    have gg : Gr w w := Gr.refl _
    refine HK.down _ _ ⟨_, _, _, _, _, _, _, _, rfl, gw, kp f0, fun q => (let ⟨B, e, h1, h2⟩ := f1 (done_old q (by decide)); ⟨B, e, h1, fun q2 => (h2 (by rw [getD_set_ne false (by decide)] at q2; exact q2)).gr gg⟩), kp f2, kp f3, kp f4, fun _ => rfl, fun q => Gr.owns (f6 (done_old q (by decide))) gg, fun q => (let h := f7 (done_old q (by decide)); ⟨Gr.owns h.1 gg, getD_set_true h.2⟩)⟩
  · rintro done a w hsz hnot hdep ⟨t10, t67, t68, t69, t70, t71, t72, t73, rfl, gw, f0, f1, f2, f3, f4, f5, f6, f7⟩ K hK
    have hn : ¬ done.getD 6 false = true := by rw [getD_both hnot]; decide
    have d1 := hdep 1 (by kernel_rfl)
    have d5 := hdep 5 (by kernel_rfl)
    obtain rfl := f5 d5
    have n6 := getD_both hnot
    obtain ⟨B, rfl, hB, h2⟩ := f1 d1
    have rB := h2 n6
    refine step_append_gets _ rfl _ _ 46 rfl wr.heap.size 51 j0 (.agg #[.string (bs []), .bool false, .int .i64 0, .int .i64 0, .int .i64 0, .int .i64 0, .slice none 0 0]) 7 80 Tryz.underlying46 hj hy0 hy1 hy2 rfl (by decide) (.slice (some ⟨B, 0, none⟩) 1 1) 1 x.enc (by simp [Act.eval, gs15EA]) (row_owns rB hB rfl (by unfold maxLen; omega)) (some ⟨g, 0, none⟩) (0) (0) ((xs.drop k).flatMap RM.enc) (by simp [Act.eval, gs15EA]) (HGT.down w gw) (flatR_one _) (by unfold maxLen; have := HML.down; omega) (by have := HML.down; omega) (by have := gw.size; omega) ?_
    intro v w2 hown hgrow hloc
    have gg : Gr wr w2 := gw.grown hgrow (fun j e => by cases e; exact hB)
    refine hK _ _ ⟨_, _, _, _, _, _, _, _, rfl, gg, kp f0, fun q => (let ⟨B, e, h1, h2⟩ := f1 (done_old q (by decide)); ⟨B, e, h1, fun q2 => absurd q2 (by rw [getD_set_same (by rw [hsz]; decide)]; decide)⟩), kp f2, kp f3, kp f4, kp f5, ?_, fun q => absurd (f7 (done_old q (by decide))).2 hn⟩
    exact fun _ => hown
  · rintro done a w hsz hnot hdep ⟨t10, t67, t68, t69, t70, t71, t72, t73, rfl, gw, f0, f1, f2, f3, f4, f5, f6, f7⟩ K hK
    have hn : ¬ done.getD 7 false = true := by rw [getD_both hnot]; decide
    have d6 := hdep 6 (by kernel_rfl)
    have O6 := PLift.up (f6 d6)
    have D6 := PLift.up d6
    have HK := PLift.up hK
    clear hK 
    simp only [gs15EA]
    go_simp
    have gg : Gr w w := Gr.refl _
    refine HK.down _ _ ⟨_, _, _, _, _, _, _, _, rfl, gw, kp f0, fun q => (let ⟨B, e, h1, h2⟩ := f1 (done_old q (by decide)); ⟨B, e, h1, fun q2 => (h2 (by rw [getD_set_ne false (by decide)] at q2; exact q2)).gr gg⟩), kp f2, kp f3, kp f4, kp f5, fun q => Gr.owns (f6 (done_old q (by decide))) gg, ?_⟩
    exact fun _ => ⟨O6.down, getD_set_true D6.down⟩
  · rintro done a w hall ⟨t10, t67, t68, t69, t70, t71, t72, t73, rfl, gw, f0, f1, f2, f3, f4, f5, f6, f7⟩
    exact h' _ _ _ _ _ _ _ _ w gw (f7 (hall 7 (by decide))).1
def SmlR (r : Rul) : Prop := r.name.length ≤ 1000000 ∧ r.words.length ≤ 1000000 ∧ ∀ y ∈ r.words, y.length ≤ 1000000
def SmlS (s : Sch) : Prop := s.comp.length ≤ 1000000 ∧ s.rules.length ≤ 1000000 ∧ ∀ r ∈ s.rules, SmlR r
theorem ruls_at {w : World} {a : Option Addr} {l : List Rul} (h : SlOf 7 RRul w a l) (k : Nat) (hk : k < l.length) : ∃ b o pa pc, a = some ⟨b, o, none⟩ ∧ w.cell? ⟨b, o + k * 7, none⟩ = some (.string (bs l[k].name)) ∧ w.cell? ⟨b, o + k * 7 + 1, none⟩ = some (.bool l[k].req) ∧ w.cell? ⟨b, o + k * 7 + 2, none⟩ = some (.int .i64 l[k].kind) ∧ w.cell? ⟨b, o + k * 7 + 3, none⟩ = some (.int .i64 l[k].low) ∧ w.cell? ⟨b, o + k * 7 + 4, none⟩ = some (.int .i64 l[k].high) ∧ w.cell? ⟨b, o + k * 7 + 5, none⟩ = some (.int .i64 l[k].count) ∧ w.cell? ⟨b, o + k * 7 + 6, none⟩ = some (.slice pa l[k].words.length pc) ∧ SlOf 1 RS w pa l[k].words := by
  obtain ⟨b, o, e, c0, c1, c2, c3, c4, c5, ⟨pa, pc, c6, _, hf, hs⟩⟩ := h k hk
  exact ⟨b, o, pa, pc, e, c0.1, c1, c2.1, c3.1, c4.1, c5.1, c6, hs⟩
theorem schs_at {w : World} {a : Option Addr} {l : List Sch} (h : SlOf 3 RSch w a l) (k : Nat) (hk : k < l.length) : ∃ b o pa pc, a = some ⟨b, o, none⟩ ∧ w.cell? ⟨b, o + k * 3, none⟩ = some (.string (bs l[k].comp)) ∧ w.cell? ⟨b, o + k * 3 + 1, none⟩ = some (.bool l[k].closed) ∧ w.cell? ⟨b, o + k * 3 + 2, none⟩ = some (.slice pa l[k].rules.length pc) ∧ SlOf 7 RRul w pa l[k].rules := by
  obtain ⟨b, o, e, c0, c1, ⟨pa, pc, c2, _, hf, hs⟩⟩ := h k hk
  exact ⟨b, o, pa, pc, e, c0.1, c1, c2, hs⟩
theorem ck1_any (s : Sch) (a : Option Addr) (c : Nat) (w : World) (hf : s.rules.length ≤ 1000000) :
    Calls Tryz.prog 74 #[.agg #[.string (bs s.comp), .bool s.closed, .slice a s.rules.length c]] w (Grows w (.bool (decide (16 < s.rules.length)))) := by
  go_enter Tryz.func74, Tryz.ntmps74
  go_wp2
  go_ret
  exact ⟨ret_bool (by rw [Bool.eq_iff_iff]; simp; try omega), (Gr.refl _).alloc _⟩
theorem ck2_any (r : Rul) (a : Option Addr) (c : Nat) (w : World) (h : SlOf 1 RS w a r.words) (hf : SmlR r) :
    Calls Tryz.prog 77 #[.agg #[.string (bs r.name), .bool r.req, .int .i64 r.kind, .int .i64 r.low, .int .i64 r.high, .int .i64 r.count, .slice a r.words.length c]] w (Grows w (.bool (!ruleP r))) := by
  have HC : ∀ W, Gr w W → Calls Tryz.prog 78 #[.agg #[.string (bs r.name), .bool r.req, .int .i64 r.kind, .int .i64 r.low, .int .i64 r.high, .int .i64 r.count, .slice a r.words.length c]] W (Grows W (.bool (ruleP r))) := fun W hg => rule_any r a c W (h.giS hg) hf.2.1 hf.2.2 hf.1
  have HH := Lib.hid HC
  clear HC h hf
  go_enter Tryz.func77, Tryz.ntmps77
  go_wp2_with (go_at_call 78; refine (HH.out _ (by repeat (first | exact Gr.refl _ | refine Gr.alloc _ ?_))).mono ?_; rintro e w' ⟨rfl, O, d, rfl⟩)
  go_ret
  exact ⟨rfl, ((Gr.refl _).alloc _).xt _ _⟩
theorem ck3_any (r : Rul) (a : Option Addr) (c : Nat) (w : World) :
    Calls Tryz.prog 80 #[.agg #[.string (bs r.name), .bool r.req, .int .i64 r.kind, .int .i64 r.low, .int .i64 r.high, .int .i64 r.count, .slice a r.words.length c]] w (Grows w (.string (bs r.name))) := by
  go_enter Tryz.func80, Tryz.ntmps80
  go_wp2
  go_ret
  exact ⟨rfl, (Gr.refl _).alloc _⟩
theorem ck4_any (s : Sch) (a : Option Addr) (c : Nat) (w : World) :
    Calls Tryz.prog 82 #[.agg #[.string (bs s.comp), .bool s.closed, .slice a s.rules.length c]] w (Grows w (.string (bs s.comp))) := by
  go_enter Tryz.func82, Tryz.ntmps82
  go_wp2
  go_ret
  exact ⟨rfl, (Gr.refl _).alloc _⟩
theorem ascN_iff : ∀ l : List St, ascN l = true ↔ ∀ i (h : i + 1 < l.length), ltS l[i] l[i + 1] = true
  | [] => by simp [ascN]
  | [a] => by simp [ascN]
  | a :: b :: l => by
    have ih := ascN_iff (b :: l)
    rw [ascN, Bool.and_eq_true, ih]
    constructor
    · rintro ⟨h1, h2⟩ i hi
      cases i with
      | zero => exact h1
      | succ i => exact h2 i (by simp at hi ⊢; omega)
    · intro h
      refine ⟨h 0 (by simp), fun i hi => h (i + 1) (by simp at hi ⊢; omega)⟩
theorem idxK1_any (ys : List Sch) (a : Option Addr) (cap : Nat) (w : World) (h : SlOf 3 RSch w a ys) (hf : ys.length ≤ 1000000) (hy : ∀ y ∈ ys, SmlS y) :
    Calls Tryz.prog 103 #[.slice a ys.length cap, .func (.func 74) #[] #[]] w fun e w' => ∃ i : Int, e = .returned (.int .i64 i) ∧ (decide (0 ≤ i) = ys.any (fun y => decide (16 < y.rules.length))) ∧ Gr w w' := by
  have H := Lib.hid h
  have HY := Lib.hid hy
  clear h hy
  go_enter Tryz.func103, Tryz.ntmps103
  go_wp2_with fail
  go_loopw [8] (fun i wr => ∃ k : Nat, k ≤ ys.length ∧ i = .int .i64 k ∧ (∀ j (hj : j < k) (hjl : j < ys.length), (fun y => decide (16 < y.rules.length)) ys[j] = false) ∧ Gr w wr) (fun i _ => ys.length - (intOf i).toNat)
  case atStart => exact ⟨0, Nat.zero_le _, rfl, fun j h => absurd h (by omega), Gr.refl _⟩
  case round =>
    obtain ⟨k, hk, rfl, hall, hg⟩ := hrel
    have HA := Lib.hid hall
    have HG := Lib.hid hg
    clear hall hg
    by_cases hlt : k < ys.length
    · obtain ⟨b, o, pa, pc, rfl, c0, c1, c2, hs⟩ := schs_at (H.out.gr RSch.mono HG.out) k hlt
      obtain ⟨y, hyk⟩ : ∃ y, ys[k] = y := ⟨_, rfl⟩
      have HYK := Lib.hid hyk
      have hyl := HY.out ys[k] (List.getElem_mem hlt)
      rw [hyk] at c0 c1 c2 hs hyl
      have hh := has_of_cell c0
      have HC := Lib.hid (ck1_any y pa pc wr hyl.2.1)
      clear hyk hs
      by_cases hv : (fun y => decide (16 < y.rules.length)) y = true
      · rw [show (decide (16 < y.rules.length)) = true from hv] at HC
        have V := Lib.hid hv
        clear hv
        go_wp2_with (go_at_call 74; refine HC.out.mono ?_; rintro e w' ⟨rfl, O, d, rfl⟩)
        go_ret
        refine ⟨_, rfl, ?_, HG.out.xt _ _⟩
        rw [show decide (0 ≤ (k : Int)) = true by simp, eq_comm, List.any_eq_true]
        exact ⟨_, List.getElem_mem hlt, by rw [HYK.out]; exact V.out⟩
      · rw [Bool.not_eq_true] at hv
        rw [show (decide (16 < y.rules.length)) = false from hv] at HC
        have V := Lib.hid hv
        clear hv
        go_wp2_with (go_at_call 74; refine HC.out.mono ?_; rintro e w' ⟨rfl, O, d, rfl⟩)
        go_roundw
        case rel =>
          refine ⟨k + 1, by omega, by go_num, fun j hj hjl => ?_, HG.out.xt _ _⟩
          by_cases e : j = k
          · subst e; rw [HYK.out]; exact V.out
          · exact HA.out j (by omega) hjl
        case measure => simp [intOf]; omega
    · go_wp2_with fail
      go_ret
      refine ⟨_, rfl, ?_, HG.out⟩
      rw [eq_comm, show decide ((0:Int) ≤ -1) = false by simp, List.any_eq_false]
      intro x hx
      obtain ⟨j, hj, rfl⟩ := List.getElem_of_mem hx
      have := HA.out j (by omega) hj
      (try simp only at this)
      rw [this]; decide
theorem conK1_any (ys : List Sch) (a : Option Addr) (cap : Nat) (w : World) (h : SlOf 3 RSch w a ys) (hf : ys.length ≤ 1000000) (hy : ∀ y ∈ ys, SmlS y) :
    Calls Tryz.prog 73 #[.slice a ys.length cap, .func (.func 74) #[] #[]] w (Grows w (.bool (ys.any (fun y => decide (16 < y.rules.length))))) := by
  have H := Lib.hid h
  have HY := Lib.hid hy
  clear h hy
  go_enter Tryz.func73, Tryz.ntmps73
  go_wp2_with fail
  refine (idxK1_any ys a cap w H.out hf HY.out).mono ?_
  rintro e w' ⟨x, rfl, hx, hg⟩
  have X := Lib.hid hx
  have HG := Lib.hid hg
  clear hx hg
  go_wp2_with fail
  go_ret
  exact ⟨ret_bool X.out, HG.out⟩
theorem idxK2_any (ys : List Rul) (a : Option Addr) (cap : Nat) (w : World) (h : SlOf 7 RRul w a ys) (hf : ys.length ≤ 1000000) (hy : ∀ y ∈ ys, SmlR y) :
    Calls Tryz.prog 105 #[.slice a ys.length cap, .func (.func 77) #[] #[]] w fun e w' => ∃ i : Int, e = .returned (.int .i64 i) ∧ (decide (0 ≤ i) = ys.any (fun y => !ruleP y)) ∧ Gr w w' := by
  have H := Lib.hid h
  have HY := Lib.hid hy
  clear h hy
  go_enter Tryz.func105, Tryz.ntmps105
  go_wp2_with fail
  go_loopw [8] (fun i wr => ∃ k : Nat, k ≤ ys.length ∧ i = .int .i64 k ∧ (∀ j (hj : j < k) (hjl : j < ys.length), (fun y => !ruleP y) ys[j] = false) ∧ Gr w wr) (fun i _ => ys.length - (intOf i).toNat)
  case atStart => exact ⟨0, Nat.zero_le _, rfl, fun j h => absurd h (by omega), Gr.refl _⟩
  case round =>
    obtain ⟨k, hk, rfl, hall, hg⟩ := hrel
    have HA := Lib.hid hall
    have HG := Lib.hid hg
    clear hall hg
    by_cases hlt : k < ys.length
    · obtain ⟨b, o, pa, pc, rfl, c0, c1, c2, c3, c4, c5, c6, hs⟩ := ruls_at (H.out.gr RRul.mono HG.out) k hlt
      obtain ⟨y, hyk⟩ : ∃ y, ys[k] = y := ⟨_, rfl⟩
      have HYK := Lib.hid hyk
      have hyl := HY.out ys[k] (List.getElem_mem hlt)
      rw [hyk] at c0 c1 c2 c3 c4 c5 c6 hs hyl
      have hh := has_of_cell c0
      have HC := Lib.hid (ck2_any y pa pc wr hs hyl)
      clear hyk hs
      by_cases hv : (fun y => !ruleP y) y = true
      · rw [show (!ruleP y) = true from hv] at HC
        have V := Lib.hid hv
        clear hv
        go_wp2_with (go_at_call 77; refine HC.out.mono ?_; rintro e w' ⟨rfl, O, d, rfl⟩)
        go_ret
        refine ⟨_, rfl, ?_, HG.out.xt _ _⟩
        rw [show decide (0 ≤ (k : Int)) = true by simp, eq_comm, List.any_eq_true]
        exact ⟨_, List.getElem_mem hlt, by rw [HYK.out]; exact V.out⟩
      · rw [Bool.not_eq_true] at hv
        rw [show (!ruleP y) = false from hv] at HC
        have V := Lib.hid hv
        clear hv
        go_wp2_with (go_at_call 77; refine HC.out.mono ?_; rintro e w' ⟨rfl, O, d, rfl⟩)
        go_roundw
        case rel =>
          refine ⟨k + 1, by omega, by go_num, fun j hj hjl => ?_, HG.out.xt _ _⟩
          by_cases e : j = k
          · subst e; rw [HYK.out]; exact V.out
          · exact HA.out j (by omega) hjl
        case measure => simp [intOf]; omega
    · go_wp2_with fail
      go_ret
      refine ⟨_, rfl, ?_, HG.out⟩
      rw [eq_comm, show decide ((0:Int) ≤ -1) = false by simp, List.any_eq_false]
      intro x hx
      obtain ⟨j, hj, rfl⟩ := List.getElem_of_mem hx
      have := HA.out j (by omega) hj
      (try simp only at this)
      rw [this]; decide
theorem conK2_any (ys : List Rul) (a : Option Addr) (cap : Nat) (w : World) (h : SlOf 7 RRul w a ys) (hf : ys.length ≤ 1000000) (hy : ∀ y ∈ ys, SmlR y) :
    Calls Tryz.prog 76 #[.slice a ys.length cap, .func (.func 77) #[] #[]] w (Grows w (.bool (ys.any (fun y => !ruleP y)))) := by
  have H := Lib.hid h
  have HY := Lib.hid hy
  clear h hy
  go_enter Tryz.func76, Tryz.ntmps76
  go_wp2_with fail
  refine (idxK2_any ys a cap w H.out hf HY.out).mono ?_
  rintro e w' ⟨x, rfl, hx, hg⟩
  have X := Lib.hid hx
  have HG := Lib.hid hg
  clear hx hg
  go_wp2_with fail
  go_ret
  exact ⟨ret_bool X.out, HG.out⟩
theorem ascR_any (ys : List Rul) (a : Option Addr) (cap : Nat) (w : World) (h : SlOf 7 RRul w a ys) (hf : ys.length ≤ 1000000) :
    Calls Tryz.prog 79 #[.slice a ys.length cap, .func (.func 80) #[] #[]] w (Grows w (.bool (ascN (ys.map Rul.name)))) := by
  have H := Lib.hid h
  clear h
  go_enter Tryz.func79, Tryz.ntmps79
  go_wp2_with fail
  go_loopw [5] (fun i wr => ∃ m : Nat, 1 ≤ m ∧ (m = 1 ∨ m ≤ ys.length) ∧ i = .int .i64 m ∧ (∀ j (hj : j + 1 < m) (hjl : j + 1 < ys.length), ltS (Rul.name ys[j]) (Rul.name ys[j + 1]) = true) ∧ Gr w wr) (fun i _ => ys.length - (intOf i).toNat)
  case atStart => exact ⟨1, by omega, .inl rfl, rfl, fun j h => absurd h (by omega), by repeat (first | exact Gr.refl _ | refine Gr.alloc _ ?_)⟩
  case round =>
    obtain ⟨m, hm1, hm, rfl, hal, hg⟩ := hrel
    have HB := Lib.hid hal
    have HG := Lib.hid hg
    clear hal hg
    by_cases hml : m < ys.length
    · obtain ⟨b, o, pa, pc, rfl, c0, c1, c2, c3, c4, c5, c6, _⟩ := ruls_at (H.out.gr RRul.mono HG.out) m hml
      obtain ⟨b3, o3, qa, qc, e3, d0, d1, d2, d3, d4, d5, d6, _⟩ := ruls_at (H.out.gr RRul.mono HG.out) (m - 1) (by omega)
      cases e3
      have hh := has_of_cell c0
      have hi : (1 : Int) ≤ m := by omega
      clear hm
      by_cases hv : ltS (Rul.name (ys[m - 1]'(by omega))) (Rul.name ys[m]) = true
      · have hv' : Op.bytesLess (Rul.name (ys[m - 1]'(by omega))) (Rul.name ys[m]) = true := hv
        have V := Lib.hid hv
        clear hv
        (try simp only at hv')
        go_wp2_with fail
        refine wp_region_grows (by kernel_rfl) (by kernel_rfl) ?_
        repeat (go_big_quiet_step (first | (go_at_call 80; exact calls_grows (ck3_any _ _ _ _))))
        refine wpQuiet_nil ?_
        rintro _ ⟨⟨O, d9⟩, rfl⟩
        go_wp2_with fail
        go_roundw
        case rel =>
          refine ⟨m + 1, by omega, .inr (by omega), by go_num, fun j hj hjl => ?_, HG.out.xt _ _⟩
          by_cases e : j = m - 1
          · subst e
            have := V.out
            have e2 : m - 1 + 1 = m := by omega
            simpa only [e2] using this
          · exact HB.out j (by omega) hjl
        case measure => simp [intOf]; omega
      · have hv' : Op.bytesLess (Rul.name (ys[m - 1]'(by omega))) (Rul.name ys[m]) = false := by rwa [Bool.not_eq_true] at hv
        have V := Lib.hid hv
        clear hv
        (try simp only at hv')
        go_wp2_with fail
        refine wp_region_grows (by kernel_rfl) (by kernel_rfl) ?_
        repeat (go_big_quiet_step (first | (go_at_call 80; exact calls_grows (ck3_any _ _ _ _))))
        refine wpQuiet_nil ?_
        rintro _ ⟨⟨O, d9⟩, rfl⟩
        go_wp2_with fail
        go_ret
        refine ⟨ret_bool ?_, HG.out.xt _ _⟩
        rw [eq_comm, ← Bool.not_eq_true, ascN_iff]
        intro q
        have := q (m - 1) (by rw [List.length_map]; omega)
        have e2 : m - 1 + 1 = m := by omega
        simp only [e2, List.getElem_map] at this
        exact V.out this
    · go_wp2_with fail
      go_ret
      refine ⟨ret_bool ?_, HG.out⟩
      rw [eq_comm, ascN_iff]
      intro j hj
      rw [List.length_map] at hj
      simp only [List.getElem_map]
      exact HB.out j (by omega) hj
theorem ascS_any (ys : List Sch) (a : Option Addr) (cap : Nat) (w : World) (h : SlOf 3 RSch w a ys) (hf : ys.length ≤ 1000000) :
    Calls Tryz.prog 81 #[.slice a ys.length cap, .func (.func 82) #[] #[]] w (Grows w (.bool (ascN (ys.map Sch.comp)))) := by
  have H := Lib.hid h
  clear h
  go_enter Tryz.func81, Tryz.ntmps81
  go_wp2_with fail
  go_loopw [5] (fun i wr => ∃ m : Nat, 1 ≤ m ∧ (m = 1 ∨ m ≤ ys.length) ∧ i = .int .i64 m ∧ (∀ j (hj : j + 1 < m) (hjl : j + 1 < ys.length), ltS (Sch.comp ys[j]) (Sch.comp ys[j + 1]) = true) ∧ Gr w wr) (fun i _ => ys.length - (intOf i).toNat)
  case atStart => exact ⟨1, by omega, .inl rfl, rfl, fun j h => absurd h (by omega), by repeat (first | exact Gr.refl _ | refine Gr.alloc _ ?_)⟩
  case round =>
    obtain ⟨m, hm1, hm, rfl, hal, hg⟩ := hrel
    have HB := Lib.hid hal
    have HG := Lib.hid hg
    clear hal hg
    by_cases hml : m < ys.length
    · obtain ⟨b, o, pa, pc, rfl, c0, c1, c2, _⟩ := schs_at (H.out.gr RSch.mono HG.out) m hml
      obtain ⟨b3, o3, qa, qc, e3, d0, d1, d2, _⟩ := schs_at (H.out.gr RSch.mono HG.out) (m - 1) (by omega)
      cases e3
      have hh := has_of_cell c0
      have hi : (1 : Int) ≤ m := by omega
      clear hm
      by_cases hv : ltS (Sch.comp (ys[m - 1]'(by omega))) (Sch.comp ys[m]) = true
      · have hv' : Op.bytesLess (Sch.comp (ys[m - 1]'(by omega))) (Sch.comp ys[m]) = true := hv
        have V := Lib.hid hv
        clear hv
        (try simp only at hv')
        go_wp2_with fail
        refine wp_region_grows (by kernel_rfl) (by kernel_rfl) ?_
        repeat (go_big_quiet_step (first | (go_at_call 82; exact calls_grows (ck4_any _ _ _ _))))
        refine wpQuiet_nil ?_
        rintro _ ⟨⟨O, d9⟩, rfl⟩
        go_wp2_with fail
        go_roundw
        case rel =>
          refine ⟨m + 1, by omega, .inr (by omega), by go_num, fun j hj hjl => ?_, HG.out.xt _ _⟩
          by_cases e : j = m - 1
          · subst e
            have := V.out
            have e2 : m - 1 + 1 = m := by omega
            simpa only [e2] using this
          · exact HB.out j (by omega) hjl
        case measure => simp [intOf]; omega
      · have hv' : Op.bytesLess (Sch.comp (ys[m - 1]'(by omega))) (Sch.comp ys[m]) = false := by rwa [Bool.not_eq_true] at hv
        have V := Lib.hid hv
        clear hv
        (try simp only at hv')
        go_wp2_with fail
        refine wp_region_grows (by kernel_rfl) (by kernel_rfl) ?_
        repeat (go_big_quiet_step (first | (go_at_call 82; exact calls_grows (ck4_any _ _ _ _))))
        refine wpQuiet_nil ?_
        rintro _ ⟨⟨O, d9⟩, rfl⟩
        go_wp2_with fail
        go_ret
        refine ⟨ret_bool ?_, HG.out.xt _ _⟩
        rw [eq_comm, ← Bool.not_eq_true, ascN_iff]
        intro q
        have := q (m - 1) (by rw [List.length_map]; omega)
        have e2 : m - 1 + 1 = m := by omega
        simp only [e2, List.getElem_map] at this
        exact V.out this
    · go_wp2_with fail
      go_ret
      refine ⟨ret_bool ?_, HG.out⟩
      rw [eq_comm, ascN_iff]
      intro j hj
      rw [List.length_map] at hj
      simp only [List.getElem_map]
      exact HB.out j (by omega) hj
theorem chk_big {l : List Sch} (h : 24 < l.length) : chkSch l = 3 := by unfold chkSch; rw [if_pos (.inl h)]
theorem chk_rls {l : List Sch} (h : l.any (fun y => decide (16 < y.rules.length)) = true) : chkSch l = 3 := by unfold chkSch; rw [if_pos (.inr h)]
def badS (s : Sch) : Bool := !visP s.comp || s.rules.any (fun r => !ruleP r)
def ordS (s : Sch) : Bool := !ascN (s.rules.map Rul.name)
def FitS (l : List Sch) : Prop := ¬ 24 < l.length ∧ l.any (fun y => decide (16 < y.rules.length)) = false
theorem chk_bad {l : List Sch} (h : FitS l) {k : Nat} (hk : k < l.length) (q : badS l[k] = true) : chkSch l = 1 := by
  unfold chkSch
  rw [if_neg (by rw [h.2]; intro z; rcases z with z | z; exact h.1 z; cases z), if_pos]
  rw [List.any_eq_true]
  exact ⟨_, List.getElem_mem hk, q⟩
theorem chk_ord {l : List Sch} (h : FitS l) (hb : ∀ j (h : j < l.length), badS l[j] = false) {k : Nat} (hk : k < l.length) (q : ordS l[k] = true) : chkSch l = 12 := by
  unfold chkSch
  rw [if_neg (by rw [h.2]; intro z; rcases z with z | z; exact h.1 z; cases z), if_neg, if_pos]
  · rw [List.any_eq_true]
    exact ⟨_, List.getElem_mem hk, q⟩
  · rw [List.any_eq_true]
    rintro ⟨x, hx, e⟩
    obtain ⟨j, hj, rfl⟩ := List.getElem_of_mem hx
    have := hb j hj
    unfold badS at this
    rw [this] at e; cases e
theorem chk_end {l : List Sch} (h : FitS l) (hb : ∀ j (h : j < l.length), badS l[j] = false) (ho : ∀ j (h : j < l.length), ordS l[j] = false) : chkSch l = if ascN (l.map Sch.comp) = true then 0 else 12 := by
  unfold chkSch
  rw [if_neg (by rw [h.2]; intro z; rcases z with z | z; exact h.1 z; cases z), if_neg, if_neg]
  · rw [List.any_eq_true]
    rintro ⟨x, hx, e⟩
    obtain ⟨j, hj, rfl⟩ := List.getElem_of_mem hx
    have := ho j hj
    unfold ordS at this
    rw [this] at e; cases e
  · rw [List.any_eq_true]
    rintro ⟨x, hx, e⟩
    obtain ⟨j, hj, rfl⟩ := List.getElem_of_mem hx
    have := hb j hj
    unfold badS at this
    rw [this] at e; cases e
theorem SlOf.giC {w w' : World} {a : Option Addr} {l : List Sch} (h : SlOf 3 RSch w a l) (hg : Gr w w') : SlOf 3 RSch w' a l := h.gr RSch.mono hg
theorem SlOf.giU {w w' : World} {a : Option Addr} {l : List Rul} (h : SlOf 7 RRul w a l) (hg : Gr w w') : SlOf 7 RRul w' a l := h.gr RRul.mono hg
theorem check_any (l : List Sch) (a : Option Addr) (cap : Nat) (w : World) (h : SlOf 3 RSch w a l) (hf : l.length ≤ 1000000) (hb : ∀ s ∈ l, SmlS s) :
    Calls Tryz.prog 43 #[.slice a l.length cap] w (Grows w (.int .i64 (chkSch l))) := by
  have H := Lib.hid h
  have HB := Lib.hid hb
  clear h hb
  go_enter Tryz.func43, Tryz.ntmps43
  by_cases h24 : 24 < l.length
  · have R := Lib.hid (chk_big h24)
    have hi : (24 : Int) < l.length := by omega
    clear h24
    go_wp2_with fail
    go_ret
    exact ⟨by rw [R.out]; rfl, Gr.refl _⟩
  · cases hz : l.any (fun y => decide (16 < y.rules.length)) with
    | true =>
      have R := Lib.hid (chk_rls hz)
      go_wp2_with fail
      refine (conK1_any l a cap w H.out hf HB.out).mono ?_
      rintro e w1 ⟨rfl, O, d, rfl⟩
      rw [hz]
      clear hz
      go_wp2_with fail
      go_ret
      exact ⟨by rw [R.out]; rfl, (Gr.refl _).xt _ _⟩
    | false =>
      have F : Hid (FitS l) := Lib.hid ⟨h24, hz⟩
      go_wp2_with fail
      refine (conK1_any l a cap w H.out hf HB.out).mono ?_
      rintro e w1 ⟨rfl, hg⟩
      rw [hz]
      have G1 := Lib.hid hg
      have hi : ¬ (24 : Int) < l.length := by omega
      clear hz hg h24
      go_wp2_with fail
      go_loopw [16] (fun i wr => ∃ k : Nat, k ≤ l.length ∧ i = .int .i64 k ∧ (∀ j (hj : j < k) (hjl : j < l.length), badS l[j] = false) ∧ Gr w wr) (fun i _ => l.length - (intOf i).toNat)
      case atStart => exact ⟨0, Nat.zero_le _, rfl, fun j h => absurd h (by omega), G1.out⟩
      case round =>
        clear G1
        obtain ⟨k, hk, rfl, hall, hg⟩ := hrel
        have HA := Lib.hid hall
        have HG := Lib.hid hg
        clear hall hg
        by_cases hlt : k < l.length
        · obtain ⟨b, o, pa, pc, rfl, c0, c1, c2, hs⟩ := schs_at (H.out.giC HG.out) k hlt
          obtain ⟨s, hsk⟩ : ∃ s, l[k] = s := ⟨_, rfl⟩
          have HSK := Lib.hid hsk
          have hsl := HB.out l[k] (List.getElem_mem hlt)
          rw [hsk] at c0 c1 c2 hs hsl
          have HSL := Lib.hid hsl
          have hh := has_of_cell c0
          have SL := Lib.hid hs
          clear hsk hs hsl
          cases hv : visP s.comp with
          | false =>
            have R : Hid (chkSch l = 1) := Lib.hid (chk_bad F.out hlt (by rw [HSK.out]; unfold badS; rw [hv]; rfl))
            go_wp2_with (go_at_call 75; refine (vis_any s.comp _ HSL.out.1).mono ?_; rintro e w' ⟨rfl, rfl⟩; rw [hv])
            go_ret
            exact ⟨by rw [R.out]; rfl, HG.out.alloc _⟩
          | true =>
            cases hz : s.rules.any (fun r => !ruleP r) with
            | true =>
              have R : Hid (chkSch l = 1) := Lib.hid (chk_bad F.out hlt (by rw [HSK.out]; unfold badS; rw [hv, hz]; rfl))
              go_wp2_with (first | (go_at_call 75; refine (vis_any s.comp _ HSL.out.1).mono ?_; rintro e w' ⟨rfl, rfl⟩; rw [hv]) | (go_at_call 76; refine (conK2_any s.rules pa pc _ (SL.out.giU ((Gr.refl _).alloc _)) HSL.out.2.1 HSL.out.2.2).mono ?_; rintro e w' ⟨rfl, O, d, rfl⟩; rw [hz]))
              go_ret
              exact ⟨by rw [R.out]; rfl, (HG.out.alloc _).xt _ _⟩
            | false =>
              have R : Hid (badS s = false) := Lib.hid (by unfold badS; rw [hv, hz]; rfl)
              go_wp2_with (first | (go_at_call 75; refine (vis_any s.comp _ HSL.out.1).mono ?_; rintro e w' ⟨rfl, rfl⟩; rw [hv]) | (go_at_call 76; refine (conK2_any s.rules pa pc _ (SL.out.giU ((Gr.refl _).alloc _)) HSL.out.2.1 HSL.out.2.2).mono ?_; rintro e w' ⟨rfl, O, d, rfl⟩; rw [hz]))
              go_roundw
              case rel =>
                refine ⟨k + 1, by omega, by go_num, fun j hj hjl => ?_, (HG.out.alloc _).xt _ _⟩
                by_cases e : j = k
                · subst e; rw [HSK.out]; exact R.out
                · exact HA.out j (by omega) hjl
              case measure => simp [intOf]; omega
        · have BA : Hid (∀ j (h : j < l.length), badS l[j] = false) := Lib.hid (fun j h => HA.out j (by omega) h)
          clear HA
          go_wp2_with fail
          go_loopw [32] (fun i wr => ∃ k : Nat, k ≤ l.length ∧ i = .int .i64 k ∧ (∀ j (hj : j < k) (hjl : j < l.length), ordS l[j] = false) ∧ Gr w wr) (fun i _ => l.length - (intOf i).toNat)
          case atStart => exact ⟨0, Nat.zero_le _, rfl, fun j h => absurd h (by omega), HG.out⟩
          case round =>
            clear HG hk hlt
            obtain ⟨k, hk, rfl, hall, hg⟩ := hrel
            have HA := Lib.hid hall
            have HG := Lib.hid hg
            clear hall hg
            by_cases hlt : k < l.length
            · obtain ⟨b, o, pa, pc, rfl, c0, c1, c2, hs⟩ := schs_at (H.out.giC HG.out) k hlt
              obtain ⟨s, hsk⟩ : ∃ s, l[k] = s := ⟨_, rfl⟩
              have HSK := Lib.hid hsk
              have hsl := HB.out l[k] (List.getElem_mem hlt)
              rw [hsk] at c0 c1 c2 hs hsl
              have HSL := Lib.hid hsl
              have hh := has_of_cell c0
              have SL := Lib.hid hs
              clear hsk hs hsl
              cases hv : ascN (s.rules.map Rul.name) with
              | false =>
                have R : Hid (chkSch l = 12) := Lib.hid (chk_ord F.out BA.out hlt (by rw [HSK.out]; unfold ordS; rw [hv]; rfl))
                go_wp2_with (go_at_call 79; refine (ascR_any s.rules pa pc _ (SL.out.giU ((Gr.refl _).alloc _)) HSL.out.2.1).mono ?_; rintro e w' ⟨rfl, O, d, rfl⟩; rw [hv])
                go_ret
                exact ⟨by rw [R.out]; rfl, (HG.out.alloc _).xt _ _⟩
              | true =>
                have R : Hid (ordS s = false) := Lib.hid (by unfold ordS; rw [hv]; rfl)
                go_wp2_with (go_at_call 79; refine (ascR_any s.rules pa pc _ (SL.out.giU ((Gr.refl _).alloc _)) HSL.out.2.1).mono ?_; rintro e w' ⟨rfl, O, d, rfl⟩; rw [hv])
                go_roundw
                case rel =>
                  refine ⟨k + 1, by omega, by go_num, fun j hj hjl => ?_, (HG.out.alloc _).xt _ _⟩
                  by_cases e : j = k
                  · subst e; rw [HSK.out]; exact R.out
                  · exact HA.out j (by omega) hjl
                case measure => simp [intOf]; omega
            · have OA : Hid (∀ j (h : j < l.length), ordS l[j] = false) := Lib.hid (fun j h => HA.out j (by omega) h)
              have R := Lib.hid (chk_end F.out BA.out OA.out)
              clear HA OA BA
              cases hv : ascN (l.map Sch.comp) with
              | false =>
                rw [hv] at R
                go_wp2_with (go_at_call 81; refine (ascS_any l a cap _ (H.out.giC HG.out) hf).mono ?_; rintro e w' ⟨rfl, O, d, rfl⟩; rw [hv])
                go_ret
                exact ⟨by rw [R.out]; rfl, HG.out.xt _ _⟩
              | true =>
                rw [hv] at R
                go_wp2_with (go_at_call 81; refine (ascS_any l a cap _ (H.out.giC HG.out) hf).mono ?_; rintro e w' ⟨rfl, O, d, rfl⟩; rw [hv])
                go_ret
                exact ⟨by rw [R.out]; rfl, HG.out.xt _ _⟩
end Go.Proofs.YtbpkndiecomggaaGreatDoor

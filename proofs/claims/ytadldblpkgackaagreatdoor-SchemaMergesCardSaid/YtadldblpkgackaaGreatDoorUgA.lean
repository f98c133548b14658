/- A statement of grow.Schemas by an invariant (printed by wip/tools/gs15.py). -/
import Derived.Test.YtadldblpkgackaaGreatDoorUfB
import Derived.Test.YtadldblpkgackaaGreatDoorUdB
set_option linter.unusedVariables false
set_option linter.unusedSimpArgs false
namespace Go.Proofs.YtadldblpkgackaaGreatDoor
open Go.RowKit
open Classical

theorem flatR_one (l : List RM) : ∀ u ∈ l.flatMap RM.enc, u.oneCell' = true := by
  intro u hu
  obtain ⟨x, _, h⟩ := List.mem_flatMap.1 hu
  exact x.enc_one u h
/-- What is known of each slot as soon as its operation is done. -/
def gs15NF (wr : World) (PX RX : Nat) (x : RM) (xs : List RM) (t10 t67 t68 t69 t70 t71 t72 t73 : Value) (d : Array Bool) (w : World) : Prop :=
  Gr wr w ∧ (d.getD 0 false = true → t67 = .agg #[.string (bs x.r.name), .bool x.r.req, .int .i64 x.r.kind, .int .i64 x.r.low, .int .i64 x.r.high, .int .i64 x.r.count, .slice x.a x.r.words.length x.c]) ∧
  (d.getD 1 false = true → ∃ B, t68 = .slice (some ⟨B, 0, none⟩) 1 1 ∧ wr.heap.size ≤ B ∧ (d.getD 6 false = false → Row w B 28 x.enc)) ∧
  (d.getD 2 false = true → t69 = .pointer (some ⟨PX, 2, none⟩)) ∧
  (d.getD 3 false = true → t70 = .slice none 0 0) ∧
  (d.getD 4 false = true → t71 = .int .i64 (0 : Int)) ∧
  (d.getD 5 false = true → t72 = .slice none 0 0) ∧
  (d.getD 6 false = true → w.ownsRow wr.heap.size 28 7 t73 (1 + 0) (x.enc ++ (xs.drop 0).flatMap RM.enc)) ∧
  (d.getD 7 false = true → (w.ownsRow wr.heap.size 28 7 t10 (1 + 0) (x.enc ++ (xs.drop 0).flatMap RM.enc) ∧ d.getD 6 false = true))
/-- The frame. -/
def gs15NA (PX RX : Nat) (t10 t67 t68 t69 t70 t71 t72 t73 s0 s1 s2 s3 s4 s5 s7 s11 s12 s13 s14 s15 s16 s17 s18 s19 s20 s21 s22 s23 s24 s25 s26 s27 s28 s29 s30 s31 s32 s33 s34 s35 s36 s37 s38 s39 s40 s41 s42 s43 s44 s45 s46 s47 s48 s49 s50 s51 s52 s53 s54 s55 s56 s57 s58 s59 s60 s61 s62 s63 s64 s65 s66 s74 s75 s76 s77 s78 s79 s80 s81 s82 s83 s84 s85 s86 s87 : Value) : Act := { tmps := #[s0, s1, s2, s3, s4, s5, .pointer (some ⟨PX, 0, none⟩), s7, .pointer (some ⟨RX, 0, none⟩), .int .i64 (0 : Int), t10, s11, s12, s13, s14, s15, s16, s17, s18, s19, s20, s21, s22, s23, s24, s25, s26, s27, s28, s29, s30, s31, s32, s33, s34, s35, s36, s37, s38, s39, s40, s41, s42, s43, s44, s45, s46, s47, s48, s49, s50, s51, s52, s53, s54, s55, s56, s57, s58, s59, s60, s61, s62, s63, s64, s65, s66, t67, t68, t69, t70, t71, t72, t73, s74, s75, s76, s77, s78, s79, s80, s81, s82, s83, s84, s85, s86, s87], defers := [] }

set_option maxRecDepth 100000 in
set_option maxHeartbeats 4000000 in
theorem gs15N {Q : Exit → Act → World → Prop} {wr : World} {PX RX : Nat} {x : RM} {xs : List RM}  {s0 s1 s2 s3 s4 s5 s7 s10 s11 s12 s13 s14 s15 s16 s17 s18 s19 s20 s21 s22 s23 s24 s25 s26 s27 s28 s29 s30 s31 s32 s33 s34 s35 s36 s37 s38 s39 s40 s41 s42 s43 s44 s45 s46 s47 s48 s49 s50 s51 s52 s53 s54 s55 s56 s57 s58 s59 s60 s61 s62 s63 s64 s65 s66 s67 s68 s69 s70 s71 s72 s73 s74 s75 s76 s77 s78 s79 s80 s81 s82 s83 s84 s85 s86 s87 : Value} (hbox : Row wr RX 28 x.enc) {ps : List Value} (hps : Row wr PX 24 ps) (h2 : ps[2]? = some (.slice none 0 0)) (hgt : ∀ W, Gr wr W → Gets W none (0) 7 ((xs.drop 0).flatMap RM.enc)) (hml : 0 ≤ 100)
    (h' : ∀ t10 t67 t68 t69 t70 t71 t72 t73 wx, Gr wr wx → wx.ownsRow wr.heap.size 28 7 t10 (1 + 0) (x.enc ++ (xs.drop 0).flatMap RM.enc) → Q .normal (gs15NA PX RX t10 t67 t68 t69 t70 t71 t72 t73 s0 s1 s2 s3 s4 s5 s7 s11 s12 s13 s14 s15 s16 s17 s18 s19 s20 s21 s22 s23 s24 s25 s26 s27 s28 s29 s30 s31 s32 s33 s34 s35 s36 s37 s38 s39 s40 s41 s42 s43 s44 s45 s46 s47 s48 s49 s50 s51 s52 s53 s54 s55 s56 s57 s58 s59 s60 s61 s62 s63 s64 s65 s66 s74 s75 s76 s77 s78 s79 s80 s81 s82 s83 s84 s85 s86 s87) wx) :
    (Code.region 15 (regIn 15 Tryz.f14) true).wp Tryz.prog Q { tmps := #[s0, s1, s2, s3, s4, s5, .pointer (some ⟨PX, 0, none⟩), s7, .pointer (some ⟨RX, 0, none⟩), .int .i64 (0 : Int), s10, s11, s12, s13, s14, s15, s16, s17, s18, s19, s20, s21, s22, s23, s24, s25, s26, s27, s28, s29, s30, s31, s32, s33, s34, s35, s36, s37, s38, s39, s40, s41, s42, s43, s44, s45, s46, s47, s48, s49, s50, s51, s52, s53, s54, s55, s56, s57, s58, s59, s60, s61, s62, s63, s64, s65, s66, s67, s68, s69, s70, s71, s72, s73, s74, s75, s76, s77, s78, s79, s80, s81, s82, s83, s84, s85, s86, s87], defers := [] } wr := by
  have HBX := PLift.up hbox
  have HPS := PLift.up hps
  have HV2 := PLift.up h2
  have HGT := PLift.up hgt
  have HML := PLift.up hml
  clear hbox hps h2 hgt hml
  obtain ⟨j0, hj, hy0, hy1, hy2⟩ := info_parts infoRul
  simp only [regIn, Tryz.f14, regOps, Option.bind_some, Option.getD_some, Nat.beq, cond_true, cond_false]
  refine wp_region_steps (fun done a w => ∃ t10 t67 t68 t69 t70 t71 t72 t73, a = gs15NA PX RX t10 t67 t68 t69 t70 t71 t72 t73 s0 s1 s2 s3 s4 s5 s7 s11 s12 s13 s14 s15 s16 s17 s18 s19 s20 s21 s22 s23 s24 s25 s26 s27 s28 s29 s30 s31 s32 s33 s34 s35 s36 s37 s38 s39 s40 s41 s42 s43 s44 s45 s46 s47 s48 s49 s50 s51 s52 s53 s54 s55 s56 s57 s58 s59 s60 s61 s62 s63 s64 s65 s66 s74 s75 s76 s77 s78 s79 s80 s81 s82 s83 s84 s85 s86 s87 ∧ gs15NF wr PX RX x xs t10 t67 t68 t69 t70 t71 t72 t73 done w) (by kernel_rfl) (by kernel_rfl) ?_ ⟨?_, ?_, ?_, ?_, ?_, ?_, ?_, ?_, trivial⟩ ?_
  · exact ⟨s10, s67, s68, s69, s70, s71, s72, s73, rfl, (Gr.refl _).drew, fun q => absurd q (by decide), fun q => absurd q (by decide), fun q => absurd q (by decide), fun q => absurd q (by decide), fun q => absurd q (by decide), fun q => absurd q (by decide), fun q => absurd q (by decide), fun q => absurd q (by decide)⟩
  · rintro done a w hsz hnot hdep ⟨t10, t67, t68, t69, t70, t71, t72, t73, rfl, gw, f0, f1, f2, f3, f4, f5, f6, f7⟩ K hK
    have hn : ¬ done.getD 0 false = true := by rw [getD_both hnot]; decide
    have bx := HBX.down.gr gw
    have b0 : w.cell? ⟨RX, 0, none⟩ = some (.string (bs x.r.name)) := bx.cell 0 (by simp [RM.enc])
    have b1 : w.cell? ⟨RX, 1, none⟩ = some (.bool x.r.req) := bx.cell 1 (by simp [RM.enc])
    have b2 : w.cell? ⟨RX, 2, none⟩ = some (.int .i64 x.r.kind) := bx.cell 2 (by simp [RM.enc])
    have b3 : w.cell? ⟨RX, 3, none⟩ = some (.int .i64 x.r.low) := bx.cell 3 (by simp [RM.enc])
    have b4 : w.cell? ⟨RX, 4, none⟩ = some (.int .i64 x.r.high) := bx.cell 4 (by simp [RM.enc])
    have b5 : w.cell? ⟨RX, 5, none⟩ = some (.int .i64 x.r.count) := bx.cell 5 (by simp [RM.enc])
    have b6 : w.cell? ⟨RX, 6, none⟩ = some (.slice x.a x.r.words.length x.c) := bx.cell 6 (by simp [RM.enc])
    have ch := has_of_cell b0
    clear bx
    have HK := PLift.up hK
    clear hK 
    simp only [gs15NA]
    go_simp
    have gg : Gr w w := Gr.refl _
    refine HK.down _ _ ⟨_, _, _, _, _, _, _, _, rfl, gw, fun _ => rfl, fun q => (let ⟨B, e, h1, h2⟩ := f1 (done_old q (by decide)); ⟨B, e, h1, fun q2 => (h2 (by rw [getD_set_ne false (by decide)] at q2; exact q2)).gr gg⟩), fun q => f2 (done_old q (by decide)), fun q => f3 (done_old q (by decide)), fun q => f4 (done_old q (by decide)), fun q => f5 (done_old q (by decide)), fun q => Gr.owns (f6 (done_old q (by decide))) gg, fun q => (let h := f7 (done_old q (by decide)); ⟨Gr.owns h.1 gg, getD_set_true h.2⟩)⟩
  · rintro done a w hsz hnot hdep ⟨t10, t67, t68, t69, t70, t71, t72, t73, rfl, gw, f0, f1, f2, f3, f4, f5, f6, f7⟩ K hK
    have hn : ¬ done.getD 1 false = true := by rw [getD_both hnot]; decide
    have d0 := hdep 0 (by kernel_rfl)
    obtain rfl := f0 d0
    have GS := PLift.up gw.size
    have HK := PLift.up hK
    clear hK d0
    simp only [gs15NA]
    go_simp
    have gg : Gr w (w.alloc (.cells #[.string (bs x.r.name), .bool x.r.req, .int .i64 x.r.kind, .int .i64 x.r.low, .int .i64 x.r.high, .int .i64 x.r.count, .slice x.a x.r.words.length x.c] 28)) := (Gr.refl _).alloc _
    refine HK.down _ _ ⟨_, _, _, _, _, _, _, _, rfl, gw.trans gg, fun q => f0 (done_old q (by decide)), ?_, fun q => f2 (done_old q (by decide)), fun q => f3 (done_old q (by decide)), fun q => f4 (done_old q (by decide)), fun q => f5 (done_old q (by decide)), fun q => Gr.owns (f6 (done_old q (by decide))) gg, fun q => (let h := f7 (done_old q (by decide)); ⟨Gr.owns h.1 gg, getD_set_true h.2⟩)⟩
    exact fun _ => ⟨_, rfl, GS.down, fun _ => Row.new w _ _⟩
  · rintro done a w hsz hnot hdep ⟨t10, t67, t68, t69, t70, t71, t72, t73, rfl, gw, f0, f1, f2, f3, f4, f5, f6, f7⟩ K hK
    have hn : ¬ done.getD 2 false = true := by rw [getD_both hnot]; decide
    have HK := PLift.up hK
    clear hK 
    simp only [gs15NA]
    go_simp
    have gg : Gr w w := Gr.refl _
    refine HK.down _ _ ⟨_, _, _, _, _, _, _, _, rfl, gw, fun q => f0 (done_old q (by decide)), fun q => (let ⟨B, e, h1, h2⟩ := f1 (done_old q (by decide)); ⟨B, e, h1, fun q2 => (h2 (by rw [getD_set_ne false (by decide)] at q2; exact q2)).gr gg⟩), fun _ => rfl, fun q => f3 (done_old q (by decide)), fun q => f4 (done_old q (by decide)), fun q => f5 (done_old q (by decide)), fun q => Gr.owns (f6 (done_old q (by decide))) gg, fun q => (let h := f7 (done_old q (by decide)); ⟨Gr.owns h.1 gg, getD_set_true h.2⟩)⟩
  · rintro done a w hsz hnot hdep ⟨t10, t67, t68, t69, t70, t71, t72, t73, rfl, gw, f0, f1, f2, f3, f4, f5, f6, f7⟩ K hK
    have hn : ¬ done.getD 3 false = true := by rw [getD_both hnot]; decide
    have d2 := hdep 2 (by kernel_rfl)
    obtain rfl := f2 d2
    have px := HPS.down.gr gw
    have c2 : w.cell? ⟨PX, 2, none⟩ = some (.slice none 0 0) := by rw [px.cell 2 (List.getElem?_eq_some_iff.1 HV2.down).1]; exact congrArg some (List.getElem?_eq_some_iff.1 HV2.down).2
    have ch := has_of_cell c2
    clear px
    have HK := PLift.up hK
    clear hK d2
    simp only [gs15NA]
    go_simp
    have gg : Gr w w := Gr.refl _
    refine HK.down _ _ ⟨_, _, _, _, _, _, _, _, rfl, gw, fun q => f0 (done_old q (by decide)), fun q => (let ⟨B, e, h1, h2⟩ := f1 (done_old q (by decide)); ⟨B, e, h1, fun q2 => (h2 (by rw [getD_set_ne false (by decide)] at q2; exact q2)).gr gg⟩), fun q => f2 (done_old q (by decide)), fun _ => rfl, fun q => f4 (done_old q (by decide)), fun q => f5 (done_old q (by decide)), fun q => Gr.owns (f6 (done_old q (by decide))) gg, fun q => (let h := f7 (done_old q (by decide)); ⟨Gr.owns h.1 gg, getD_set_true h.2⟩)⟩
  · rintro done a w hsz hnot hdep ⟨t10, t67, t68, t69, t70, t71, t72, t73, rfl, gw, f0, f1, f2, f3, f4, f5, f6, f7⟩ K hK
    have hn : ¬ done.getD 4 false = true := by rw [getD_both hnot]; decide
    have HK := PLift.up hK
    clear hK 
    simp only [gs15NA]
    go_simp
    have gg : Gr w w := Gr.refl _
    refine HK.down _ _ ⟨_, _, _, _, _, _, _, _, rfl, gw, fun q => f0 (done_old q (by decide)), fun q => (let ⟨B, e, h1, h2⟩ := f1 (done_old q (by decide)); ⟨B, e, h1, fun q2 => (h2 (by rw [getD_set_ne false (by decide)] at q2; exact q2)).gr gg⟩), fun q => f2 (done_old q (by decide)), fun q => f3 (done_old q (by decide)), fun _ => rfl, fun q => f5 (done_old q (by decide)), fun q => Gr.owns (f6 (done_old q (by decide))) gg, fun q => (let h := f7 (done_old q (by decide)); ⟨Gr.owns h.1 gg, getD_set_true h.2⟩)⟩
  · rintro done a w hsz hnot hdep ⟨t10, t67, t68, t69, t70, t71, t72, t73, rfl, gw, f0, f1, f2, f3, f4, f5, f6, f7⟩ K hK
    have hn : ¬ done.getD 5 false = true := by rw [getD_both hnot]; decide
    have d3 := hdep 3 (by kernel_rfl)
    have d4 := hdep 4 (by kernel_rfl)
    obtain rfl := f3 d3
    obtain rfl := f4 d4
    have HK := PLift.up hK
    clear hK d3 d4
    simp only [gs15NA]
    go_simp
    have gg : Gr w w := Gr.refl _
    refine HK.down _ _ ⟨_, _, _, _, _, _, _, _, rfl, gw, fun q => f0 (done_old q (by decide)), fun q => (let ⟨B, e, h1, h2⟩ := f1 (done_old q (by decide)); ⟨B, e, h1, fun q2 => (h2 (by rw [getD_set_ne false (by decide)] at q2; exact q2)).gr gg⟩), fun q => f2 (done_old q (by decide)), fun q => f3 (done_old q (by decide)), fun q => f4 (done_old q (by decide)), fun _ => rfl, fun q => Gr.owns (f6 (done_old q (by decide))) gg, fun q => (let h := f7 (done_old q (by decide)); ⟨Gr.owns h.1 gg, getD_set_true h.2⟩)⟩
  · rintro done a w hsz hnot hdep ⟨t10, t67, t68, t69, t70, t71, t72, t73, rfl, gw, f0, f1, f2, f3, f4, f5, f6, f7⟩ K hK
    have hn : ¬ done.getD 6 false = true := by rw [getD_both hnot]; decide
    have d1 := hdep 1 (by kernel_rfl)
    have d5 := hdep 5 (by kernel_rfl)
    obtain rfl := f5 d5
    have n6 := getD_both hnot
    obtain ⟨B, rfl, hB, h2⟩ := f1 d1
    have rB := h2 n6
    refine step_append_gets _ rfl _ _ 22 rfl wr.heap.size 28 j0 (.agg #[.string (bs []), .bool false, .int .i64 0, .int .i64 0, .int .i64 0, .int .i64 0, .slice none 0 0]) 7 80 Tryz.underlying22 hj hy0 hy1 hy2 rfl (by decide) (.slice (some ⟨B, 0, none⟩) 1 1) 1 x.enc (by simp [Act.eval, gs15NA]) (row_owns rB hB rfl (by unfold maxLen; omega)) none (0) (0) ((xs.drop 0).flatMap RM.enc) (by simp [Act.eval, gs15NA]) (HGT.down w gw) (flatR_one _) (by unfold maxLen; have := HML.down; omega) (by have := HML.down; omega) (by have := gw.size; omega) ?_
    intro v w2 hown hgrow hloc
    have gg : Gr wr w2 := gw.grown hgrow (fun j e => by cases e; exact hB)
    refine hK _ _ ⟨_, _, _, _, _, _, _, _, rfl, gg, fun q => f0 (done_old q (by decide)), fun q => (let ⟨B, e, h1, h2⟩ := f1 (done_old q (by decide)); ⟨B, e, h1, fun q2 => absurd q2 (by rw [getD_set_same (by rw [hsz]; decide)]; decide)⟩), fun q => f2 (done_old q (by decide)), fun q => f3 (done_old q (by decide)), fun q => f4 (done_old q (by decide)), fun q => f5 (done_old q (by decide)), ?_, fun q => absurd (f7 (done_old q (by decide))).2 hn⟩
    exact fun _ => hown
  · rintro done a w hsz hnot hdep ⟨t10, t67, t68, t69, t70, t71, t72, t73, rfl, gw, f0, f1, f2, f3, f4, f5, f6, f7⟩ K hK
    have hn : ¬ done.getD 7 false = true := by rw [getD_both hnot]; decide
    have d6 := hdep 6 (by kernel_rfl)
    have O6 := PLift.up (f6 d6)
    have D6 := PLift.up d6
    have HK := PLift.up hK
    clear hK 
    simp only [gs15NA]
    go_simp
    have gg : Gr w w := Gr.refl _
    refine HK.down _ _ ⟨_, _, _, _, _, _, _, _, rfl, gw, fun q => f0 (done_old q (by decide)), fun q => (let ⟨B, e, h1, h2⟩ := f1 (done_old q (by decide)); ⟨B, e, h1, fun q2 => (h2 (by rw [getD_set_ne false (by decide)] at q2; exact q2)).gr gg⟩), fun q => f2 (done_old q (by decide)), fun q => f3 (done_old q (by decide)), fun q => f4 (done_old q (by decide)), fun q => f5 (done_old q (by decide)), fun q => Gr.owns (f6 (done_old q (by decide))) gg, ?_⟩
    exact fun _ => ⟨O6.down, getD_set_true D6.down⟩
  · rintro done a w hall ⟨t10, t67, t68, t69, t70, t71, t72, t73, rfl, gw, f0, f1, f2, f3, f4, f5, f6, f7⟩
    exact h' _ _ _ _ _ _ _ _ w gw (f7 (hall 7 (by decide))).1
/-- What is known of each slot as soon as its operation is done. -/
def gs15SF (wr : World) (PX RX : Nat) (x : RM) (xs : List RM) (g m c : Nat) (k : Nat) (t10 t67 t68 t69 t70 t71 t72 t73 : Value) (d : Array Bool) (w : World) : Prop :=
  Gr wr w ∧ (d.getD 0 false = true → t67 = .agg #[.string (bs x.r.name), .bool x.r.req, .int .i64 x.r.kind, .int .i64 x.r.low, .int .i64 x.r.high, .int .i64 x.r.count, .slice x.a x.r.words.length x.c]) ∧
  (d.getD 1 false = true → ∃ B, t68 = .slice (some ⟨B, 0, none⟩) 1 1 ∧ wr.heap.size ≤ B ∧ (d.getD 6 false = false → Row w B 28 x.enc)) ∧
  (d.getD 2 false = true → t69 = .pointer (some ⟨PX, 2, none⟩)) ∧
  (d.getD 3 false = true → t70 = .slice (some ⟨g, 0, none⟩) m c) ∧
  (d.getD 4 false = true → t71 = .int .i64 (k : Int)) ∧
  (d.getD 5 false = true → t72 = .slice (some ⟨g, k * 7, none⟩) (m - k) (c - k)) ∧
  (d.getD 6 false = true → w.ownsRow wr.heap.size 28 7 t73 (1 + (m - k)) (x.enc ++ (xs.drop k).flatMap RM.enc)) ∧
  (d.getD 7 false = true → (w.ownsRow wr.heap.size 28 7 t10 (1 + (m - k)) (x.enc ++ (xs.drop k).flatMap RM.enc) ∧ d.getD 6 false = true))
/-- The frame. -/
def gs15SA (PX RX : Nat) (k : Nat) (t10 t67 t68 t69 t70 t71 t72 t73 s0 s1 s2 s3 s4 s5 s7 s11 s12 s13 s14 s15 s16 s17 s18 s19 s20 s21 s22 s23 s24 s25 s26 s27 s28 s29 s30 s31 s32 s33 s34 s35 s36 s37 s38 s39 s40 s41 s42 s43 s44 s45 s46 s47 s48 s49 s50 s51 s52 s53 s54 s55 s56 s57 s58 s59 s60 s61 s62 s63 s64 s65 s66 s74 s75 s76 s77 s78 s79 s80 s81 s82 s83 s84 s85 s86 s87 : Value) : Act := { tmps := #[s0, s1, s2, s3, s4, s5, .pointer (some ⟨PX, 0, none⟩), s7, .pointer (some ⟨RX, 0, none⟩), .int .i64 (k : Int), t10, s11, s12, s13, s14, s15, s16, s17, s18, s19, s20, s21, s22, s23, s24, s25, s26, s27, s28, s29, s30, s31, s32, s33, s34, s35, s36, s37, s38, s39, s40, s41, s42, s43, s44, s45, s46, s47, s48, s49, s50, s51, s52, s53, s54, s55, s56, s57, s58, s59, s60, s61, s62, s63, s64, s65, s66, t67, t68, t69, t70, t71, t72, t73, s74, s75, s76, s77, s78, s79, s80, s81, s82, s83, s84, s85, s86, s87], defers := [] }

set_option maxRecDepth 100000 in
set_option maxHeartbeats 4000000 in
theorem gs15S {Q : Exit → Act → World → Prop} {wr : World} {PX RX : Nat} {x : RM} {xs : List RM} {g m c : Nat} {k : Nat}  {s0 s1 s2 s3 s4 s5 s7 s10 s11 s12 s13 s14 s15 s16 s17 s18 s19 s20 s21 s22 s23 s24 s25 s26 s27 s28 s29 s30 s31 s32 s33 s34 s35 s36 s37 s38 s39 s40 s41 s42 s43 s44 s45 s46 s47 s48 s49 s50 s51 s52 s53 s54 s55 s56 s57 s58 s59 s60 s61 s62 s63 s64 s65 s66 s67 s68 s69 s70 s71 s72 s73 s74 s75 s76 s77 s78 s79 s80 s81 s82 s83 s84 s85 s86 s87 : Value} (hbox : Row wr RX 28 x.enc) {ps : List Value} (hps : Row wr PX 24 ps) (h2 : ps[2]? = some (.slice (some ⟨g, 0, none⟩) m c)) (hgt : ∀ W, Gr wr W → Gets W (some ⟨g, k * 7, none⟩) ((m - k)) 7 ((xs.drop k).flatMap RM.enc)) (hml : m ≤ 100) (hkm : k ≤ m ∧ m ≤ c ∧ k < c)
    (h' : ∀ t10 t67 t68 t69 t70 t71 t72 t73 wx, Gr wr wx → wx.ownsRow wr.heap.size 28 7 t10 (1 + (m - k)) (x.enc ++ (xs.drop k).flatMap RM.enc) → Q .normal (gs15SA PX RX k t10 t67 t68 t69 t70 t71 t72 t73 s0 s1 s2 s3 s4 s5 s7 s11 s12 s13 s14 s15 s16 s17 s18 s19 s20 s21 s22 s23 s24 s25 s26 s27 s28 s29 s30 s31 s32 s33 s34 s35 s36 s37 s38 s39 s40 s41 s42 s43 s44 s45 s46 s47 s48 s49 s50 s51 s52 s53 s54 s55 s56 s57 s58 s59 s60 s61 s62 s63 s64 s65 s66 s74 s75 s76 s77 s78 s79 s80 s81 s82 s83 s84 s85 s86 s87) wx) :
    (Code.region 15 (regIn 15 Tryz.f14) true).wp Tryz.prog Q { tmps := #[s0, s1, s2, s3, s4, s5, .pointer (some ⟨PX, 0, none⟩), s7, .pointer (some ⟨RX, 0, none⟩), .int .i64 (k : Int), s10, s11, s12, s13, s14, s15, s16, s17, s18, s19, s20, s21, s22, s23, s24, s25, s26, s27, s28, s29, s30, s31, s32, s33, s34, s35, s36, s37, s38, s39, s40, s41, s42, s43, s44, s45, s46, s47, s48, s49, s50, s51, s52, s53, s54, s55, s56, s57, s58, s59, s60, s61, s62, s63, s64, s65, s66, s67, s68, s69, s70, s71, s72, s73, s74, s75, s76, s77, s78, s79, s80, s81, s82, s83, s84, s85, s86, s87], defers := [] } wr := by
  have HBX := PLift.up hbox
  have HPS := PLift.up hps
  have HV2 := PLift.up h2
  have HGT := PLift.up hgt
  have HML := PLift.up hml
  clear hbox hps h2 hgt hml
  have HKM := PLift.up hkm
  clear hkm
  obtain ⟨j0, hj, hy0, hy1, hy2⟩ := info_parts infoRul
  simp only [regIn, Tryz.f14, regOps, Option.bind_some, Option.getD_some, Nat.beq, cond_true, cond_false]
  refine wp_region_steps (fun done a w => ∃ t10 t67 t68 t69 t70 t71 t72 t73, a = gs15SA PX RX k t10 t67 t68 t69 t70 t71 t72 t73 s0 s1 s2 s3 s4 s5 s7 s11 s12 s13 s14 s15 s16 s17 s18 s19 s20 s21 s22 s23 s24 s25 s26 s27 s28 s29 s30 s31 s32 s33 s34 s35 s36 s37 s38 s39 s40 s41 s42 s43 s44 s45 s46 s47 s48 s49 s50 s51 s52 s53 s54 s55 s56 s57 s58 s59 s60 s61 s62 s63 s64 s65 s66 s74 s75 s76 s77 s78 s79 s80 s81 s82 s83 s84 s85 s86 s87 ∧ gs15SF wr PX RX x xs g m c k t10 t67 t68 t69 t70 t71 t72 t73 done w) (by kernel_rfl) (by kernel_rfl) ?_ ⟨?_, ?_, ?_, ?_, ?_, ?_, ?_, ?_, trivial⟩ ?_
  · exact ⟨s10, s67, s68, s69, s70, s71, s72, s73, rfl, (Gr.refl _).drew, fun q => absurd q (by decide), fun q => absurd q (by decide), fun q => absurd q (by decide), fun q => absurd q (by decide), fun q => absurd q (by decide), fun q => absurd q (by decide), fun q => absurd q (by decide), fun q => absurd q (by decide)⟩
  · rintro done a w hsz hnot hdep ⟨t10, t67, t68, t69, t70, t71, t72, t73, rfl, gw, f0, f1, f2, f3, f4, f5, f6, f7⟩ K hK
    have hn : ¬ done.getD 0 false = true := by rw [getD_both hnot]; decide
    have bx := HBX.down.gr gw
    have b0 : w.cell? ⟨RX, 0, none⟩ = some (.string (bs x.r.name)) := bx.cell 0 (by simp [RM.enc])
    have b1 : w.cell? ⟨RX, 1, none⟩ = some (.bool x.r.req) := bx.cell 1 (by simp [RM.enc])
    have b2 : w.cell? ⟨RX, 2, none⟩ = some (.int .i64 x.r.kind) := bx.cell 2 (by simp [RM.enc])
    have b3 : w.cell? ⟨RX, 3, none⟩ = some (.int .i64 x.r.low) := bx.cell 3 (by simp [RM.enc])
    have b4 : w.cell? ⟨RX, 4, none⟩ = some (.int .i64 x.r.high) := bx.cell 4 (by simp [RM.enc])
    have b5 : w.cell? ⟨RX, 5, none⟩ = some (.int .i64 x.r.count) := bx.cell 5 (by simp [RM.enc])
    have b6 : w.cell? ⟨RX, 6, none⟩ = some (.slice x.a x.r.words.length x.c) := bx.cell 6 (by simp [RM.enc])
    have ch := has_of_cell b0
    clear bx
    have HK := PLift.up hK
    clear hK 
    simp only [gs15SA]
    go_simp
    have gg : Gr w w := Gr.refl _
    refine HK.down _ _ ⟨_, _, _, _, _, _, _, _, rfl, gw, fun _ => rfl, fun q => (let ⟨B, e, h1, h2⟩ := f1 (done_old q (by decide)); ⟨B, e, h1, fun q2 => (h2 (by rw [getD_set_ne false (by decide)] at q2; exact q2)).gr gg⟩), fun q => f2 (done_old q (by decide)), fun q => f3 (done_old q (by decide)), fun q => f4 (done_old q (by decide)), fun q => f5 (done_old q (by decide)), fun q => Gr.owns (f6 (done_old q (by decide))) gg, fun q => (let h := f7 (done_old q (by decide)); ⟨Gr.owns h.1 gg, getD_set_true h.2⟩)⟩
  · rintro done a w hsz hnot hdep ⟨t10, t67, t68, t69, t70, t71, t72, t73, rfl, gw, f0, f1, f2, f3, f4, f5, f6, f7⟩ K hK
    have hn : ¬ done.getD 1 false = true := by rw [getD_both hnot]; decide
    have d0 := hdep 0 (by kernel_rfl)
    obtain rfl := f0 d0
    have GS := PLift.up gw.size
    have HK := PLift.up hK
    clear hK d0
    simp only [gs15SA]
    go_simp
    have gg : Gr w (w.alloc (.cells #[.string (bs x.r.name), .bool x.r.req, .int .i64 x.r.kind, .int .i64 x.r.low, .int .i64 x.r.high, .int .i64 x.r.count, .slice x.a x.r.words.length x.c] 28)) := (Gr.refl _).alloc _
    refine HK.down _ _ ⟨_, _, _, _, _, _, _, _, rfl, gw.trans gg, fun q => f0 (done_old q (by decide)), ?_, fun q => f2 (done_old q (by decide)), fun q => f3 (done_old q (by decide)), fun q => f4 (done_old q (by decide)), fun q => f5 (done_old q (by decide)), fun q => Gr.owns (f6 (done_old q (by decide))) gg, fun q => (let h := f7 (done_old q (by decide)); ⟨Gr.owns h.1 gg, getD_set_true h.2⟩)⟩
    exact fun _ => ⟨_, rfl, GS.down, fun _ => Row.new w _ _⟩
  · rintro done a w hsz hnot hdep ⟨t10, t67, t68, t69, t70, t71, t72, t73, rfl, gw, f0, f1, f2, f3, f4, f5, f6, f7⟩ K hK
    have hn : ¬ done.getD 2 false = true := by rw [getD_both hnot]; decide
    have HK := PLift.up hK
    clear hK 
    simp only [gs15SA]
    go_simp
    have gg : Gr w w := Gr.refl _
    refine HK.down _ _ ⟨_, _, _, _, _, _, _, _, rfl, gw, fun q => f0 (done_old q (by decide)), fun q => (let ⟨B, e, h1, h2⟩ := f1 (done_old q (by decide)); ⟨B, e, h1, fun q2 => (h2 (by rw [getD_set_ne false (by decide)] at q2; exact q2)).gr gg⟩), fun _ => rfl, fun q => f3 (done_old q (by decide)), fun q => f4 (done_old q (by decide)), fun q => f5 (done_old q (by decide)), fun q => Gr.owns (f6 (done_old q (by decide))) gg, fun q => (let h := f7 (done_old q (by decide)); ⟨Gr.owns h.1 gg, getD_set_true h.2⟩)⟩
  · rintro done a w hsz hnot hdep ⟨t10, t67, t68, t69, t70, t71, t72, t73, rfl, gw, f0, f1, f2, f3, f4, f5, f6, f7⟩ K hK
    have hn : ¬ done.getD 3 false = true := by rw [getD_both hnot]; decide
    have d2 := hdep 2 (by kernel_rfl)
    obtain rfl := f2 d2
    have px := HPS.down.gr gw
    have c2 : w.cell? ⟨PX, 2, none⟩ = some (.slice (some ⟨g, 0, none⟩) m c) := by rw [px.cell 2 (List.getElem?_eq_some_iff.1 HV2.down).1]; exact congrArg some (List.getElem?_eq_some_iff.1 HV2.down).2
    have ch := has_of_cell c2
    clear px
    have HK := PLift.up hK
    clear hK d2
    simp only [gs15SA]
    go_simp
    have gg : Gr w w := Gr.refl _
    refine HK.down _ _ ⟨_, _, _, _, _, _, _, _, rfl, gw, fun q => f0 (done_old q (by decide)), fun q => (let ⟨B, e, h1, h2⟩ := f1 (done_old q (by decide)); ⟨B, e, h1, fun q2 => (h2 (by rw [getD_set_ne false (by decide)] at q2; exact q2)).gr gg⟩), fun q => f2 (done_old q (by decide)), fun _ => rfl, fun q => f4 (done_old q (by decide)), fun q => f5 (done_old q (by decide)), fun q => Gr.owns (f6 (done_old q (by decide))) gg, fun q => (let h := f7 (done_old q (by decide)); ⟨Gr.owns h.1 gg, getD_set_true h.2⟩)⟩
  · rintro done a w hsz hnot hdep ⟨t10, t67, t68, t69, t70, t71, t72, t73, rfl, gw, f0, f1, f2, f3, f4, f5, f6, f7⟩ K hK
    have hn : ¬ done.getD 4 false = true := by rw [getD_both hnot]; decide
    have HK := PLift.up hK
    clear hK 
    simp only [gs15SA]
    go_simp
    have gg : Gr w w := Gr.refl _
    refine HK.down _ _ ⟨_, _, _, _, _, _, _, _, rfl, gw, fun q => f0 (done_old q (by decide)), fun q => (let ⟨B, e, h1, h2⟩ := f1 (done_old q (by decide)); ⟨B, e, h1, fun q2 => (h2 (by rw [getD_set_ne false (by decide)] at q2; exact q2)).gr gg⟩), fun q => f2 (done_old q (by decide)), fun q => f3 (done_old q (by decide)), fun _ => rfl, fun q => f5 (done_old q (by decide)), fun q => Gr.owns (f6 (done_old q (by decide))) gg, fun q => (let h := f7 (done_old q (by decide)); ⟨Gr.owns h.1 gg, getD_set_true h.2⟩)⟩
  · rintro done a w hsz hnot hdep ⟨t10, t67, t68, t69, t70, t71, t72, t73, rfl, gw, f0, f1, f2, f3, f4, f5, f6, f7⟩ K hK
    have hn : ¬ done.getD 5 false = true := by rw [getD_both hnot]; decide
    have d3 := hdep 3 (by kernel_rfl)
    have d4 := hdep 4 (by kernel_rfl)
    obtain rfl := f3 d3
    obtain rfl := f4 d4
    have h1 := HKM.down
    have h3 := HML.down
    have k1 : (k : Int) ≤ m := by omega
    have k2 : ¬ c - k = 0 := by omega
    have k3 : (k : Int) ≤ c := by omega
    have k4 : (m : Int) ≤ c := by omega
    have k5 : ¬ c = k := by omega
    have HK := PLift.up hK
    clear hK d3 d4
    simp only [gs15SA]
    go_simp
    have gg : Gr w w := Gr.refl _
    refine HK.down _ _ ⟨_, _, _, _, _, _, _, _, rfl, gw, fun q => f0 (done_old q (by decide)), fun q => (let ⟨B, e, h1, h2⟩ := f1 (done_old q (by decide)); ⟨B, e, h1, fun q2 => (h2 (by rw [getD_set_ne false (by decide)] at q2; exact q2)).gr gg⟩), fun q => f2 (done_old q (by decide)), fun q => f3 (done_old q (by decide)), fun q => f4 (done_old q (by decide)), fun _ => rfl, fun q => Gr.owns (f6 (done_old q (by decide))) gg, fun q => (let h := f7 (done_old q (by decide)); ⟨Gr.owns h.1 gg, getD_set_true h.2⟩)⟩
  · rintro done a w hsz hnot hdep ⟨t10, t67, t68, t69, t70, t71, t72, t73, rfl, gw, f0, f1, f2, f3, f4, f5, f6, f7⟩ K hK
    have hn : ¬ done.getD 6 false = true := by rw [getD_both hnot]; decide
    have d1 := hdep 1 (by kernel_rfl)
    have d5 := hdep 5 (by kernel_rfl)
    obtain rfl := f5 d5
    have n6 := getD_both hnot
    obtain ⟨B, rfl, hB, h2⟩ := f1 d1
    have rB := h2 n6
    refine step_append_gets _ rfl _ _ 22 rfl wr.heap.size 28 j0 (.agg #[.string (bs []), .bool false, .int .i64 0, .int .i64 0, .int .i64 0, .int .i64 0, .slice none 0 0]) 7 80 Tryz.underlying22 hj hy0 hy1 hy2 rfl (by decide) (.slice (some ⟨B, 0, none⟩) 1 1) 1 x.enc (by simp [Act.eval, gs15SA]) (row_owns rB hB rfl (by unfold maxLen; omega)) (some ⟨g, k * 7, none⟩) ((m - k)) ((c - k)) ((xs.drop k).flatMap RM.enc) (by simp [Act.eval, gs15SA]) (HGT.down w gw) (flatR_one _) (by unfold maxLen; have := HML.down; omega) (by have := HML.down; omega) (by have := gw.size; omega) ?_
    intro v w2 hown hgrow hloc
    have gg : Gr wr w2 := gw.grown hgrow (fun j e => by cases e; exact hB)
    refine hK _ _ ⟨_, _, _, _, _, _, _, _, rfl, gg, fun q => f0 (done_old q (by decide)), fun q => (let ⟨B, e, h1, h2⟩ := f1 (done_old q (by decide)); ⟨B, e, h1, fun q2 => absurd q2 (by rw [getD_set_same (by rw [hsz]; decide)]; decide)⟩), fun q => f2 (done_old q (by decide)), fun q => f3 (done_old q (by decide)), fun q => f4 (done_old q (by decide)), fun q => f5 (done_old q (by decide)), ?_, fun q => absurd (f7 (done_old q (by decide))).2 hn⟩
    exact fun _ => hown
  · rintro done a w hsz hnot hdep ⟨t10, t67, t68, t69, t70, t71, t72, t73, rfl, gw, f0, f1, f2, f3, f4, f5, f6, f7⟩ K hK
    have hn : ¬ done.getD 7 false = true := by rw [getD_both hnot]; decide
    have d6 := hdep 6 (by kernel_rfl)
    have O6 := PLift.up (f6 d6)
    have D6 := PLift.up d6
    have HK := PLift.up hK
    clear hK 
    simp only [gs15SA]
    go_simp
    have gg : Gr w w := Gr.refl _
    refine HK.down _ _ ⟨_, _, _, _, _, _, _, _, rfl, gw, fun q => f0 (done_old q (by decide)), fun q => (let ⟨B, e, h1, h2⟩ := f1 (done_old q (by decide)); ⟨B, e, h1, fun q2 => (h2 (by rw [getD_set_ne false (by decide)] at q2; exact q2)).gr gg⟩), fun q => f2 (done_old q (by decide)), fun q => f3 (done_old q (by decide)), fun q => f4 (done_old q (by decide)), fun q => f5 (done_old q (by decide)), fun q => Gr.owns (f6 (done_old q (by decide))) gg, ?_⟩
    exact fun _ => ⟨O6.down, getD_set_true D6.down⟩
  · rintro done a w hall ⟨t10, t67, t68, t69, t70, t71, t72, t73, rfl, gw, f0, f1, f2, f3, f4, f5, f6, f7⟩
    exact h' _ _ _ _ _ _ _ _ w gw (f7 (hall 7 (by decide))).1
/-- What is known of each slot as soon as its operation is done. -/
def gs15EF (wr : World) (PX RX : Nat) (x : RM) (xs : List RM) (g : Nat) (k : Nat) (t10 t67 t68 t69 t70 t71 t72 t73 : Value) (d : Array Bool) (w : World) : Prop :=
  Gr wr w ∧ (d.getD 0 false = true → t67 = .agg #[.string (bs x.r.name), .bool x.r.req, .int .i64 x.r.kind, .int .i64 x.r.low, .int .i64 x.r.high, .int .i64 x.r.count, .slice x.a x.r.words.length x.c]) ∧
  (d.getD 1 false = true → ∃ B, t68 = .slice (some ⟨B, 0, none⟩) 1 1 ∧ wr.heap.size ≤ B ∧ (d.getD 6 false = false → Row w B 28 x.enc)) ∧
  (d.getD 2 false = true → t69 = .pointer (some ⟨PX, 2, none⟩)) ∧
  (d.getD 3 false = true → t70 = .slice (some ⟨g, 0, none⟩) k k) ∧
  (d.getD 4 false = true → t71 = .int .i64 (k : Int)) ∧
  (d.getD 5 false = true → t72 = .slice (some ⟨g, 0, none⟩) 0 0) ∧
  (d.getD 6 false = true → w.ownsRow wr.heap.size 28 7 t73 (1 + 0) (x.enc ++ (xs.drop k).flatMap RM.enc)) ∧
  (d.getD 7 false = true → (w.ownsRow wr.heap.size 28 7 t10 (1 + 0) (x.enc ++ (xs.drop k).flatMap RM.enc) ∧ d.getD 6 false = true))
/-- The frame. -/
def gs15EA (PX RX : Nat) (k : Nat) (t10 t67 t68 t69 t70 t71 t72 t73 s0 s1 s2 s3 s4 s5 s7 s11 s12 s13 s14 s15 s16 s17 s18 s19 s20 s21 s22 s23 s24 s25 s26 s27 s28 s29 s30 s31 s32 s33 s34 s35 s36 s37 s38 s39 s40 s41 s42 s43 s44 s45 s46 s47 s48 s49 s50 s51 s52 s53 s54 s55 s56 s57 s58 s59 s60 s61 s62 s63 s64 s65 s66 s74 s75 s76 s77 s78 s79 s80 s81 s82 s83 s84 s85 s86 s87 : Value) : Act := { tmps := #[s0, s1, s2, s3, s4, s5, .pointer (some ⟨PX, 0, none⟩), s7, .pointer (some ⟨RX, 0, none⟩), .int .i64 (k : Int), t10, s11, s12, s13, s14, s15, s16, s17, s18, s19, s20, s21, s22, s23, s24, s25, s26, s27, s28, s29, s30, s31, s32, s33, s34, s35, s36, s37, s38, s39, s40, s41, s42, s43, s44, s45, s46, s47, s48, s49, s50, s51, s52, s53, s54, s55, s56, s57, s58, s59, s60, s61, s62, s63, s64, s65, s66, t67, t68, t69, t70, t71, t72, t73, s74, s75, s76, s77, s78, s79, s80, s81, s82, s83, s84, s85, s86, s87], defers := [] }

set_option maxRecDepth 100000 in
set_option maxHeartbeats 4000000 in
theorem gs15E {Q : Exit → Act → World → Prop} {wr : World} {PX RX : Nat} {x : RM} {xs : List RM} {g : Nat} {k : Nat}  {s0 s1 s2 s3 s4 s5 s7 s10 s11 s12 s13 s14 s15 s16 s17 s18 s19 s20 s21 s22 s23 s24 s25 s26 s27 s28 s29 s30 s31 s32 s33 s34 s35 s36 s37 s38 s39 s40 s41 s42 s43 s44 s45 s46 s47 s48 s49 s50 s51 s52 s53 s54 s55 s56 s57 s58 s59 s60 s61 s62 s63 s64 s65 s66 s67 s68 s69 s70 s71 s72 s73 s74 s75 s76 s77 s78 s79 s80 s81 s82 s83 s84 s85 s86 s87 : Value} (hbox : Row wr RX 28 x.enc) {ps : List Value} (hps : Row wr PX 24 ps) (h2 : ps[2]? = some (.slice (some ⟨g, 0, none⟩) k k)) (hgt : ∀ W, Gr wr W → Gets W (some ⟨g, 0, none⟩) (0) 7 ((xs.drop k).flatMap RM.enc)) (hml : k ≤ 100)
    (h' : ∀ t10 t67 t68 t69 t70 t71 t72 t73 wx, Gr wr wx → wx.ownsRow wr.heap.size 28 7 t10 (1 + 0) (x.enc ++ (xs.drop k).flatMap RM.enc) → Q .normal (gs15EA PX RX k t10 t67 t68 t69 t70 t71 t72 t73 s0 s1 s2 s3 s4 s5 s7 s11 s12 s13 s14 s15 s16 s17 s18 s19 s20 s21 s22 s23 s24 s25 s26 s27 s28 s29 s30 s31 s32 s33 s34 s35 s36 s37 s38 s39 s40 s41 s42 s43 s44 s45 s46 s47 s48 s49 s50 s51 s52 s53 s54 s55 s56 s57 s58 s59 s60 s61 s62 s63 s64 s65 s66 s74 s75 s76 s77 s78 s79 s80 s81 s82 s83 s84 s85 s86 s87) wx) :
    (Code.region 15 (regIn 15 Tryz.f14) true).wp Tryz.prog Q { tmps := #[s0, s1, s2, s3, s4, s5, .pointer (some ⟨PX, 0, none⟩), s7, .pointer (some ⟨RX, 0, none⟩), .int .i64 (k : Int), s10, s11, s12, s13, s14, s15, s16, s17, s18, s19, s20, s21, s22, s23, s24, s25, s26, s27, s28, s29, s30, s31, s32, s33, s34, s35, s36, s37, s38, s39, s40, s41, s42, s43, s44, s45, s46, s47, s48, s49, s50, s51, s52, s53, s54, s55, s56, s57, s58, s59, s60, s61, s62, s63, s64, s65, s66, s67, s68, s69, s70, s71, s72, s73, s74, s75, s76, s77, s78, s79, s80, s81, s82, s83, s84, s85, s86, s87], defers := [] } wr := by
  have HBX := PLift.up hbox
  have HPS := PLift.up hps
  have HV2 := PLift.up h2
  have HGT := PLift.up hgt
  have HML := PLift.up hml
  clear hbox hps h2 hgt hml
  obtain ⟨j0, hj, hy0, hy1, hy2⟩ := info_parts infoRul
  simp only [regIn, Tryz.f14, regOps, Option.bind_some, Option.getD_some, Nat.beq, cond_true, cond_false]
  refine wp_region_steps (fun done a w => ∃ t10 t67 t68 t69 t70 t71 t72 t73, a = gs15EA PX RX k t10 t67 t68 t69 t70 t71 t72 t73 s0 s1 s2 s3 s4 s5 s7 s11 s12 s13 s14 s15 s16 s17 s18 s19 s20 s21 s22 s23 s24 s25 s26 s27 s28 s29 s30 s31 s32 s33 s34 s35 s36 s37 s38 s39 s40 s41 s42 s43 s44 s45 s46 s47 s48 s49 s50 s51 s52 s53 s54 s55 s56 s57 s58 s59 s60 s61 s62 s63 s64 s65 s66 s74 s75 s76 s77 s78 s79 s80 s81 s82 s83 s84 s85 s86 s87 ∧ gs15EF wr PX RX x xs g k t10 t67 t68 t69 t70 t71 t72 t73 done w) (by kernel_rfl) (by kernel_rfl) ?_ ⟨?_, ?_, ?_, ?_, ?_, ?_, ?_, ?_, trivial⟩ ?_
  · exact ⟨s10, s67, s68, s69, s70, s71, s72, s73, rfl, (Gr.refl _).drew, fun q => absurd q (by decide), fun q => absurd q (by decide), fun q => absurd q (by decide), fun q => absurd q (by decide), fun q => absurd q (by decide), fun q => absurd q (by decide), fun q => absurd q (by decide), fun q => absurd q (by decide)⟩
  · rintro done a w hsz hnot hdep ⟨t10, t67, t68, t69, t70, t71, t72, t73, rfl, gw, f0, f1, f2, f3, f4, f5, f6, f7⟩ K hK
    have hn : ¬ done.getD 0 false = true := by rw [getD_both hnot]; decide
    have bx := HBX.down.gr gw
    have b0 : w.cell? ⟨RX, 0, none⟩ = some (.string (bs x.r.name)) := bx.cell 0 (by simp [RM.enc])
    have b1 : w.cell? ⟨RX, 1, none⟩ = some (.bool x.r.req) := bx.cell 1 (by simp [RM.enc])
    have b2 : w.cell? ⟨RX, 2, none⟩ = some (.int .i64 x.r.kind) := bx.cell 2 (by simp [RM.enc])
    have b3 : w.cell? ⟨RX, 3, none⟩ = some (.int .i64 x.r.low) := bx.cell 3 (by simp [RM.enc])
    have b4 : w.cell? ⟨RX, 4, none⟩ = some (.int .i64 x.r.high) := bx.cell 4 (by simp [RM.enc])
    have b5 : w.cell? ⟨RX, 5, none⟩ = some (.int .i64 x.r.count) := bx.cell 5 (by simp [RM.enc])
    have b6 : w.cell? ⟨RX, 6, none⟩ = some (.slice x.a x.r.words.length x.c) := bx.cell 6 (by simp [RM.enc])
    have ch := has_of_cell b0
    clear bx
    have HK := PLift.up hK
    clear hK 
    simp only [gs15EA]
    go_simp
    have gg : Gr w w := Gr.refl _
    refine HK.down _ _ ⟨_, _, _, _, _, _, _, _, rfl, gw, fun _ => rfl, fun q => (let ⟨B, e, h1, h2⟩ := f1 (done_old q (by decide)); ⟨B, e, h1, fun q2 => (h2 (by rw [getD_set_ne false (by decide)] at q2; exact q2)).gr gg⟩), fun q => f2 (done_old q (by decide)), fun q => f3 (done_old q (by decide)), fun q => f4 (done_old q (by decide)), fun q => f5 (done_old q (by decide)), fun q => Gr.owns (f6 (done_old q (by decide))) gg, fun q => (let h := f7 (done_old q (by decide)); ⟨Gr.owns h.1 gg, getD_set_true h.2⟩)⟩
  · rintro done a w hsz hnot hdep ⟨t10, t67, t68, t69, t70, t71, t72, t73, rfl, gw, f0, f1, f2, f3, f4, f5, f6, f7⟩ K hK
    have hn : ¬ done.getD 1 false = true := by rw [getD_both hnot]; decide
    have d0 := hdep 0 (by kernel_rfl)
    obtain rfl := f0 d0
    have GS := PLift.up gw.size
    have HK := PLift.up hK
    clear hK d0
    simp only [gs15EA]
    go_simp
    have gg : Gr w (w.alloc (.cells #[.string (bs x.r.name), .bool x.r.req, .int .i64 x.r.kind, .int .i64 x.r.low, .int .i64 x.r.high, .int .i64 x.r.count, .slice x.a x.r.words.length x.c] 28)) := (Gr.refl _).alloc _
    refine HK.down _ _ ⟨_, _, _, _, _, _, _, _, rfl, gw.trans gg, fun q => f0 (done_old q (by decide)), ?_, fun q => f2 (done_old q (by decide)), fun q => f3 (done_old q (by decide)), fun q => f4 (done_old q (by decide)), fun q => f5 (done_old q (by decide)), fun q => Gr.owns (f6 (done_old q (by decide))) gg, fun q => (let h := f7 (done_old q (by decide)); ⟨Gr.owns h.1 gg, getD_set_true h.2⟩)⟩
    exact fun _ => ⟨_, rfl, GS.down, fun _ => Row.new w _ _⟩
  · rintro done a w hsz hnot hdep ⟨t10, t67, t68, t69, t70, t71, t72, t73, rfl, gw, f0, f1, f2, f3, f4, f5, f6, f7⟩ K hK
    have hn : ¬ done.getD 2 false = true := by rw [getD_both hnot]; decide
    have HK := PLift.up hK
    clear hK 
    simp only [gs15EA]
    go_simp
    have gg : Gr w w := Gr.refl _
    refine HK.down _ _ ⟨_, _, _, _, _, _, _, _, rfl, gw, fun q => f0 (done_old q (by decide)), fun q => (let ⟨B, e, h1, h2⟩ := f1 (done_old q (by decide)); ⟨B, e, h1, fun q2 => (h2 (by rw [getD_set_ne false (by decide)] at q2; exact q2)).gr gg⟩), fun _ => rfl, fun q => f3 (done_old q (by decide)), fun q => f4 (done_old q (by decide)), fun q => f5 (done_old q (by decide)), fun q => Gr.owns (f6 (done_old q (by decide))) gg, fun q => (let h := f7 (done_old q (by decide)); ⟨Gr.owns h.1 gg, getD_set_true h.2⟩)⟩
  · rintro done a w hsz hnot hdep ⟨t10, t67, t68, t69, t70, t71, t72, t73, rfl, gw, f0, f1, f2, f3, f4, f5, f6, f7⟩ K hK
    have hn : ¬ done.getD 3 false = true := by rw [getD_both hnot]; decide
    have d2 := hdep 2 (by kernel_rfl)
    obtain rfl := f2 d2
    have px := HPS.down.gr gw
    have c2 : w.cell? ⟨PX, 2, none⟩ = some (.slice (some ⟨g, 0, none⟩) k k) := by rw [px.cell 2 (List.getElem?_eq_some_iff.1 HV2.down).1]; exact congrArg some (List.getElem?_eq_some_iff.1 HV2.down).2
    have ch := has_of_cell c2
    clear px
    have HK := PLift.up hK
    clear hK d2
    simp only [gs15EA]
    go_simp
    have gg : Gr w w := Gr.refl _
    refine HK.down _ _ ⟨_, _, _, _, _, _, _, _, rfl, gw, fun q => f0 (done_old q (by decide)), fun q => (let ⟨B, e, h1, h2⟩ := f1 (done_old q (by decide)); ⟨B, e, h1, fun q2 => (h2 (by rw [getD_set_ne false (by decide)] at q2; exact q2)).gr gg⟩), fun q => f2 (done_old q (by decide)), fun _ => rfl, fun q => f4 (done_old q (by decide)), fun q => f5 (done_old q (by decide)), fun q => Gr.owns (f6 (done_old q (by decide))) gg, fun q => (let h := f7 (done_old q (by decide)); ⟨Gr.owns h.1 gg, getD_set_true h.2⟩)⟩
  · rintro done a w hsz hnot hdep ⟨t10, t67, t68, t69, t70, t71, t72, t73, rfl, gw, f0, f1, f2, f3, f4, f5, f6, f7⟩ K hK
    have hn : ¬ done.getD 4 false = true := by rw [getD_both hnot]; decide
    have HK := PLift.up hK
    clear hK 
    simp only [gs15EA]
    go_simp
    have gg : Gr w w := Gr.refl _
    refine HK.down _ _ ⟨_, _, _, _, _, _, _, _, rfl, gw, fun q => f0 (done_old q (by decide)), fun q => (let ⟨B, e, h1, h2⟩ := f1 (done_old q (by decide)); ⟨B, e, h1, fun q2 => (h2 (by rw [getD_set_ne false (by decide)] at q2; exact q2)).gr gg⟩), fun q => f2 (done_old q (by decide)), fun q => f3 (done_old q (by decide)), fun _ => rfl, fun q => f5 (done_old q (by decide)), fun q => Gr.owns (f6 (done_old q (by decide))) gg, fun q => (let h := f7 (done_old q (by decide)); ⟨Gr.owns h.1 gg, getD_set_true h.2⟩)⟩
  · rintro done a w hsz hnot hdep ⟨t10, t67, t68, t69, t70, t71, t72, t73, rfl, gw, f0, f1, f2, f3, f4, f5, f6, f7⟩ K hK
    have hn : ¬ done.getD 5 false = true := by rw [getD_both hnot]; decide
    have d3 := hdep 3 (by kernel_rfl)
    have d4 := hdep 4 (by kernel_rfl)
    obtain rfl := f3 d3
    obtain rfl := f4 d4
    have h3 := HML.down
    have k1 : (k : Int) ≤ k := by omega
    have HK := PLift.up hK
    clear hK d3 d4
    simp only [gs15EA]
    go_simp
    have gg : Gr w w := Gr.refl _
    refine HK.down _ _ ⟨_, _, _, _, _, _, _, _, rfl, gw, fun q => f0 (done_old q (by decide)), fun q => (let ⟨B, e, h1, h2⟩ := f1 (done_old q (by decide)); ⟨B, e, h1, fun q2 => (h2 (by rw [getD_set_ne false (by decide)] at q2; exact q2)).gr gg⟩), fun q => f2 (done_old q (by decide)), fun q => f3 (done_old q (by decide)), fun q => f4 (done_old q (by decide)), fun _ => rfl, fun q => Gr.owns (f6 (done_old q (by decide))) gg, fun q => (let h := f7 (done_old q (by decide)); ⟨Gr.owns h.1 gg, getD_set_true h.2⟩)⟩
  · rintro done a w hsz hnot hdep ⟨t10, t67, t68, t69, t70, t71, t72, t73, rfl, gw, f0, f1, f2, f3, f4, f5, f6, f7⟩ K hK
    have hn : ¬ done.getD 6 false = true := by rw [getD_both hnot]; decide
    have d1 := hdep 1 (by kernel_rfl)
    have d5 := hdep 5 (by kernel_rfl)
    obtain rfl := f5 d5
    have n6 := getD_both hnot
    obtain ⟨B, rfl, hB, h2⟩ := f1 d1
    have rB := h2 n6
    refine step_append_gets _ rfl _ _ 22 rfl wr.heap.size 28 j0 (.agg #[.string (bs []), .bool false, .int .i64 0, .int .i64 0, .int .i64 0, .int .i64 0, .slice none 0 0]) 7 80 Tryz.underlying22 hj hy0 hy1 hy2 rfl (by decide) (.slice (some ⟨B, 0, none⟩) 1 1) 1 x.enc (by simp [Act.eval, gs15EA]) (row_owns rB hB rfl (by unfold maxLen; omega)) (some ⟨g, 0, none⟩) (0) (0) ((xs.drop k).flatMap RM.enc) (by simp [Act.eval, gs15EA]) (HGT.down w gw) (flatR_one _) (by unfold maxLen; have := HML.down; omega) (by have := HML.down; omega) (by have := gw.size; omega) ?_
    intro v w2 hown hgrow hloc
    have gg : Gr wr w2 := gw.grown hgrow (fun j e => by cases e; exact hB)
    refine hK _ _ ⟨_, _, _, _, _, _, _, _, rfl, gg, fun q => f0 (done_old q (by decide)), fun q => (let ⟨B, e, h1, h2⟩ := f1 (done_old q (by decide)); ⟨B, e, h1, fun q2 => absurd q2 (by rw [getD_set_same (by rw [hsz]; decide)]; decide)⟩), fun q => f2 (done_old q (by decide)), fun q => f3 (done_old q (by decide)), fun q => f4 (done_old q (by decide)), fun q => f5 (done_old q (by decide)), ?_, fun q => absurd (f7 (done_old q (by decide))).2 hn⟩
    exact fun _ => hown
  · rintro done a w hsz hnot hdep ⟨t10, t67, t68, t69, t70, t71, t72, t73, rfl, gw, f0, f1, f2, f3, f4, f5, f6, f7⟩ K hK
    have hn : ¬ done.getD 7 false = true := by rw [getD_both hnot]; decide
    have d6 := hdep 6 (by kernel_rfl)
    have O6 := PLift.up (f6 d6)
    have D6 := PLift.up d6
    have HK := PLift.up hK
    clear hK 
    simp only [gs15EA]
    go_simp
    have gg : Gr w w := Gr.refl _
    refine HK.down _ _ ⟨_, _, _, _, _, _, _, _, rfl, gw, fun q => f0 (done_old q (by decide)), fun q => (let ⟨B, e, h1, h2⟩ := f1 (done_old q (by decide)); ⟨B, e, h1, fun q2 => (h2 (by rw [getD_set_ne false (by decide)] at q2; exact q2)).gr gg⟩), fun q => f2 (done_old q (by decide)), fun q => f3 (done_old q (by decide)), fun q => f4 (done_old q (by decide)), fun q => f5 (done_old q (by decide)), fun q => Gr.owns (f6 (done_old q (by decide))) gg, ?_⟩
    exact fun _ => ⟨O6.down, getD_set_true D6.down⟩
  · rintro done a w hall ⟨t10, t67, t68, t69, t70, t71, t72, t73, rfl, gw, f0, f1, f2, f3, f4, f5, f6, f7⟩
    exact h' _ _ _ _ _ _ _ _ w gw (f7 (hall 7 (by decide))).1
end Go.Proofs.YtadldblpkgackaaGreatDoor

/- Lemmas and contracts for the proof of ConformRepairs (several texts in one, printed by wip/tools/pack.py): WbA WbB. -/
import Derived.Test.YtbpkndiecomggaaGreatDoorCr1pp
import Derived.Test.YtbpkndiecomggaaGreatDoorCr1pt
set_option maxRecDepth 100000
set_option maxHeartbeats 16000000
set_option linter.unusedVariables false
set_option linter.unusedSimpArgs false
namespace Go.Proofs.YtbpkndiecomggaaGreatDoor
open Go.RowKit
open Classical
theorem row_ne0 {w : World} {B B0 T T0 : Nat} {v : Value} {vs : List Value} (h : Row w B T (v :: vs)) (h0 : Row w B0 T0 []) : B ≠ B0 := by
  rintro rfl
  unfold Row at h h0
  rw [h] at h0
  simp at h0
theorem owns_free {w : World} {base e size n g cap : Nat} {xs : List Value} (h : w.ownsRow base e size (.slice (some ⟨g, 0, none⟩) n cap) n xs) (j : Nat) : w.frozen? ⟨g, j, none⟩ = false := by
  obtain ⟨_, ⟨q, _⟩ | ⟨g2, cap2, cur, e1, _, hg, _⟩⟩ := h
  · cases q
  · cases e1; simp [World.frozen?, hg]
def zzS : St := [122, 122]
theorem words_zz {ws : List St} (h : ∀ s ∈ ws, s.length ≤ 31) : ∀ s ∈ ws ++ [zzS], s.length ≤ 31 := by
  intro s hs
  rcases List.mem_append.1 hs with q | q
  · exact h s q
  · rw [List.mem_singleton.1 q]; decide
def fit22F (wr : World) (b len RB c : Nat) (ad : Option Addr) (ws : List St) (v0 v1 v2 v3 v4 v5 : Value) (t4 t73 t74 t75 t76 t77 t78 t79 t80 t81 t82 t83 t84 t85 t86 t87 : Value) (d : Array Bool) (w : World) : Prop :=
  ((d.getD 3 false = false → Gr wr w) ∧ Mv b len wr w ∧ Row w RB 51 [v0, v1, v2, v3, v4, v5, .slice ad ws.length c]) ∧ (d.getD 0 false = true → (d.getD 3 false = false → ∃ B, t73 = .slice (some ⟨B, 0, none⟩) 0 0 ∧ Row w B 9 [] ∧ wr.heap.size ≤ B)) ∧
  (d.getD 1 false = true → t74 = .pointer (some ⟨RB, 6, none⟩)) ∧
  (d.getD 2 false = true → t75 = .slice ad ws.length c) ∧
  (d.getD 3 false = true → (d.getD 0 false = true ∧ (d.getD 5 false = false → w.ownsRow wr.heap.size 9 1 t76 ws.length (strV ws)))) ∧
  (d.getD 4 false = true → (d.getD 5 false = false → ∃ B, t77 = .slice (some ⟨B, 0, none⟩) 1 1 ∧ Row w B 9 (strV [zzS]))) ∧
  (d.getD 5 false = true → (d.getD 3 false = true ∧ w.ownsRow wr.heap.size 9 1 t78 (ws.length + 1) (strV (ws ++ [zzS])))) ∧
  (d.getD 6 false = true → t79 = .pointer (some ⟨b, 0, none⟩)) ∧
  (d.getD 7 false = true → t80 = .pointer (some ⟨RB, 6, none⟩)) ∧
  (d.getD 8 false = true → t81 = .slice ad ws.length c) ∧
  (d.getD 9 false = true → t82 = .int .i64 (ws.length : Int)) ∧
  (d.getD 10 false = true → t83 = .int .i64 ((ws.length : Int) + 1)) ∧
  (d.getD 11 false = true → (∃ k : Nat, t84 = .int .i64 (k : Int) ∧ k < ws.length + 1)) ∧
  (d.getD 12 false = true → (∃ g cp k : Nat, t78 = .slice (some ⟨g, 0, none⟩) (ws.length + 1) cp ∧ t85 = .pointer (some ⟨g, k, none⟩) ∧ k < ws.length + 1 ∧ d.getD 5 false = true)) ∧
  (d.getD 13 false = true → (∃ s : St, t86 = .string (bs s) ∧ s.length ≤ 31)) ∧
  (d.getD 14 false = true → (∃ s : St, t87 = .string (bs s) ∧ s.length ≤ 32)) ∧
  (d.getD 15 false = true → (∃ s : St, t4 = .string (bs s) ∧ s.length ≤ 32))
def fit22A (b RB : Nat) (t4 t73 t74 t75 t76 t77 t78 t79 t80 t81 t82 t83 t84 t85 t86 t87 s1 s2 s5 s6 s7 s8 s9 s10 s11 s12 s13 s14 s15 s16 s17 s18 s19 s20 s21 s22 s23 s24 s25 s26 s27 s28 s29 s30 s31 s32 s33 s34 s35 s36 s37 s38 s39 s40 s41 s42 s43 s44 s45 s46 s47 s48 s49 s50 s51 s52 s53 s54 s55 s56 s57 s58 s59 s60 s61 s62 s63 s64 s65 s66 s67 s68 s69 s70 s71 s72 s88 s89 s90 s91 : Value) : Act := { tmps := #[.pointer (some ⟨b, 0, none⟩), s1, s2, .pointer (some ⟨RB, 0, none⟩), t4, s5, s6, s7, s8, s9, s10, s11, s12, s13, s14, s15, s16, s17, s18, s19, s20, s21, s22, s23, s24, s25, s26, s27, s28, s29, s30, s31, s32, s33, s34, s35, s36, s37, s38, s39, s40, s41, s42, s43, s44, s45, s46, s47, s48, s49, s50, s51, s52, s53, s54, s55, s56, s57, s58, s59, s60, s61, s62, s63, s64, s65, s66, s67, s68, s69, s70, s71, s72, t73, t74, t75, t76, t77, t78, t79, t80, t81, t82, t83, t84, t85, t86, t87, s88, s89, s90, s91], defers := [] }
theorem fit22 {Q : Exit → Act → World → Prop} {wr : World} {b len RB c : Nat} {ad : Option Addr} {ws : List St} {v0 v1 v2 v3 v4 v5 : Value}  {s1 s2 s4 s5 s6 s7 s8 s9 s10 s11 s12 s13 s14 s15 s16 s17 s18 s19 s20 s21 s22 s23 s24 s25 s26 s27 s28 s29 s30 s31 s32 s33 s34 s35 s36 s37 s38 s39 s40 s41 s42 s43 s44 s45 s46 s47 s48 s49 s50 s51 s52 s53 s54 s55 s56 s57 s58 s59 s60 s61 s62 s63 s64 s65 s66 s67 s68 s69 s70 s71 s72 s73 s74 s75 s76 s77 s78 s79 s80 s81 s82 s83 s84 s85 s86 s87 s88 s89 s90 s91 : Value} (htp : Tp wr b len) (hrow : Row wr RB 51 [v0, v1, v2, v3, v4, v5, .slice ad ws.length c]) (hne : RB ≠ b) (hw : SlOf 1 RS wr ad ws) (hn0 : ws.length ≤ 16) (hl : ∀ s ∈ ws, s.length ≤ 31)
    (h' : ∀ t4 t73 t74 t75 t76 t77 t78 t79 t80 t81 t82 t83 t84 t85 t86 t87 wx, (∃ s : St, t4 = .string (bs s) ∧ s.length ≤ 32) → Mv b len wr wx → Q .normal (fit22A b RB t4 t73 t74 t75 t76 t77 t78 t79 t80 t81 t82 t83 t84 t85 t86 t87 s1 s2 s5 s6 s7 s8 s9 s10 s11 s12 s13 s14 s15 s16 s17 s18 s19 s20 s21 s22 s23 s24 s25 s26 s27 s28 s29 s30 s31 s32 s33 s34 s35 s36 s37 s38 s39 s40 s41 s42 s43 s44 s45 s46 s47 s48 s49 s50 s51 s52 s53 s54 s55 s56 s57 s58 s59 s60 s61 s62 s63 s64 s65 s66 s67 s68 s69 s70 s71 s72 s88 s89 s90 s91) wx) :
    (Code.region 22 (regIn 22 Tryz.f40) true).wp Tryz.prog Q { tmps := #[.pointer (some ⟨b, 0, none⟩), s1, s2, .pointer (some ⟨RB, 0, none⟩), s4, s5, s6, s7, s8, s9, s10, s11, s12, s13, s14, s15, s16, s17, s18, s19, s20, s21, s22, s23, s24, s25, s26, s27, s28, s29, s30, s31, s32, s33, s34, s35, s36, s37, s38, s39, s40, s41, s42, s43, s44, s45, s46, s47, s48, s49, s50, s51, s52, s53, s54, s55, s56, s57, s58, s59, s60, s61, s62, s63, s64, s65, s66, s67, s68, s69, s70, s71, s72, s73, s74, s75, s76, s77, s78, s79, s80, s81, s82, s83, s84, s85, s86, s87, s88, s89, s90, s91], defers := [] } wr := by
  have HTP := PLift.up htp
  have HRW := PLift.up hrow
  have HNE := PLift.up hne
  have HW := PLift.up hw
  have HN := PLift.up hn0
  have HL := PLift.up hl
  have HBS := PLift.up htp.has
  clear htp hrow hne hw hn0 hl
  obtain ⟨j0, hj, hy0, hy1, hy2⟩ := info_parts infoStr
  simp only [regIn, Tryz.f40, regOps, Option.bind_some, Option.getD_some, Nat.beq, cond_true, cond_false]
  refine wp_region_steps (fun done a w => ∃ t4 t73 t74 t75 t76 t77 t78 t79 t80 t81 t82 t83 t84 t85 t86 t87, a = fit22A b RB t4 t73 t74 t75 t76 t77 t78 t79 t80 t81 t82 t83 t84 t85 t86 t87 s1 s2 s5 s6 s7 s8 s9 s10 s11 s12 s13 s14 s15 s16 s17 s18 s19 s20 s21 s22 s23 s24 s25 s26 s27 s28 s29 s30 s31 s32 s33 s34 s35 s36 s37 s38 s39 s40 s41 s42 s43 s44 s45 s46 s47 s48 s49 s50 s51 s52 s53 s54 s55 s56 s57 s58 s59 s60 s61 s62 s63 s64 s65 s66 s67 s68 s69 s70 s71 s72 s88 s89 s90 s91 ∧ fit22F wr b len RB c ad ws v0 v1 v2 v3 v4 v5 t4 t73 t74 t75 t76 t77 t78 t79 t80 t81 t82 t83 t84 t85 t86 t87 done w) (by kernel_rfl) (by kernel_rfl) ?_ ⟨?_, ?_, ?_, ?_, ?_, ?_, ?_, ?_, ?_, ?_, ?_, ?_, ?_, ?_, ?_, ?_, trivial⟩ ?_
  · exact ⟨s4, s73, s74, s75, s76, s77, s78, s79, s80, s81, s82, s83, s84, s85, s86, s87, rfl, ⟨fun _ => (Gr.refl _).drew, Mv.of_gr HTP.down (Gr.refl _).drew, HRW.down.drew⟩, fun q => absurd q (by decide), fun q => absurd q (by decide), fun q => absurd q (by decide), fun q => absurd q (by decide), fun q => absurd q (by decide), fun q => absurd q (by decide), fun q => absurd q (by decide), fun q => absurd q (by decide), fun q => absurd q (by decide), fun q => absurd q (by decide), fun q => absurd q (by decide), fun q => absurd q (by decide), fun q => absurd q (by decide), fun q => absurd q (by decide), fun q => absurd q (by decide), fun q => absurd q (by decide)⟩
  · rintro done a w hsz hnot hdep ⟨t4, t73, t74, t75, t76, t77, t78, t79, t80, t81, t82, t83, t84, t85, t86, t87, rfl, gw, f0, f1, f2, f3, f4, f5, f6, f7, f8, f9, f10, f11, f12, f13, f14, f15⟩ K hK
    have hn : ¬ done.getD 0 false = true := by rw [getD_both hnot]; decide
    have GSZ := PLift.up gw.2.1.size
    have HK := PLift.up hK
    clear hK 
    simp only [fit22A]
    go_simp
    have gg : Gr w (w.alloc (.cells #[] 9)) := (Gr.refl _).alloc _
    refine HK.down _ _ ⟨_, _, _, _, _, _, _, _, _, _, _, _, _, _, _, _, rfl, ⟨fun q => (gw.1 (by rw [getD_set_ne false (by decide)] at q; exact q)).trans gg, gw.2.1.gr gg, gw.2.2.gr gg⟩, ?_, kp f1, kp f2, fun q => absurd (f3 (done_old q (by decide))).1 hn, fun q q2 => (let ⟨B, e, h2⟩ := f4 (done_old q (by decide)) (by rw [getD_set_ne false (by decide)] at q2; exact q2); ⟨B, e, h2.gr gg⟩), fun q => ⟨getD_set_true (f5 (done_old q (by decide))).1, Gr.owns (f5 (done_old q (by decide))).2 gg⟩, kp f6, kp f7, kp f8, kp f9, kp f10, kp f11, fun q => (let ⟨g, cp, k, e1, e2, e3, e4⟩ := f12 (done_old q (by decide)); ⟨g, cp, k, e1, e2, e3, getD_set_true e4⟩), kp f13, kp f14, kp f15⟩
    exact fun _ _ => ⟨_, rfl, Row.new w _ _, GSZ.down⟩
  · rintro done a w hsz hnot hdep ⟨t4, t73, t74, t75, t76, t77, t78, t79, t80, t81, t82, t83, t84, t85, t86, t87, rfl, gw, f0, f1, f2, f3, f4, f5, f6, f7, f8, f9, f10, f11, f12, f13, f14, f15⟩ K hK
    have hn : ¬ done.getD 1 false = true := by rw [getD_both hnot]; decide
    have HK := PLift.up hK
    clear hK 
    simp only [fit22A]
    go_simp
    have gg : Gr w w := Gr.refl _
    refine HK.down _ _ ⟨_, _, _, _, _, _, _, _, _, _, _, _, _, _, _, _, rfl, ⟨fun q => gw.1 (by rw [getD_set_ne false (by decide)] at q; exact q), gw.2⟩, fun q q2 => (let ⟨B, e, h2, h3⟩ := f0 (done_old q (by decide)) (by rw [getD_set_ne false (by decide)] at q2; exact q2); ⟨B, e, h2.gr gg, h3⟩), fun _ => rfl, kp f2, fun q => ⟨getD_set_true (f3 (done_old q (by decide))).1, fun q2 => Gr.owns ((f3 (done_old q (by decide))).2 (by rw [getD_set_ne false (by decide)] at q2; exact q2)) gg⟩, fun q q2 => (let ⟨B, e, h2⟩ := f4 (done_old q (by decide)) (by rw [getD_set_ne false (by decide)] at q2; exact q2); ⟨B, e, h2.gr gg⟩), fun q => ⟨getD_set_true (f5 (done_old q (by decide))).1, Gr.owns (f5 (done_old q (by decide))).2 gg⟩, kp f6, kp f7, kp f8, kp f9, kp f10, kp f11, fun q => (let ⟨g, cp, k, e1, e2, e3, e4⟩ := f12 (done_old q (by decide)); ⟨g, cp, k, e1, e2, e3, getD_set_true e4⟩), kp f13, kp f14, kp f15⟩
  · rintro done a w hsz hnot hdep ⟨t4, t73, t74, t75, t76, t77, t78, t79, t80, t81, t82, t83, t84, t85, t86, t87, rfl, gw, f0, f1, f2, f3, f4, f5, f6, f7, f8, f9, f10, f11, f12, f13, f14, f15⟩ K hK
    have hn : ¬ done.getD 2 false = true := by rw [getD_both hnot]; decide
    have d1 := hdep 1 (by kernel_rfl)
    obtain rfl := f1 d1
    have c6 : w.cell? ⟨RB, 6, none⟩ = some (.slice ad ws.length c) := gw.2.2.cell 6 (by simp)
    have ch := has_of_cell c6
    have HK := PLift.up hK
    clear hK d1
    simp only [fit22A]
    go_simp
    have gg : Gr w w := Gr.refl _
    refine HK.down _ _ ⟨_, _, _, _, _, _, _, _, _, _, _, _, _, _, _, _, rfl, ⟨fun q => gw.1 (by rw [getD_set_ne false (by decide)] at q; exact q), gw.2⟩, fun q q2 => (let ⟨B, e, h2, h3⟩ := f0 (done_old q (by decide)) (by rw [getD_set_ne false (by decide)] at q2; exact q2); ⟨B, e, h2.gr gg, h3⟩), kp f1, fun _ => rfl, fun q => ⟨getD_set_true (f3 (done_old q (by decide))).1, fun q2 => Gr.owns ((f3 (done_old q (by decide))).2 (by rw [getD_set_ne false (by decide)] at q2; exact q2)) gg⟩, fun q q2 => (let ⟨B, e, h2⟩ := f4 (done_old q (by decide)) (by rw [getD_set_ne false (by decide)] at q2; exact q2); ⟨B, e, h2.gr gg⟩), fun q => ⟨getD_set_true (f5 (done_old q (by decide))).1, Gr.owns (f5 (done_old q (by decide))).2 gg⟩, kp f6, kp f7, kp f8, kp f9, kp f10, kp f11, fun q => (let ⟨g, cp, k, e1, e2, e3, e4⟩ := f12 (done_old q (by decide)); ⟨g, cp, k, e1, e2, e3, getD_set_true e4⟩), kp f13, kp f14, kp f15⟩
  · rintro done a w hsz hnot hdep ⟨t4, t73, t74, t75, t76, t77, t78, t79, t80, t81, t82, t83, t84, t85, t86, t87, rfl, gw, f0, f1, f2, f3, f4, f5, f6, f7, f8, f9, f10, f11, f12, f13, f14, f15⟩ K hK
    have hn : ¬ done.getD 3 false = true := by rw [getD_both hnot]; decide
    have d0 := hdep 0 (by kernel_rfl)
    have d2 := hdep 2 (by kernel_rfl)
    obtain rfl := f2 d2
    have n3 := getD_both hnot
    obtain ⟨B, rfl, h2, h3⟩ := f0 d0 n3
    have GG := gw.1 n3
    have OW := row_owns (n := 0) (size := 1) (base := wr.heap.size) h2 h3 rfl (by unfold maxLen; omega)
    have SW : Gets w ad ws.length 1 (strV ws) := gets_words (HW.down.gr RS.mono GG)
    have SZ := GG.size
    have NL := HN.down
    refine step_append_gets _ rfl _ _ 49 rfl wr.heap.size 9 j0 (.string ⟨#[]⟩) 1 16 Tryz.underlying49 hj hy0 hy1 hy2 rfl (by decide) (.slice (some ⟨B, 0, none⟩) 0 0) 0 [] (by simp [Act.eval, fit22A]) OW ad ws.length c (strV ws) (by simp [Act.eval, fit22A]) SW (strV_one _) (by unfold maxLen; omega) (by omega) SZ ?_
    intro v w2 hown hgrow _
    rw [Nat.zero_add, List.nil_append] at hown
    refine hK _ _ ⟨_, _, _, _, _, _, _, _, _, _, _, _, _, _, _, _, rfl, ⟨fun q => absurd q (by rw [getD_set_same (by rw [hsz]; decide)]; decide), gw.2.1.grown hgrow (fun k e => (owns_block OW k e).1), gw.2.2.kept hgrow (gw.2.2.ty.ne OW (by decide))⟩, fun q q2 => absurd q2 (by rw [getD_set_same (by rw [hsz]; decide)]; decide), kp f1, kp f2, ?_, fun q q2 => (let ⟨B4, e4, h4⟩ := f4 (done_old q (by decide)) (by rw [getD_set_ne false (by decide)] at q2; exact q2); ⟨B4, e4, h4.kept hgrow (fun e => row_ne0 h4 h2 (Option.some.inj e))⟩), fun q => absurd (f5 (done_old q (by decide))).1 hn, kp f6, kp f7, kp f8, kp f9, kp f10, kp f11, fun q => (let ⟨g, cp, k, e1, e2, e3, e4⟩ := f12 (done_old q (by decide)); ⟨g, cp, k, e1, e2, e3, getD_set_true e4⟩), kp f13, kp f14, kp f15⟩
    exact fun _ => ⟨getD_set_true d0, fun _ => hown⟩
  · rintro done a w hsz hnot hdep ⟨t4, t73, t74, t75, t76, t77, t78, t79, t80, t81, t82, t83, t84, t85, t86, t87, rfl, gw, f0, f1, f2, f3, f4, f5, f6, f7, f8, f9, f10, f11, f12, f13, f14, f15⟩ K hK
    have hn : ¬ done.getD 4 false = true := by rw [getD_both hnot]; decide
    have HK := PLift.up hK
    clear hK 
    simp only [fit22A]
    go_simp
    have gg : Gr w (w.alloc (.cells #[.string ⟨#[122, 122]⟩] 9)) := (Gr.refl _).alloc _
    refine HK.down _ _ ⟨_, _, _, _, _, _, _, _, _, _, _, _, _, _, _, _, rfl, ⟨fun q => (gw.1 (by rw [getD_set_ne false (by decide)] at q; exact q)).trans gg, gw.2.1.gr gg, gw.2.2.gr gg⟩, fun q q2 => (let ⟨B, e, h2, h3⟩ := f0 (done_old q (by decide)) (by rw [getD_set_ne false (by decide)] at q2; exact q2); ⟨B, e, h2.gr gg, h3⟩), kp f1, kp f2, fun q => ⟨getD_set_true (f3 (done_old q (by decide))).1, fun q2 => Gr.owns ((f3 (done_old q (by decide))).2 (by rw [getD_set_ne false (by decide)] at q2; exact q2)) gg⟩, ?_, fun q => ⟨getD_set_true (f5 (done_old q (by decide))).1, Gr.owns (f5 (done_old q (by decide))).2 gg⟩, kp f6, kp f7, kp f8, kp f9, kp f10, kp f11, fun q => (let ⟨g, cp, k, e1, e2, e3, e4⟩ := f12 (done_old q (by decide)); ⟨g, cp, k, e1, e2, e3, getD_set_true e4⟩), kp f13, kp f14, kp f15⟩
    exact fun _ _ => ⟨_, rfl, Row.new w _ _⟩
  · rintro done a w hsz hnot hdep ⟨t4, t73, t74, t75, t76, t77, t78, t79, t80, t81, t82, t83, t84, t85, t86, t87, rfl, gw, f0, f1, f2, f3, f4, f5, f6, f7, f8, f9, f10, f11, f12, f13, f14, f15⟩ K hK
    have hn : ¬ done.getD 5 false = true := by rw [getD_both hnot]; decide
    have d3 := hdep 3 (by kernel_rfl)
    have d4 := hdep 4 (by kernel_rfl)
    have n5 := getD_both hnot
    have OW := (f3 d3).2 n5
    obtain ⟨B, rfl, h2⟩ := f4 d4 n5
    have SZ := gw.2.1.size
    have NL := HN.down
    refine step_append_gets _ rfl _ _ 49 rfl wr.heap.size 9 j0 (.string ⟨#[]⟩) 1 16 Tryz.underlying49 hj hy0 hy1 hy2 rfl (by decide) t76 ws.length (strV ws) (by simp [Act.eval, fit22A]) OW (some ⟨B, 0, none⟩) 1 1 (strV [zzS]) (by simp [Act.eval, fit22A]) ⟨rfl, fun _ => ⟨_, rfl, row_cells h2⟩⟩ (strV_one _) (by unfold maxLen; omega) (by omega) SZ ?_
    intro v w2 hown hgrow _
    refine hK _ _ ⟨_, _, _, _, _, _, _, _, _, _, _, _, _, _, _, _, rfl, ⟨fun q => absurd q (by rw [getD_set_true d3]; decide), gw.2.1.grown hgrow (fun k e => (owns_block OW k e).1), gw.2.2.kept hgrow (gw.2.2.ty.ne OW (by decide))⟩, fun q q2 => absurd q2 (by rw [getD_set_true d3]; decide), kp f1, kp f2, fun q => ⟨getD_set_true (f3 d3).1, fun q2 => absurd q2 (by rw [getD_set_same (by rw [hsz]; decide)]; decide)⟩, fun q q2 => absurd q2 (by rw [getD_set_same (by rw [hsz]; decide)]; decide), ?_, kp f6, kp f7, kp f8, kp f9, kp f10, kp f11, fun q => absurd (let ⟨g, cp, k, e1, e2, e3, e4⟩ := f12 (done_old q (by decide)); e4) hn, kp f13, kp f14, kp f15⟩
    exact fun _ => ⟨getD_set_true d3, by simpa [strV] using hown⟩
  · rintro done a w hsz hnot hdep ⟨t4, t73, t74, t75, t76, t77, t78, t79, t80, t81, t82, t83, t84, t85, t86, t87, rfl, gw, f0, f1, f2, f3, f4, f5, f6, f7, f8, f9, f10, f11, f12, f13, f14, f15⟩ K hK
    have hn : ¬ done.getD 6 false = true := by rw [getD_both hnot]; decide
    have HK := PLift.up hK
    clear hK 
    simp only [fit22A]
    go_simp
    have gg : Gr w w := Gr.refl _
    refine HK.down _ _ ⟨_, _, _, _, _, _, _, _, _, _, _, _, _, _, _, _, rfl, ⟨fun q => gw.1 (by rw [getD_set_ne false (by decide)] at q; exact q), gw.2⟩, fun q q2 => (let ⟨B, e, h2, h3⟩ := f0 (done_old q (by decide)) (by rw [getD_set_ne false (by decide)] at q2; exact q2); ⟨B, e, h2.gr gg, h3⟩), kp f1, kp f2, fun q => ⟨getD_set_true (f3 (done_old q (by decide))).1, fun q2 => Gr.owns ((f3 (done_old q (by decide))).2 (by rw [getD_set_ne false (by decide)] at q2; exact q2)) gg⟩, fun q q2 => (let ⟨B, e, h2⟩ := f4 (done_old q (by decide)) (by rw [getD_set_ne false (by decide)] at q2; exact q2); ⟨B, e, h2.gr gg⟩), fun q => ⟨getD_set_true (f5 (done_old q (by decide))).1, Gr.owns (f5 (done_old q (by decide))).2 gg⟩, fun _ => rfl, kp f7, kp f8, kp f9, kp f10, kp f11, fun q => (let ⟨g, cp, k, e1, e2, e3, e4⟩ := f12 (done_old q (by decide)); ⟨g, cp, k, e1, e2, e3, getD_set_true e4⟩), kp f13, kp f14, kp f15⟩
  · rintro done a w hsz hnot hdep ⟨t4, t73, t74, t75, t76, t77, t78, t79, t80, t81, t82, t83, t84, t85, t86, t87, rfl, gw, f0, f1, f2, f3, f4, f5, f6, f7, f8, f9, f10, f11, f12, f13, f14, f15⟩ K hK
    have hn : ¬ done.getD 7 false = true := by rw [getD_both hnot]; decide
    have HK := PLift.up hK
    clear hK 
    simp only [fit22A]
    go_simp
    have gg : Gr w w := Gr.refl _
    refine HK.down _ _ ⟨_, _, _, _, _, _, _, _, _, _, _, _, _, _, _, _, rfl, ⟨fun q => gw.1 (by rw [getD_set_ne false (by decide)] at q; exact q), gw.2⟩, fun q q2 => (let ⟨B, e, h2, h3⟩ := f0 (done_old q (by decide)) (by rw [getD_set_ne false (by decide)] at q2; exact q2); ⟨B, e, h2.gr gg, h3⟩), kp f1, kp f2, fun q => ⟨getD_set_true (f3 (done_old q (by decide))).1, fun q2 => Gr.owns ((f3 (done_old q (by decide))).2 (by rw [getD_set_ne false (by decide)] at q2; exact q2)) gg⟩, fun q q2 => (let ⟨B, e, h2⟩ := f4 (done_old q (by decide)) (by rw [getD_set_ne false (by decide)] at q2; exact q2); ⟨B, e, h2.gr gg⟩), fun q => ⟨getD_set_true (f5 (done_old q (by decide))).1, Gr.owns (f5 (done_old q (by decide))).2 gg⟩, kp f6, fun _ => rfl, kp f8, kp f9, kp f10, kp f11, fun q => (let ⟨g, cp, k, e1, e2, e3, e4⟩ := f12 (done_old q (by decide)); ⟨g, cp, k, e1, e2, e3, getD_set_true e4⟩), kp f13, kp f14, kp f15⟩
  · rintro done a w hsz hnot hdep ⟨t4, t73, t74, t75, t76, t77, t78, t79, t80, t81, t82, t83, t84, t85, t86, t87, rfl, gw, f0, f1, f2, f3, f4, f5, f6, f7, f8, f9, f10, f11, f12, f13, f14, f15⟩ K hK
    have hn : ¬ done.getD 8 false = true := by rw [getD_both hnot]; decide
    have d7 := hdep 7 (by kernel_rfl)
    obtain rfl := f7 d7
    have c6 : w.cell? ⟨RB, 6, none⟩ = some (.slice ad ws.length c) := gw.2.2.cell 6 (by simp)
    have ch := has_of_cell c6
    have HK := PLift.up hK
    clear hK d7
    simp only [fit22A]
    go_simp
    have gg : Gr w w := Gr.refl _
    refine HK.down _ _ ⟨_, _, _, _, _, _, _, _, _, _, _, _, _, _, _, _, rfl, ⟨fun q => gw.1 (by rw [getD_set_ne false (by decide)] at q; exact q), gw.2⟩, fun q q2 => (let ⟨B, e, h2, h3⟩ := f0 (done_old q (by decide)) (by rw [getD_set_ne false (by decide)] at q2; exact q2); ⟨B, e, h2.gr gg, h3⟩), kp f1, kp f2, fun q => ⟨getD_set_true (f3 (done_old q (by decide))).1, fun q2 => Gr.owns ((f3 (done_old q (by decide))).2 (by rw [getD_set_ne false (by decide)] at q2; exact q2)) gg⟩, fun q q2 => (let ⟨B, e, h2⟩ := f4 (done_old q (by decide)) (by rw [getD_set_ne false (by decide)] at q2; exact q2); ⟨B, e, h2.gr gg⟩), fun q => ⟨getD_set_true (f5 (done_old q (by decide))).1, Gr.owns (f5 (done_old q (by decide))).2 gg⟩, kp f6, kp f7, fun _ => rfl, kp f9, kp f10, kp f11, fun q => (let ⟨g, cp, k, e1, e2, e3, e4⟩ := f12 (done_old q (by decide)); ⟨g, cp, k, e1, e2, e3, getD_set_true e4⟩), kp f13, kp f14, kp f15⟩
  · rintro done a w hsz hnot hdep ⟨t4, t73, t74, t75, t76, t77, t78, t79, t80, t81, t82, t83, t84, t85, t86, t87, rfl, gw, f0, f1, f2, f3, f4, f5, f6, f7, f8, f9, f10, f11, f12, f13, f14, f15⟩ K hK
    have hn : ¬ done.getD 9 false = true := by rw [getD_both hnot]; decide
    have d8 := hdep 8 (by kernel_rfl)
    obtain rfl := f8 d8
    have HK := PLift.up hK
    clear hK d8
    simp only [fit22A]
    go_simp
    have gg : Gr w w := Gr.refl _
    refine HK.down _ _ ⟨_, _, _, _, _, _, _, _, _, _, _, _, _, _, _, _, rfl, ⟨fun q => gw.1 (by rw [getD_set_ne false (by decide)] at q; exact q), gw.2⟩, fun q q2 => (let ⟨B, e, h2, h3⟩ := f0 (done_old q (by decide)) (by rw [getD_set_ne false (by decide)] at q2; exact q2); ⟨B, e, h2.gr gg, h3⟩), kp f1, kp f2, fun q => ⟨getD_set_true (f3 (done_old q (by decide))).1, fun q2 => Gr.owns ((f3 (done_old q (by decide))).2 (by rw [getD_set_ne false (by decide)] at q2; exact q2)) gg⟩, fun q q2 => (let ⟨B, e, h2⟩ := f4 (done_old q (by decide)) (by rw [getD_set_ne false (by decide)] at q2; exact q2); ⟨B, e, h2.gr gg⟩), fun q => ⟨getD_set_true (f5 (done_old q (by decide))).1, Gr.owns (f5 (done_old q (by decide))).2 gg⟩, kp f6, kp f7, kp f8, fun _ => rfl, kp f10, kp f11, fun q => (let ⟨g, cp, k, e1, e2, e3, e4⟩ := f12 (done_old q (by decide)); ⟨g, cp, k, e1, e2, e3, getD_set_true e4⟩), kp f13, kp f14, kp f15⟩
  · rintro done a w hsz hnot hdep ⟨t4, t73, t74, t75, t76, t77, t78, t79, t80, t81, t82, t83, t84, t85, t86, t87, rfl, gw, f0, f1, f2, f3, f4, f5, f6, f7, f8, f9, f10, f11, f12, f13, f14, f15⟩ K hK
    have hn : ¬ done.getD 10 false = true := by rw [getD_both hnot]; decide
    have d9 := hdep 9 (by kernel_rfl)
    obtain rfl := f9 d9
    have NL := HN.down
    have HK := PLift.up hK
    clear hK d9
    simp only [fit22A]
    go_simp
    try rw [Go.IntWalk.i64_in ((ws.length : Int) + 1) (by omega)]
    have gg : Gr w w := Gr.refl _
    refine HK.down _ _ ⟨_, _, _, _, _, _, _, _, _, _, _, _, _, _, _, _, rfl, ⟨fun q => gw.1 (by rw [getD_set_ne false (by decide)] at q; exact q), gw.2⟩, fun q q2 => (let ⟨B, e, h2, h3⟩ := f0 (done_old q (by decide)) (by rw [getD_set_ne false (by decide)] at q2; exact q2); ⟨B, e, h2.gr gg, h3⟩), kp f1, kp f2, fun q => ⟨getD_set_true (f3 (done_old q (by decide))).1, fun q2 => Gr.owns ((f3 (done_old q (by decide))).2 (by rw [getD_set_ne false (by decide)] at q2; exact q2)) gg⟩, fun q q2 => (let ⟨B, e, h2⟩ := f4 (done_old q (by decide)) (by rw [getD_set_ne false (by decide)] at q2; exact q2); ⟨B, e, h2.gr gg⟩), fun q => ⟨getD_set_true (f5 (done_old q (by decide))).1, Gr.owns (f5 (done_old q (by decide))).2 gg⟩, kp f6, kp f7, kp f8, kp f9, fun _ => rfl, kp f11, fun q => (let ⟨g, cp, k, e1, e2, e3, e4⟩ := f12 (done_old q (by decide)); ⟨g, cp, k, e1, e2, e3, getD_set_true e4⟩), kp f13, kp f14, kp f15⟩
  · rintro done a w hsz hnot hdep ⟨t4, t73, t74, t75, t76, t77, t78, t79, t80, t81, t82, t83, t84, t85, t86, t87, rfl, gw, f0, f1, f2, f3, f4, f5, f6, f7, f8, f9, f10, f11, f12, f13, f14, f15⟩ K hK
    have hn : ¬ done.getD 11 false = true := by rw [getD_both hnot]; decide
    have d5 := hdep 5 (by kernel_rfl)
    have d6 := hdep 6 (by kernel_rfl)
    have d10 := hdep 10 (by kernel_rfl)
    obtain rfl := f6 d6
    obtain rfl := f10 d10
    have d3 := (f5 d5).1
    have TP := PLift.up (gw.2.1.tp HTP.down)
    have GW := PLift.up gw
    have O5 := PLift.up (f5 d5).2
    have NL := HN.down
    have HK := PLift.up hK
    clear hK d6 d10
    simp only [fit22A]
    go_simp
    refine (nM_any w b len ((ws.length : Int) + 1) TP.down (by omega) (by omega)).mono ?_
    rintro e w2 ⟨x, rfl, ⟨x0, x1⟩, hm⟩
    obtain ⟨k, rfl⟩ := Int.eq_ofNat_of_zero_le x0
    have KL := PLift.up (show k < ws.length + 1 by omega)
    (try go_simp)
    refine HK.down _ _ ⟨_, _, _, _, _, _, _, _, _, _, _, _, _, _, _, _, rfl, ⟨fun q => absurd q (by rw [getD_set_true d3]; decide), GW.down.2.1.trans HBS.down hm, hm.row GW.down.2.2 HNE.down⟩, fun q q2 => absurd q2 (by rw [getD_set_true d3]; decide), kp f1, kp f2, fun q => ⟨getD_set_true (f3 d3).1, fun q2 => absurd q2 (by rw [getD_set_true d5]; decide)⟩, fun q q2 => absurd q2 (by rw [getD_set_true d5]; decide), fun q => ⟨getD_set_true d3, Mv.owns hm O5.down HBS.down⟩, kp f6, kp f7, kp f8, kp f9, kp f10, ?_, fun q => (let ⟨g, cp, k, e1, e2, e3, e4⟩ := f12 (done_old q (by decide)); ⟨g, cp, k, e1, e2, e3, getD_set_true e4⟩), kp f13, kp f14, kp f15⟩
    exact fun _ => ⟨k, rfl, KL.down⟩
  · rintro done a w hsz hnot hdep ⟨t4, t73, t74, t75, t76, t77, t78, t79, t80, t81, t82, t83, t84, t85, t86, t87, rfl, gw, f0, f1, f2, f3, f4, f5, f6, f7, f8, f9, f10, f11, f12, f13, f14, f15⟩ K hK
    have hn : ¬ done.getD 12 false = true := by rw [getD_both hnot]; decide
    have d5 := hdep 5 (by kernel_rfl)
    have d11 := hdep 11 (by kernel_rfl)
    obtain ⟨k, rfl, kl⟩ := f11 d11
    have O5 := PLift.up (f5 d5)
    obtain ⟨g, cp, rfl, _, _, hc⟩ := owns_cell O5.down.2 (Nat.succ_pos _)
    have kl2 : (k : Int) < (ws.length : Int) + 1 := by omega
    have KL := PLift.up kl
    clear hc kl
    have HK := PLift.up hK
    clear hK 
    simp only [fit22A]
    go_simp
    have gg : Gr w w := Gr.refl _
    refine HK.down _ _ ⟨_, _, _, _, _, _, _, _, _, _, _, _, _, _, _, _, rfl, ⟨fun q => gw.1 (by rw [getD_set_ne false (by decide)] at q; exact q), gw.2⟩, fun q q2 => (let ⟨B, e, h2, h3⟩ := f0 (done_old q (by decide)) (by rw [getD_set_ne false (by decide)] at q2; exact q2); ⟨B, e, h2.gr gg, h3⟩), kp f1, kp f2, fun q => ⟨getD_set_true (f3 (done_old q (by decide))).1, fun q2 => Gr.owns ((f3 (done_old q (by decide))).2 (by rw [getD_set_ne false (by decide)] at q2; exact q2)) gg⟩, fun q q2 => (let ⟨B, e, h2⟩ := f4 (done_old q (by decide)) (by rw [getD_set_ne false (by decide)] at q2; exact q2); ⟨B, e, h2.gr gg⟩), fun _ => ⟨getD_set_true O5.down.1, O5.down.2⟩, kp f6, kp f7, kp f8, kp f9, kp f10, fun _ => ⟨k, rfl, KL.down⟩, ?_, kp f13, kp f14, kp f15⟩
    exact fun _ => ⟨g, cp, k, rfl, (by simp), KL.down, getD_set_true d5⟩
  · rintro done a w hsz hnot hdep ⟨t4, t73, t74, t75, t76, t77, t78, t79, t80, t81, t82, t83, t84, t85, t86, t87, rfl, gw, f0, f1, f2, f3, f4, f5, f6, f7, f8, f9, f10, f11, f12, f13, f14, f15⟩ K hK
    have hn : ¬ done.getD 13 false = true := by rw [getD_both hnot]; decide
    have d12 := hdep 12 (by kernel_rfl)
    obtain ⟨g, cp, k, rfl, rfl, kl, d5⟩ := f12 d12
    have O5 := PLift.up (f5 d5)
    obtain ⟨g2, cp2, e1, _, _, hc⟩ := owns_cell O5.down.2 (Nat.succ_pos _)
    cases e1
    have kl3 : k < (ws ++ [zzS]).length := by rw [List.length_append]; exact kl
    have ck : w.cell? ⟨g, k, none⟩ = some (.string (bs (ws ++ [zzS])[k])) := by rw [hc k (by omega)]; unfold strV; rw [List.getElem?_map, List.getElem?_eq_getElem kl3]; rfl
    have ch := has_of_cell ck
    obtain ⟨s, hs⟩ : ∃ s, (ws ++ [zzS])[k] = s := ⟨_, rfl⟩
    have SL := PLift.up (show s.length ≤ 31 from hs ▸ words_zz HL.down _ (List.getElem_mem kl3))
    rw [hs] at ck
    have KL := PLift.up kl
    clear hc kl kl3 hs
    have HK := PLift.up hK
    clear hK 
    simp only [fit22A]
    go_simp
    have gg : Gr w w := Gr.refl _
    refine HK.down _ _ ⟨_, _, _, _, _, _, _, _, _, _, _, _, _, _, _, _, rfl, ⟨fun q => gw.1 (by rw [getD_set_ne false (by decide)] at q; exact q), gw.2⟩, fun q q2 => (let ⟨B, e, h2, h3⟩ := f0 (done_old q (by decide)) (by rw [getD_set_ne false (by decide)] at q2; exact q2); ⟨B, e, h2.gr gg, h3⟩), kp f1, kp f2, fun q => ⟨getD_set_true (f3 (done_old q (by decide))).1, fun q2 => Gr.owns ((f3 (done_old q (by decide))).2 (by rw [getD_set_ne false (by decide)] at q2; exact q2)) gg⟩, fun q q2 => (let ⟨B, e, h2⟩ := f4 (done_old q (by decide)) (by rw [getD_set_ne false (by decide)] at q2; exact q2); ⟨B, e, h2.gr gg⟩), fun _ => ⟨getD_set_true O5.down.1, O5.down.2⟩, kp f6, kp f7, kp f8, kp f9, kp f10, kp f11, fun _ => ⟨g, cp, k, rfl, rfl, KL.down, getD_set_true d5⟩, ?_, kp f14, kp f15⟩
    exact fun _ => ⟨s, rfl, SL.down⟩
  · rintro done a w hsz hnot hdep ⟨t4, t73, t74, t75, t76, t77, t78, t79, t80, t81, t82, t83, t84, t85, t86, t87, rfl, gw, f0, f1, f2, f3, f4, f5, f6, f7, f8, f9, f10, f11, f12, f13, f14, f15⟩ K hK
    have hn : ¬ done.getD 14 false = true := by rw [getD_both hnot]; decide
    have d13 := hdep 13 (by kernel_rfl)
    obtain ⟨s, rfl, sl⟩ := f13 d13
    have SL := PLift.up sl
    have k2 : ¬ (9223372036854775807 < s.length + 1) := by omega
    clear sl
    have HK := PLift.up hK
    clear hK 
    simp only [fit22A]
    go_simp
    have gg : Gr w w := Gr.refl _
    refine HK.down _ _ ⟨_, _, _, _, _, _, _, _, _, _, _, _, _, _, _, _, rfl, ⟨fun q => gw.1 (by rw [getD_set_ne false (by decide)] at q; exact q), gw.2⟩, fun q q2 => (let ⟨B, e, h2, h3⟩ := f0 (done_old q (by decide)) (by rw [getD_set_ne false (by decide)] at q2; exact q2); ⟨B, e, h2.gr gg, h3⟩), kp f1, kp f2, fun q => ⟨getD_set_true (f3 (done_old q (by decide))).1, fun q2 => Gr.owns ((f3 (done_old q (by decide))).2 (by rw [getD_set_ne false (by decide)] at q2; exact q2)) gg⟩, fun q q2 => (let ⟨B, e, h2⟩ := f4 (done_old q (by decide)) (by rw [getD_set_ne false (by decide)] at q2; exact q2); ⟨B, e, h2.gr gg⟩), fun q => ⟨getD_set_true (f5 (done_old q (by decide))).1, Gr.owns (f5 (done_old q (by decide))).2 gg⟩, kp f6, kp f7, kp f8, kp f9, kp f10, kp f11, fun q => (let ⟨g, cp, k, e1, e2, e3, e4⟩ := f12 (done_old q (by decide)); ⟨g, cp, k, e1, e2, e3, getD_set_true e4⟩), fun _ => ⟨s, rfl, SL.down⟩, ?_, kp f15⟩
    exact fun _ => ⟨s ++ [0], by simp [bs_append] <;> rfl, by rw [List.length_append]; have := SL.down; simp; omega⟩
  · rintro done a w hsz hnot hdep ⟨t4, t73, t74, t75, t76, t77, t78, t79, t80, t81, t82, t83, t84, t85, t86, t87, rfl, gw, f0, f1, f2, f3, f4, f5, f6, f7, f8, f9, f10, f11, f12, f13, f14, f15⟩ K hK
    have hn : ¬ done.getD 15 false = true := by rw [getD_both hnot]; decide
    have d14 := hdep 14 (by kernel_rfl)
    obtain ⟨s, rfl, sl⟩ := f14 d14
    have SL := PLift.up sl
    clear sl
    have HK := PLift.up hK
    clear hK 
    simp only [fit22A]
    go_simp
    have gg : Gr w w := Gr.refl _
    refine HK.down _ _ ⟨_, _, _, _, _, _, _, _, _, _, _, _, _, _, _, _, rfl, ⟨fun q => gw.1 (by rw [getD_set_ne false (by decide)] at q; exact q), gw.2⟩, fun q q2 => (let ⟨B, e, h2, h3⟩ := f0 (done_old q (by decide)) (by rw [getD_set_ne false (by decide)] at q2; exact q2); ⟨B, e, h2.gr gg, h3⟩), kp f1, kp f2, fun q => ⟨getD_set_true (f3 (done_old q (by decide))).1, fun q2 => Gr.owns ((f3 (done_old q (by decide))).2 (by rw [getD_set_ne false (by decide)] at q2; exact q2)) gg⟩, fun q q2 => (let ⟨B, e, h2⟩ := f4 (done_old q (by decide)) (by rw [getD_set_ne false (by decide)] at q2; exact q2); ⟨B, e, h2.gr gg⟩), fun q => ⟨getD_set_true (f5 (done_old q (by decide))).1, Gr.owns (f5 (done_old q (by decide))).2 gg⟩, kp f6, kp f7, kp f8, kp f9, kp f10, kp f11, fun q => (let ⟨g, cp, k, e1, e2, e3, e4⟩ := f12 (done_old q (by decide)); ⟨g, cp, k, e1, e2, e3, getD_set_true e4⟩), kp f13, fun _ => ⟨s, rfl, SL.down⟩, ?_⟩
    exact fun _ => ⟨s, rfl, SL.down⟩
  · rintro done a w hall ⟨t4, t73, t74, t75, t76, t77, t78, t79, t80, t81, t82, t83, t84, t85, t86, t87, rfl, gw, f0, f1, f2, f3, f4, f5, f6, f7, f8, f9, f10, f11, f12, f13, f14, f15⟩
    exact h' _ _ _ _ _ _ _ _ _ _ _ _ _ _ _ _ w (f15 (hall 15 (by decide))) gw.2.1
def txt2 : List St := [[111, 107, 97, 121, 0], [120, 0]]
def GivesFit (b len : Nat) (w : World) (e : Ending) (w' : World) : Prop := ∃ s : St, s.length ≤ 100 ∧ e = .returned (.string (bs s)) ∧ Mv b len w w'
def SmlF (r : Rul) : Prop := (0 ≤ r.count ∧ r.count ≤ 2) ∧ (0 ≤ r.low ∧ r.low ≤ 4294967295 ∧ 0 ≤ r.high ∧ r.high ≤ 4294967295) ∧ (1 ≤ r.kind ∧ r.kind ≤ 6) ∧ (r.words.length ≤ 16 ∧ ∀ s ∈ r.words, s.length ≤ 31)
theorem fitS {name : St} {req : Bool} {kd lo hi ct : Int} {ws : List St} {a : Option Addr} {w W : World} {b len RB c n : Nat} {va : Option Addr} {vc : Nat} {ns : List Nat} {s : St} {s1 s2 s4 s8 s9 s10 s11 s12 s13 s14 s15 s16 s17 s18 s19 s20 s21 s22 s23 s24 s25 s26 s27 s28 s29 s30 s31 s32 s33 s34 s35 s36 s37 s38 s39 s40 s41 s42 s43 s44 s45 s46 s47 s48 s49 s50 s51 s52 s53 s54 s55 s56 s57 s58 s59 s60 s61 s62 s63 s64 s65 s66 s67 s68 s69 s70 s71 s72 s73 s74 s75 s76 s77 s78 s79 s80 s81 s82 s83 s84 s85 s86 s87 s88 s89 s90 s91 : Value}
    (H : Hid (Tp w b len)) (M : Hid (Mv b len w W)) (RW : Hid (Row W RB 51 [.string (bs name), .bool req, .int .i64 kd, .int .i64 lo, .int .i64 hi, .int .i64 ct, .slice a ws.length c])) (NB : Hid (RB ≠ b)) (HW : Hid (∀ W2, Mv b len w W2 → SlOf 1 RS W2 a ws)) (WL : Hid (ws.length ≤ 16 ∧ ∀ s ∈ ws, s.length ≤ 31)) (NN : Hid (1 ≤ n ∧ n ≤ 3)) (KD : Hid (1 ≤ kd ∧ kd ≤ 6)) (OW : Hid (W.ownsRow w.heap.size 3 1 (.slice va n vc) n (nums (ns.map (fun n : Nat => (n : Int)))))) (NS : Hid (ns.length = n ∧ ∀ z ∈ ns, z < 4294967296)) (SL0 : Hid (s.length ≤ 50)) :
    (tl 7 Tryz.f40).wp Tryz.prog (bodyPost Tryz.prog Tryz.f40 (GivesFit b len w)) { tmps := #[.pointer (some ⟨b, 0, none⟩), s1, s2, .pointer (some ⟨RB, 0, none⟩), s4, .int .i64 (n : Int), .slice va n vc, .string (bs s), s8, s9, s10, s11, s12, s13, s14, s15, s16, s17, s18, s19, s20, s21, s22, s23, s24, s25, s26, s27, s28, s29, s30, s31, s32, s33, s34, s35, s36, s37, s38, s39, s40, s41, s42, s43, s44, s45, s46, s47, s48, s49, s50, s51, s52, s53, s54, s55, s56, s57, s58, s59, s60, s61, s62, s63, s64, s65, s66, s67, s68, s69, s70, s71, s72, s73, s74, s75, s76, s77, s78, s79, s80, s81, s82, s83, s84, s85, s86, s87, s88, s89, s90, s91], defers := [] } W := by
  have hb := H.out.has
  have c2' : W.cell? ⟨RB, 2, none⟩ = some (.int .i64 kd) := RW.out.cell 2 (by simp)
  have hh := has_of_cell c2'
  have kr := KD.out
  simp only [tl, Tryz.f40, Option.map_some, Option.getD_some, sndN, cutAt]
  rcases (show kd = 3 ∨ kd = 6 ∨ kd = 5 ∨ kd = 4 ∨ kd = 2 ∨ kd = 1 by omega) with q | q | q | q | q | q
  · have e1 : (kd == 1) = false := by rw [beq_eq_false_iff_ne]; omega
    have e2 : (kd == 2) = false := by rw [beq_eq_false_iff_ne]; omega
    have e3 : (kd == 3) = true := by rw [beq_iff_eq]; omega
    have e4 : (kd == 4) = false := by rw [beq_eq_false_iff_ne]; omega
    have e5 : (kd == 5) = false := by rw [beq_eq_false_iff_ne]; omega
    have e6 : (kd == 6) = false := by rw [beq_eq_false_iff_ne]; omega
    clear kr q
    obtain ⟨a2, c2, e2, hc2, hs2⟩ := ints_at (zs := ns.map (fun n : Nat => (n : Int))) (by rw [List.length_map, NS.out.1]; exact OW.out) (by intro z hz; obtain ⟨n, hn, rfl⟩ := List.mem_map.1 hz; have := NS.out.2 n hn; unfold Wide; omega)
    rw [List.length_map, NS.out.1] at e2 hc2
    cases e2
    have SL := Lib.hid hs2
    clear hs2
    have GC := growCells_any ns va vc W SL.out NS.out.2 (by have := NS.out.1; have := NN.out; omega) (by have := NS.out.1; have := NN.out; omega)
    rw [NS.out.1] at GC
    go_wp2_with fail
    refine GC.mono ?_
    rintro e w4 ⟨rfl, hg4⟩
    have M4 := Lib.hid (M.out.gr hg4)
    clear hg4
    go_wp2_with fail
    go_ret
    exact ⟨cellsS ns, by rw [cellsS_len, NS.out.1]; have := NN.out; omega, rfl, M4.out⟩
  · have e1 : (kd == 1) = false := by rw [beq_eq_false_iff_ne]; omega
    have e2 : (kd == 2) = false := by rw [beq_eq_false_iff_ne]; omega
    have e3 : (kd == 3) = false := by rw [beq_eq_false_iff_ne]; omega
    have e4 : (kd == 4) = false := by rw [beq_eq_false_iff_ne]; omega
    have e5 : (kd == 5) = false := by rw [beq_eq_false_iff_ne]; omega
    have e6 : (kd == 6) = true := by rw [beq_iff_eq]; omega
    clear kr q
    go_wp2_with fail
    refine (rangeM_any W b len 1 8 (M.out.tp H.out) (by omega) (by omega) (by omega)).mono ?_
    rintro e w3 ⟨x, rfl, ⟨x0, x1⟩, hm⟩
    have M3 := Lib.hid (M.out.trans hb hm)
    have O3 := Lib.hid (Mv.owns hm OW.out hb)
    clear hm
    obtain ⟨g, cp, e1, _, g1, hc⟩ := owns_cell O3.out (show 0 < n by have := NN.out; omega)
    cases e1
    have n0 : (0 : Int) < (n : Int) := by have := NN.out; omega
    have G1 := Lib.hid g1
    obtain ⟨n1, hn1⟩ : ∃ n1, ns = n1 :: ns.tail := by
      cases ns with
      | nil => have := NS.out.1; have := NN.out; simp at *; omega
      | cons n1 r => exact ⟨n1, rfl⟩
    have z0 : w3.cell? ⟨g, 0, none⟩ = some (.int .i64 (n1 : Int)) := by rw [hc 0 (by have := NN.out; omega), hn1]; rfl
    have zf : w3.frozen? ⟨g, 0, none⟩ = false := owns_free O3.out _
    have hz := has_of_cell z0
    have OP := Lib.hid (owns_put O3.out (show 0 < n * 1 by have := NN.out; omega) (.int .i64 x))
    have MP := Lib.hid (M3.out.setc (o := 0) (v := .int .i64 x) G1.out)
    clear hc
    obtain ⟨W5, hW5⟩ : ∃ W : World, Hid (W = w3.setCell ⟨g, 0, none⟩ (.int .i64 x)) := ⟨_, Lib.hid rfl⟩
    rw [← hW5.out] at OP MP
    have NS2 : Hid ((x.toNat :: ns.tail).length = n ∧ ∀ z ∈ x.toNat :: ns.tail, z < 4294967296) := Lib.hid ⟨by have h1 := NS.out.1; rw [hn1] at h1; simpa using h1, fun z hz2 => by
      rcases List.mem_cons.1 hz2 with rfl | q
      · omega
      · exact NS.out.2 z (List.mem_of_mem_tail q)⟩
    have O5 : Hid (W5.ownsRow w.heap.size 3 1 (.slice (some ⟨g, 0, none⟩) n vc) n (nums ((x.toNat :: ns.tail).map (fun n : Nat => (n : Int))))) := Lib.hid (by
      have q := OP.out
      rw [hn1] at q
      have mx : max x 0 = x := by omega
      simpa [nums, mx] using q)
    clear OP O3 hn1
    obtain ⟨ms, hms⟩ : ∃ ms, ms = x.toNat :: ns.tail := ⟨_, rfl⟩
    rw [← hms] at NS2 O5
    clear hms
    go_upto_region 18 with (fail)
    rw [← hW5.out]
    clear hW5 z0 zf hz
    go_wp2_with fail
    obtain ⟨a2, c2, e2, hc2, hs2⟩ := ints_at (zs := ms.map (fun n : Nat => (n : Int))) (by rw [List.length_map, NS2.out.1]; exact O5.out) (by intro z hz; obtain ⟨n, hn, rfl⟩ := List.mem_map.1 hz; have := NS2.out.2 n hn; unfold Wide; omega)
    rw [List.length_map, NS2.out.1] at e2 hc2
    cases e2
    have SL := Lib.hid hs2
    clear hs2
    have GC := growCells_any ms (some ⟨g, 0, none⟩) vc W5 SL.out NS2.out.2 (by have := NS2.out.1; have := NN.out; omega) (by have := NS2.out.1; have := NN.out; omega)
    rw [NS2.out.1] at GC
    refine GC.mono ?_
    rintro e w4 ⟨rfl, hg4⟩
    have M4 := Lib.hid (MP.out.gr hg4)
    clear hg4
    go_wp2_with fail
    go_ret
    exact ⟨cellsS ms, by rw [cellsS_len, NS2.out.1]; have := NN.out; omega, rfl, M4.out⟩
  · have e1 : (kd == 1) = false := by rw [beq_eq_false_iff_ne]; omega
    have e2 : (kd == 2) = false := by rw [beq_eq_false_iff_ne]; omega
    have e3 : (kd == 3) = false := by rw [beq_eq_false_iff_ne]; omega
    have e4 : (kd == 4) = false := by rw [beq_eq_false_iff_ne]; omega
    have e5 : (kd == 5) = true := by rw [beq_iff_eq]; omega
    have e6 : (kd == 6) = false := by rw [beq_eq_false_iff_ne]; omega
    clear kr q
    go_wp2_with fail
    go_ret
    exact ⟨s, by have := SL0.out; omega, rfl, M.out⟩
  · have e1 : (kd == 1) = false := by rw [beq_eq_false_iff_ne]; omega
    have e2 : (kd == 2) = false := by rw [beq_eq_false_iff_ne]; omega
    have e3 : (kd == 3) = false := by rw [beq_eq_false_iff_ne]; omega
    have e4 : (kd == 4) = true := by rw [beq_iff_eq]; omega
    have e5 : (kd == 5) = false := by rw [beq_eq_false_iff_ne]; omega
    have e6 : (kd == 6) = false := by rw [beq_eq_false_iff_ne]; omega
    clear kr q
    go_wp2_with fail
    refine wp_code_eq (c := Code.region 22 (regIn 22 Tryz.f40) true) (by kernel_rfl) (fit22 (wr := W) (M.out.tp H.out) RW.out NB.out (HW.out _ M.out) WL.out.1 WL.out.2 ?_)
    intro t4 t73 t74 t75 t76 t77 t78 t79 t80 t81 t82 t83 t84 t85 t86 t87 wx hs4 hm4
    obtain ⟨z, rfl, hz⟩ := hs4
    have M4 := Lib.hid (M.out.trans hb hm4)
    clear hm4
    unfold fit22A
    go_wp2_with fail
    go_ret
    exact ⟨z, by omega, rfl, M4.out⟩
  · have e1 : (kd == 1) = false := by rw [beq_eq_false_iff_ne]; omega
    have e2 : (kd == 2) = true := by rw [beq_iff_eq]; omega
    have e3 : (kd == 3) = false := by rw [beq_eq_false_iff_ne]; omega
    have e4 : (kd == 4) = false := by rw [beq_eq_false_iff_ne]; omega
    have e5 : (kd == 5) = false := by rw [beq_eq_false_iff_ne]; omega
    have e6 : (kd == 6) = false := by rw [beq_eq_false_iff_ne]; omega
    clear kr q
    go_wp2_with fail
    go_ret
    exact ⟨[], by simp, rfl, M.out⟩
  · have e1 : (kd == 1) = true := by rw [beq_iff_eq]; omega
    have e2 : (kd == 2) = false := by rw [beq_eq_false_iff_ne]; omega
    have e3 : (kd == 3) = false := by rw [beq_eq_false_iff_ne]; omega
    have e4 : (kd == 4) = false := by rw [beq_eq_false_iff_ne]; omega
    have e5 : (kd == 5) = false := by rw [beq_eq_false_iff_ne]; omega
    have e6 : (kd == 6) = false := by rw [beq_eq_false_iff_ne]; omega
    clear kr q
    go_wp2_with fail
    refine (value_any W b len (M.out.tp H.out)).mono ?_
    rintro e w3 ⟨z, hz, rfl, hm⟩
    have M3 := Lib.hid (M.out.trans hb hm)
    clear hm
    go_wp2_with fail
    go_ret
    exact ⟨z, hz, rfl, M3.out⟩
theorem fitL {name : St} {req : Bool} {kd lo hi ct : Int} {ws : List St} {a : Option Addr} {w W : World} {b len RB c n : Nat} {s1 s2 s4 s6 s7 s8 s9 s10 s11 s12 s13 s14 s15 s16 s17 s18 s19 s20 s21 s22 s23 s24 s25 s26 s27 s28 s29 s30 s31 s32 s33 s34 s35 s36 s37 s38 s39 s40 s41 s42 s43 s44 s45 s46 s47 s48 s49 s50 s51 s52 s53 s54 s55 s56 s57 s58 s59 s60 s61 s62 s63 s64 s65 s66 s67 s68 s69 s70 s71 s72 s73 s74 s75 s76 s77 s78 s79 s80 s81 s82 s83 s84 s85 s86 s87 s88 s89 s90 s91 : Value}
    (H : Hid (Tp w b len)) (M : Hid (Mv b len w W)) (RW : Hid (Row W RB 51 [.string (bs name), .bool req, .int .i64 kd, .int .i64 lo, .int .i64 hi, .int .i64 ct, .slice a ws.length c])) (NB : Hid (RB ≠ b)) (HW : Hid (∀ W2, Mv b len w W2 → SlOf 1 RS W2 a ws)) (WL : Hid (ws.length ≤ 16 ∧ ∀ s ∈ ws, s.length ≤ 31)) (NN : Hid (1 ≤ n ∧ n ≤ 3)) (KD : Hid (1 ≤ kd ∧ kd ≤ 6)) (LH : Hid (0 ≤ lo ∧ lo ≤ 4294967295 ∧ 0 ≤ hi ∧ hi ≤ 4294967295)) (SZ : Hid (w.heap.size ≤ RB)) :
    (tl 4 Tryz.f40).wp Tryz.prog (bodyPost Tryz.prog Tryz.f40 (GivesFit b len w)) { tmps := #[.pointer (some ⟨b, 0, none⟩), s1, s2, .pointer (some ⟨RB, 0, none⟩), s4, .int .i64 (n : Int), s6, s7, s8, s9, s10, s11, s12, s13, s14, s15, s16, s17, s18, s19, s20, s21, s22, s23, s24, s25, s26, s27, s28, s29, s30, s31, s32, s33, s34, s35, s36, s37, s38, s39, s40, s41, s42, s43, s44, s45, s46, s47, s48, s49, s50, s51, s52, s53, s54, s55, s56, s57, s58, s59, s60, s61, s62, s63, s64, s65, s66, s67, s68, s69, s70, s71, s72, s73, s74, s75, s76, s77, s78, s79, s80, s81, s82, s83, s84, s85, s86, s87, s88, s89, s90, s91], defers := [] } W := by
  have hb := H.out.has
  obtain ⟨i0, hi', hz0, hz1, hz2⟩ := info_parts infoInt
  refine wp_cut 3 fun T hT => ?_
  simp only [tl, Tryz.f40, Option.map_some, Option.getD_some, sndN, cutAt]
  go_wp2_with fail
  go_loopw [6, 7, 8] (fun v tx i wr => ∃ (k : Nat) (ns : List Nat) (s : St), i = .int .i64 (k : Int) ∧ k ≤ n ∧ ns.length = k ∧ (∀ z ∈ ns, z < 4294967296) ∧ tx = .string (bs s) ∧ s.length ≤ 5 * k ∧ wr.ownsRow w.heap.size 3 1 v ns.length (nums (ns.map (fun n : Nat => (n : Int)))) ∧ Row wr RB 51 [.string (bs name), .bool req, .int .i64 kd, .int .i64 lo, .int .i64 hi, .int .i64 ct, .slice a ws.length c] ∧ Mv b len w wr) (fun _ _ i _ => n - (intOf i).toNat)
  case atStart => exact ⟨0, [], [], rfl, by omega, rfl, by simp, rfl, by simp, World.ownsRow_nil _ _ _ _, RW.out, M.out⟩
  case round =>
    obtain ⟨k, ns, s, rfl, hk, hnl, hns, rfl, hsl, ho, hr, hm⟩ := hrel
    obtain ⟨va, vc, rfl⟩ := owns_slice ho
    have NSX := Lib.hid hns
    have SLX := Lib.hid hsl
    have RX := Lib.hid hr
    have MX := Lib.hid hm
    have TX := Lib.hid (hm.tp H.out)
    have NL := Lib.hid hnl
    rw [hnl] at ho ⊢
    have OX := Lib.hid ho
    clear hns hsl ho hr hm hnl
    by_cases hlt : k < n
    · have HLT := Lib.hid hlt
      have c3 : wr.cell? ⟨RB, 3, none⟩ = some (.int .i64 lo) := RX.out.cell 3 (by simp)
      have c4 : wr.cell? ⟨RB, 4, none⟩ = some (.int .i64 hi) := RX.out.cell 4 (by simp)
      have hh := has_of_cell c3
      have lh := LH.out
      have sl0 := SLX.out
      have w1 : IntKind.i64.wrap (lo - 1) = lo - 1 := Go.IntWalk.i64_in _ (by omega)
      have w2 : IntKind.i64.wrap (hi + 1) = hi + 1 := Go.IntWalk.i64_in _ (by omega)
      go_wp2_with fail
      have HP := Lib.hid (pickNew_any wr b len TX.out wr.heap.size rfl #[.int .i64 lo, .int .i64 hi, .int .i64 hi, .int .i64 (lo - 1), .int .i64 (hi + 1), .int .i64 lo] 6 [lo, hi, hi, lo - 1, hi + 1, lo] (fun x => -1 ≤ x ∧ x ≤ 4294967296) rfl rfl (by omega) (by omega) (by
        intro x hx
        simp only [List.mem_cons, List.not_mem_nil, or_false] at hx
        omega))
      refine HP.out.mono ?_
      clear HP
      rintro e w3 ⟨x, rfl, ⟨x0, x1⟩, hm⟩
      have M3 := Lib.hid (MX.out.trans hb hm)
      have O3 := Lib.hid (Mv.owns hm OX.out hb)
      have R3 := Lib.hid (hm.row RX.out NB.out)
      clear hm c3 c4 hh w1 w2
      obtain ⟨y, hy⟩ : ∃ y : Int, min 4294967295 (max 0 x) = y := ⟨_, rfl⟩
      have Y := Lib.hid (show 0 ≤ y ∧ y ≤ 4294967295 by omega)
      have OA := Lib.hid (O3.out.alloc (.cells #[.int .i64 y] 3))
      have NR := Lib.hid (row_cells (Row.new w3 #[.int .i64 y] 3))
      have S3 := Lib.hid M3.out.size
      clear O3
      go_wp2_with (at_builtin; refine wpList_append_own _ rfl _ _ 22 rfl w.heap.size 3 i0 (.int .i64 0) 1 8 Tryz.underlying22 hi' hz0 hz1 hz2 rfl (by decide) _ k (nums (ns.map (fun n : Nat => (n : Int)))) rfl OA.out ⟨w3.heap.size, 0, none⟩ 1 1 [.int .i64 y] rfl rfl NR.out (by intro u hu; rw [List.mem_singleton.1 hu]; rfl) (by unfold maxLen; have := NN.out; omega) (by have := NN.out; omega) (by have := S3.out; simp; omega) ?_; intro v' wz hown' hgrow htr'; have HOz := Lib.hid hown'; have HGz := Lib.hid hgrow; clear hown' hgrow htr')
      have MZ := Lib.hid ((M3.out.alloc (.cells #[.int .i64 y] 3)).grown HGz.out (fun j e => (owns_block OA.out j e).1))
      have RZ := Lib.hid ((R3.out.alloc (.cells #[.int .i64 y] 3)).kept HGz.out ((R3.out.alloc _).ty.ne OA.out (by decide)))
      clear HGz OA NR R3 M3
      have RT : Hid (Row (wz.alloc (.cells #[.string ⟨#[111, 107, 97, 121, 0]⟩, .string ⟨#[120, 0]⟩] 9)) wz.heap.size 9 (strV txt2)) := Lib.hid (Row.new wz #[.string ⟨#[111, 107, 97, 121, 0]⟩, .string ⟨#[120, 0]⟩] 9)
      obtain ⟨W4, hW4⟩ : ∃ W : World, Hid (W = wz.alloc (.cells #[.string ⟨#[111, 107, 97, 121, 0]⟩, .string ⟨#[120, 0]⟩] 9)) := ⟨_, Lib.hid rfl⟩
      have G4 : Hid (Gr wz W4) := Lib.hid (by rw [hW4.out]; exact (Gr.refl _).alloc _)
      have ZB : Hid (wz.heap.size ≠ b) := Lib.hid (by have := (MZ.out.tp H.out).has; omega)
      rw [← hW4.out] at RT ⊢
      clear hW4
      have M4 := Lib.hid (MZ.out.gr G4.out)
      have O4 := Lib.hid (Gr.owns HOz.out G4.out)
      have R4 := Lib.hid (RZ.out.gr G4.out)
      clear MZ HOz RZ
      refine (nM_any W4 b len 2 (M4.out.tp H.out) (by omega) (by omega)).mono ?_
      rintro e w5 ⟨j, rfl, ⟨j0, j1⟩, hm⟩
      have M5 := Lib.hid (M4.out.trans hb hm)
      have O5 := Lib.hid (Mv.owns hm O4.out hb)
      have R5 := Lib.hid (hm.row R4.out NB.out)
      have RT5 := Lib.hid (hm.row RT.out ZB.out)
      clear hm M4 O4 R4 RT
      obtain ⟨j, rfl⟩ := Int.eq_ofNat_of_zero_le j0
      have hj : j < txt2.length := by simp [txt2]; omega
      have cj := RT5.out.cell j (by simpa [strV] using hj)
      rw [strV_get hj] at cj
      have hh := has_of_cell cj
      have TL : Hid (txt2[j].length ≤ 5) := Lib.hid (by have : ∀ z ∈ txt2, z.length ≤ 5 := (by decide); exact this _ (List.getElem_mem hj))
      obtain ⟨z, hz⟩ : ∃ z, txt2[j] = z := ⟨_, rfl⟩
      rw [hz] at cj TL
      have tl5 := TL.out
      have k2 : ¬ (9223372036854775807 < s.length + z.length) := by have := NN.out; have := SLX.out; omega
      have j9 : (j : Int) < 2 := by omega
      have KW := Lib.hid (wrap_up (k := k) (by have := HLT.out; have := NN.out; omega))
      clear hz
      go_wp2_with fail
      go_roundw
      case rel =>
        refine ⟨k + 1, ns ++ [y.toNat], s ++ z, by rw [KW.out]; simp, by have := HLT.out; omega, by rw [List.length_append, NL.out]; rfl, fun u hu => ?_, by simp [bs_append], by have := SLX.out; rw [List.length_append]; omega, ?_, R5.out, M5.out⟩
        · rcases List.mem_append.1 hu with q | q
          · exact NSX.out u q
          · rw [List.mem_singleton.1 q]; have := Y.out; omega
        · have q := O5.out
          have my : max y 0 = y := by have := Y.out; omega
          rw [List.length_append, NL.out]
          simpa [nums, my] using q
      case measure => rw [KW.out]; exact meas_up HLT.out
    · obtain rfl : k = n := by omega
      go_wp2_with fail
      refine wp_at hT (by kernel_rfl) (fitS H MX RX NB HW WL NN KD OX (Lib.hid ⟨NL.out, NSX.out⟩) (Lib.hid (by have := SLX.out; have := NN.out; omega)))
theorem fit_any (r : Rul) (a : Option Addr) (c : Nat) (w : World) (b len : Nat) (h : Tp w b len) (hr : SmlF r) (hw : WAt w a r.words) (ha : ∀ A, a = some A → b < A.block) :
    Calls Tryz.prog 40 #[.pointer (some ⟨b, 0, none⟩), .agg #[.string (bs r.name), .bool r.req, .int .i64 r.kind, .int .i64 r.low, .int .i64 r.high, .int .i64 r.count, .slice a r.words.length c]] w (GivesFit b len w) := by
  have H := Lib.hid h
  have hb := h.has
  obtain ⟨name, req, kd, lo, hi, ct, ws⟩ := r
  obtain ⟨c0, LH, KD, WL⟩ := hr
  dsimp only at hw c0 LH KD WL ⊢
  have LH := Lib.hid LH
  have KD := Lib.hid KD
  have WL := Lib.hid WL
  have HW : Hid (∀ W2, Mv b len w W2 → SlOf 1 RS W2 a ws) := Lib.hid fun W2 hm => (hw.mv hm ha).sl
  clear h hw ha
  go_enter Tryz.func40, Tryz.ntmps40
  refine wp_cut 4 fun T hT => ?_
  simp only [cutAt]
  by_cases hz : ct = 0
  · subst hz
    go_upto_region 3 with (fail)
    have RB0 := Lib.hid (Row.new w #[.string (bs name), .bool req, .int .i64 kd, .int .i64 lo, .int .i64 hi, .int .i64 0, .slice a ws.length c] 51)
    obtain ⟨W, hW⟩ : ∃ W : World, Hid (W = w.alloc (.cells #[.string (bs name), .bool req, .int .i64 kd, .int .i64 lo, .int .i64 hi, .int .i64 0, .slice a ws.length c] 51)) := ⟨_, Lib.hid rfl⟩
    have GW : Hid (Gr w W) := Lib.hid (by rw [hW.out]; exact (Gr.refl _).alloc _)
    rw [← hW.out] at RB0 ⊢
    clear hW
    have M0 := Lib.hid (Mv.of_gr H.out GW.out)
    obtain ⟨RB, hRB⟩ : ∃ N : Nat, Hid (w.heap.size = N) := ⟨_, Lib.hid rfl⟩
    have NB : Hid (RB ≠ b) := Lib.hid (by have := hRB.out; omega)
    have SZ : Hid (w.heap.size ≤ RB) := Lib.hid (Nat.le_of_eq hRB.out)
    rw [hRB.out] at RB0 ⊢
    clear hRB
    go_wp2_with fail
    refine (rangeM_any W b len 1 2 (M0.out.tp H.out) (by omega) (by omega) (by omega)).mono ?_
    rintro e w1 ⟨m, rfl, ⟨m0, m1⟩, hm⟩
    have M1 := Lib.hid (M0.out.trans hb hm)
    have R1 := Lib.hid (hm.row RB0.out NB.out)
    clear hm
    go_wp2_with fail
    refine (nM_any w1 b len 8 (M1.out.tp H.out) (by omega) (by omega)).mono ?_
    rintro e w2 ⟨q, rfl, ⟨q0, q1⟩, hm⟩
    have M2 := Lib.hid (M1.out.trans hb hm)
    have R2 := Lib.hid (hm.row R1.out NB.out)
    clear hm
    by_cases h7 : q = 7
    · have e7 : (q == 7) = true := by rw [beq_iff_eq]; exact h7
      have w1' : IntKind.i64.wrap (m + 1) = m + 1 := Go.IntWalk.i64_in _ (by omega)
      obtain ⟨n, hn⟩ : ∃ n : Nat, m + 1 = (n : Int) := ⟨(m + 1).toNat, by omega⟩
      have NN : Hid (1 ≤ n ∧ n ≤ 3) := Lib.hid (by omega)
      have HN := Lib.hid hn
      clear hn h7
      go_wp2_with fail
      rw [HN.out]
      exact wp_at hT (by kernel_rfl) (fitL H M2 R2 NB HW WL NN KD LH SZ)
    · have e7 : (q == 7) = false := by rw [beq_eq_false_iff_ne]; exact h7
      obtain ⟨n, rfl⟩ : ∃ n : Nat, m = (n : Int) := ⟨m.toNat, by omega⟩
      have NN : Hid (1 ≤ n ∧ n ≤ 3) := Lib.hid (by omega)
      clear h7
      go_wp2_with fail
      exact wp_at hT (by kernel_rfl) (fitL H M2 R2 NB HW WL NN KD LH SZ)
  · have ez : (ct == 0) = false := by rw [beq_eq_false_iff_ne]; exact hz
    clear hz
    go_upto_region 4 with (fail)
    have RB0 := Lib.hid (Row.new w #[.string (bs name), .bool req, .int .i64 kd, .int .i64 lo, .int .i64 hi, .int .i64 ct, .slice a ws.length c] 51)
    obtain ⟨W, hW⟩ : ∃ W : World, Hid (W = w.alloc (.cells #[.string (bs name), .bool req, .int .i64 kd, .int .i64 lo, .int .i64 hi, .int .i64 ct, .slice a ws.length c] 51)) := ⟨_, Lib.hid rfl⟩
    have GW : Hid (Gr w W) := Lib.hid (by rw [hW.out]; exact (Gr.refl _).alloc _)
    rw [← hW.out] at RB0 ⊢
    clear hW
    have M0 := Lib.hid (Mv.of_gr H.out GW.out)
    obtain ⟨RB, hRB⟩ : ∃ N : Nat, Hid (w.heap.size = N) := ⟨_, Lib.hid rfl⟩
    have NB : Hid (RB ≠ b) := Lib.hid (by have := hRB.out; omega)
    have SZ : Hid (w.heap.size ≤ RB) := Lib.hid (Nat.le_of_eq hRB.out)
    rw [hRB.out] at RB0 ⊢
    clear hRB
    go_wp2_with fail
    refine (nM_any W b len 8 (M0.out.tp H.out) (by omega) (by omega)).mono ?_
    rintro e w2 ⟨q, rfl, ⟨q0, q1⟩, hm⟩
    have M2 := Lib.hid (M0.out.trans hb hm)
    have R2 := Lib.hid (hm.row RB0.out NB.out)
    clear hm
    have ez' : Hid (1 ≤ ct ∧ ct ≤ 2) := Lib.hid (by rw [beq_eq_false_iff_ne] at ez; omega)
    clear ez
    by_cases h7 : q = 7
    · have e7 : (q == 7) = true := by rw [beq_iff_eq]; exact h7
      have w1' : IntKind.i64.wrap (ct + 1) = ct + 1 := Go.IntWalk.i64_in _ (by have := ez'.out; omega)
      obtain ⟨n, hn⟩ : ∃ n : Nat, ct + 1 = (n : Int) := ⟨(ct + 1).toNat, by have := ez'.out; omega⟩
      have NN : Hid (1 ≤ n ∧ n ≤ 3) := Lib.hid (by have := ez'.out; omega)
      have HN := Lib.hid hn
      clear hn h7
      go_wp2_with fail
      rw [HN.out]
      exact wp_at hT (by kernel_rfl) (fitL H M2 R2 NB HW WL NN KD LH SZ)
    · have e7 : (q == 7) = false := by rw [beq_eq_false_iff_ne]; exact h7
      obtain ⟨n, hn⟩ : ∃ n : Nat, ct = (n : Int) := ⟨ct.toNat, by have := ez'.out; omega⟩
      have NN : Hid (1 ≤ n ∧ n ≤ 3) := Lib.hid (by have := ez'.out; omega)
      subst hn
      clear h7
      go_wp2_with fail
      exact wp_at hT (by kernel_rfl) (fitL H M2 R2 NB HW WL NN KD LH SZ)
end Go.Proofs.YtbpkndiecomggaaGreatDoor

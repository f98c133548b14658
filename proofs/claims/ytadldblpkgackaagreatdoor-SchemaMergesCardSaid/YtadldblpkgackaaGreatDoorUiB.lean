/- A statement of SchemaLines by an invariant (printed by wip/tools/sl20.py). -/
import Derived.Test.YtadldblpkgackaaGreatDoorUgC
set_option linter.unusedVariables false
set_option linter.unusedSimpArgs false
namespace Go.Proofs.YtadldblpkgackaaGreatDoor
open Go.RowKit
open Classical

theorem flatS_one {l : List SM} (h : ∀ s ∈ l, ∃ a n c, s.v = .slice a n c) : ∀ u ∈ l.flatMap SM.enc, u.oneCell' = true := by
  intro u hu
  obtain ⟨s, hs, q⟩ := List.mem_flatMap.1 hu
  obtain ⟨a, n, c, e⟩ := h s hs
  exact s.enc_one e u q
/-- What is known of each slot as soon as its operation is done. -/
def sl20SF (wr : World) (out : List SM) (g n c : Nat) (k : Nat) (t12 t71 t72 t73 t74 t75 t76 t77 t78 t79 t80 : Value) (d : Array Bool) (w : World) : Prop :=
  Gr wr w ∧ (d.getD 0 false = true → ∃ B, t71 = .slice (some ⟨B, 0, none⟩) 0 0 ∧ wr.heap.size ≤ B ∧ (d.getD 4 false = false → Row w B 24 [])) ∧
  (d.getD 1 false = true → t72 = .slice (some ⟨g, 0, none⟩) n c) ∧
  (d.getD 2 false = true → t73 = .int .i64 (k : Int)) ∧
  (d.getD 3 false = true → t74 = .slice (some ⟨g, 0, none⟩) k c) ∧
  (d.getD 4 false = true → ((d.getD 9 false = false → w.ownsRow wr.heap.size 24 3 t75 (0 + k) ([] ++ (out.take k).flatMap SM.enc)) ∧ d.getD 0 false = true)) ∧
  (d.getD 5 false = true → t76 = .slice (some ⟨g, 0, none⟩) n c) ∧
  (d.getD 6 false = true → t77 = .int .i64 (k : Int)) ∧
  (d.getD 7 false = true → t78 = .int .i64 ((k : Int) + 1)) ∧
  (d.getD 8 false = true → t79 = .slice (some ⟨g, (k + 1) * 3, none⟩) (n - (k + 1)) (c - (k + 1))) ∧
  (d.getD 9 false = true → (w.ownsRow wr.heap.size 24 3 t80 (0 + k + (n - (k + 1))) ([] ++ (out.take k).flatMap SM.enc ++ (out.drop (k + 1)).flatMap SM.enc) ∧ d.getD 4 false = true)) ∧
  (d.getD 10 false = true → (w.ownsRow wr.heap.size 24 3 t12 (0 + k + (n - (k + 1))) ([] ++ (out.take k).flatMap SM.enc ++ (out.drop (k + 1)).flatMap SM.enc) ∧ d.getD 9 false = true))
/-- The frame. -/
def sl20SA (g n c : Nat) (k : Nat) (t12 t71 t72 t73 t74 t75 t76 t77 t78 t79 t80 s0 s1 s2 s3 s5 s6 s7 s8 s9 s10 s13 s14 s15 s16 s17 s18 s19 s20 s21 s22 s23 s24 s25 s26 s27 s28 s29 s30 s31 s32 s33 s34 s35 s36 s37 s38 s39 s40 s41 s42 s43 s44 s45 s46 s47 s48 s49 s50 s51 s52 s53 s54 s55 s56 s57 s58 s59 s60 s61 s62 s63 s64 s65 s66 s67 s68 s69 s70 s81 s82 s83 s84 s85 s86 s87 s88 s89 s90 s91 s92 s93 s94 s95 s96 s97 s98 s99 s100 s101 s102 s103 s104 s105 s106 s107 s108 s109 s110 s111 s112 s113 s114 s115 s116 s117 s118 s119 s120 s121 s122 s123 s124 s125 s126 s127 s128 s129 s130 s131 s132 s133 s134 s135 s136 s137 s138 s139 s140 s141 s142 s143 s144 s145 s146 s147 s148 s149 s150 s151 s152 s153 s154 s155 s156 : Value) : Act := { tmps := #[s0, s1, s2, s3, .slice (some ⟨g, 0, none⟩) n c, s5, s6, s7, s8, s9, s10, .int .i64 (k : Int), t12, s13, s14, s15, s16, s17, s18, s19, s20, s21, s22, s23, s24, s25, s26, s27, s28, s29, s30, s31, s32, s33, s34, s35, s36, s37, s38, s39, s40, s41, s42, s43, s44, s45, s46, s47, s48, s49, s50, s51, s52, s53, s54, s55, s56, s57, s58, s59, s60, s61, s62, s63, s64, s65, s66, s67, s68, s69, s70, t71, t72, t73, t74, t75, t76, t77, t78, t79, t80, s81, s82, s83, s84, s85, s86, s87, s88, s89, s90, s91, s92, s93, s94, s95, s96, s97, s98, s99, s100, s101, s102, s103, s104, s105, s106, s107, s108, s109, s110, s111, s112, s113, s114, s115, s116, s117, s118, s119, s120, s121, s122, s123, s124, s125, s126, s127, s128, s129, s130, s131, s132, s133, s134, s135, s136, s137, s138, s139, s140, s141, s142, s143, s144, s145, s146, s147, s148, s149, s150, s151, s152, s153, s154, s155, s156], defers := [] }

set_option maxRecDepth 100000 in
set_option maxHeartbeats 4000000 in
theorem sl20S {Q : Exit → Act → World → Prop} {wr : World} {out : List SM} {g n c : Nat} {k : Nat}  {s0 s1 s2 s3 s5 s6 s7 s8 s9 s10 s12 s13 s14 s15 s16 s17 s18 s19 s20 s21 s22 s23 s24 s25 s26 s27 s28 s29 s30 s31 s32 s33 s34 s35 s36 s37 s38 s39 s40 s41 s42 s43 s44 s45 s46 s47 s48 s49 s50 s51 s52 s53 s54 s55 s56 s57 s58 s59 s60 s61 s62 s63 s64 s65 s66 s67 s68 s69 s70 s71 s72 s73 s74 s75 s76 s77 s78 s79 s80 s81 s82 s83 s84 s85 s86 s87 s88 s89 s90 s91 s92 s93 s94 s95 s96 s97 s98 s99 s100 s101 s102 s103 s104 s105 s106 s107 s108 s109 s110 s111 s112 s113 s114 s115 s116 s117 s118 s119 s120 s121 s122 s123 s124 s125 s126 s127 s128 s129 s130 s131 s132 s133 s134 s135 s136 s137 s138 s139 s140 s141 s142 s143 s144 s145 s146 s147 s148 s149 s150 s151 s152 s153 s154 s155 s156 : Value} (hk : k < n ∧ n ≤ c ∧ n ≤ 24) (hon : ∀ s ∈ out, ∃ a n c, s.v = .slice a n c) (hg1 : ∀ W, Gr wr W → Gets W (some ⟨g, 0, none⟩) k 3 ((out.take k).flatMap SM.enc)) (hg2 : ∀ W, Gr wr W → Gets W (some ⟨g, (k + 1) * 3, none⟩) ((n - (k + 1))) 3 ((out.drop (k + 1)).flatMap SM.enc)) (hkc : k + 1 < c)
    (h' : ∀ t12 t71 t72 t73 t74 t75 t76 t77 t78 t79 t80 wx, Gr wr wx → wx.ownsRow wr.heap.size 24 3 t12 (0 + k + (n - (k + 1))) ([] ++ (out.take k).flatMap SM.enc ++ (out.drop (k + 1)).flatMap SM.enc) → Q .normal (sl20SA g n c k t12 t71 t72 t73 t74 t75 t76 t77 t78 t79 t80 s0 s1 s2 s3 s5 s6 s7 s8 s9 s10 s13 s14 s15 s16 s17 s18 s19 s20 s21 s22 s23 s24 s25 s26 s27 s28 s29 s30 s31 s32 s33 s34 s35 s36 s37 s38 s39 s40 s41 s42 s43 s44 s45 s46 s47 s48 s49 s50 s51 s52 s53 s54 s55 s56 s57 s58 s59 s60 s61 s62 s63 s64 s65 s66 s67 s68 s69 s70 s81 s82 s83 s84 s85 s86 s87 s88 s89 s90 s91 s92 s93 s94 s95 s96 s97 s98 s99 s100 s101 s102 s103 s104 s105 s106 s107 s108 s109 s110 s111 s112 s113 s114 s115 s116 s117 s118 s119 s120 s121 s122 s123 s124 s125 s126 s127 s128 s129 s130 s131 s132 s133 s134 s135 s136 s137 s138 s139 s140 s141 s142 s143 s144 s145 s146 s147 s148 s149 s150 s151 s152 s153 s154 s155 s156) wx) :
    (Code.region 20 (regIn 20 Tryz.f5) true).wp Tryz.prog Q { tmps := #[s0, s1, s2, s3, .slice (some ⟨g, 0, none⟩) n c, s5, s6, s7, s8, s9, s10, .int .i64 (k : Int), s12, s13, s14, s15, s16, s17, s18, s19, s20, s21, s22, s23, s24, s25, s26, s27, s28, s29, s30, s31, s32, s33, s34, s35, s36, s37, s38, s39, s40, s41, s42, s43, s44, s45, s46, s47, s48, s49, s50, s51, s52, s53, s54, s55, s56, s57, s58, s59, s60, s61, s62, s63, s64, s65, s66, s67, s68, s69, s70, s71, s72, s73, s74, s75, s76, s77, s78, s79, s80, s81, s82, s83, s84, s85, s86, s87, s88, s89, s90, s91, s92, s93, s94, s95, s96, s97, s98, s99, s100, s101, s102, s103, s104, s105, s106, s107, s108, s109, s110, s111, s112, s113, s114, s115, s116, s117, s118, s119, s120, s121, s122, s123, s124, s125, s126, s127, s128, s129, s130, s131, s132, s133, s134, s135, s136, s137, s138, s139, s140, s141, s142, s143, s144, s145, s146, s147, s148, s149, s150, s151, s152, s153, s154, s155, s156], defers := [] } wr := by
  have HK2 := PLift.up hk
  have HON := PLift.up hon
  have HG1 := PLift.up hg1
  have HG2 := PLift.up hg2
  clear hk hon hg1 hg2
  have HKC := PLift.up hkc
  clear hkc
  obtain ⟨j0, hj, hy0, hy1, hy2⟩ := info_parts infoSch
  simp only [regIn, Tryz.f5, regOps, Option.bind_some, Option.getD_some, Nat.beq, cond_true, cond_false]
  refine wp_region_steps (fun done a w => ∃ t12 t71 t72 t73 t74 t75 t76 t77 t78 t79 t80, a = sl20SA g n c k t12 t71 t72 t73 t74 t75 t76 t77 t78 t79 t80 s0 s1 s2 s3 s5 s6 s7 s8 s9 s10 s13 s14 s15 s16 s17 s18 s19 s20 s21 s22 s23 s24 s25 s26 s27 s28 s29 s30 s31 s32 s33 s34 s35 s36 s37 s38 s39 s40 s41 s42 s43 s44 s45 s46 s47 s48 s49 s50 s51 s52 s53 s54 s55 s56 s57 s58 s59 s60 s61 s62 s63 s64 s65 s66 s67 s68 s69 s70 s81 s82 s83 s84 s85 s86 s87 s88 s89 s90 s91 s92 s93 s94 s95 s96 s97 s98 s99 s100 s101 s102 s103 s104 s105 s106 s107 s108 s109 s110 s111 s112 s113 s114 s115 s116 s117 s118 s119 s120 s121 s122 s123 s124 s125 s126 s127 s128 s129 s130 s131 s132 s133 s134 s135 s136 s137 s138 s139 s140 s141 s142 s143 s144 s145 s146 s147 s148 s149 s150 s151 s152 s153 s154 s155 s156 ∧ sl20SF wr out g n c k t12 t71 t72 t73 t74 t75 t76 t77 t78 t79 t80 done w) (by kernel_rfl) (by kernel_rfl) ?_ ⟨?_, ?_, ?_, ?_, ?_, ?_, ?_, ?_, ?_, ?_, ?_, trivial⟩ ?_
  · exact ⟨s12, s71, s72, s73, s74, s75, s76, s77, s78, s79, s80, rfl, (Gr.refl _).drew, fun q => absurd q (by decide), fun q => absurd q (by decide), fun q => absurd q (by decide), fun q => absurd q (by decide), fun q => absurd q (by decide), fun q => absurd q (by decide), fun q => absurd q (by decide), fun q => absurd q (by decide), fun q => absurd q (by decide), fun q => absurd q (by decide), fun q => absurd q (by decide)⟩
  · rintro done a w hsz hnot hdep ⟨t12, t71, t72, t73, t74, t75, t76, t77, t78, t79, t80, rfl, gw, f0, f1, f2, f3, f4, f5, f6, f7, f8, f9, f10⟩ K hK
    have hn : ¬ done.getD 0 false = true := by rw [getD_both hnot]; decide
    have GS := PLift.up gw.size
    have HK := PLift.up hK
    clear hK 
    simp only [sl20SA]
    go_simp
    have gg : Gr w (w.alloc (.cells #[] 24)) := (Gr.refl _).alloc _
    refine HK.down _ _ ⟨_, _, _, _, _, _, _, _, _, _, _, rfl, gw.trans gg, ?_, fun q => f1 (done_old q (by decide)), fun q => f2 (done_old q (by decide)), fun q => f3 (done_old q (by decide)), fun q => absurd (f4 (done_old q (by decide))).2 hn, fun q => f5 (done_old q (by decide)), fun q => f6 (done_old q (by decide)), fun q => f7 (done_old q (by decide)), fun q => f8 (done_old q (by decide)), fun q => (let h := f9 (done_old q (by decide)); ⟨Gr.owns h.1 gg, getD_set_true h.2⟩), fun q => (let h := f10 (done_old q (by decide)); ⟨Gr.owns h.1 gg, getD_set_true h.2⟩)⟩
    exact fun _ => ⟨_, rfl, GS.down, fun _ => Row.new w #[] _⟩
  · rintro done a w hsz hnot hdep ⟨t12, t71, t72, t73, t74, t75, t76, t77, t78, t79, t80, rfl, gw, f0, f1, f2, f3, f4, f5, f6, f7, f8, f9, f10⟩ K hK
    have hn : ¬ done.getD 1 false = true := by rw [getD_both hnot]; decide
    have HK := PLift.up hK
    clear hK 
    simp only [sl20SA]
    go_simp
    have gg : Gr w w := Gr.refl _
    refine HK.down _ _ ⟨_, _, _, _, _, _, _, _, _, _, _, rfl, gw, fun q => (let ⟨B, e, h1, h2⟩ := f0 (done_old q (by decide)); ⟨B, e, h1, fun q2 => (h2 (by rw [getD_set_ne false (by decide)] at q2; exact q2)).gr gg⟩), fun _ => rfl, fun q => f2 (done_old q (by decide)), fun q => f3 (done_old q (by decide)), fun q => ⟨fun q2 => Gr.owns ((f4 (done_old q (by decide))).1 (by rw [getD_set_ne false (by decide)] at q2; exact q2)) gg, getD_set_true (f4 (done_old q (by decide))).2⟩, fun q => f5 (done_old q (by decide)), fun q => f6 (done_old q (by decide)), fun q => f7 (done_old q (by decide)), fun q => f8 (done_old q (by decide)), fun q => (let h := f9 (done_old q (by decide)); ⟨Gr.owns h.1 gg, getD_set_true h.2⟩), fun q => (let h := f10 (done_old q (by decide)); ⟨Gr.owns h.1 gg, getD_set_true h.2⟩)⟩
  · rintro done a w hsz hnot hdep ⟨t12, t71, t72, t73, t74, t75, t76, t77, t78, t79, t80, rfl, gw, f0, f1, f2, f3, f4, f5, f6, f7, f8, f9, f10⟩ K hK
    have hn : ¬ done.getD 2 false = true := by rw [getD_both hnot]; decide
    have HK := PLift.up hK
    clear hK 
    simp only [sl20SA]
    go_simp
    have gg : Gr w w := Gr.refl _
    refine HK.down _ _ ⟨_, _, _, _, _, _, _, _, _, _, _, rfl, gw, fun q => (let ⟨B, e, h1, h2⟩ := f0 (done_old q (by decide)); ⟨B, e, h1, fun q2 => (h2 (by rw [getD_set_ne false (by decide)] at q2; exact q2)).gr gg⟩), fun q => f1 (done_old q (by decide)), fun _ => rfl, fun q => f3 (done_old q (by decide)), fun q => ⟨fun q2 => Gr.owns ((f4 (done_old q (by decide))).1 (by rw [getD_set_ne false (by decide)] at q2; exact q2)) gg, getD_set_true (f4 (done_old q (by decide))).2⟩, fun q => f5 (done_old q (by decide)), fun q => f6 (done_old q (by decide)), fun q => f7 (done_old q (by decide)), fun q => f8 (done_old q (by decide)), fun q => (let h := f9 (done_old q (by decide)); ⟨Gr.owns h.1 gg, getD_set_true h.2⟩), fun q => (let h := f10 (done_old q (by decide)); ⟨Gr.owns h.1 gg, getD_set_true h.2⟩)⟩
  · rintro done a w hsz hnot hdep ⟨t12, t71, t72, t73, t74, t75, t76, t77, t78, t79, t80, rfl, gw, f0, f1, f2, f3, f4, f5, f6, f7, f8, f9, f10⟩ K hK
    have hn : ¬ done.getD 3 false = true := by rw [getD_both hnot]; decide
    have d1 := hdep 1 (by kernel_rfl)
    have d2 := hdep 2 (by kernel_rfl)
    obtain rfl := f1 d1
    obtain rfl := f2 d2
    have hk := HK2.down
    have k1 : (k : Int) ≤ c := by omega
    have k2 : (k : Int) ≤ n := by omega
    have HK := PLift.up hK
    clear hK d1 d2
    simp only [sl20SA]
    go_simp
    have gg : Gr w w := Gr.refl _
    refine HK.down _ _ ⟨_, _, _, _, _, _, _, _, _, _, _, rfl, gw, fun q => (let ⟨B, e, h1, h2⟩ := f0 (done_old q (by decide)); ⟨B, e, h1, fun q2 => (h2 (by rw [getD_set_ne false (by decide)] at q2; exact q2)).gr gg⟩), fun q => f1 (done_old q (by decide)), fun q => f2 (done_old q (by decide)), fun _ => rfl, fun q => ⟨fun q2 => Gr.owns ((f4 (done_old q (by decide))).1 (by rw [getD_set_ne false (by decide)] at q2; exact q2)) gg, getD_set_true (f4 (done_old q (by decide))).2⟩, fun q => f5 (done_old q (by decide)), fun q => f6 (done_old q (by decide)), fun q => f7 (done_old q (by decide)), fun q => f8 (done_old q (by decide)), fun q => (let h := f9 (done_old q (by decide)); ⟨Gr.owns h.1 gg, getD_set_true h.2⟩), fun q => (let h := f10 (done_old q (by decide)); ⟨Gr.owns h.1 gg, getD_set_true h.2⟩)⟩
  · rintro done a w hsz hnot hdep ⟨t12, t71, t72, t73, t74, t75, t76, t77, t78, t79, t80, rfl, gw, f0, f1, f2, f3, f4, f5, f6, f7, f8, f9, f10⟩ K hK
    have hn : ¬ done.getD 4 false = true := by rw [getD_both hnot]; decide
    have d0 := hdep 0 (by kernel_rfl)
    have d3 := hdep 3 (by kernel_rfl)
    obtain rfl := f3 d3
    have n4 := getD_both hnot
    obtain ⟨B, rfl, hB, h2⟩ := f0 d0
    have rB := h2 n4
    have D0 := PLift.up d0
    refine step_append_gets _ rfl _ _ 29 rfl wr.heap.size 24 j0 (.agg #[.string (bs []), .bool false, .slice none 0 0]) 3 48 Tryz.underlying29 hj hy0 hy1 hy2 rfl (by decide) (.slice (some ⟨B, 0, none⟩) 0 0) 0 [] (by simp [Act.eval, sl20SA]) (row_owns rB hB rfl (by unfold maxLen; omega)) (some ⟨g, 0, none⟩) (k) (c) ((out.take k).flatMap SM.enc) (by simp [Act.eval, sl20SA]) (HG1.down w gw) (flatS_one (fun s hs => HON.down s (List.mem_of_mem_take hs))) (by unfold maxLen; have := HK2.down; omega) (by have := HK2.down; omega) (by have := gw.size; omega) ?_
    intro v w2 hown hgrow hloc
    have gg : Gr wr w2 := gw.grown hgrow (fun j e => by cases e; exact hB)
    refine hK _ _ ⟨_, _, _, _, _, _, _, _, _, _, _, rfl, gg, fun _ => ⟨B, rfl, hB, fun q2 => absurd q2 (by rw [getD_set_same (by rw [hsz]; decide)]; decide)⟩, fun q => f1 (done_old q (by decide)), fun q => f2 (done_old q (by decide)), fun q => f3 (done_old q (by decide)), ?_, fun q => f5 (done_old q (by decide)), fun q => f6 (done_old q (by decide)), fun q => f7 (done_old q (by decide)), fun q => f8 (done_old q (by decide)), fun q => absurd (f9 (done_old q (by decide))).2 hn, fun q => absurd (f9 (by have := (f10 (done_old q (by decide))).2; exact this)).2 hn⟩
    exact fun _ => ⟨fun _ => hown, getD_set_true D0.down⟩
  · rintro done a w hsz hnot hdep ⟨t12, t71, t72, t73, t74, t75, t76, t77, t78, t79, t80, rfl, gw, f0, f1, f2, f3, f4, f5, f6, f7, f8, f9, f10⟩ K hK
    have hn : ¬ done.getD 5 false = true := by rw [getD_both hnot]; decide
    have HK := PLift.up hK
    clear hK 
    simp only [sl20SA]
    go_simp
    have gg : Gr w w := Gr.refl _
    refine HK.down _ _ ⟨_, _, _, _, _, _, _, _, _, _, _, rfl, gw, fun q => (let ⟨B, e, h1, h2⟩ := f0 (done_old q (by decide)); ⟨B, e, h1, fun q2 => (h2 (by rw [getD_set_ne false (by decide)] at q2; exact q2)).gr gg⟩), fun q => f1 (done_old q (by decide)), fun q => f2 (done_old q (by decide)), fun q => f3 (done_old q (by decide)), fun q => ⟨fun q2 => Gr.owns ((f4 (done_old q (by decide))).1 (by rw [getD_set_ne false (by decide)] at q2; exact q2)) gg, getD_set_true (f4 (done_old q (by decide))).2⟩, fun _ => rfl, fun q => f6 (done_old q (by decide)), fun q => f7 (done_old q (by decide)), fun q => f8 (done_old q (by decide)), fun q => (let h := f9 (done_old q (by decide)); ⟨Gr.owns h.1 gg, getD_set_true h.2⟩), fun q => (let h := f10 (done_old q (by decide)); ⟨Gr.owns h.1 gg, getD_set_true h.2⟩)⟩
  · rintro done a w hsz hnot hdep ⟨t12, t71, t72, t73, t74, t75, t76, t77, t78, t79, t80, rfl, gw, f0, f1, f2, f3, f4, f5, f6, f7, f8, f9, f10⟩ K hK
    have hn : ¬ done.getD 6 false = true := by rw [getD_both hnot]; decide
    have HK := PLift.up hK
    clear hK 
    simp only [sl20SA]
    go_simp
    have gg : Gr w w := Gr.refl _
    refine HK.down _ _ ⟨_, _, _, _, _, _, _, _, _, _, _, rfl, gw, fun q => (let ⟨B, e, h1, h2⟩ := f0 (done_old q (by decide)); ⟨B, e, h1, fun q2 => (h2 (by rw [getD_set_ne false (by decide)] at q2; exact q2)).gr gg⟩), fun q => f1 (done_old q (by decide)), fun q => f2 (done_old q (by decide)), fun q => f3 (done_old q (by decide)), fun q => ⟨fun q2 => Gr.owns ((f4 (done_old q (by decide))).1 (by rw [getD_set_ne false (by decide)] at q2; exact q2)) gg, getD_set_true (f4 (done_old q (by decide))).2⟩, fun q => f5 (done_old q (by decide)), fun _ => rfl, fun q => f7 (done_old q (by decide)), fun q => f8 (done_old q (by decide)), fun q => (let h := f9 (done_old q (by decide)); ⟨Gr.owns h.1 gg, getD_set_true h.2⟩), fun q => (let h := f10 (done_old q (by decide)); ⟨Gr.owns h.1 gg, getD_set_true h.2⟩)⟩
  · rintro done a w hsz hnot hdep ⟨t12, t71, t72, t73, t74, t75, t76, t77, t78, t79, t80, rfl, gw, f0, f1, f2, f3, f4, f5, f6, f7, f8, f9, f10⟩ K hK
    have hn : ¬ done.getD 7 false = true := by rw [getD_both hnot]; decide
    have d6 := hdep 6 (by kernel_rfl)
    obtain rfl := f6 d6
    have HK := PLift.up hK
    clear hK d6
    simp only [sl20SA]
    go_simp
    rw [Go.IntWalk.i64_in ((k : Int) + 1) (by have := HK2.down; omega)]
    have gg : Gr w w := Gr.refl _
    refine HK.down _ _ ⟨_, _, _, _, _, _, _, _, _, _, _, rfl, gw, fun q => (let ⟨B, e, h1, h2⟩ := f0 (done_old q (by decide)); ⟨B, e, h1, fun q2 => (h2 (by rw [getD_set_ne false (by decide)] at q2; exact q2)).gr gg⟩), fun q => f1 (done_old q (by decide)), fun q => f2 (done_old q (by decide)), fun q => f3 (done_old q (by decide)), fun q => ⟨fun q2 => Gr.owns ((f4 (done_old q (by decide))).1 (by rw [getD_set_ne false (by decide)] at q2; exact q2)) gg, getD_set_true (f4 (done_old q (by decide))).2⟩, fun q => f5 (done_old q (by decide)), fun q => f6 (done_old q (by decide)), fun _ => rfl, fun q => f8 (done_old q (by decide)), fun q => (let h := f9 (done_old q (by decide)); ⟨Gr.owns h.1 gg, getD_set_true h.2⟩), fun q => (let h := f10 (done_old q (by decide)); ⟨Gr.owns h.1 gg, getD_set_true h.2⟩)⟩
  · rintro done a w hsz hnot hdep ⟨t12, t71, t72, t73, t74, t75, t76, t77, t78, t79, t80, rfl, gw, f0, f1, f2, f3, f4, f5, f6, f7, f8, f9, f10⟩ K hK
    have hn : ¬ done.getD 8 false = true := by rw [getD_both hnot]; decide
    have d5 := hdep 5 (by kernel_rfl)
    have d7 := hdep 7 (by kernel_rfl)
    obtain rfl := f5 d5
    obtain rfl := f7 d7
    have hk := HK2.down
    have kx := HKC.down
    have k1 : (k : Int) + 1 ≤ n := by omega
    have k2 : (n : Int) ≤ c := by omega
    have k3 : ¬ c - (k + 1) = 0 := by omega
    have k4 : ¬ c = k + 1 := by omega
    have HK := PLift.up hK
    clear hK d5 d7
    simp only [sl20SA]
    go_simp
    have gg : Gr w w := Gr.refl _
    refine HK.down _ _ ⟨_, _, _, _, _, _, _, _, _, _, _, rfl, gw, fun q => (let ⟨B, e, h1, h2⟩ := f0 (done_old q (by decide)); ⟨B, e, h1, fun q2 => (h2 (by rw [getD_set_ne false (by decide)] at q2; exact q2)).gr gg⟩), fun q => f1 (done_old q (by decide)), fun q => f2 (done_old q (by decide)), fun q => f3 (done_old q (by decide)), fun q => ⟨fun q2 => Gr.owns ((f4 (done_old q (by decide))).1 (by rw [getD_set_ne false (by decide)] at q2; exact q2)) gg, getD_set_true (f4 (done_old q (by decide))).2⟩, fun q => f5 (done_old q (by decide)), fun q => f6 (done_old q (by decide)), fun q => f7 (done_old q (by decide)), fun _ => rfl, fun q => (let h := f9 (done_old q (by decide)); ⟨Gr.owns h.1 gg, getD_set_true h.2⟩), fun q => (let h := f10 (done_old q (by decide)); ⟨Gr.owns h.1 gg, getD_set_true h.2⟩)⟩
  · rintro done a w hsz hnot hdep ⟨t12, t71, t72, t73, t74, t75, t76, t77, t78, t79, t80, rfl, gw, f0, f1, f2, f3, f4, f5, f6, f7, f8, f9, f10⟩ K hK
    have hn : ¬ done.getD 9 false = true := by rw [getD_both hnot]; decide
    have d4 := hdep 4 (by kernel_rfl)
    have d8 := hdep 8 (by kernel_rfl)
    obtain rfl := f8 d8
    have n9 := getD_both hnot
    have o4 := (f4 d4).1 n9
    have D4 := PLift.up d4
    obtain ⟨a5, c5, e5⟩ := owns_slice o4
    subst e5
    refine step_append_gets _ rfl _ _ 29 rfl wr.heap.size 24 j0 (.agg #[.string (bs []), .bool false, .slice none 0 0]) 3 48 Tryz.underlying29 hj hy0 hy1 hy2 rfl (by decide) (.slice a5 (0 + k) c5) (0 + k) ([] ++ (out.take k).flatMap SM.enc) (by simp [Act.eval, sl20SA]) o4 (some ⟨g, (k + 1) * 3, none⟩) ((n - (k + 1))) ((c - (k + 1))) ((out.drop (k + 1)).flatMap SM.enc) (by simp [Act.eval, sl20SA]) (HG2.down w gw) (flatS_one (fun s hs => HON.down s (List.mem_of_mem_drop hs))) (by unfold maxLen; have := HK2.down; omega) (by have := HK2.down; omega) (by have := gw.size; omega) ?_
    intro v w2 hown hgrow hloc
    have gg : Gr wr w2 := gw.grown hgrow (fun j e => (o4.lt j e).1)
    refine hK _ _ ⟨_, _, _, _, _, _, _, _, _, _, _, rfl, gg, fun q => (let ⟨B, e, h1, h2⟩ := f0 (done_old q (by decide)); ⟨B, e, h1, fun q2 => absurd (getD_set_true D4.down) (by rw [q2]; decide)⟩), fun q => f1 (done_old q (by decide)), fun q => f2 (done_old q (by decide)), fun q => f3 (done_old q (by decide)), fun _ => ⟨fun q2 => absurd q2 (by rw [getD_set_same (by rw [hsz]; decide)]; decide), getD_set_true (f4 d4).2⟩, fun q => f5 (done_old q (by decide)), fun q => f6 (done_old q (by decide)), fun q => f7 (done_old q (by decide)), fun q => f8 (done_old q (by decide)), ?_, fun q => absurd (f10 (done_old q (by decide))).2 hn⟩
    exact fun _ => ⟨hown, getD_set_true D4.down⟩
  · rintro done a w hsz hnot hdep ⟨t12, t71, t72, t73, t74, t75, t76, t77, t78, t79, t80, rfl, gw, f0, f1, f2, f3, f4, f5, f6, f7, f8, f9, f10⟩ K hK
    have hn : ¬ done.getD 10 false = true := by rw [getD_both hnot]; decide
    have d9 := hdep 9 (by kernel_rfl)
    have O9 := PLift.up (f9 d9).1
    have D9 := PLift.up d9
    have HK := PLift.up hK
    clear hK 
    simp only [sl20SA]
    go_simp
    have gg : Gr w w := Gr.refl _
    refine HK.down _ _ ⟨_, _, _, _, _, _, _, _, _, _, _, rfl, gw, fun q => (let ⟨B, e, h1, h2⟩ := f0 (done_old q (by decide)); ⟨B, e, h1, fun q2 => (h2 (by rw [getD_set_ne false (by decide)] at q2; exact q2)).gr gg⟩), fun q => f1 (done_old q (by decide)), fun q => f2 (done_old q (by decide)), fun q => f3 (done_old q (by decide)), fun q => ⟨fun q2 => Gr.owns ((f4 (done_old q (by decide))).1 (by rw [getD_set_ne false (by decide)] at q2; exact q2)) gg, getD_set_true (f4 (done_old q (by decide))).2⟩, fun q => f5 (done_old q (by decide)), fun q => f6 (done_old q (by decide)), fun q => f7 (done_old q (by decide)), fun q => f8 (done_old q (by decide)), fun _ => ⟨O9.down, getD_set_true (f9 D9.down).2⟩, ?_⟩
    exact fun _ => ⟨O9.down, getD_set_true D9.down⟩
  · rintro done a w hall ⟨t12, t71, t72, t73, t74, t75, t76, t77, t78, t79, t80, rfl, gw, f0, f1, f2, f3, f4, f5, f6, f7, f8, f9, f10⟩
    exact h' _ _ _ _ _ _ _ _ _ _ _ w gw (f10 (hall 10 (by decide))).1
/-- What is known of each slot as soon as its operation is done. -/
def sl20EF (wr : World) (out : List SM) (g : Nat) (k : Nat) (t12 t71 t72 t73 t74 t75 t76 t77 t78 t79 t80 : Value) (d : Array Bool) (w : World) : Prop :=
  Gr wr w ∧ (d.getD 0 false = true → ∃ B, t71 = .slice (some ⟨B, 0, none⟩) 0 0 ∧ wr.heap.size ≤ B ∧ (d.getD 4 false = false → Row w B 24 [])) ∧
  (d.getD 1 false = true → t72 = .slice (some ⟨g, 0, none⟩) (k + 1) (k + 1)) ∧
  (d.getD 2 false = true → t73 = .int .i64 (k : Int)) ∧
  (d.getD 3 false = true → t74 = .slice (some ⟨g, 0, none⟩) k (k + 1)) ∧
  (d.getD 4 false = true → ((d.getD 9 false = false → w.ownsRow wr.heap.size 24 3 t75 (0 + k) ([] ++ (out.take k).flatMap SM.enc)) ∧ d.getD 0 false = true)) ∧
  (d.getD 5 false = true → t76 = .slice (some ⟨g, 0, none⟩) (k + 1) (k + 1)) ∧
  (d.getD 6 false = true → t77 = .int .i64 (k : Int)) ∧
  (d.getD 7 false = true → t78 = .int .i64 ((k : Int) + 1)) ∧
  (d.getD 8 false = true → t79 = .slice (some ⟨g, 0, none⟩) 0 0) ∧
  (d.getD 9 false = true → (w.ownsRow wr.heap.size 24 3 t80 (0 + k + 0) ([] ++ (out.take k).flatMap SM.enc ++ (out.drop (k + 1)).flatMap SM.enc) ∧ d.getD 4 false = true)) ∧
  (d.getD 10 false = true → (w.ownsRow wr.heap.size 24 3 t12 (0 + k + 0) ([] ++ (out.take k).flatMap SM.enc ++ (out.drop (k + 1)).flatMap SM.enc) ∧ d.getD 9 false = true))
/-- The frame. -/
def sl20EA (g : Nat) (k : Nat) (t12 t71 t72 t73 t74 t75 t76 t77 t78 t79 t80 s0 s1 s2 s3 s5 s6 s7 s8 s9 s10 s13 s14 s15 s16 s17 s18 s19 s20 s21 s22 s23 s24 s25 s26 s27 s28 s29 s30 s31 s32 s33 s34 s35 s36 s37 s38 s39 s40 s41 s42 s43 s44 s45 s46 s47 s48 s49 s50 s51 s52 s53 s54 s55 s56 s57 s58 s59 s60 s61 s62 s63 s64 s65 s66 s67 s68 s69 s70 s81 s82 s83 s84 s85 s86 s87 s88 s89 s90 s91 s92 s93 s94 s95 s96 s97 s98 s99 s100 s101 s102 s103 s104 s105 s106 s107 s108 s109 s110 s111 s112 s113 s114 s115 s116 s117 s118 s119 s120 s121 s122 s123 s124 s125 s126 s127 s128 s129 s130 s131 s132 s133 s134 s135 s136 s137 s138 s139 s140 s141 s142 s143 s144 s145 s146 s147 s148 s149 s150 s151 s152 s153 s154 s155 s156 : Value) : Act := { tmps := #[s0, s1, s2, s3, .slice (some ⟨g, 0, none⟩) (k + 1) (k + 1), s5, s6, s7, s8, s9, s10, .int .i64 (k : Int), t12, s13, s14, s15, s16, s17, s18, s19, s20, s21, s22, s23, s24, s25, s26, s27, s28, s29, s30, s31, s32, s33, s34, s35, s36, s37, s38, s39, s40, s41, s42, s43, s44, s45, s46, s47, s48, s49, s50, s51, s52, s53, s54, s55, s56, s57, s58, s59, s60, s61, s62, s63, s64, s65, s66, s67, s68, s69, s70, t71, t72, t73, t74, t75, t76, t77, t78, t79, t80, s81, s82, s83, s84, s85, s86, s87, s88, s89, s90, s91, s92, s93, s94, s95, s96, s97, s98, s99, s100, s101, s102, s103, s104, s105, s106, s107, s108, s109, s110, s111, s112, s113, s114, s115, s116, s117, s118, s119, s120, s121, s122, s123, s124, s125, s126, s127, s128, s129, s130, s131, s132, s133, s134, s135, s136, s137, s138, s139, s140, s141, s142, s143, s144, s145, s146, s147, s148, s149, s150, s151, s152, s153, s154, s155, s156], defers := [] }

set_option maxRecDepth 100000 in
set_option maxHeartbeats 4000000 in
theorem sl20E {Q : Exit → Act → World → Prop} {wr : World} {out : List SM} {g : Nat} {k : Nat}  {s0 s1 s2 s3 s5 s6 s7 s8 s9 s10 s12 s13 s14 s15 s16 s17 s18 s19 s20 s21 s22 s23 s24 s25 s26 s27 s28 s29 s30 s31 s32 s33 s34 s35 s36 s37 s38 s39 s40 s41 s42 s43 s44 s45 s46 s47 s48 s49 s50 s51 s52 s53 s54 s55 s56 s57 s58 s59 s60 s61 s62 s63 s64 s65 s66 s67 s68 s69 s70 s71 s72 s73 s74 s75 s76 s77 s78 s79 s80 s81 s82 s83 s84 s85 s86 s87 s88 s89 s90 s91 s92 s93 s94 s95 s96 s97 s98 s99 s100 s101 s102 s103 s104 s105 s106 s107 s108 s109 s110 s111 s112 s113 s114 s115 s116 s117 s118 s119 s120 s121 s122 s123 s124 s125 s126 s127 s128 s129 s130 s131 s132 s133 s134 s135 s136 s137 s138 s139 s140 s141 s142 s143 s144 s145 s146 s147 s148 s149 s150 s151 s152 s153 s154 s155 s156 : Value} (hk : k < k + 1 ∧ k + 1 ≤ k + 1 ∧ k + 1 ≤ 24) (hon : ∀ s ∈ out, ∃ a1 n1 c1, s.v = .slice a1 n1 c1) (hg1 : ∀ W, Gr wr W → Gets W (some ⟨g, 0, none⟩) k 3 ((out.take k).flatMap SM.enc)) (hg2 : ∀ W, Gr wr W → Gets W (some ⟨g, 0, none⟩) (0) 3 ((out.drop (k + 1)).flatMap SM.enc))
    (h' : ∀ t12 t71 t72 t73 t74 t75 t76 t77 t78 t79 t80 wx, Gr wr wx → wx.ownsRow wr.heap.size 24 3 t12 (0 + k + 0) ([] ++ (out.take k).flatMap SM.enc ++ (out.drop (k + 1)).flatMap SM.enc) → Q .normal (sl20EA g k t12 t71 t72 t73 t74 t75 t76 t77 t78 t79 t80 s0 s1 s2 s3 s5 s6 s7 s8 s9 s10 s13 s14 s15 s16 s17 s18 s19 s20 s21 s22 s23 s24 s25 s26 s27 s28 s29 s30 s31 s32 s33 s34 s35 s36 s37 s38 s39 s40 s41 s42 s43 s44 s45 s46 s47 s48 s49 s50 s51 s52 s53 s54 s55 s56 s57 s58 s59 s60 s61 s62 s63 s64 s65 s66 s67 s68 s69 s70 s81 s82 s83 s84 s85 s86 s87 s88 s89 s90 s91 s92 s93 s94 s95 s96 s97 s98 s99 s100 s101 s102 s103 s104 s105 s106 s107 s108 s109 s110 s111 s112 s113 s114 s115 s116 s117 s118 s119 s120 s121 s122 s123 s124 s125 s126 s127 s128 s129 s130 s131 s132 s133 s134 s135 s136 s137 s138 s139 s140 s141 s142 s143 s144 s145 s146 s147 s148 s149 s150 s151 s152 s153 s154 s155 s156) wx) :
    (Code.region 20 (regIn 20 Tryz.f5) true).wp Tryz.prog Q { tmps := #[s0, s1, s2, s3, .slice (some ⟨g, 0, none⟩) (k + 1) (k + 1), s5, s6, s7, s8, s9, s10, .int .i64 (k : Int), s12, s13, s14, s15, s16, s17, s18, s19, s20, s21, s22, s23, s24, s25, s26, s27, s28, s29, s30, s31, s32, s33, s34, s35, s36, s37, s38, s39, s40, s41, s42, s43, s44, s45, s46, s47, s48, s49, s50, s51, s52, s53, s54, s55, s56, s57, s58, s59, s60, s61, s62, s63, s64, s65, s66, s67, s68, s69, s70, s71, s72, s73, s74, s75, s76, s77, s78, s79, s80, s81, s82, s83, s84, s85, s86, s87, s88, s89, s90, s91, s92, s93, s94, s95, s96, s97, s98, s99, s100, s101, s102, s103, s104, s105, s106, s107, s108, s109, s110, s111, s112, s113, s114, s115, s116, s117, s118, s119, s120, s121, s122, s123, s124, s125, s126, s127, s128, s129, s130, s131, s132, s133, s134, s135, s136, s137, s138, s139, s140, s141, s142, s143, s144, s145, s146, s147, s148, s149, s150, s151, s152, s153, s154, s155, s156], defers := [] } wr := by
  have HK2 := PLift.up hk
  have HON := PLift.up hon
  have HG1 := PLift.up hg1
  have HG2 := PLift.up hg2
  clear hk hon hg1 hg2
  obtain ⟨j0, hj, hy0, hy1, hy2⟩ := info_parts infoSch
  simp only [regIn, Tryz.f5, regOps, Option.bind_some, Option.getD_some, Nat.beq, cond_true, cond_false]
  refine wp_region_steps (fun done a w => ∃ t12 t71 t72 t73 t74 t75 t76 t77 t78 t79 t80, a = sl20EA g k t12 t71 t72 t73 t74 t75 t76 t77 t78 t79 t80 s0 s1 s2 s3 s5 s6 s7 s8 s9 s10 s13 s14 s15 s16 s17 s18 s19 s20 s21 s22 s23 s24 s25 s26 s27 s28 s29 s30 s31 s32 s33 s34 s35 s36 s37 s38 s39 s40 s41 s42 s43 s44 s45 s46 s47 s48 s49 s50 s51 s52 s53 s54 s55 s56 s57 s58 s59 s60 s61 s62 s63 s64 s65 s66 s67 s68 s69 s70 s81 s82 s83 s84 s85 s86 s87 s88 s89 s90 s91 s92 s93 s94 s95 s96 s97 s98 s99 s100 s101 s102 s103 s104 s105 s106 s107 s108 s109 s110 s111 s112 s113 s114 s115 s116 s117 s118 s119 s120 s121 s122 s123 s124 s125 s126 s127 s128 s129 s130 s131 s132 s133 s134 s135 s136 s137 s138 s139 s140 s141 s142 s143 s144 s145 s146 s147 s148 s149 s150 s151 s152 s153 s154 s155 s156 ∧ sl20EF wr out g k t12 t71 t72 t73 t74 t75 t76 t77 t78 t79 t80 done w) (by kernel_rfl) (by kernel_rfl) ?_ ⟨?_, ?_, ?_, ?_, ?_, ?_, ?_, ?_, ?_, ?_, ?_, trivial⟩ ?_
  · exact ⟨s12, s71, s72, s73, s74, s75, s76, s77, s78, s79, s80, rfl, (Gr.refl _).drew, fun q => absurd q (by decide), fun q => absurd q (by decide), fun q => absurd q (by decide), fun q => absurd q (by decide), fun q => absurd q (by decide), fun q => absurd q (by decide), fun q => absurd q (by decide), fun q => absurd q (by decide), fun q => absurd q (by decide), fun q => absurd q (by decide), fun q => absurd q (by decide)⟩
  · rintro done a w hsz hnot hdep ⟨t12, t71, t72, t73, t74, t75, t76, t77, t78, t79, t80, rfl, gw, f0, f1, f2, f3, f4, f5, f6, f7, f8, f9, f10⟩ K hK
    have hn : ¬ done.getD 0 false = true := by rw [getD_both hnot]; decide
    have GS := PLift.up gw.size
    have HK := PLift.up hK
    clear hK 
    simp only [sl20EA]
    go_simp
    have gg : Gr w (w.alloc (.cells #[] 24)) := (Gr.refl _).alloc _
    refine HK.down _ _ ⟨_, _, _, _, _, _, _, _, _, _, _, rfl, gw.trans gg, ?_, fun q => f1 (done_old q (by decide)), fun q => f2 (done_old q (by decide)), fun q => f3 (done_old q (by decide)), fun q => absurd (f4 (done_old q (by decide))).2 hn, fun q => f5 (done_old q (by decide)), fun q => f6 (done_old q (by decide)), fun q => f7 (done_old q (by decide)), fun q => f8 (done_old q (by decide)), fun q => (let h := f9 (done_old q (by decide)); ⟨Gr.owns h.1 gg, getD_set_true h.2⟩), fun q => (let h := f10 (done_old q (by decide)); ⟨Gr.owns h.1 gg, getD_set_true h.2⟩)⟩
    exact fun _ => ⟨_, rfl, GS.down, fun _ => Row.new w #[] _⟩
  · rintro done a w hsz hnot hdep ⟨t12, t71, t72, t73, t74, t75, t76, t77, t78, t79, t80, rfl, gw, f0, f1, f2, f3, f4, f5, f6, f7, f8, f9, f10⟩ K hK
    have hn : ¬ done.getD 1 false = true := by rw [getD_both hnot]; decide
    have HK := PLift.up hK
    clear hK 
    simp only [sl20EA]
    go_simp
    have gg : Gr w w := Gr.refl _
    refine HK.down _ _ ⟨_, _, _, _, _, _, _, _, _, _, _, rfl, gw, fun q => (let ⟨B, e, h1, h2⟩ := f0 (done_old q (by decide)); ⟨B, e, h1, fun q2 => (h2 (by rw [getD_set_ne false (by decide)] at q2; exact q2)).gr gg⟩), fun _ => rfl, fun q => f2 (done_old q (by decide)), fun q => f3 (done_old q (by decide)), fun q => ⟨fun q2 => Gr.owns ((f4 (done_old q (by decide))).1 (by rw [getD_set_ne false (by decide)] at q2; exact q2)) gg, getD_set_true (f4 (done_old q (by decide))).2⟩, fun q => f5 (done_old q (by decide)), fun q => f6 (done_old q (by decide)), fun q => f7 (done_old q (by decide)), fun q => f8 (done_old q (by decide)), fun q => (let h := f9 (done_old q (by decide)); ⟨Gr.owns h.1 gg, getD_set_true h.2⟩), fun q => (let h := f10 (done_old q (by decide)); ⟨Gr.owns h.1 gg, getD_set_true h.2⟩)⟩
  · rintro done a w hsz hnot hdep ⟨t12, t71, t72, t73, t74, t75, t76, t77, t78, t79, t80, rfl, gw, f0, f1, f2, f3, f4, f5, f6, f7, f8, f9, f10⟩ K hK
    have hn : ¬ done.getD 2 false = true := by rw [getD_both hnot]; decide
    have HK := PLift.up hK
    clear hK 
    simp only [sl20EA]
    go_simp
    have gg : Gr w w := Gr.refl _
    refine HK.down _ _ ⟨_, _, _, _, _, _, _, _, _, _, _, rfl, gw, fun q => (let ⟨B, e, h1, h2⟩ := f0 (done_old q (by decide)); ⟨B, e, h1, fun q2 => (h2 (by rw [getD_set_ne false (by decide)] at q2; exact q2)).gr gg⟩), fun q => f1 (done_old q (by decide)), fun _ => rfl, fun q => f3 (done_old q (by decide)), fun q => ⟨fun q2 => Gr.owns ((f4 (done_old q (by decide))).1 (by rw [getD_set_ne false (by decide)] at q2; exact q2)) gg, getD_set_true (f4 (done_old q (by decide))).2⟩, fun q => f5 (done_old q (by decide)), fun q => f6 (done_old q (by decide)), fun q => f7 (done_old q (by decide)), fun q => f8 (done_old q (by decide)), fun q => (let h := f9 (done_old q (by decide)); ⟨Gr.owns h.1 gg, getD_set_true h.2⟩), fun q => (let h := f10 (done_old q (by decide)); ⟨Gr.owns h.1 gg, getD_set_true h.2⟩)⟩
  · rintro done a w hsz hnot hdep ⟨t12, t71, t72, t73, t74, t75, t76, t77, t78, t79, t80, rfl, gw, f0, f1, f2, f3, f4, f5, f6, f7, f8, f9, f10⟩ K hK
    have hn : ¬ done.getD 3 false = true := by rw [getD_both hnot]; decide
    have d1 := hdep 1 (by kernel_rfl)
    have d2 := hdep 2 (by kernel_rfl)
    obtain rfl := f1 d1
    obtain rfl := f2 d2
    have hk := HK2.down
    have k1 : (k : Int) ≤ (k : Int) + 1 := by omega
    have k2 : (k : Int) ≤ (k : Int) + 1 := by omega
    have HK := PLift.up hK
    clear hK d1 d2
    simp only [sl20EA]
    go_simp
    have gg : Gr w w := Gr.refl _
    refine HK.down _ _ ⟨_, _, _, _, _, _, _, _, _, _, _, rfl, gw, fun q => (let ⟨B, e, h1, h2⟩ := f0 (done_old q (by decide)); ⟨B, e, h1, fun q2 => (h2 (by rw [getD_set_ne false (by decide)] at q2; exact q2)).gr gg⟩), fun q => f1 (done_old q (by decide)), fun q => f2 (done_old q (by decide)), fun _ => rfl, fun q => ⟨fun q2 => Gr.owns ((f4 (done_old q (by decide))).1 (by rw [getD_set_ne false (by decide)] at q2; exact q2)) gg, getD_set_true (f4 (done_old q (by decide))).2⟩, fun q => f5 (done_old q (by decide)), fun q => f6 (done_old q (by decide)), fun q => f7 (done_old q (by decide)), fun q => f8 (done_old q (by decide)), fun q => (let h := f9 (done_old q (by decide)); ⟨Gr.owns h.1 gg, getD_set_true h.2⟩), fun q => (let h := f10 (done_old q (by decide)); ⟨Gr.owns h.1 gg, getD_set_true h.2⟩)⟩
  · rintro done a w hsz hnot hdep ⟨t12, t71, t72, t73, t74, t75, t76, t77, t78, t79, t80, rfl, gw, f0, f1, f2, f3, f4, f5, f6, f7, f8, f9, f10⟩ K hK
    have hn : ¬ done.getD 4 false = true := by rw [getD_both hnot]; decide
    have d0 := hdep 0 (by kernel_rfl)
    have d3 := hdep 3 (by kernel_rfl)
    obtain rfl := f3 d3
    have n4 := getD_both hnot
    obtain ⟨B, rfl, hB, h2⟩ := f0 d0
    have rB := h2 n4
    have D0 := PLift.up d0
    refine step_append_gets _ rfl _ _ 29 rfl wr.heap.size 24 j0 (.agg #[.string (bs []), .bool false, .slice none 0 0]) 3 48 Tryz.underlying29 hj hy0 hy1 hy2 rfl (by decide) (.slice (some ⟨B, 0, none⟩) 0 0) 0 [] (by simp [Act.eval, sl20EA]) (row_owns rB hB rfl (by unfold maxLen; omega)) (some ⟨g, 0, none⟩) (k) (k + 1) ((out.take k).flatMap SM.enc) (by simp [Act.eval, sl20EA]) (HG1.down w gw) (flatS_one (fun s hs => HON.down s (List.mem_of_mem_take hs))) (by unfold maxLen; have := HK2.down; omega) (by have := HK2.down; omega) (by have := gw.size; omega) ?_
    intro v w2 hown hgrow hloc
    have gg : Gr wr w2 := gw.grown hgrow (fun j e => by cases e; exact hB)
    refine hK _ _ ⟨_, _, _, _, _, _, _, _, _, _, _, rfl, gg, fun _ => ⟨B, rfl, hB, fun q2 => absurd q2 (by rw [getD_set_same (by rw [hsz]; decide)]; decide)⟩, fun q => f1 (done_old q (by decide)), fun q => f2 (done_old q (by decide)), fun q => f3 (done_old q (by decide)), ?_, fun q => f5 (done_old q (by decide)), fun q => f6 (done_old q (by decide)), fun q => f7 (done_old q (by decide)), fun q => f8 (done_old q (by decide)), fun q => absurd (f9 (done_old q (by decide))).2 hn, fun q => absurd (f9 (by have := (f10 (done_old q (by decide))).2; exact this)).2 hn⟩
    exact fun _ => ⟨fun _ => hown, getD_set_true D0.down⟩
  · rintro done a w hsz hnot hdep ⟨t12, t71, t72, t73, t74, t75, t76, t77, t78, t79, t80, rfl, gw, f0, f1, f2, f3, f4, f5, f6, f7, f8, f9, f10⟩ K hK
    have hn : ¬ done.getD 5 false = true := by rw [getD_both hnot]; decide
    have HK := PLift.up hK
    clear hK 
    simp only [sl20EA]
    go_simp
    have gg : Gr w w := Gr.refl _
    refine HK.down _ _ ⟨_, _, _, _, _, _, _, _, _, _, _, rfl, gw, fun q => (let ⟨B, e, h1, h2⟩ := f0 (done_old q (by decide)); ⟨B, e, h1, fun q2 => (h2 (by rw [getD_set_ne false (by decide)] at q2; exact q2)).gr gg⟩), fun q => f1 (done_old q (by decide)), fun q => f2 (done_old q (by decide)), fun q => f3 (done_old q (by decide)), fun q => ⟨fun q2 => Gr.owns ((f4 (done_old q (by decide))).1 (by rw [getD_set_ne false (by decide)] at q2; exact q2)) gg, getD_set_true (f4 (done_old q (by decide))).2⟩, fun _ => rfl, fun q => f6 (done_old q (by decide)), fun q => f7 (done_old q (by decide)), fun q => f8 (done_old q (by decide)), fun q => (let h := f9 (done_old q (by decide)); ⟨Gr.owns h.1 gg, getD_set_true h.2⟩), fun q => (let h := f10 (done_old q (by decide)); ⟨Gr.owns h.1 gg, getD_set_true h.2⟩)⟩
  · rintro done a w hsz hnot hdep ⟨t12, t71, t72, t73, t74, t75, t76, t77, t78, t79, t80, rfl, gw, f0, f1, f2, f3, f4, f5, f6, f7, f8, f9, f10⟩ K hK
    have hn : ¬ done.getD 6 false = true := by rw [getD_both hnot]; decide
    have HK := PLift.up hK
    clear hK 
    simp only [sl20EA]
    go_simp
    have gg : Gr w w := Gr.refl _
    refine HK.down _ _ ⟨_, _, _, _, _, _, _, _, _, _, _, rfl, gw, fun q => (let ⟨B, e, h1, h2⟩ := f0 (done_old q (by decide)); ⟨B, e, h1, fun q2 => (h2 (by rw [getD_set_ne false (by decide)] at q2; exact q2)).gr gg⟩), fun q => f1 (done_old q (by decide)), fun q => f2 (done_old q (by decide)), fun q => f3 (done_old q (by decide)), fun q => ⟨fun q2 => Gr.owns ((f4 (done_old q (by decide))).1 (by rw [getD_set_ne false (by decide)] at q2; exact q2)) gg, getD_set_true (f4 (done_old q (by decide))).2⟩, fun q => f5 (done_old q (by decide)), fun _ => rfl, fun q => f7 (done_old q (by decide)), fun q => f8 (done_old q (by decide)), fun q => (let h := f9 (done_old q (by decide)); ⟨Gr.owns h.1 gg, getD_set_true h.2⟩), fun q => (let h := f10 (done_old q (by decide)); ⟨Gr.owns h.1 gg, getD_set_true h.2⟩)⟩
  · rintro done a w hsz hnot hdep ⟨t12, t71, t72, t73, t74, t75, t76, t77, t78, t79, t80, rfl, gw, f0, f1, f2, f3, f4, f5, f6, f7, f8, f9, f10⟩ K hK
    have hn : ¬ done.getD 7 false = true := by rw [getD_both hnot]; decide
    have d6 := hdep 6 (by kernel_rfl)
    obtain rfl := f6 d6
    have HK := PLift.up hK
    clear hK d6
    simp only [sl20EA]
    go_simp
    rw [Go.IntWalk.i64_in ((k : Int) + 1) (by have := HK2.down; omega)]
    have gg : Gr w w := Gr.refl _
    refine HK.down _ _ ⟨_, _, _, _, _, _, _, _, _, _, _, rfl, gw, fun q => (let ⟨B, e, h1, h2⟩ := f0 (done_old q (by decide)); ⟨B, e, h1, fun q2 => (h2 (by rw [getD_set_ne false (by decide)] at q2; exact q2)).gr gg⟩), fun q => f1 (done_old q (by decide)), fun q => f2 (done_old q (by decide)), fun q => f3 (done_old q (by decide)), fun q => ⟨fun q2 => Gr.owns ((f4 (done_old q (by decide))).1 (by rw [getD_set_ne false (by decide)] at q2; exact q2)) gg, getD_set_true (f4 (done_old q (by decide))).2⟩, fun q => f5 (done_old q (by decide)), fun q => f6 (done_old q (by decide)), fun _ => rfl, fun q => f8 (done_old q (by decide)), fun q => (let h := f9 (done_old q (by decide)); ⟨Gr.owns h.1 gg, getD_set_true h.2⟩), fun q => (let h := f10 (done_old q (by decide)); ⟨Gr.owns h.1 gg, getD_set_true h.2⟩)⟩
  · rintro done a w hsz hnot hdep ⟨t12, t71, t72, t73, t74, t75, t76, t77, t78, t79, t80, rfl, gw, f0, f1, f2, f3, f4, f5, f6, f7, f8, f9, f10⟩ K hK
    have hn : ¬ done.getD 8 false = true := by rw [getD_both hnot]; decide
    have d5 := hdep 5 (by kernel_rfl)
    have d7 := hdep 7 (by kernel_rfl)
    obtain rfl := f5 d5
    obtain rfl := f7 d7
    have hk := HK2.down
    have k1 : (k : Int) + 1 ≤ (k : Int) + 1 := by omega
    have HK := PLift.up hK
    clear hK d5 d7
    simp only [sl20EA]
    go_simp
    have gg : Gr w w := Gr.refl _
    refine HK.down _ _ ⟨_, _, _, _, _, _, _, _, _, _, _, rfl, gw, fun q => (let ⟨B, e, h1, h2⟩ := f0 (done_old q (by decide)); ⟨B, e, h1, fun q2 => (h2 (by rw [getD_set_ne false (by decide)] at q2; exact q2)).gr gg⟩), fun q => f1 (done_old q (by decide)), fun q => f2 (done_old q (by decide)), fun q => f3 (done_old q (by decide)), fun q => ⟨fun q2 => Gr.owns ((f4 (done_old q (by decide))).1 (by rw [getD_set_ne false (by decide)] at q2; exact q2)) gg, getD_set_true (f4 (done_old q (by decide))).2⟩, fun q => f5 (done_old q (by decide)), fun q => f6 (done_old q (by decide)), fun q => f7 (done_old q (by decide)), fun _ => rfl, fun q => (let h := f9 (done_old q (by decide)); ⟨Gr.owns h.1 gg, getD_set_true h.2⟩), fun q => (let h := f10 (done_old q (by decide)); ⟨Gr.owns h.1 gg, getD_set_true h.2⟩)⟩
  · rintro done a w hsz hnot hdep ⟨t12, t71, t72, t73, t74, t75, t76, t77, t78, t79, t80, rfl, gw, f0, f1, f2, f3, f4, f5, f6, f7, f8, f9, f10⟩ K hK
    have hn : ¬ done.getD 9 false = true := by rw [getD_both hnot]; decide
    have d4 := hdep 4 (by kernel_rfl)
    have d8 := hdep 8 (by kernel_rfl)
    obtain rfl := f8 d8
    have n9 := getD_both hnot
    have o4 := (f4 d4).1 n9
    have D4 := PLift.up d4
    obtain ⟨a5, c5, e5⟩ := owns_slice o4
    subst e5
    refine step_append_gets _ rfl _ _ 29 rfl wr.heap.size 24 j0 (.agg #[.string (bs []), .bool false, .slice none 0 0]) 3 48 Tryz.underlying29 hj hy0 hy1 hy2 rfl (by decide) (.slice a5 (0 + k) c5) (0 + k) ([] ++ (out.take k).flatMap SM.enc) (by simp [Act.eval, sl20EA]) o4 (some ⟨g, 0, none⟩) (0) (0) ((out.drop (k + 1)).flatMap SM.enc) (by simp [Act.eval, sl20EA]) (HG2.down w gw) (flatS_one (fun s hs => HON.down s (List.mem_of_mem_drop hs))) (by unfold maxLen; have := HK2.down; omega) (by have := HK2.down; omega) (by have := gw.size; omega) ?_
    intro v w2 hown hgrow hloc
    have gg : Gr wr w2 := gw.grown hgrow (fun j e => (o4.lt j e).1)
    refine hK _ _ ⟨_, _, _, _, _, _, _, _, _, _, _, rfl, gg, fun q => (let ⟨B, e, h1, h2⟩ := f0 (done_old q (by decide)); ⟨B, e, h1, fun q2 => absurd (getD_set_true D4.down) (by rw [q2]; decide)⟩), fun q => f1 (done_old q (by decide)), fun q => f2 (done_old q (by decide)), fun q => f3 (done_old q (by decide)), fun _ => ⟨fun q2 => absurd q2 (by rw [getD_set_same (by rw [hsz]; decide)]; decide), getD_set_true (f4 d4).2⟩, fun q => f5 (done_old q (by decide)), fun q => f6 (done_old q (by decide)), fun q => f7 (done_old q (by decide)), fun q => f8 (done_old q (by decide)), ?_, fun q => absurd (f10 (done_old q (by decide))).2 hn⟩
    exact fun _ => ⟨hown, getD_set_true D4.down⟩
  · rintro done a w hsz hnot hdep ⟨t12, t71, t72, t73, t74, t75, t76, t77, t78, t79, t80, rfl, gw, f0, f1, f2, f3, f4, f5, f6, f7, f8, f9, f10⟩ K hK
    have hn : ¬ done.getD 10 false = true := by rw [getD_both hnot]; decide
    have d9 := hdep 9 (by kernel_rfl)
    have O9 := PLift.up (f9 d9).1
    have D9 := PLift.up d9
    have HK := PLift.up hK
    clear hK 
    simp only [sl20EA]
    go_simp
    have gg : Gr w w := Gr.refl _
    refine HK.down _ _ ⟨_, _, _, _, _, _, _, _, _, _, _, rfl, gw, fun q => (let ⟨B, e, h1, h2⟩ := f0 (done_old q (by decide)); ⟨B, e, h1, fun q2 => (h2 (by rw [getD_set_ne false (by decide)] at q2; exact q2)).gr gg⟩), fun q => f1 (done_old q (by decide)), fun q => f2 (done_old q (by decide)), fun q => f3 (done_old q (by decide)), fun q => ⟨fun q2 => Gr.owns ((f4 (done_old q (by decide))).1 (by rw [getD_set_ne false (by decide)] at q2; exact q2)) gg, getD_set_true (f4 (done_old q (by decide))).2⟩, fun q => f5 (done_old q (by decide)), fun q => f6 (done_old q (by decide)), fun q => f7 (done_old q (by decide)), fun q => f8 (done_old q (by decide)), fun _ => ⟨O9.down, getD_set_true (f9 D9.down).2⟩, ?_⟩
    exact fun _ => ⟨O9.down, getD_set_true D9.down⟩
  · rintro done a w hall ⟨t12, t71, t72, t73, t74, t75, t76, t77, t78, t79, t80, rfl, gw, f0, f1, f2, f3, f4, f5, f6, f7, f8, f9, f10⟩
    exact h' _ _ _ _ _ _ _ _ _ _ _ w gw (f10 (hall 10 (by decide))).1
end Go.Proofs.YtadldblpkgackaaGreatDoor

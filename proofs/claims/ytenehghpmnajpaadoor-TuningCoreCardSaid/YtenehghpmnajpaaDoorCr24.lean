/- A statement of TuningCore by an invariant (printed by wip/tools/cor24.py). -/
import Derived.Test.YtenehghpmnajpaaDoorOsA
set_option linter.unusedVariables false
set_option linter.unusedSimpArgs false
namespace Go.Proofs.YtenehghpmnajpaaDoor
open Go.RowKit
open Classical

theorem flat_split (core : List Lmt) (i : Nat) : core.flatMap encM = (core.take i).flatMap encM ++ (core.drop i).flatMap encM := by
  rw [← List.flatMap_append, List.take_append_drop]
theorem gets_take {w : World} {base c g i : Nat} {core : List Lmt} (h : w.ownsRow base 53 3 (.slice (some ⟨g, 0, none⟩) core.length c) core.length (core.flatMap encM)) (hi : i < core.length) {A : Option Addr} (hA : i ≠ 0 → A = some ⟨g, 0, none⟩) : Gets w A i 3 ((core.take i).flatMap encM) := by
  have hl : ((core.take i).flatMap encM).length = i * 3 := by rw [flat_len encM 3 (fun _ => rfl), List.length_take]; omega
  refine ⟨hl, fun h0 => ⟨_, hA h0, fun j u hu => ?_⟩⟩
  obtain ⟨g', e, hc⟩ := own_cells h (by omega)
  cases e
  refine hc j u ?_
  have hj : j < ((core.take i).flatMap encM).length := (List.getElem?_eq_some_iff.1 hu).1
  rw [flat_split core i, List.getElem?_append_left hj]
  exact hu
theorem gets_drop {w : World} {base c g i n : Nat} {core : List Lmt} (h : w.ownsRow base 53 3 (.slice (some ⟨g, 0, none⟩) core.length c) core.length (core.flatMap encM)) (hi : i < core.length) (hn : n = core.length - (i + 1)) {A : Option Addr} (hA : n ≠ 0 → A = some ⟨g, (i + 1) * 3, none⟩) : Gets w A n 3 ((core.drop (i + 1)).flatMap encM) := by
  refine ⟨by rw [flat_len encM 3 (fun _ => rfl), List.length_drop, hn], fun h0 => ⟨_, hA h0, fun j u hu => ?_⟩⟩
  obtain ⟨g', e, hc⟩ := own_cells h (by omega)
  cases e
  have hl : ((core.take (i + 1)).flatMap encM).length = (i + 1) * 3 := by rw [flat_len encM 3 (fun _ => rfl), List.length_take]; omega
  have := hc ((i + 1) * 3 + j) u (by
    rw [flat_split core (i + 1), List.getElem?_append_right (by omega), hl]
    rw [show (i + 1) * 3 + j - (i + 1) * 3 = j by omega]; exact hu)
  rw [Addr.add_lit] at this ⊢
  rw [Nat.zero_add] at this
  exact this
theorem encMt_one (ms : List Lmt) (i : Nat) : ∀ u ∈ (ms.take i).flatMap encM, u.oneCell' = true := encMs_one _
/-- What is known of each slot as soon as its operation is done. -/
def cr24F (wr : World) (core : List Lmt) (g c i : Nat) (t14 t105 t106 t107 t108 t109 t110 t111 t112 t113 t114 : Value) (d : Array Bool) (w : World) : Prop :=
  Gr wr w ∧ (d.getD 0 false = true → (∃ E, t105 = .slice (some ⟨E, 0, none⟩) 0 0 ∧ (d.getD 4 false = false → w.ownsRow wr.heap.size 53 3 t105 0 []))) ∧
  (d.getD 1 false = true → t106 = .slice (some ⟨g, 0, none⟩) core.length c) ∧
  (d.getD 2 false = true → t107 = .int .i64 (i : Int)) ∧
  (d.getD 3 false = true → (∃ A c2, t108 = .slice A i c2 ∧ (i ≠ 0 → A = some ⟨g, 0, none⟩))) ∧
  (d.getD 4 false = true → (d.getD 0 false = true ∧ (d.getD 9 false = false → w.ownsRow wr.heap.size 53 3 t109 i ((core.take i).flatMap encM)))) ∧
  (d.getD 5 false = true → t110 = .slice (some ⟨g, 0, none⟩) core.length c) ∧
  (d.getD 6 false = true → t111 = .int .i64 (i : Int)) ∧
  (d.getD 7 false = true → t112 = .int .i64 ((i : Int) + 1)) ∧
  (d.getD 8 false = true → (∃ A c2, t113 = .slice A (core.length - (i + 1)) c2 ∧ (core.length - (i + 1) ≠ 0 → A = some ⟨g, (i + 1) * 3, none⟩))) ∧
  (d.getD 9 false = true → ((d.getD 0 false = true ∧ d.getD 4 false = true) ∧ w.ownsRow wr.heap.size 53 3 t114 (i + (core.length - (i + 1))) ((core.take i ++ core.drop (i + 1)).flatMap encM))) ∧
  (d.getD 10 false = true → (d.getD 9 false = true ∧ t14 = t114))
/-- The frame. -/
def cr24A (core : List Lmt) (g c i : Nat) (t14 t105 t106 t107 t108 t109 t110 t111 t112 t113 t114 s0 s1 s2 s3 s4 s5 s6 s7 s8 s9 s11 s12 s15 s16 s17 s18 s19 s20 s21 s22 s23 s24 s25 s26 s27 s28 s29 s30 s31 s32 s33 s34 s35 s36 s37 s38 s39 s40 s41 s42 s43 s44 s45 s46 s47 s48 s49 s50 s51 s52 s53 s54 s55 s56 s57 s58 s59 s60 s61 s62 s63 s64 s65 s66 s67 s68 s69 s70 s71 s72 s73 s74 s75 s76 s77 s78 s79 s80 s81 s82 s83 s84 s85 s86 s87 s88 s89 s90 s91 s92 s93 s94 s95 s96 s97 s98 s99 s100 s101 s102 s103 s104 s115 s116 s117 s118 s119 s120 s121 s122 s123 s124 s125 s126 s127 s128 : Value) : Act := { tmps := #[s0, s1, s2, s3, s4, s5, s6, s7, s8, s9, .slice (some ⟨g, 0, none⟩) core.length c, s11, s12, .int .i64 (i : Int), t14, s15, s16, s17, s18, s19, s20, s21, s22, s23, s24, s25, s26, s27, s28, s29, s30, s31, s32, s33, s34, s35, s36, s37, s38, s39, s40, s41, s42, s43, s44, s45, s46, s47, s48, s49, s50, s51, s52, s53, s54, s55, s56, s57, s58, s59, s60, s61, s62, s63, s64, s65, s66, s67, s68, s69, s70, s71, s72, s73, s74, s75, s76, s77, s78, s79, s80, s81, s82, s83, s84, s85, s86, s87, s88, s89, s90, s91, s92, s93, s94, s95, s96, s97, s98, s99, s100, s101, s102, s103, s104, t105, t106, t107, t108, t109, t110, t111, t112, t113, t114, s115, s116, s117, s118, s119, s120, s121, s122, s123, s124, s125, s126, s127, s128], defers := [] }

set_option maxRecDepth 100000 in
set_option maxHeartbeats 4000000 in
theorem cr24 {Q : Exit → Act → World → Prop} {wr : World} {core : List Lmt} {g c i : Nat}  {s0 s1 s2 s3 s4 s5 s6 s7 s8 s9 s11 s12 s14 s15 s16 s17 s18 s19 s20 s21 s22 s23 s24 s25 s26 s27 s28 s29 s30 s31 s32 s33 s34 s35 s36 s37 s38 s39 s40 s41 s42 s43 s44 s45 s46 s47 s48 s49 s50 s51 s52 s53 s54 s55 s56 s57 s58 s59 s60 s61 s62 s63 s64 s65 s66 s67 s68 s69 s70 s71 s72 s73 s74 s75 s76 s77 s78 s79 s80 s81 s82 s83 s84 s85 s86 s87 s88 s89 s90 s91 s92 s93 s94 s95 s96 s97 s98 s99 s100 s101 s102 s103 s104 s105 s106 s107 s108 s109 s110 s111 s112 s113 s114 s115 s116 s117 s118 s119 s120 s121 s122 s123 s124 s125 s126 s127 s128 : Value} {base2 : Nat} (h : wr.ownsRow base2 53 3 (.slice (some ⟨g, 0, none⟩) core.length c) core.length (core.flatMap encM)) (hi : i < core.length) (hcc : core.length ≤ c) (hn2 : core.length ≤ 100)
    (h' : ∀ t105 t106 t107 t108 t109 t110 t111 t112 t113 t114 wx, Gr wr wx → wx.ownsRow wr.heap.size 53 3 t114 (i + (core.length - (i + 1))) ((core.take i ++ core.drop (i + 1)).flatMap encM) → Q .normal (cr24A core g c i t114 t105 t106 t107 t108 t109 t110 t111 t112 t113 t114 s0 s1 s2 s3 s4 s5 s6 s7 s8 s9 s11 s12 s15 s16 s17 s18 s19 s20 s21 s22 s23 s24 s25 s26 s27 s28 s29 s30 s31 s32 s33 s34 s35 s36 s37 s38 s39 s40 s41 s42 s43 s44 s45 s46 s47 s48 s49 s50 s51 s52 s53 s54 s55 s56 s57 s58 s59 s60 s61 s62 s63 s64 s65 s66 s67 s68 s69 s70 s71 s72 s73 s74 s75 s76 s77 s78 s79 s80 s81 s82 s83 s84 s85 s86 s87 s88 s89 s90 s91 s92 s93 s94 s95 s96 s97 s98 s99 s100 s101 s102 s103 s104 s115 s116 s117 s118 s119 s120 s121 s122 s123 s124 s125 s126 s127 s128) wx) :
    (Code.region 24 (regIn 24 Tryd.f11) true).wp Tryd.prog Q { tmps := #[s0, s1, s2, s3, s4, s5, s6, s7, s8, s9, .slice (some ⟨g, 0, none⟩) core.length c, s11, s12, .int .i64 (i : Int), s14, s15, s16, s17, s18, s19, s20, s21, s22, s23, s24, s25, s26, s27, s28, s29, s30, s31, s32, s33, s34, s35, s36, s37, s38, s39, s40, s41, s42, s43, s44, s45, s46, s47, s48, s49, s50, s51, s52, s53, s54, s55, s56, s57, s58, s59, s60, s61, s62, s63, s64, s65, s66, s67, s68, s69, s70, s71, s72, s73, s74, s75, s76, s77, s78, s79, s80, s81, s82, s83, s84, s85, s86, s87, s88, s89, s90, s91, s92, s93, s94, s95, s96, s97, s98, s99, s100, s101, s102, s103, s104, s105, s106, s107, s108, s109, s110, s111, s112, s113, s114, s115, s116, s117, s118, s119, s120, s121, s122, s123, s124, s125, s126, s127, s128], defers := [] } wr := by
  have H := PLift.up h
  clear h
  obtain ⟨j0, hj, hy0, hy1, hy2⟩ := info_parts infoLmt
  simp only [regIn, Tryd.f11, regOps, Option.bind_some, Option.getD_some, Nat.beq, cond_true, cond_false]
  refine wp_region_steps (fun done a w => ∃ t14 t105 t106 t107 t108 t109 t110 t111 t112 t113 t114, a = cr24A core g c i t14 t105 t106 t107 t108 t109 t110 t111 t112 t113 t114 s0 s1 s2 s3 s4 s5 s6 s7 s8 s9 s11 s12 s15 s16 s17 s18 s19 s20 s21 s22 s23 s24 s25 s26 s27 s28 s29 s30 s31 s32 s33 s34 s35 s36 s37 s38 s39 s40 s41 s42 s43 s44 s45 s46 s47 s48 s49 s50 s51 s52 s53 s54 s55 s56 s57 s58 s59 s60 s61 s62 s63 s64 s65 s66 s67 s68 s69 s70 s71 s72 s73 s74 s75 s76 s77 s78 s79 s80 s81 s82 s83 s84 s85 s86 s87 s88 s89 s90 s91 s92 s93 s94 s95 s96 s97 s98 s99 s100 s101 s102 s103 s104 s115 s116 s117 s118 s119 s120 s121 s122 s123 s124 s125 s126 s127 s128 ∧ cr24F wr core g c i t14 t105 t106 t107 t108 t109 t110 t111 t112 t113 t114 done w) (by kernel_rfl) (by kernel_rfl) ?_ ⟨?_, ?_, ?_, ?_, ?_, ?_, ?_, ?_, ?_, ?_, ?_, trivial⟩ ?_
  · exact ⟨s14, s105, s106, s107, s108, s109, s110, s111, s112, s113, s114, rfl, (Gr.refl _).drew, fun q => absurd q (by decide), fun q => absurd q (by decide), fun q => absurd q (by decide), fun q => absurd q (by decide), fun q => absurd q (by decide), fun q => absurd q (by decide), fun q => absurd q (by decide), fun q => absurd q (by decide), fun q => absurd q (by decide), fun q => absurd q (by decide), fun q => absurd q (by decide)⟩
  · rintro done a w hsz hnot hdep ⟨t14, t105, t106, t107, t108, t109, t110, t111, t112, t113, t114, rfl, gw, f0, f1, f2, f3, f4, f5, f6, f7, f8, f9, f10⟩ K hK
    have hn : ¬ done.getD 0 false = true := by rw [getD_both hnot]; decide
    have HK := PLift.up hK
    clear hK 
    simp only [cr24A]
    go_simp
    have gg : Gr w (w.alloc (.cells #[] 53)) := (Gr.refl _).alloc _
    refine HK.down _ _ ⟨_, _, _, _, _, _, _, _, _, _, _, rfl, gw.trans gg, ?_, fun q => f1 (done_old q (by decide)), fun q => f2 (done_old q (by decide)), fun q => f3 (done_old q (by decide)), fun q => absurd (f4 (done_old q (by decide))).1 hn, fun q => f5 (done_old q (by decide)), fun q => f6 (done_old q (by decide)), fun q => f7 (done_old q (by decide)), fun q => f8 (done_old q (by decide)), fun q => absurd (f9 (done_old q (by decide))).1.1 hn, fun q => (let h := f10 (done_old q (by decide)); ⟨done_keep h.1, h.2⟩)⟩
    exact fun _ => ⟨_, rfl, fun _ => World.ownsRow_lit w #[] 0 gw.size (by unfold maxLen; omega) (by simp)⟩
  · rintro done a w hsz hnot hdep ⟨t14, t105, t106, t107, t108, t109, t110, t111, t112, t113, t114, rfl, gw, f0, f1, f2, f3, f4, f5, f6, f7, f8, f9, f10⟩ K hK
    have hn : ¬ done.getD 1 false = true := by rw [getD_both hnot]; decide
    have HK := PLift.up hK
    clear hK 
    simp only [cr24A]
    go_simp
    have gg : Gr w w := Gr.refl _
    refine HK.down _ _ ⟨_, _, _, _, _, _, _, _, _, _, _, rfl, gw, fun q => (let ⟨E, e, h2⟩ := f0 (done_old q (by decide)); ⟨E, e, fun q2 => Gr.owns (h2 (by rw [getD_set_ne false (by decide)] at q2; exact q2)) gg⟩), fun _ => rfl, fun q => f2 (done_old q (by decide)), fun q => f3 (done_old q (by decide)), fun q => (let h := f4 (done_old q (by decide)); ⟨done_keep h.1, fun q2 => Gr.owns (h.2 (by rw [getD_set_ne false (by decide)] at q2; exact q2)) gg⟩), fun q => f5 (done_old q (by decide)), fun q => f6 (done_old q (by decide)), fun q => f7 (done_old q (by decide)), fun q => f8 (done_old q (by decide)), fun q => (let h := f9 (done_old q (by decide)); ⟨⟨done_keep h.1.1, done_keep h.1.2⟩, Gr.owns h.2 gg⟩), fun q => (let h := f10 (done_old q (by decide)); ⟨done_keep h.1, h.2⟩)⟩
  · rintro done a w hsz hnot hdep ⟨t14, t105, t106, t107, t108, t109, t110, t111, t112, t113, t114, rfl, gw, f0, f1, f2, f3, f4, f5, f6, f7, f8, f9, f10⟩ K hK
    have hn : ¬ done.getD 2 false = true := by rw [getD_both hnot]; decide
    have HK := PLift.up hK
    clear hK 
    simp only [cr24A]
    go_simp
    have gg : Gr w w := Gr.refl _
    refine HK.down _ _ ⟨_, _, _, _, _, _, _, _, _, _, _, rfl, gw, fun q => (let ⟨E, e, h2⟩ := f0 (done_old q (by decide)); ⟨E, e, fun q2 => Gr.owns (h2 (by rw [getD_set_ne false (by decide)] at q2; exact q2)) gg⟩), fun q => f1 (done_old q (by decide)), fun _ => rfl, fun q => f3 (done_old q (by decide)), fun q => (let h := f4 (done_old q (by decide)); ⟨done_keep h.1, fun q2 => Gr.owns (h.2 (by rw [getD_set_ne false (by decide)] at q2; exact q2)) gg⟩), fun q => f5 (done_old q (by decide)), fun q => f6 (done_old q (by decide)), fun q => f7 (done_old q (by decide)), fun q => f8 (done_old q (by decide)), fun q => (let h := f9 (done_old q (by decide)); ⟨⟨done_keep h.1.1, done_keep h.1.2⟩, Gr.owns h.2 gg⟩), fun q => (let h := f10 (done_old q (by decide)); ⟨done_keep h.1, h.2⟩)⟩
  · rintro done a w hsz hnot hdep ⟨t14, t105, t106, t107, t108, t109, t110, t111, t112, t113, t114, rfl, gw, f0, f1, f2, f3, f4, f5, f6, f7, f8, f9, f10⟩ K hK
    have hn : ¬ done.getD 3 false = true := by rw [getD_both hnot]; decide
    have d1 := hdep 1 (by kernel_rfl)
    have d2 := hdep 2 (by kernel_rfl)
    obtain rfl := f1 d1
    obtain rfl := f2 d2
    have k1 : i ≤ c := by omega
    have k2 : (i : Int) ≤ c := by omega
    have k3 : (i : Int) ≤ core.length := by omega
    have k4 : i ≤ core.length := by omega
    have HK := PLift.up hK
    clear hK d1 d2
    simp only [cr24A]
    go_simp
    have gg : Gr w w := Gr.refl _
    refine HK.down _ _ ⟨_, _, _, _, _, _, _, _, _, _, _, rfl, gw, fun q => (let ⟨E, e, h2⟩ := f0 (done_old q (by decide)); ⟨E, e, fun q2 => Gr.owns (h2 (by rw [getD_set_ne false (by decide)] at q2; exact q2)) gg⟩), fun q => f1 (done_old q (by decide)), fun q => f2 (done_old q (by decide)), ?_, fun q => (let h := f4 (done_old q (by decide)); ⟨done_keep h.1, fun q2 => Gr.owns (h.2 (by rw [getD_set_ne false (by decide)] at q2; exact q2)) gg⟩), fun q => f5 (done_old q (by decide)), fun q => f6 (done_old q (by decide)), fun q => f7 (done_old q (by decide)), fun q => f8 (done_old q (by decide)), fun q => (let h := f9 (done_old q (by decide)); ⟨⟨done_keep h.1.1, done_keep h.1.2⟩, Gr.owns h.2 gg⟩), fun q => (let h := f10 (done_old q (by decide)); ⟨done_keep h.1, h.2⟩)⟩
    exact fun _ => ⟨_, _, rfl, fun _ => rfl⟩
  · rintro done a w hsz hnot hdep ⟨t14, t105, t106, t107, t108, t109, t110, t111, t112, t113, t114, rfl, gw, f0, f1, f2, f3, f4, f5, f6, f7, f8, f9, f10⟩ K hK
    have hn : ¬ done.getD 4 false = true := by rw [getD_both hnot]; decide
    have d0 := hdep 0 (by kernel_rfl)
    have d3 := hdep 3 (by kernel_rfl)
    obtain ⟨E, rfl, hE⟩ := f0 d0
    obtain ⟨A, c2, rfl, hA⟩ := f3 d3
    have n4 := getD_both hnot
    refine step_append_gets _ rfl _ _ 39 rfl wr.heap.size 53 j0 (.agg #[.int .i64 0, .int .i64 0, .int .i64 0]) 3 24 Tryd.underlying39 hj hy0 hy1 hy2 rfl (by decide) (.slice (some ⟨E, 0, none⟩) 0 0) 0 [] (by simp [Act.eval, cr24A]) (hE n4) A i c2 ((core.take i).flatMap encM) (by simp [Act.eval, cr24A]) (gets_take (Gr.owns H.down gw) hi hA) (encMs_one _) (by unfold maxLen; omega) (by omega) gw.size ?_
    intro v w2 hown hgrow _
    rw [Nat.zero_add, List.nil_append] at hown
    have OW := PLift.up hown
    have lt0 := fun k e => (owns_block (hE n4) k e).1
    refine hK _ _ ⟨_, _, _, _, _, _, _, _, _, _, _, rfl, gw.grown hgrow lt0, fun _ => ⟨E, rfl, fun q => absurd q (by rw [getD_set_same (by rw [hsz]; decide)]; decide)⟩, fun q => f1 (done_old q (by decide)), fun q => f2 (done_old q (by decide)), fun _ => ⟨A, c2, rfl, hA⟩, ?_, fun q => f5 (done_old q (by decide)), fun q => f6 (done_old q (by decide)), fun q => f7 (done_old q (by decide)), fun q => f8 (done_old q (by decide)), fun q => absurd (f9 (done_old q (by decide))).1.2 hn, fun q => (let h := f10 (done_old q (by decide)); ⟨done_keep h.1, h.2⟩)⟩
    exact fun _ => ⟨done_keep d0, fun _ => OW.down⟩
  · rintro done a w hsz hnot hdep ⟨t14, t105, t106, t107, t108, t109, t110, t111, t112, t113, t114, rfl, gw, f0, f1, f2, f3, f4, f5, f6, f7, f8, f9, f10⟩ K hK
    have hn : ¬ done.getD 5 false = true := by rw [getD_both hnot]; decide
    have HK := PLift.up hK
    clear hK 
    simp only [cr24A]
    go_simp
    have gg : Gr w w := Gr.refl _
    refine HK.down _ _ ⟨_, _, _, _, _, _, _, _, _, _, _, rfl, gw, fun q => (let ⟨E, e, h2⟩ := f0 (done_old q (by decide)); ⟨E, e, fun q2 => Gr.owns (h2 (by rw [getD_set_ne false (by decide)] at q2; exact q2)) gg⟩), fun q => f1 (done_old q (by decide)), fun q => f2 (done_old q (by decide)), fun q => f3 (done_old q (by decide)), fun q => (let h := f4 (done_old q (by decide)); ⟨done_keep h.1, fun q2 => Gr.owns (h.2 (by rw [getD_set_ne false (by decide)] at q2; exact q2)) gg⟩), fun _ => rfl, fun q => f6 (done_old q (by decide)), fun q => f7 (done_old q (by decide)), fun q => f8 (done_old q (by decide)), fun q => (let h := f9 (done_old q (by decide)); ⟨⟨done_keep h.1.1, done_keep h.1.2⟩, Gr.owns h.2 gg⟩), fun q => (let h := f10 (done_old q (by decide)); ⟨done_keep h.1, h.2⟩)⟩
  · rintro done a w hsz hnot hdep ⟨t14, t105, t106, t107, t108, t109, t110, t111, t112, t113, t114, rfl, gw, f0, f1, f2, f3, f4, f5, f6, f7, f8, f9, f10⟩ K hK
    have hn : ¬ done.getD 6 false = true := by rw [getD_both hnot]; decide
    have HK := PLift.up hK
    clear hK 
    simp only [cr24A]
    go_simp
    have gg : Gr w w := Gr.refl _
    refine HK.down _ _ ⟨_, _, _, _, _, _, _, _, _, _, _, rfl, gw, fun q => (let ⟨E, e, h2⟩ := f0 (done_old q (by decide)); ⟨E, e, fun q2 => Gr.owns (h2 (by rw [getD_set_ne false (by decide)] at q2; exact q2)) gg⟩), fun q => f1 (done_old q (by decide)), fun q => f2 (done_old q (by decide)), fun q => f3 (done_old q (by decide)), fun q => (let h := f4 (done_old q (by decide)); ⟨done_keep h.1, fun q2 => Gr.owns (h.2 (by rw [getD_set_ne false (by decide)] at q2; exact q2)) gg⟩), fun q => f5 (done_old q (by decide)), fun _ => rfl, fun q => f7 (done_old q (by decide)), fun q => f8 (done_old q (by decide)), fun q => (let h := f9 (done_old q (by decide)); ⟨⟨done_keep h.1.1, done_keep h.1.2⟩, Gr.owns h.2 gg⟩), fun q => (let h := f10 (done_old q (by decide)); ⟨done_keep h.1, h.2⟩)⟩
  · rintro done a w hsz hnot hdep ⟨t14, t105, t106, t107, t108, t109, t110, t111, t112, t113, t114, rfl, gw, f0, f1, f2, f3, f4, f5, f6, f7, f8, f9, f10⟩ K hK
    have hn : ¬ done.getD 7 false = true := by rw [getD_both hnot]; decide
    have d6 := hdep 6 (by kernel_rfl)
    obtain rfl := f6 d6
    have sw : IntKind.i64.wrap ((i : Int) + 1) = (i : Int) + 1 := by rw [IntKind.wrap_i64]; omega
    have HK := PLift.up hK
    clear hK d6
    simp only [cr24A]
    go_simp
    have gg : Gr w w := Gr.refl _
    refine HK.down _ _ ⟨_, _, _, _, _, _, _, _, _, _, _, rfl, gw, fun q => (let ⟨E, e, h2⟩ := f0 (done_old q (by decide)); ⟨E, e, fun q2 => Gr.owns (h2 (by rw [getD_set_ne false (by decide)] at q2; exact q2)) gg⟩), fun q => f1 (done_old q (by decide)), fun q => f2 (done_old q (by decide)), fun q => f3 (done_old q (by decide)), fun q => (let h := f4 (done_old q (by decide)); ⟨done_keep h.1, fun q2 => Gr.owns (h.2 (by rw [getD_set_ne false (by decide)] at q2; exact q2)) gg⟩), fun q => f5 (done_old q (by decide)), fun q => f6 (done_old q (by decide)), fun _ => rfl, fun q => f8 (done_old q (by decide)), fun q => (let h := f9 (done_old q (by decide)); ⟨⟨done_keep h.1.1, done_keep h.1.2⟩, Gr.owns h.2 gg⟩), fun q => (let h := f10 (done_old q (by decide)); ⟨done_keep h.1, h.2⟩)⟩
  · rintro done a w hsz hnot hdep ⟨t14, t105, t106, t107, t108, t109, t110, t111, t112, t113, t114, rfl, gw, f0, f1, f2, f3, f4, f5, f6, f7, f8, f9, f10⟩ K hK
    have hn : ¬ done.getD 8 false = true := by rw [getD_both hnot]; decide
    have d5 := hdep 5 (by kernel_rfl)
    have d7 := hdep 7 (by kernel_rfl)
    obtain rfl := f5 d5
    obtain rfl := f7 d7
    have k1 : i + 1 ≤ c := by omega
    have k2 : (i : Int) + 1 ≤ c := by omega
    have k3 : (i : Int) + 1 ≤ core.length := by omega
    have k4 : i + 1 ≤ core.length := by omega
    have k5 : core.length ≤ c := hcc
    have HK := PLift.up hK
    clear hK d5 d7
    simp only [cr24A]
    go_simp
    have gg : Gr w w := Gr.refl _
    refine HK.down _ _ ⟨_, _, _, _, _, _, _, _, _, _, _, rfl, gw, fun q => (let ⟨E, e, h2⟩ := f0 (done_old q (by decide)); ⟨E, e, fun q2 => Gr.owns (h2 (by rw [getD_set_ne false (by decide)] at q2; exact q2)) gg⟩), fun q => f1 (done_old q (by decide)), fun q => f2 (done_old q (by decide)), fun q => f3 (done_old q (by decide)), fun q => (let h := f4 (done_old q (by decide)); ⟨done_keep h.1, fun q2 => Gr.owns (h.2 (by rw [getD_set_ne false (by decide)] at q2; exact q2)) gg⟩), fun q => f5 (done_old q (by decide)), fun q => f6 (done_old q (by decide)), fun q => f7 (done_old q (by decide)), ?_, fun q => (let h := f9 (done_old q (by decide)); ⟨⟨done_keep h.1.1, done_keep h.1.2⟩, Gr.owns h.2 gg⟩), fun q => (let h := f10 (done_old q (by decide)); ⟨done_keep h.1, h.2⟩)⟩
    exact fun _ => ⟨_, _, rfl, fun h => by rw [if_neg (by omega)]⟩
  · rintro done a w hsz hnot hdep ⟨t14, t105, t106, t107, t108, t109, t110, t111, t112, t113, t114, rfl, gw, f0, f1, f2, f3, f4, f5, f6, f7, f8, f9, f10⟩ K hK
    have hn : ¬ done.getD 9 false = true := by rw [getD_both hnot]; decide
    have d4 := hdep 4 (by kernel_rfl)
    have d8 := hdep 8 (by kernel_rfl)
    have n9 := getD_both hnot
    obtain ⟨h0, h4⟩ := f4 d4
    obtain ⟨A, c2, rfl, hA⟩ := f8 d8
    have o1 := h4 n9
    refine step_append_gets _ rfl _ _ 39 rfl wr.heap.size 53 j0 (.agg #[.int .i64 0, .int .i64 0, .int .i64 0]) 3 24 Tryd.underlying39 hj hy0 hy1 hy2 rfl (by decide) t109 i ((core.take i).flatMap encM) (by simp [Act.eval, cr24A]) o1 A (core.length - (i + 1)) c2 ((core.drop (i + 1)).flatMap encM) (by simp [Act.eval, cr24A]) (gets_drop (Gr.owns H.down gw) hi rfl hA) (encMs_one _) (by unfold maxLen; omega) (by omega) gw.size ?_
    intro v w2 hown hgrow _
    rw [← List.flatMap_append] at hown
    refine hK _ _ ⟨_, _, _, _, _, _, _, _, _, _, _, rfl, gw.grown hgrow (fun k e => (owns_block o1 k e).1), fun q => (let ⟨E, e, h2⟩ := f0 (done_old q (by decide)); ⟨E, e, fun q2 => absurd q2 (by rw [done_keep d4]; decide)⟩), fun q => f1 (done_old q (by decide)), fun q => f2 (done_old q (by decide)), fun q => f3 (done_old q (by decide)), fun _ => ⟨done_keep h0, fun q => absurd q (by rw [getD_set_same (by rw [hsz]; decide)]; decide)⟩, fun q => f5 (done_old q (by decide)), fun q => f6 (done_old q (by decide)), fun q => f7 (done_old q (by decide)), fun _ => ⟨A, c2, rfl, hA⟩, ?_, fun q => absurd (f10 (done_old q (by decide))).1 hn⟩
    exact fun _ => ⟨⟨done_keep h0, done_keep d4⟩, hown⟩
  · rintro done a w hsz hnot hdep ⟨t14, t105, t106, t107, t108, t109, t110, t111, t112, t113, t114, rfl, gw, f0, f1, f2, f3, f4, f5, f6, f7, f8, f9, f10⟩ K hK
    have hn : ¬ done.getD 10 false = true := by rw [getD_both hnot]; decide
    have d9 := hdep 9 (by kernel_rfl)
    have HK := PLift.up hK
    clear hK 
    simp only [cr24A]
    go_simp
    have gg : Gr w w := Gr.refl _
    refine HK.down _ _ ⟨_, _, _, _, _, _, _, _, _, _, _, rfl, gw, fun q => (let ⟨E, e, h2⟩ := f0 (done_old q (by decide)); ⟨E, e, fun q2 => Gr.owns (h2 (by rw [getD_set_ne false (by decide)] at q2; exact q2)) gg⟩), fun q => f1 (done_old q (by decide)), fun q => f2 (done_old q (by decide)), fun q => f3 (done_old q (by decide)), fun q => (let h := f4 (done_old q (by decide)); ⟨done_keep h.1, fun q2 => Gr.owns (h.2 (by rw [getD_set_ne false (by decide)] at q2; exact q2)) gg⟩), fun q => f5 (done_old q (by decide)), fun q => f6 (done_old q (by decide)), fun q => f7 (done_old q (by decide)), fun q => f8 (done_old q (by decide)), fun q => (let h := f9 (done_old q (by decide)); ⟨⟨done_keep h.1.1, done_keep h.1.2⟩, Gr.owns h.2 gg⟩), ?_⟩
    exact fun _ => ⟨done_keep d9, rfl⟩
  · rintro done a w hall ⟨t14, t105, t106, t107, t108, t109, t110, t111, t112, t113, t114, rfl, gw, f0, f1, f2, f3, f4, f5, f6, f7, f8, f9, f10⟩
    obtain ⟨_, ho⟩ := f9 (hall 9 (by decide))
    obtain ⟨_, rfl⟩ := f10 (hall 10 (by decide))
    exact h' _ _ _ _ _ _ _ _ _ _ w gw ho
end Go.Proofs.YtenehghpmnajpaaDoor

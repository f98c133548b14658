/- A statement of LinkCircles by an invariant (printed by wip/tools/tfe.py). -/
import Derived.Test.YtdjhnfopdlgliaaTfD
set_option linter.unusedVariables false
set_option linter.unusedSimpArgs false
namespace Go.Proofs.Ytdjhnfopdlgliaa
open Go.RowKit
open Classical

theorem infoPr : (Try.prog.info? 29).map (fun i => (i.zero, i.size, i.bytes)) = some (some (.agg #[.string ⟨#[]⟩, .string ⟨#[]⟩]), 2, 32) := by kernel_rfl
theorem infoNd : (Try.prog.info? 26).map (fun i => (i.zero, i.size, i.bytes)) = some (some (.agg #[.int .i64 0, .string ⟨#[]⟩, .slice none 0 0]), 3, 48) := by kernel_rfl
theorem encPr_one (p : Prp) : ∀ u ∈ encPr p, u.oneCell' = true := by
  intro u hu
  unfold encPr at hu
  simp only [List.mem_cons, List.not_mem_nil, or_false] at hu
  rcases hu with rfl | rfl <;> rfl
/-- The properties are as they were, or have been appended to. -/
def StE (base : Nat) (wr : World) (va : Option Addr) (vc : Nat) (ps : List Prp) (p : Prp) (t : Value) (w : World) : Bool → Prop
  | false => Gr wr w
  | true => wr.grownBy w (Value.slice va ps.length vc).ownBlock ∧ w.ownsRow base 29 2 t (ps ++ [p]).length ((ps ++ [p]).flatMap encPr) ∧ (t.ownBlock = (Value.slice va ps.length vc).ownBlock ∨ ∃ k, t.ownBlock = some k ∧ wr.heap.size ≤ k)
structure GE (base : Nat) (wr : World) (NB : Nat) (nm : St) (va : Option Addr) (vc : Nat) (ps : List Prp) (p : Prp) (t : Value) (d : Array Bool) (w : World) : Prop where
  box : Row w NB 26 [.int .i64 0, .string (bs nm), .slice va ps.length vc]
  st : StE base wr va vc ps p t w (d.getD 8 false)
theorem GE.step {base : Nat} {wr : World} {NB : Nat} {nm : St} {va : Option Addr} {vc : Nat} {ps : List Prp} {p : Prp} {t : Value} {d : Array Bool} {w : World} {i : Nat} (h : GE base wr NB nm va vc ps p t d w) (h8 : i ≠ 8) : GE base wr NB nm va vc ps p t (d.setIfInBounds i true) w :=
  ⟨h.box, by rw [getD_set_ne false h8]; exact h.st⟩
/-- After the store. -/
def FinE (base : Nat) (wr : World) (NB : Nat) (nm : St) (va : Option Addr) (vc : Nat) (ps : List Prp) (p : Prp) (w : World) : Prop :=
  ∃ t w1, w = w1.setCell ⟨NB, 2, none⟩ t ∧ Row w1 NB 26 [.int .i64 0, .string (bs nm), .slice va ps.length vc] ∧ StE base wr va vc ps p t w1 true
/-- What is known of each slot as soon as its operation is done. -/
def lc16F (wr : World) (base NB : Nat) (nm : St) (va : Option Addr) (vc : Nat) (ps : List Prp) (q m : Nat) (t80 t81 t82 t83 t84 t85 t86 t87 t88 t89 : Value) (d : Array Bool) (w : World) : Prop :=
  (d.getD 10 false = false → GE base wr NB nm va vc ps (⟨phS, cellsS [q]⟩ : Prp) t88 d w) ∧ (d.getD 0 false = true → t80 = .pointer (some ⟨NB, 2, none⟩)) ∧
  (d.getD 1 false = true → t81 = .slice va ps.length vc) ∧
  (d.getD 2 false = true → t82 = .int .i64 (m : Int)) ∧
  (d.getD 3 false = true → t83 = .int .i64 (q : Int)) ∧
  (d.getD 4 false = true → ∃ B, t84 = .slice (some ⟨B, 0, none⟩) 1 1 ∧ (d.getD 8 false = false → Row w B 3 (nums (([q] : List Nat).map (fun n : Nat => (n : Int)))))) ∧
  (d.getD 5 false = true → (t85 = .string (bs (cellsS [q])) ∧ d.getD 4 false = true)) ∧
  (d.getD 6 false = true → (t86 = .agg #[.string (bs phS), .string (bs (cellsS [q]))] ∧ d.getD 4 false = true ∧ d.getD 5 false = true)) ∧
  (d.getD 7 false = true → (d.getD 4 false = true ∧ d.getD 5 false = true ∧ ∃ B, t87 = .slice (some ⟨B, 0, none⟩) 1 1 ∧ (d.getD 8 false = false → Row w B 29 (encPr (⟨phS, cellsS [q]⟩ : Prp))))) ∧
  (d.getD 8 false = true → (d.getD 1 false = true ∧ d.getD 4 false = true ∧ d.getD 5 false = true ∧ d.getD 7 false = true)) ∧
  (d.getD 9 false = true → t89 = .pointer (some ⟨NB, 2, none⟩)) ∧
  (d.getD 10 false = true → ((∀ j, j < 10 → d.getD j false = true) ∧ FinE base wr NB nm va vc ps (⟨phS, cellsS [q]⟩ : Prp) w))
/-- The frame. -/
def lc16A (NB m : Nat) (t80 t81 t82 t83 t84 t85 t86 t87 t88 t89 s0 s1 s2 s3 s4 s5 s6 s7 s8 s9 s10 s13 s14 s15 s16 s17 s18 s19 s20 s21 s22 s23 s24 s25 s26 s27 s28 s29 s30 s31 s32 s33 s34 s35 s36 s37 s38 s39 s40 s41 s42 s43 s44 s45 s46 s47 s48 s49 s50 s51 s52 s53 s54 s55 s56 s57 s58 s59 s60 s61 s62 s63 s64 s65 s66 s67 s68 s69 s70 s71 s72 s73 s74 s75 s76 s77 s78 s79 s90 s91 s92 s93 s94 s95 s96 s97 s98 s99 s100 s101 s102 s103 s104 s105 s106 s107 s108 s109 s110 s111 s112 s113 s114 s115 s116 s117 s118 s119 s120 s121 s122 s123 s124 s125 s126 s127 s128 s129 s130 s131 s132 s133 s134 s135 s136 s137 s138 s139 s140 s141 s142 s143 s144 s145 s146 s147 s148 s149 : Value) : Act := { tmps := #[s0, s1, s2, s3, s4, s5, s6, s7, s8, s9, s10, .int .i64 (m : Int), .pointer (some ⟨NB, 0, none⟩), s13, s14, s15, s16, s17, s18, s19, s20, s21, s22, s23, s24, s25, s26, s27, s28, s29, s30, s31, s32, s33, s34, s35, s36, s37, s38, s39, s40, s41, s42, s43, s44, s45, s46, s47, s48, s49, s50, s51, s52, s53, s54, s55, s56, s57, s58, s59, s60, s61, s62, s63, s64, s65, s66, s67, s68, s69, s70, s71, s72, s73, s74, s75, s76, s77, s78, s79, t80, t81, t82, t83, t84, t85, t86, t87, t88, t89, s90, s91, s92, s93, s94, s95, s96, s97, s98, s99, s100, s101, s102, s103, s104, s105, s106, s107, s108, s109, s110, s111, s112, s113, s114, s115, s116, s117, s118, s119, s120, s121, s122, s123, s124, s125, s126, s127, s128, s129, s130, s131, s132, s133, s134, s135, s136, s137, s138, s139, s140, s141, s142, s143, s144, s145, s146, s147, s148, s149], defers := [] }

set_option maxRecDepth 100000 in
set_option maxHeartbeats 4000000 in
theorem lc16 {Q : Exit → Act → World → Prop} {wr : World} {base NB : Nat} {nm : St} {va : Option Addr} {vc : Nat} {ps : List Prp} {q m : Nat}  {s0 s1 s2 s3 s4 s5 s6 s7 s8 s9 s10 s13 s14 s15 s16 s17 s18 s19 s20 s21 s22 s23 s24 s25 s26 s27 s28 s29 s30 s31 s32 s33 s34 s35 s36 s37 s38 s39 s40 s41 s42 s43 s44 s45 s46 s47 s48 s49 s50 s51 s52 s53 s54 s55 s56 s57 s58 s59 s60 s61 s62 s63 s64 s65 s66 s67 s68 s69 s70 s71 s72 s73 s74 s75 s76 s77 s78 s79 s80 s81 s82 s83 s84 s85 s86 s87 s88 s89 s90 s91 s92 s93 s94 s95 s96 s97 s98 s99 s100 s101 s102 s103 s104 s105 s106 s107 s108 s109 s110 s111 s112 s113 s114 s115 s116 s117 s118 s119 s120 s121 s122 s123 s124 s125 s126 s127 s128 s129 s130 s131 s132 s133 s134 s135 s136 s137 s138 s139 s140 s141 s142 s143 s144 s145 s146 s147 s148 s149 : Value} (hbox : Row wr NB 26 [.int .i64 0, .string (bs nm), .slice va ps.length vc]) (how : wr.ownsRow base 29 2 (.slice va ps.length vc) ps.length (ps.flatMap encPr)) (hpl : ps.length ≤ 1000) (hbs : base ≤ wr.heap.size) (hq : (100 : Int) + (m : Int) = (q : Int) ∧ q ≤ 1000)
    (h' : ∀ t80 t81 t82 t83 t84 t85 t86 t87 t88 t89 wx, FinE base wr NB nm va vc ps (⟨phS, cellsS [q]⟩ : Prp) wx → Q .normal (lc16A NB m t80 t81 t82 t83 t84 t85 t86 t87 t88 t89 s0 s1 s2 s3 s4 s5 s6 s7 s8 s9 s10 s13 s14 s15 s16 s17 s18 s19 s20 s21 s22 s23 s24 s25 s26 s27 s28 s29 s30 s31 s32 s33 s34 s35 s36 s37 s38 s39 s40 s41 s42 s43 s44 s45 s46 s47 s48 s49 s50 s51 s52 s53 s54 s55 s56 s57 s58 s59 s60 s61 s62 s63 s64 s65 s66 s67 s68 s69 s70 s71 s72 s73 s74 s75 s76 s77 s78 s79 s90 s91 s92 s93 s94 s95 s96 s97 s98 s99 s100 s101 s102 s103 s104 s105 s106 s107 s108 s109 s110 s111 s112 s113 s114 s115 s116 s117 s118 s119 s120 s121 s122 s123 s124 s125 s126 s127 s128 s129 s130 s131 s132 s133 s134 s135 s136 s137 s138 s139 s140 s141 s142 s143 s144 s145 s146 s147 s148 s149) wx) :
    (Code.region 16 (regIn 16 Try.f4) true).wp Try.prog Q { tmps := #[s0, s1, s2, s3, s4, s5, s6, s7, s8, s9, s10, .int .i64 (m : Int), .pointer (some ⟨NB, 0, none⟩), s13, s14, s15, s16, s17, s18, s19, s20, s21, s22, s23, s24, s25, s26, s27, s28, s29, s30, s31, s32, s33, s34, s35, s36, s37, s38, s39, s40, s41, s42, s43, s44, s45, s46, s47, s48, s49, s50, s51, s52, s53, s54, s55, s56, s57, s58, s59, s60, s61, s62, s63, s64, s65, s66, s67, s68, s69, s70, s71, s72, s73, s74, s75, s76, s77, s78, s79, s80, s81, s82, s83, s84, s85, s86, s87, s88, s89, s90, s91, s92, s93, s94, s95, s96, s97, s98, s99, s100, s101, s102, s103, s104, s105, s106, s107, s108, s109, s110, s111, s112, s113, s114, s115, s116, s117, s118, s119, s120, s121, s122, s123, s124, s125, s126, s127, s128, s129, s130, s131, s132, s133, s134, s135, s136, s137, s138, s139, s140, s141, s142, s143, s144, s145, s146, s147, s148, s149], defers := [] } wr := by
  have HBX := PLift.up hbox
  have HOW := PLift.up how
  have HPL := PLift.up hpl
  have HBS := PLift.up hbs
  have HQ := PLift.up hq
  clear hbox how hpl hbs hq
  obtain ⟨j0, hj, hy0, hy1, hy2⟩ := info_parts infoPr
  simp only [regIn, Try.f4, regOps, Option.bind_some, Option.getD_some, Nat.beq, cond_true, cond_false]
  refine wp_region_steps (fun done a w => ∃ t80 t81 t82 t83 t84 t85 t86 t87 t88 t89, a = lc16A NB m t80 t81 t82 t83 t84 t85 t86 t87 t88 t89 s0 s1 s2 s3 s4 s5 s6 s7 s8 s9 s10 s13 s14 s15 s16 s17 s18 s19 s20 s21 s22 s23 s24 s25 s26 s27 s28 s29 s30 s31 s32 s33 s34 s35 s36 s37 s38 s39 s40 s41 s42 s43 s44 s45 s46 s47 s48 s49 s50 s51 s52 s53 s54 s55 s56 s57 s58 s59 s60 s61 s62 s63 s64 s65 s66 s67 s68 s69 s70 s71 s72 s73 s74 s75 s76 s77 s78 s79 s90 s91 s92 s93 s94 s95 s96 s97 s98 s99 s100 s101 s102 s103 s104 s105 s106 s107 s108 s109 s110 s111 s112 s113 s114 s115 s116 s117 s118 s119 s120 s121 s122 s123 s124 s125 s126 s127 s128 s129 s130 s131 s132 s133 s134 s135 s136 s137 s138 s139 s140 s141 s142 s143 s144 s145 s146 s147 s148 s149 ∧ lc16F wr base NB nm va vc ps q m t80 t81 t82 t83 t84 t85 t86 t87 t88 t89 done w) (by kernel_rfl) (by kernel_rfl) ?_ ⟨?_, ?_, ?_, ?_, ?_, ?_, ?_, ?_, ?_, ?_, ?_, trivial⟩ ?_
  · exact ⟨s80, s81, s82, s83, s84, s85, s86, s87, s88, s89, rfl, fun _ => ⟨HBX.down.drew, (Gr.refl _).drew⟩, fun q => absurd q (by decide), fun q => absurd q (by decide), fun q => absurd q (by decide), fun q => absurd q (by decide), fun q => absurd q (by decide), fun q => absurd q (by decide), fun q => absurd q (by decide), fun q => absurd q (by decide), fun q => absurd q (by decide), fun q => absurd q (by decide), fun q => absurd q (by decide)⟩
  · rintro done a w hsz hnot hdep ⟨t80, t81, t82, t83, t84, t85, t86, t87, t88, t89, rfl, gw, f0, f1, f2, f3, f4, f5, f6, f7, f8, f9, f10⟩ K hK
    have hn : ¬ done.getD 0 false = true := by rw [getD_both hnot]; decide
    have n10 : done.getD 10 false = false := by
      cases e : done.getD 10 false with
      | false => rfl
      | true => exact absurd ((f10 e).1 0 (by decide)) hn
    replace gw := gw n10
    have HK := PLift.up hK
    clear hK 
    simp only [lc16A]
    go_simp
    have gg : Gr w w := Gr.refl _
    refine HK.down _ _ ⟨_, _, _, _, _, _, _, _, _, _, rfl, fun _ => gw.step (by decide), fun _ => rfl, fun q => f1 (done_old q (by decide)), fun q => f2 (done_old q (by decide)), fun q => f3 (done_old q (by decide)), fun q => (let ⟨B, e, h2⟩ := f4 (done_old q (by decide)); ⟨B, e, fun q2 => (h2 (by rw [getD_set_ne false (by decide)] at q2; exact q2)).gr gg⟩), fun q => (let h := f5 (done_old q (by decide)); ⟨h.1, getD_set_true h.2⟩), fun q => (let h := f6 (done_old q (by decide)); ⟨h.1, getD_set_true h.2.1, getD_set_true h.2.2⟩), fun q => (let ⟨e4, e5, B, e, h2⟩ := f7 (done_old q (by decide)); ⟨getD_set_true e4, getD_set_true e5, B, e, fun q2 => (h2 (by rw [getD_set_ne false (by decide)] at q2; exact q2)).gr gg⟩), fun q => (let h := f8 (done_old q (by decide)); ⟨getD_set_true h.1, getD_set_true h.2.1, getD_set_true h.2.2.1, getD_set_true h.2.2.2⟩), fun q => f9 (done_old q (by decide)), fun q => absurd ((f10 (done_old q (by decide))).1 0 (by decide)) hn⟩
  · rintro done a w hsz hnot hdep ⟨t80, t81, t82, t83, t84, t85, t86, t87, t88, t89, rfl, gw, f0, f1, f2, f3, f4, f5, f6, f7, f8, f9, f10⟩ K hK
    have hn : ¬ done.getD 1 false = true := by rw [getD_both hnot]; decide
    have d0 := hdep 0 (by kernel_rfl)
    obtain rfl := f0 d0
    have n10 : done.getD 10 false = false := by
      cases e : done.getD 10 false with
      | false => rfl
      | true => exact absurd ((f10 e).1 1 (by decide)) hn
    replace gw := gw n10
    have c2 : w.cell? ⟨NB, 2, none⟩ = some (.slice va ps.length vc) := gw.box.cell 2 (by simp)
    have ch := has_of_cell c2
    have HK := PLift.up hK
    clear hK d0
    simp only [lc16A]
    go_simp
    have gg : Gr w w := Gr.refl _
    refine HK.down _ _ ⟨_, _, _, _, _, _, _, _, _, _, rfl, fun _ => gw.step (by decide), fun q => f0 (done_old q (by decide)), fun _ => rfl, fun q => f2 (done_old q (by decide)), fun q => f3 (done_old q (by decide)), fun q => (let ⟨B, e, h2⟩ := f4 (done_old q (by decide)); ⟨B, e, fun q2 => (h2 (by rw [getD_set_ne false (by decide)] at q2; exact q2)).gr gg⟩), fun q => (let h := f5 (done_old q (by decide)); ⟨h.1, getD_set_true h.2⟩), fun q => (let h := f6 (done_old q (by decide)); ⟨h.1, getD_set_true h.2.1, getD_set_true h.2.2⟩), fun q => (let ⟨e4, e5, B, e, h2⟩ := f7 (done_old q (by decide)); ⟨getD_set_true e4, getD_set_true e5, B, e, fun q2 => (h2 (by rw [getD_set_ne false (by decide)] at q2; exact q2)).gr gg⟩), fun q => absurd (f8 (done_old q (by decide))).1 hn, fun q => f9 (done_old q (by decide)), fun q => absurd ((f10 (done_old q (by decide))).1 1 (by decide)) hn⟩
  · rintro done a w hsz hnot hdep ⟨t80, t81, t82, t83, t84, t85, t86, t87, t88, t89, rfl, gw, f0, f1, f2, f3, f4, f5, f6, f7, f8, f9, f10⟩ K hK
    have hn : ¬ done.getD 2 false = true := by rw [getD_both hnot]; decide
    have n10 : done.getD 10 false = false := by
      cases e : done.getD 10 false with
      | false => rfl
      | true => exact absurd ((f10 e).1 2 (by decide)) hn
    replace gw := gw n10
    have HK := PLift.up hK
    clear hK 
    simp only [lc16A]
    go_simp
    have gg : Gr w w := Gr.refl _
    refine HK.down _ _ ⟨_, _, _, _, _, _, _, _, _, _, rfl, fun _ => gw.step (by decide), fun q => f0 (done_old q (by decide)), fun q => f1 (done_old q (by decide)), fun _ => rfl, fun q => f3 (done_old q (by decide)), fun q => (let ⟨B, e, h2⟩ := f4 (done_old q (by decide)); ⟨B, e, fun q2 => (h2 (by rw [getD_set_ne false (by decide)] at q2; exact q2)).gr gg⟩), fun q => (let h := f5 (done_old q (by decide)); ⟨h.1, getD_set_true h.2⟩), fun q => (let h := f6 (done_old q (by decide)); ⟨h.1, getD_set_true h.2.1, getD_set_true h.2.2⟩), fun q => (let ⟨e4, e5, B, e, h2⟩ := f7 (done_old q (by decide)); ⟨getD_set_true e4, getD_set_true e5, B, e, fun q2 => (h2 (by rw [getD_set_ne false (by decide)] at q2; exact q2)).gr gg⟩), fun q => (let h := f8 (done_old q (by decide)); ⟨getD_set_true h.1, getD_set_true h.2.1, getD_set_true h.2.2.1, getD_set_true h.2.2.2⟩), fun q => f9 (done_old q (by decide)), fun q => absurd ((f10 (done_old q (by decide))).1 2 (by decide)) hn⟩
  · rintro done a w hsz hnot hdep ⟨t80, t81, t82, t83, t84, t85, t86, t87, t88, t89, rfl, gw, f0, f1, f2, f3, f4, f5, f6, f7, f8, f9, f10⟩ K hK
    have hn : ¬ done.getD 3 false = true := by rw [getD_both hnot]; decide
    have d2 := hdep 2 (by kernel_rfl)
    obtain rfl := f2 d2
    have n10 : done.getD 10 false = false := by
      cases e : done.getD 10 false with
      | false => rfl
      | true => exact absurd ((f10 e).1 3 (by decide)) hn
    replace gw := gw n10
    have kq := HQ.down.1
    have kb := HQ.down.2
    have sw : IntKind.i64.wrap (q : Int) = (q : Int) := by rw [IntKind.wrap_i64]; omega
    have HK := PLift.up hK
    clear hK d2
    simp only [lc16A]
    go_simp
    have gg : Gr w w := Gr.refl _
    refine HK.down _ _ ⟨_, _, _, _, _, _, _, _, _, _, rfl, fun _ => gw.step (by decide), fun q => f0 (done_old q (by decide)), fun q => f1 (done_old q (by decide)), fun q => f2 (done_old q (by decide)), fun _ => rfl, fun q => (let ⟨B, e, h2⟩ := f4 (done_old q (by decide)); ⟨B, e, fun q2 => (h2 (by rw [getD_set_ne false (by decide)] at q2; exact q2)).gr gg⟩), fun q => (let h := f5 (done_old q (by decide)); ⟨h.1, getD_set_true h.2⟩), fun q => (let h := f6 (done_old q (by decide)); ⟨h.1, getD_set_true h.2.1, getD_set_true h.2.2⟩), fun q => (let ⟨e4, e5, B, e, h2⟩ := f7 (done_old q (by decide)); ⟨getD_set_true e4, getD_set_true e5, B, e, fun q2 => (h2 (by rw [getD_set_ne false (by decide)] at q2; exact q2)).gr gg⟩), fun q => (let h := f8 (done_old q (by decide)); ⟨getD_set_true h.1, getD_set_true h.2.1, getD_set_true h.2.2.1, getD_set_true h.2.2.2⟩), fun q => f9 (done_old q (by decide)), fun q => absurd ((f10 (done_old q (by decide))).1 3 (by decide)) hn⟩
  · rintro done a w hsz hnot hdep ⟨t80, t81, t82, t83, t84, t85, t86, t87, t88, t89, rfl, gw, f0, f1, f2, f3, f4, f5, f6, f7, f8, f9, f10⟩ K hK
    have hn : ¬ done.getD 4 false = true := by rw [getD_both hnot]; decide
    have d3 := hdep 3 (by kernel_rfl)
    obtain rfl := f3 d3
    have n10 : done.getD 10 false = false := by
      cases e : done.getD 10 false with
      | false => rfl
      | true => exact absurd ((f10 e).1 4 (by decide)) hn
    replace gw := gw n10
    have n8 : done.getD 8 false = false := by
      cases e : done.getD 8 false with
      | false => rfl
      | true => exact absurd ((f8 e).2.1) hn
    have N8 := PLift.up n8
    clear n8
    have HK := PLift.up hK
    clear hK d3
    simp only [lc16A]
    go_simp
    have gg : Gr w (w.alloc (.cells #[.int .i64 (q : Int)] 3)) := (Gr.refl _).alloc _
    refine HK.down _ _ ⟨_, _, _, _, _, _, _, _, _, _, rfl, fun _ => ⟨gw.box.gr gg, by rw [getD_set_ne false (by decide), N8.down]; exact Gr.trans (by have := gw.st; rw [N8.down] at this; exact this) gg⟩, fun q => f0 (done_old q (by decide)), fun q => f1 (done_old q (by decide)), fun q => f2 (done_old q (by decide)), fun q => f3 (done_old q (by decide)), ?_, fun q => absurd (f5 (done_old q (by decide))).2 hn, fun q => absurd (f6 (done_old q (by decide))).2.1 hn, fun q => absurd (f7 (done_old q (by decide))).1 hn, fun q => absurd (f8 (done_old q (by decide))).2.1 hn, fun q => f9 (done_old q (by decide)), fun q => absurd ((f10 (done_old q (by decide))).1 4 (by decide)) hn⟩
    exact fun _ => ⟨_, rfl, fun _ => Row.new w _ _⟩
  · rintro done a w hsz hnot hdep ⟨t80, t81, t82, t83, t84, t85, t86, t87, t88, t89, rfl, gw, f0, f1, f2, f3, f4, f5, f6, f7, f8, f9, f10⟩ K hK
    have hn : ¬ done.getD 5 false = true := by rw [getD_both hnot]; decide
    have d4 := hdep 4 (by kernel_rfl)
    have n10 : done.getD 10 false = false := by
      cases e : done.getD 10 false with
      | false => rfl
      | true => exact absurd ((f10 e).1 5 (by decide)) hn
    replace gw := gw n10
    have n8 : done.getD 8 false = false := by
      cases e : done.getD 8 false with
      | false => rfl
      | true => exact absurd ((f8 e).2.2.1) hn
    have N8 := PLift.up n8
    obtain ⟨B4, rfl, r4⟩ := f4 d4
    have R4 := PLift.up r4
    have SL4 := PLift.up (ints_row (r4 n8) (by intro z hz; rw [List.mem_singleton.1 hz]; have := HQ.down.2; omega))
    have D4 := PLift.up d4
    clear n8 r4
    have HK := PLift.up hK
    clear hK 
    simp only [lc16A]
    go_simp
    refine (growCells_any [q] (some ⟨B4, 0, none⟩) 1 w SL4.down (by intro z hz; rw [List.mem_singleton.1 hz]; have := HQ.down.2; omega) (by simp) (by simp)).mono ?_
    rintro e w2 ⟨rfl, hg⟩
    have gg : Gr w w2 := hg
    clear hg
    (try go_simp)
    refine HK.down _ _ ⟨_, _, _, _, _, _, _, _, _, _, rfl, fun _ => ⟨gw.box.gr gg, by rw [getD_set_ne false (by decide), N8.down]; exact Gr.trans (by have := gw.st; rw [N8.down] at this; exact this) gg⟩, fun q => f0 (done_old q (by decide)), fun q => f1 (done_old q (by decide)), fun q => f2 (done_old q (by decide)), fun q => f3 (done_old q (by decide)), fun q => ⟨B4, rfl, fun q2 => (R4.down (by rw [getD_set_ne false (by decide)] at q2; exact q2)).gr gg⟩, ?_, fun q => absurd (f6 (done_old q (by decide))).2.2 hn, fun q => absurd (f7 (done_old q (by decide))).2.1 hn, fun q => absurd (f8 (done_old q (by decide))).2.2.1 hn, fun q => f9 (done_old q (by decide)), fun q => absurd ((f10 (done_old q (by decide))).1 5 (by decide)) hn⟩
    exact fun _ => ⟨rfl, getD_set_true D4.down⟩
  · rintro done a w hsz hnot hdep ⟨t80, t81, t82, t83, t84, t85, t86, t87, t88, t89, rfl, gw, f0, f1, f2, f3, f4, f5, f6, f7, f8, f9, f10⟩ K hK
    have hn : ¬ done.getD 6 false = true := by rw [getD_both hnot]; decide
    have d5 := hdep 5 (by kernel_rfl)
    have n10 : done.getD 10 false = false := by
      cases e : done.getD 10 false with
      | false => rfl
      | true => exact absurd ((f10 e).1 6 (by decide)) hn
    replace gw := gw n10
    obtain ⟨rfl, e4⟩ := f5 d5
    have D4 := PLift.up e4
    have D5 := PLift.up d5
    clear e4 d5
    have HK := PLift.up hK
    clear hK 
    simp only [lc16A]
    go_simp
    have gg : Gr w w := Gr.refl _
    refine HK.down _ _ ⟨_, _, _, _, _, _, _, _, _, _, rfl, fun _ => gw.step (by decide), fun q => f0 (done_old q (by decide)), fun q => f1 (done_old q (by decide)), fun q => f2 (done_old q (by decide)), fun q => f3 (done_old q (by decide)), fun q => (let ⟨B, e, h2⟩ := f4 (done_old q (by decide)); ⟨B, e, fun q2 => (h2 (by rw [getD_set_ne false (by decide)] at q2; exact q2)).gr gg⟩), fun _ => ⟨rfl, getD_set_true D4.down⟩, ?_, fun q => (let ⟨e4, e5, B, e, h2⟩ := f7 (done_old q (by decide)); ⟨getD_set_true e4, getD_set_true e5, B, e, fun q2 => (h2 (by rw [getD_set_ne false (by decide)] at q2; exact q2)).gr gg⟩), fun q => (let h := f8 (done_old q (by decide)); ⟨getD_set_true h.1, getD_set_true h.2.1, getD_set_true h.2.2.1, getD_set_true h.2.2.2⟩), fun q => f9 (done_old q (by decide)), fun q => absurd ((f10 (done_old q (by decide))).1 6 (by decide)) hn⟩
    exact fun _ => ⟨rfl, getD_set_true D4.down, getD_set_true D5.down⟩
  · rintro done a w hsz hnot hdep ⟨t80, t81, t82, t83, t84, t85, t86, t87, t88, t89, rfl, gw, f0, f1, f2, f3, f4, f5, f6, f7, f8, f9, f10⟩ K hK
    have hn : ¬ done.getD 7 false = true := by rw [getD_both hnot]; decide
    have d6 := hdep 6 (by kernel_rfl)
    have n10 : done.getD 10 false = false := by
      cases e : done.getD 10 false with
      | false => rfl
      | true => exact absurd ((f10 e).1 7 (by decide)) hn
    replace gw := gw n10
    have n8 : done.getD 8 false = false := by
      cases e : done.getD 8 false with
      | false => rfl
      | true => exact absurd ((f8 e).2.2.2) hn
    have N8 := PLift.up n8
    obtain ⟨rfl, e4, e5⟩ := f6 d6
    have D4 := PLift.up e4
    have D5 := PLift.up e5
    clear n8 e4 e5 d6
    have HK := PLift.up hK
    clear hK 
    simp only [lc16A]
    go_simp
    have gg : Gr w (w.alloc (.cells #[.string (bs phS), .string (bs (cellsS [q]))] 29)) := (Gr.refl _).alloc _
    refine HK.down _ _ ⟨_, _, _, _, _, _, _, _, _, _, rfl, fun _ => ⟨gw.box.gr gg, by rw [getD_set_ne false (by decide), N8.down]; exact Gr.trans (by have := gw.st; rw [N8.down] at this; exact this) gg⟩, fun q => f0 (done_old q (by decide)), fun q => f1 (done_old q (by decide)), fun q => f2 (done_old q (by decide)), fun q => f3 (done_old q (by decide)), fun q => (let ⟨B, e, h2⟩ := f4 (done_old q (by decide)); ⟨B, e, fun q2 => (h2 (by rw [getD_set_ne false (by decide)] at q2; exact q2)).gr gg⟩), fun q => (let h := f5 (done_old q (by decide)); ⟨h.1, getD_set_true h.2⟩), fun _ => ⟨rfl, getD_set_true D4.down, getD_set_true D5.down⟩, ?_, fun q => absurd (f8 (done_old q (by decide))).2.2.2 hn, fun q => f9 (done_old q (by decide)), fun q => absurd ((f10 (done_old q (by decide))).1 7 (by decide)) hn⟩
    exact fun _ => ⟨getD_set_true D4.down, getD_set_true D5.down, _, rfl, fun _ => Row.new w _ _⟩
  · rintro done a w hsz hnot hdep ⟨t80, t81, t82, t83, t84, t85, t86, t87, t88, t89, rfl, gw, f0, f1, f2, f3, f4, f5, f6, f7, f8, f9, f10⟩ K hK
    have hn : ¬ done.getD 8 false = true := by rw [getD_both hnot]; decide
    have d1 := hdep 1 (by kernel_rfl)
    have d7 := hdep 7 (by kernel_rfl)
    obtain rfl := f1 d1
    have n10 : done.getD 10 false = false := by
      cases e : done.getD 10 false with
      | false => rfl
      | true => exact absurd ((f10 e).1 8 (by decide)) hn
    replace gw := gw n10
    have n8 := getD_both hnot
    obtain ⟨e4, e5, B, rfl, r3⟩ := f7 d7
    have gx : Gr wr w := by have := gw.st; rw [n8] at this; exact this
    refine step_append_gets _ rfl _ _ 24 rfl base 29 j0 (.agg #[.string ⟨#[]⟩, .string ⟨#[]⟩]) 2 32 Try.underlying24 hj hy0 hy1 hy2 rfl (by decide) (.slice va ps.length vc) ps.length (ps.flatMap encPr) (by simp [Act.eval, lc16A]) (Gr.owns HOW.down gx) (some ⟨B, 0, none⟩) 1 1 (encPr (⟨phS, cellsS [q]⟩ : Prp)) (by simp [Act.eval, lc16A]) ⟨rfl, fun _ => ⟨_, rfl, row_cells (r3 n8)⟩⟩ (encPr_one _) (by unfold maxLen; have := HPL.down; omega) (by have := HPL.down; omega) (by have := gx.size; have := HBS.down; omega) ?_
    intro v w2 hown hgrow hloc
    refine hK _ _ ⟨_, _, _, _, _, _, _, _, _, _, rfl, fun _ => ⟨gw.box.kept hgrow (gw.box.ty.ne (Gr.owns HOW.down gx) (by decide)), by rw [getD_set_same (by rw [hsz]; decide)]; exact ⟨grown_after gx hgrow, by rw [List.length_append, List.flatMap_append]; simpa using hown, hloc.imp id (fun e => ⟨_, e, gx.size⟩)⟩⟩, fun q => f0 (done_old q (by decide)), fun q => f1 (done_old q (by decide)), fun q => f2 (done_old q (by decide)), fun q => f3 (done_old q (by decide)), fun q => (let ⟨B, e, _⟩ := f4 (done_old q (by decide)); ⟨B, e, fun q2 => absurd q2 (by rw [getD_set_same (by rw [hsz]; decide)]; decide)⟩), fun q => (let h := f5 (done_old q (by decide)); ⟨h.1, getD_set_true h.2⟩), fun q => (let h := f6 (done_old q (by decide)); ⟨h.1, getD_set_true h.2.1, getD_set_true h.2.2⟩), fun _ => ⟨getD_set_true e4, getD_set_true e5, B, rfl, fun q => absurd q (by rw [getD_set_same (by rw [hsz]; decide)]; decide)⟩, ?_, fun q => f9 (done_old q (by decide)), fun q => absurd ((f10 (done_old q (by decide))).1 8 (by decide)) hn⟩
    exact fun _ => ⟨getD_set_true d1, getD_set_true e4, getD_set_true e5, getD_set_true d7⟩
  · rintro done a w hsz hnot hdep ⟨t80, t81, t82, t83, t84, t85, t86, t87, t88, t89, rfl, gw, f0, f1, f2, f3, f4, f5, f6, f7, f8, f9, f10⟩ K hK
    have hn : ¬ done.getD 9 false = true := by rw [getD_both hnot]; decide
    have n10 : done.getD 10 false = false := by
      cases e : done.getD 10 false with
      | false => rfl
      | true => exact absurd ((f10 e).1 9 (by decide)) hn
    replace gw := gw n10
    have HK := PLift.up hK
    clear hK 
    simp only [lc16A]
    go_simp
    have gg : Gr w w := Gr.refl _
    refine HK.down _ _ ⟨_, _, _, _, _, _, _, _, _, _, rfl, fun _ => gw.step (by decide), fun q => f0 (done_old q (by decide)), fun q => f1 (done_old q (by decide)), fun q => f2 (done_old q (by decide)), fun q => f3 (done_old q (by decide)), fun q => (let ⟨B, e, h2⟩ := f4 (done_old q (by decide)); ⟨B, e, fun q2 => (h2 (by rw [getD_set_ne false (by decide)] at q2; exact q2)).gr gg⟩), fun q => (let h := f5 (done_old q (by decide)); ⟨h.1, getD_set_true h.2⟩), fun q => (let h := f6 (done_old q (by decide)); ⟨h.1, getD_set_true h.2.1, getD_set_true h.2.2⟩), fun q => (let ⟨e4, e5, B, e, h2⟩ := f7 (done_old q (by decide)); ⟨getD_set_true e4, getD_set_true e5, B, e, fun q2 => (h2 (by rw [getD_set_ne false (by decide)] at q2; exact q2)).gr gg⟩), fun q => (let h := f8 (done_old q (by decide)); ⟨getD_set_true h.1, getD_set_true h.2.1, getD_set_true h.2.2.1, getD_set_true h.2.2.2⟩), fun _ => rfl, fun q => absurd ((f10 (done_old q (by decide))).1 9 (by decide)) hn⟩
  · rintro done a w hsz hnot hdep ⟨t80, t81, t82, t83, t84, t85, t86, t87, t88, t89, rfl, gw, f0, f1, f2, f3, f4, f5, f6, f7, f8, f9, f10⟩ K hK
    have hn : ¬ done.getD 10 false = true := by rw [getD_both hnot]; decide
    have d0 := hdep 0 (by kernel_rfl)
    have d1 := hdep 1 (by kernel_rfl)
    have d2 := hdep 2 (by kernel_rfl)
    have d3 := hdep 3 (by kernel_rfl)
    have d4 := hdep 4 (by kernel_rfl)
    have d5 := hdep 5 (by kernel_rfl)
    have d6 := hdep 6 (by kernel_rfl)
    have d7 := hdep 7 (by kernel_rfl)
    have d8 := hdep 8 (by kernel_rfl)
    have d9 := hdep 9 (by kernel_rfl)
    obtain rfl := f0 d0
    obtain rfl := f1 d1
    obtain rfl := f2 d2
    obtain rfl := f3 d3
    obtain rfl := f9 d9
    have n10 := getD_both hnot
    have g1 := gw n10
    have s1 : StE base wr va vc ps (⟨phS, cellsS [q]⟩ : Prp) t88 w true := by have := g1.st; rwa [d8] at this
    obtain ⟨a5, c5, e5⟩ := owns_slice s1.2.1
    rw [List.length_append] at e5
    simp only [List.length_cons, List.length_nil, Nat.zero_add] at e5
    have D8 := PLift.up d8
    have c9 : w.cell? ⟨NB, 2, none⟩ = some (.slice va ps.length vc) := g1.box.cell 2 (by simp)
    have cf := g1.box.free 2
    have ch := has_of_cell c9
    have FN := PLift.up (show FinE base wr NB nm va vc ps (⟨phS, cellsS [q]⟩ : Prp) (w.setCell ⟨NB, 2, none⟩ t88) from ⟨t88, w, rfl, g1.box, s1⟩)
    have F4 := PLift.up (f4 d4)
    have F5 := PLift.up (f5 d5)
    have F6 := PLift.up (f6 d6)
    have F7 := PLift.up (f7 d7)
    have DD := PLift.up (show ∀ j, j < 10 → done.getD j false = true from by intro j hj; match j, hj with | 0, _ => exact d0 | 1, _ => exact d1 | 2, _ => exact d2 | 3, _ => exact d3 | 4, _ => exact d4 | 5, _ => exact d5 | 6, _ => exact d6 | 7, _ => exact d7 | 8, _ => exact d8 | 9, _ => exact d9)
    subst e5
    have HK := PLift.up hK
    clear hK s1 g1 n10 f4 f5 f6 f7
    simp only [lc16A]
    go_simp
    refine HK.down _ _ ⟨_, _, _, _, _, _, _, _, _, _, rfl, fun q => absurd q (by rw [getD_set_same (by rw [hsz]; decide)]; decide), fun q => f0 (done_old q (by decide)), fun q => f1 (done_old q (by decide)), fun q => f2 (done_old q (by decide)), fun q => f3 (done_old q (by decide)), fun q => (let ⟨B, e, _⟩ := F4.down; ⟨B, e, fun q2 => absurd (getD_set_true D8.down) (by rw [q2]; decide)⟩), fun q => (let h := F5.down; ⟨h.1, getD_set_true h.2⟩), fun q => (let h := F6.down; ⟨h.1, getD_set_true h.2.1, getD_set_true h.2.2⟩), fun q => (let ⟨e4, e5, B, e, _⟩ := F7.down; ⟨getD_set_true e4, getD_set_true e5, B, e, fun q2 => absurd (getD_set_true D8.down) (by rw [q2]; decide)⟩), fun q => (let h := f8 (done_old q (by decide)); ⟨getD_set_true h.1, getD_set_true h.2.1, getD_set_true h.2.2.1, getD_set_true h.2.2.2⟩), fun q => f9 (done_old q (by decide)), ?_⟩
    exact fun _ => ⟨fun j hj => getD_set_true (DD.down j hj), FN.down⟩
  · rintro done a w hall ⟨t80, t81, t82, t83, t84, t85, t86, t87, t88, t89, rfl, gw, f0, f1, f2, f3, f4, f5, f6, f7, f8, f9, f10⟩
    exact h' _ _ _ _ _ _ _ _ _ _ w (f10 (hall 10 (by decide))).2
end Go.Proofs.Ytdjhnfopdlgliaa

/- A statement of bringuplaw17.bent by an invariant (printed by wip/tools/bent18.py). -/
import Derived.Test.YtenehghpmnajpaaDoorBnC
set_option linter.unusedVariables false
set_option linter.unusedSimpArgs false
namespace Go.Proofs.YtenehghpmnajpaaDoor
open Go.RowKit
open Classical

theorem BSt.mid {b len : Nat} {w W W' : World} {xs : List BT} {g cap : Nat} (h : BSt b len w xs g cap W) {k : Nat} (hk : k < xs.length) (hg : W.grownBy W' (blk xs[k])) : W'.cell? ⟨g, k * 3 + 2, none⟩ = some (.slice xs[k].2.1 xs[k].1.next.length xs[k].2.2) ∧ W'.frozen? ⟨g, k * 3 + 2, none⟩ = false ∧ Has W' g := by
  have ho : W'.ownsRow w.heap.size 76 3 (.slice (some ⟨g, 0, none⟩) xs.length cap) xs.length (xs.flatMap encN) := h.own.kept hg (owns_two (h.nxt.own _ (List.getElem_mem hk)) h.own (by decide))
  have c2 := ((ho.cellAt (k * 3 + 2) (by omega)).trans (h.own.cellAt (k * 3 + 2) (by omega)).symm).trans (h.at hk).2.2.1
  exact ⟨c2, ho.frozenAt _, has_of_cell c2⟩
/-- What is known of each slot as soon as its operation is done. -/
def bn18F (wb wr : World) (b len n : Nat) (xs : List BT) (gx cap k : Nat) (bx : Brn) (ax : Option Addr) (cx : Nat) (t61 t62 t63 t64 t65 t66 t67 t68 t69 t70 t71 t72 t73 t74 : Value) (d : Array Bool) (w : World) : Prop :=
  (d.getD 11 false = true ∨ BSt b len wb xs gx cap w) ∧ (d.getD 0 false = true → t61 = .pointer (some ⟨gx, k * 3, none⟩)) ∧
  (d.getD 1 false = true → t62 = .pointer (some ⟨gx, k * 3, none⟩)) ∧
  (d.getD 2 false = true → t63 = .pointer (some ⟨gx, k * 3, none⟩)) ∧
  (d.getD 3 false = true → t64 = .pointer (some ⟨gx, k * 3 + 2, none⟩)) ∧
  (d.getD 4 false = true → t65 = .slice ax bx.next.length cx) ∧
  (d.getD 5 false = true → t66 = .pointer (some ⟨b, 0, none⟩)) ∧
  (d.getD 6 false = true → t67 = .slice (some ⟨gx, 0, none⟩) n cap) ∧
  (d.getD 7 false = true → t68 = .int .i64 (n : Int)) ∧
  (d.getD 8 false = true → t69 = .int .i64 ((n : Int) + 1)) ∧
  (d.getD 9 false = true → (∃ y : Int, t70 = .int .i64 y ∧ 0 ≤ y ∧ y ≤ 90000)) ∧
  (d.getD 10 false = true → (d.getD 9 false = true ∧ ∃ (E : Nat) (y : Int), t71 = .slice (some ⟨E, 0, none⟩) 1 1 ∧ 0 ≤ y ∧ y ≤ 90000 ∧ (d.getD 11 false = true ∨ Row w E 3 [.int .i64 y]))) ∧
  (d.getD 11 false = true → ((d.getD 4 false = true ∧ d.getD 9 false = true ∧ d.getD 10 false = true) ∧ ∃ (y : Int) (A : Option Addr) (c : Nat) (W1 : World), t72 = .slice A (bx.next.length + 1) c ∧ 0 ≤ y ∧ y ≤ 90000 ∧ (d.getD 14 false = true ∨ (BSt b len wb xs gx cap W1 ∧ W1.grownBy w (blk (bx, ax, cx)) ∧ w.ownsRow wb.heap.size 3 1 (.slice A (bx.next.length + 1) c) (bx.next.length + 1) (nums (bx.next ++ [y])))))) ∧
  (d.getD 12 false = true → t73 = .pointer (some ⟨gx, k * 3, none⟩)) ∧
  (d.getD 13 false = true → t74 = .pointer (some ⟨gx, k * 3 + 2, none⟩)) ∧
  (d.getD 14 false = true → (d.getD 11 false = true ∧ GivesBent b len wb (.returned (.slice (some ⟨gx, 0, none⟩) n cap)) w))
/-- The frame. -/
def bn18A (b n gx cap k : Nat) (t61 t62 t63 t64 t65 t66 t67 t68 t69 t70 t71 t72 t73 t74 s1 s2 s3 s4 s6 s7 s9 s10 s11 s12 s13 s14 s15 s16 s17 s18 s19 s20 s21 s22 s23 s24 s25 s26 s27 s28 s29 s30 s31 s32 s33 s34 s35 s36 s37 s38 s39 s40 s41 s42 s43 s44 s45 s46 s47 s48 s49 s50 s51 s52 s53 s54 s55 s56 s57 s58 s59 s60 s75 s76 s77 s78 s79 s80 s81 s82 s83 s84 s85 s86 s87 s88 s89 s90 s91 s92 s93 s94 s95 s96 s97 s98 s99 s100 s101 s102 s103 s104 s105 s106 s107 : Value) : Act := { tmps := #[.pointer (some ⟨b, 0, none⟩), s1, s2, s3, s4, .slice (some ⟨gx, 0, none⟩) n cap, s6, s7, .pointer (some ⟨gx, k * 3, none⟩), s9, s10, s11, s12, s13, s14, s15, s16, s17, s18, s19, s20, s21, s22, s23, s24, s25, s26, s27, s28, s29, s30, s31, s32, s33, s34, s35, s36, s37, s38, s39, s40, s41, s42, s43, s44, s45, s46, s47, s48, s49, s50, s51, s52, s53, s54, s55, s56, s57, s58, s59, s60, t61, t62, t63, t64, t65, t66, t67, t68, t69, t70, t71, t72, t73, t74, s75, s76, s77, s78, s79, s80, s81, s82, s83, s84, s85, s86, s87, s88, s89, s90, s91, s92, s93, s94, s95, s96, s97, s98, s99, s100, s101, s102, s103, s104, s105, s106, s107], defers := [] }

set_option maxRecDepth 100000 in
set_option maxHeartbeats 4000000 in
theorem bn18 {Q : Exit → Act → World → Prop} {wb wr : World} {b len n : Nat} {xs : List BT} {gx cap k : Nat} {bx : Brn} {ax : Option Addr} {cx : Nat}  {s1 s2 s3 s4 s6 s7 s9 s10 s11 s12 s13 s14 s15 s16 s17 s18 s19 s20 s21 s22 s23 s24 s25 s26 s27 s28 s29 s30 s31 s32 s33 s34 s35 s36 s37 s38 s39 s40 s41 s42 s43 s44 s45 s46 s47 s48 s49 s50 s51 s52 s53 s54 s55 s56 s57 s58 s59 s60 s61 s62 s63 s64 s65 s66 s67 s68 s69 s70 s71 s72 s73 s74 s75 s76 s77 s78 s79 s80 s81 s82 s83 s84 s85 s86 s87 s88 s89 s90 s91 s92 s93 s94 s95 s96 s97 s98 s99 s100 s101 s102 s103 s104 s105 s106 s107 : Value} (TP0 : Tp wb b len) (HB0 : BSt b len wb xs gx cap wr) (hk : k < xs.length) (hx : xs[k] = (bx, ax, cx)) (hl : xs.length = n) (hn1 : 1 ≤ n) (hn2 : n ≤ 90000) (hnl : bx.next.length ≤ 900)
    (h' : ∀ t61 t62 t63 t64 t65 t66 t67 t68 t69 t70 t71 t72 t73 t74 wx, GivesBent b len wb (.returned (.slice (some ⟨gx, 0, none⟩) n cap)) wx → Q .normal (bn18A b n gx cap k t61 t62 t63 t64 t65 t66 t67 t68 t69 t70 t71 t72 t73 t74 s1 s2 s3 s4 s6 s7 s9 s10 s11 s12 s13 s14 s15 s16 s17 s18 s19 s20 s21 s22 s23 s24 s25 s26 s27 s28 s29 s30 s31 s32 s33 s34 s35 s36 s37 s38 s39 s40 s41 s42 s43 s44 s45 s46 s47 s48 s49 s50 s51 s52 s53 s54 s55 s56 s57 s58 s59 s60 s75 s76 s77 s78 s79 s80 s81 s82 s83 s84 s85 s86 s87 s88 s89 s90 s91 s92 s93 s94 s95 s96 s97 s98 s99 s100 s101 s102 s103 s104 s105 s106 s107) wx) :
    (Code.region 18 (regIn 18 Tryd.f42) true).wp Tryd.prog Q { tmps := #[.pointer (some ⟨b, 0, none⟩), s1, s2, s3, s4, .slice (some ⟨gx, 0, none⟩) n cap, s6, s7, .pointer (some ⟨gx, k * 3, none⟩), s9, s10, s11, s12, s13, s14, s15, s16, s17, s18, s19, s20, s21, s22, s23, s24, s25, s26, s27, s28, s29, s30, s31, s32, s33, s34, s35, s36, s37, s38, s39, s40, s41, s42, s43, s44, s45, s46, s47, s48, s49, s50, s51, s52, s53, s54, s55, s56, s57, s58, s59, s60, s61, s62, s63, s64, s65, s66, s67, s68, s69, s70, s71, s72, s73, s74, s75, s76, s77, s78, s79, s80, s81, s82, s83, s84, s85, s86, s87, s88, s89, s90, s91, s92, s93, s94, s95, s96, s97, s98, s99, s100, s101, s102, s103, s104, s105, s106, s107], defers := [] } wr := by
  have TP := PLift.up TP0
  have HBW := PLift.up TP0.has
  have HK0 := PLift.up hk
  have HX : PLift (xs[k]'hk = (bx, ax, cx)) := PLift.up hx
  have HL := PLift.up hl
  have WX : PLift (∀ z ∈ bx.next, Wide z) := PLift.up (by have := (HB0.wd _ (List.getElem_mem hk)).2.2.2; rw [hx] at this; exact this)
  have xl : xs.length ≤ 90000 := by omega
  obtain ⟨j0, hj, hy0, hy1, hy2⟩ := info_parts infoInt
  clear TP0 hl
  simp only [regIn, Tryd.f42, regOps, Option.bind_some, Option.getD_some, Nat.beq, cond_true, cond_false]
  refine wp_region_steps (fun done a w => ∃ t61 t62 t63 t64 t65 t66 t67 t68 t69 t70 t71 t72 t73 t74, a = bn18A b n gx cap k t61 t62 t63 t64 t65 t66 t67 t68 t69 t70 t71 t72 t73 t74 s1 s2 s3 s4 s6 s7 s9 s10 s11 s12 s13 s14 s15 s16 s17 s18 s19 s20 s21 s22 s23 s24 s25 s26 s27 s28 s29 s30 s31 s32 s33 s34 s35 s36 s37 s38 s39 s40 s41 s42 s43 s44 s45 s46 s47 s48 s49 s50 s51 s52 s53 s54 s55 s56 s57 s58 s59 s60 s75 s76 s77 s78 s79 s80 s81 s82 s83 s84 s85 s86 s87 s88 s89 s90 s91 s92 s93 s94 s95 s96 s97 s98 s99 s100 s101 s102 s103 s104 s105 s106 s107 ∧ bn18F wb wr b len n xs gx cap k bx ax cx t61 t62 t63 t64 t65 t66 t67 t68 t69 t70 t71 t72 t73 t74 done w) (by kernel_rfl) (by kernel_rfl) ?_ ⟨?_, ?_, ?_, ?_, ?_, ?_, ?_, ?_, ?_, ?_, ?_, ?_, ?_, ?_, ?_, trivial⟩ ?_
  · exact ⟨s61, s62, s63, s64, s65, s66, s67, s68, s69, s70, s71, s72, s73, s74, rfl, .inr (HB0.gr (Gr.refl _).drew), fun q => absurd q (by decide), fun q => absurd q (by decide), fun q => absurd q (by decide), fun q => absurd q (by decide), fun q => absurd q (by decide), fun q => absurd q (by decide), fun q => absurd q (by decide), fun q => absurd q (by decide), fun q => absurd q (by decide), fun q => absurd q (by decide), fun q => absurd q (by decide), fun q => absurd q (by decide), fun q => absurd q (by decide), fun q => absurd q (by decide), fun q => absurd q (by decide)⟩
  · rintro done a w hsz hnot hdep ⟨t61, t62, t63, t64, t65, t66, t67, t68, t69, t70, t71, t72, t73, t74, rfl, gw, f0, f1, f2, f3, f4, f5, f6, f7, f8, f9, f10, f11, f12, f13, f14⟩ K hK
    have hn : ¬ done.getD 0 false = true := by rw [getD_both hnot]; decide
    have HK := PLift.up hK
    clear hK 
    simp only [bn18A]
    go_simp
    have gg : Gr w w := Gr.refl _
    refine HK.down _ _ ⟨_, _, _, _, _, _, _, _, _, _, _, _, _, _, rfl, gw.imp done_stay id, fun _ => rfl, fun q => f1 (done_old q (by decide)), fun q => f2 (done_old q (by decide)), fun q => f3 (done_old q (by decide)), fun q => f4 (done_old q (by decide)), fun q => f5 (done_old q (by decide)), fun q => f6 (done_old q (by decide)), fun q => f7 (done_old q (by decide)), fun q => f8 (done_old q (by decide)), fun q => f9 (done_old q (by decide)), fun q => (let ⟨h9, E, y, e, y0, y1, h⟩ := f10 (done_old q (by decide)); ⟨done_stay h9, E, y, e, y0, y1, h.imp done_stay id⟩), fun q => (let ⟨⟨h4, h9, h10⟩, y, A, c, W1, e, y0, y1, h⟩ := f11 (done_old q (by decide)); ⟨⟨done_stay h4, done_stay h9, done_stay h10⟩, y, A, c, W1, e, y0, y1, h.imp done_stay id⟩), fun q => f12 (done_old q (by decide)), fun q => f13 (done_old q (by decide)), fun q => (let h := f14 (done_old q (by decide)); ⟨done_stay h.1, h.2⟩)⟩
  · rintro done a w hsz hnot hdep ⟨t61, t62, t63, t64, t65, t66, t67, t68, t69, t70, t71, t72, t73, t74, rfl, gw, f0, f1, f2, f3, f4, f5, f6, f7, f8, f9, f10, f11, f12, f13, f14⟩ K hK
    have hn : ¬ done.getD 1 false = true := by rw [getD_both hnot]; decide
    have HK := PLift.up hK
    clear hK 
    simp only [bn18A]
    go_simp
    have gg : Gr w w := Gr.refl _
    refine HK.down _ _ ⟨_, _, _, _, _, _, _, _, _, _, _, _, _, _, rfl, gw.imp done_stay id, fun q => f0 (done_old q (by decide)), fun _ => rfl, fun q => f2 (done_old q (by decide)), fun q => f3 (done_old q (by decide)), fun q => f4 (done_old q (by decide)), fun q => f5 (done_old q (by decide)), fun q => f6 (done_old q (by decide)), fun q => f7 (done_old q (by decide)), fun q => f8 (done_old q (by decide)), fun q => f9 (done_old q (by decide)), fun q => (let ⟨h9, E, y, e, y0, y1, h⟩ := f10 (done_old q (by decide)); ⟨done_stay h9, E, y, e, y0, y1, h.imp done_stay id⟩), fun q => (let ⟨⟨h4, h9, h10⟩, y, A, c, W1, e, y0, y1, h⟩ := f11 (done_old q (by decide)); ⟨⟨done_stay h4, done_stay h9, done_stay h10⟩, y, A, c, W1, e, y0, y1, h.imp done_stay id⟩), fun q => f12 (done_old q (by decide)), fun q => f13 (done_old q (by decide)), fun q => (let h := f14 (done_old q (by decide)); ⟨done_stay h.1, h.2⟩)⟩
  · rintro done a w hsz hnot hdep ⟨t61, t62, t63, t64, t65, t66, t67, t68, t69, t70, t71, t72, t73, t74, rfl, gw, f0, f1, f2, f3, f4, f5, f6, f7, f8, f9, f10, f11, f12, f13, f14⟩ K hK
    have hn : ¬ done.getD 2 false = true := by rw [getD_both hnot]; decide
    have d1 := hdep 1 (by kernel_rfl)
    obtain rfl := f1 d1
    have HK := PLift.up hK
    clear hK d1
    simp only [bn18A]
    go_simp
    have gg : Gr w w := Gr.refl _
    refine HK.down _ _ ⟨_, _, _, _, _, _, _, _, _, _, _, _, _, _, rfl, gw.imp done_stay id, fun q => f0 (done_old q (by decide)), fun q => f1 (done_old q (by decide)), fun _ => rfl, fun q => f3 (done_old q (by decide)), fun q => f4 (done_old q (by decide)), fun q => f5 (done_old q (by decide)), fun q => f6 (done_old q (by decide)), fun q => f7 (done_old q (by decide)), fun q => f8 (done_old q (by decide)), fun q => f9 (done_old q (by decide)), fun q => (let ⟨h9, E, y, e, y0, y1, h⟩ := f10 (done_old q (by decide)); ⟨done_stay h9, E, y, e, y0, y1, h.imp done_stay id⟩), fun q => (let ⟨⟨h4, h9, h10⟩, y, A, c, W1, e, y0, y1, h⟩ := f11 (done_old q (by decide)); ⟨⟨done_stay h4, done_stay h9, done_stay h10⟩, y, A, c, W1, e, y0, y1, h.imp done_stay id⟩), fun q => f12 (done_old q (by decide)), fun q => f13 (done_old q (by decide)), fun q => (let h := f14 (done_old q (by decide)); ⟨done_stay h.1, h.2⟩)⟩
  · rintro done a w hsz hnot hdep ⟨t61, t62, t63, t64, t65, t66, t67, t68, t69, t70, t71, t72, t73, t74, rfl, gw, f0, f1, f2, f3, f4, f5, f6, f7, f8, f9, f10, f11, f12, f13, f14⟩ K hK
    have hn : ¬ done.getD 3 false = true := by rw [getD_both hnot]; decide
    have d2 := hdep 2 (by kernel_rfl)
    obtain rfl := f2 d2
    have HK := PLift.up hK
    clear hK d2
    simp only [bn18A]
    go_simp
    have gg : Gr w w := Gr.refl _
    refine HK.down _ _ ⟨_, _, _, _, _, _, _, _, _, _, _, _, _, _, rfl, gw.imp done_stay id, fun q => f0 (done_old q (by decide)), fun q => f1 (done_old q (by decide)), fun q => f2 (done_old q (by decide)), fun _ => rfl, fun q => f4 (done_old q (by decide)), fun q => f5 (done_old q (by decide)), fun q => f6 (done_old q (by decide)), fun q => f7 (done_old q (by decide)), fun q => f8 (done_old q (by decide)), fun q => f9 (done_old q (by decide)), fun q => (let ⟨h9, E, y, e, y0, y1, h⟩ := f10 (done_old q (by decide)); ⟨done_stay h9, E, y, e, y0, y1, h.imp done_stay id⟩), fun q => (let ⟨⟨h4, h9, h10⟩, y, A, c, W1, e, y0, y1, h⟩ := f11 (done_old q (by decide)); ⟨⟨done_stay h4, done_stay h9, done_stay h10⟩, y, A, c, W1, e, y0, y1, h.imp done_stay id⟩), fun q => f12 (done_old q (by decide)), fun q => f13 (done_old q (by decide)), fun q => (let h := f14 (done_old q (by decide)); ⟨done_stay h.1, h.2⟩)⟩
  · rintro done a w hsz hnot hdep ⟨t61, t62, t63, t64, t65, t66, t67, t68, t69, t70, t71, t72, t73, t74, rfl, gw, f0, f1, f2, f3, f4, f5, f6, f7, f8, f9, f10, f11, f12, f13, f14⟩ K hK
    have hn : ¬ done.getD 4 false = true := by rw [getD_both hnot]; decide
    have d3 := hdep 3 (by kernel_rfl)
    obtain rfl := f3 d3
    have n11 : ¬ done.getD 11 false = true := fun h => hn (f11 h).1.1
    have HB := PLift.up (gw.resolve_left n11)
    obtain ⟨_, _, c2, ch, cf⟩ := HB.down.at HK0.down
    have cf2 := cf (k * 3 + 2)
    rw [HX.down] at c2
    simp only at c2
    clear cf n11
    have HK := PLift.up hK
    clear hK d3
    simp only [bn18A]
    go_simp
    have gg : Gr w w := Gr.refl _
    refine HK.down _ _ ⟨_, _, _, _, _, _, _, _, _, _, _, _, _, _, rfl, gw.imp done_stay id, fun q => f0 (done_old q (by decide)), fun q => f1 (done_old q (by decide)), fun q => f2 (done_old q (by decide)), fun q => f3 (done_old q (by decide)), fun _ => rfl, fun q => f5 (done_old q (by decide)), fun q => f6 (done_old q (by decide)), fun q => f7 (done_old q (by decide)), fun q => f8 (done_old q (by decide)), fun q => f9 (done_old q (by decide)), fun q => (let ⟨h9, E, y, e, y0, y1, h⟩ := f10 (done_old q (by decide)); ⟨done_stay h9, E, y, e, y0, y1, h.imp done_stay id⟩), fun q => absurd (f11 (done_old q (by decide))).1.1 hn, fun q => f12 (done_old q (by decide)), fun q => f13 (done_old q (by decide)), fun q => absurd (f11 (f14 (done_old q (by decide))).1).1.1 hn⟩
  · rintro done a w hsz hnot hdep ⟨t61, t62, t63, t64, t65, t66, t67, t68, t69, t70, t71, t72, t73, t74, rfl, gw, f0, f1, f2, f3, f4, f5, f6, f7, f8, f9, f10, f11, f12, f13, f14⟩ K hK
    have hn : ¬ done.getD 5 false = true := by rw [getD_both hnot]; decide
    have HK := PLift.up hK
    clear hK 
    simp only [bn18A]
    go_simp
    have gg : Gr w w := Gr.refl _
    refine HK.down _ _ ⟨_, _, _, _, _, _, _, _, _, _, _, _, _, _, rfl, gw.imp done_stay id, fun q => f0 (done_old q (by decide)), fun q => f1 (done_old q (by decide)), fun q => f2 (done_old q (by decide)), fun q => f3 (done_old q (by decide)), fun q => f4 (done_old q (by decide)), fun _ => rfl, fun q => f6 (done_old q (by decide)), fun q => f7 (done_old q (by decide)), fun q => f8 (done_old q (by decide)), fun q => f9 (done_old q (by decide)), fun q => (let ⟨h9, E, y, e, y0, y1, h⟩ := f10 (done_old q (by decide)); ⟨done_stay h9, E, y, e, y0, y1, h.imp done_stay id⟩), fun q => (let ⟨⟨h4, h9, h10⟩, y, A, c, W1, e, y0, y1, h⟩ := f11 (done_old q (by decide)); ⟨⟨done_stay h4, done_stay h9, done_stay h10⟩, y, A, c, W1, e, y0, y1, h.imp done_stay id⟩), fun q => f12 (done_old q (by decide)), fun q => f13 (done_old q (by decide)), fun q => (let h := f14 (done_old q (by decide)); ⟨done_stay h.1, h.2⟩)⟩
  · rintro done a w hsz hnot hdep ⟨t61, t62, t63, t64, t65, t66, t67, t68, t69, t70, t71, t72, t73, t74, rfl, gw, f0, f1, f2, f3, f4, f5, f6, f7, f8, f9, f10, f11, f12, f13, f14⟩ K hK
    have hn : ¬ done.getD 6 false = true := by rw [getD_both hnot]; decide
    have HK := PLift.up hK
    clear hK 
    simp only [bn18A]
    go_simp
    have gg : Gr w w := Gr.refl _
    refine HK.down _ _ ⟨_, _, _, _, _, _, _, _, _, _, _, _, _, _, rfl, gw.imp done_stay id, fun q => f0 (done_old q (by decide)), fun q => f1 (done_old q (by decide)), fun q => f2 (done_old q (by decide)), fun q => f3 (done_old q (by decide)), fun q => f4 (done_old q (by decide)), fun q => f5 (done_old q (by decide)), fun _ => rfl, fun q => f7 (done_old q (by decide)), fun q => f8 (done_old q (by decide)), fun q => f9 (done_old q (by decide)), fun q => (let ⟨h9, E, y, e, y0, y1, h⟩ := f10 (done_old q (by decide)); ⟨done_stay h9, E, y, e, y0, y1, h.imp done_stay id⟩), fun q => (let ⟨⟨h4, h9, h10⟩, y, A, c, W1, e, y0, y1, h⟩ := f11 (done_old q (by decide)); ⟨⟨done_stay h4, done_stay h9, done_stay h10⟩, y, A, c, W1, e, y0, y1, h.imp done_stay id⟩), fun q => f12 (done_old q (by decide)), fun q => f13 (done_old q (by decide)), fun q => (let h := f14 (done_old q (by decide)); ⟨done_stay h.1, h.2⟩)⟩
  · rintro done a w hsz hnot hdep ⟨t61, t62, t63, t64, t65, t66, t67, t68, t69, t70, t71, t72, t73, t74, rfl, gw, f0, f1, f2, f3, f4, f5, f6, f7, f8, f9, f10, f11, f12, f13, f14⟩ K hK
    have hn : ¬ done.getD 7 false = true := by rw [getD_both hnot]; decide
    have d6 := hdep 6 (by kernel_rfl)
    obtain rfl := f6 d6
    have HK := PLift.up hK
    clear hK d6
    simp only [bn18A]
    go_simp
    have gg : Gr w w := Gr.refl _
    refine HK.down _ _ ⟨_, _, _, _, _, _, _, _, _, _, _, _, _, _, rfl, gw.imp done_stay id, fun q => f0 (done_old q (by decide)), fun q => f1 (done_old q (by decide)), fun q => f2 (done_old q (by decide)), fun q => f3 (done_old q (by decide)), fun q => f4 (done_old q (by decide)), fun q => f5 (done_old q (by decide)), fun q => f6 (done_old q (by decide)), fun _ => rfl, fun q => f8 (done_old q (by decide)), fun q => f9 (done_old q (by decide)), fun q => (let ⟨h9, E, y, e, y0, y1, h⟩ := f10 (done_old q (by decide)); ⟨done_stay h9, E, y, e, y0, y1, h.imp done_stay id⟩), fun q => (let ⟨⟨h4, h9, h10⟩, y, A, c, W1, e, y0, y1, h⟩ := f11 (done_old q (by decide)); ⟨⟨done_stay h4, done_stay h9, done_stay h10⟩, y, A, c, W1, e, y0, y1, h.imp done_stay id⟩), fun q => f12 (done_old q (by decide)), fun q => f13 (done_old q (by decide)), fun q => (let h := f14 (done_old q (by decide)); ⟨done_stay h.1, h.2⟩)⟩
  · rintro done a w hsz hnot hdep ⟨t61, t62, t63, t64, t65, t66, t67, t68, t69, t70, t71, t72, t73, t74, rfl, gw, f0, f1, f2, f3, f4, f5, f6, f7, f8, f9, f10, f11, f12, f13, f14⟩ K hK
    have hn : ¬ done.getD 8 false = true := by rw [getD_both hnot]; decide
    have d7 := hdep 7 (by kernel_rfl)
    obtain rfl := f7 d7
    have sw : IntKind.i64.wrap ((n : Int) + 1) = (n : Int) + 1 := by rw [IntKind.wrap_i64] <;> omega
    have HK := PLift.up hK
    clear hK d7
    simp only [bn18A]
    go_simp
    have gg : Gr w w := Gr.refl _
    refine HK.down _ _ ⟨_, _, _, _, _, _, _, _, _, _, _, _, _, _, rfl, gw.imp done_stay id, fun q => f0 (done_old q (by decide)), fun q => f1 (done_old q (by decide)), fun q => f2 (done_old q (by decide)), fun q => f3 (done_old q (by decide)), fun q => f4 (done_old q (by decide)), fun q => f5 (done_old q (by decide)), fun q => f6 (done_old q (by decide)), fun q => f7 (done_old q (by decide)), fun _ => rfl, fun q => f9 (done_old q (by decide)), fun q => (let ⟨h9, E, y, e, y0, y1, h⟩ := f10 (done_old q (by decide)); ⟨done_stay h9, E, y, e, y0, y1, h.imp done_stay id⟩), fun q => (let ⟨⟨h4, h9, h10⟩, y, A, c, W1, e, y0, y1, h⟩ := f11 (done_old q (by decide)); ⟨⟨done_stay h4, done_stay h9, done_stay h10⟩, y, A, c, W1, e, y0, y1, h.imp done_stay id⟩), fun q => f12 (done_old q (by decide)), fun q => f13 (done_old q (by decide)), fun q => (let h := f14 (done_old q (by decide)); ⟨done_stay h.1, h.2⟩)⟩
  · rintro done a w hsz hnot hdep ⟨t61, t62, t63, t64, t65, t66, t67, t68, t69, t70, t71, t72, t73, t74, rfl, gw, f0, f1, f2, f3, f4, f5, f6, f7, f8, f9, f10, f11, f12, f13, f14⟩ K hK
    have hn : ¬ done.getD 9 false = true := by rw [getD_both hnot]; decide
    have d5 := hdep 5 (by kernel_rfl)
    have d8 := hdep 8 (by kernel_rfl)
    obtain rfl := f5 d5
    obtain rfl := f8 d8
    have n11 : ¬ done.getD 11 false = true := fun h => hn (f11 h).1.2.1
    have HB := PLift.up (gw.resolve_left n11)
    clear n11
    have HK := PLift.up hK
    clear hK d5 d8
    simp only [bn18A]
    go_simp
    refine (nM_any w b len ((n : Int) + 1) (HB.down.mv.tp TP.down) (by omega) (by omega)).mono ?_
    rintro e w2 ⟨y, rfl, ⟨y0, y1⟩, hm⟩
    (try go_simp)
    refine HK.down _ _ ⟨_, _, _, _, _, _, _, _, _, _, _, _, _, _, rfl, .inr (HB.down.mvd HBW.down hm), fun q => f0 (done_old q (by decide)), fun q => f1 (done_old q (by decide)), fun q => f2 (done_old q (by decide)), fun q => f3 (done_old q (by decide)), fun q => f4 (done_old q (by decide)), fun q => f5 (done_old q (by decide)), fun q => f6 (done_old q (by decide)), fun q => f7 (done_old q (by decide)), fun q => f8 (done_old q (by decide)), ?_, fun q => absurd (f10 (done_old q (by decide))).1 hn, fun q => absurd (f11 (done_old q (by decide))).1.2.1 hn, fun q => f12 (done_old q (by decide)), fun q => f13 (done_old q (by decide)), fun q => absurd (f11 (f14 (done_old q (by decide))).1).1.2.1 hn⟩
    exact fun _ => ⟨y, rfl, by omega, by omega⟩
  · rintro done a w hsz hnot hdep ⟨t61, t62, t63, t64, t65, t66, t67, t68, t69, t70, t71, t72, t73, t74, rfl, gw, f0, f1, f2, f3, f4, f5, f6, f7, f8, f9, f10, f11, f12, f13, f14⟩ K hK
    have hn : ¬ done.getD 10 false = true := by rw [getD_both hnot]; decide
    have d9 := hdep 9 (by kernel_rfl)
    have n11 : ¬ done.getD 11 false = true := fun h => hn (f11 h).1.2.2
    have HB := PLift.up (gw.resolve_left n11)
    obtain ⟨y, rfl, y0, y1⟩ := f9 d9
    have D9 := PLift.up d9
    clear d9 n11
    have HK := PLift.up hK
    clear hK 
    simp only [bn18A]
    go_simp
    have gg : Gr w (w.alloc (.cells #[.int .i64 y] 3)) := (Gr.refl _).alloc _
    refine HK.down _ _ ⟨_, _, _, _, _, _, _, _, _, _, _, _, _, _, rfl, .inr (HB.down.gr gg), fun q => f0 (done_old q (by decide)), fun q => f1 (done_old q (by decide)), fun q => f2 (done_old q (by decide)), fun q => f3 (done_old q (by decide)), fun q => f4 (done_old q (by decide)), fun q => f5 (done_old q (by decide)), fun q => f6 (done_old q (by decide)), fun q => f7 (done_old q (by decide)), fun q => f8 (done_old q (by decide)), fun _ => ⟨y, rfl, y0, y1⟩, ?_, fun q => absurd (f11 (done_old q (by decide))).1.2.2 hn, fun q => f12 (done_old q (by decide)), fun q => f13 (done_old q (by decide)), fun q => absurd (f11 (f14 (done_old q (by decide))).1).1.2.2 hn⟩
    exact fun _ => ⟨done_stay D9.down, w.heap.size, y, rfl, y0, y1, .inr (Row.new w #[.int .i64 y] 3)⟩
  · rintro done a w hsz hnot hdep ⟨t61, t62, t63, t64, t65, t66, t67, t68, t69, t70, t71, t72, t73, t74, rfl, gw, f0, f1, f2, f3, f4, f5, f6, f7, f8, f9, f10, f11, f12, f13, f14⟩ K hK
    have hn : ¬ done.getD 11 false = true := by rw [getD_both hnot]; decide
    have d4 := hdep 4 (by kernel_rfl)
    have d10 := hdep 10 (by kernel_rfl)
    obtain rfl := f4 d4
    obtain ⟨h9, E, y, rfl, y0, y1, hE⟩ := f10 d10
    have hE2 := hE.resolve_left hn
    have HB := gw.resolve_left hn
    have on := HB.nxt.own _ (List.getElem_mem HK0.down)
    rw [HX.down] at on
    simp only at on
    refine step_append_gets _ rfl _ _ 22 rfl wb.heap.size 3 j0 (.int .i64 0) 1 8 Tryd.underlying22 hj hy0 hy1 hy2 rfl (by decide) (.slice ax bx.next.length cx) bx.next.length (nums bx.next) (by simp [Act.eval, bn18A]) on (some ⟨E, 0, none⟩) 1 1 [.int .i64 y] (by simp [Act.eval, bn18A]) ⟨rfl, fun _ => ⟨_, rfl, row_cells hE2⟩⟩ (fun u hu => by rw [List.mem_singleton.1 hu]; rfl) (by unfold maxLen; omega) (by omega) HB.mv.size ?_
    intro v w2 hown hgrow _
    obtain ⟨A, c, rfl⟩ := owns_slice hown
    refine hK _ _ ⟨_, _, _, _, _, _, _, _, _, _, _, _, _, _, rfl, .inl (getD_set_same (by rw [hsz]; decide)), fun q => f0 (done_old q (by decide)), fun q => f1 (done_old q (by decide)), fun q => f2 (done_old q (by decide)), fun q => f3 (done_old q (by decide)), fun q => f4 (done_old q (by decide)), fun q => f5 (done_old q (by decide)), fun q => f6 (done_old q (by decide)), fun q => f7 (done_old q (by decide)), fun q => f8 (done_old q (by decide)), fun q => f9 (done_old q (by decide)), fun _ => ⟨done_stay h9, E, y, rfl, y0, y1, .inl (getD_set_same (by rw [hsz]; decide))⟩, ?_, fun q => f12 (done_old q (by decide)), fun q => f13 (done_old q (by decide)), fun q => absurd (f14 (done_old q (by decide))).1 hn⟩
    have e : nums (bx.next ++ [y]) = nums bx.next ++ [.int .i64 y] := by simp [nums]
    exact fun _ => ⟨⟨done_stay (hdep 4 (by kernel_rfl)), done_stay h9, done_stay d10⟩, y, A, c, w, rfl, y0, y1, .inr ⟨HB, hgrow, e ▸ hown⟩⟩
  · rintro done a w hsz hnot hdep ⟨t61, t62, t63, t64, t65, t66, t67, t68, t69, t70, t71, t72, t73, t74, rfl, gw, f0, f1, f2, f3, f4, f5, f6, f7, f8, f9, f10, f11, f12, f13, f14⟩ K hK
    have hn : ¬ done.getD 12 false = true := by rw [getD_both hnot]; decide
    have d0 := hdep 0 (by kernel_rfl)
    obtain rfl := f0 d0
    have HK := PLift.up hK
    clear hK d0
    simp only [bn18A]
    go_simp
    have gg : Gr w w := Gr.refl _
    refine HK.down _ _ ⟨_, _, _, _, _, _, _, _, _, _, _, _, _, _, rfl, gw.imp done_stay id, fun q => f0 (done_old q (by decide)), fun q => f1 (done_old q (by decide)), fun q => f2 (done_old q (by decide)), fun q => f3 (done_old q (by decide)), fun q => f4 (done_old q (by decide)), fun q => f5 (done_old q (by decide)), fun q => f6 (done_old q (by decide)), fun q => f7 (done_old q (by decide)), fun q => f8 (done_old q (by decide)), fun q => f9 (done_old q (by decide)), fun q => (let ⟨h9, E, y, e, y0, y1, h⟩ := f10 (done_old q (by decide)); ⟨done_stay h9, E, y, e, y0, y1, h.imp done_stay id⟩), fun q => (let ⟨⟨h4, h9, h10⟩, y, A, c, W1, e, y0, y1, h⟩ := f11 (done_old q (by decide)); ⟨⟨done_stay h4, done_stay h9, done_stay h10⟩, y, A, c, W1, e, y0, y1, h.imp done_stay id⟩), fun _ => rfl, fun q => f13 (done_old q (by decide)), fun q => (let h := f14 (done_old q (by decide)); ⟨done_stay h.1, h.2⟩)⟩
  · rintro done a w hsz hnot hdep ⟨t61, t62, t63, t64, t65, t66, t67, t68, t69, t70, t71, t72, t73, t74, rfl, gw, f0, f1, f2, f3, f4, f5, f6, f7, f8, f9, f10, f11, f12, f13, f14⟩ K hK
    have hn : ¬ done.getD 13 false = true := by rw [getD_both hnot]; decide
    have d12 := hdep 12 (by kernel_rfl)
    obtain rfl := f12 d12
    have HK := PLift.up hK
    clear hK d12
    simp only [bn18A]
    go_simp
    have gg : Gr w w := Gr.refl _
    refine HK.down _ _ ⟨_, _, _, _, _, _, _, _, _, _, _, _, _, _, rfl, gw.imp done_stay id, fun q => f0 (done_old q (by decide)), fun q => f1 (done_old q (by decide)), fun q => f2 (done_old q (by decide)), fun q => f3 (done_old q (by decide)), fun q => f4 (done_old q (by decide)), fun q => f5 (done_old q (by decide)), fun q => f6 (done_old q (by decide)), fun q => f7 (done_old q (by decide)), fun q => f8 (done_old q (by decide)), fun q => f9 (done_old q (by decide)), fun q => (let ⟨h9, E, y, e, y0, y1, h⟩ := f10 (done_old q (by decide)); ⟨done_stay h9, E, y, e, y0, y1, h.imp done_stay id⟩), fun q => (let ⟨⟨h4, h9, h10⟩, y, A, c, W1, e, y0, y1, h⟩ := f11 (done_old q (by decide)); ⟨⟨done_stay h4, done_stay h9, done_stay h10⟩, y, A, c, W1, e, y0, y1, h.imp done_stay id⟩), fun q => f12 (done_old q (by decide)), fun _ => rfl, fun q => (let h := f14 (done_old q (by decide)); ⟨done_stay h.1, h.2⟩)⟩
  · rintro done a w hsz hnot hdep ⟨t61, t62, t63, t64, t65, t66, t67, t68, t69, t70, t71, t72, t73, t74, rfl, gw, f0, f1, f2, f3, f4, f5, f6, f7, f8, f9, f10, f11, f12, f13, f14⟩ K hK
    have hn : ¬ done.getD 14 false = true := by rw [getD_both hnot]; decide
    have d13 := hdep 13 (by kernel_rfl)
    have d11 := hdep 11 (by kernel_rfl)
    obtain rfl := f13 d13
    obtain ⟨⟨h4, h9, h10⟩, y, A, c, W1, rfl, y0, y1, h⟩ := f11 d11
    have HH := PLift.up (h.resolve_left hn)
    have D := PLift.up (And.intro d11 (And.intro h4 (And.intro h9 h10)))
    clear d11 h4 h9 h10 h
    have hg := HH.down.2.1
    rw [← HX.down] at hg
    obtain ⟨c2, cf2, ch⟩ := HH.down.1.mid HK0.down hg
    have HG := PLift.up hg
    clear hg
    have HK := PLift.up hK
    clear hK d13
    simp only [bn18A]
    go_simp
    refine HK.down _ _ ⟨_, _, _, _, _, _, _, _, _, _, _, _, _, _, rfl, .inl (done_stay D.down.1), fun q => f0 (done_old q (by decide)), fun q => f1 (done_old q (by decide)), fun q => f2 (done_old q (by decide)), fun q => f3 (done_old q (by decide)), fun q => f4 (done_old q (by decide)), fun q => f5 (done_old q (by decide)), fun q => f6 (done_old q (by decide)), fun q => f7 (done_old q (by decide)), fun q => f8 (done_old q (by decide)), fun q => f9 (done_old q (by decide)), fun q => (let ⟨h9, E, y, e, y0, y1, h⟩ := f10 (done_old q (by decide)); ⟨done_stay h9, E, y, e, y0, y1, .inl (done_stay D.down.1)⟩), fun _ => ⟨⟨done_stay D.down.2.1, done_stay D.down.2.2.1, done_stay D.down.2.2.2⟩, y, A, c, W1, rfl, y0, y1, .inl (getD_set_same (by rw [hsz]; decide))⟩, fun q => f12 (done_old q (by decide)), fun q => f13 (done_old q (by decide)), ?_⟩
    have g := HH.down.1.next (by omega) HK0.down (ns := bx.next ++ [y]) (by simp; omega) (fun z hz => ?_) (by simp) HH.down.2.2 HG.down
    · rw [HL.down] at g; exact fun _ => ⟨done_stay D.down.1, g⟩
    · rcases List.mem_append.1 hz with hz | hz
      · exact WX.down z hz
      · rw [List.mem_singleton.1 hz]; unfold Wide; omega
  · rintro done a w hall ⟨t61, t62, t63, t64, t65, t66, t67, t68, t69, t70, t71, t72, t73, t74, rfl, gw, f0, f1, f2, f3, f4, f5, f6, f7, f8, f9, f10, f11, f12, f13, f14⟩
    exact h' _ _ _ _ _ _ _ _ _ _ _ _ _ _ w (f14 (hall 14 (by decide))).2
end Go.Proofs.YtenehghpmnajpaaDoor

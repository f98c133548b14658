/- Lemmas and contracts for the proof of TuningAnswers (several texts in one, printed by wip/tools/pack.py): Bn18 Bn21 BnB. -/
import Derived.Test.YtenehghpmnajpaaGreatDoorTa7pu
set_option linter.unusedVariables false
set_option linter.unusedSimpArgs false
namespace Go.Proofs.YtenehghpmnajpaaGreatDoor
open Go.RowKit
open Classical
theorem BSt.mid {b len : Nat} {w W W' : World} {xs : List BT} {g cap : Nat} (h : BSt b len w xs g cap W) {k : Nat} (hk : k < xs.length) (hg : W.grownBy W' (blk xs[k])) : W'.cell? ⟨g, k * 3 + 2, none⟩ = some (.slice xs[k].2.1 xs[k].1.next.length xs[k].2.2) ∧ W'.frozen? ⟨g, k * 3 + 2, none⟩ = false ∧ Has W' g := by
  have ho : W'.ownsRow w.heap.size 81 3 (.slice (some ⟨g, 0, none⟩) xs.length cap) xs.length (xs.flatMap encN) := h.own.kept hg (owns_two (h.nxt.own _ (List.getElem_mem hk)) h.own (by decide))
  have c2 := ((ho.cellAt (k * 3 + 2) (by omega)).trans (h.own.cellAt (k * 3 + 2) (by omega)).symm).trans (h.at hk).2.2.1
  exact ⟨c2, ho.frozenAt _, has_of_cell c2⟩
/-- What is known of each slot as soon as its operation is done. -/
def bn18F (wb wr : World) (b len n : Nat) (xs : List BT) (gx cap k : Nat) (bx : Brn) (ax : Option Addr) (cx : Nat) (t61 t62 t63 t64 t65 t66 t67 t68 t69 t70 t71 t72 t73 t74 : Value) (d : Array Bool) (w : World) : Prop :=
  (d.getD 11 false = true ∨ BSt b len wb xs gx cap w) ∧ (d.getD 0 false = true → t61 = .pointer (some ⟨gx, k * 3, none⟩)) ∧
  (d.getD 1 false = true → t62 = .pointer (some ⟨gx, k * 3, none⟩)) ∧
  (d.getD 2 false = true → t63 = .pointer (some ⟨gx, k * 3, none⟩)) ∧
  (d.getD 3 false = true → t64 = .pointer (some ⟨gx, k * 3 + 2, none⟩)) ∧
  (d.getD 4 false = true → t65 = .slice ax bx.next.length cx) ∧
  (d.getD 5 false = true → t66 = .pointer (some ⟨b, 0, none⟩)) ∧
  (d.getD 6 false = true → t67 = .slice (some ⟨gx, 0, none⟩) n cap) ∧
  (d.getD 7 false = true → t68 = .int .i64 (n : Int)) ∧
  (d.getD 8 false = true → t69 = .int .i64 ((n : Int) + 1)) ∧
  (d.getD 9 false = true → (∃ y : Int, t70 = .int .i64 y ∧ 0 ≤ y ∧ y ≤ 90000)) ∧
  (d.getD 10 false = true → (d.getD 9 false = true ∧ ∃ (E : Nat) (y : Int), t71 = .slice (some ⟨E, 0, none⟩) 1 1 ∧ 0 ≤ y ∧ y ≤ 90000 ∧ (d.getD 11 false = true ∨ Row w E 3 [.int .i64 y]))) ∧
  (d.getD 11 false = true → ((d.getD 4 false = true ∧ d.getD 9 false = true ∧ d.getD 10 false = true) ∧ ∃ (y : Int) (A : Option Addr) (c : Nat) (W1 : World), t72 = .slice A (bx.next.length + 1) c ∧ 0 ≤ y ∧ y ≤ 90000 ∧ (d.getD 14 false = true ∨ (BSt b len wb xs gx cap W1 ∧ W1.grownBy w (blk (bx, ax, cx)) ∧ w.ownsRow wb.heap.size 3 1 (.slice A (bx.next.length + 1) c) (bx.next.length + 1) (nums (bx.next ++ [y])))))) ∧
  (d.getD 12 false = true → t73 = .pointer (some ⟨gx, k * 3, none⟩)) ∧
  (d.getD 13 false = true → t74 = .pointer (some ⟨gx, k * 3 + 2, none⟩)) ∧
  (d.getD 14 false = true → (d.getD 11 false = true ∧ GivesBent b len wb (.returned (.slice (some ⟨gx, 0, none⟩) n cap)) w))
/-- The frame. -/
def bn18A (b n gx cap k : Nat) (t61 t62 t63 t64 t65 t66 t67 t68 t69 t70 t71 t72 t73 t74 s1 s2 s3 s4 s6 s7 s9 s10 s11 s12 s13 s14 s15 s16 s17 s18 s19 s20 s21 s22 s23 s24 s25 s26 s27 s28 s29 s30 s31 s32 s33 s34 s35 s36 s37 s38 s39 s40 s41 s42 s43 s44 s45 s46 s47 s48 s49 s50 s51 s52 s53 s54 s55 s56 s57 s58 s59 s60 s75 s76 s77 s78 s79 s80 s81 s82 s83 s84 s85 s86 s87 s88 s89 s90 s91 s92 s93 s94 s95 s96 s97 s98 s99 s100 s101 s102 s103 s104 s105 s106 s107 : Value) : Act := { tmps := #[.pointer (some ⟨b, 0, none⟩), s1, s2, s3, s4, .slice (some ⟨gx, 0, none⟩) n cap, s6, s7, .pointer (some ⟨gx, k * 3, none⟩), s9, s10, s11, s12, s13, s14, s15, s16, s17, s18, s19, s20, s21, s22, s23, s24, s25, s26, s27, s28, s29, s30, s31, s32, s33, s34, s35, s36, s37, s38, s39, s40, s41, s42, s43, s44, s45, s46, s47, s48, s49, s50, s51, s52, s53, s54, s55, s56, s57, s58, s59, s60, t61, t62, t63, t64, t65, t66, t67, t68, t69, t70, t71, t72, t73, t74, s75, s76, s77, s78, s79, s80, s81, s82, s83, s84, s85, s86, s87, s88, s89, s90, s91, s92, s93, s94, s95, s96, s97, s98, s99, s100, s101, s102, s103, s104, s105, s106, s107], defers := [] }
set_option maxRecDepth 100000 in
set_option maxHeartbeats 4000000 in
theorem bn18 {Q : Exit → Act → World → Prop} {wb wr : World} {b len n : Nat} {xs : List BT} {gx cap k : Nat} {bx : Brn} {ax : Option Addr} {cx : Nat}  {s1 s2 s3 s4 s6 s7 s9 s10 s11 s12 s13 s14 s15 s16 s17 s18 s19 s20 s21 s22 s23 s24 s25 s26 s27 s28 s29 s30 s31 s32 s33 s34 s35 s36 s37 s38 s39 s40 s41 s42 s43 s44 s45 s46 s47 s48 s49 s50 s51 s52 s53 s54 s55 s56 s57 s58 s59 s60 s61 s62 s63 s64 s65 s66 s67 s68 s69 s70 s71 s72 s73 s74 s75 s76 s77 s78 s79 s80 s81 s82 s83 s84 s85 s86 s87 s88 s89 s90 s91 s92 s93 s94 s95 s96 s97 s98 s99 s100 s101 s102 s103 s104 s105 s106 s107 : Value} (TP0 : Tp wb b len) (HB0 : BSt b len wb xs gx cap wr) (hk : k < xs.length) (hx : xs[k] = (bx, ax, cx)) (hl : xs.length = n) (hn1 : 1 ≤ n) (hn2 : n ≤ 90000) (hnl : bx.next.length ≤ 900)
    (h' : ∀ t61 t62 t63 t64 t65 t66 t67 t68 t69 t70 t71 t72 t73 t74 wx, GivesBent b len wb (.returned (.slice (some ⟨gx, 0, none⟩) n cap)) wx → Q .normal (bn18A b n gx cap k t61 t62 t63 t64 t65 t66 t67 t68 t69 t70 t71 t72 t73 t74 s1 s2 s3 s4 s6 s7 s9 s10 s11 s12 s13 s14 s15 s16 s17 s18 s19 s20 s21 s22 s23 s24 s25 s26 s27 s28 s29 s30 s31 s32 s33 s34 s35 s36 s37 s38 s39 s40 s41 s42 s43 s44 s45 s46 s47 s48 s49 s50 s51 s52 s53 s54 s55 s56 s57 s58 s59 s60 s75 s76 s77 s78 s79 s80 s81 s82 s83 s84 s85 s86 s87 s88 s89 s90 s91 s92 s93 s94 s95 s96 s97 s98 s99 s100 s101 s102 s103 s104 s105 s106 s107) wx) :
    (Code.region 18 (regIn 18 Tryz.f25) true).wp Tryz.prog Q { tmps := #[.pointer (some ⟨b, 0, none⟩), s1, s2, s3, s4, .slice (some ⟨gx, 0, none⟩) n cap, s6, s7, .pointer (some ⟨gx, k * 3, none⟩), s9, s10, s11, s12, s13, s14, s15, s16, s17, s18, s19, s20, s21, s22, s23, s24, s25, s26, s27, s28, s29, s30, s31, s32, s33, s34, s35, s36, s37, s38, s39, s40, s41, s42, s43, s44, s45, s46, s47, s48, s49, s50, s51, s52, s53, s54, s55, s56, s57, s58, s59, s60, s61, s62, s63, s64, s65, s66, s67, s68, s69, s70, s71, s72, s73, s74, s75, s76, s77, s78, s79, s80, s81, s82, s83, s84, s85, s86, s87, s88, s89, s90, s91, s92, s93, s94, s95, s96, s97, s98, s99, s100, s101, s102, s103, s104, s105, s106, s107], defers := [] } wr := by
  have TP := PLift.up TP0
  have HBW := PLift.up TP0.has
  have HK0 := PLift.up hk
  have HX : PLift (xs[k]'hk = (bx, ax, cx)) := PLift.up hx
  have HL := PLift.up hl
  have WX : PLift (∀ z ∈ bx.next, Wide z) := PLift.up (by have := (HB0.wd _ (List.getElem_mem hk)).2.2.2; rw [hx] at this; exact this)
  have xl : xs.length ≤ 90000 := by omega
  obtain ⟨j0, hj, hy0, hy1, hy2⟩ := info_parts infoInt
  clear TP0 hl
  simp only [regIn, Tryz.f25, regOps, Option.bind_some, Option.getD_some, Nat.beq, cond_true, cond_false]
  refine wp_region_steps (fun done a w => ∃ t61 t62 t63 t64 t65 t66 t67 t68 t69 t70 t71 t72 t73 t74, a = bn18A b n gx cap k t61 t62 t63 t64 t65 t66 t67 t68 t69 t70 t71 t72 t73 t74 s1 s2 s3 s4 s6 s7 s9 s10 s11 s12 s13 s14 s15 s16 s17 s18 s19 s20 s21 s22 s23 s24 s25 s26 s27 s28 s29 s30 s31 s32 s33 s34 s35 s36 s37 s38 s39 s40 s41 s42 s43 s44 s45 s46 s47 s48 s49 s50 s51 s52 s53 s54 s55 s56 s57 s58 s59 s60 s75 s76 s77 s78 s79 s80 s81 s82 s83 s84 s85 s86 s87 s88 s89 s90 s91 s92 s93 s94 s95 s96 s97 s98 s99 s100 s101 s102 s103 s104 s105 s106 s107 ∧ bn18F wb wr b len n xs gx cap k bx ax cx t61 t62 t63 t64 t65 t66 t67 t68 t69 t70 t71 t72 t73 t74 done w) (by kernel_rfl) (by kernel_rfl) ?_ ⟨?_, ?_, ?_, ?_, ?_, ?_, ?_, ?_, ?_, ?_, ?_, ?_, ?_, ?_, ?_, trivial⟩ ?_
  · exact ⟨s61, s62, s63, s64, s65, s66, s67, s68, s69, s70, s71, s72, s73, s74, rfl, .inr (HB0.gr (Gr.refl _).drew), fun q => absurd q (by decide), fun q => absurd q (by decide), fun q => absurd q (by decide), fun q => absurd q (by decide), fun q => absurd q (by decide), fun q => absurd q (by decide), fun q => absurd q (by decide), fun q => absurd q (by decide), fun q => absurd q (by decide), fun q => absurd q (by decide), fun q => absurd q (by decide), fun q => absurd q (by decide), fun q => absurd q (by decide), fun q => absurd q (by decide), fun q => absurd q (by decide)⟩
  · rintro done a w hsz hnot hdep ⟨t61, t62, t63, t64, t65, t66, t67, t68, t69, t70, t71, t72, t73, t74, rfl, gw, f0, f1, f2, f3, f4, f5, f6, f7, f8, f9, f10, f11, f12, f13, f14⟩ K hK
    have hn : ¬ done.getD 0 false = true := by rw [getD_both hnot]; decide
    have HK := PLift.up hK
    clear hK 
    simp only [bn18A]
    go_simp
    have gg : Gr w w := Gr.refl _
    refine HK.down _ _ ⟨_, _, _, _, _, _, _, _, _, _, _, _, _, _, rfl, gw.imp done_stay id, fun _ => rfl, kp f1, kp f2, kp f3, kp f4, kp f5, kp f6, kp f7, kp f8, kp f9, fun q => (let ⟨h9, E, y, e, y0, y1, h⟩ := f10 (done_old q (by decide)); ⟨done_stay h9, E, y, e, y0, y1, h.imp done_stay id⟩), fun q => (let ⟨⟨h4, h9, h10⟩, y, A, c, W1, e, y0, y1, h⟩ := f11 (done_old q (by decide)); ⟨⟨done_stay h4, done_stay h9, done_stay h10⟩, y, A, c, W1, e, y0, y1, h.imp done_stay id⟩), kp f12, kp f13, fun q => (let h := f14 (done_old q (by decide)); ⟨done_stay h.1, h.2⟩)⟩
  · rintro done a w hsz hnot hdep ⟨t61, t62, t63, t64, t65, t66, t67, t68, t69, t70, t71, t72, t73, t74, rfl, gw, f0, f1, f2, f3, f4, f5, f6, f7, f8, f9, f10, f11, f12, f13, f14⟩ K hK
    have hn : ¬ done.getD 1 false = true := by rw [getD_both hnot]; decide
    have HK := PLift.up hK
    clear hK 
    simp only [bn18A]
    go_simp
    have gg : Gr w w := Gr.refl _
    refine HK.down _ _ ⟨_, _, _, _, _, _, _, _, _, _, _, _, _, _, rfl, gw.imp done_stay id, kp f0, fun _ => rfl, kp f2, kp f3, kp f4, kp f5, kp f6, kp f7, kp f8, kp f9, fun q => (let ⟨h9, E, y, e, y0, y1, h⟩ := f10 (done_old q (by decide)); ⟨done_stay h9, E, y, e, y0, y1, h.imp done_stay id⟩), fun q => (let ⟨⟨h4, h9, h10⟩, y, A, c, W1, e, y0, y1, h⟩ := f11 (done_old q (by decide)); ⟨⟨done_stay h4, done_stay h9, done_stay h10⟩, y, A, c, W1, e, y0, y1, h.imp done_stay id⟩), kp f12, kp f13, fun q => (let h := f14 (done_old q (by decide)); ⟨done_stay h.1, h.2⟩)⟩
  · rintro done a w hsz hnot hdep ⟨t61, t62, t63, t64, t65, t66, t67, t68, t69, t70, t71, t72, t73, t74, rfl, gw, f0, f1, f2, f3, f4, f5, f6, f7, f8, f9, f10, f11, f12, f13, f14⟩ K hK
    have hn : ¬ done.getD 2 false = true := by rw [getD_both hnot]; decide
    have d1 := hdep 1 (by kernel_rfl)
    obtain rfl := f1 d1
    have HK := PLift.up hK
    clear hK d1
    simp only [bn18A]
    go_simp
    have gg : Gr w w := Gr.refl _
    refine HK.down _ _ ⟨_, _, _, _, _, _, _, _, _, _, _, _, _, _, rfl, gw.imp done_stay id, kp f0, kp f1, fun _ => rfl, kp f3, kp f4, kp f5, kp f6, kp f7, kp f8, kp f9, fun q => (let ⟨h9, E, y, e, y0, y1, h⟩ := f10 (done_old q (by decide)); ⟨done_stay h9, E, y, e, y0, y1, h.imp done_stay id⟩), fun q => (let ⟨⟨h4, h9, h10⟩, y, A, c, W1, e, y0, y1, h⟩ := f11 (done_old q (by decide)); ⟨⟨done_stay h4, done_stay h9, done_stay h10⟩, y, A, c, W1, e, y0, y1, h.imp done_stay id⟩), kp f12, kp f13, fun q => (let h := f14 (done_old q (by decide)); ⟨done_stay h.1, h.2⟩)⟩
  · rintro done a w hsz hnot hdep ⟨t61, t62, t63, t64, t65, t66, t67, t68, t69, t70, t71, t72, t73, t74, rfl, gw, f0, f1, f2, f3, f4, f5, f6, f7, f8, f9, f10, f11, f12, f13, f14⟩ K hK
    have hn : ¬ done.getD 3 false = true := by rw [getD_both hnot]; decide
    have d2 := hdep 2 (by kernel_rfl)
    obtain rfl := f2 d2
    have HK := PLift.up hK
    clear hK d2
    simp only [bn18A]
    go_simp
    have gg : Gr w w := Gr.refl _
    refine HK.down _ _ ⟨_, _, _, _, _, _, _, _, _, _, _, _, _, _, rfl, gw.imp done_stay id, kp f0, kp f1, kp f2, fun _ => rfl, kp f4, kp f5, kp f6, kp f7, kp f8, kp f9, fun q => (let ⟨h9, E, y, e, y0, y1, h⟩ := f10 (done_old q (by decide)); ⟨done_stay h9, E, y, e, y0, y1, h.imp done_stay id⟩), fun q => (let ⟨⟨h4, h9, h10⟩, y, A, c, W1, e, y0, y1, h⟩ := f11 (done_old q (by decide)); ⟨⟨done_stay h4, done_stay h9, done_stay h10⟩, y, A, c, W1, e, y0, y1, h.imp done_stay id⟩), kp f12, kp f13, fun q => (let h := f14 (done_old q (by decide)); ⟨done_stay h.1, h.2⟩)⟩
  · rintro done a w hsz hnot hdep ⟨t61, t62, t63, t64, t65, t66, t67, t68, t69, t70, t71, t72, t73, t74, rfl, gw, f0, f1, f2, f3, f4, f5, f6, f7, f8, f9, f10, f11, f12, f13, f14⟩ K hK
    have hn : ¬ done.getD 4 false = true := by rw [getD_both hnot]; decide
    have d3 := hdep 3 (by kernel_rfl)
    obtain rfl := f3 d3
    have n11 : ¬ done.getD 11 false = true := fun h => hn (f11 h).1.1
    have HB := PLift.up (gw.resolve_left n11)
    obtain ⟨_, _, c2, ch, cf⟩ := HB.down.at HK0.down
    have cf2 := cf (k * 3 + 2)
    rw [HX.down] at c2
    simp only at c2
    clear cf n11
    have HK := PLift.up hK
    clear hK d3
    simp only [bn18A]
    go_simp
    have gg : Gr w w := Gr.refl _
    refine HK.down _ _ ⟨_, _, _, _, _, _, _, _, _, _, _, _, _, _, rfl, gw.imp done_stay id, kp f0, kp f1, kp f2, kp f3, fun _ => rfl, kp f5, kp f6, kp f7, kp f8, kp f9, fun q => (let ⟨h9, E, y, e, y0, y1, h⟩ := f10 (done_old q (by decide)); ⟨done_stay h9, E, y, e, y0, y1, h.imp done_stay id⟩), fun q => absurd (f11 (done_old q (by decide))).1.1 hn, kp f12, kp f13, fun q => absurd (f11 (f14 (done_old q (by decide))).1).1.1 hn⟩
  · rintro done a w hsz hnot hdep ⟨t61, t62, t63, t64, t65, t66, t67, t68, t69, t70, t71, t72, t73, t74, rfl, gw, f0, f1, f2, f3, f4, f5, f6, f7, f8, f9, f10, f11, f12, f13, f14⟩ K hK
    have hn : ¬ done.getD 5 false = true := by rw [getD_both hnot]; decide
    have HK := PLift.up hK
    clear hK 
    simp only [bn18A]
    go_simp
    have gg : Gr w w := Gr.refl _
    refine HK.down _ _ ⟨_, _, _, _, _, _, _, _, _, _, _, _, _, _, rfl, gw.imp done_stay id, kp f0, kp f1, kp f2, kp f3, kp f4, fun _ => rfl, kp f6, kp f7, kp f8, kp f9, fun q => (let ⟨h9, E, y, e, y0, y1, h⟩ := f10 (done_old q (by decide)); ⟨done_stay h9, E, y, e, y0, y1, h.imp done_stay id⟩), fun q => (let ⟨⟨h4, h9, h10⟩, y, A, c, W1, e, y0, y1, h⟩ := f11 (done_old q (by decide)); ⟨⟨done_stay h4, done_stay h9, done_stay h10⟩, y, A, c, W1, e, y0, y1, h.imp done_stay id⟩), kp f12, kp f13, fun q => (let h := f14 (done_old q (by decide)); ⟨done_stay h.1, h.2⟩)⟩
  · rintro done a w hsz hnot hdep ⟨t61, t62, t63, t64, t65, t66, t67, t68, t69, t70, t71, t72, t73, t74, rfl, gw, f0, f1, f2, f3, f4, f5, f6, f7, f8, f9, f10, f11, f12, f13, f14⟩ K hK
    have hn : ¬ done.getD 6 false = true := by rw [getD_both hnot]; decide
    have HK := PLift.up hK
    clear hK 
    simp only [bn18A]
    go_simp
    have gg : Gr w w := Gr.refl _
    refine HK.down _ _ ⟨_, _, _, _, _, _, _, _, _, _, _, _, _, _, rfl, gw.imp done_stay id, kp f0, kp f1, kp f2, kp f3, kp f4, kp f5, fun _ => rfl, kp f7, kp f8, kp f9, fun q => (let ⟨h9, E, y, e, y0, y1, h⟩ := f10 (done_old q (by decide)); ⟨done_stay h9, E, y, e, y0, y1, h.imp done_stay id⟩), fun q => (let ⟨⟨h4, h9, h10⟩, y, A, c, W1, e, y0, y1, h⟩ := f11 (done_old q (by decide)); ⟨⟨done_stay h4, done_stay h9, done_stay h10⟩, y, A, c, W1, e, y0, y1, h.imp done_stay id⟩), kp f12, kp f13, fun q => (let h := f14 (done_old q (by decide)); ⟨done_stay h.1, h.2⟩)⟩
  · rintro done a w hsz hnot hdep ⟨t61, t62, t63, t64, t65, t66, t67, t68, t69, t70, t71, t72, t73, t74, rfl, gw, f0, f1, f2, f3, f4, f5, f6, f7, f8, f9, f10, f11, f12, f13, f14⟩ K hK
    have hn : ¬ done.getD 7 false = true := by rw [getD_both hnot]; decide
    have d6 := hdep 6 (by kernel_rfl)
    obtain rfl := f6 d6
    have HK := PLift.up hK
    clear hK d6
    simp only [bn18A]
    go_simp
    have gg : Gr w w := Gr.refl _
    refine HK.down _ _ ⟨_, _, _, _, _, _, _, _, _, _, _, _, _, _, rfl, gw.imp done_stay id, kp f0, kp f1, kp f2, kp f3, kp f4, kp f5, kp f6, fun _ => rfl, kp f8, kp f9, fun q => (let ⟨h9, E, y, e, y0, y1, h⟩ := f10 (done_old q (by decide)); ⟨done_stay h9, E, y, e, y0, y1, h.imp done_stay id⟩), fun q => (let ⟨⟨h4, h9, h10⟩, y, A, c, W1, e, y0, y1, h⟩ := f11 (done_old q (by decide)); ⟨⟨done_stay h4, done_stay h9, done_stay h10⟩, y, A, c, W1, e, y0, y1, h.imp done_stay id⟩), kp f12, kp f13, fun q => (let h := f14 (done_old q (by decide)); ⟨done_stay h.1, h.2⟩)⟩
  · rintro done a w hsz hnot hdep ⟨t61, t62, t63, t64, t65, t66, t67, t68, t69, t70, t71, t72, t73, t74, rfl, gw, f0, f1, f2, f3, f4, f5, f6, f7, f8, f9, f10, f11, f12, f13, f14⟩ K hK
    have hn : ¬ done.getD 8 false = true := by rw [getD_both hnot]; decide
    have d7 := hdep 7 (by kernel_rfl)
    obtain rfl := f7 d7
    have sw : IntKind.i64.wrap ((n : Int) + 1) = (n : Int) + 1 := by rw [IntKind.wrap_i64] <;> omega
    have HK := PLift.up hK
    clear hK d7
    simp only [bn18A]
    go_simp
    have gg : Gr w w := Gr.refl _
    refine HK.down _ _ ⟨_, _, _, _, _, _, _, _, _, _, _, _, _, _, rfl, gw.imp done_stay id, kp f0, kp f1, kp f2, kp f3, kp f4, kp f5, kp f6, kp f7, fun _ => rfl, kp f9, fun q => (let ⟨h9, E, y, e, y0, y1, h⟩ := f10 (done_old q (by decide)); ⟨done_stay h9, E, y, e, y0, y1, h.imp done_stay id⟩), fun q => (let ⟨⟨h4, h9, h10⟩, y, A, c, W1, e, y0, y1, h⟩ := f11 (done_old q (by decide)); ⟨⟨done_stay h4, done_stay h9, done_stay h10⟩, y, A, c, W1, e, y0, y1, h.imp done_stay id⟩), kp f12, kp f13, fun q => (let h := f14 (done_old q (by decide)); ⟨done_stay h.1, h.2⟩)⟩
  · rintro done a w hsz hnot hdep ⟨t61, t62, t63, t64, t65, t66, t67, t68, t69, t70, t71, t72, t73, t74, rfl, gw, f0, f1, f2, f3, f4, f5, f6, f7, f8, f9, f10, f11, f12, f13, f14⟩ K hK
    have hn : ¬ done.getD 9 false = true := by rw [getD_both hnot]; decide
    have d5 := hdep 5 (by kernel_rfl)
    have d8 := hdep 8 (by kernel_rfl)
    obtain rfl := f5 d5
    obtain rfl := f8 d8
    have n11 : ¬ done.getD 11 false = true := fun h => hn (f11 h).1.2.1
    have HB := PLift.up (gw.resolve_left n11)
    clear n11
    have HK := PLift.up hK
    clear hK d5 d8
    simp only [bn18A]
    go_simp
    refine (nM_any w b len ((n : Int) + 1) (HB.down.mv.tp TP.down) (by omega) (by omega)).mono ?_
    rintro e w2 ⟨y, rfl, ⟨y0, y1⟩, hm⟩
    (try go_simp)
    refine HK.down _ _ ⟨_, _, _, _, _, _, _, _, _, _, _, _, _, _, rfl, .inr (HB.down.mvd HBW.down hm), kp f0, kp f1, kp f2, kp f3, kp f4, kp f5, kp f6, kp f7, kp f8, ?_, fun q => absurd (f10 (done_old q (by decide))).1 hn, fun q => absurd (f11 (done_old q (by decide))).1.2.1 hn, kp f12, kp f13, fun q => absurd (f11 (f14 (done_old q (by decide))).1).1.2.1 hn⟩
    exact fun _ => ⟨y, rfl, by omega, by omega⟩
  · rintro done a w hsz hnot hdep ⟨t61, t62, t63, t64, t65, t66, t67, t68, t69, t70, t71, t72, t73, t74, rfl, gw, f0, f1, f2, f3, f4, f5, f6, f7, f8, f9, f10, f11, f12, f13, f14⟩ K hK
    have hn : ¬ done.getD 10 false = true := by rw [getD_both hnot]; decide
    have d9 := hdep 9 (by kernel_rfl)
    have n11 : ¬ done.getD 11 false = true := fun h => hn (f11 h).1.2.2
    have HB := PLift.up (gw.resolve_left n11)
    obtain ⟨y, rfl, y0, y1⟩ := f9 d9
    have D9 := PLift.up d9
    clear d9 n11
    have HK := PLift.up hK
    clear hK 
    simp only [bn18A]
    go_simp
    have gg : Gr w (w.alloc (.cells #[.int .i64 y] 3)) := (Gr.refl _).alloc _
    refine HK.down _ _ ⟨_, _, _, _, _, _, _, _, _, _, _, _, _, _, rfl, .inr (HB.down.gr gg), kp f0, kp f1, kp f2, kp f3, kp f4, kp f5, kp f6, kp f7, kp f8, fun _ => ⟨y, rfl, y0, y1⟩, ?_, fun q => absurd (f11 (done_old q (by decide))).1.2.2 hn, kp f12, kp f13, fun q => absurd (f11 (f14 (done_old q (by decide))).1).1.2.2 hn⟩
    exact fun _ => ⟨done_stay D9.down, w.heap.size, y, rfl, y0, y1, .inr (Row.new w #[.int .i64 y] 3)⟩
  · rintro done a w hsz hnot hdep ⟨t61, t62, t63, t64, t65, t66, t67, t68, t69, t70, t71, t72, t73, t74, rfl, gw, f0, f1, f2, f3, f4, f5, f6, f7, f8, f9, f10, f11, f12, f13, f14⟩ K hK
    have hn : ¬ done.getD 11 false = true := by rw [getD_both hnot]; decide
    have d4 := hdep 4 (by kernel_rfl)
    have d10 := hdep 10 (by kernel_rfl)
    obtain rfl := f4 d4
    obtain ⟨h9, E, y, rfl, y0, y1, hE⟩ := f10 d10
    have hE2 := hE.resolve_left hn
    have HB := gw.resolve_left hn
    have on := HB.nxt.own _ (List.getElem_mem HK0.down)
    rw [HX.down] at on
    simp only at on
    refine step_append_gets _ rfl _ _ 22 rfl wb.heap.size 3 j0 (.int .i64 0) 1 8 Tryz.underlying22 hj hy0 hy1 hy2 rfl (by decide) (.slice ax bx.next.length cx) bx.next.length (nums bx.next) (by simp [Act.eval, bn18A]) on (some ⟨E, 0, none⟩) 1 1 [.int .i64 y] (by simp [Act.eval, bn18A]) ⟨rfl, fun _ => ⟨_, rfl, row_cells hE2⟩⟩ (fun u hu => by rw [List.mem_singleton.1 hu]; rfl) (by unfold maxLen; omega) (by omega) HB.mv.size ?_
    intro v w2 hown hgrow _
    obtain ⟨A, c, rfl⟩ := owns_slice hown
    refine hK _ _ ⟨_, _, _, _, _, _, _, _, _, _, _, _, _, _, rfl, .inl (getD_set_same (by rw [hsz]; decide)), kp f0, kp f1, kp f2, kp f3, kp f4, kp f5, kp f6, kp f7, kp f8, kp f9, fun _ => ⟨done_stay h9, E, y, rfl, y0, y1, .inl (getD_set_same (by rw [hsz]; decide))⟩, ?_, kp f12, kp f13, fun q => absurd (f14 (done_old q (by decide))).1 hn⟩
    have e : nums (bx.next ++ [y]) = nums bx.next ++ [.int .i64 y] := by simp [nums]
    exact fun _ => ⟨⟨done_stay (hdep 4 (by kernel_rfl)), done_stay h9, done_stay d10⟩, y, A, c, w, rfl, y0, y1, .inr ⟨HB, hgrow, e ▸ hown⟩⟩
  · rintro done a w hsz hnot hdep ⟨t61, t62, t63, t64, t65, t66, t67, t68, t69, t70, t71, t72, t73, t74, rfl, gw, f0, f1, f2, f3, f4, f5, f6, f7, f8, f9, f10, f11, f12, f13, f14⟩ K hK
    have hn : ¬ done.getD 12 false = true := by rw [getD_both hnot]; decide
    have d0 := hdep 0 (by kernel_rfl)
    obtain rfl := f0 d0
    have HK := PLift.up hK
    clear hK d0
    simp only [bn18A]
    go_simp
    have gg : Gr w w := Gr.refl _
    refine HK.down _ _ ⟨_, _, _, _, _, _, _, _, _, _, _, _, _, _, rfl, gw.imp done_stay id, kp f0, kp f1, kp f2, kp f3, kp f4, kp f5, kp f6, kp f7, kp f8, kp f9, fun q => (let ⟨h9, E, y, e, y0, y1, h⟩ := f10 (done_old q (by decide)); ⟨done_stay h9, E, y, e, y0, y1, h.imp done_stay id⟩), fun q => (let ⟨⟨h4, h9, h10⟩, y, A, c, W1, e, y0, y1, h⟩ := f11 (done_old q (by decide)); ⟨⟨done_stay h4, done_stay h9, done_stay h10⟩, y, A, c, W1, e, y0, y1, h.imp done_stay id⟩), fun _ => rfl, kp f13, fun q => (let h := f14 (done_old q (by decide)); ⟨done_stay h.1, h.2⟩)⟩
  · rintro done a w hsz hnot hdep ⟨t61, t62, t63, t64, t65, t66, t67, t68, t69, t70, t71, t72, t73, t74, rfl, gw, f0, f1, f2, f3, f4, f5, f6, f7, f8, f9, f10, f11, f12, f13, f14⟩ K hK
    have hn : ¬ done.getD 13 false = true := by rw [getD_both hnot]; decide
    have d12 := hdep 12 (by kernel_rfl)
    obtain rfl := f12 d12
    have HK := PLift.up hK
    clear hK d12
    simp only [bn18A]
    go_simp
    have gg : Gr w w := Gr.refl _
    refine HK.down _ _ ⟨_, _, _, _, _, _, _, _, _, _, _, _, _, _, rfl, gw.imp done_stay id, kp f0, kp f1, kp f2, kp f3, kp f4, kp f5, kp f6, kp f7, kp f8, kp f9, fun q => (let ⟨h9, E, y, e, y0, y1, h⟩ := f10 (done_old q (by decide)); ⟨done_stay h9, E, y, e, y0, y1, h.imp done_stay id⟩), fun q => (let ⟨⟨h4, h9, h10⟩, y, A, c, W1, e, y0, y1, h⟩ := f11 (done_old q (by decide)); ⟨⟨done_stay h4, done_stay h9, done_stay h10⟩, y, A, c, W1, e, y0, y1, h.imp done_stay id⟩), kp f12, fun _ => rfl, fun q => (let h := f14 (done_old q (by decide)); ⟨done_stay h.1, h.2⟩)⟩
  · rintro done a w hsz hnot hdep ⟨t61, t62, t63, t64, t65, t66, t67, t68, t69, t70, t71, t72, t73, t74, rfl, gw, f0, f1, f2, f3, f4, f5, f6, f7, f8, f9, f10, f11, f12, f13, f14⟩ K hK
    have hn : ¬ done.getD 14 false = true := by rw [getD_both hnot]; decide
    have d13 := hdep 13 (by kernel_rfl)
    have d11 := hdep 11 (by kernel_rfl)
    obtain rfl := f13 d13
    obtain ⟨⟨h4, h9, h10⟩, y, A, c, W1, rfl, y0, y1, h⟩ := f11 d11
    have HH := PLift.up (h.resolve_left hn)
    have D := PLift.up (And.intro d11 (And.intro h4 (And.intro h9 h10)))
    clear d11 h4 h9 h10 h
    have hg := HH.down.2.1
    rw [← HX.down] at hg
    obtain ⟨c2, cf2, ch⟩ := HH.down.1.mid HK0.down hg
    have HG := PLift.up hg
    clear hg
    have HK := PLift.up hK
    clear hK d13
    simp only [bn18A]
    go_simp
    refine HK.down _ _ ⟨_, _, _, _, _, _, _, _, _, _, _, _, _, _, rfl, .inl (done_stay D.down.1), kp f0, kp f1, kp f2, kp f3, kp f4, kp f5, kp f6, kp f7, kp f8, kp f9, fun q => (let ⟨h9, E, y, e, y0, y1, h⟩ := f10 (done_old q (by decide)); ⟨done_stay h9, E, y, e, y0, y1, .inl (done_stay D.down.1)⟩), fun _ => ⟨⟨done_stay D.down.2.1, done_stay D.down.2.2.1, done_stay D.down.2.2.2⟩, y, A, c, W1, rfl, y0, y1, .inl (getD_set_same (by rw [hsz]; decide))⟩, kp f12, kp f13, ?_⟩
    have g := HH.down.1.next (by omega) HK0.down (ns := bx.next ++ [y]) (by simp; omega) (fun z hz => ?_) (by simp) HH.down.2.2 HG.down
    · rw [HL.down] at g; exact fun _ => ⟨done_stay D.down.1, g⟩
    · rcases List.mem_append.1 hz with hz | hz
      · exact WX.down z hz
      · rw [List.mem_singleton.1 hz]; unfold Wide; omega
  · rintro done a w hall ⟨t61, t62, t63, t64, t65, t66, t67, t68, t69, t70, t71, t72, t73, t74, rfl, gw, f0, f1, f2, f3, f4, f5, f6, f7, f8, f9, f10, f11, f12, f13, f14⟩
    exact h' _ _ _ _ _ _ _ _ _ _ _ _ _ _ w (f14 (hall 14 (by decide))).2
end Go.Proofs.YtenehghpmnajpaaGreatDoor

set_option linter.unusedVariables false
set_option linter.unusedSimpArgs false
namespace Go.Proofs.YtenehghpmnajpaaGreatDoor
open Go.RowKit
open Classical
theorem set_same_at {α : Type} {l : List α} {i : Nat} {v : α} (h : l[i]? = some v) : l.set i v = l := by
  apply List.ext_getElem?
  intro j
  rw [List.getElem?_set]
  split
  · rename_i e
    subst e
    split
    · exact h.symm
    · rename_i q
      rw [List.getElem?_eq_none (by omega)]
  · rfl
/-- One number of a branch's list is changed. -/
theorem BSt.num {b len : Nat} {w W : World} {xs : List BT} {g cap : Nat} (h : BSt b len w xs g cap W) (hl : xs.length ≤ 100000) {k j ga cx : Nat} {bx : Brn} (hk : k < xs.length) (hx : xs[k] = (bx, some ⟨ga, 0, none⟩, cx)) (hj : j < bx.next.length) {y : Int} (hy : Wide y) : GivesBent b len w (.returned (.slice (some ⟨g, 0, none⟩) xs.length cap)) (W.setCell ⟨ga, j, none⟩ (.int .i64 y)) := by
  have ok := h.nxt.own _ (List.getElem_mem hk)
  have wk := h.wd _ (List.getElem_mem hk)
  rw [hx] at ok wk
  simp only at ok wk
  have hs := grownBy_set W ga j (.int .i64 y)
  have ho : (W.setCell ⟨ga, j, none⟩ (.int .i64 y)).ownsRow w.heap.size 81 3 (.slice (some ⟨g, 0, none⟩) xs.length cap) xs.length (xs.flatMap encN) := h.own.kept hs (owns_two ok h.own (by decide))
  have o2 := owns_put ok (j := j) (by omega) (.int .i64 y)
  have e : (nums bx.next).set j (.int .i64 y) = nums (bx.next.set j y) := by simp [nums, List.map_set]
  rw [e] at o2
  have ef : xs.flatMap encN = (xs.set k (⟨bx.limit, bx.clock, bx.next.set j y⟩, some ⟨ga, 0, none⟩, cx)).flatMap encN := by
    have e1 := encN_set xs k hk (bx.next.set j y) (some ⟨ga, 0, none⟩) cx
    rw [hx] at e1
    simp only at e1
    rw [← e1]
    refine (set_same_at ?_).symm
    have := flat_at encN 3 (fun _ => rfl) xs k 2 hk (by omega)
    rw [this, hx, List.length_set]
    rfl
  rw [ef] at ho
  have hr := brn_read (xs := xs.set k (⟨bx.limit, bx.clock, bx.next.set j y⟩, some ⟨ga, 0, none⟩, cx)) (n := xs.length) (by simp) ho
    (fun z hz => by
      obtain ⟨i, hi, rfl⟩ := List.getElem_of_mem hz
      have hi' : i < xs.length := by simpa using hi
      rw [List.getElem_set]
      split
      · simp only [List.length_set]; exact o2
      · rename_i hne
        have q : blk xs[i] ≠ blk xs[k] := by
          have pw := List.pairwise_iff_getElem.1 h.nxt.one
          rcases Nat.lt_or_gt_of_ne hne with q | q
          · exact fun e => pw k i hk hi' q e.symm
          · exact pw i k hi' hk q
        rw [hx] at q
        exact (h.nxt.own _ (List.getElem_mem hi')).kept hs (.inr q))
    (fun z hz => by
      rcases mem_set_or hz with rfl | hz
      · refine ⟨wk.1, wk.2.1, by simpa using wk.2.2.1, fun z hz => ?_⟩
        rcases List.mem_or_eq_of_mem_set hz with hz | rfl
        · exact wk.2.2.2 z hz
        · exact hy
      · exact h.wd _ hz)
  exact ⟨_, some ⟨g, 0, none⟩, cap, by simp, hr, by simpa using hl, h.mv.setc (ok.lt ga rfl).1⟩
/-- What is known of each slot as soon as its operation is done. -/
def bn21F (wb wr : World) (b len n : Nat) (xs : List BT) (gx cap k : Nat) (bx : Brn) (ga : Nat) (cx : Nat) (t83 t84 t85 t86 t87 t88 t89 t90 t91 t92 t93 t94 t95 t96 t97 t98 : Value) (d : Array Bool) (w : World) : Prop :=
  (d.getD 16 false = true ∨ BSt b len wb xs gx cap w) ∧ (d.getD 0 false = true → t83 = .pointer (some ⟨gx, k * 3, none⟩)) ∧
  (d.getD 1 false = true → t84 = .pointer (some ⟨gx, k * 3, none⟩)) ∧
  (d.getD 2 false = true → t85 = .pointer (some ⟨gx, k * 3 + 2, none⟩)) ∧
  (d.getD 3 false = true → t86 = .slice (some ⟨ga, 0, none⟩) bx.next.length cx) ∧
  (d.getD 4 false = true → t87 = .pointer (some ⟨b, 0, none⟩)) ∧
  (d.getD 5 false = true → t88 = .pointer (some ⟨gx, k * 3, none⟩)) ∧
  (d.getD 6 false = true → t89 = .pointer (some ⟨gx, k * 3, none⟩)) ∧
  (d.getD 7 false = true → t90 = .pointer (some ⟨gx, k * 3 + 2, none⟩)) ∧
  (d.getD 8 false = true → t91 = .slice (some ⟨ga, 0, none⟩) bx.next.length cx) ∧
  (d.getD 9 false = true → t92 = .int .i64 (bx.next.length : Int)) ∧
  (d.getD 10 false = true → (∃ j : Nat, t93 = .int .i64 (j : Int) ∧ j < bx.next.length)) ∧
  (d.getD 11 false = true → t94 = .pointer (some ⟨b, 0, none⟩)) ∧
  (d.getD 12 false = true → t95 = .slice (some ⟨gx, 0, none⟩) n cap) ∧
  (d.getD 13 false = true → t96 = .int .i64 (n : Int)) ∧
  (d.getD 14 false = true → (∃ y : Int, t97 = .int .i64 y ∧ -1 ≤ y ∧ y ≤ 90000)) ∧
  (d.getD 15 false = true → (∃ j : Nat, t98 = .pointer (some ⟨ga, j, none⟩) ∧ j < bx.next.length)) ∧
  (d.getD 16 false = true → ((d.getD 3 false = true ∧ d.getD 8 false = true ∧ d.getD 10 false = true ∧ d.getD 14 false = true) ∧ GivesBent b len wb (.returned (.slice (some ⟨gx, 0, none⟩) n cap)) w))
/-- The frame. -/
def bn21A (b n gx cap k : Nat) (t83 t84 t85 t86 t87 t88 t89 t90 t91 t92 t93 t94 t95 t96 t97 t98 s1 s2 s3 s4 s6 s7 s9 s10 s11 s12 s13 s14 s15 s16 s17 s18 s19 s20 s21 s22 s23 s24 s25 s26 s27 s28 s29 s30 s31 s32 s33 s34 s35 s36 s37 s38 s39 s40 s41 s42 s43 s44 s45 s46 s47 s48 s49 s50 s51 s52 s53 s54 s55 s56 s57 s58 s59 s60 s61 s62 s63 s64 s65 s66 s67 s68 s69 s70 s71 s72 s73 s74 s75 s76 s77 s78 s79 s80 s81 s82 s99 s100 s101 s102 s103 s104 s105 s106 s107 : Value) : Act := { tmps := #[.pointer (some ⟨b, 0, none⟩), s1, s2, s3, s4, .slice (some ⟨gx, 0, none⟩) n cap, s6, s7, .pointer (some ⟨gx, k * 3, none⟩), s9, s10, s11, s12, s13, s14, s15, s16, s17, s18, s19, s20, s21, s22, s23, s24, s25, s26, s27, s28, s29, s30, s31, s32, s33, s34, s35, s36, s37, s38, s39, s40, s41, s42, s43, s44, s45, s46, s47, s48, s49, s50, s51, s52, s53, s54, s55, s56, s57, s58, s59, s60, s61, s62, s63, s64, s65, s66, s67, s68, s69, s70, s71, s72, s73, s74, s75, s76, s77, s78, s79, s80, s81, s82, t83, t84, t85, t86, t87, t88, t89, t90, t91, t92, t93, t94, t95, t96, t97, t98, s99, s100, s101, s102, s103, s104, s105, s106, s107], defers := [] }
set_option maxRecDepth 100000 in
set_option maxHeartbeats 4000000 in
theorem bn21 {Q : Exit → Act → World → Prop} {wb wr : World} {b len n : Nat} {xs : List BT} {gx cap k : Nat} {bx : Brn} {ga : Nat} {cx : Nat}  {s1 s2 s3 s4 s6 s7 s9 s10 s11 s12 s13 s14 s15 s16 s17 s18 s19 s20 s21 s22 s23 s24 s25 s26 s27 s28 s29 s30 s31 s32 s33 s34 s35 s36 s37 s38 s39 s40 s41 s42 s43 s44 s45 s46 s47 s48 s49 s50 s51 s52 s53 s54 s55 s56 s57 s58 s59 s60 s61 s62 s63 s64 s65 s66 s67 s68 s69 s70 s71 s72 s73 s74 s75 s76 s77 s78 s79 s80 s81 s82 s83 s84 s85 s86 s87 s88 s89 s90 s91 s92 s93 s94 s95 s96 s97 s98 s99 s100 s101 s102 s103 s104 s105 s106 s107 : Value} (TP0 : Tp wb b len) (HB0 : BSt b len wb xs gx cap wr) (hk : k < xs.length) (hx : xs[k] = (bx, some ⟨ga, 0, none⟩, cx)) (hl : xs.length = n) (hn1 : 1 ≤ n) (hn2 : n ≤ 90000) (hnl : bx.next.length ≤ 900) (hn0 : 0 < bx.next.length)
    (h' : ∀ t83 t84 t85 t86 t87 t88 t89 t90 t91 t92 t93 t94 t95 t96 t97 t98 wx, GivesBent b len wb (.returned (.slice (some ⟨gx, 0, none⟩) n cap)) wx → Q .normal (bn21A b n gx cap k t83 t84 t85 t86 t87 t88 t89 t90 t91 t92 t93 t94 t95 t96 t97 t98 s1 s2 s3 s4 s6 s7 s9 s10 s11 s12 s13 s14 s15 s16 s17 s18 s19 s20 s21 s22 s23 s24 s25 s26 s27 s28 s29 s30 s31 s32 s33 s34 s35 s36 s37 s38 s39 s40 s41 s42 s43 s44 s45 s46 s47 s48 s49 s50 s51 s52 s53 s54 s55 s56 s57 s58 s59 s60 s61 s62 s63 s64 s65 s66 s67 s68 s69 s70 s71 s72 s73 s74 s75 s76 s77 s78 s79 s80 s81 s82 s99 s100 s101 s102 s103 s104 s105 s106 s107) wx) :
    (Code.region 21 (regIn 21 Tryz.f25) true).wp Tryz.prog Q { tmps := #[.pointer (some ⟨b, 0, none⟩), s1, s2, s3, s4, .slice (some ⟨gx, 0, none⟩) n cap, s6, s7, .pointer (some ⟨gx, k * 3, none⟩), s9, s10, s11, s12, s13, s14, s15, s16, s17, s18, s19, s20, s21, s22, s23, s24, s25, s26, s27, s28, s29, s30, s31, s32, s33, s34, s35, s36, s37, s38, s39, s40, s41, s42, s43, s44, s45, s46, s47, s48, s49, s50, s51, s52, s53, s54, s55, s56, s57, s58, s59, s60, s61, s62, s63, s64, s65, s66, s67, s68, s69, s70, s71, s72, s73, s74, s75, s76, s77, s78, s79, s80, s81, s82, s83, s84, s85, s86, s87, s88, s89, s90, s91, s92, s93, s94, s95, s96, s97, s98, s99, s100, s101, s102, s103, s104, s105, s106, s107], defers := [] } wr := by
  have TP := PLift.up TP0
  have HBW := PLift.up TP0.has
  have HK0 := PLift.up hk
  have HX : PLift (xs[k]'hk = (bx, some ⟨ga, 0, none⟩, cx)) := PLift.up hx
  have HL := PLift.up hl
  have xl : xs.length ≤ 90000 := by omega
  clear TP0 hl
  simp only [regIn, Tryz.f25, regOps, Option.bind_some, Option.getD_some, Nat.beq, cond_true, cond_false]
  refine wp_region_steps (fun done a w => ∃ t83 t84 t85 t86 t87 t88 t89 t90 t91 t92 t93 t94 t95 t96 t97 t98, a = bn21A b n gx cap k t83 t84 t85 t86 t87 t88 t89 t90 t91 t92 t93 t94 t95 t96 t97 t98 s1 s2 s3 s4 s6 s7 s9 s10 s11 s12 s13 s14 s15 s16 s17 s18 s19 s20 s21 s22 s23 s24 s25 s26 s27 s28 s29 s30 s31 s32 s33 s34 s35 s36 s37 s38 s39 s40 s41 s42 s43 s44 s45 s46 s47 s48 s49 s50 s51 s52 s53 s54 s55 s56 s57 s58 s59 s60 s61 s62 s63 s64 s65 s66 s67 s68 s69 s70 s71 s72 s73 s74 s75 s76 s77 s78 s79 s80 s81 s82 s99 s100 s101 s102 s103 s104 s105 s106 s107 ∧ bn21F wb wr b len n xs gx cap k bx ga cx t83 t84 t85 t86 t87 t88 t89 t90 t91 t92 t93 t94 t95 t96 t97 t98 done w) (by kernel_rfl) (by kernel_rfl) ?_ ⟨?_, ?_, ?_, ?_, ?_, ?_, ?_, ?_, ?_, ?_, ?_, ?_, ?_, ?_, ?_, ?_, ?_, trivial⟩ ?_
  · exact ⟨s83, s84, s85, s86, s87, s88, s89, s90, s91, s92, s93, s94, s95, s96, s97, s98, rfl, .inr (HB0.gr (Gr.refl _).drew), fun q => absurd q (by decide), fun q => absurd q (by decide), fun q => absurd q (by decide), fun q => absurd q (by decide), fun q => absurd q (by decide), fun q => absurd q (by decide), fun q => absurd q (by decide), fun q => absurd q (by decide), fun q => absurd q (by decide), fun q => absurd q (by decide), fun q => absurd q (by decide), fun q => absurd q (by decide), fun q => absurd q (by decide), fun q => absurd q (by decide), fun q => absurd q (by decide), fun q => absurd q (by decide), fun q => absurd q (by decide)⟩
  · rintro done a w hsz hnot hdep ⟨t83, t84, t85, t86, t87, t88, t89, t90, t91, t92, t93, t94, t95, t96, t97, t98, rfl, gw, f0, f1, f2, f3, f4, f5, f6, f7, f8, f9, f10, f11, f12, f13, f14, f15, f16⟩ K hK
    have hn : ¬ done.getD 0 false = true := by rw [getD_both hnot]; decide
    have HK := PLift.up hK
    clear hK 
    simp only [bn21A]
    go_simp
    have gg : Gr w w := Gr.refl _
    refine HK.down _ _ ⟨_, _, _, _, _, _, _, _, _, _, _, _, _, _, _, _, rfl, gw.imp done_stay id, fun _ => rfl, kp f1, kp f2, kp f3, kp f4, kp f5, kp f6, kp f7, kp f8, kp f9, kp f10, kp f11, kp f12, kp f13, kp f14, kp f15, fun q => (let ⟨⟨h3, h8, h10, h14⟩, h⟩ := f16 (done_old q (by decide)); ⟨⟨done_stay h3, done_stay h8, done_stay h10, done_stay h14⟩, h⟩)⟩
  · rintro done a w hsz hnot hdep ⟨t83, t84, t85, t86, t87, t88, t89, t90, t91, t92, t93, t94, t95, t96, t97, t98, rfl, gw, f0, f1, f2, f3, f4, f5, f6, f7, f8, f9, f10, f11, f12, f13, f14, f15, f16⟩ K hK
    have hn : ¬ done.getD 1 false = true := by rw [getD_both hnot]; decide
    have d0 := hdep 0 (by kernel_rfl)
    obtain rfl := f0 d0
    have HK := PLift.up hK
    clear hK d0
    simp only [bn21A]
    go_simp
    have gg : Gr w w := Gr.refl _
    refine HK.down _ _ ⟨_, _, _, _, _, _, _, _, _, _, _, _, _, _, _, _, rfl, gw.imp done_stay id, kp f0, fun _ => rfl, kp f2, kp f3, kp f4, kp f5, kp f6, kp f7, kp f8, kp f9, kp f10, kp f11, kp f12, kp f13, kp f14, kp f15, fun q => (let ⟨⟨h3, h8, h10, h14⟩, h⟩ := f16 (done_old q (by decide)); ⟨⟨done_stay h3, done_stay h8, done_stay h10, done_stay h14⟩, h⟩)⟩
  · rintro done a w hsz hnot hdep ⟨t83, t84, t85, t86, t87, t88, t89, t90, t91, t92, t93, t94, t95, t96, t97, t98, rfl, gw, f0, f1, f2, f3, f4, f5, f6, f7, f8, f9, f10, f11, f12, f13, f14, f15, f16⟩ K hK
    have hn : ¬ done.getD 2 false = true := by rw [getD_both hnot]; decide
    have d1 := hdep 1 (by kernel_rfl)
    obtain rfl := f1 d1
    have HK := PLift.up hK
    clear hK d1
    simp only [bn21A]
    go_simp
    have gg : Gr w w := Gr.refl _
    refine HK.down _ _ ⟨_, _, _, _, _, _, _, _, _, _, _, _, _, _, _, _, rfl, gw.imp done_stay id, kp f0, kp f1, fun _ => rfl, kp f3, kp f4, kp f5, kp f6, kp f7, kp f8, kp f9, kp f10, kp f11, kp f12, kp f13, kp f14, kp f15, fun q => (let ⟨⟨h3, h8, h10, h14⟩, h⟩ := f16 (done_old q (by decide)); ⟨⟨done_stay h3, done_stay h8, done_stay h10, done_stay h14⟩, h⟩)⟩
  · rintro done a w hsz hnot hdep ⟨t83, t84, t85, t86, t87, t88, t89, t90, t91, t92, t93, t94, t95, t96, t97, t98, rfl, gw, f0, f1, f2, f3, f4, f5, f6, f7, f8, f9, f10, f11, f12, f13, f14, f15, f16⟩ K hK
    have hn : ¬ done.getD 3 false = true := by rw [getD_both hnot]; decide
    have d2 := hdep 2 (by kernel_rfl)
    obtain rfl := f2 d2
    have n16 : ¬ done.getD 16 false = true := fun h => hn (f16 h).1.1
    have HB := PLift.up (gw.resolve_left n16)
    obtain ⟨_, _, c2, ch, cf⟩ := HB.down.at HK0.down
    have cf2 := cf (k * 3 + 2)
    rw [HX.down] at c2
    simp only at c2
    clear cf n16
    have HK := PLift.up hK
    clear hK d2
    simp only [bn21A]
    go_simp
    have gg : Gr w w := Gr.refl _
    refine HK.down _ _ ⟨_, _, _, _, _, _, _, _, _, _, _, _, _, _, _, _, rfl, gw.imp done_stay id, kp f0, kp f1, kp f2, fun _ => rfl, kp f4, kp f5, kp f6, kp f7, kp f8, kp f9, kp f10, kp f11, kp f12, kp f13, kp f14, kp f15, fun q => absurd (f16 (done_old q (by decide))).1.1 hn⟩
  · rintro done a w hsz hnot hdep ⟨t83, t84, t85, t86, t87, t88, t89, t90, t91, t92, t93, t94, t95, t96, t97, t98, rfl, gw, f0, f1, f2, f3, f4, f5, f6, f7, f8, f9, f10, f11, f12, f13, f14, f15, f16⟩ K hK
    have hn : ¬ done.getD 4 false = true := by rw [getD_both hnot]; decide
    have HK := PLift.up hK
    clear hK 
    simp only [bn21A]
    go_simp
    have gg : Gr w w := Gr.refl _
    refine HK.down _ _ ⟨_, _, _, _, _, _, _, _, _, _, _, _, _, _, _, _, rfl, gw.imp done_stay id, kp f0, kp f1, kp f2, kp f3, fun _ => rfl, kp f5, kp f6, kp f7, kp f8, kp f9, kp f10, kp f11, kp f12, kp f13, kp f14, kp f15, fun q => (let ⟨⟨h3, h8, h10, h14⟩, h⟩ := f16 (done_old q (by decide)); ⟨⟨done_stay h3, done_stay h8, done_stay h10, done_stay h14⟩, h⟩)⟩
  · rintro done a w hsz hnot hdep ⟨t83, t84, t85, t86, t87, t88, t89, t90, t91, t92, t93, t94, t95, t96, t97, t98, rfl, gw, f0, f1, f2, f3, f4, f5, f6, f7, f8, f9, f10, f11, f12, f13, f14, f15, f16⟩ K hK
    have hn : ¬ done.getD 5 false = true := by rw [getD_both hnot]; decide
    have HK := PLift.up hK
    clear hK 
    simp only [bn21A]
    go_simp
    have gg : Gr w w := Gr.refl _
    refine HK.down _ _ ⟨_, _, _, _, _, _, _, _, _, _, _, _, _, _, _, _, rfl, gw.imp done_stay id, kp f0, kp f1, kp f2, kp f3, kp f4, fun _ => rfl, kp f6, kp f7, kp f8, kp f9, kp f10, kp f11, kp f12, kp f13, kp f14, kp f15, fun q => (let ⟨⟨h3, h8, h10, h14⟩, h⟩ := f16 (done_old q (by decide)); ⟨⟨done_stay h3, done_stay h8, done_stay h10, done_stay h14⟩, h⟩)⟩
  · rintro done a w hsz hnot hdep ⟨t83, t84, t85, t86, t87, t88, t89, t90, t91, t92, t93, t94, t95, t96, t97, t98, rfl, gw, f0, f1, f2, f3, f4, f5, f6, f7, f8, f9, f10, f11, f12, f13, f14, f15, f16⟩ K hK
    have hn : ¬ done.getD 6 false = true := by rw [getD_both hnot]; decide
    have d5 := hdep 5 (by kernel_rfl)
    obtain rfl := f5 d5
    have HK := PLift.up hK
    clear hK d5
    simp only [bn21A]
    go_simp
    have gg : Gr w w := Gr.refl _
    refine HK.down _ _ ⟨_, _, _, _, _, _, _, _, _, _, _, _, _, _, _, _, rfl, gw.imp done_stay id, kp f0, kp f1, kp f2, kp f3, kp f4, kp f5, fun _ => rfl, kp f7, kp f8, kp f9, kp f10, kp f11, kp f12, kp f13, kp f14, kp f15, fun q => (let ⟨⟨h3, h8, h10, h14⟩, h⟩ := f16 (done_old q (by decide)); ⟨⟨done_stay h3, done_stay h8, done_stay h10, done_stay h14⟩, h⟩)⟩
  · rintro done a w hsz hnot hdep ⟨t83, t84, t85, t86, t87, t88, t89, t90, t91, t92, t93, t94, t95, t96, t97, t98, rfl, gw, f0, f1, f2, f3, f4, f5, f6, f7, f8, f9, f10, f11, f12, f13, f14, f15, f16⟩ K hK
    have hn : ¬ done.getD 7 false = true := by rw [getD_both hnot]; decide
    have d6 := hdep 6 (by kernel_rfl)
    obtain rfl := f6 d6
    have HK := PLift.up hK
    clear hK d6
    simp only [bn21A]
    go_simp
    have gg : Gr w w := Gr.refl _
    refine HK.down _ _ ⟨_, _, _, _, _, _, _, _, _, _, _, _, _, _, _, _, rfl, gw.imp done_stay id, kp f0, kp f1, kp f2, kp f3, kp f4, kp f5, kp f6, fun _ => rfl, kp f8, kp f9, kp f10, kp f11, kp f12, kp f13, kp f14, kp f15, fun q => (let ⟨⟨h3, h8, h10, h14⟩, h⟩ := f16 (done_old q (by decide)); ⟨⟨done_stay h3, done_stay h8, done_stay h10, done_stay h14⟩, h⟩)⟩
  · rintro done a w hsz hnot hdep ⟨t83, t84, t85, t86, t87, t88, t89, t90, t91, t92, t93, t94, t95, t96, t97, t98, rfl, gw, f0, f1, f2, f3, f4, f5, f6, f7, f8, f9, f10, f11, f12, f13, f14, f15, f16⟩ K hK
    have hn : ¬ done.getD 8 false = true := by rw [getD_both hnot]; decide
    have d7 := hdep 7 (by kernel_rfl)
    obtain rfl := f7 d7
    have n16 : ¬ done.getD 16 false = true := fun h => hn (f16 h).1.2.1
    have HB := PLift.up (gw.resolve_left n16)
    obtain ⟨_, _, c2, ch, cf⟩ := HB.down.at HK0.down
    have cf2 := cf (k * 3 + 2)
    rw [HX.down] at c2
    simp only at c2
    clear cf n16
    have HK := PLift.up hK
    clear hK d7
    simp only [bn21A]
    go_simp
    have gg : Gr w w := Gr.refl _
    refine HK.down _ _ ⟨_, _, _, _, _, _, _, _, _, _, _, _, _, _, _, _, rfl, gw.imp done_stay id, kp f0, kp f1, kp f2, kp f3, kp f4, kp f5, kp f6, kp f7, fun _ => rfl, kp f9, kp f10, kp f11, kp f12, kp f13, kp f14, kp f15, fun q => absurd (f16 (done_old q (by decide))).1.2.1 hn⟩
  · rintro done a w hsz hnot hdep ⟨t83, t84, t85, t86, t87, t88, t89, t90, t91, t92, t93, t94, t95, t96, t97, t98, rfl, gw, f0, f1, f2, f3, f4, f5, f6, f7, f8, f9, f10, f11, f12, f13, f14, f15, f16⟩ K hK
    have hn : ¬ done.getD 9 false = true := by rw [getD_both hnot]; decide
    have d8 := hdep 8 (by kernel_rfl)
    obtain rfl := f8 d8
    have HK := PLift.up hK
    clear hK d8
    simp only [bn21A]
    go_simp
    have gg : Gr w w := Gr.refl _
    refine HK.down _ _ ⟨_, _, _, _, _, _, _, _, _, _, _, _, _, _, _, _, rfl, gw.imp done_stay id, kp f0, kp f1, kp f2, kp f3, kp f4, kp f5, kp f6, kp f7, kp f8, fun _ => rfl, kp f10, kp f11, kp f12, kp f13, kp f14, kp f15, fun q => (let ⟨⟨h3, h8, h10, h14⟩, h⟩ := f16 (done_old q (by decide)); ⟨⟨done_stay h3, done_stay h8, done_stay h10, done_stay h14⟩, h⟩)⟩
  · rintro done a w hsz hnot hdep ⟨t83, t84, t85, t86, t87, t88, t89, t90, t91, t92, t93, t94, t95, t96, t97, t98, rfl, gw, f0, f1, f2, f3, f4, f5, f6, f7, f8, f9, f10, f11, f12, f13, f14, f15, f16⟩ K hK
    have hn : ¬ done.getD 10 false = true := by rw [getD_both hnot]; decide
    have d4 := hdep 4 (by kernel_rfl)
    have d9 := hdep 9 (by kernel_rfl)
    obtain rfl := f4 d4
    obtain rfl := f9 d9
    have n16 : ¬ done.getD 16 false = true := fun h => hn (f16 h).1.2.2.1
    have HB := PLift.up (gw.resolve_left n16)
    clear n16
    have HK := PLift.up hK
    clear hK d4 d9
    simp only [bn21A]
    go_simp
    refine (nM_any w b len (bx.next.length : Int) (HB.down.mv.tp TP.down) (by omega) (by omega)).mono ?_
    rintro e w2 ⟨y, rfl, ⟨y0, y1⟩, hm⟩
    obtain ⟨y, rfl⟩ := Int.eq_ofNat_of_zero_le y0
    (try go_simp)
    refine HK.down _ _ ⟨_, _, _, _, _, _, _, _, _, _, _, _, _, _, _, _, rfl, .inr (HB.down.mvd HBW.down hm), kp f0, kp f1, kp f2, kp f3, kp f4, kp f5, kp f6, kp f7, kp f8, kp f9, ?_, kp f11, kp f12, kp f13, kp f14, kp f15, fun q => absurd (f16 (done_old q (by decide))).1.2.2.1 hn⟩
    exact fun _ => ⟨y, rfl, by omega⟩
  · rintro done a w hsz hnot hdep ⟨t83, t84, t85, t86, t87, t88, t89, t90, t91, t92, t93, t94, t95, t96, t97, t98, rfl, gw, f0, f1, f2, f3, f4, f5, f6, f7, f8, f9, f10, f11, f12, f13, f14, f15, f16⟩ K hK
    have hn : ¬ done.getD 11 false = true := by rw [getD_both hnot]; decide
    have HK := PLift.up hK
    clear hK 
    simp only [bn21A]
    go_simp
    have gg : Gr w w := Gr.refl _
    refine HK.down _ _ ⟨_, _, _, _, _, _, _, _, _, _, _, _, _, _, _, _, rfl, gw.imp done_stay id, kp f0, kp f1, kp f2, kp f3, kp f4, kp f5, kp f6, kp f7, kp f8, kp f9, kp f10, fun _ => rfl, kp f12, kp f13, kp f14, kp f15, fun q => (let ⟨⟨h3, h8, h10, h14⟩, h⟩ := f16 (done_old q (by decide)); ⟨⟨done_stay h3, done_stay h8, done_stay h10, done_stay h14⟩, h⟩)⟩
  · rintro done a w hsz hnot hdep ⟨t83, t84, t85, t86, t87, t88, t89, t90, t91, t92, t93, t94, t95, t96, t97, t98, rfl, gw, f0, f1, f2, f3, f4, f5, f6, f7, f8, f9, f10, f11, f12, f13, f14, f15, f16⟩ K hK
    have hn : ¬ done.getD 12 false = true := by rw [getD_both hnot]; decide
    have HK := PLift.up hK
    clear hK 
    simp only [bn21A]
    go_simp
    have gg : Gr w w := Gr.refl _
    refine HK.down _ _ ⟨_, _, _, _, _, _, _, _, _, _, _, _, _, _, _, _, rfl, gw.imp done_stay id, kp f0, kp f1, kp f2, kp f3, kp f4, kp f5, kp f6, kp f7, kp f8, kp f9, kp f10, kp f11, fun _ => rfl, kp f13, kp f14, kp f15, fun q => (let ⟨⟨h3, h8, h10, h14⟩, h⟩ := f16 (done_old q (by decide)); ⟨⟨done_stay h3, done_stay h8, done_stay h10, done_stay h14⟩, h⟩)⟩
  · rintro done a w hsz hnot hdep ⟨t83, t84, t85, t86, t87, t88, t89, t90, t91, t92, t93, t94, t95, t96, t97, t98, rfl, gw, f0, f1, f2, f3, f4, f5, f6, f7, f8, f9, f10, f11, f12, f13, f14, f15, f16⟩ K hK
    have hn : ¬ done.getD 13 false = true := by rw [getD_both hnot]; decide
    have d12 := hdep 12 (by kernel_rfl)
    obtain rfl := f12 d12
    have HK := PLift.up hK
    clear hK d12
    simp only [bn21A]
    go_simp
    have gg : Gr w w := Gr.refl _
    refine HK.down _ _ ⟨_, _, _, _, _, _, _, _, _, _, _, _, _, _, _, _, rfl, gw.imp done_stay id, kp f0, kp f1, kp f2, kp f3, kp f4, kp f5, kp f6, kp f7, kp f8, kp f9, kp f10, kp f11, kp f12, fun _ => rfl, kp f14, kp f15, fun q => (let ⟨⟨h3, h8, h10, h14⟩, h⟩ := f16 (done_old q (by decide)); ⟨⟨done_stay h3, done_stay h8, done_stay h10, done_stay h14⟩, h⟩)⟩
  · rintro done a w hsz hnot hdep ⟨t83, t84, t85, t86, t87, t88, t89, t90, t91, t92, t93, t94, t95, t96, t97, t98, rfl, gw, f0, f1, f2, f3, f4, f5, f6, f7, f8, f9, f10, f11, f12, f13, f14, f15, f16⟩ K hK
    have hn : ¬ done.getD 14 false = true := by rw [getD_both hnot]; decide
    have d11 := hdep 11 (by kernel_rfl)
    have d13 := hdep 13 (by kernel_rfl)
    obtain rfl := f11 d11
    obtain rfl := f13 d13
    have n16 : ¬ done.getD 16 false = true := fun h => hn (f16 h).1.2.2.2
    have HB := PLift.up (gw.resolve_left n16)
    clear n16
    have HK := PLift.up hK
    clear hK d11 d13
    simp only [bn21A]
    go_simp
    refine (rangeM_any w b len (-1) (n : Int) (HB.down.mv.tp TP.down) (by omega) (by omega) (by omega)).mono ?_
    rintro e w2 ⟨y, rfl, ⟨y0, y1⟩, hm⟩
    (try go_simp)
    refine HK.down _ _ ⟨_, _, _, _, _, _, _, _, _, _, _, _, _, _, _, _, rfl, .inr (HB.down.mvd HBW.down hm), kp f0, kp f1, kp f2, kp f3, kp f4, kp f5, kp f6, kp f7, kp f8, kp f9, kp f10, kp f11, kp f12, kp f13, ?_, kp f15, fun q => absurd (f16 (done_old q (by decide))).1.2.2.2 hn⟩
    exact fun _ => ⟨y, rfl, by omega, by omega⟩
  · rintro done a w hsz hnot hdep ⟨t83, t84, t85, t86, t87, t88, t89, t90, t91, t92, t93, t94, t95, t96, t97, t98, rfl, gw, f0, f1, f2, f3, f4, f5, f6, f7, f8, f9, f10, f11, f12, f13, f14, f15, f16⟩ K hK
    have hn : ¬ done.getD 15 false = true := by rw [getD_both hnot]; decide
    have d3 := hdep 3 (by kernel_rfl)
    have d10 := hdep 10 (by kernel_rfl)
    obtain rfl := f3 d3
    obtain ⟨j, rfl, hj⟩ := f10 d10
    have D10 := PLift.up d10
    have jl : (j : Int) < (bx.next.length : Int) := by omega
    clear d10
    have HK := PLift.up hK
    clear hK d3
    simp only [bn21A]
    go_simp
    have gg : Gr w w := Gr.refl _
    refine HK.down _ _ ⟨_, _, _, _, _, _, _, _, _, _, _, _, _, _, _, _, rfl, gw.imp done_stay id, kp f0, kp f1, kp f2, kp f3, kp f4, kp f5, kp f6, kp f7, kp f8, kp f9, fun _ => ⟨j, rfl, hj⟩, kp f11, kp f12, kp f13, kp f14, ?_, fun q => (let ⟨⟨h3, h8, h10, h14⟩, h⟩ := f16 (done_old q (by decide)); ⟨⟨done_stay h3, done_stay h8, done_stay h10, done_stay h14⟩, h⟩)⟩
    exact fun _ => ⟨j, by simp, hj⟩
  · rintro done a w hsz hnot hdep ⟨t83, t84, t85, t86, t87, t88, t89, t90, t91, t92, t93, t94, t95, t96, t97, t98, rfl, gw, f0, f1, f2, f3, f4, f5, f6, f7, f8, f9, f10, f11, f12, f13, f14, f15, f16⟩ K hK
    have hn : ¬ done.getD 16 false = true := by rw [getD_both hnot]; decide
    have d14 := hdep 14 (by kernel_rfl)
    have d15 := hdep 15 (by kernel_rfl)
    obtain ⟨y, rfl, y0, y1⟩ := f14 d14
    obtain ⟨j, rfl, hj⟩ := f15 d15
    have D := PLift.up (And.intro (hdep 3 (by kernel_rfl)) (And.intro (hdep 8 (by kernel_rfl)) (And.intro (hdep 10 (by kernel_rfl)) d14)))
    have HB := PLift.up (gw.resolve_left hn)
    have on := HB.down.nxt.own _ (List.getElem_mem HK0.down)
    rw [HX.down] at on
    simp only at on
    have hj2 : j < (nums bx.next).length := by simpa [nums] using hj
    have c2 := (on.cellAt j (by omega)).trans (List.getElem?_eq_getElem hj2)
    have cf2 := on.frozenAt j
    have ch := has_of_cell c2
    clear d14 d15 on
    have HK := PLift.up hK
    clear hK 
    simp only [bn21A]
    go_simp
    refine HK.down _ _ ⟨_, _, _, _, _, _, _, _, _, _, _, _, _, _, _, _, rfl, .inl (getD_set_same (by rw [hsz]; decide)), kp f0, kp f1, kp f2, kp f3, kp f4, kp f5, kp f6, kp f7, kp f8, kp f9, kp f10, kp f11, kp f12, kp f13, fun _ => ⟨y, rfl, y0, y1⟩, fun _ => ⟨j, rfl, hj⟩, ?_⟩
    have g := HB.down.num (by omega) HK0.down HX.down hj (y := y) (by unfold Wide; omega)
    rw [HL.down] at g
    exact fun _ => ⟨⟨done_stay D.down.1, done_stay D.down.2.1, done_stay D.down.2.2.1, done_stay D.down.2.2.2⟩, g⟩
  · rintro done a w hall ⟨t83, t84, t85, t86, t87, t88, t89, t90, t91, t92, t93, t94, t95, t96, t97, t98, rfl, gw, f0, f1, f2, f3, f4, f5, f6, f7, f8, f9, f10, f11, f12, f13, f14, f15, f16⟩
    exact h' _ _ _ _ _ _ _ _ _ _ _ _ _ _ _ _ w (f16 (hall 16 (by decide))).2
end Go.Proofs.YtenehghpmnajpaaGreatDoor

set_option linter.unusedVariables false
set_option linter.unusedSimpArgs false
namespace Go.Proofs.YtenehghpmnajpaaGreatDoor
open Go.RowKit
open Classical
set_option maxRecDepth 100000 in
set_option maxHeartbeats 4000000 in
theorem bent_any (w : World) (b len c : Nat) (a : Option Addr) (bs : List Brn) (ht : Tp w b len) (hs : SlOf 3 RBrn w a bs) (h1 : 1 ≤ bs.length) (hl : bs.length ≤ 90000) (hn : ∀ x ∈ bs, x.next.length ≤ 900) :
    Calls Tryz.prog 25 #[.pointer (some ⟨b, 0, none⟩), .slice a bs.length c] w (GivesBent b len w) := by
  have TT := Lib.hid ht
  have SS := Lib.hid hs
  have WD0 := Lib.hid (brns_wide hs hn)
  have HW := Lib.hid ht.has
  have TP := Lib.hid ht
  obtain ⟨j0, hj, hy0, hy1, hy2⟩ := info_parts infoBrn
  obtain ⟨i0, hi, hz0, hz1, hz2⟩ := info_parts infoInt
  obtain ⟨g, o, rfl, _⟩ := hs 0 (by omega)
  clear ht hs
  go_enter Tryz.func25, Tryz.ntmps25
  go_wp2_with fail
  go_loopw [5, 11] (fun s5 s11 wr => ∃ (xs : List BT) (A : Option Addr) (cap : Nat), s5 = .slice A xs.length cap ∧ s11 = .int .i64 (xs.length : Int) ∧ xs.length ≤ bs.length ∧ xs.map (·.1) = bs.take xs.length ∧ wr.ownsRow w.heap.size 81 3 (.slice A xs.length cap) xs.length (xs.flatMap encN) ∧ NextOwn w.heap.size wr xs ∧ Gr w wr) (fun _ s11 _ => bs.length - (intOf s11).toNat)
  case atStart => exact ⟨[], none, 0, rfl, rfl, by simp, rfl, World.ownsRow_nil _ _ _ _, ⟨fun x hx => by simp at hx, List.Pairwise.nil⟩, Gr.refl _⟩
  case round =>
    obtain ⟨xs, A, cap, rfl, rfl, hxl, hxe, hox, hno, hgr⟩ := hrel
    have OX := Lib.hid hox
    have NO := Lib.hid hno
    have GG := Lib.hid hgr
    have XE := Lib.hid hxe
    clear hox hno hgr hxe
    by_cases hk : xs.length < bs.length
    · obtain ⟨g', o', e, ⟨c0, w0⟩, ⟨c1, w1⟩, a2, p2, c2, f2, s2⟩ := (SS.out.gr RBrn.mono GG.out) xs.length hk
      cases e
      have BK : Hid ((bs[xs.length]).next = (bs[xs.length]).next) := Lib.hid rfl
      obtain ⟨x, hx⟩ : ∃ x, bs[xs.length] = x := ⟨_, rfl⟩
      rw [hx] at c0 c1 c2 s2 w0 w1 f2
      have hh := has_of_cell c0
      have S2 := Lib.hid s2
      have W0 := Lib.hid w0
      have W1 := Lib.hid w1
      have HX := Lib.hid hx
      clear hx BK s2 w0 w1
      have LN : x.next.length ≤ 900 := by rw [← HX.out]; exact hn _ (List.getElem_mem hk)
      go_upto_region 5 with fail
      obtain ⟨N1, hN1⟩ : ∃ N1 : Nat, Hid (wr.heap.size = N1) := ⟨_, Lib.hid rfl⟩
      obtain ⟨W1, hW1⟩ : ∃ W1 : World, Hid (W1 = wr.alloc (.cells #[.int .i64 x.limit, .int .i64 x.clock, .slice a2 x.next.length p2] 81)) := ⟨_, Lib.hid rfl⟩
      rw [← hW1.out, hN1.out]
      have G1 : Hid (Gr wr W1) := Lib.hid (by rw [hW1.out]; exact (Gr.refl _).alloc _)
      have R1 : Hid (Row W1 N1 81 [.int .i64 x.limit, .int .i64 x.clock, .slice a2 x.next.length p2]) := Lib.hid (by rw [hW1.out, ← hN1.out]; exact Row.new _ _ _)
      have Z1 : Hid (W1.heap.size = N1 + 1) := Lib.hid (by rw [hW1.out, ← hN1.out]; simp)
      have q2 := R1.out.cell 2 (by simp)
      have qh := R1.out.has
      simp only [List.getElem_cons_zero, List.getElem_cons_succ] at q2
      obtain ⟨W2, hW2⟩ : ∃ W2 : World, Hid (W2 = W1.alloc (.cells #[] 3)) := ⟨_, Lib.hid rfl⟩
      have OE : Hid (W2.ownsRow W1.heap.size 3 1 (.slice (some ⟨W1.heap.size, 0, none⟩) 0 0) 0 []) := Lib.hid (by rw [hW2.out]; exact World.ownsRow_lit W1 #[] 0 (Nat.le_refl _) (by unfold maxLen; omega) (by simp))
      have G2 : Hid (Gr W1 W2) := Lib.hid (by rw [hW2.out]; exact (Gr.refl _).alloc _)
      have R2 := Lib.hid (R1.out.gr G2.out)
      have GN : Hid (Gets W2 a2 x.next.length 1 (nums x.next)) := Lib.hid (gets_slI ((S2.out.2).gr RI.mono (G1.out.trans G2.out)))
      clear c0 c1 c2 hh f2
      go_upto_region 6 with (first
        | (at_builtin; rw [← hW2.out]; refine wpList_append_gets _ rfl _ _ 22 rfl W1.heap.size 3 i0 (.int .i64 0) 1 8 Tryz.underlying22 hi hz0 hz1 hz2 rfl (by decide) (.slice (some ⟨W1.heap.size, 0, none⟩) 0 0) 0 [] rfl OE.out a2 x.next.length p2 (nums x.next) rfl GN.out (nums_one _) (by unfold maxLen; omega) (by omega) G2.out.size ?_; intro v W3 hown hgrow hblk; rw [Nat.zero_add, List.nil_append] at hown; obtain ⟨a3, c3, rfl⟩ := owns_slice hown; have O3 := Lib.hid hown; have R3 := Lib.hid (R2.out.grown hgrow (owns_apart OE.out R2.out.s (by decide))); have G3 : Hid (Gr W1 W3) := Lib.hid (G2.out.grown hgrow (fun k e => (OE.out.lt k e).1)); have HB3 := Lib.hid hblk; have p2 := R3.out.cell 2 (by simp); have pf := R3.out.free 2; have ph := R3.out.has; simp only [List.getElem_cons_zero, List.getElem_cons_succ] at p2; clear hown hgrow hblk)
        | fail)
      obtain ⟨W4, hW4⟩ : ∃ W4 : World, Hid (W4 = W3.setCell ⟨N1, 2, none⟩ (.slice a3 x.next.length c3)) := ⟨_, Lib.hid rfl⟩
      rw [← hW4.out]
      have R4 : Hid (Row W4 N1 81 [.int .i64 x.limit, .int .i64 x.clock, .slice a3 x.next.length c3]) := Lib.hid (by rw [hW4.out]; exact R3.out.set 2 _)
      have O4 : Hid (W4.ownsRow W1.heap.size 3 1 (.slice a3 x.next.length c3) x.next.length (nums x.next)) := Lib.hid (by rw [hW4.out]; exact owns_set O3.out R3.out.s (by decide))
      have G4 : Hid (Gr wr W4) := Lib.hid (by rw [hW4.out]; exact Gr.setc (by have := hN1.out; omega) (G1.out.trans G3.out))
      obtain ⟨W5, hW5⟩ : ∃ W5 : World, Hid (W5 = W4.alloc (.cells #[.int .i64 x.limit, .int .i64 x.clock, .slice a3 x.next.length c3] 81)) := ⟨_, Lib.hid rfl⟩
      have G45 : Hid (Gr W4 W5) := Lib.hid (by rw [hW5.out]; exact (Gr.refl _).alloc _)
      obtain ⟨N4, hN4⟩ : ∃ N4 : Nat, Hid (W4.heap.size = N4) := ⟨_, Lib.hid rfl⟩
      have CC : Hid (∀ j u, ([.int .i64 x.limit, .int .i64 x.clock, .slice a3 x.next.length c3] : List Value)[j]? = some u → W5.cell? ((⟨N4, 0, none⟩ : Addr).add j) = some u) := Lib.hid (by
        have := row_cells (Row.new W4 #[.int .i64 x.limit, .int .i64 x.clock, .slice a3 x.next.length c3] 81)
        rw [← hW5.out, hN4.out] at this
        exact this)
      have O5 := Lib.hid (Gr.owns O4.out G45.out)
      have OX5 := Lib.hid (Gr.owns OX.out (G4.out.trans G45.out))
      have NO5 := Lib.hid (NO.out.gr (G4.out.trans G45.out))
      have GG5 := Lib.hid (GG.out.trans (G4.out.trans G45.out))
      have ONE : Hid (∀ u ∈ ([.int .i64 x.limit, .int .i64 x.clock, .slice a3 x.next.length c3] : List Value), u.oneCell' = true) := Lib.hid (by
        intro u hu
        simp only [List.mem_cons, List.not_mem_nil, or_false] at hu
        rcases hu with rfl | rfl | rfl <;> rfl)
      have z0 := R4.out.cell 0 (by simp)
      have z1 := R4.out.cell 1 (by simp)
      have z2 := R4.out.cell 2 (by simp)
      have zh := R4.out.has
      simp only [List.getElem_cons_zero, List.getElem_cons_succ] at z0 z1 z2
      clear p2 pf ph q2 qh hW4 hW2 hW1 OE R1 R2 R3 R4 O3 O4 GN
      go_wp2_with (first
        | (at_builtin; rw [← hW5.out, hN4.out]; refine wpList_append_gets _ rfl _ _ 25 rfl w.heap.size 81 j0 (.agg #[.int .i64 0, .int .i64 0, .slice none 0 0]) 3 40 Tryz.underlying25 hj hy0 hy1 hy2 rfl (by decide) (.slice A xs.length cap) xs.length (xs.flatMap encN) rfl OX5.out (some ⟨N4, 0, none⟩) 1 1 [.int .i64 x.limit, .int .i64 x.clock, .slice a3 x.next.length c3] rfl ⟨rfl, fun _ => ⟨_, rfl, CC.out⟩⟩ ONE.out (by unfold maxLen; omega) (by omega) GG5.out.size ?_; intro v' W6 hown hgrow _; obtain ⟨a6, c6, rfl⟩ := owns_slice hown; have O6 := Lib.hid hown; have H6 := Lib.hid hgrow; clear hown hgrow z0 z1 z2 zh hW5)
        | fail)
      go_roundw
      case rel =>
        refine ⟨xs ++ [(x, a3, c3)], a6, c6, by simp, by simp, by simp; omega, ?_, ?_, ?_, ?_⟩
        · rw [List.map_append, XE.out, List.length_append, ← HX.out]
          show _ = bs.take (xs.length + 1)
          rw [List.take_succ_eq_append_getElem hk]
          rfl
        · have := O6.out
          simpa [encN] using this
        · have ov : W6.ownsRow W1.heap.size 3 1 (.slice a3 x.next.length c3) x.next.length (nums x.next) := O5.out.kept H6.out (owns_two OX5.out O5.out (by decide))
          refine (NO5.out.oth OX5.out (by decide) H6.out).snoc (owns_low ov (by have := GG.out.size; have := G1.out.size; omega)) fun y hy e => ?_
          have hb : ∃ B, blk (x, a3, c3) = some B ∧ wr.heap.size ≤ B := by
            have s1 := G1.out.size
            have s2 := G2.out.size
            rcases HB3.out with q | q
            · exact ⟨_, q, s1⟩
            · exact ⟨_, q, by omega⟩
          obtain ⟨B, e1, e2⟩ := hb
          have := ((NO.out.own y hy).lt B (by rw [← e1]; exact e)).2
          omega
        · exact GG5.out.grown H6.out (fun k e => (OX5.out.lt k e).1)
      case measure => simp [intOf]; omega
    · have hx0 : xs.length = bs.length := by omega
      have WD1 : Hid (∀ x ∈ xs, BrnWd x.1) := Lib.hid (fun x hx => by
        have hm : x.1 ∈ xs.map (·.1) := List.mem_map_of_mem hx
        rw [XE.out] at hm
        exact WD0.out _ (List.mem_of_mem_take hm))
      have NL0 : Hid (∀ x ∈ xs, x.1.next.length ≤ 900) := Lib.hid (fun x hx => by
        have hm : x.1 ∈ xs.map (·.1) := List.mem_map_of_mem hx
        rw [XE.out] at hm
        exact hn _ (List.mem_of_mem_take hm))
      obtain ⟨gx, cap', e, hcap, _⟩ := owns_cell OX.out (by omega)
      cases e
      have B0 : Hid (BSt b len w xs gx cap wr) := Lib.hid ⟨OX.out, NO.out, WD1.out, .of_gr TT.out GG.out⟩
      obtain ⟨n, hnn⟩ : ∃ n, xs.length = n := ⟨_, rfl⟩
      have LN := Lib.hid hnn
      have BL : Hid (bs.length = n) := Lib.hid (by omega)
      have f0 : decide (n < bs.length) = false := decide_eq_false (by have := BL.out; omega)
      have f1 : 1 ≤ n := by omega
      have f2 : n ≤ 90000 := by omega
      have f3 : (n : Int) ≠ 0 := by omega
      have CP : Hid (n ≤ cap) := Lib.hid (by omega)
      clear OX NO GG XE WD1 SS hxl hk hx0 hcap
      rw [hnn]
      clear hnn
      go_wp2_with fail
      refine (nM_any wr b len n (B0.out.mv.tp TT.out) (by omega) (by omega)).mono ?_
      rintro e w1 ⟨k, rfl, ⟨k0, k1⟩, hm1⟩
      obtain ⟨k, rfl⟩ := Int.eq_ofNat_of_zero_le k0
      have B1 := Lib.hid (B0.out.mvd HW.out hm1)
      have kn : k < n := by omega
      have kn2 : (k : Int) < (n : Int) := by omega
      clear hm1 B0
      go_wp2_with fail
      refine (nM_any w1 b len 6 (B1.out.mv.tp TT.out) (by omega) (by omega)).mono ?_
      rintro e w2 ⟨q, rfl, ⟨q0, q1⟩, hm2⟩
      have B2 := Lib.hid (B1.out.mvd HW.out hm2)
      have KX : Hid (k < xs.length) := Lib.hid (by have := LN.out; omega)
      have AT := B2.out.at KX.out
      obtain ⟨⟨bx, ax, cx⟩, hbx⟩ : ∃ z, Hid ((xs[k]'KX.out) = z) := ⟨_, Lib.hid rfl⟩
      rw [hbx.out] at AT
      obtain ⟨z0, z1, z2, zh, zf⟩ := AT
      simp only at z0 z1 z2
      have zf0 := zf (k * 3)
      have zf1 := zf (k * 3 + 1)
      have zf2 := zf (k * 3 + 2)
      have XW : Hid (BrnWd (xs[k]'KX.out).1) := Lib.hid (B2.out.wd _ (List.getElem_mem KX.out))
      have NL : Hid (bx.next.length ≤ 900) := Lib.hid (by have := NL0.out _ (List.getElem_mem KX.out); rw [hbx.out] at this; exact this)
      clear hm2 B1 zf
      have hq : q = 0 ∨ q = 1 ∨ q = 2 ∨ q = 3 ∨ q = 4 ∨ q = 5 := by omega
      clear q0 q1
      rcases hq with rfl | rfl | rfl | rfl | rfl | rfl
      · clear z1 z2 zf1 zf2
        go_wp2_with fail
        refine (rangeM_any w2 b len (-2) 9 (B2.out.mv.tp TT.out) (by omega) (by omega) (by omega)).mono ?_
        rintro e w3 ⟨y, rfl, ⟨y0, y1⟩, hm3⟩
        have B3 := Lib.hid (B2.out.mvd HW.out hm3)
        have B4 := Lib.hid (B3.out.put KX.out (j := 0) (by omega) ⟨y, xs[k].1.clock, xs[k].1.next⟩ rfl ⟨by show Wide y; unfold Wide; omega, XW.out.2⟩ (.int .i64 y) (encN_set0 xs k KX.out y))
        obtain ⟨z0, _, _, zh, zf⟩ := B3.out.at KX.out
        have zf0 := zf (k * 3)
        clear zf hm3
        go_wp2_with fail
        go_ret
        have := B4.out.gives (by rw [List.length_set]; have := LN.out; omega)
        rw [List.length_set, LN.out] at this
        exact this
      · clear z0 z2 zf0 zf2
        go_wp2_with fail
        refine (rangeM_any w2 b len (-1) 9 (B2.out.mv.tp TT.out) (by omega) (by omega) (by omega)).mono ?_
        rintro e w3 ⟨y, rfl, ⟨y0, y1⟩, hm3⟩
        have B3 := Lib.hid (B2.out.mvd HW.out hm3)
        have B4 := Lib.hid (B3.out.put KX.out (j := 1) (by omega) ⟨xs[k].1.limit, y, xs[k].1.next⟩ rfl ⟨XW.out.1, by show Wide y; unfold Wide; omega, XW.out.2.2⟩ (.int .i64 y) (encN_set1 xs k KX.out y))
        obtain ⟨_, z1, _, zh, zf⟩ := B3.out.at KX.out
        have zf1 := zf (k * 3 + 1)
        clear zf hm3
        go_wp2_with fail
        go_ret
        have := B4.out.gives (by rw [List.length_set]; have := LN.out; omega)
        rw [List.length_set, LN.out] at this
        exact this
      · go_upto_region 18 with fail
        refine bn18 TT.out B2.out KX.out hbx.out LN.out f1 f2 NL.out ?_
        intro r0 r1 r2 r3 r4 r5 r6 r7 r8 r9 r10 r11 r12 r13 wx hgb
        simp only [bn18A]
        go_wp2_with fail
        go_ret
        exact hgb
      · have hz : bx.next.length = 0 ∨ 0 < bx.next.length := by omega
        rcases hz with hz | hz
        · rw [hz] at z2
          clear z0 z1 zf0 zf1 zf2
          go_wp2_with fail
          go_ret
          have := B2.out.gives (by have := LN.out; omega)
          rw [LN.out] at this
          exact this
        · have hz2 : decide (0 < bx.next.length) = true := decide_eq_true hz
          obtain ⟨ga, rfl⟩ : ∃ ga, ax = some ⟨ga, 0, none⟩ := by
            have ok := B2.out.nxt.own _ (List.getElem_mem KX.out)
            rw [hbx.out] at ok
            obtain ⟨ga, _, e, _⟩ := owns_cell ok hz
            injection e with e
            exact ⟨ga, e⟩
          go_upto_region 21 with fail
          refine bn21 TT.out B2.out KX.out hbx.out LN.out f1 f2 NL.out hz ?_
          intro r0 r1 r2 r3 r4 r5 r6 r7 r8 r9 r10 r11 r12 r13 r14 r15 wx hgb
          simp only [bn21A]
          go_wp2_with fail
          go_ret
          exact hgb
      · clear z0 z1 z2 zf0 zf1 zf2
        go_wp2_with fail
        refine (nM_any w2 b len 3 (B2.out.mv.tp TT.out) (by omega) (by omega)).mono ?_
        rintro e w3 ⟨y, rfl, ⟨y0, y1⟩, hm3⟩
        have B3 := Lib.hid (B2.out.mvd HW.out hm3)
        obtain ⟨N3, hN3⟩ : ∃ N3 : Nat, Hid (w3.heap.size = N3) := ⟨_, Lib.hid rfl⟩
        obtain ⟨W4, hW4⟩ : ∃ W4 : World, Hid (W4 = w3.alloc (.cells #[.int .i64 y, .int .i64 0, .slice none 0 0] 81)) := ⟨_, Lib.hid rfl⟩
        have G4 : Hid (Gr w3 W4) := Lib.hid (by rw [hW4.out]; exact (Gr.refl _).alloc _)
        have B4 := Lib.hid (B3.out.gr G4.out)
        have OX4 : Hid (W4.ownsRow w.heap.size 81 3 (.slice (some ⟨gx, 0, none⟩) n cap) n (xs.flatMap encN)) := Lib.hid (by have := B4.out.own; rw [LN.out] at this; exact this)
        have CC : Hid (∀ j u, ([.int .i64 y, .int .i64 0, .slice none 0 0] : List Value)[j]? = some u → W4.cell? ((⟨N3, 0, none⟩ : Addr).add j) = some u) := Lib.hid (by
          have := row_cells (Row.new w3 #[.int .i64 y, .int .i64 0, .slice none 0 0] 81)
          rw [← hW4.out, hN3.out] at this
          exact this)
        have ONE : Hid (∀ u ∈ ([.int .i64 y, .int .i64 0, .slice none 0 0] : List Value), u.oneCell' = true) := Lib.hid (by
          intro u hu
          simp only [List.mem_cons, List.not_mem_nil, or_false] at hu
          rcases hu with rfl | rfl | rfl <;> rfl)
        have WY : Hid (Wide y) := Lib.hid (by unfold Wide; omega)
        clear hm3 B2 B3
        go_wp2_with (first
          | (at_builtin; rw [← hW4.out, hN3.out]; refine wpList_append_gets _ rfl _ _ 25 rfl w.heap.size 81 j0 (.agg #[.int .i64 0, .int .i64 0, .slice none 0 0]) 3 40 Tryz.underlying25 hj hy0 hy1 hy2 rfl (by decide) (.slice (some ⟨gx, 0, none⟩) n cap) n (xs.flatMap encN) rfl OX4.out (some ⟨N3, 0, none⟩) 1 1 [.int .i64 y, .int .i64 0, .slice none 0 0] rfl ⟨rfl, fun _ => ⟨_, rfl, CC.out⟩⟩ ONE.out (by unfold maxLen; omega) (by omega) B4.out.mv.size ?_; intro v' W6 hown hgrow _; obtain ⟨a6, c6, rfl⟩ := owns_slice hown; have O6 := Lib.hid hown; have H6 := Lib.hid hgrow; clear hown hgrow hW4)
          | fail)
        go_ret
        have O6' := O6.out
        rw [← LN.out] at O6'
        have := B4.out.more (by have := LN.out; omega) WY.out O6' H6.out
        rw [LN.out] at this
        exact this
      · clear z0 z1 z2 zf0 zf1 zf2
        obtain ⟨m, rfl⟩ : ∃ m, n = m + 1 := ⟨n - 1, by omega⟩
        have mc1 : m ≤ cap := by have := CP.out; omega
        have mc2 : (m : Int) ≤ (cap : Int) := by omega
        have mw : IntKind.i64.wrap (((m + 1 : Nat) : Int) - 1) = (m : Int) := by rw [IntKind.wrap_i64] <;> omega
        have mw2 : IntKind.i64.wrap ((m : Int) + 1 - 1) = (m : Int) := by rw [IntKind.wrap_i64] <;> omega
        go_wp2_with fail
        go_ret
        exact B2.out.less (by have := LN.out; omega) LN.out rfl (by omega) (by omega)
end Go.Proofs.YtenehghpmnajpaaGreatDoor

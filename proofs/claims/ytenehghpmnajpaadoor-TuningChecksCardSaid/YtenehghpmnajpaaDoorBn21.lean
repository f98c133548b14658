/- A statement of bringuplaw17.bent by an invariant (printed by wip/tools/bent21.py). -/
import Derived.Test.YtenehghpmnajpaaDoorBn18
set_option linter.unusedVariables false
set_option linter.unusedSimpArgs false
namespace Go.Proofs.YtenehghpmnajpaaDoor
open Go.RowKit
open Classical

theorem set_same_at {α : Type} {l : List α} {i : Nat} {v : α} (h : l[i]? = some v) : l.set i v = l := by
  apply List.ext_getElem?
  intro j
  rw [List.getElem?_set]
  split
  · rename_i e
    subst e
    split
    · exact h.symm
    · rename_i q
      rw [List.getElem?_eq_none (by omega)]
  · rfl
/-- One number of a branch's list is changed. -/
theorem BSt.num {b len : Nat} {w W : World} {xs : List BT} {g cap : Nat} (h : BSt b len w xs g cap W) (hl : xs.length ≤ 100000) {k j ga cx : Nat} {bx : Brn} (hk : k < xs.length) (hx : xs[k] = (bx, some ⟨ga, 0, none⟩, cx)) (hj : j < bx.next.length) {y : Int} (hy : Wide y) : GivesBent b len w (.returned (.slice (some ⟨g, 0, none⟩) xs.length cap)) (W.setCell ⟨ga, j, none⟩ (.int .i64 y)) := by
  have ok := h.nxt.own _ (List.getElem_mem hk)
  have wk := h.wd _ (List.getElem_mem hk)
  rw [hx] at ok wk
  simp only at ok wk
  have hs := grownBy_set W ga j (.int .i64 y)
  have ho : (W.setCell ⟨ga, j, none⟩ (.int .i64 y)).ownsRow w.heap.size 76 3 (.slice (some ⟨g, 0, none⟩) xs.length cap) xs.length (xs.flatMap encN) := h.own.kept hs (owns_two ok h.own (by decide))
  have o2 := owns_put ok (j := j) (by omega) (.int .i64 y)
  have e : (nums bx.next).set j (.int .i64 y) = nums (bx.next.set j y) := by simp [nums, List.map_set]
  rw [e] at o2
  have ef : xs.flatMap encN = (xs.set k (⟨bx.limit, bx.clock, bx.next.set j y⟩, some ⟨ga, 0, none⟩, cx)).flatMap encN := by
    have e1 := encN_set xs k hk (bx.next.set j y) (some ⟨ga, 0, none⟩) cx
    rw [hx] at e1
    simp only at e1
    rw [← e1]
    refine (set_same_at ?_).symm
    have := flat_at encN 3 (fun _ => rfl) xs k 2 hk (by omega)
    rw [this, hx, List.length_set]
    rfl
  rw [ef] at ho
  have hr := brn_read (xs := xs.set k (⟨bx.limit, bx.clock, bx.next.set j y⟩, some ⟨ga, 0, none⟩, cx)) (n := xs.length) (by simp) ho
    (fun z hz => by
      obtain ⟨i, hi, rfl⟩ := List.getElem_of_mem hz
      have hi' : i < xs.length := by simpa using hi
      rw [List.getElem_set]
      split
      · simp only [List.length_set]; exact o2
      · rename_i hne
        have q : blk xs[i] ≠ blk xs[k] := by
          have pw := List.pairwise_iff_getElem.1 h.nxt.one
          rcases Nat.lt_or_gt_of_ne hne with q | q
          · exact fun e => pw k i hk hi' q e.symm
          · exact pw i k hi' hk q
        rw [hx] at q
        exact (h.nxt.own _ (List.getElem_mem hi')).kept hs (.inr q))
    (fun z hz => by
      rcases mem_set_or hz with rfl | hz
      · refine ⟨wk.1, wk.2.1, by simpa using wk.2.2.1, fun z hz => ?_⟩
        rcases List.mem_or_eq_of_mem_set hz with hz | rfl
        · exact wk.2.2.2 z hz
        · exact hy
      · exact h.wd _ hz)
  exact ⟨_, some ⟨g, 0, none⟩, cap, by simp, hr, by simpa using hl, h.mv.setc (ok.lt ga rfl).1⟩
/-- What is known of each slot as soon as its operation is done. -/
def bn21F (wb wr : World) (b len n : Nat) (xs : List BT) (gx cap k : Nat) (bx : Brn) (ga : Nat) (cx : Nat) (t83 t84 t85 t86 t87 t88 t89 t90 t91 t92 t93 t94 t95 t96 t97 t98 : Value) (d : Array Bool) (w : World) : Prop :=
  (d.getD 16 false = true ∨ BSt b len wb xs gx cap w) ∧ (d.getD 0 false = true → t83 = .pointer (some ⟨gx, k * 3, none⟩)) ∧
  (d.getD 1 false = true → t84 = .pointer (some ⟨gx, k * 3, none⟩)) ∧
  (d.getD 2 false = true → t85 = .pointer (some ⟨gx, k * 3 + 2, none⟩)) ∧
  (d.getD 3 false = true → t86 = .slice (some ⟨ga, 0, none⟩) bx.next.length cx) ∧
  (d.getD 4 false = true → t87 = .pointer (some ⟨b, 0, none⟩)) ∧
  (d.getD 5 false = true → t88 = .pointer (some ⟨gx, k * 3, none⟩)) ∧
  (d.getD 6 false = true → t89 = .pointer (some ⟨gx, k * 3, none⟩)) ∧
  (d.getD 7 false = true → t90 = .pointer (some ⟨gx, k * 3 + 2, none⟩)) ∧
  (d.getD 8 false = true → t91 = .slice (some ⟨ga, 0, none⟩) bx.next.length cx) ∧
  (d.getD 9 false = true → t92 = .int .i64 (bx.next.length : Int)) ∧
  (d.getD 10 false = true → (∃ j : Nat, t93 = .int .i64 (j : Int) ∧ j < bx.next.length)) ∧
  (d.getD 11 false = true → t94 = .pointer (some ⟨b, 0, none⟩)) ∧
  (d.getD 12 false = true → t95 = .slice (some ⟨gx, 0, none⟩) n cap) ∧
  (d.getD 13 false = true → t96 = .int .i64 (n : Int)) ∧
  (d.getD 14 false = true → (∃ y : Int, t97 = .int .i64 y ∧ -1 ≤ y ∧ y ≤ 90000)) ∧
  (d.getD 15 false = true → (∃ j : Nat, t98 = .pointer (some ⟨ga, j, none⟩) ∧ j < bx.next.length)) ∧
  (d.getD 16 false = true → ((d.getD 3 false = true ∧ d.getD 8 false = true ∧ d.getD 10 false = true ∧ d.getD 14 false = true) ∧ GivesBent b len wb (.returned (.slice (some ⟨gx, 0, none⟩) n cap)) w))
/-- The frame. -/
def bn21A (b n gx cap k : Nat) (t83 t84 t85 t86 t87 t88 t89 t90 t91 t92 t93 t94 t95 t96 t97 t98 s1 s2 s3 s4 s6 s7 s9 s10 s11 s12 s13 s14 s15 s16 s17 s18 s19 s20 s21 s22 s23 s24 s25 s26 s27 s28 s29 s30 s31 s32 s33 s34 s35 s36 s37 s38 s39 s40 s41 s42 s43 s44 s45 s46 s47 s48 s49 s50 s51 s52 s53 s54 s55 s56 s57 s58 s59 s60 s61 s62 s63 s64 s65 s66 s67 s68 s69 s70 s71 s72 s73 s74 s75 s76 s77 s78 s79 s80 s81 s82 s99 s100 s101 s102 s103 s104 s105 s106 s107 : Value) : Act := { tmps := #[.pointer (some ⟨b, 0, none⟩), s1, s2, s3, s4, .slice (some ⟨gx, 0, none⟩) n cap, s6, s7, .pointer (some ⟨gx, k * 3, none⟩), s9, s10, s11, s12, s13, s14, s15, s16, s17, s18, s19, s20, s21, s22, s23, s24, s25, s26, s27, s28, s29, s30, s31, s32, s33, s34, s35, s36, s37, s38, s39, s40, s41, s42, s43, s44, s45, s46, s47, s48, s49, s50, s51, s52, s53, s54, s55, s56, s57, s58, s59, s60, s61, s62, s63, s64, s65, s66, s67, s68, s69, s70, s71, s72, s73, s74, s75, s76, s77, s78, s79, s80, s81, s82, t83, t84, t85, t86, t87, t88, t89, t90, t91, t92, t93, t94, t95, t96, t97, t98, s99, s100, s101, s102, s103, s104, s105, s106, s107], defers := [] }

set_option maxRecDepth 100000 in
set_option maxHeartbeats 4000000 in
theorem bn21 {Q : Exit → Act → World → Prop} {wb wr : World} {b len n : Nat} {xs : List BT} {gx cap k : Nat} {bx : Brn} {ga : Nat} {cx : Nat}  {s1 s2 s3 s4 s6 s7 s9 s10 s11 s12 s13 s14 s15 s16 s17 s18 s19 s20 s21 s22 s23 s24 s25 s26 s27 s28 s29 s30 s31 s32 s33 s34 s35 s36 s37 s38 s39 s40 s41 s42 s43 s44 s45 s46 s47 s48 s49 s50 s51 s52 s53 s54 s55 s56 s57 s58 s59 s60 s61 s62 s63 s64 s65 s66 s67 s68 s69 s70 s71 s72 s73 s74 s75 s76 s77 s78 s79 s80 s81 s82 s83 s84 s85 s86 s87 s88 s89 s90 s91 s92 s93 s94 s95 s96 s97 s98 s99 s100 s101 s102 s103 s104 s105 s106 s107 : Value} (TP0 : Tp wb b len) (HB0 : BSt b len wb xs gx cap wr) (hk : k < xs.length) (hx : xs[k] = (bx, some ⟨ga, 0, none⟩, cx)) (hl : xs.length = n) (hn1 : 1 ≤ n) (hn2 : n ≤ 90000) (hnl : bx.next.length ≤ 900) (hn0 : 0 < bx.next.length)
    (h' : ∀ t83 t84 t85 t86 t87 t88 t89 t90 t91 t92 t93 t94 t95 t96 t97 t98 wx, GivesBent b len wb (.returned (.slice (some ⟨gx, 0, none⟩) n cap)) wx → Q .normal (bn21A b n gx cap k t83 t84 t85 t86 t87 t88 t89 t90 t91 t92 t93 t94 t95 t96 t97 t98 s1 s2 s3 s4 s6 s7 s9 s10 s11 s12 s13 s14 s15 s16 s17 s18 s19 s20 s21 s22 s23 s24 s25 s26 s27 s28 s29 s30 s31 s32 s33 s34 s35 s36 s37 s38 s39 s40 s41 s42 s43 s44 s45 s46 s47 s48 s49 s50 s51 s52 s53 s54 s55 s56 s57 s58 s59 s60 s61 s62 s63 s64 s65 s66 s67 s68 s69 s70 s71 s72 s73 s74 s75 s76 s77 s78 s79 s80 s81 s82 s99 s100 s101 s102 s103 s104 s105 s106 s107) wx) :
    (Code.region 21 (regIn 21 Tryd.f42) true).wp Tryd.prog Q { tmps := #[.pointer (some ⟨b, 0, none⟩), s1, s2, s3, s4, .slice (some ⟨gx, 0, none⟩) n cap, s6, s7, .pointer (some ⟨gx, k * 3, none⟩), s9, s10, s11, s12, s13, s14, s15, s16, s17, s18, s19, s20, s21, s22, s23, s24, s25, s26, s27, s28, s29, s30, s31, s32, s33, s34, s35, s36, s37, s38, s39, s40, s41, s42, s43, s44, s45, s46, s47, s48, s49, s50, s51, s52, s53, s54, s55, s56, s57, s58, s59, s60, s61, s62, s63, s64, s65, s66, s67, s68, s69, s70, s71, s72, s73, s74, s75, s76, s77, s78, s79, s80, s81, s82, s83, s84, s85, s86, s87, s88, s89, s90, s91, s92, s93, s94, s95, s96, s97, s98, s99, s100, s101, s102, s103, s104, s105, s106, s107], defers := [] } wr := by
  have TP := PLift.up TP0
  have HBW := PLift.up TP0.has
  have HK0 := PLift.up hk
  have HX : PLift (xs[k]'hk = (bx, some ⟨ga, 0, none⟩, cx)) := PLift.up hx
  have HL := PLift.up hl
  have xl : xs.length ≤ 90000 := by omega
  clear TP0 hl
  simp only [regIn, Tryd.f42, regOps, Option.bind_some, Option.getD_some, Nat.beq, cond_true, cond_false]
  refine wp_region_steps (fun done a w => ∃ t83 t84 t85 t86 t87 t88 t89 t90 t91 t92 t93 t94 t95 t96 t97 t98, a = bn21A b n gx cap k t83 t84 t85 t86 t87 t88 t89 t90 t91 t92 t93 t94 t95 t96 t97 t98 s1 s2 s3 s4 s6 s7 s9 s10 s11 s12 s13 s14 s15 s16 s17 s18 s19 s20 s21 s22 s23 s24 s25 s26 s27 s28 s29 s30 s31 s32 s33 s34 s35 s36 s37 s38 s39 s40 s41 s42 s43 s44 s45 s46 s47 s48 s49 s50 s51 s52 s53 s54 s55 s56 s57 s58 s59 s60 s61 s62 s63 s64 s65 s66 s67 s68 s69 s70 s71 s72 s73 s74 s75 s76 s77 s78 s79 s80 s81 s82 s99 s100 s101 s102 s103 s104 s105 s106 s107 ∧ bn21F wb wr b len n xs gx cap k bx ga cx t83 t84 t85 t86 t87 t88 t89 t90 t91 t92 t93 t94 t95 t96 t97 t98 done w) (by kernel_rfl) (by kernel_rfl) ?_ ⟨?_, ?_, ?_, ?_, ?_, ?_, ?_, ?_, ?_, ?_, ?_, ?_, ?_, ?_, ?_, ?_, ?_, trivial⟩ ?_
  · exact ⟨s83, s84, s85, s86, s87, s88, s89, s90, s91, s92, s93, s94, s95, s96, s97, s98, rfl, .inr (HB0.gr (Gr.refl _).drew), fun q => absurd q (by decide), fun q => absurd q (by decide), fun q => absurd q (by decide), fun q => absurd q (by decide), fun q => absurd q (by decide), fun q => absurd q (by decide), fun q => absurd q (by decide), fun q => absurd q (by decide), fun q => absurd q (by decide), fun q => absurd q (by decide), fun q => absurd q (by decide), fun q => absurd q (by decide), fun q => absurd q (by decide), fun q => absurd q (by decide), fun q => absurd q (by decide), fun q => absurd q (by decide), fun q => absurd q (by decide)⟩
  · rintro done a w hsz hnot hdep ⟨t83, t84, t85, t86, t87, t88, t89, t90, t91, t92, t93, t94, t95, t96, t97, t98, rfl, gw, f0, f1, f2, f3, f4, f5, f6, f7, f8, f9, f10, f11, f12, f13, f14, f15, f16⟩ K hK
    have hn : ¬ done.getD 0 false = true := by rw [getD_both hnot]; decide
    have HK := PLift.up hK
    clear hK 
    simp only [bn21A]
    go_simp
    have gg : Gr w w := Gr.refl _
    refine HK.down _ _ ⟨_, _, _, _, _, _, _, _, _, _, _, _, _, _, _, _, rfl, gw.imp done_stay id, fun _ => rfl, fun q => f1 (done_old q (by decide)), fun q => f2 (done_old q (by decide)), fun q => f3 (done_old q (by decide)), fun q => f4 (done_old q (by decide)), fun q => f5 (done_old q (by decide)), fun q => f6 (done_old q (by decide)), fun q => f7 (done_old q (by decide)), fun q => f8 (done_old q (by decide)), fun q => f9 (done_old q (by decide)), fun q => f10 (done_old q (by decide)), fun q => f11 (done_old q (by decide)), fun q => f12 (done_old q (by decide)), fun q => f13 (done_old q (by decide)), fun q => f14 (done_old q (by decide)), fun q => f15 (done_old q (by decide)), fun q => (let ⟨⟨h3, h8, h10, h14⟩, h⟩ := f16 (done_old q (by decide)); ⟨⟨done_stay h3, done_stay h8, done_stay h10, done_stay h14⟩, h⟩)⟩
  · rintro done a w hsz hnot hdep ⟨t83, t84, t85, t86, t87, t88, t89, t90, t91, t92, t93, t94, t95, t96, t97, t98, rfl, gw, f0, f1, f2, f3, f4, f5, f6, f7, f8, f9, f10, f11, f12, f13, f14, f15, f16⟩ K hK
    have hn : ¬ done.getD 1 false = true := by rw [getD_both hnot]; decide
    have d0 := hdep 0 (by kernel_rfl)
    obtain rfl := f0 d0
    have HK := PLift.up hK
    clear hK d0
    simp only [bn21A]
    go_simp
    have gg : Gr w w := Gr.refl _
    refine HK.down _ _ ⟨_, _, _, _, _, _, _, _, _, _, _, _, _, _, _, _, rfl, gw.imp done_stay id, fun q => f0 (done_old q (by decide)), fun _ => rfl, fun q => f2 (done_old q (by decide)), fun q => f3 (done_old q (by decide)), fun q => f4 (done_old q (by decide)), fun q => f5 (done_old q (by decide)), fun q => f6 (done_old q (by decide)), fun q => f7 (done_old q (by decide)), fun q => f8 (done_old q (by decide)), fun q => f9 (done_old q (by decide)), fun q => f10 (done_old q (by decide)), fun q => f11 (done_old q (by decide)), fun q => f12 (done_old q (by decide)), fun q => f13 (done_old q (by decide)), fun q => f14 (done_old q (by decide)), fun q => f15 (done_old q (by decide)), fun q => (let ⟨⟨h3, h8, h10, h14⟩, h⟩ := f16 (done_old q (by decide)); ⟨⟨done_stay h3, done_stay h8, done_stay h10, done_stay h14⟩, h⟩)⟩
  · rintro done a w hsz hnot hdep ⟨t83, t84, t85, t86, t87, t88, t89, t90, t91, t92, t93, t94, t95, t96, t97, t98, rfl, gw, f0, f1, f2, f3, f4, f5, f6, f7, f8, f9, f10, f11, f12, f13, f14, f15, f16⟩ K hK
    have hn : ¬ done.getD 2 false = true := by rw [getD_both hnot]; decide
    have d1 := hdep 1 (by kernel_rfl)
    obtain rfl := f1 d1
    have HK := PLift.up hK
    clear hK d1
    simp only [bn21A]
    go_simp
    have gg : Gr w w := Gr.refl _
    refine HK.down _ _ ⟨_, _, _, _, _, _, _, _, _, _, _, _, _, _, _, _, rfl, gw.imp done_stay id, fun q => f0 (done_old q (by decide)), fun q => f1 (done_old q (by decide)), fun _ => rfl, fun q => f3 (done_old q (by decide)), fun q => f4 (done_old q (by decide)), fun q => f5 (done_old q (by decide)), fun q => f6 (done_old q (by decide)), fun q => f7 (done_old q (by decide)), fun q => f8 (done_old q (by decide)), fun q => f9 (done_old q (by decide)), fun q => f10 (done_old q (by decide)), fun q => f11 (done_old q (by decide)), fun q => f12 (done_old q (by decide)), fun q => f13 (done_old q (by decide)), fun q => f14 (done_old q (by decide)), fun q => f15 (done_old q (by decide)), fun q => (let ⟨⟨h3, h8, h10, h14⟩, h⟩ := f16 (done_old q (by decide)); ⟨⟨done_stay h3, done_stay h8, done_stay h10, done_stay h14⟩, h⟩)⟩
  · rintro done a w hsz hnot hdep ⟨t83, t84, t85, t86, t87, t88, t89, t90, t91, t92, t93, t94, t95, t96, t97, t98, rfl, gw, f0, f1, f2, f3, f4, f5, f6, f7, f8, f9, f10, f11, f12, f13, f14, f15, f16⟩ K hK
    have hn : ¬ done.getD 3 false = true := by rw [getD_both hnot]; decide
    have d2 := hdep 2 (by kernel_rfl)
    obtain rfl := f2 d2
    have n16 : ¬ done.getD 16 false = true := fun h => hn (f16 h).1.1
    have HB := PLift.up (gw.resolve_left n16)
    obtain ⟨_, _, c2, ch, cf⟩ := HB.down.at HK0.down
    have cf2 := cf (k * 3 + 2)
    rw [HX.down] at c2
    simp only at c2
    clear cf n16
    have HK := PLift.up hK
    clear hK d2
    simp only [bn21A]
    go_simp
    have gg : Gr w w := Gr.refl _
    refine HK.down _ _ ⟨_, _, _, _, _, _, _, _, _, _, _, _, _, _, _, _, rfl, gw.imp done_stay id, fun q => f0 (done_old q (by decide)), fun q => f1 (done_old q (by decide)), fun q => f2 (done_old q (by decide)), fun _ => rfl, fun q => f4 (done_old q (by decide)), fun q => f5 (done_old q (by decide)), fun q => f6 (done_old q (by decide)), fun q => f7 (done_old q (by decide)), fun q => f8 (done_old q (by decide)), fun q => f9 (done_old q (by decide)), fun q => f10 (done_old q (by decide)), fun q => f11 (done_old q (by decide)), fun q => f12 (done_old q (by decide)), fun q => f13 (done_old q (by decide)), fun q => f14 (done_old q (by decide)), fun q => f15 (done_old q (by decide)), fun q => absurd (f16 (done_old q (by decide))).1.1 hn⟩
  · rintro done a w hsz hnot hdep ⟨t83, t84, t85, t86, t87, t88, t89, t90, t91, t92, t93, t94, t95, t96, t97, t98, rfl, gw, f0, f1, f2, f3, f4, f5, f6, f7, f8, f9, f10, f11, f12, f13, f14, f15, f16⟩ K hK
    have hn : ¬ done.getD 4 false = true := by rw [getD_both hnot]; decide
    have HK := PLift.up hK
    clear hK 
    simp only [bn21A]
    go_simp
    have gg : Gr w w := Gr.refl _
    refine HK.down _ _ ⟨_, _, _, _, _, _, _, _, _, _, _, _, _, _, _, _, rfl, gw.imp done_stay id, fun q => f0 (done_old q (by decide)), fun q => f1 (done_old q (by decide)), fun q => f2 (done_old q (by decide)), fun q => f3 (done_old q (by decide)), fun _ => rfl, fun q => f5 (done_old q (by decide)), fun q => f6 (done_old q (by decide)), fun q => f7 (done_old q (by decide)), fun q => f8 (done_old q (by decide)), fun q => f9 (done_old q (by decide)), fun q => f10 (done_old q (by decide)), fun q => f11 (done_old q (by decide)), fun q => f12 (done_old q (by decide)), fun q => f13 (done_old q (by decide)), fun q => f14 (done_old q (by decide)), fun q => f15 (done_old q (by decide)), fun q => (let ⟨⟨h3, h8, h10, h14⟩, h⟩ := f16 (done_old q (by decide)); ⟨⟨done_stay h3, done_stay h8, done_stay h10, done_stay h14⟩, h⟩)⟩
  · rintro done a w hsz hnot hdep ⟨t83, t84, t85, t86, t87, t88, t89, t90, t91, t92, t93, t94, t95, t96, t97, t98, rfl, gw, f0, f1, f2, f3, f4, f5, f6, f7, f8, f9, f10, f11, f12, f13, f14, f15, f16⟩ K hK
    have hn : ¬ done.getD 5 false = true := by rw [getD_both hnot]; decide
    have HK := PLift.up hK
    clear hK 
    simp only [bn21A]
    go_simp
    have gg : Gr w w := Gr.refl _
    refine HK.down _ _ ⟨_, _, _, _, _, _, _, _, _, _, _, _, _, _, _, _, rfl, gw.imp done_stay id, fun q => f0 (done_old q (by decide)), fun q => f1 (done_old q (by decide)), fun q => f2 (done_old q (by decide)), fun q => f3 (done_old q (by decide)), fun q => f4 (done_old q (by decide)), fun _ => rfl, fun q => f6 (done_old q (by decide)), fun q => f7 (done_old q (by decide)), fun q => f8 (done_old q (by decide)), fun q => f9 (done_old q (by decide)), fun q => f10 (done_old q (by decide)), fun q => f11 (done_old q (by decide)), fun q => f12 (done_old q (by decide)), fun q => f13 (done_old q (by decide)), fun q => f14 (done_old q (by decide)), fun q => f15 (done_old q (by decide)), fun q => (let ⟨⟨h3, h8, h10, h14⟩, h⟩ := f16 (done_old q (by decide)); ⟨⟨done_stay h3, done_stay h8, done_stay h10, done_stay h14⟩, h⟩)⟩
  · rintro done a w hsz hnot hdep ⟨t83, t84, t85, t86, t87, t88, t89, t90, t91, t92, t93, t94, t95, t96, t97, t98, rfl, gw, f0, f1, f2, f3, f4, f5, f6, f7, f8, f9, f10, f11, f12, f13, f14, f15, f16⟩ K hK
    have hn : ¬ done.getD 6 false = true := by rw [getD_both hnot]; decide
    have d5 := hdep 5 (by kernel_rfl)
    obtain rfl := f5 d5
    have HK := PLift.up hK
    clear hK d5
    simp only [bn21A]
    go_simp
    have gg : Gr w w := Gr.refl _
    refine HK.down _ _ ⟨_, _, _, _, _, _, _, _, _, _, _, _, _, _, _, _, rfl, gw.imp done_stay id, fun q => f0 (done_old q (by decide)), fun q => f1 (done_old q (by decide)), fun q => f2 (done_old q (by decide)), fun q => f3 (done_old q (by decide)), fun q => f4 (done_old q (by decide)), fun q => f5 (done_old q (by decide)), fun _ => rfl, fun q => f7 (done_old q (by decide)), fun q => f8 (done_old q (by decide)), fun q => f9 (done_old q (by decide)), fun q => f10 (done_old q (by decide)), fun q => f11 (done_old q (by decide)), fun q => f12 (done_old q (by decide)), fun q => f13 (done_old q (by decide)), fun q => f14 (done_old q (by decide)), fun q => f15 (done_old q (by decide)), fun q => (let ⟨⟨h3, h8, h10, h14⟩, h⟩ := f16 (done_old q (by decide)); ⟨⟨done_stay h3, done_stay h8, done_stay h10, done_stay h14⟩, h⟩)⟩
  · rintro done a w hsz hnot hdep ⟨t83, t84, t85, t86, t87, t88, t89, t90, t91, t92, t93, t94, t95, t96, t97, t98, rfl, gw, f0, f1, f2, f3, f4, f5, f6, f7, f8, f9, f10, f11, f12, f13, f14, f15, f16⟩ K hK
    have hn : ¬ done.getD 7 false = true := by rw [getD_both hnot]; decide
    have d6 := hdep 6 (by kernel_rfl)
    obtain rfl := f6 d6
    have HK := PLift.up hK
    clear hK d6
    simp only [bn21A]
    go_simp
    have gg : Gr w w := Gr.refl _
    refine HK.down _ _ ⟨_, _, _, _, _, _, _, _, _, _, _, _, _, _, _, _, rfl, gw.imp done_stay id, fun q => f0 (done_old q (by decide)), fun q => f1 (done_old q (by decide)), fun q => f2 (done_old q (by decide)), fun q => f3 (done_old q (by decide)), fun q => f4 (done_old q (by decide)), fun q => f5 (done_old q (by decide)), fun q => f6 (done_old q (by decide)), fun _ => rfl, fun q => f8 (done_old q (by decide)), fun q => f9 (done_old q (by decide)), fun q => f10 (done_old q (by decide)), fun q => f11 (done_old q (by decide)), fun q => f12 (done_old q (by decide)), fun q => f13 (done_old q (by decide)), fun q => f14 (done_old q (by decide)), fun q => f15 (done_old q (by decide)), fun q => (let ⟨⟨h3, h8, h10, h14⟩, h⟩ := f16 (done_old q (by decide)); ⟨⟨done_stay h3, done_stay h8, done_stay h10, done_stay h14⟩, h⟩)⟩
  · rintro done a w hsz hnot hdep ⟨t83, t84, t85, t86, t87, t88, t89, t90, t91, t92, t93, t94, t95, t96, t97, t98, rfl, gw, f0, f1, f2, f3, f4, f5, f6, f7, f8, f9, f10, f11, f12, f13, f14, f15, f16⟩ K hK
    have hn : ¬ done.getD 8 false = true := by rw [getD_both hnot]; decide
    have d7 := hdep 7 (by kernel_rfl)
    obtain rfl := f7 d7
    have n16 : ¬ done.getD 16 false = true := fun h => hn (f16 h).1.2.1
    have HB := PLift.up (gw.resolve_left n16)
    obtain ⟨_, _, c2, ch, cf⟩ := HB.down.at HK0.down
    have cf2 := cf (k * 3 + 2)
    rw [HX.down] at c2
    simp only at c2
    clear cf n16
    have HK := PLift.up hK
    clear hK d7
    simp only [bn21A]
    go_simp
    have gg : Gr w w := Gr.refl _
    refine HK.down _ _ ⟨_, _, _, _, _, _, _, _, _, _, _, _, _, _, _, _, rfl, gw.imp done_stay id, fun q => f0 (done_old q (by decide)), fun q => f1 (done_old q (by decide)), fun q => f2 (done_old q (by decide)), fun q => f3 (done_old q (by decide)), fun q => f4 (done_old q (by decide)), fun q => f5 (done_old q (by decide)), fun q => f6 (done_old q (by decide)), fun q => f7 (done_old q (by decide)), fun _ => rfl, fun q => f9 (done_old q (by decide)), fun q => f10 (done_old q (by decide)), fun q => f11 (done_old q (by decide)), fun q => f12 (done_old q (by decide)), fun q => f13 (done_old q (by decide)), fun q => f14 (done_old q (by decide)), fun q => f15 (done_old q (by decide)), fun q => absurd (f16 (done_old q (by decide))).1.2.1 hn⟩
  · rintro done a w hsz hnot hdep ⟨t83, t84, t85, t86, t87, t88, t89, t90, t91, t92, t93, t94, t95, t96, t97, t98, rfl, gw, f0, f1, f2, f3, f4, f5, f6, f7, f8, f9, f10, f11, f12, f13, f14, f15, f16⟩ K hK
    have hn : ¬ done.getD 9 false = true := by rw [getD_both hnot]; decide
    have d8 := hdep 8 (by kernel_rfl)
    obtain rfl := f8 d8
    have HK := PLift.up hK
    clear hK d8
    simp only [bn21A]
    go_simp
    have gg : Gr w w := Gr.refl _
    refine HK.down _ _ ⟨_, _, _, _, _, _, _, _, _, _, _, _, _, _, _, _, rfl, gw.imp done_stay id, fun q => f0 (done_old q (by decide)), fun q => f1 (done_old q (by decide)), fun q => f2 (done_old q (by decide)), fun q => f3 (done_old q (by decide)), fun q => f4 (done_old q (by decide)), fun q => f5 (done_old q (by decide)), fun q => f6 (done_old q (by decide)), fun q => f7 (done_old q (by decide)), fun q => f8 (done_old q (by decide)), fun _ => rfl, fun q => f10 (done_old q (by decide)), fun q => f11 (done_old q (by decide)), fun q => f12 (done_old q (by decide)), fun q => f13 (done_old q (by decide)), fun q => f14 (done_old q (by decide)), fun q => f15 (done_old q (by decide)), fun q => (let ⟨⟨h3, h8, h10, h14⟩, h⟩ := f16 (done_old q (by decide)); ⟨⟨done_stay h3, done_stay h8, done_stay h10, done_stay h14⟩, h⟩)⟩
  · rintro done a w hsz hnot hdep ⟨t83, t84, t85, t86, t87, t88, t89, t90, t91, t92, t93, t94, t95, t96, t97, t98, rfl, gw, f0, f1, f2, f3, f4, f5, f6, f7, f8, f9, f10, f11, f12, f13, f14, f15, f16⟩ K hK
    have hn : ¬ done.getD 10 false = true := by rw [getD_both hnot]; decide
    have d4 := hdep 4 (by kernel_rfl)
    have d9 := hdep 9 (by kernel_rfl)
    obtain rfl := f4 d4
    obtain rfl := f9 d9
    have n16 : ¬ done.getD 16 false = true := fun h => hn (f16 h).1.2.2.1
    have HB := PLift.up (gw.resolve_left n16)
    clear n16
    have HK := PLift.up hK
    clear hK d4 d9
    simp only [bn21A]
    go_simp
    refine (nM_any w b len (bx.next.length : Int) (HB.down.mv.tp TP.down) (by omega) (by omega)).mono ?_
    rintro e w2 ⟨y, rfl, ⟨y0, y1⟩, hm⟩
    obtain ⟨y, rfl⟩ := Int.eq_ofNat_of_zero_le y0
    (try go_simp)
    refine HK.down _ _ ⟨_, _, _, _, _, _, _, _, _, _, _, _, _, _, _, _, rfl, .inr (HB.down.mvd HBW.down hm), fun q => f0 (done_old q (by decide)), fun q => f1 (done_old q (by decide)), fun q => f2 (done_old q (by decide)), fun q => f3 (done_old q (by decide)), fun q => f4 (done_old q (by decide)), fun q => f5 (done_old q (by decide)), fun q => f6 (done_old q (by decide)), fun q => f7 (done_old q (by decide)), fun q => f8 (done_old q (by decide)), fun q => f9 (done_old q (by decide)), ?_, fun q => f11 (done_old q (by decide)), fun q => f12 (done_old q (by decide)), fun q => f13 (done_old q (by decide)), fun q => f14 (done_old q (by decide)), fun q => f15 (done_old q (by decide)), fun q => absurd (f16 (done_old q (by decide))).1.2.2.1 hn⟩
    exact fun _ => ⟨y, rfl, by omega⟩
  · rintro done a w hsz hnot hdep ⟨t83, t84, t85, t86, t87, t88, t89, t90, t91, t92, t93, t94, t95, t96, t97, t98, rfl, gw, f0, f1, f2, f3, f4, f5, f6, f7, f8, f9, f10, f11, f12, f13, f14, f15, f16⟩ K hK
    have hn : ¬ done.getD 11 false = true := by rw [getD_both hnot]; decide
    have HK := PLift.up hK
    clear hK 
    simp only [bn21A]
    go_simp
    have gg : Gr w w := Gr.refl _
    refine HK.down _ _ ⟨_, _, _, _, _, _, _, _, _, _, _, _, _, _, _, _, rfl, gw.imp done_stay id, fun q => f0 (done_old q (by decide)), fun q => f1 (done_old q (by decide)), fun q => f2 (done_old q (by decide)), fun q => f3 (done_old q (by decide)), fun q => f4 (done_old q (by decide)), fun q => f5 (done_old q (by decide)), fun q => f6 (done_old q (by decide)), fun q => f7 (done_old q (by decide)), fun q => f8 (done_old q (by decide)), fun q => f9 (done_old q (by decide)), fun q => f10 (done_old q (by decide)), fun _ => rfl, fun q => f12 (done_old q (by decide)), fun q => f13 (done_old q (by decide)), fun q => f14 (done_old q (by decide)), fun q => f15 (done_old q (by decide)), fun q => (let ⟨⟨h3, h8, h10, h14⟩, h⟩ := f16 (done_old q (by decide)); ⟨⟨done_stay h3, done_stay h8, done_stay h10, done_stay h14⟩, h⟩)⟩
  · rintro done a w hsz hnot hdep ⟨t83, t84, t85, t86, t87, t88, t89, t90, t91, t92, t93, t94, t95, t96, t97, t98, rfl, gw, f0, f1, f2, f3, f4, f5, f6, f7, f8, f9, f10, f11, f12, f13, f14, f15, f16⟩ K hK
    have hn : ¬ done.getD 12 false = true := by rw [getD_both hnot]; decide
    have HK := PLift.up hK
    clear hK 
    simp only [bn21A]
    go_simp
    have gg : Gr w w := Gr.refl _
    refine HK.down _ _ ⟨_, _, _, _, _, _, _, _, _, _, _, _, _, _, _, _, rfl, gw.imp done_stay id, fun q => f0 (done_old q (by decide)), fun q => f1 (done_old q (by decide)), fun q => f2 (done_old q (by decide)), fun q => f3 (done_old q (by decide)), fun q => f4 (done_old q (by decide)), fun q => f5 (done_old q (by decide)), fun q => f6 (done_old q (by decide)), fun q => f7 (done_old q (by decide)), fun q => f8 (done_old q (by decide)), fun q => f9 (done_old q (by decide)), fun q => f10 (done_old q (by decide)), fun q => f11 (done_old q (by decide)), fun _ => rfl, fun q => f13 (done_old q (by decide)), fun q => f14 (done_old q (by decide)), fun q => f15 (done_old q (by decide)), fun q => (let ⟨⟨h3, h8, h10, h14⟩, h⟩ := f16 (done_old q (by decide)); ⟨⟨done_stay h3, done_stay h8, done_stay h10, done_stay h14⟩, h⟩)⟩
  · rintro done a w hsz hnot hdep ⟨t83, t84, t85, t86, t87, t88, t89, t90, t91, t92, t93, t94, t95, t96, t97, t98, rfl, gw, f0, f1, f2, f3, f4, f5, f6, f7, f8, f9, f10, f11, f12, f13, f14, f15, f16⟩ K hK
    have hn : ¬ done.getD 13 false = true := by rw [getD_both hnot]; decide
    have d12 := hdep 12 (by kernel_rfl)
    obtain rfl := f12 d12
    have HK := PLift.up hK
    clear hK d12
    simp only [bn21A]
    go_simp
    have gg : Gr w w := Gr.refl _
    refine HK.down _ _ ⟨_, _, _, _, _, _, _, _, _, _, _, _, _, _, _, _, rfl, gw.imp done_stay id, fun q => f0 (done_old q (by decide)), fun q => f1 (done_old q (by decide)), fun q => f2 (done_old q (by decide)), fun q => f3 (done_old q (by decide)), fun q => f4 (done_old q (by decide)), fun q => f5 (done_old q (by decide)), fun q => f6 (done_old q (by decide)), fun q => f7 (done_old q (by decide)), fun q => f8 (done_old q (by decide)), fun q => f9 (done_old q (by decide)), fun q => f10 (done_old q (by decide)), fun q => f11 (done_old q (by decide)), fun q => f12 (done_old q (by decide)), fun _ => rfl, fun q => f14 (done_old q (by decide)), fun q => f15 (done_old q (by decide)), fun q => (let ⟨⟨h3, h8, h10, h14⟩, h⟩ := f16 (done_old q (by decide)); ⟨⟨done_stay h3, done_stay h8, done_stay h10, done_stay h14⟩, h⟩)⟩
  · rintro done a w hsz hnot hdep ⟨t83, t84, t85, t86, t87, t88, t89, t90, t91, t92, t93, t94, t95, t96, t97, t98, rfl, gw, f0, f1, f2, f3, f4, f5, f6, f7, f8, f9, f10, f11, f12, f13, f14, f15, f16⟩ K hK
    have hn : ¬ done.getD 14 false = true := by rw [getD_both hnot]; decide
    have d11 := hdep 11 (by kernel_rfl)
    have d13 := hdep 13 (by kernel_rfl)
    obtain rfl := f11 d11
    obtain rfl := f13 d13
    have n16 : ¬ done.getD 16 false = true := fun h => hn (f16 h).1.2.2.2
    have HB := PLift.up (gw.resolve_left n16)
    clear n16
    have HK := PLift.up hK
    clear hK d11 d13
    simp only [bn21A]
    go_simp
    refine (rangeM_any w b len (-1) (n : Int) (HB.down.mv.tp TP.down) (by omega) (by omega) (by omega)).mono ?_
    rintro e w2 ⟨y, rfl, ⟨y0, y1⟩, hm⟩
    (try go_simp)
    refine HK.down _ _ ⟨_, _, _, _, _, _, _, _, _, _, _, _, _, _, _, _, rfl, .inr (HB.down.mvd HBW.down hm), fun q => f0 (done_old q (by decide)), fun q => f1 (done_old q (by decide)), fun q => f2 (done_old q (by decide)), fun q => f3 (done_old q (by decide)), fun q => f4 (done_old q (by decide)), fun q => f5 (done_old q (by decide)), fun q => f6 (done_old q (by decide)), fun q => f7 (done_old q (by decide)), fun q => f8 (done_old q (by decide)), fun q => f9 (done_old q (by decide)), fun q => f10 (done_old q (by decide)), fun q => f11 (done_old q (by decide)), fun q => f12 (done_old q (by decide)), fun q => f13 (done_old q (by decide)), ?_, fun q => f15 (done_old q (by decide)), fun q => absurd (f16 (done_old q (by decide))).1.2.2.2 hn⟩
    exact fun _ => ⟨y, rfl, by omega, by omega⟩
  · rintro done a w hsz hnot hdep ⟨t83, t84, t85, t86, t87, t88, t89, t90, t91, t92, t93, t94, t95, t96, t97, t98, rfl, gw, f0, f1, f2, f3, f4, f5, f6, f7, f8, f9, f10, f11, f12, f13, f14, f15, f16⟩ K hK
    have hn : ¬ done.getD 15 false = true := by rw [getD_both hnot]; decide
    have d3 := hdep 3 (by kernel_rfl)
    have d10 := hdep 10 (by kernel_rfl)
    obtain rfl := f3 d3
    obtain ⟨j, rfl, hj⟩ := f10 d10
    have D10 := PLift.up d10
    have jl : (j : Int) < (bx.next.length : Int) := by omega
    clear d10
    have HK := PLift.up hK
    clear hK d3
    simp only [bn21A]
    go_simp
    have gg : Gr w w := Gr.refl _
    refine HK.down _ _ ⟨_, _, _, _, _, _, _, _, _, _, _, _, _, _, _, _, rfl, gw.imp done_stay id, fun q => f0 (done_old q (by decide)), fun q => f1 (done_old q (by decide)), fun q => f2 (done_old q (by decide)), fun q => f3 (done_old q (by decide)), fun q => f4 (done_old q (by decide)), fun q => f5 (done_old q (by decide)), fun q => f6 (done_old q (by decide)), fun q => f7 (done_old q (by decide)), fun q => f8 (done_old q (by decide)), fun q => f9 (done_old q (by decide)), fun _ => ⟨j, rfl, hj⟩, fun q => f11 (done_old q (by decide)), fun q => f12 (done_old q (by decide)), fun q => f13 (done_old q (by decide)), fun q => f14 (done_old q (by decide)), ?_, fun q => (let ⟨⟨h3, h8, h10, h14⟩, h⟩ := f16 (done_old q (by decide)); ⟨⟨done_stay h3, done_stay h8, done_stay h10, done_stay h14⟩, h⟩)⟩
    exact fun _ => ⟨j, by simp, hj⟩
  · rintro done a w hsz hnot hdep ⟨t83, t84, t85, t86, t87, t88, t89, t90, t91, t92, t93, t94, t95, t96, t97, t98, rfl, gw, f0, f1, f2, f3, f4, f5, f6, f7, f8, f9, f10, f11, f12, f13, f14, f15, f16⟩ K hK
    have hn : ¬ done.getD 16 false = true := by rw [getD_both hnot]; decide
    have d14 := hdep 14 (by kernel_rfl)
    have d15 := hdep 15 (by kernel_rfl)
    obtain ⟨y, rfl, y0, y1⟩ := f14 d14
    obtain ⟨j, rfl, hj⟩ := f15 d15
    have D := PLift.up (And.intro (hdep 3 (by kernel_rfl)) (And.intro (hdep 8 (by kernel_rfl)) (And.intro (hdep 10 (by kernel_rfl)) d14)))
    have HB := PLift.up (gw.resolve_left hn)
    have on := HB.down.nxt.own _ (List.getElem_mem HK0.down)
    rw [HX.down] at on
    simp only at on
    have hj2 : j < (nums bx.next).length := by simpa [nums] using hj
    have c2 := (on.cellAt j (by omega)).trans (List.getElem?_eq_getElem hj2)
    have cf2 := on.frozenAt j
    have ch := has_of_cell c2
    clear d14 d15 on
    have HK := PLift.up hK
    clear hK 
    simp only [bn21A]
    go_simp
    refine HK.down _ _ ⟨_, _, _, _, _, _, _, _, _, _, _, _, _, _, _, _, rfl, .inl (getD_set_same (by rw [hsz]; decide)), fun q => f0 (done_old q (by decide)), fun q => f1 (done_old q (by decide)), fun q => f2 (done_old q (by decide)), fun q => f3 (done_old q (by decide)), fun q => f4 (done_old q (by decide)), fun q => f5 (done_old q (by decide)), fun q => f6 (done_old q (by decide)), fun q => f7 (done_old q (by decide)), fun q => f8 (done_old q (by decide)), fun q => f9 (done_old q (by decide)), fun q => f10 (done_old q (by decide)), fun q => f11 (done_old q (by decide)), fun q => f12 (done_old q (by decide)), fun q => f13 (done_old q (by decide)), fun _ => ⟨y, rfl, y0, y1⟩, fun _ => ⟨j, rfl, hj⟩, ?_⟩
    have g := HB.down.num (by omega) HK0.down HX.down hj (y := y) (by unfold Wide; omega)
    rw [HL.down] at g
    exact fun _ => ⟨⟨done_stay D.down.1, done_stay D.down.2.1, done_stay D.down.2.2.1, done_stay D.down.2.2.2⟩, g⟩
  · rintro done a w hall ⟨t83, t84, t85, t86, t87, t88, t89, t90, t91, t92, t93, t94, t95, t96, t97, t98, rfl, gw, f0, f1, f2, f3, f4, f5, f6, f7, f8, f9, f10, f11, f12, f13, f14, f15, f16⟩
    exact h' _ _ _ _ _ _ _ _ _ _ _ _ _ _ _ _ w (f16 (hall 16 (by decide))).2
end Go.Proofs.YtenehghpmnajpaaDoor

/- A statement of the closure of tuning.Check by an invariant (printed by wip/tools/pc6.py). -/
import Derived.Test.YtenehghpmnajpaaDoorPcA
set_option linter.unusedVariables false
set_option linter.unusedSimpArgs false
namespace Go.Proofs.YtenehghpmnajpaaDoor
open Go.RowKit
open Classical

theorem done_keep {done : Array Bool} {i j : Nat} (h : done.getD j false = true) : (done.setIfInBounds i true).getD j false = true := by
  by_cases e : i = j
  · subst e
    refine getD_set_same ?_
    unfold Array.getD at h
    split at h
    · assumption
    · cases h
  · simp only [Array.getD_eq_getD_getElem?, Array.getElem?_setIfInBounds] at h ⊢
    rw [if_neg e]; exact h
/-- What is known of each slot as soon as its operation is done. -/
def pc6F (wr : World) (n m f : Int) (is : Bool) (l : List Clk) (al : Option Addr) (cl SB cs bL oL nL cL k q CB LB : Nat) (t12 t13 t14 t41 t42 t43 t44 t45 t46 t47 t48 t49 t50 t51 t52 : Value) (d : Array Bool) (w : World) : Prop :=
  Gr wr w ∧ (d.getD 0 false = true → t42 = .slice al l.length cl) ∧
  (d.getD 1 false = true → t43 = .slice (some ⟨SB, 0, none⟩) l.length cs) ∧
  (d.getD 2 false = true → t44 = .slice (some ⟨bL, oL, none⟩) nL cL) ∧
  (d.getD 3 false = true → t45 = .int .i64 (k : Int)) ∧
  (d.getD 4 false = true → t46 = .pointer (some ⟨bL, oL + k * 5, none⟩)) ∧
  (d.getD 5 false = true → t47 = .pointer (some ⟨bL, oL + k * 5 + 1, none⟩)) ∧
  (d.getD 6 false = true → t48 = .int .i64 (q : Int)) ∧
  (d.getD 7 false = true → t49 = .tuple #[.agg #[.int .i64 n, .int .i64 m], .int .i64 f, .bool is]) ∧
  (d.getD 8 false = true → t41 = .tuple #[.agg #[.int .i64 n, .int .i64 m], .int .i64 f, .bool is]) ∧
  (d.getD 9 false = true → t50 = .agg #[.int .i64 n, .int .i64 m]) ∧
  (d.getD 10 false = true → t51 = .int .i64 f) ∧
  (d.getD 11 false = true → t52 = .bool is) ∧
  (d.getD 12 false = true → (∃ P x y, t12 = .pointer (some ⟨P, 0, none⟩) ∧ Row w P 56 [x, y] ∧ wr.heap.size ≤ P)) ∧
  (d.getD 13 false = true → (d.getD 12 false = true ∧ ∃ P, t12 = .pointer (some ⟨P, 0, none⟩) ∧ Row w P 56 [.int .i64 n, .int .i64 m] ∧ wr.heap.size ≤ P)) ∧
  (d.getD 14 false = true → t13 = .int .i64 f) ∧
  (d.getD 15 false = true → t14 = .bool is)
/-- The frame. -/
def pc6A (l : List Clk) (SB cs k CB LB : Nat) (t12 t13 t14 t41 t42 t43 t44 t45 t46 t47 t48 t49 t50 t51 t52 s0 s2 s5 s6 s7 s8 s9 s10 s15 s16 s17 s18 s19 s20 s21 s22 s23 s24 s25 s26 s27 s28 s29 s30 s31 s32 s33 s34 s35 s36 s37 s38 s39 s40 s53 s54 s55 s56 s57 s58 s59 s60 s61 s62 s63 s64 s65 s66 s67 s68 s69 s70 s71 s72 s73 s74 s75 s76 s77 s78 s79 s80 s81 s82 s83 s84 s85 s86 s87 s88 s89 s90 s91 s92 s93 s94 s95 s96 s97 s98 s99 s100 s101 s102 s103 s104 s105 s106 s107 s108 s109 s110 s111 s112 s113 s114 s115 s116 s117 s118 s119 s120 s121 s122 s123 s124 s125 s126 s127 s128 s129 s130 s131 s132 s133 s134 s135 s136 : Value) : Act := { tmps := #[s0, .slice (some ⟨SB, 0, none⟩) l.length cs, s2, .pointer (some ⟨LB, 0, none⟩), .pointer (some ⟨CB, 0, none⟩), s5, s6, s7, s8, s9, s10, .int .i64 (k : Int), t12, t13, t14, s15, s16, s17, s18, s19, s20, s21, s22, s23, s24, s25, s26, s27, s28, s29, s30, s31, s32, s33, s34, s35, s36, s37, s38, s39, s40, t41, t42, t43, t44, t45, t46, t47, t48, t49, t50, t51, t52, s53, s54, s55, s56, s57, s58, s59, s60, s61, s62, s63, s64, s65, s66, s67, s68, s69, s70, s71, s72, s73, s74, s75, s76, s77, s78, s79, s80, s81, s82, s83, s84, s85, s86, s87, s88, s89, s90, s91, s92, s93, s94, s95, s96, s97, s98, s99, s100, s101, s102, s103, s104, s105, s106, s107, s108, s109, s110, s111, s112, s113, s114, s115, s116, s117, s118, s119, s120, s121, s122, s123, s124, s125, s126, s127, s128, s129, s130, s131, s132, s133, s134, s135, s136], defers := [] }

set_option maxRecDepth 100000 in
set_option maxHeartbeats 4000000 in
theorem pc6 {Q : Exit → Act → World → Prop} {wr : World} {n m f : Int} {is : Bool} {l : List Clk} {al : Option Addr} {cl SB cs bL oL nL cL k q CB LB : Nat}  {s0 s2 s5 s6 s7 s8 s9 s10 s12 s13 s14 s15 s16 s17 s18 s19 s20 s21 s22 s23 s24 s25 s26 s27 s28 s29 s30 s31 s32 s33 s34 s35 s36 s37 s38 s39 s40 s41 s42 s43 s44 s45 s46 s47 s48 s49 s50 s51 s52 s53 s54 s55 s56 s57 s58 s59 s60 s61 s62 s63 s64 s65 s66 s67 s68 s69 s70 s71 s72 s73 s74 s75 s76 s77 s78 s79 s80 s81 s82 s83 s84 s85 s86 s87 s88 s89 s90 s91 s92 s93 s94 s95 s96 s97 s98 s99 s100 s101 s102 s103 s104 s105 s106 s107 s108 s109 s110 s111 s112 s113 s114 s115 s116 s117 s118 s119 s120 s121 s122 s123 s124 s125 s126 s127 s128 s129 s130 s131 s132 s133 s134 s135 s136 : Value} (RC : Row wr CB 25 [.slice al l.length cl]) (RL : Row wr LB 107 [.slice (some ⟨bL, oL, none⟩) nL cL]) (k2 : (k : Int) < nL) (HQ : wr.cell? ⟨bL, oL + k * 5 + 1, none⟩ = some (.int .i64 (q : Int)))
    (hD : ∀ W, Gr wr W → Calls Tryd.prog 79 #[.slice al l.length cl, .slice (some ⟨SB, 0, none⟩) l.length cs, .int .i64 (q : Int)] W (Grows W (.tuple #[.agg #[.int .i64 n, .int .i64 m], .int .i64 f, .bool is])))
    (h' : ∀ t41 t42 t43 t44 t45 t46 t47 t48 t49 t50 t51 t52 P wx, Gr wr wx → Row wx P 56 [.int .i64 n, .int .i64 m] → wr.heap.size ≤ P → Q .normal (pc6A l SB cs k CB LB (.pointer (some ⟨P, 0, none⟩)) (.int .i64 f) (.bool is) t41 t42 t43 t44 t45 t46 t47 t48 t49 t50 t51 t52 s0 s2 s5 s6 s7 s8 s9 s10 s15 s16 s17 s18 s19 s20 s21 s22 s23 s24 s25 s26 s27 s28 s29 s30 s31 s32 s33 s34 s35 s36 s37 s38 s39 s40 s53 s54 s55 s56 s57 s58 s59 s60 s61 s62 s63 s64 s65 s66 s67 s68 s69 s70 s71 s72 s73 s74 s75 s76 s77 s78 s79 s80 s81 s82 s83 s84 s85 s86 s87 s88 s89 s90 s91 s92 s93 s94 s95 s96 s97 s98 s99 s100 s101 s102 s103 s104 s105 s106 s107 s108 s109 s110 s111 s112 s113 s114 s115 s116 s117 s118 s119 s120 s121 s122 s123 s124 s125 s126 s127 s128 s129 s130 s131 s132 s133 s134 s135 s136) wx) :
    (Code.region 6 (regIn 6 Tryd.f76) true).wp Tryd.prog Q { tmps := #[s0, .slice (some ⟨SB, 0, none⟩) l.length cs, s2, .pointer (some ⟨LB, 0, none⟩), .pointer (some ⟨CB, 0, none⟩), s5, s6, s7, s8, s9, s10, .int .i64 (k : Int), s12, s13, s14, s15, s16, s17, s18, s19, s20, s21, s22, s23, s24, s25, s26, s27, s28, s29, s30, s31, s32, s33, s34, s35, s36, s37, s38, s39, s40, s41, s42, s43, s44, s45, s46, s47, s48, s49, s50, s51, s52, s53, s54, s55, s56, s57, s58, s59, s60, s61, s62, s63, s64, s65, s66, s67, s68, s69, s70, s71, s72, s73, s74, s75, s76, s77, s78, s79, s80, s81, s82, s83, s84, s85, s86, s87, s88, s89, s90, s91, s92, s93, s94, s95, s96, s97, s98, s99, s100, s101, s102, s103, s104, s105, s106, s107, s108, s109, s110, s111, s112, s113, s114, s115, s116, s117, s118, s119, s120, s121, s122, s123, s124, s125, s126, s127, s128, s129, s130, s131, s132, s133, s134, s135, s136], defers := [] } wr := by
  have HD := PLift.up hD
  clear hD
  simp only [regIn, Tryd.f76, regOps, Option.bind_some, Option.getD_some, Nat.beq, cond_true, cond_false]
  refine wp_region_steps (fun done a w => ∃ t12 t13 t14 t41 t42 t43 t44 t45 t46 t47 t48 t49 t50 t51 t52, a = pc6A l SB cs k CB LB t12 t13 t14 t41 t42 t43 t44 t45 t46 t47 t48 t49 t50 t51 t52 s0 s2 s5 s6 s7 s8 s9 s10 s15 s16 s17 s18 s19 s20 s21 s22 s23 s24 s25 s26 s27 s28 s29 s30 s31 s32 s33 s34 s35 s36 s37 s38 s39 s40 s53 s54 s55 s56 s57 s58 s59 s60 s61 s62 s63 s64 s65 s66 s67 s68 s69 s70 s71 s72 s73 s74 s75 s76 s77 s78 s79 s80 s81 s82 s83 s84 s85 s86 s87 s88 s89 s90 s91 s92 s93 s94 s95 s96 s97 s98 s99 s100 s101 s102 s103 s104 s105 s106 s107 s108 s109 s110 s111 s112 s113 s114 s115 s116 s117 s118 s119 s120 s121 s122 s123 s124 s125 s126 s127 s128 s129 s130 s131 s132 s133 s134 s135 s136 ∧ pc6F wr n m f is l al cl SB cs bL oL nL cL k q CB LB t12 t13 t14 t41 t42 t43 t44 t45 t46 t47 t48 t49 t50 t51 t52 done w) (by kernel_rfl) (by kernel_rfl) ?_ ⟨?_, ?_, ?_, ?_, ?_, ?_, ?_, ?_, ?_, ?_, ?_, ?_, ?_, ?_, ?_, ?_, trivial⟩ ?_
  · exact ⟨s12, s13, s14, s41, s42, s43, s44, s45, s46, s47, s48, s49, s50, s51, s52, rfl, (Gr.refl _).drew, fun q => absurd q (by decide), fun q => absurd q (by decide), fun q => absurd q (by decide), fun q => absurd q (by decide), fun q => absurd q (by decide), fun q => absurd q (by decide), fun q => absurd q (by decide), fun q => absurd q (by decide), fun q => absurd q (by decide), fun q => absurd q (by decide), fun q => absurd q (by decide), fun q => absurd q (by decide), fun q => absurd q (by decide), fun q => absurd q (by decide), fun q => absurd q (by decide), fun q => absurd q (by decide)⟩
  · rintro done a w hsz hnot hdep ⟨t12, t13, t14, t41, t42, t43, t44, t45, t46, t47, t48, t49, t50, t51, t52, rfl, gw, f0, f1, f2, f3, f4, f5, f6, f7, f8, f9, f10, f11, f12, f13, f14, f15⟩ K hK
    have hn : ¬ done.getD 0 false = true := by rw [getD_both hnot]; decide
    have r := RC.gr gw
    have c0 := r.cell 0 (by simp)
    have ch := r.has
    simp only [List.getElem_cons_zero, List.getElem_cons_succ] at c0
    clear r
    have HK := PLift.up hK
    clear hK 
    simp only [pc6A]
    go_simp
    have gg : Gr w w := Gr.refl _
    refine HK.down _ _ ⟨_, _, _, _, _, _, _, _, _, _, _, _, _, _, _, rfl, gw, fun _ => rfl, fun q => f1 (done_old q (by decide)), fun q => f2 (done_old q (by decide)), fun q => f3 (done_old q (by decide)), fun q => f4 (done_old q (by decide)), fun q => f5 (done_old q (by decide)), fun q => f6 (done_old q (by decide)), fun q => f7 (done_old q (by decide)), fun q => f8 (done_old q (by decide)), fun q => f9 (done_old q (by decide)), fun q => f10 (done_old q (by decide)), fun q => f11 (done_old q (by decide)), fun q => (let ⟨P, x, y, e, h2, h3⟩ := f12 (done_old q (by decide)); ⟨P, x, y, e, h2.gr gg, h3⟩), fun q => (let ⟨h0, P, e, h2, h3⟩ := f13 (done_old q (by decide)); ⟨done_keep h0, P, e, h2.gr gg, h3⟩), fun q => f14 (done_old q (by decide)), fun q => f15 (done_old q (by decide))⟩
  · rintro done a w hsz hnot hdep ⟨t12, t13, t14, t41, t42, t43, t44, t45, t46, t47, t48, t49, t50, t51, t52, rfl, gw, f0, f1, f2, f3, f4, f5, f6, f7, f8, f9, f10, f11, f12, f13, f14, f15⟩ K hK
    have hn : ¬ done.getD 1 false = true := by rw [getD_both hnot]; decide
    have HK := PLift.up hK
    clear hK 
    simp only [pc6A]
    go_simp
    have gg : Gr w w := Gr.refl _
    refine HK.down _ _ ⟨_, _, _, _, _, _, _, _, _, _, _, _, _, _, _, rfl, gw, fun q => f0 (done_old q (by decide)), fun _ => rfl, fun q => f2 (done_old q (by decide)), fun q => f3 (done_old q (by decide)), fun q => f4 (done_old q (by decide)), fun q => f5 (done_old q (by decide)), fun q => f6 (done_old q (by decide)), fun q => f7 (done_old q (by decide)), fun q => f8 (done_old q (by decide)), fun q => f9 (done_old q (by decide)), fun q => f10 (done_old q (by decide)), fun q => f11 (done_old q (by decide)), fun q => (let ⟨P, x, y, e, h2, h3⟩ := f12 (done_old q (by decide)); ⟨P, x, y, e, h2.gr gg, h3⟩), fun q => (let ⟨h0, P, e, h2, h3⟩ := f13 (done_old q (by decide)); ⟨done_keep h0, P, e, h2.gr gg, h3⟩), fun q => f14 (done_old q (by decide)), fun q => f15 (done_old q (by decide))⟩
  · rintro done a w hsz hnot hdep ⟨t12, t13, t14, t41, t42, t43, t44, t45, t46, t47, t48, t49, t50, t51, t52, rfl, gw, f0, f1, f2, f3, f4, f5, f6, f7, f8, f9, f10, f11, f12, f13, f14, f15⟩ K hK
    have hn : ¬ done.getD 2 false = true := by rw [getD_both hnot]; decide
    have r := RL.gr gw
    have c0 := r.cell 0 (by simp)
    have ch := r.has
    simp only [List.getElem_cons_zero, List.getElem_cons_succ] at c0
    clear r
    have HK := PLift.up hK
    clear hK 
    simp only [pc6A]
    go_simp
    have gg : Gr w w := Gr.refl _
    refine HK.down _ _ ⟨_, _, _, _, _, _, _, _, _, _, _, _, _, _, _, rfl, gw, fun q => f0 (done_old q (by decide)), fun q => f1 (done_old q (by decide)), fun _ => rfl, fun q => f3 (done_old q (by decide)), fun q => f4 (done_old q (by decide)), fun q => f5 (done_old q (by decide)), fun q => f6 (done_old q (by decide)), fun q => f7 (done_old q (by decide)), fun q => f8 (done_old q (by decide)), fun q => f9 (done_old q (by decide)), fun q => f10 (done_old q (by decide)), fun q => f11 (done_old q (by decide)), fun q => (let ⟨P, x, y, e, h2, h3⟩ := f12 (done_old q (by decide)); ⟨P, x, y, e, h2.gr gg, h3⟩), fun q => (let ⟨h0, P, e, h2, h3⟩ := f13 (done_old q (by decide)); ⟨done_keep h0, P, e, h2.gr gg, h3⟩), fun q => f14 (done_old q (by decide)), fun q => f15 (done_old q (by decide))⟩
  · rintro done a w hsz hnot hdep ⟨t12, t13, t14, t41, t42, t43, t44, t45, t46, t47, t48, t49, t50, t51, t52, rfl, gw, f0, f1, f2, f3, f4, f5, f6, f7, f8, f9, f10, f11, f12, f13, f14, f15⟩ K hK
    have hn : ¬ done.getD 3 false = true := by rw [getD_both hnot]; decide
    have HK := PLift.up hK
    clear hK 
    simp only [pc6A]
    go_simp
    have gg : Gr w w := Gr.refl _
    refine HK.down _ _ ⟨_, _, _, _, _, _, _, _, _, _, _, _, _, _, _, rfl, gw, fun q => f0 (done_old q (by decide)), fun q => f1 (done_old q (by decide)), fun q => f2 (done_old q (by decide)), fun _ => rfl, fun q => f4 (done_old q (by decide)), fun q => f5 (done_old q (by decide)), fun q => f6 (done_old q (by decide)), fun q => f7 (done_old q (by decide)), fun q => f8 (done_old q (by decide)), fun q => f9 (done_old q (by decide)), fun q => f10 (done_old q (by decide)), fun q => f11 (done_old q (by decide)), fun q => (let ⟨P, x, y, e, h2, h3⟩ := f12 (done_old q (by decide)); ⟨P, x, y, e, h2.gr gg, h3⟩), fun q => (let ⟨h0, P, e, h2, h3⟩ := f13 (done_old q (by decide)); ⟨done_keep h0, P, e, h2.gr gg, h3⟩), fun q => f14 (done_old q (by decide)), fun q => f15 (done_old q (by decide))⟩
  · rintro done a w hsz hnot hdep ⟨t12, t13, t14, t41, t42, t43, t44, t45, t46, t47, t48, t49, t50, t51, t52, rfl, gw, f0, f1, f2, f3, f4, f5, f6, f7, f8, f9, f10, f11, f12, f13, f14, f15⟩ K hK
    have hn : ¬ done.getD 4 false = true := by rw [getD_both hnot]; decide
    have d2 := hdep 2 (by kernel_rfl)
    have d3 := hdep 3 (by kernel_rfl)
    obtain rfl := f2 d2
    obtain rfl := f3 d3
    have HK := PLift.up hK
    clear hK d2 d3
    simp only [pc6A]
    go_simp
    have gg : Gr w w := Gr.refl _
    refine HK.down _ _ ⟨_, _, _, _, _, _, _, _, _, _, _, _, _, _, _, rfl, gw, fun q => f0 (done_old q (by decide)), fun q => f1 (done_old q (by decide)), fun q => f2 (done_old q (by decide)), fun q => f3 (done_old q (by decide)), fun _ => rfl, fun q => f5 (done_old q (by decide)), fun q => f6 (done_old q (by decide)), fun q => f7 (done_old q (by decide)), fun q => f8 (done_old q (by decide)), fun q => f9 (done_old q (by decide)), fun q => f10 (done_old q (by decide)), fun q => f11 (done_old q (by decide)), fun q => (let ⟨P, x, y, e, h2, h3⟩ := f12 (done_old q (by decide)); ⟨P, x, y, e, h2.gr gg, h3⟩), fun q => (let ⟨h0, P, e, h2, h3⟩ := f13 (done_old q (by decide)); ⟨done_keep h0, P, e, h2.gr gg, h3⟩), fun q => f14 (done_old q (by decide)), fun q => f15 (done_old q (by decide))⟩
  · rintro done a w hsz hnot hdep ⟨t12, t13, t14, t41, t42, t43, t44, t45, t46, t47, t48, t49, t50, t51, t52, rfl, gw, f0, f1, f2, f3, f4, f5, f6, f7, f8, f9, f10, f11, f12, f13, f14, f15⟩ K hK
    have hn : ¬ done.getD 5 false = true := by rw [getD_both hnot]; decide
    have d4 := hdep 4 (by kernel_rfl)
    obtain rfl := f4 d4
    have HK := PLift.up hK
    clear hK d4
    simp only [pc6A]
    go_simp
    have gg : Gr w w := Gr.refl _
    refine HK.down _ _ ⟨_, _, _, _, _, _, _, _, _, _, _, _, _, _, _, rfl, gw, fun q => f0 (done_old q (by decide)), fun q => f1 (done_old q (by decide)), fun q => f2 (done_old q (by decide)), fun q => f3 (done_old q (by decide)), fun q => f4 (done_old q (by decide)), fun _ => rfl, fun q => f6 (done_old q (by decide)), fun q => f7 (done_old q (by decide)), fun q => f8 (done_old q (by decide)), fun q => f9 (done_old q (by decide)), fun q => f10 (done_old q (by decide)), fun q => f11 (done_old q (by decide)), fun q => (let ⟨P, x, y, e, h2, h3⟩ := f12 (done_old q (by decide)); ⟨P, x, y, e, h2.gr gg, h3⟩), fun q => (let ⟨h0, P, e, h2, h3⟩ := f13 (done_old q (by decide)); ⟨done_keep h0, P, e, h2.gr gg, h3⟩), fun q => f14 (done_old q (by decide)), fun q => f15 (done_old q (by decide))⟩
  · rintro done a w hsz hnot hdep ⟨t12, t13, t14, t41, t42, t43, t44, t45, t46, t47, t48, t49, t50, t51, t52, rfl, gw, f0, f1, f2, f3, f4, f5, f6, f7, f8, f9, f10, f11, f12, f13, f14, f15⟩ K hK
    have hn : ¬ done.getD 6 false = true := by rw [getD_both hnot]; decide
    have d5 := hdep 5 (by kernel_rfl)
    obtain rfl := f5 d5
    have c0 := cell_gr gw HQ
    have ch := has_of_cell c0
    have HK := PLift.up hK
    clear hK d5
    simp only [pc6A]
    go_simp
    have gg : Gr w w := Gr.refl _
    refine HK.down _ _ ⟨_, _, _, _, _, _, _, _, _, _, _, _, _, _, _, rfl, gw, fun q => f0 (done_old q (by decide)), fun q => f1 (done_old q (by decide)), fun q => f2 (done_old q (by decide)), fun q => f3 (done_old q (by decide)), fun q => f4 (done_old q (by decide)), fun q => f5 (done_old q (by decide)), fun _ => rfl, fun q => f7 (done_old q (by decide)), fun q => f8 (done_old q (by decide)), fun q => f9 (done_old q (by decide)), fun q => f10 (done_old q (by decide)), fun q => f11 (done_old q (by decide)), fun q => (let ⟨P, x, y, e, h2, h3⟩ := f12 (done_old q (by decide)); ⟨P, x, y, e, h2.gr gg, h3⟩), fun q => (let ⟨h0, P, e, h2, h3⟩ := f13 (done_old q (by decide)); ⟨done_keep h0, P, e, h2.gr gg, h3⟩), fun q => f14 (done_old q (by decide)), fun q => f15 (done_old q (by decide))⟩
  · rintro done a w hsz hnot hdep ⟨t12, t13, t14, t41, t42, t43, t44, t45, t46, t47, t48, t49, t50, t51, t52, rfl, gw, f0, f1, f2, f3, f4, f5, f6, f7, f8, f9, f10, f11, f12, f13, f14, f15⟩ K hK
    have hn : ¬ done.getD 7 false = true := by rw [getD_both hnot]; decide
    have d0 := hdep 0 (by kernel_rfl)
    have d1 := hdep 1 (by kernel_rfl)
    have d6 := hdep 6 (by kernel_rfl)
    obtain rfl := f0 d0
    obtain rfl := f1 d1
    obtain rfl := f6 d6
    have HK := PLift.up hK
    clear hK d0 d1 d6
    simp only [pc6A]
    go_simp
    refine (HD.down w gw).mono ?_
    rintro e w2 ⟨rfl, hg⟩
    have gg : Gr w w2 := hg
    clear hg
    (try go_simp)
    refine HK.down _ _ ⟨_, _, _, _, _, _, _, _, _, _, _, _, _, _, _, rfl, gw.trans gg, fun q => f0 (done_old q (by decide)), fun q => f1 (done_old q (by decide)), fun q => f2 (done_old q (by decide)), fun q => f3 (done_old q (by decide)), fun q => f4 (done_old q (by decide)), fun q => f5 (done_old q (by decide)), fun q => f6 (done_old q (by decide)), fun _ => rfl, fun q => f8 (done_old q (by decide)), fun q => f9 (done_old q (by decide)), fun q => f10 (done_old q (by decide)), fun q => f11 (done_old q (by decide)), fun q => (let ⟨P, x, y, e, h2, h3⟩ := f12 (done_old q (by decide)); ⟨P, x, y, e, h2.gr gg, h3⟩), fun q => (let ⟨h0, P, e, h2, h3⟩ := f13 (done_old q (by decide)); ⟨done_keep h0, P, e, h2.gr gg, h3⟩), fun q => f14 (done_old q (by decide)), fun q => f15 (done_old q (by decide))⟩
  · rintro done a w hsz hnot hdep ⟨t12, t13, t14, t41, t42, t43, t44, t45, t46, t47, t48, t49, t50, t51, t52, rfl, gw, f0, f1, f2, f3, f4, f5, f6, f7, f8, f9, f10, f11, f12, f13, f14, f15⟩ K hK
    have hn : ¬ done.getD 8 false = true := by rw [getD_both hnot]; decide
    have d7 := hdep 7 (by kernel_rfl)
    obtain rfl := f7 d7
    have HK := PLift.up hK
    clear hK d7
    simp only [pc6A]
    go_simp
    have gg : Gr w w := Gr.refl _
    refine HK.down _ _ ⟨_, _, _, _, _, _, _, _, _, _, _, _, _, _, _, rfl, gw, fun q => f0 (done_old q (by decide)), fun q => f1 (done_old q (by decide)), fun q => f2 (done_old q (by decide)), fun q => f3 (done_old q (by decide)), fun q => f4 (done_old q (by decide)), fun q => f5 (done_old q (by decide)), fun q => f6 (done_old q (by decide)), fun q => f7 (done_old q (by decide)), fun _ => rfl, fun q => f9 (done_old q (by decide)), fun q => f10 (done_old q (by decide)), fun q => f11 (done_old q (by decide)), fun q => (let ⟨P, x, y, e, h2, h3⟩ := f12 (done_old q (by decide)); ⟨P, x, y, e, h2.gr gg, h3⟩), fun q => (let ⟨h0, P, e, h2, h3⟩ := f13 (done_old q (by decide)); ⟨done_keep h0, P, e, h2.gr gg, h3⟩), fun q => f14 (done_old q (by decide)), fun q => f15 (done_old q (by decide))⟩
  · rintro done a w hsz hnot hdep ⟨t12, t13, t14, t41, t42, t43, t44, t45, t46, t47, t48, t49, t50, t51, t52, rfl, gw, f0, f1, f2, f3, f4, f5, f6, f7, f8, f9, f10, f11, f12, f13, f14, f15⟩ K hK
    have hn : ¬ done.getD 9 false = true := by rw [getD_both hnot]; decide
    have d8 := hdep 8 (by kernel_rfl)
    obtain rfl := f8 d8
    have HK := PLift.up hK
    clear hK d8
    simp only [pc6A]
    go_simp
    have gg : Gr w w := Gr.refl _
    refine HK.down _ _ ⟨_, _, _, _, _, _, _, _, _, _, _, _, _, _, _, rfl, gw, fun q => f0 (done_old q (by decide)), fun q => f1 (done_old q (by decide)), fun q => f2 (done_old q (by decide)), fun q => f3 (done_old q (by decide)), fun q => f4 (done_old q (by decide)), fun q => f5 (done_old q (by decide)), fun q => f6 (done_old q (by decide)), fun q => f7 (done_old q (by decide)), fun q => f8 (done_old q (by decide)), fun _ => rfl, fun q => f10 (done_old q (by decide)), fun q => f11 (done_old q (by decide)), fun q => (let ⟨P, x, y, e, h2, h3⟩ := f12 (done_old q (by decide)); ⟨P, x, y, e, h2.gr gg, h3⟩), fun q => (let ⟨h0, P, e, h2, h3⟩ := f13 (done_old q (by decide)); ⟨done_keep h0, P, e, h2.gr gg, h3⟩), fun q => f14 (done_old q (by decide)), fun q => f15 (done_old q (by decide))⟩
  · rintro done a w hsz hnot hdep ⟨t12, t13, t14, t41, t42, t43, t44, t45, t46, t47, t48, t49, t50, t51, t52, rfl, gw, f0, f1, f2, f3, f4, f5, f6, f7, f8, f9, f10, f11, f12, f13, f14, f15⟩ K hK
    have hn : ¬ done.getD 10 false = true := by rw [getD_both hnot]; decide
    have d8 := hdep 8 (by kernel_rfl)
    obtain rfl := f8 d8
    have HK := PLift.up hK
    clear hK d8
    simp only [pc6A]
    go_simp
    have gg : Gr w w := Gr.refl _
    refine HK.down _ _ ⟨_, _, _, _, _, _, _, _, _, _, _, _, _, _, _, rfl, gw, fun q => f0 (done_old q (by decide)), fun q => f1 (done_old q (by decide)), fun q => f2 (done_old q (by decide)), fun q => f3 (done_old q (by decide)), fun q => f4 (done_old q (by decide)), fun q => f5 (done_old q (by decide)), fun q => f6 (done_old q (by decide)), fun q => f7 (done_old q (by decide)), fun q => f8 (done_old q (by decide)), fun q => f9 (done_old q (by decide)), fun _ => rfl, fun q => f11 (done_old q (by decide)), fun q => (let ⟨P, x, y, e, h2, h3⟩ := f12 (done_old q (by decide)); ⟨P, x, y, e, h2.gr gg, h3⟩), fun q => (let ⟨h0, P, e, h2, h3⟩ := f13 (done_old q (by decide)); ⟨done_keep h0, P, e, h2.gr gg, h3⟩), fun q => f14 (done_old q (by decide)), fun q => f15 (done_old q (by decide))⟩
  · rintro done a w hsz hnot hdep ⟨t12, t13, t14, t41, t42, t43, t44, t45, t46, t47, t48, t49, t50, t51, t52, rfl, gw, f0, f1, f2, f3, f4, f5, f6, f7, f8, f9, f10, f11, f12, f13, f14, f15⟩ K hK
    have hn : ¬ done.getD 11 false = true := by rw [getD_both hnot]; decide
    have d8 := hdep 8 (by kernel_rfl)
    obtain rfl := f8 d8
    have HK := PLift.up hK
    clear hK d8
    simp only [pc6A]
    go_simp
    have gg : Gr w w := Gr.refl _
    refine HK.down _ _ ⟨_, _, _, _, _, _, _, _, _, _, _, _, _, _, _, rfl, gw, fun q => f0 (done_old q (by decide)), fun q => f1 (done_old q (by decide)), fun q => f2 (done_old q (by decide)), fun q => f3 (done_old q (by decide)), fun q => f4 (done_old q (by decide)), fun q => f5 (done_old q (by decide)), fun q => f6 (done_old q (by decide)), fun q => f7 (done_old q (by decide)), fun q => f8 (done_old q (by decide)), fun q => f9 (done_old q (by decide)), fun q => f10 (done_old q (by decide)), fun _ => rfl, fun q => (let ⟨P, x, y, e, h2, h3⟩ := f12 (done_old q (by decide)); ⟨P, x, y, e, h2.gr gg, h3⟩), fun q => (let ⟨h0, P, e, h2, h3⟩ := f13 (done_old q (by decide)); ⟨done_keep h0, P, e, h2.gr gg, h3⟩), fun q => f14 (done_old q (by decide)), fun q => f15 (done_old q (by decide))⟩
  · rintro done a w hsz hnot hdep ⟨t12, t13, t14, t41, t42, t43, t44, t45, t46, t47, t48, t49, t50, t51, t52, rfl, gw, f0, f1, f2, f3, f4, f5, f6, f7, f8, f9, f10, f11, f12, f13, f14, f15⟩ K hK
    have hn : ¬ done.getD 12 false = true := by rw [getD_both hnot]; decide
    have HK := PLift.up hK
    clear hK 
    simp only [pc6A]
    go_simp
    have gg : Gr w (w.alloc (.cells #[.int .i64 0, .int .i64 0] 56)) := (Gr.refl _).alloc _
    refine HK.down _ _ ⟨_, _, _, _, _, _, _, _, _, _, _, _, _, _, _, rfl, gw.trans gg, fun q => f0 (done_old q (by decide)), fun q => f1 (done_old q (by decide)), fun q => f2 (done_old q (by decide)), fun q => f3 (done_old q (by decide)), fun q => f4 (done_old q (by decide)), fun q => f5 (done_old q (by decide)), fun q => f6 (done_old q (by decide)), fun q => f7 (done_old q (by decide)), fun q => f8 (done_old q (by decide)), fun q => f9 (done_old q (by decide)), fun q => f10 (done_old q (by decide)), fun q => f11 (done_old q (by decide)), ?_, fun q => absurd (f13 (done_old q (by decide))).1 hn, fun q => f14 (done_old q (by decide)), fun q => f15 (done_old q (by decide))⟩
    exact fun _ => ⟨w.heap.size, _, _, rfl, Row.new w #[.int .i64 0, .int .i64 0] 56, gw.size⟩
  · rintro done a w hsz hnot hdep ⟨t12, t13, t14, t41, t42, t43, t44, t45, t46, t47, t48, t49, t50, t51, t52, rfl, gw, f0, f1, f2, f3, f4, f5, f6, f7, f8, f9, f10, f11, f12, f13, f14, f15⟩ K hK
    have hn : ¬ done.getD 13 false = true := by rw [getD_both hnot]; decide
    have d12 := hdep 12 (by kernel_rfl)
    have d9 := hdep 9 (by kernel_rfl)
    obtain rfl := f9 d9
    obtain ⟨P, x, y, rfl, hr, hP⟩ := f12 d12
    have r0 := hr.cell 0 (by simp)
    have r1 := hr.cell 1 (by simp)
    have z0 := hr.free 0
    have z1 := hr.free 1
    have rh := hr.has
    simp only [List.getElem_cons_zero, List.getElem_cons_succ] at r0 r1
    have HR := PLift.up hr
    clear hr
    have HK := PLift.up hK
    clear hK d9
    simp only [pc6A]
    go_simp
    refine HK.down _ _ ⟨_, _, _, _, _, _, _, _, _, _, _, _, _, _, _, rfl, (gw.setc hP).setc hP, fun q => f0 (done_old q (by decide)), fun q => f1 (done_old q (by decide)), fun q => f2 (done_old q (by decide)), fun q => f3 (done_old q (by decide)), fun q => f4 (done_old q (by decide)), fun q => f5 (done_old q (by decide)), fun q => f6 (done_old q (by decide)), fun q => f7 (done_old q (by decide)), fun q => f8 (done_old q (by decide)), fun q => f9 (done_old q (by decide)), fun q => f10 (done_old q (by decide)), fun q => f11 (done_old q (by decide)), fun _ => ⟨P, _, _, rfl, (HR.down.set 0 _).set 1 _, hP⟩, ?_, fun q => f14 (done_old q (by decide)), fun q => f15 (done_old q (by decide))⟩
    exact fun _ => ⟨done_keep d12, P, rfl, (HR.down.set 0 _).set 1 _, hP⟩
  · rintro done a w hsz hnot hdep ⟨t12, t13, t14, t41, t42, t43, t44, t45, t46, t47, t48, t49, t50, t51, t52, rfl, gw, f0, f1, f2, f3, f4, f5, f6, f7, f8, f9, f10, f11, f12, f13, f14, f15⟩ K hK
    have hn : ¬ done.getD 14 false = true := by rw [getD_both hnot]; decide
    have d10 := hdep 10 (by kernel_rfl)
    obtain rfl := f10 d10
    have HK := PLift.up hK
    clear hK d10
    simp only [pc6A]
    go_simp
    have gg : Gr w w := Gr.refl _
    refine HK.down _ _ ⟨_, _, _, _, _, _, _, _, _, _, _, _, _, _, _, rfl, gw, fun q => f0 (done_old q (by decide)), fun q => f1 (done_old q (by decide)), fun q => f2 (done_old q (by decide)), fun q => f3 (done_old q (by decide)), fun q => f4 (done_old q (by decide)), fun q => f5 (done_old q (by decide)), fun q => f6 (done_old q (by decide)), fun q => f7 (done_old q (by decide)), fun q => f8 (done_old q (by decide)), fun q => f9 (done_old q (by decide)), fun q => f10 (done_old q (by decide)), fun q => f11 (done_old q (by decide)), fun q => (let ⟨P, x, y, e, h2, h3⟩ := f12 (done_old q (by decide)); ⟨P, x, y, e, h2.gr gg, h3⟩), fun q => (let ⟨h0, P, e, h2, h3⟩ := f13 (done_old q (by decide)); ⟨done_keep h0, P, e, h2.gr gg, h3⟩), fun _ => rfl, fun q => f15 (done_old q (by decide))⟩
  · rintro done a w hsz hnot hdep ⟨t12, t13, t14, t41, t42, t43, t44, t45, t46, t47, t48, t49, t50, t51, t52, rfl, gw, f0, f1, f2, f3, f4, f5, f6, f7, f8, f9, f10, f11, f12, f13, f14, f15⟩ K hK
    have hn : ¬ done.getD 15 false = true := by rw [getD_both hnot]; decide
    have d11 := hdep 11 (by kernel_rfl)
    obtain rfl := f11 d11
    have HK := PLift.up hK
    clear hK d11
    simp only [pc6A]
    go_simp
    have gg : Gr w w := Gr.refl _
    refine HK.down _ _ ⟨_, _, _, _, _, _, _, _, _, _, _, _, _, _, _, rfl, gw, fun q => f0 (done_old q (by decide)), fun q => f1 (done_old q (by decide)), fun q => f2 (done_old q (by decide)), fun q => f3 (done_old q (by decide)), fun q => f4 (done_old q (by decide)), fun q => f5 (done_old q (by decide)), fun q => f6 (done_old q (by decide)), fun q => f7 (done_old q (by decide)), fun q => f8 (done_old q (by decide)), fun q => f9 (done_old q (by decide)), fun q => f10 (done_old q (by decide)), fun q => f11 (done_old q (by decide)), fun q => (let ⟨P, x, y, e, h2, h3⟩ := f12 (done_old q (by decide)); ⟨P, x, y, e, h2.gr gg, h3⟩), fun q => (let ⟨h0, P, e, h2, h3⟩ := f13 (done_old q (by decide)); ⟨done_keep h0, P, e, h2.gr gg, h3⟩), fun q => f14 (done_old q (by decide)), fun _ => rfl⟩
  · rintro done a w hall ⟨t12, t13, t14, t41, t42, t43, t44, t45, t46, t47, t48, t49, t50, t51, t52, rfl, gw, f0, f1, f2, f3, f4, f5, f6, f7, f8, f9, f10, f11, f12, f13, f14, f15⟩
    obtain ⟨_, P, rfl, hr, hP⟩ := f13 (hall 13 (by decide))
    obtain rfl := f14 (hall 14 (by decide))
    obtain rfl := f15 (hall 15 (by decide))
    exact h' _ _ _ _ _ _ _ _ _ _ _ _ P w gw hr hP
end Go.Proofs.YtenehghpmnajpaaDoor

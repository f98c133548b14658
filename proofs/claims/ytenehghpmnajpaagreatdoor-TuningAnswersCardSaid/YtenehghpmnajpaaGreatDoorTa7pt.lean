/- Lemmas and contracts for the proof of TuningAnswers (several texts in one, printed by wip/tools/pack.py): PcC PcB PcD GaK. -/
import Derived.Test.YtenehghpmnajpaaGreatDoorTa7ps
import Derived.Test.YtenehghpmnajpaaGreatDoorTa7pp
import Derived.Laws.EntriesVeiled
set_option linter.unusedVariables false
set_option linter.unusedSimpArgs false
namespace Go.Proofs.YtenehghpmnajpaaGreatDoor
open Go.RowKit
open Classical
theorem done_keep {done : Array Bool} {i j : Nat} (h : done.getD j false = true) : (done.setIfInBounds i true).getD j false = true := by
  by_cases e : i = j
  · subst e
    refine getD_set_same ?_
    unfold Array.getD at h
    split at h
    · assumption
    · cases h
  · simp only [Array.getD_eq_getD_getElem?, Array.getElem?_setIfInBounds] at h ⊢
    rw [if_neg e]; exact h
/-- What is known of each slot as soon as its operation is done. -/
def pc6F (wr : World) (n m f : Int) (is : Bool) (l : List Clk) (al : Option Addr) (cl SB cs bL oL nL cL k q CB LB : Nat) (t12 t13 t14 t41 t42 t43 t44 t45 t46 t47 t48 t49 t50 t51 t52 : Value) (d : Array Bool) (w : World) : Prop :=
  Gr wr w ∧ (d.getD 0 false = true → t42 = .slice al l.length cl) ∧
  (d.getD 1 false = true → t43 = .slice (some ⟨SB, 0, none⟩) l.length cs) ∧
  (d.getD 2 false = true → t44 = .slice (some ⟨bL, oL, none⟩) nL cL) ∧
  (d.getD 3 false = true → t45 = .int .i64 (k : Int)) ∧
  (d.getD 4 false = true → t46 = .pointer (some ⟨bL, oL + k * 5, none⟩)) ∧
  (d.getD 5 false = true → t47 = .pointer (some ⟨bL, oL + k * 5 + 1, none⟩)) ∧
  (d.getD 6 false = true → t48 = .int .i64 (q : Int)) ∧
  (d.getD 7 false = true → t49 = .tuple #[.agg #[.int .i64 n, .int .i64 m], .int .i64 f, .bool is]) ∧
  (d.getD 8 false = true → t41 = .tuple #[.agg #[.int .i64 n, .int .i64 m], .int .i64 f, .bool is]) ∧
  (d.getD 9 false = true → t50 = .agg #[.int .i64 n, .int .i64 m]) ∧
  (d.getD 10 false = true → t51 = .int .i64 f) ∧
  (d.getD 11 false = true → t52 = .bool is) ∧
  (d.getD 12 false = true → (∃ P x y, t12 = .pointer (some ⟨P, 0, none⟩) ∧ Row w P 93 [x, y] ∧ wr.heap.size ≤ P)) ∧
  (d.getD 13 false = true → (d.getD 12 false = true ∧ ∃ P, t12 = .pointer (some ⟨P, 0, none⟩) ∧ Row w P 93 [.int .i64 n, .int .i64 m] ∧ wr.heap.size ≤ P)) ∧
  (d.getD 14 false = true → t13 = .int .i64 f) ∧
  (d.getD 15 false = true → t14 = .bool is)
/-- The frame. -/
def pc6A (l : List Clk) (SB cs k CB LB : Nat) (t12 t13 t14 t41 t42 t43 t44 t45 t46 t47 t48 t49 t50 t51 t52 s0 s2 s5 s6 s7 s8 s9 s10 s15 s16 s17 s18 s19 s20 s21 s22 s23 s24 s25 s26 s27 s28 s29 s30 s31 s32 s33 s34 s35 s36 s37 s38 s39 s40 s53 s54 s55 s56 s57 s58 s59 s60 s61 s62 s63 s64 s65 s66 s67 s68 s69 s70 s71 s72 s73 s74 s75 s76 s77 s78 s79 s80 s81 s82 s83 s84 s85 s86 s87 s88 s89 s90 s91 s92 s93 s94 s95 s96 s97 s98 s99 s100 s101 s102 s103 s104 s105 s106 s107 s108 s109 s110 s111 s112 s113 s114 s115 s116 s117 s118 s119 s120 s121 s122 s123 s124 s125 s126 s127 s128 s129 s130 s131 s132 s133 s134 s135 s136 : Value) : Act := { tmps := #[s0, .slice (some ⟨SB, 0, none⟩) l.length cs, s2, .pointer (some ⟨LB, 0, none⟩), .pointer (some ⟨CB, 0, none⟩), s5, s6, s7, s8, s9, s10, .int .i64 (k : Int), t12, t13, t14, s15, s16, s17, s18, s19, s20, s21, s22, s23, s24, s25, s26, s27, s28, s29, s30, s31, s32, s33, s34, s35, s36, s37, s38, s39, s40, t41, t42, t43, t44, t45, t46, t47, t48, t49, t50, t51, t52, s53, s54, s55, s56, s57, s58, s59, s60, s61, s62, s63, s64, s65, s66, s67, s68, s69, s70, s71, s72, s73, s74, s75, s76, s77, s78, s79, s80, s81, s82, s83, s84, s85, s86, s87, s88, s89, s90, s91, s92, s93, s94, s95, s96, s97, s98, s99, s100, s101, s102, s103, s104, s105, s106, s107, s108, s109, s110, s111, s112, s113, s114, s115, s116, s117, s118, s119, s120, s121, s122, s123, s124, s125, s126, s127, s128, s129, s130, s131, s132, s133, s134, s135, s136], defers := [] }
set_option maxRecDepth 100000 in
set_option maxHeartbeats 4000000 in
theorem pc6 {Q : Exit → Act → World → Prop} {wr : World} {n m f : Int} {is : Bool} {l : List Clk} {al : Option Addr} {cl SB cs bL oL nL cL k q CB LB : Nat}  {s0 s2 s5 s6 s7 s8 s9 s10 s12 s13 s14 s15 s16 s17 s18 s19 s20 s21 s22 s23 s24 s25 s26 s27 s28 s29 s30 s31 s32 s33 s34 s35 s36 s37 s38 s39 s40 s41 s42 s43 s44 s45 s46 s47 s48 s49 s50 s51 s52 s53 s54 s55 s56 s57 s58 s59 s60 s61 s62 s63 s64 s65 s66 s67 s68 s69 s70 s71 s72 s73 s74 s75 s76 s77 s78 s79 s80 s81 s82 s83 s84 s85 s86 s87 s88 s89 s90 s91 s92 s93 s94 s95 s96 s97 s98 s99 s100 s101 s102 s103 s104 s105 s106 s107 s108 s109 s110 s111 s112 s113 s114 s115 s116 s117 s118 s119 s120 s121 s122 s123 s124 s125 s126 s127 s128 s129 s130 s131 s132 s133 s134 s135 s136 : Value} (RC : Row wr CB 23 [.slice al l.length cl]) (RL : Row wr LB 107 [.slice (some ⟨bL, oL, none⟩) nL cL]) (k2 : (k : Int) < nL) (HQ : wr.cell? ⟨bL, oL + k * 5 + 1, none⟩ = some (.int .i64 (q : Int)))
    (hD : ∀ W, Gr wr W → Calls Tryz.prog 73 #[.slice al l.length cl, .slice (some ⟨SB, 0, none⟩) l.length cs, .int .i64 (q : Int)] W (Grows W (.tuple #[.agg #[.int .i64 n, .int .i64 m], .int .i64 f, .bool is])))
    (h' : ∀ t41 t42 t43 t44 t45 t46 t47 t48 t49 t50 t51 t52 P wx, Gr wr wx → Row wx P 93 [.int .i64 n, .int .i64 m] → wr.heap.size ≤ P → Q .normal (pc6A l SB cs k CB LB (.pointer (some ⟨P, 0, none⟩)) (.int .i64 f) (.bool is) t41 t42 t43 t44 t45 t46 t47 t48 t49 t50 t51 t52 s0 s2 s5 s6 s7 s8 s9 s10 s15 s16 s17 s18 s19 s20 s21 s22 s23 s24 s25 s26 s27 s28 s29 s30 s31 s32 s33 s34 s35 s36 s37 s38 s39 s40 s53 s54 s55 s56 s57 s58 s59 s60 s61 s62 s63 s64 s65 s66 s67 s68 s69 s70 s71 s72 s73 s74 s75 s76 s77 s78 s79 s80 s81 s82 s83 s84 s85 s86 s87 s88 s89 s90 s91 s92 s93 s94 s95 s96 s97 s98 s99 s100 s101 s102 s103 s104 s105 s106 s107 s108 s109 s110 s111 s112 s113 s114 s115 s116 s117 s118 s119 s120 s121 s122 s123 s124 s125 s126 s127 s128 s129 s130 s131 s132 s133 s134 s135 s136) wx) :
    (Code.region 6 (regIn 6 Tryz.f70) true).wp Tryz.prog Q { tmps := #[s0, .slice (some ⟨SB, 0, none⟩) l.length cs, s2, .pointer (some ⟨LB, 0, none⟩), .pointer (some ⟨CB, 0, none⟩), s5, s6, s7, s8, s9, s10, .int .i64 (k : Int), s12, s13, s14, s15, s16, s17, s18, s19, s20, s21, s22, s23, s24, s25, s26, s27, s28, s29, s30, s31, s32, s33, s34, s35, s36, s37, s38, s39, s40, s41, s42, s43, s44, s45, s46, s47, s48, s49, s50, s51, s52, s53, s54, s55, s56, s57, s58, s59, s60, s61, s62, s63, s64, s65, s66, s67, s68, s69, s70, s71, s72, s73, s74, s75, s76, s77, s78, s79, s80, s81, s82, s83, s84, s85, s86, s87, s88, s89, s90, s91, s92, s93, s94, s95, s96, s97, s98, s99, s100, s101, s102, s103, s104, s105, s106, s107, s108, s109, s110, s111, s112, s113, s114, s115, s116, s117, s118, s119, s120, s121, s122, s123, s124, s125, s126, s127, s128, s129, s130, s131, s132, s133, s134, s135, s136], defers := [] } wr := by
  have HD := PLift.up hD
  clear hD
  simp only [regIn, Tryz.f70, regOps, Option.bind_some, Option.getD_some, Nat.beq, cond_true, cond_false]
  refine wp_region_steps (fun done a w => ∃ t12 t13 t14 t41 t42 t43 t44 t45 t46 t47 t48 t49 t50 t51 t52, a = pc6A l SB cs k CB LB t12 t13 t14 t41 t42 t43 t44 t45 t46 t47 t48 t49 t50 t51 t52 s0 s2 s5 s6 s7 s8 s9 s10 s15 s16 s17 s18 s19 s20 s21 s22 s23 s24 s25 s26 s27 s28 s29 s30 s31 s32 s33 s34 s35 s36 s37 s38 s39 s40 s53 s54 s55 s56 s57 s58 s59 s60 s61 s62 s63 s64 s65 s66 s67 s68 s69 s70 s71 s72 s73 s74 s75 s76 s77 s78 s79 s80 s81 s82 s83 s84 s85 s86 s87 s88 s89 s90 s91 s92 s93 s94 s95 s96 s97 s98 s99 s100 s101 s102 s103 s104 s105 s106 s107 s108 s109 s110 s111 s112 s113 s114 s115 s116 s117 s118 s119 s120 s121 s122 s123 s124 s125 s126 s127 s128 s129 s130 s131 s132 s133 s134 s135 s136 ∧ pc6F wr n m f is l al cl SB cs bL oL nL cL k q CB LB t12 t13 t14 t41 t42 t43 t44 t45 t46 t47 t48 t49 t50 t51 t52 done w) (by kernel_rfl) (by kernel_rfl) ?_ ⟨?_, ?_, ?_, ?_, ?_, ?_, ?_, ?_, ?_, ?_, ?_, ?_, ?_, ?_, ?_, ?_, trivial⟩ ?_
  · exact ⟨s12, s13, s14, s41, s42, s43, s44, s45, s46, s47, s48, s49, s50, s51, s52, rfl, (Gr.refl _).drew, fun q => absurd q (by decide), fun q => absurd q (by decide), fun q => absurd q (by decide), fun q => absurd q (by decide), fun q => absurd q (by decide), fun q => absurd q (by decide), fun q => absurd q (by decide), fun q => absurd q (by decide), fun q => absurd q (by decide), fun q => absurd q (by decide), fun q => absurd q (by decide), fun q => absurd q (by decide), fun q => absurd q (by decide), fun q => absurd q (by decide), fun q => absurd q (by decide), fun q => absurd q (by decide)⟩
  · rintro done a w hsz hnot hdep ⟨t12, t13, t14, t41, t42, t43, t44, t45, t46, t47, t48, t49, t50, t51, t52, rfl, gw, f0, f1, f2, f3, f4, f5, f6, f7, f8, f9, f10, f11, f12, f13, f14, f15⟩ K hK
    have hn : ¬ done.getD 0 false = true := by rw [getD_both hnot]; decide
    have r := RC.gr gw
    have c0 := r.cell 0 (by simp)
    have ch := r.has
    simp only [List.getElem_cons_zero, List.getElem_cons_succ] at c0
    clear r
    have HK := PLift.up hK
    clear hK 
    simp only [pc6A]
    go_simp
    have gg : Gr w w := Gr.refl _
    refine HK.down _ _ ⟨_, _, _, _, _, _, _, _, _, _, _, _, _, _, _, rfl, gw, fun _ => rfl, kp f1, kp f2, kp f3, kp f4, kp f5, kp f6, kp f7, kp f8, kp f9, kp f10, kp f11, fun q => (let ⟨P, x, y, e, h2, h3⟩ := f12 (done_old q (by decide)); ⟨P, x, y, e, h2.gr gg, h3⟩), fun q => (let ⟨h0, P, e, h2, h3⟩ := f13 (done_old q (by decide)); ⟨done_keep h0, P, e, h2.gr gg, h3⟩), kp f14, kp f15⟩
  · rintro done a w hsz hnot hdep ⟨t12, t13, t14, t41, t42, t43, t44, t45, t46, t47, t48, t49, t50, t51, t52, rfl, gw, f0, f1, f2, f3, f4, f5, f6, f7, f8, f9, f10, f11, f12, f13, f14, f15⟩ K hK
    have hn : ¬ done.getD 1 false = true := by rw [getD_both hnot]; decide
    have HK := PLift.up hK
    clear hK 
    simp only [pc6A]
    go_simp
    have gg : Gr w w := Gr.refl _
    refine HK.down _ _ ⟨_, _, _, _, _, _, _, _, _, _, _, _, _, _, _, rfl, gw, kp f0, fun _ => rfl, kp f2, kp f3, kp f4, kp f5, kp f6, kp f7, kp f8, kp f9, kp f10, kp f11, fun q => (let ⟨P, x, y, e, h2, h3⟩ := f12 (done_old q (by decide)); ⟨P, x, y, e, h2.gr gg, h3⟩), fun q => (let ⟨h0, P, e, h2, h3⟩ := f13 (done_old q (by decide)); ⟨done_keep h0, P, e, h2.gr gg, h3⟩), kp f14, kp f15⟩
  · rintro done a w hsz hnot hdep ⟨t12, t13, t14, t41, t42, t43, t44, t45, t46, t47, t48, t49, t50, t51, t52, rfl, gw, f0, f1, f2, f3, f4, f5, f6, f7, f8, f9, f10, f11, f12, f13, f14, f15⟩ K hK
    have hn : ¬ done.getD 2 false = true := by rw [getD_both hnot]; decide
    have r := RL.gr gw
    have c0 := r.cell 0 (by simp)
    have ch := r.has
    simp only [List.getElem_cons_zero, List.getElem_cons_succ] at c0
    clear r
    have HK := PLift.up hK
    clear hK 
    simp only [pc6A]
    go_simp
    have gg : Gr w w := Gr.refl _
    refine HK.down _ _ ⟨_, _, _, _, _, _, _, _, _, _, _, _, _, _, _, rfl, gw, kp f0, kp f1, fun _ => rfl, kp f3, kp f4, kp f5, kp f6, kp f7, kp f8, kp f9, kp f10, kp f11, fun q => (let ⟨P, x, y, e, h2, h3⟩ := f12 (done_old q (by decide)); ⟨P, x, y, e, h2.gr gg, h3⟩), fun q => (let ⟨h0, P, e, h2, h3⟩ := f13 (done_old q (by decide)); ⟨done_keep h0, P, e, h2.gr gg, h3⟩), kp f14, kp f15⟩
  · rintro done a w hsz hnot hdep ⟨t12, t13, t14, t41, t42, t43, t44, t45, t46, t47, t48, t49, t50, t51, t52, rfl, gw, f0, f1, f2, f3, f4, f5, f6, f7, f8, f9, f10, f11, f12, f13, f14, f15⟩ K hK
    have hn : ¬ done.getD 3 false = true := by rw [getD_both hnot]; decide
    have HK := PLift.up hK
    clear hK 
    simp only [pc6A]
    go_simp
    have gg : Gr w w := Gr.refl _
    refine HK.down _ _ ⟨_, _, _, _, _, _, _, _, _, _, _, _, _, _, _, rfl, gw, kp f0, kp f1, kp f2, fun _ => rfl, kp f4, kp f5, kp f6, kp f7, kp f8, kp f9, kp f10, kp f11, fun q => (let ⟨P, x, y, e, h2, h3⟩ := f12 (done_old q (by decide)); ⟨P, x, y, e, h2.gr gg, h3⟩), fun q => (let ⟨h0, P, e, h2, h3⟩ := f13 (done_old q (by decide)); ⟨done_keep h0, P, e, h2.gr gg, h3⟩), kp f14, kp f15⟩
  · rintro done a w hsz hnot hdep ⟨t12, t13, t14, t41, t42, t43, t44, t45, t46, t47, t48, t49, t50, t51, t52, rfl, gw, f0, f1, f2, f3, f4, f5, f6, f7, f8, f9, f10, f11, f12, f13, f14, f15⟩ K hK
    have hn : ¬ done.getD 4 false = true := by rw [getD_both hnot]; decide
    have d2 := hdep 2 (by kernel_rfl)
    have d3 := hdep 3 (by kernel_rfl)
    obtain rfl := f2 d2
    obtain rfl := f3 d3
    have HK := PLift.up hK
    clear hK d2 d3
    simp only [pc6A]
    go_simp
    have gg : Gr w w := Gr.refl _
    refine HK.down _ _ ⟨_, _, _, _, _, _, _, _, _, _, _, _, _, _, _, rfl, gw, kp f0, kp f1, kp f2, kp f3, fun _ => rfl, kp f5, kp f6, kp f7, kp f8, kp f9, kp f10, kp f11, fun q => (let ⟨P, x, y, e, h2, h3⟩ := f12 (done_old q (by decide)); ⟨P, x, y, e, h2.gr gg, h3⟩), fun q => (let ⟨h0, P, e, h2, h3⟩ := f13 (done_old q (by decide)); ⟨done_keep h0, P, e, h2.gr gg, h3⟩), kp f14, kp f15⟩
  · rintro done a w hsz hnot hdep ⟨t12, t13, t14, t41, t42, t43, t44, t45, t46, t47, t48, t49, t50, t51, t52, rfl, gw, f0, f1, f2, f3, f4, f5, f6, f7, f8, f9, f10, f11, f12, f13, f14, f15⟩ K hK
    have hn : ¬ done.getD 5 false = true := by rw [getD_both hnot]; decide
    have d4 := hdep 4 (by kernel_rfl)
    obtain rfl := f4 d4
    have HK := PLift.up hK
    clear hK d4
    simp only [pc6A]
    go_simp
    have gg : Gr w w := Gr.refl _
    refine HK.down _ _ ⟨_, _, _, _, _, _, _, _, _, _, _, _, _, _, _, rfl, gw, kp f0, kp f1, kp f2, kp f3, kp f4, fun _ => rfl, kp f6, kp f7, kp f8, kp f9, kp f10, kp f11, fun q => (let ⟨P, x, y, e, h2, h3⟩ := f12 (done_old q (by decide)); ⟨P, x, y, e, h2.gr gg, h3⟩), fun q => (let ⟨h0, P, e, h2, h3⟩ := f13 (done_old q (by decide)); ⟨done_keep h0, P, e, h2.gr gg, h3⟩), kp f14, kp f15⟩
  · rintro done a w hsz hnot hdep ⟨t12, t13, t14, t41, t42, t43, t44, t45, t46, t47, t48, t49, t50, t51, t52, rfl, gw, f0, f1, f2, f3, f4, f5, f6, f7, f8, f9, f10, f11, f12, f13, f14, f15⟩ K hK
    have hn : ¬ done.getD 6 false = true := by rw [getD_both hnot]; decide
    have d5 := hdep 5 (by kernel_rfl)
    obtain rfl := f5 d5
    have c0 := cell_gr gw HQ
    have ch := has_of_cell c0
    have HK := PLift.up hK
    clear hK d5
    simp only [pc6A]
    go_simp
    have gg : Gr w w := Gr.refl _
    refine HK.down _ _ ⟨_, _, _, _, _, _, _, _, _, _, _, _, _, _, _, rfl, gw, kp f0, kp f1, kp f2, kp f3, kp f4, kp f5, fun _ => rfl, kp f7, kp f8, kp f9, kp f10, kp f11, fun q => (let ⟨P, x, y, e, h2, h3⟩ := f12 (done_old q (by decide)); ⟨P, x, y, e, h2.gr gg, h3⟩), fun q => (let ⟨h0, P, e, h2, h3⟩ := f13 (done_old q (by decide)); ⟨done_keep h0, P, e, h2.gr gg, h3⟩), kp f14, kp f15⟩
  · rintro done a w hsz hnot hdep ⟨t12, t13, t14, t41, t42, t43, t44, t45, t46, t47, t48, t49, t50, t51, t52, rfl, gw, f0, f1, f2, f3, f4, f5, f6, f7, f8, f9, f10, f11, f12, f13, f14, f15⟩ K hK
    have hn : ¬ done.getD 7 false = true := by rw [getD_both hnot]; decide
    have d0 := hdep 0 (by kernel_rfl)
    have d1 := hdep 1 (by kernel_rfl)
    have d6 := hdep 6 (by kernel_rfl)
    obtain rfl := f0 d0
    obtain rfl := f1 d1
    obtain rfl := f6 d6
    have HK := PLift.up hK
    clear hK d0 d1 d6
    simp only [pc6A]
    go_simp
    refine (HD.down w gw).mono ?_
    rintro e w2 ⟨rfl, hg⟩
    have gg : Gr w w2 := hg
    clear hg
    (try go_simp)
    refine HK.down _ _ ⟨_, _, _, _, _, _, _, _, _, _, _, _, _, _, _, rfl, gw.trans gg, kp f0, kp f1, kp f2, kp f3, kp f4, kp f5, kp f6, fun _ => rfl, kp f8, kp f9, kp f10, kp f11, fun q => (let ⟨P, x, y, e, h2, h3⟩ := f12 (done_old q (by decide)); ⟨P, x, y, e, h2.gr gg, h3⟩), fun q => (let ⟨h0, P, e, h2, h3⟩ := f13 (done_old q (by decide)); ⟨done_keep h0, P, e, h2.gr gg, h3⟩), kp f14, kp f15⟩
  · rintro done a w hsz hnot hdep ⟨t12, t13, t14, t41, t42, t43, t44, t45, t46, t47, t48, t49, t50, t51, t52, rfl, gw, f0, f1, f2, f3, f4, f5, f6, f7, f8, f9, f10, f11, f12, f13, f14, f15⟩ K hK
    have hn : ¬ done.getD 8 false = true := by rw [getD_both hnot]; decide
    have d7 := hdep 7 (by kernel_rfl)
    obtain rfl := f7 d7
    have HK := PLift.up hK
    clear hK d7
    simp only [pc6A]
    go_simp
    have gg : Gr w w := Gr.refl _
    refine HK.down _ _ ⟨_, _, _, _, _, _, _, _, _, _, _, _, _, _, _, rfl, gw, kp f0, kp f1, kp f2, kp f3, kp f4, kp f5, kp f6, kp f7, fun _ => rfl, kp f9, kp f10, kp f11, fun q => (let ⟨P, x, y, e, h2, h3⟩ := f12 (done_old q (by decide)); ⟨P, x, y, e, h2.gr gg, h3⟩), fun q => (let ⟨h0, P, e, h2, h3⟩ := f13 (done_old q (by decide)); ⟨done_keep h0, P, e, h2.gr gg, h3⟩), kp f14, kp f15⟩
  · rintro done a w hsz hnot hdep ⟨t12, t13, t14, t41, t42, t43, t44, t45, t46, t47, t48, t49, t50, t51, t52, rfl, gw, f0, f1, f2, f3, f4, f5, f6, f7, f8, f9, f10, f11, f12, f13, f14, f15⟩ K hK
    have hn : ¬ done.getD 9 false = true := by rw [getD_both hnot]; decide
    have d8 := hdep 8 (by kernel_rfl)
    obtain rfl := f8 d8
    have HK := PLift.up hK
    clear hK d8
    simp only [pc6A]
    go_simp
    have gg : Gr w w := Gr.refl _
    refine HK.down _ _ ⟨_, _, _, _, _, _, _, _, _, _, _, _, _, _, _, rfl, gw, kp f0, kp f1, kp f2, kp f3, kp f4, kp f5, kp f6, kp f7, kp f8, fun _ => rfl, kp f10, kp f11, fun q => (let ⟨P, x, y, e, h2, h3⟩ := f12 (done_old q (by decide)); ⟨P, x, y, e, h2.gr gg, h3⟩), fun q => (let ⟨h0, P, e, h2, h3⟩ := f13 (done_old q (by decide)); ⟨done_keep h0, P, e, h2.gr gg, h3⟩), kp f14, kp f15⟩
  · rintro done a w hsz hnot hdep ⟨t12, t13, t14, t41, t42, t43, t44, t45, t46, t47, t48, t49, t50, t51, t52, rfl, gw, f0, f1, f2, f3, f4, f5, f6, f7, f8, f9, f10, f11, f12, f13, f14, f15⟩ K hK
    have hn : ¬ done.getD 10 false = true := by rw [getD_both hnot]; decide
    have d8 := hdep 8 (by kernel_rfl)
    obtain rfl := f8 d8
    have HK := PLift.up hK
    clear hK d8
    simp only [pc6A]
    go_simp
    have gg : Gr w w := Gr.refl _
    refine HK.down _ _ ⟨_, _, _, _, _, _, _, _, _, _, _, _, _, _, _, rfl, gw, kp f0, kp f1, kp f2, kp f3, kp f4, kp f5, kp f6, kp f7, kp f8, kp f9, fun _ => rfl, kp f11, fun q => (let ⟨P, x, y, e, h2, h3⟩ := f12 (done_old q (by decide)); ⟨P, x, y, e, h2.gr gg, h3⟩), fun q => (let ⟨h0, P, e, h2, h3⟩ := f13 (done_old q (by decide)); ⟨done_keep h0, P, e, h2.gr gg, h3⟩), kp f14, kp f15⟩
  · rintro done a w hsz hnot hdep ⟨t12, t13, t14, t41, t42, t43, t44, t45, t46, t47, t48, t49, t50, t51, t52, rfl, gw, f0, f1, f2, f3, f4, f5, f6, f7, f8, f9, f10, f11, f12, f13, f14, f15⟩ K hK
    have hn : ¬ done.getD 11 false = true := by rw [getD_both hnot]; decide
    have d8 := hdep 8 (by kernel_rfl)
    obtain rfl := f8 d8
    have HK := PLift.up hK
    clear hK d8
    simp only [pc6A]
    go_simp
    have gg : Gr w w := Gr.refl _
    refine HK.down _ _ ⟨_, _, _, _, _, _, _, _, _, _, _, _, _, _, _, rfl, gw, kp f0, kp f1, kp f2, kp f3, kp f4, kp f5, kp f6, kp f7, kp f8, kp f9, kp f10, fun _ => rfl, fun q => (let ⟨P, x, y, e, h2, h3⟩ := f12 (done_old q (by decide)); ⟨P, x, y, e, h2.gr gg, h3⟩), fun q => (let ⟨h0, P, e, h2, h3⟩ := f13 (done_old q (by decide)); ⟨done_keep h0, P, e, h2.gr gg, h3⟩), kp f14, kp f15⟩
  · rintro done a w hsz hnot hdep ⟨t12, t13, t14, t41, t42, t43, t44, t45, t46, t47, t48, t49, t50, t51, t52, rfl, gw, f0, f1, f2, f3, f4, f5, f6, f7, f8, f9, f10, f11, f12, f13, f14, f15⟩ K hK
    have hn : ¬ done.getD 12 false = true := by rw [getD_both hnot]; decide
    have HK := PLift.up hK
    clear hK 
    simp only [pc6A]
    go_simp
    have gg : Gr w (w.alloc (.cells #[.int .i64 0, .int .i64 0] 93)) := (Gr.refl _).alloc _
    refine HK.down _ _ ⟨_, _, _, _, _, _, _, _, _, _, _, _, _, _, _, rfl, gw.trans gg, kp f0, kp f1, kp f2, kp f3, kp f4, kp f5, kp f6, kp f7, kp f8, kp f9, kp f10, kp f11, ?_, fun q => absurd (f13 (done_old q (by decide))).1 hn, kp f14, kp f15⟩
    exact fun _ => ⟨w.heap.size, _, _, rfl, Row.new w #[.int .i64 0, .int .i64 0] 93, gw.size⟩
  · rintro done a w hsz hnot hdep ⟨t12, t13, t14, t41, t42, t43, t44, t45, t46, t47, t48, t49, t50, t51, t52, rfl, gw, f0, f1, f2, f3, f4, f5, f6, f7, f8, f9, f10, f11, f12, f13, f14, f15⟩ K hK
    have hn : ¬ done.getD 13 false = true := by rw [getD_both hnot]; decide
    have d12 := hdep 12 (by kernel_rfl)
    have d9 := hdep 9 (by kernel_rfl)
    obtain rfl := f9 d9
    obtain ⟨P, x, y, rfl, hr, hP⟩ := f12 d12
    have r0 := hr.cell 0 (by simp)
    have r1 := hr.cell 1 (by simp)
    have z0 := hr.free 0
    have z1 := hr.free 1
    have rh := hr.has
    simp only [List.getElem_cons_zero, List.getElem_cons_succ] at r0 r1
    have HR := PLift.up hr
    clear hr
    have HK := PLift.up hK
    clear hK d9
    simp only [pc6A]
    go_simp
    refine HK.down _ _ ⟨_, _, _, _, _, _, _, _, _, _, _, _, _, _, _, rfl, (gw.setc hP).setc hP, kp f0, kp f1, kp f2, kp f3, kp f4, kp f5, kp f6, kp f7, kp f8, kp f9, kp f10, kp f11, fun _ => ⟨P, _, _, rfl, (HR.down.set 0 _).set 1 _, hP⟩, ?_, kp f14, kp f15⟩
    exact fun _ => ⟨done_keep d12, P, rfl, (HR.down.set 0 _).set 1 _, hP⟩
  · rintro done a w hsz hnot hdep ⟨t12, t13, t14, t41, t42, t43, t44, t45, t46, t47, t48, t49, t50, t51, t52, rfl, gw, f0, f1, f2, f3, f4, f5, f6, f7, f8, f9, f10, f11, f12, f13, f14, f15⟩ K hK
    have hn : ¬ done.getD 14 false = true := by rw [getD_both hnot]; decide
    have d10 := hdep 10 (by kernel_rfl)
    obtain rfl := f10 d10
    have HK := PLift.up hK
    clear hK d10
    simp only [pc6A]
    go_simp
    have gg : Gr w w := Gr.refl _
    refine HK.down _ _ ⟨_, _, _, _, _, _, _, _, _, _, _, _, _, _, _, rfl, gw, kp f0, kp f1, kp f2, kp f3, kp f4, kp f5, kp f6, kp f7, kp f8, kp f9, kp f10, kp f11, fun q => (let ⟨P, x, y, e, h2, h3⟩ := f12 (done_old q (by decide)); ⟨P, x, y, e, h2.gr gg, h3⟩), fun q => (let ⟨h0, P, e, h2, h3⟩ := f13 (done_old q (by decide)); ⟨done_keep h0, P, e, h2.gr gg, h3⟩), fun _ => rfl, kp f15⟩
  · rintro done a w hsz hnot hdep ⟨t12, t13, t14, t41, t42, t43, t44, t45, t46, t47, t48, t49, t50, t51, t52, rfl, gw, f0, f1, f2, f3, f4, f5, f6, f7, f8, f9, f10, f11, f12, f13, f14, f15⟩ K hK
    have hn : ¬ done.getD 15 false = true := by rw [getD_both hnot]; decide
    have d11 := hdep 11 (by kernel_rfl)
    obtain rfl := f11 d11
    have HK := PLift.up hK
    clear hK d11
    simp only [pc6A]
    go_simp
    have gg : Gr w w := Gr.refl _
    refine HK.down _ _ ⟨_, _, _, _, _, _, _, _, _, _, _, _, _, _, _, rfl, gw, kp f0, kp f1, kp f2, kp f3, kp f4, kp f5, kp f6, kp f7, kp f8, kp f9, kp f10, kp f11, fun q => (let ⟨P, x, y, e, h2, h3⟩ := f12 (done_old q (by decide)); ⟨P, x, y, e, h2.gr gg, h3⟩), fun q => (let ⟨h0, P, e, h2, h3⟩ := f13 (done_old q (by decide)); ⟨done_keep h0, P, e, h2.gr gg, h3⟩), kp f14, fun _ => rfl⟩
  · rintro done a w hall ⟨t12, t13, t14, t41, t42, t43, t44, t45, t46, t47, t48, t49, t50, t51, t52, rfl, gw, f0, f1, f2, f3, f4, f5, f6, f7, f8, f9, f10, f11, f12, f13, f14, f15⟩
    obtain ⟨_, P, rfl, hr, hP⟩ := f13 (hall 13 (by decide))
    obtain rfl := f14 (hall 14 (by decide))
    obtain rfl := f15 (hall 15 (by decide))
    exact h' _ _ _ _ _ _ _ _ _ _ _ _ P w gw hr hP
end Go.Proofs.YtenehghpmnajpaaGreatDoor

set_option linter.unusedVariables false
set_option linter.unusedSimpArgs false
namespace Go.Proofs.YtenehghpmnajpaaGreatDoor
open Go.RowKit
open Classical
/-- The variables that the closure of tuning.Check holds. -/
structure Bx (w : World) (vb vl vc : Value) (n BB LB CB NB RB NA : Nat) : Prop where
  bb : Row w BB 25 [vb]
  lb : Row w LB 107 [vl]
  cb : Row w CB 23 [vc]
  nb : Row w NB 88 [.slice (some ⟨NA, 0, none⟩) n n]
  rb : Row w RB 113 [.func (.func 70) #[] #[.pointer (some ⟨BB, 0, none⟩), .pointer (some ⟨LB, 0, none⟩), .pointer (some ⟨CB, 0, none⟩), .pointer (some ⟨NB, 0, none⟩), .pointer (some ⟨RB, 0, none⟩)]]
section
variable {w w' : World} {vb vl vc : Value} {n BB LB CB NB RB NA : Nat}
theorem Bx.gr (h : Bx w vb vl vc n BB LB CB NB RB NA) (hg : Gr w w') : Bx w' vb vl vc n BB LB CB NB RB NA :=
  ⟨h.bb.gr hg, h.lb.gr hg, h.cb.gr hg, h.nb.gr hg, h.rb.gr hg⟩
theorem Bx.grown (h : Bx w vb vl vc n BB LB CB NB RB NA) {us : List Value} (r : RowS w NA 4 us) (hg : w.grownBy w' (some NA)) : Bx w' vb vl vc n BB LB CB NB RB NA :=
  ⟨h.bb.grown hg (fun e => RowS.apart h.bb.s r (by decide) (Option.some.inj e)), h.lb.grown hg (fun e => RowS.apart h.lb.s r (by decide) (Option.some.inj e)), h.cb.grown hg (fun e => RowS.apart h.cb.s r (by decide) (Option.some.inj e)), h.nb.grown hg (fun e => RowS.apart h.nb.s r (by decide) (Option.some.inj e)), h.rb.grown hg (fun e => RowS.apart h.rb.s r (by decide) (Option.some.inj e))⟩
end
theorem kidsP_none {f : Nat → List Int → List Bool → Option (List Bool)} {n i c : Nat} {s next : List Int} {N : List Bool} {j : Nat} (h : kidsP f n i c s next N j = none) : ∀ k, j ≤ k → kidsP f n i c s next N k = none := by
  intro k hk
  induction k with
  | zero => have : j = 0 := by omega
            subst this; exact h
  | succ k ih =>
    by_cases e : j = k + 1
    · subst e; exact h
    · simp only [kidsP]; rw [ih (by omega)]; rfl
/-- What the closure does at a branch. -/
def Visits (l : List Clk) (ms : List Lmt) (b : List Brn) (NA g i : Nat) (s : List Int) (N : List Bool) (w : World) (e : Ending) (w' : World) : Prop :=
  e = .returned (.bool (visP l ms b g i s N).isSome) ∧ w.grownBy w' (some NA) ∧ ∀ N', visP l ms b g i s N = some N' → N'.length = b.length ∧ Row w' NA 4 (bools N')
theorem visits_no {l : List Clk} {ms : List Lmt} {b : List Brn} {NA g i : Nat} {s : List Int} {N : List Bool} {w w' : World} (h : visP l ms b g i s N = none) (hg : w.grownBy w' (some NA)) : Visits l ms b NA g i s N w (.returned (.bool false)) w' :=
  ⟨by rw [h]; rfl, hg, fun N' q => by rw [h] at q; cases q⟩
set_option maxRecDepth 100000 in
set_option maxHeartbeats 8000000 in
theorem right_any (l : List Clk) (ms : List Lmt) (b : List Brn) (w0 : World) (al am ab aL : Option Addr) (cl cm cb cL BB LB CB NB RB NA : Nat) (henv : Env w0 l ms al am) (hbs : SlOf 3 RBrn w0 ab b) (hli : SlOf 5 RBnd w0 aL (allB l ms)) (hbl : b.length ≤ 100000) (hlow : w0.heap.size ≤ NA) :
    ∀ g i s N w SB cs, i < b.length → b.length ≤ i + g → PrtOk l s → N.length = b.length → Gr w0 w → Bx w (.slice ab b.length cb) (.slice aL (allB l ms).length cL) (.slice al l.length cl) b.length BB LB CB NB RB NA → Row w NA 4 (bools N) → RowS w SB 3 (nums s) →
      Calls Tryz.prog 70 #[.int .i64 (i : Int), .slice (some ⟨SB, 0, none⟩) l.length cs, .pointer (some ⟨BB, 0, none⟩), .pointer (some ⟨LB, 0, none⟩), .pointer (some ⟨CB, 0, none⟩), .pointer (some ⟨NB, 0, none⟩), .pointer (some ⟨RB, 0, none⟩)] w (Visits l ms b NA g i s N w) := by
  have hl := small_len (cchk_zero henv.chk).1
  have hml := henv.lims.1
  have HE := Lib.hid henv
  have HBS := Lib.hid hbs
  have HLI := Lib.hid hli
  have BL : Hid ((allB l ms).length ≤ 48) := Lib.hid (by have := allB_len l ms; omega)
  have BO := Lib.hid (allB_ok (l := l) (ms := ms) henv.lims)
  have LOW := Lib.hid hlow
  clear henv hbs hli hlow
  intro g
  induction g with
  | zero => intro i s N w SB cs hi hg; omega
  | succ g ih =>
    intro i s N w SB cs hi hig hp hN hg hbx hrn hrs
    have IH := Lib.hid ih
    have IG := Lib.hid hig
    have HP := Lib.hid hp
    have HN := Lib.hid hN
    have HG := Lib.hid hg
    have HX := Lib.hid hbx
    have HRN := Lib.hid hrn
    have HRS := Lib.hid hrs
    have sl : s.length = l.length := hp.1
    have SLN := Lib.hid sl
    obtain ⟨bb, ob, rfl, ⟨d0, y0⟩, ⟨d1, y1⟩, ⟨an, cn, d2, hcn, fn, sn⟩⟩ := HBS.out i hi
    have d0 := cell_gr hg d0
    have d1 := cell_gr hg d1
    have d2 := cell_gr hg d2
    have i2 : (i : Int) < b.length := by omega
    have hh := has_of_cell d0
    have b0 := hbx.bb.cell 0 (by simp)
    have b1 := hbx.lb.cell 0 (by simp)
    have b2 := hbx.cb.cell 0 (by simp)
    have b3 := hbx.nb.cell 0 (by simp)
    have b4 := hbx.rb.cell 0 (by simp)
    have f0 := has_of_cell b0
    have f1 := has_of_cell b1
    have f2 := has_of_cell b2
    have f3 := has_of_cell b3
    have f4 := has_of_cell b4
    simp only [List.getElem_cons_zero] at b0 b1 b2 b3 b4
    obtain ⟨x, hx⟩ : ∃ x, b[i] = x := ⟨_, rfl⟩
    have VI : Hid (∀ R, (if 0 ≤ x.limit then (if LeafOk l ms s x then some N else none) else if NodeOk l s x then kidsP (visP l ms b g) b.length i x.clock.toNat s x.next N x.next.length else none) = R → visP l ms b (g + 1) i s N = R) := Lib.hid (fun R h => by
      have e : b[i]? = some x := by rw [List.getElem?_eq_getElem hi, hx]
      simp only [visP, e]; exact h)
    rw [hx] at d0 d1 d2 y0 y1 hcn fn sn
    obtain ⟨lim, clk, nxt⟩ := x
    simp only at d0 d1 d2 y0 y1 hcn fn sn VI
    have SN := Lib.hid sn
    clear ih hig hp hN hg hbx hrn hrs sl hx sn
    obtain ⟨X, hX⟩ : ∃ X : Nat, Hid (w.heap.size = X) := ⟨_, Lib.hid rfl⟩
    obtain ⟨W4, hW4⟩ : ∃ W4 : World, Hid (W4 = w.alloc (.cells #[.int .i64 lim, .int .i64 clk, .slice an nxt.length cn] 81)) := ⟨_, Lib.hid rfl⟩
    have RX4 : Hid (Row W4 X 81 [.int .i64 lim, .int .i64 clk, .slice an nxt.length cn]) := Lib.hid (by rw [hW4.out, ← hX.out]; exact Row.new w _ _)
    have g4 : Hid (Gr w W4) := Lib.hid (by rw [hW4.out]; exact (Gr.refl _).alloc _)
    go_enter Tryz.func70, Tryz.ntmps70
    by_cases hlim : 0 ≤ lim
    · have bl : decide (0 ≤ lim) = true := decide_eq_true hlim
      have LF := Lib.hid (fun R (h : (if LeafOk l ms s ⟨lim, clk, nxt⟩ then some N else none) = R) => VI.out R (by rw [if_pos hlim]; exact h))
      have IX := Lib.hid (indexBnd_any (allB l ms) aL cL lim X W4 (HLI.out.gr RBnd.mono (HG.out.trans g4.out)) BL.out (RX4.out.cell 0 (by simp)))
      clear VI hlim
      go_wp2_with fail
      rw [hX.out, ← hW4.out]
      refine IX.out.mono ?_
      rintro e w5 ⟨y, rfl, hy, hg5⟩
      have G5 := Lib.hid (g4.out.trans hg5)
      have x1 := cell_gr hg5 (RX4.out.cell 1 (by simp))
      have x2 := cell_gr hg5 (RX4.out.cell 2 (by simp))
      have xh := has_of_cell x1
      simp only [List.getElem_cons_zero, List.getElem_cons_succ] at x1 x2
      have b1 := cell_gr G5.out b1
      have b2 := cell_gr G5.out b2
      have f1 := has_of_cell b1
      have f2 := has_of_cell b2
      clear hg5 IX d0 d1 d2 hh b0 b3 b4 f0 f3 f4 hW4
      rcases hy with ⟨rfl, hno⟩ | ⟨k, rfl, hk, hki⟩
      · have E := Lib.hid (LF.out none (if_neg (fun h => by have := h.2.2; simp only at this; rw [leaf_none hno] at this; cases this)))
        clear LF hno
        go_wp2_with fail
        go_ret
        exact visits_no E.out (wGr_gb G5.out _)
      · have k2 : (k : Int) < (allB l ms).length := by omega
        have LE := Lib.hid (leaf_some (l := l) (ms := ms) (p := s) hk hki)
        by_cases hc0 : clk = 0
        · subst hc0
          by_cases hn0 : nxt.length = 0
          · have hnn := List.length_eq_zero_iff.1 hn0
            subst hnn
            clear hn0
            obtain ⟨bL, oL, eL, l0, l1, l2, l3, l4⟩ := (HLI.out.gr RBnd.mono (HG.out.trans G5.out)) k hk
            subst eL
            have lh := has_of_cell l0
            obtain ⟨q0, q1⟩ := BO.out _ (List.getElem_mem hk)
            obtain ⟨z, hz⟩ : ∃ z, (allB l ms)[k] = z := ⟨_, rfl⟩
            rw [hz] at l0 l1 l2 l3 l4 q0 q1 LE
            obtain ⟨q, hq⟩ : ∃ q : Nat, z.clock = q := ⟨_, (Int.toNat_of_nonneg q0).symm⟩
            have hql : q < l.length := by omega
            have eq : z.clock.toNat = q := by omega
            rw [hq] at l1
            rw [eq] at LE
            have DC := Lib.hid (fun W (hW : Gr w W) => decided_any l s al (some ⟨SB, 0, none⟩) cl cs HE.out.chk HP.out q hql W (clks_gr HE.out.clks (HG.out.trans hW)) ((HRS.out.gr hW).slI (HP.out.wide HE.out.chk)))
            rw [SLN.out] at DC
            obtain ⟨dq, hdq⟩ : ∃ dq, dec l s q = dq := ⟨_, rfl⟩
            rw [hdq] at DC LE
            have GD := Lib.hid (fun r (hr : dec l s q = .isr r) => (dec_good HE.out.chk HP.out hql hr).2)
            rw [hdq] at GD
            clear q0 q1 hz eq hdq
            have LQ : Hid (w5.cell? ⟨bL, oL + k * 5 + 1, none⟩ = some (.int .i64 (q : Int))) := Lib.hid l1
            have QZ := Lib.hid hq
            have LX : Hid (∀ W, Gr w5 W → W.cell? ⟨bL, oL + k * 5, none⟩ = some (.int .i64 z.index) ∧ W.cell? ⟨bL, oL + k * 5 + 1, none⟩ = some (.int .i64 (q : Int)) ∧ W.cell? ⟨bL, oL + k * 5 + 2, none⟩ = some (.int .i64 z.low) ∧ W.cell? ⟨bL, oL + k * 5 + 3, none⟩ = some (.int .i64 z.high) ∧ W.cell? ⟨bL, oL + k * 5 + 4, none⟩ = some (.bool z.idle)) := Lib.hid (fun W hW => ⟨cell_gr hW l0, cell_gr hW l1, cell_gr hW l2, cell_gr hW l3, cell_gr hW l4⟩)
            clear l0 l1 l2 l3 l4 lh hq
            cases dq with
            | opn f =>
              have E := Lib.hid (LF.out none (if_neg (fun h => by have := h.2.2; simp only at this; rw [LE.out] at this; cases this)))
              clear GD LF LE
              simp only [decV] at DC
              go_wp2_with fail
              refine wp_code_eq (c := Code.region 6 (regIn 6 Tryz.f70) true) (by kernel_rfl) (pc6 (wr := w5) (n := 0) (m := 0) (f := (f : Int)) (is := false) (l := l) (al := al) (cl := cl) (SB := SB) (cs := cs) (bL := bL) (oL := oL) (nL := (allB l ms).length) (cL := cL) (k := k) (q := q) (CB := CB) (LB := LB) (HX.out.gr G5.out).cb (HX.out.gr G5.out).lb k2 LQ.out (fun W hW => DC.out W (G5.out.trans hW)) ?_)
              intro t41 t42 t43 t44 t45 t46 t47 t48 t49 t50 t51 t52 P wx hgx hrx hPx
              have GX := Lib.hid (G5.out.trans hgx)
              clear hgx hrx hPx
              simp only [pc6A]
              go_wp2_with fail
              go_quiet (fail)
              go_wp2_with fail
              go_ret
              exact visits_no E.out (wGr_gb (GX.out.drewN _) _)
            | isr r =>
              simp only [decV] at DC
              obtain ⟨rn, ern⟩ : ∃ rn, numR r = rn := ⟨_, rfl⟩
              obtain ⟨rd, erd⟩ : ∃ rd, denR r = rd := ⟨_, rfl⟩
              have BK := Lib.hid (fun W => broken_any z r W (GD.out r rfl))
              rw [QZ.out, ern, erd] at BK
              rw [ern, erd] at DC
              cases hbr : brokB z r with
              | true =>
                have E := Lib.hid (LF.out (some N) (if_pos ⟨rfl, rfl, by simp only; rw [LE.out]; exact hbr⟩))
                rw [hbr] at BK
                clear GD LF LE hbr
                go_wp2_with fail
                refine wp_code_eq (c := Code.region 6 (regIn 6 Tryz.f70) true) (by kernel_rfl) (pc6 (wr := w5) (n := rn) (m := rd) (f := 0) (is := true) (l := l) (al := al) (cl := cl) (SB := SB) (cs := cs) (bL := bL) (oL := oL) (nL := (allB l ms).length) (cL := cL) (k := k) (q := q) (CB := CB) (LB := LB) (HX.out.gr G5.out).cb (HX.out.gr G5.out).lb k2 LQ.out (fun W hW => DC.out W (G5.out.trans hW)) ?_)
                intro t41 t42 t43 t44 t45 t46 t47 t48 t49 t50 t51 t52 P wx hgx hrx hPx
                have GX := Lib.hid (G5.out.trans hgx)
                have b1 := cell_gr hgx b1
                have f1 := has_of_cell b1
                obtain ⟨l0, l1, l2, l3, l4⟩ := LX.out wx hgx
                have lh := has_of_cell l0
                have p0 := hrx.cell 0 (by simp)
                have p1 := hrx.cell 1 (by simp)
                have ph := hrx.has
                simp only [List.getElem_cons_zero, List.getElem_cons_succ] at p0 p1
                clear hgx hrx hPx b2 f2
                simp only [pc6A]
                go_wp2_with fail
                refine wp_region_grows (by kernel_rfl) (by kernel_rfl) ?_
                repeat (go_big_quiet_step (first | (go_at_call 74; exact calls_grows (BK.out _))))
                refine wpQuiet_nil ?_
                rintro _ ⟨⟨O, d⟩, rfl⟩
                go_wp2_with fail
                go_ret
                refine ⟨by rw [E.out]; rfl, wGr_gb (GX.out.xt _ _) _, fun N' h => ?_⟩
                rw [E.out] at h
                injection h with h
                subst h
                exact ⟨HN.out, HRN.out.gr (GX.out.xt _ _)⟩
              | false =>
                have E := Lib.hid (LF.out none (if_neg (fun h => by have := h.2.2; simp only at this; rw [LE.out] at this; simp only [leafB] at this; rw [hbr] at this; cases this)))
                rw [hbr] at BK
                clear GD LF LE hbr
                go_wp2_with fail
                refine wp_code_eq (c := Code.region 6 (regIn 6 Tryz.f70) true) (by kernel_rfl) (pc6 (wr := w5) (n := rn) (m := rd) (f := 0) (is := true) (l := l) (al := al) (cl := cl) (SB := SB) (cs := cs) (bL := bL) (oL := oL) (nL := (allB l ms).length) (cL := cL) (k := k) (q := q) (CB := CB) (LB := LB) (HX.out.gr G5.out).cb (HX.out.gr G5.out).lb k2 LQ.out (fun W hW => DC.out W (G5.out.trans hW)) ?_)
                intro t41 t42 t43 t44 t45 t46 t47 t48 t49 t50 t51 t52 P wx hgx hrx hPx
                have GX := Lib.hid (G5.out.trans hgx)
                have b1 := cell_gr hgx b1
                have f1 := has_of_cell b1
                obtain ⟨l0, l1, l2, l3, l4⟩ := LX.out wx hgx
                have lh := has_of_cell l0
                have p0 := hrx.cell 0 (by simp)
                have p1 := hrx.cell 1 (by simp)
                have ph := hrx.has
                simp only [List.getElem_cons_zero, List.getElem_cons_succ] at p0 p1
                clear hgx hrx hPx b2 f2
                simp only [pc6A]
                go_wp2_with fail
                refine wp_region_grows (by kernel_rfl) (by kernel_rfl) ?_
                repeat (go_big_quiet_step (first | (go_at_call 74; exact calls_grows (BK.out _))))
                refine wpQuiet_nil ?_
                rintro _ ⟨⟨O, d⟩, rfl⟩
                go_wp2_with fail
                go_ret
                exact visits_no E.out (wGr_gb (GX.out.xt _ _) _)
          · have bn : decide (0 < nxt.length) = true := decide_eq_true (by omega)
            have E := Lib.hid (LF.out none (if_neg (fun h => by have := h.2.1; simp only at this; rw [this] at hn0; exact hn0 rfl)))
            clear hn0 LF
            go_wp2_with fail
            go_ret
            exact visits_no E.out (wGr_gb G5.out _)
        · have bc : (clk != 0) = true := by simp [hc0]
          have E := Lib.hid (LF.out none (if_neg (fun h => hc0 h.1)))
          clear hc0 LF
          go_wp2_with fail
          go_ret
          exact visits_no E.out (wGr_gb G5.out _)
    · have bl : decide (0 ≤ lim) = false := decide_eq_false hlim
      have ND := Lib.hid (fun R (h : (if NodeOk l s ⟨lim, clk, nxt⟩ then kidsP (visP l ms b g) b.length i clk.toNat s nxt N nxt.length else none) = R) => VI.out R (by rw [if_neg hlim]; exact h))
      clear VI
      by_cases hm1 : lim = -1
      · subst hm1
        clear hlim
        by_cases hk0 : clk < 0
        · have c0 : decide (clk < 0) = true := decide_eq_true hk0
          have E := Lib.hid (ND.out none (if_neg (fun h => by have := h.2.1; simp only at this; omega)))
          clear hk0 ND
          go_wp2_with fail
          go_quiet (fail)
          go_wp2_with fail
          go_ret
          exact visits_no E.out (wGr_gb (((Gr.refl _).alloc _).drewN _) _)
        · have c0 : decide (clk < 0) = false := decide_eq_false hk0
          obtain ⟨q, rfl⟩ := Int.eq_ofNat_of_zero_le (show 0 ≤ clk by omega)
          clear hk0
          by_cases hk1 : (l.length : Int) ≤ (q : Int)
          · have c1 : decide (l.length ≤ q) = true := decide_eq_true (by omega)
            have E := Lib.hid (ND.out none (if_neg (fun h => by have := h.2.2.1; simp only at this; omega)))
            clear hk1 ND
            go_wp2_with fail
            go_quiet (fail)
            go_wp2_with fail
            go_ret
            exact visits_no E.out (wGr_gb (((Gr.refl _).alloc _).drewN _) _)
          · have c1 : decide (l.length ≤ q) = false := decide_eq_false (by omega)
            have hql : q < l.length := by omega
            have hqs : q < s.length := by have := SLN.out; omega
            have tq := HRS.out.iat q hqs
            have th := HRS.out.has
            obtain ⟨bl', ol, eal, _, _, ⟨ac, cc, e2, _, ef, _⟩, _⟩ := clks_gr HE.out.clks HG.out q hql
            subst eal
            have lh := has_of_cell e2
            have KO := Lib.hid (kOf_at hql)
            have SQ := Lib.hid (sOf_at hqs)
            have PQ : Hid (s[q] = -1 ∨ 0 ≤ s[q]) := Lib.hid (by
              have := HP.out.2 q hql
              rw [SQ.out] at this
              omega)
            obtain ⟨tv, htv⟩ : ∃ tv, s[q] = tv := ⟨_, rfl⟩
            rw [htv] at tq SQ PQ
            obtain ⟨nc, hnc⟩ : ∃ nc, l[q].choices.length = nc := ⟨_, rfl⟩
            rw [hnc] at e2 KO ef
            unfold Fit at ef
            have q2 : (q : Int) < l.length := by omega
            clear htv hnc
            by_cases hsq : tv = -1
            · subst hsq
              by_cases hnl : nxt.length = nc
              · subst hnl
                have b3' : (nxt.length != nxt.length) = false := by simp
                have hno : NodeOk l s ⟨-1, q, nxt⟩ := ⟨rfl, by simp only; omega, by simp only; omega, by simp only [Int.toNat_natCast]; rw [SQ.out]; omega, by simp only [Int.toNat_natCast]; rw [KO.out]⟩
                have KD : Hid (∀ R, kidsP (visP l ms b g) b.length i q s nxt N nxt.length = R → visP l ms b (g + 1) i s N = R) := Lib.hid (fun R h => ND.out R (by rw [if_pos hno]; exact h))
                have X4 := Lib.hid (HX.out.gr g4.out)
                have N4 := Lib.hid (HRN.out.gr g4.out)
                have S4 := Lib.hid (HRS.out.gr g4.out)
                have G4 := Lib.hid (HG.out.trans g4.out)
                have xNA : Hid (X ≠ NA) := Lib.hid (RowS.apart RX4.out.s N4.out.s (by decide))
                have sNA : Hid (SB ≠ NA) := Lib.hid (RowS.apart S4.out N4.out.s (by decide))
                clear hno ND
                go_wp2_with fail
                go_quiet (fail)
                go_wp2_with fail
                rw [hX.out, ← hW4.out]
                clear d0 d1 d2 hh tq th e2 lh b0 b1 b2 b3 b4 f0 f1 f2 f3 f4 hW4
                go_loopw [101] (fun s101 wk => ∃ (k : Nat) (Nk : List Bool), k ≤ nxt.length ∧ s101 = .int .i64 (k : Int) ∧ kidsP (visP l ms b g) b.length i q s nxt N k = some Nk ∧ Nk.length = b.length ∧ Row wk NA 4 (bools Nk) ∧ W4.grownBy wk (some NA)) (fun s101 _ => nxt.length - (intOf s101).toNat)
                case atStart => exact ⟨0, N, Nat.zero_le _, rfl, rfl, HN.out, N4.out.gr ((Gr.refl _).drewN _), wGr_gb ((Gr.refl _).drewN _) _⟩
                case round =>
                  obtain ⟨k, Nk, hk, rfl, hkp, hNk, hrn, hgb⟩ := hrel
                  have KP := Lib.hid hkp
                  have RN := Lib.hid hrn
                  have GB := Lib.hid hgb
                  have NL := Lib.hid hNk
                  have XW := Lib.hid (X4.out.grown N4.out.s hgb)
                  have SW := Lib.hid (S4.out.grown hgb (fun e => sNA.out (Option.some.inj e)))
                  have RXW := Lib.hid (RX4.out.grown hgb (fun e => xNA.out (Option.some.inj e)))
                  have GW := Lib.hid (G4.out.grown hgb (fun k e => by rw [← Option.some.inj e]; exact LOW.out))
                  clear hkp hNk hrn hgb
                  by_cases hkl : k < nxt.length
                  · obtain ⟨ba, oa, rfl, na, ya⟩ := (SN.out.giI GW.out).one k hkl
                    have nah := has_of_cell na
                    have k2 : (k : Int) < nxt.length := by omega
                    have b0 := XW.out.bb.cell 0 (by simp)
                    have b3 := XW.out.nb.cell 0 (by simp)
                    have f0 := has_of_cell b0
                    have f3 := has_of_cell b3
                    simp only [List.getElem_cons_zero] at b0 b3
                    obtain ⟨y, hy⟩ : ∃ y, nxt[k] = y := ⟨_, rfl⟩
                    have KS : Hid (∀ R, (if y ≤ (i : Int) ∨ (b.length : Int) ≤ y ∨ Nk.getD y.toNat false = true then none else visP l ms b g y.toNat (s.set q (k : Int)) (Nk.set y.toNat true)) = R → kidsP (visP l ms b g) b.length i q s nxt N (k + 1) = R) := Lib.hid (fun R h => by
                      simp only [kidsP]
                      rw [KP.out]
                      simp only [Option.bind_some]
                      have : nxt.getD k 0 = y := by rw [List.getD_eq_getElem?_getD, List.getElem?_eq_getElem hkl, ← hy]; rfl
                      rw [this]; exact h)
                    have BAD := Lib.hid (fun (h : kidsP (visP l ms b g) b.length i q s nxt N (k + 1) = none) => KD.out none (kidsP_none h nxt.length (by omega)))
                    have GBF : Hid (w.grownBy wr (some NA)) := Lib.hid ((wGr_gb g4.out _).trans GB.out)
                    rw [hy] at na ya
                    unfold Wide at ya
                    clear hy
                    by_cases hy0 : y ≤ (i : Int)
                    · have c0' : decide (y ≤ (i : Int)) = true := decide_eq_true hy0
                      have E := Lib.hid (BAD.out (KS.out none (if_pos (.inl hy0))))
                      clear hy0 BAD KS
                      go_wp2_with fail
                      go_ret
                      exact visits_no E.out GBF.out
                    · have c0' : decide (y ≤ (i : Int)) = false := decide_eq_false hy0
                      obtain ⟨m, rfl⟩ := Int.eq_ofNat_of_zero_le (show 0 ≤ y by omega)
                      have c00 : decide (m ≤ i) = false := decide_eq_false (by omega)
                      by_cases hy1 : b.length ≤ m
                      · have c1' : decide (b.length ≤ m) = true := decide_eq_true hy1
                        have E := Lib.hid (BAD.out (KS.out none (if_pos (.inr (.inl (by omega))))))
                        clear hy0 hy1 BAD KS
                        go_wp2_with fail
                        go_ret
                        exact visits_no E.out GBF.out
                      · have c1' : decide (b.length ≤ m) = false := decide_eq_false hy1
                        have m2 : (m : Int) < b.length := by omega
                        have hmN : m < Nk.length := by have := NL.out; omega
                        have nm := RN.out.bat m hmN
                        have nf := RN.out.free m
                        have nh := RN.out.has
                        have MG : Hid (Nk.getD m false = Nk[m]) := Lib.hid (by rw [List.getD_eq_getElem?_getD, List.getElem?_eq_getElem hmN]; rfl)
                        cases eN : Nk[m] with
                        | true =>
                          rw [eN] at nm MG
                          have E := Lib.hid (BAD.out (KS.out none (if_pos (.inr (.inr (by rw [Int.toNat_natCast, MG.out]))))))
                          clear hy0 hy1 BAD KS eN
                          go_wp2_with fail
                          go_ret
                          exact visits_no E.out GBF.out
                        | false =>
                          rw [eN] at nm MG
                          have KN := Lib.hid (fun R (h : visP l ms b g m (s.set q (k : Int)) (Nk.set m true) = R) => KS.out R (by
                            rw [if_neg, Int.toNat_natCast]
                            · exact h
                            · rintro (h | h | h)
                              · exact hy0 h
                              · omega
                              · rw [Int.toNat_natCast, MG.out] at h; cases h))
                          have mi : Hid (i < m ∧ m < b.length) := Lib.hid (by omega)
                          obtain ⟨W6, hW6⟩ : ∃ W6 : World, Hid (W6 = wr.setCell ⟨NA, m, none⟩ (.bool true)) := ⟨_, Lib.hid rfl⟩
                          have N6 : Hid (Row W6 NA 4 (bools (Nk.set m true))) := Lib.hid (by rw [hW6.out]; exact RN.out.bset m true)
                          have gb6 : Hid (wr.grownBy W6 (some NA)) := Lib.hid (by rw [hW6.out]; exact grownBy_set _ _ _ _)
                          have X6 := Lib.hid (XW.out.grown RN.out.s gb6.out)
                          have S6 := Lib.hid (SW.out.grown gb6.out (fun e => sNA.out (Option.some.inj e)))
                          have R6 := Lib.hid (RXW.out.grown gb6.out (fun e => xNA.out (Option.some.inj e)))
                          have G6 := Lib.hid (GW.out.grown gb6.out (fun k e => by rw [← Option.some.inj e]; exact LOW.out))
                          have CLN := Lib.hid (clone_any s (some ⟨SB, 0, none⟩) cs W6 (S6.out.slI (HP.out.wide HE.out.chk)) (by omega) (by rw [SLN.out]; exact hl))
                          rw [SLN.out] at CLN
                          clear hy0 hy1 KS eN
                          go_wp2_with fail
                          rw [← hW6.out]
                          clear nm nf nh na nah b0 b3 f0 f3 ya
                          refine CLN.out.mono ?_
                          rintro e w7 ⟨B7, c7, rfl, hrow7, hB7, hg7⟩
                          have R7 := Lib.hid hrow7
                          have g7 := Lib.hid hg7
                          have B7' := Lib.hid hB7
                          have x1 := (R6.out.gr hg7).cell 1 (by simp)
                          have xh := has_of_cell x1
                          have cf := hrow7.iat q hqs
                          have ff := hrow7.free q
                          have fh := hrow7.has
                          have z4 := (X6.out.gr hg7).rb.cell 0 (by simp)
                          have zh := has_of_cell z4
                          have n1 : ¬ B7 = X := RowS.apart hrow7 (R6.out.gr hg7).s (by decide)
                          have n2 : ¬ X = B7 := fun e => n1 e.symm
                          have n3 : ¬ B7 = RB := RowS.apart hrow7 (X6.out.gr hg7).rb.s (by decide)
                          have n4 : ¬ RB = B7 := fun e => n3 e.symm
                          simp only [List.getElem_cons_zero, List.getElem_cons_succ] at x1 z4
                          clear hrow7 hg7 hB7 CLN
                          go_wp2_with fail
                          obtain ⟨W8, hW8⟩ : ∃ W8 : World, Hid (W8 = w7.setCell ⟨B7, q, none⟩ (.int .i64 (k : Int))) := ⟨_, Lib.hid rfl⟩
                          rw [← hW8.out]
                          have R8 : Hid (RowS W8 B7 3 (nums (s.set q (k : Int)))) := Lib.hid (by rw [hW8.out]; exact R7.out.iset q hqs k)
                          have g8 : Hid (Gr W6 W8) := Lib.hid (by rw [hW8.out]; exact g7.out.setc B7'.out)
                          have RI := Lib.hid (IH.out m (s.set q (k : Int)) (Nk.set m true) W8 B7 c7 mi.out.2 (by have := mi.out; have := IG.out; omega) (HP.out.set hql (by omega) (by rw [KO.out]; omega)) (by rw [List.length_set, NL.out]) (G6.out.trans g8.out) (X6.out.gr g8.out) (N6.out.gr g8.out) R8.out)
                          refine RI.out.mono ?_
                          rintro e w9 ⟨rfl, gb9, hN9⟩
                          have GB9 : Hid (W4.grownBy w9 (some NA)) := Lib.hid (((GB.out.trans gb6.out).trans (wGr_gb g8.out _)).trans gb9)
                          have H9 := Lib.hid hN9
                          clear x1 xh cf ff fh z4 zh n1 n2 n3 n4 hW8 gb9 hN9 RI hW6
                          cases hv : visP l ms b g m (s.set q (k : Int)) (Nk.set m true) with
                          | none =>
                            have E := Lib.hid (BAD.out (KN.out none hv))
                            clear hv
                            simp only [Option.isSome_none]
                            go_wp2_with fail
                            go_ret
                            exact visits_no E.out ((wGr_gb g4.out _).trans GB9.out)
                          | some N9 =>
                            have E := Lib.hid (KN.out (some N9) hv)
                            obtain ⟨nl9, nr9⟩ := H9.out N9 hv
                            have NL9 := Lib.hid nl9
                            have NR9 := Lib.hid nr9
                            clear hv nl9 nr9
                            simp only [Option.isSome_some]
                            go_wp2_with fail
                            go_roundw
                            case rel => exact ⟨k + 1, N9, by omega, by go_num, E.out, NL9.out, NR9.out, GB9.out⟩
                            case measure => simp [intOf]; omega
                  · have hk' : k = nxt.length := by omega
                    subst hk'
                    have E := Lib.hid (KD.out (some Nk) KP.out)
                    clear KD
                    go_wp2_with fail
                    go_ret
                    refine ⟨by rw [E.out]; rfl, (wGr_gb g4.out _).trans GB.out, fun N' h => ?_⟩
                    rw [E.out] at h
                    injection h with h
                    subst h
                    exact ⟨NL.out, RN.out⟩
              · have b4' : decide (nxt.length = nc) = false := decide_eq_false hnl
                have b5' : (nxt.length != nc) = true := by rw [bne_iff_ne]; exact hnl
                have b6' : (nxt.length == nc) = false := by rw [beq_eq_false_iff_ne]; exact hnl
                have E := Lib.hid (ND.out none (if_neg (fun h => by have := h.2.2.2.2; simp only [Int.toNat_natCast] at this; rw [KO.out] at this; omega)))
                clear hnl ND
                go_wp2_with fail
                go_quiet (fail)
                go_wp2_with fail
                go_ret
                exact visits_no E.out (wGr_gb (((Gr.refl _).alloc _).drewN _) _)
            · have b2' : (tv != -1) = true := by rw [bne_iff_ne]; exact hsq
              have E := Lib.hid (ND.out none (if_neg (fun h => by have := h.2.2.2.1; simp only [Int.toNat_natCast] at this; rw [SQ.out] at this; have := PQ.out; omega)))
              clear hsq ND
              go_wp2_with fail
              go_quiet (fail)
              go_wp2_with fail
              go_ret
              exact visits_no E.out (wGr_gb (((Gr.refl _).alloc _).drewN _) _)
      · have bm : (lim != -1) = true := by simp [hm1]
        have E := Lib.hid (ND.out none (if_neg (fun h => hm1 h.1)))
        clear hm1 ND hlim
        go_wp2_with fail
        go_quiet (fail)
        go_wp2_with fail
        go_ret
        exact visits_no E.out (wGr_gb (((Gr.refl _).alloc _).drewN _) _)
end Go.Proofs.YtenehghpmnajpaaGreatDoor

set_option linter.unusedVariables false
set_option linter.unusedSimpArgs false
namespace Go.Proofs.YtenehghpmnajpaaGreatDoor
open Go.RowKit
open Classical
/-- The answer of the program's check. -/
noncomputable def prgAns (l : List Clk) (ms : List Lmt) (b : List Brn) : Bool := decide (b ≠ []) && prgChk l ms b
theorem all_id (N : List Bool) : N.all id = !decide (false ∈ N) := by
  rw [Bool.eq_iff_iff]
  simp only [List.all_eq_true, id, Bool.not_eq_true', decide_eq_false_iff_not]
  constructor
  · intro h q; have := h _ q; cases this
  · intro h x hx
    cases x with
    | true => rfl
    | false => exact absurd hx h
set_option maxRecDepth 100000 in
set_option maxHeartbeats 4000000 in
theorem pChk_any (l : List Clk) (ms : List Lmt) (b : List Brn) (al am ab : Option Addr) (cl cm cb : Nat) (w : World) (henv : Env w l ms al am) (hb : SlOf 3 RBrn w ab b) (hbl : b.length ≤ 100000) :
    Calls Tryz.prog 26 #[.slice al l.length cl, .slice am ms.length cm, .slice ab b.length cb] w (Grows w (.bool (prgAns l ms b))) := by
  have hl := small_len (cchk_zero henv.chk).1
  have hml := henv.lims.1
  have BG := Lib.hid (fun W (hW : Gr w W) => begin17_any l ms al am cl cm W (henv.gr hW))
  have AL := Lib.hid (fun W (hW : Gr w W) => all_any l ms al am cl cm W (clks_gr henv.clks hW) (lmts_gr henv.lmts hW) hl hml)
  have HE := Lib.hid henv
  have HBR := Lib.hid hb
  have infoB : (Tryz.prog.info? 4).map (fun i => (i.zero, i.size, i.bytes)) = some (some (.bool false), 1, 1) := by kernel_rfl
  have hmk := run_make_row' (P := Tryz.prog) 88 4 (.bool false) 1 Tryz.underlying88 infoB rfl .i64 .i64 b.length (by omega) (by omega)
  clear henv hb
  go_enter Tryz.func26, Tryz.ntmps26
  go_wp2_with fail
  obtain ⟨CB, hCB⟩ : ∃ CB : Nat, Hid (w.heap.size = CB) := ⟨_, Lib.hid rfl⟩
  obtain ⟨W1, hW1⟩ : ∃ W1 : World, Hid (W1 = (w.alloc (.cells #[.slice al l.length cl] 23)).alloc (.cells #[.slice ab b.length cb] 25)) := ⟨_, Lib.hid rfl⟩
  rw [← hW1.out, hCB.out]
  have RC : Hid (Row W1 CB 23 [.slice al l.length cl]) := Lib.hid (by rw [hW1.out, ← hCB.out]; exact (Row.new w #[.slice al l.length cl] _).alloc _)
  have RBB : Hid (Row W1 (CB + 1) 25 [.slice ab b.length cb]) := Lib.hid (by
    rw [hW1.out]
    exact row_new' _ #[.slice ab b.length cb] 25 _ (by simp [hCB.out]))
  have G1 : Hid (Gr w W1) := Lib.hid (by rw [hW1.out]; exact ((Gr.refl _).alloc _).alloc _)
  clear hW1
  refine (BG.out W1 G1.out).mono ?_
  rintro e w2 ⟨rfl, hg2⟩
  have G2 := Lib.hid (G1.out.trans hg2)
  have g2 := Lib.hid hg2
  have c0 := (RC.out.gr hg2).cell 0 (by simp)
  have c1 := (RBB.out.gr hg2).cell 0 (by simp)
  have ch0 := has_of_cell c0
  have ch1 := has_of_cell c1
  simp only [List.getElem_cons_zero] at c0 c1
  clear hg2 BG
  by_cases hb0 : b.length = 0
  · have E : Hid (prgAns l ms b = false) := Lib.hid (by unfold prgAns; rw [List.length_eq_zero_iff.1 hb0]; simp)
    have bz : ((b.length : Int) == 0) = true := by simp [hb0]
    clear hb0
    go_wp2_with fail
    go_ret
    exact ⟨ret_bool E.out.symm, G2.out⟩
  · have bz : ((b.length : Int) == 0) = false := by rw [beq_eq_false_iff_ne]; omega
    have BP : Hid (0 < b.length) := Lib.hid (by omega)
    have AL2 := Lib.hid (AL.out w2 G2.out)
    clear hb0 AL
    go_wp2_with fail
    refine AL2.out.mono ?_
    rintro e w3 ⟨v, rfl, ho, hg3⟩
    obtain ⟨aL, cL, rfl, hbd⟩ := bnds_of_owns ho
    have G3 := Lib.hid (G2.out.trans hg3)
    have g3 := Lib.hid (g2.out.trans hg3)
    have HBD := Lib.hid hbd
    have c0 := cell_gr hg3 c0
    have c1 := cell_gr hg3 c1
    have ch0 := has_of_cell c0
    have ch1 := has_of_cell c1
    clear ho hbd hg3 AL2
    go_wp2_with fail
    obtain ⟨LB, hLB⟩ : ∃ LB : Nat, Hid (w3.heap.size = LB) := ⟨_, Lib.hid rfl⟩
    rw [hLB.out]
    obtain ⟨FV, hFV⟩ : ∃ FV : Value, Hid (FV = .func (.func 70) #[] #[.pointer (some ⟨CB + 1, 0, none⟩), .pointer (some ⟨LB, 0, none⟩), .pointer (some ⟨CB, 0, none⟩), .pointer (some ⟨LB + 1 + 1, 0, none⟩), .pointer (some ⟨LB + 1 + 1 + 1, 0, none⟩)]) := ⟨_, Lib.hid rfl⟩
    obtain ⟨W4, hW4⟩ : ∃ W4 : World, Hid (W4 = (((w3.alloc (.cells #[.slice aL (allB l ms).length cL] 107)).alloc (.cells (madeCells #[.bool false] b.length) 4)).alloc (.cells #[.slice (some ⟨LB + 1, 0, none⟩) b.length b.length] 88)).alloc (.cells #[.func (.func 70) #[] #[.pointer (some ⟨CB + 1, 0, none⟩), .pointer (some ⟨LB, 0, none⟩), .pointer (some ⟨CB, 0, none⟩), .pointer (some ⟨LB + 1 + 1, 0, none⟩), .pointer (some ⟨LB + 1 + 1 + 1, 0, none⟩)]] 113)) := ⟨_, Lib.hid rfl⟩
    rw [← hW4.out]
    have BX : Hid (Bx W4 (.slice ab b.length cb) (.slice aL (allB l ms).length cL) (.slice al l.length cl) b.length (CB + 1) LB CB (LB + 1 + 1) (LB + 1 + 1 + 1) (LB + 1)) := Lib.hid (by
      have g34 : Gr w3 W4 := by rw [hW4.out]; exact ((((Gr.refl _).alloc _).alloc _).alloc _).alloc _
      refine ⟨(RBB.out.gr g3.out).gr g34, ?_, (RC.out.gr g3.out).gr g34, ?_, ?_⟩
      · rw [hW4.out, ← hLB.out]; exact (((Row.new w3 #[.slice aL (allB l ms).length cL] _).alloc _).alloc _).alloc _
      · rw [hW4.out]; exact (row_new' _ #[.slice (some ⟨LB + 1, 0, none⟩) b.length b.length] 88 _ (by simp [hLB.out])).alloc _
      · rw [hW4.out]; exact row_new' _ #[_] 113 _ (by simp [hLB.out]))
    have RN4 : Hid (Row W4 (LB + 1) 4 (bools (List.replicate b.length false))) := Lib.hid (by
      have := row_new' (w3.alloc (.cells #[.slice aL (allB l ms).length cL] 107)) (madeCells #[.bool false] b.length) 4 (LB + 1) (by simp [hLB.out])
      have e : (madeCells #[Value.bool false] b.length).toList = bools (List.replicate b.length false) := by
        apply List.ext_getElem
        · simp [madeCells, bools]
        · intro i h1 h2
          simp [madeCells, Nat.mod_one, bools]
      rw [e] at this
      rw [hW4.out]; exact (this.alloc _).alloc _)
    have G34 : Hid (Gr w3 W4) := Lib.hid (by rw [hW4.out]; exact ((((Gr.refl _).alloc _).alloc _).alloc _).alloc _)
    have STA := Lib.hid (fun W (hW : Gr W4 W) => start_any l al cl W HE.out.chk (clks_gr HE.out.clks ((G3.out.trans G34.out).trans hW)))
    have RT := Lib.hid (fun W SB (hW : Gr W4 W) (hS : RowS W SB 3 (nums (startS l))) => right_any l ms b w3 al am ab aL cl cm cb cL (CB + 1) LB CB (LB + 1 + 1) (LB + 1 + 1 + 1) (LB + 1) (HE.out.gr G3.out) (HBR.out.gr RBrn.mono G3.out) HBD.out hbl (by rw [hLB.out]; omega) b.length 0 (startS l) (List.replicate b.length false) W SB l.length BP.out (by omega) (startS_ok HE.out.chk) (by simp) (G34.out.trans hW) (BX.out.gr hW) (RN4.out.gr hW) hS)
    have PA : Hid (prgAns l ms b = prgChk l ms b) := Lib.hid (by
      have := BP.out
      unfold prgAns
      rw [decide_eq_true (by intro e; rw [e] at this; simp at this), Bool.true_and])
    have r4 := BX.out.rb.cell 0 (by simp)
    have k4 := BX.out.cb.cell 0 (by simp)
    have n4 := BX.out.nb.cell 0 (by simp)
    have rh4 := has_of_cell r4
    have kh4 := has_of_cell k4
    have nh4 := has_of_cell n4
    simp only [List.getElem_cons_zero] at r4 k4 n4
    clear hW4 c0 c1 ch0 ch1 hmk hFV
    cases hv : visP l ms b b.length 0 (startS l) (List.replicate b.length false) with
    | none =>
      have E : Hid (prgAns l ms b = false) := Lib.hid (by rw [PA.out]; unfold prgChk; rw [hv])
      have RT' : Hid (∀ W SB, Gr W4 W → RowS W SB 3 (nums (startS l)) → Calls Tryz.prog 70 #[.int .i64 0, .slice (some ⟨SB, 0, none⟩) l.length l.length, .pointer (some ⟨CB + 1, 0, none⟩), .pointer (some ⟨LB, 0, none⟩), .pointer (some ⟨CB, 0, none⟩), .pointer (some ⟨LB + 1 + 1, 0, none⟩), .pointer (some ⟨LB + 1 + 1 + 1, 0, none⟩)] W (fun e w' => e = .returned (.bool false) ∧ W.grownBy w' (some (LB + 1)))) := Lib.hid (fun W SB hW hS => (RT.out W SB hW hS).mono fun e w' h => ⟨by rw [h.1, hv]; rfl, h.2.1⟩)
      clear hv RT PA
      go_region_with (first
        | (go_at_call 69; refine (STA.out _ grr).mono ?_; rintro e w8 ⟨SB, rfl, hs8, hb8, hg8⟩; have S8 := Lib.hid hs8; have G8 := Lib.hid ((show Gr W4 _ from grr).trans hg8); have r8 := cell_gr G8.out r4; have k8 := cell_gr G8.out k4; have rh8 := has_of_cell r8; have kh8 := has_of_cell k8; clear hs8 hb8 hg8)
        | (go_at_call 70; refine (RT'.out _ SB (G8.out.trans grr) (S8.out.gr grr)).mono ?_; rintro e w9 ⟨rfl, gb9⟩; have GF := Lib.hid (((G3.out.trans G34.out).trans (G8.out.trans grr)).grown gb9 (fun k e => by rw [← Option.some.inj e]; have := G3.out.size; have := hLB.out; omega)); clear gb9))
      all_goals
        (go_wp2_with fail
         go_ret
         exact ⟨ret_bool E.out.symm, GF.out⟩)
    | some N9 =>
      have E : Hid (prgAns l ms b = !decide (false ∈ N9.drop 1)) := Lib.hid (by rw [PA.out]; unfold prgChk; rw [hv]; exact all_id _)
      obtain ⟨res, hres⟩ : ∃ res, decide (false ∈ N9.drop 1) = res := ⟨_, rfl⟩
      rw [hres] at E
      have RT' : Hid (∀ W SB, Gr W4 W → RowS W SB 3 (nums (startS l)) → Calls Tryz.prog 70 #[.int .i64 0, .slice (some ⟨SB, 0, none⟩) l.length l.length, .pointer (some ⟨CB + 1, 0, none⟩), .pointer (some ⟨LB, 0, none⟩), .pointer (some ⟨CB, 0, none⟩), .pointer (some ⟨LB + 1 + 1, 0, none⟩), .pointer (some ⟨LB + 1 + 1 + 1, 0, none⟩)] W (fun e w' => e = .returned (.bool true) ∧ W.grownBy w' (some (LB + 1)) ∧ N9.length = b.length ∧ Row w' (LB + 1) 4 (bools N9))) := Lib.hid (fun W SB hW hS => (RT.out W SB hW hS).mono fun e w' h => ⟨by rw [h.1, hv]; rfl, h.2.1, h.2.2 N9 hv⟩)
      obtain ⟨pv, hpv⟩ : ∃ pv : Option Addr, (if b.length = 1 then some ⟨LB + 1, 0, none⟩ else some ⟨LB + 1, 1, none⟩) = pv := ⟨_, rfl⟩
      have CT : Hid (∀ W, N9.length = b.length → Row W (LB + 1) 4 (bools N9) → Calls Tryz.prog 75 #[.slice pv (b.length - 1) (b.length - 1), .bool false] W (fun e w' => e = .returned (.bool res) ∧ W = w')) := Lib.hid (fun W hn hr => by
        have hx : SlOf 1 RB W pv (N9.drop 1) := fun k hk => by
          rw [List.length_drop] at hk
          refine ⟨LB + 1, 1, by rw [← hpv, if_neg (by omega)], ?_⟩
          unfold RB
          rw [Nat.mul_one, hr.bat (1 + k) (by omega), List.getElem_drop]
        have := containsB_any (N9.drop 1) _ (b.length - 1) false W hx (by rw [List.length_drop, hn]; unfold Fit; omega)
        rw [List.length_drop, hn, hres] at this
        exact this)
      have bp := BP.out
      have l1 : (1 : Int) ≤ (b.length : Int) := by omega
      have l2 : 1 ≤ b.length := by omega
      clear hv RT PA hres
      cases res with
      | true =>
          go_region_with (first
            | (go_at_call 69; refine (STA.out _ grr).mono ?_; rintro e w8 ⟨SB, rfl, hs8, hb8, hg8⟩; have S8 := Lib.hid hs8; have G8 := Lib.hid ((show Gr W4 _ from grr).trans hg8); have r8 := cell_gr G8.out r4; have k8 := cell_gr G8.out k4; have rh8 := has_of_cell r8; have kh8 := has_of_cell k8; clear hs8 hb8 hg8)
            | (go_at_call 70; refine (RT'.out _ SB (G8.out.trans grr) (S8.out.gr grr)).mono ?_; rintro e w9 ⟨rfl, gb9, hl9, hr9⟩; have GF := Lib.hid (((G3.out.trans G34.out).trans (G8.out.trans grr)).grown gb9 (fun k e => by rw [← Option.some.inj e]; have := G3.out.size; have := hLB.out; omega)); have X9 := (BX.out.gr (G8.out.trans grr)).grown (RN4.out.gr (G8.out.trans grr)).s gb9; have n9 := X9.nb.cell 0 (by simp); have nh9 := has_of_cell n9; simp only [List.getElem_cons_zero] at n9; have R9 := Lib.hid hr9; have L9 := Lib.hid hl9; clear gb9 X9 hr9 hl9)
            | (go_at_call 75; refine (CT.out _ L9.out (R9.out.gr grr)).mono ?_; rintro e w10 ⟨rfl, rfl⟩))
          all_goals
            (go_wp2_with fail
             go_ret
             exact ⟨ret_bool E.out.symm, GF.out⟩)
      | false =>
          go_region_with (first
            | (go_at_call 69; refine (STA.out _ grr).mono ?_; rintro e w8 ⟨SB, rfl, hs8, hb8, hg8⟩; have S8 := Lib.hid hs8; have G8 := Lib.hid ((show Gr W4 _ from grr).trans hg8); have r8 := cell_gr G8.out r4; have k8 := cell_gr G8.out k4; have rh8 := has_of_cell r8; have kh8 := has_of_cell k8; clear hs8 hb8 hg8)
            | (go_at_call 70; refine (RT'.out _ SB (G8.out.trans grr) (S8.out.gr grr)).mono ?_; rintro e w9 ⟨rfl, gb9, hl9, hr9⟩; have GF := Lib.hid (((G3.out.trans G34.out).trans (G8.out.trans grr)).grown gb9 (fun k e => by rw [← Option.some.inj e]; have := G3.out.size; have := hLB.out; omega)); have X9 := (BX.out.gr (G8.out.trans grr)).grown (RN4.out.gr (G8.out.trans grr)).s gb9; have n9 := X9.nb.cell 0 (by simp); have nh9 := has_of_cell n9; simp only [List.getElem_cons_zero] at n9; have R9 := Lib.hid hr9; have L9 := Lib.hid hl9; clear gb9 X9 hr9 hl9)
            | (go_at_call 75; refine (CT.out _ L9.out (R9.out.gr grr)).mono ?_; rintro e w10 ⟨rfl, rfl⟩))
          all_goals
            (go_wp2_with fail
             go_ret
             exact ⟨ret_bool E.out.symm, GF.out⟩)
end Go.Proofs.YtenehghpmnajpaaGreatDoor

set_option linter.unusedVariables false
set_option linter.unusedSimpArgs false
namespace Go.Proofs.YtenehghpmnajpaaGreatDoor
open Go.RowKit
open Classical
/-- The answer of both checks. -/
noncomputable def chkG (l : List Clk) (ms : List Lmt) (bs : List Brn) : Bool := if bgE l ms = 0 then prgAns l ms bs else false
theorem ans_eq (l : List Clk) (ms : List Lmt) (bs : List Brn) : refAns l ms bs = prgAns l ms bs := by
  unfold refAns prgAns
  by_cases h : bs = []
  · subst h; simp
  · rw [chk_same (List.length_pos_iff.2 h)]
set_option maxRecDepth 100000 in
set_option maxHeartbeats 1000000 in
theorem pChkG_any (l : List Clk) (ms : List Lmt) (bs : List Brn) (al am ab : Option Addr) (cl cm cb : Nat) (w : World) (h : GEnv w l ms al am) (hb : SlOf 3 RBrn w ab bs) (hbl : bs.length ≤ 100000) :
    Calls Tryz.prog 26 #[.slice al l.length cl, .slice am ms.length cm, .slice ab bs.length cb] w (Grows w (.bool (chkG l ms bs))) := by
  by_cases hz : bgE l ms = 0
  · unfold chkG
    rw [if_pos hz]
    exact pChk_any l ms bs al am ab cl cm cb w (h.env hz) hb hbl
  · have BG := Lib.hid (fun W (hW : Gr w W) => beginG_any l ms al am cl cm W (clks_gr h.clks hW) (lmts_gr h.lmts hW) h.fl h.fm)
    have E : Hid (chkG l ms bs = false) := Lib.hid (by unfold chkG; rw [if_neg hz])
    rw [E.out]
    obtain ⟨B, hB⟩ : ∃ B, bgE l ms = B := ⟨_, rfl⟩
    rw [hB] at BG hz
    have bb : (B != 0) = true := by simp [hz]
    clear h hB hz hb E
    go_enter Tryz.func26, Tryz.ntmps26
    go_wp2_with fail
    refine (BG.out _ (((Gr.refl _).alloc _).alloc _)).mono ?_
    rintro e w1 ⟨rfl, O1, D1, rfl⟩
    go_wp2_with fail
    go_ret
    exact ⟨rfl, (((Gr.refl _).alloc _).alloc _).xt _ _⟩
set_option maxRecDepth 100000 in
set_option maxHeartbeats 1000000 in
theorem rChkG_any (l : List Clk) (ms : List Lmt) (bs : List Brn) (al am ab : Option Addr) (cl cm cb : Nat) (w : World) (h : GEnv w l ms al am) (hb : SlOf 3 RBrn w ab bs) (hbl : bs.length ≤ 100000) :
    Calls Tryz.prog 27 #[.slice al l.length cl, .slice am ms.length cm, .slice ab bs.length cb] w (Grows w (.bool (chkG l ms bs))) := by
  by_cases hz : bgE l ms = 0
  · unfold chkG
    rw [if_pos hz, ← ans_eq]
    exact refChk_any l ms bs al am ab cl cm cb w (h.env hz) hb hbl
  · have BG := Lib.hid (fun W (hW : Gr w W) => refBeginG_any l ms al am cl cm W (clks_gr h.clks hW) (lmts_gr h.lmts hW) h.fl h.fm)
    have E : Hid (chkG l ms bs = false) := Lib.hid (by unfold chkG; rw [if_neg hz])
    rw [E.out]
    obtain ⟨B, hB⟩ : ∃ B, bgE l ms = B := ⟨_, rfl⟩
    rw [hB] at BG hz
    have bb : (B != 0) = true := by simp [hz]
    clear h hB hz hb E
    go_enter Tryz.func27, Tryz.ntmps27
    go_wp2_with fail
    refine (BG.out w (Gr.refl _)).mono ?_
    rintro e w1 ⟨rfl, hg1⟩
    go_wp2_with fail
    go_ret
    exact ⟨rfl, hg1⟩
end Go.Proofs.YtenehghpmnajpaaGreatDoor

/- Statements of retune.Check by an invariant (printed by wip/tools/chk.py). -/
import Derived.Test.YtenehghpmnajpaaGreatDoorCk1
import Derived.Test.YtenehghpmnajpaaGreatDoorKp
set_option linter.unusedVariables false
set_option linter.unusedSimpArgs false
namespace Go.Proofs.YtenehghpmnajpaaGreatDoor
open Go.RowKit
open Classical

/-- What is known of each slot as soon as its operation is done. -/
def ch14F (R : World → Prop) (wr : World) (n : Int) (BI BM : Nat) (t14 t53 t54 t55 : Value) (d : Array Bool) (w : World) : Prop :=
  (d.getD 4 false = false → w = wr.drew) ∧ (d.getD 0 false = true → t53 = .map (some BM)) ∧
  (d.getD 1 false = true → t54 = .int .i64 n) ∧
  (d.getD 2 false = true → t55 = .int .i64 n) ∧
  (d.getD 3 false = true → t14 = .int .i64 n) ∧
  (d.getD 4 false = true → (d.getD 0 false = true ∧ R w))
/-- The frame. -/
def ch14A (n : Int) (BI : Nat) (t14 t53 t54 t55 s0 s1 s2 s3 s4 s5 s6 s7 s8 s9 s10 s11 s12 s15 s16 s18 s19 s20 s21 s22 s23 s24 s25 s26 s27 s28 s29 s30 s31 s32 s33 s34 s35 s36 s37 s38 s39 s40 s41 s42 s43 s44 s45 s46 s47 s48 s49 s50 s51 s52 s56 s57 s58 s59 s60 s61 s62 s63 s64 s65 s66 s67 s68 s69 s70 s71 s72 s73 s74 s75 s76 s77 s78 s79 s80 : Value) : Act := { tmps := #[s0, s1, s2, s3, s4, s5, s6, s7, s8, s9, s10, s11, s12, .pointer (some ⟨BI, 0, none⟩), t14, s15, s16, .int .i64 n, s18, s19, s20, s21, s22, s23, s24, s25, s26, s27, s28, s29, s30, s31, s32, s33, s34, s35, s36, s37, s38, s39, s40, s41, s42, s43, s44, s45, s46, s47, s48, s49, s50, s51, s52, t53, t54, t55, s56, s57, s58, s59, s60, s61, s62, s63, s64, s65, s66, s67, s68, s69, s70, s71, s72, s73, s74, s75, s76, s77, s78, s79, s80], defers := [] }

set_option maxRecDepth 100000 in
set_option maxHeartbeats 4000000 in
theorem ch14 {Q : Exit → Act → World → Prop} {R : World → Prop} {wr : World} {n : Int} {BI BM : Nat}  {s0 s1 s2 s3 s4 s5 s6 s7 s8 s9 s10 s11 s12 s14 s15 s16 s18 s19 s20 s21 s22 s23 s24 s25 s26 s27 s28 s29 s30 s31 s32 s33 s34 s35 s36 s37 s38 s39 s40 s41 s42 s43 s44 s45 s46 s47 s48 s49 s50 s51 s52 s53 s54 s55 s56 s57 s58 s59 s60 s61 s62 s63 s64 s65 s66 s67 s68 s69 s70 s71 s72 s73 s74 s75 s76 s77 s78 s79 s80 : Value} (BX : Row wr BI 125 [.map (some BM)]) (hr : ∃ w', (Instr.mapUpdate 125 (.map (some BM)) (.int .i64 n) (.bool true)).run Tryz.prog wr.drew = .ok () w' ∧ R w')
    (h' : ∀ t53 t54 t55 wx, R wx → Q .normal (ch14A n BI (.int .i64 n) t53 t54 t55 s0 s1 s2 s3 s4 s5 s6 s7 s8 s9 s10 s11 s12 s15 s16 s18 s19 s20 s21 s22 s23 s24 s25 s26 s27 s28 s29 s30 s31 s32 s33 s34 s35 s36 s37 s38 s39 s40 s41 s42 s43 s44 s45 s46 s47 s48 s49 s50 s51 s52 s56 s57 s58 s59 s60 s61 s62 s63 s64 s65 s66 s67 s68 s69 s70 s71 s72 s73 s74 s75 s76 s77 s78 s79 s80) wx) :
    (Code.region 14 (regIn 14 Tryz.f32) true).wp Tryz.prog Q { tmps := #[s0, s1, s2, s3, s4, s5, s6, s7, s8, s9, s10, s11, s12, .pointer (some ⟨BI, 0, none⟩), s14, s15, s16, .int .i64 n, s18, s19, s20, s21, s22, s23, s24, s25, s26, s27, s28, s29, s30, s31, s32, s33, s34, s35, s36, s37, s38, s39, s40, s41, s42, s43, s44, s45, s46, s47, s48, s49, s50, s51, s52, s53, s54, s55, s56, s57, s58, s59, s60, s61, s62, s63, s64, s65, s66, s67, s68, s69, s70, s71, s72, s73, s74, s75, s76, s77, s78, s79, s80], defers := [] } wr := by

  simp only [regIn, Tryz.f32, regOps, Option.bind_some, Option.getD_some, Nat.beq, cond_true, cond_false]
  refine wp_region_steps (fun done a w => ∃ t14 t53 t54 t55, a = ch14A n BI t14 t53 t54 t55 s0 s1 s2 s3 s4 s5 s6 s7 s8 s9 s10 s11 s12 s15 s16 s18 s19 s20 s21 s22 s23 s24 s25 s26 s27 s28 s29 s30 s31 s32 s33 s34 s35 s36 s37 s38 s39 s40 s41 s42 s43 s44 s45 s46 s47 s48 s49 s50 s51 s52 s56 s57 s58 s59 s60 s61 s62 s63 s64 s65 s66 s67 s68 s69 s70 s71 s72 s73 s74 s75 s76 s77 s78 s79 s80 ∧ ch14F R wr n BI BM t14 t53 t54 t55 done w) (by kernel_rfl) (by kernel_rfl) ?_ ⟨?_, ?_, ?_, ?_, ?_, trivial⟩ ?_
  · exact ⟨s14, s53, s54, s55, rfl, fun _ => rfl, fun q => absurd q (by decide), fun q => absurd q (by decide), fun q => absurd q (by decide), fun q => absurd q (by decide), fun q => absurd q (by decide)⟩
  · rintro done a w hsz hnot hdep ⟨t14, t53, t54, t55, rfl, gw, f0, f1, f2, f3, f4⟩ K hK
    have hn : ¬ done.getD 0 false = true := by rw [getD_both hnot]; decide
    have n4 : done.getD 4 false = false := by
      cases e4 : done.getD 4 false with
      | false => rfl
      | true => exact absurd (f4 e4).1 hn
    obtain rfl := gw n4
    have r := BX
    have c0 := r.cell 0 (by simp)
    have ch := r.has
    simp only [List.getElem_cons_zero] at c0
    clear r n4
    have HK := PLift.up hK
    clear hK 
    simp only [ch14A]
    go_simp
    refine HK.down _ _ ⟨_, _, _, _, rfl, (fun q => gw (by rw [getD_set_ne false (by decide)] at q; exact q)), fun _ => rfl, fun q => f1 (done_old q (by decide)), fun q => f2 (done_old q (by decide)), fun q => f3 (done_old q (by decide)), fun q => absurd (f4 (done_old q (by decide))).1 hn⟩
  · rintro done a w hsz hnot hdep ⟨t14, t53, t54, t55, rfl, gw, f0, f1, f2, f3, f4⟩ K hK
    have hn : ¬ done.getD 1 false = true := by rw [getD_both hnot]; decide
    have HK := PLift.up hK
    clear hK 
    simp only [ch14A]
    go_simp
    refine HK.down _ _ ⟨_, _, _, _, rfl, (fun q => gw (by rw [getD_set_ne false (by decide)] at q; exact q)), fun q => f0 (done_old q (by decide)), fun _ => rfl, fun q => f2 (done_old q (by decide)), fun q => f3 (done_old q (by decide)), fun q => (let ⟨a1, h2⟩ := f4 (done_old q (by decide)); ⟨getD_set_true a1, h2⟩)⟩
  · rintro done a w hsz hnot hdep ⟨t14, t53, t54, t55, rfl, gw, f0, f1, f2, f3, f4⟩ K hK
    have hn : ¬ done.getD 2 false = true := by rw [getD_both hnot]; decide
    have HK := PLift.up hK
    clear hK 
    simp only [ch14A]
    go_simp
    refine HK.down _ _ ⟨_, _, _, _, rfl, (fun q => gw (by rw [getD_set_ne false (by decide)] at q; exact q)), fun q => f0 (done_old q (by decide)), fun q => f1 (done_old q (by decide)), fun _ => rfl, fun q => f3 (done_old q (by decide)), fun q => (let ⟨a1, h2⟩ := f4 (done_old q (by decide)); ⟨getD_set_true a1, h2⟩)⟩
  · rintro done a w hsz hnot hdep ⟨t14, t53, t54, t55, rfl, gw, f0, f1, f2, f3, f4⟩ K hK
    have hn : ¬ done.getD 3 false = true := by rw [getD_both hnot]; decide
    have d2 := hdep 2 (by kernel_rfl)
    obtain rfl := f2 d2
    have HK := PLift.up hK
    clear hK d2
    simp only [ch14A]
    go_simp
    refine HK.down _ _ ⟨_, _, _, _, rfl, (fun q => gw (by rw [getD_set_ne false (by decide)] at q; exact q)), fun q => f0 (done_old q (by decide)), fun q => f1 (done_old q (by decide)), fun q => f2 (done_old q (by decide)), fun _ => rfl, fun q => (let ⟨a1, h2⟩ := f4 (done_old q (by decide)); ⟨getD_set_true a1, h2⟩)⟩
  · rintro done a w hsz hnot hdep ⟨t14, t53, t54, t55, rfl, gw, f0, f1, f2, f3, f4⟩ K hK
    have hn : ¬ done.getD 4 false = true := by rw [getD_both hnot]; decide
    have d0 := hdep 0 (by kernel_rfl)
    have d1 := hdep 1 (by kernel_rfl)
    obtain rfl := f0 d0
    obtain rfl := f1 d1
    have n4 := getD_both hnot
    obtain rfl := gw n4
    refine step_mapStore wr.drew rfl 125 _ _ _ rfl rfl rfl rfl hr (fun w' hw' => ?_)
    refine hK _ _ ⟨_, _, _, _, rfl, (fun q => absurd q (by rw [getD_set_same (by rw [hsz]; decide)]; decide)), fun q => f0 (done_old q (by decide)), fun q => f1 (done_old q (by decide)), fun q => f2 (done_old q (by decide)), fun q => f3 (done_old q (by decide)), ?_⟩
    exact fun _ => ⟨getD_set_true d0, hw'⟩
  · rintro done a w hall ⟨t14, t53, t54, t55, rfl, gw, f0, f1, f2, f3, f4⟩
    obtain rfl := f3 (hall 3 (by decide))
    exact h' _ _ _ w (f4 (hall 4 (by decide))).2

/-- What is known of each slot as soon as its operation is done. -/
def ch16tF (w0 wr : World) (l : List Clk) (ms : List Lmt) (f t : List Int) (al am af at' : Option Addr) (cl cm cf ct BK XP BI BM : Nat) (y : Bool) (t18 t57 t58 t59 t60 t61 t62 t63 t64 t65 t66 t67 t68 t69 : Value) (d : Array Bool) (w : World) : Prop :=
  Gr wr w ∧ (d.getD 0 false = true → t57 = .map (some BM)) ∧
  (d.getD 1 false = true → t58 = .agg #[.slice al l.length cl, .slice am ms.length cm, .map (some BK)]) ∧
  (d.getD 2 false = true → t59 = .slice af l.length cf) ∧
  (d.getD 3 false = true → t60 = .int .i64 (num l f)) ∧
  (d.getD 4 false = true → t61 = .bool true) ∧
  (d.getD 5 false = true → t62 = .bool true) ∧
  (d.getD 6 false = true → t63 = .map (some BM)) ∧
  (d.getD 7 false = true → t64 = .agg #[.slice al l.length cl, .slice am ms.length cm, .map (some BK)]) ∧
  (d.getD 8 false = true → t65 = .slice at' l.length ct) ∧
  (d.getD 9 false = true → t66 = .int .i64 (num l t)) ∧
  (d.getD 10 false = true → t67 = .bool y) ∧
  (d.getD 11 false = true → t68 = .bool (!y)) ∧
  (d.getD 12 false = true → t69 = .bool (!y)) ∧
  (d.getD 13 false = true → (∃ BW, t18 = .pointer (some ⟨BW, 0, none⟩) ∧ wr.heap.size ≤ BW ∧ (d.getD 14 false = false → Row w BW 4 [.bool false]))) ∧
  (d.getD 14 false = true → (d.getD 13 false = true ∧ ∃ BW, t18 = .pointer (some ⟨BW, 0, none⟩) ∧ wr.heap.size ≤ BW ∧ Row w BW 4 [.bool (!y)]))
/-- The frame. -/
def ch16tA (l : List Clk) (af at' : Option Addr) (cf ct XP BI : Nat) (t18 t57 t58 t59 t60 t61 t62 t63 t64 t65 t66 t67 t68 t69 s0 s3 s4 s5 s6 s7 s8 s9 s10 s12 s14 s15 s16 s17 s19 s20 s21 s22 s23 s24 s25 s26 s27 s28 s29 s30 s31 s32 s33 s34 s35 s36 s37 s38 s39 s40 s41 s42 s43 s44 s45 s46 s47 s48 s49 s50 s51 s52 s53 s54 s55 s56 s70 s71 s72 s73 s74 s75 s76 s77 s78 s79 s80 : Value) : Act := { tmps := #[s0, .slice af l.length cf, .slice at' l.length ct, s3, s4, s5, s6, s7, s8, s9, s10, .pointer (some ⟨XP, 0, none⟩), s12, .pointer (some ⟨BI, 0, none⟩), s14, s15, s16, s17, t18, s19, s20, s21, s22, s23, s24, s25, s26, s27, s28, s29, s30, s31, s32, s33, s34, s35, s36, s37, s38, s39, s40, s41, s42, s43, s44, s45, s46, s47, s48, s49, s50, s51, s52, s53, s54, s55, s56, t57, t58, t59, t60, t61, t62, t63, t64, t65, t66, t67, t68, t69, s70, s71, s72, s73, s74, s75, s76, s77, s78, s79, s80], defers := [] }

set_option maxRecDepth 100000 in
set_option maxHeartbeats 4000000 in
theorem ch16t {Q : Exit → Act → World → Prop} {w0 wr : World} {l : List Clk} {ms : List Lmt} {f t : List Int} {al am af at' : Option Addr} {cl cm cf ct BK XP BI BM : Nat} {y : Bool}  {s0 s3 s4 s5 s6 s7 s8 s9 s10 s12 s14 s15 s16 s17 s18 s19 s20 s21 s22 s23 s24 s25 s26 s27 s28 s29 s30 s31 s32 s33 s34 s35 s36 s37 s38 s39 s40 s41 s42 s43 s44 s45 s46 s47 s48 s49 s50 s51 s52 s53 s54 s55 s56 s57 s58 s59 s60 s61 s62 s63 s64 s65 s66 s67 s68 s69 s70 s71 s72 s73 s74 s75 s76 s77 s78 s79 s80 : Value} {cs : List (List Int)} (hp : PB l ms al am cl cm BK XP w0 wr wr) (BX : Row wr BI 125 [.map (some BM)]) (MP : MapB wr BM (entV l cs)) (he : Env w0 l ms al am) (ho : SetsOk l cs) (hf : SetOk l f) (ht : SetOk l t) (sf : SlOf 1 RI w0 af f) (st : SlOf 1 RI w0 at' t) (hx : decide (f ∈ cs) = true) (hy : decide (t ∈ cs) = y)
    (h' : ∀ t57 t58 t59 t60 t61 t62 t63 t64 t65 t66 t67 t68 t69 BW wx, Gr wr wx → wr.heap.size ≤ BW → Row wx BW 4 [.bool (!y)] → Q .normal (ch16tA l af at' cf ct XP BI (.pointer (some ⟨BW, 0, none⟩)) t57 t58 t59 t60 t61 t62 t63 t64 t65 t66 t67 t68 t69 s0 s3 s4 s5 s6 s7 s8 s9 s10 s12 s14 s15 s16 s17 s19 s20 s21 s22 s23 s24 s25 s26 s27 s28 s29 s30 s31 s32 s33 s34 s35 s36 s37 s38 s39 s40 s41 s42 s43 s44 s45 s46 s47 s48 s49 s50 s51 s52 s53 s54 s55 s56 s70 s71 s72 s73 s74 s75 s76 s77 s78 s79 s80) wx) :
    (Code.region 16 (regIn 16 Tryz.f32) true).wp Tryz.prog Q { tmps := #[s0, .slice af l.length cf, .slice at' l.length ct, s3, s4, s5, s6, s7, s8, s9, s10, .pointer (some ⟨XP, 0, none⟩), s12, .pointer (some ⟨BI, 0, none⟩), s14, s15, s16, s17, s18, s19, s20, s21, s22, s23, s24, s25, s26, s27, s28, s29, s30, s31, s32, s33, s34, s35, s36, s37, s38, s39, s40, s41, s42, s43, s44, s45, s46, s47, s48, s49, s50, s51, s52, s53, s54, s55, s56, s57, s58, s59, s60, s61, s62, s63, s64, s65, s66, s67, s68, s69, s70, s71, s72, s73, s74, s75, s76, s77, s78, s79, s80], defers := [] } wr := by
  have HE := PLift.up he
  have HO := PLift.up ho
  have HF := PLift.up hf
  have HT := PLift.up ht
  have SF := PLift.up sf
  have ST := PLift.up st
  have HX := PLift.up hx
  have HY := PLift.up hy
  clear he ho hf ht sf st hx hy
  simp only [regIn, Tryz.f32, regOps, Option.bind_some, Option.getD_some, Nat.beq, cond_true, cond_false]
  refine wp_region_steps (fun done a w => ∃ t18 t57 t58 t59 t60 t61 t62 t63 t64 t65 t66 t67 t68 t69, a = ch16tA l af at' cf ct XP BI t18 t57 t58 t59 t60 t61 t62 t63 t64 t65 t66 t67 t68 t69 s0 s3 s4 s5 s6 s7 s8 s9 s10 s12 s14 s15 s16 s17 s19 s20 s21 s22 s23 s24 s25 s26 s27 s28 s29 s30 s31 s32 s33 s34 s35 s36 s37 s38 s39 s40 s41 s42 s43 s44 s45 s46 s47 s48 s49 s50 s51 s52 s53 s54 s55 s56 s70 s71 s72 s73 s74 s75 s76 s77 s78 s79 s80 ∧ ch16tF w0 wr l ms f t al am af at' cl cm cf ct BK XP BI BM y t18 t57 t58 t59 t60 t61 t62 t63 t64 t65 t66 t67 t68 t69 done w) (by kernel_rfl) (by kernel_rfl) ?_ ⟨?_, ?_, ?_, ?_, ?_, ?_, ?_, ?_, ?_, ?_, ?_, ?_, ?_, ?_, ?_, trivial⟩ ?_
  · exact ⟨s18, s57, s58, s59, s60, s61, s62, s63, s64, s65, s66, s67, s68, s69, rfl, (Gr.refl _).drew, fun q => absurd q (by decide), fun q => absurd q (by decide), fun q => absurd q (by decide), fun q => absurd q (by decide), fun q => absurd q (by decide), fun q => absurd q (by decide), fun q => absurd q (by decide), fun q => absurd q (by decide), fun q => absurd q (by decide), fun q => absurd q (by decide), fun q => absurd q (by decide), fun q => absurd q (by decide), fun q => absurd q (by decide), fun q => absurd q (by decide), fun q => absurd q (by decide)⟩
  · rintro done a w hsz hnot hdep ⟨t18, t57, t58, t59, t60, t61, t62, t63, t64, t65, t66, t67, t68, t69, rfl, gw, f0, f1, f2, f3, f4, f5, f6, f7, f8, f9, f10, f11, f12, f13, f14⟩ K hK
    have hn : ¬ done.getD 0 false = true := by rw [getD_both hnot]; decide
    have r := BX.gr gw
    have c0 := r.cell 0 (by simp)
    have ch := r.has
    simp only [List.getElem_cons_zero] at c0
    clear r
    have HK := PLift.up hK
    clear hK 
    simp only [ch16tA]
    go_simp
    have gg : Gr w w := Gr.refl _
    refine HK.down _ _ ⟨_, _, _, _, _, _, _, _, _, _, _, _, _, _, rfl, gw, fun _ => rfl, fun q => f1 (done_old q (by decide)), fun q => f2 (done_old q (by decide)), fun q => f3 (done_old q (by decide)), fun q => f4 (done_old q (by decide)), fun q => f5 (done_old q (by decide)), fun q => f6 (done_old q (by decide)), fun q => f7 (done_old q (by decide)), fun q => f8 (done_old q (by decide)), fun q => f9 (done_old q (by decide)), fun q => f10 (done_old q (by decide)), fun q => f11 (done_old q (by decide)), fun q => f12 (done_old q (by decide)), fun q => (let ⟨BW, e, h1, h2⟩ := f13 (done_old q (by decide)); ⟨BW, e, h1, fun q2 => (h2 (by rw [getD_set_ne false (by decide)] at q2; exact q2)).gr gg⟩), fun q => (let ⟨a1, BW, e, h1, h2⟩ := f14 (done_old q (by decide)); ⟨getD_set_true a1, BW, e, h1, h2.gr gg⟩)⟩
  · rintro done a w hsz hnot hdep ⟨t18, t57, t58, t59, t60, t61, t62, t63, t64, t65, t66, t67, t68, t69, rfl, gw, f0, f1, f2, f3, f4, f5, f6, f7, f8, f9, f10, f11, f12, f13, f14⟩ K hK
    have hn : ¬ done.getD 1 false = true := by rw [getD_both hnot]; decide
    have r := hp.box.gr gw
    have c0 := r.cell 0 (by simp)
    have c1 := r.cell 1 (by simp)
    have c2 := r.cell 2 (by simp)
    have ch := r.has
    simp only [List.getElem_cons_zero, List.getElem_cons_succ] at c0 c1 c2
    clear r
    have HK := PLift.up hK
    clear hK 
    simp only [ch16tA]
    go_simp
    have gg : Gr w w := Gr.refl _
    refine HK.down _ _ ⟨_, _, _, _, _, _, _, _, _, _, _, _, _, _, rfl, gw, fun q => f0 (done_old q (by decide)), fun _ => rfl, fun q => f2 (done_old q (by decide)), fun q => f3 (done_old q (by decide)), fun q => f4 (done_old q (by decide)), fun q => f5 (done_old q (by decide)), fun q => f6 (done_old q (by decide)), fun q => f7 (done_old q (by decide)), fun q => f8 (done_old q (by decide)), fun q => f9 (done_old q (by decide)), fun q => f10 (done_old q (by decide)), fun q => f11 (done_old q (by decide)), fun q => f12 (done_old q (by decide)), fun q => (let ⟨BW, e, h1, h2⟩ := f13 (done_old q (by decide)); ⟨BW, e, h1, fun q2 => (h2 (by rw [getD_set_ne false (by decide)] at q2; exact q2)).gr gg⟩), fun q => (let ⟨a1, BW, e, h1, h2⟩ := f14 (done_old q (by decide)); ⟨getD_set_true a1, BW, e, h1, h2.gr gg⟩)⟩
  · rintro done a w hsz hnot hdep ⟨t18, t57, t58, t59, t60, t61, t62, t63, t64, t65, t66, t67, t68, t69, rfl, gw, f0, f1, f2, f3, f4, f5, f6, f7, f8, f9, f10, f11, f12, f13, f14⟩ K hK
    have hn : ¬ done.getD 2 false = true := by rw [getD_both hnot]; decide
    have HK := PLift.up hK
    clear hK 
    simp only [ch16tA]
    go_simp
    have gg : Gr w w := Gr.refl _
    refine HK.down _ _ ⟨_, _, _, _, _, _, _, _, _, _, _, _, _, _, rfl, gw, fun q => f0 (done_old q (by decide)), fun q => f1 (done_old q (by decide)), fun _ => rfl, fun q => f3 (done_old q (by decide)), fun q => f4 (done_old q (by decide)), fun q => f5 (done_old q (by decide)), fun q => f6 (done_old q (by decide)), fun q => f7 (done_old q (by decide)), fun q => f8 (done_old q (by decide)), fun q => f9 (done_old q (by decide)), fun q => f10 (done_old q (by decide)), fun q => f11 (done_old q (by decide)), fun q => f12 (done_old q (by decide)), fun q => (let ⟨BW, e, h1, h2⟩ := f13 (done_old q (by decide)); ⟨BW, e, h1, fun q2 => (h2 (by rw [getD_set_ne false (by decide)] at q2; exact q2)).gr gg⟩), fun q => (let ⟨a1, BW, e, h1, h2⟩ := f14 (done_old q (by decide)); ⟨getD_set_true a1, BW, e, h1, h2.gr gg⟩)⟩
  · rintro done a w hsz hnot hdep ⟨t18, t57, t58, t59, t60, t61, t62, t63, t64, t65, t66, t67, t68, t69, rfl, gw, f0, f1, f2, f3, f4, f5, f6, f7, f8, f9, f10, f11, f12, f13, f14⟩ K hK
    have hn : ¬ done.getD 3 false = true := by rw [getD_both hnot]; decide
    have d1 := hdep 1 (by kernel_rfl)
    have d2 := hdep 2 (by kernel_rfl)
    obtain rfl := f1 d1
    obtain rfl := f2 d2
    have HK := PLift.up hK
    clear hK d1 d2
    simp only [ch16tA]
    go_simp
    have NM := number_any l f al af am cl cf ms.length cm (.map (some BK)) w (clks_gr HE.down.clks (hp.gr.trans gw)) (SF.down.giI (hp.gr.trans gw)) HE.down.chk HF.down
    rw [HF.down.1] at NM
    refine NM.mono ?_
    rintro e w2 ⟨rfl, hg⟩
    have gg : Gr w w2 := hg
    clear hg
    (try go_simp)
    refine HK.down _ _ ⟨_, _, _, _, _, _, _, _, _, _, _, _, _, _, rfl, gw.trans gg, fun q => f0 (done_old q (by decide)), fun q => f1 (done_old q (by decide)), fun q => f2 (done_old q (by decide)), fun _ => rfl, fun q => f4 (done_old q (by decide)), fun q => f5 (done_old q (by decide)), fun q => f6 (done_old q (by decide)), fun q => f7 (done_old q (by decide)), fun q => f8 (done_old q (by decide)), fun q => f9 (done_old q (by decide)), fun q => f10 (done_old q (by decide)), fun q => f11 (done_old q (by decide)), fun q => f12 (done_old q (by decide)), fun q => (let ⟨BW, e, h1, h2⟩ := f13 (done_old q (by decide)); ⟨BW, e, h1, fun q2 => (h2 (by rw [getD_set_ne false (by decide)] at q2; exact q2)).gr gg⟩), fun q => (let ⟨a1, BW, e, h1, h2⟩ := f14 (done_old q (by decide)); ⟨getD_set_true a1, BW, e, h1, h2.gr gg⟩)⟩
  · rintro done a w hsz hnot hdep ⟨t18, t57, t58, t59, t60, t61, t62, t63, t64, t65, t66, t67, t68, t69, rfl, gw, f0, f1, f2, f3, f4, f5, f6, f7, f8, f9, f10, f11, f12, f13, f14⟩ K hK
    have hn : ¬ done.getD 4 false = true := by rw [getD_both hnot]; decide
    have d0 := hdep 0 (by kernel_rfl)
    have d3 := hdep 3 (by kernel_rfl)
    obtain rfl := f0 d0
    obtain rfl := f3 d3
    have LK : (Instr.lookup 125 (.map (some BM)) (.int .i64 (num l f)) false).run Tryz.prog w = .ok (.bool true) w := by
      have := run_look_b (MP.gr gw) (wide_num HE.down.chk HF.down)
      rw [this, look_ent HO.down HF.down]
      have hx := HX.down
      split <;> rename_i hm <;> simp [hm] at hx <;> simp [hx]
    have HK := PLift.up hK
    clear hK d0 d3
    simp only [ch16tA]
    go_simp
    have gg : Gr w w := Gr.refl _
    refine HK.down _ _ ⟨_, _, _, _, _, _, _, _, _, _, _, _, _, _, rfl, gw, fun q => f0 (done_old q (by decide)), fun q => f1 (done_old q (by decide)), fun q => f2 (done_old q (by decide)), fun q => f3 (done_old q (by decide)), fun _ => rfl, fun q => f5 (done_old q (by decide)), fun q => f6 (done_old q (by decide)), fun q => f7 (done_old q (by decide)), fun q => f8 (done_old q (by decide)), fun q => f9 (done_old q (by decide)), fun q => f10 (done_old q (by decide)), fun q => f11 (done_old q (by decide)), fun q => f12 (done_old q (by decide)), fun q => (let ⟨BW, e, h1, h2⟩ := f13 (done_old q (by decide)); ⟨BW, e, h1, fun q2 => (h2 (by rw [getD_set_ne false (by decide)] at q2; exact q2)).gr gg⟩), fun q => (let ⟨a1, BW, e, h1, h2⟩ := f14 (done_old q (by decide)); ⟨getD_set_true a1, BW, e, h1, h2.gr gg⟩)⟩
  · rintro done a w hsz hnot hdep ⟨t18, t57, t58, t59, t60, t61, t62, t63, t64, t65, t66, t67, t68, t69, rfl, gw, f0, f1, f2, f3, f4, f5, f6, f7, f8, f9, f10, f11, f12, f13, f14⟩ K hK
    have hn : ¬ done.getD 5 false = true := by rw [getD_both hnot]; decide
    have d4 := hdep 4 (by kernel_rfl)
    obtain rfl := f4 d4
    have HK := PLift.up hK
    clear hK d4
    simp only [ch16tA]
    go_simp
    have gg : Gr w w := Gr.refl _
    refine HK.down _ _ ⟨_, _, _, _, _, _, _, _, _, _, _, _, _, _, rfl, gw, fun q => f0 (done_old q (by decide)), fun q => f1 (done_old q (by decide)), fun q => f2 (done_old q (by decide)), fun q => f3 (done_old q (by decide)), fun q => f4 (done_old q (by decide)), fun _ => rfl, fun q => f6 (done_old q (by decide)), fun q => f7 (done_old q (by decide)), fun q => f8 (done_old q (by decide)), fun q => f9 (done_old q (by decide)), fun q => f10 (done_old q (by decide)), fun q => f11 (done_old q (by decide)), fun q => f12 (done_old q (by decide)), fun q => (let ⟨BW, e, h1, h2⟩ := f13 (done_old q (by decide)); ⟨BW, e, h1, fun q2 => (h2 (by rw [getD_set_ne false (by decide)] at q2; exact q2)).gr gg⟩), fun q => (let ⟨a1, BW, e, h1, h2⟩ := f14 (done_old q (by decide)); ⟨getD_set_true a1, BW, e, h1, h2.gr gg⟩)⟩
  · rintro done a w hsz hnot hdep ⟨t18, t57, t58, t59, t60, t61, t62, t63, t64, t65, t66, t67, t68, t69, rfl, gw, f0, f1, f2, f3, f4, f5, f6, f7, f8, f9, f10, f11, f12, f13, f14⟩ K hK
    have hn : ¬ done.getD 6 false = true := by rw [getD_both hnot]; decide
    have d5 := hdep 5 (by kernel_rfl)
    obtain rfl := f5 d5
    have r := BX.gr gw
    have c0 := r.cell 0 (by simp)
    have ch := r.has
    simp only [List.getElem_cons_zero] at c0
    clear r
    have HK := PLift.up hK
    clear hK d5
    simp only [ch16tA]
    go_simp
    have gg : Gr w w := Gr.refl _
    refine HK.down _ _ ⟨_, _, _, _, _, _, _, _, _, _, _, _, _, _, rfl, gw, fun q => f0 (done_old q (by decide)), fun q => f1 (done_old q (by decide)), fun q => f2 (done_old q (by decide)), fun q => f3 (done_old q (by decide)), fun q => f4 (done_old q (by decide)), fun q => f5 (done_old q (by decide)), fun _ => rfl, fun q => f7 (done_old q (by decide)), fun q => f8 (done_old q (by decide)), fun q => f9 (done_old q (by decide)), fun q => f10 (done_old q (by decide)), fun q => f11 (done_old q (by decide)), fun q => f12 (done_old q (by decide)), fun q => (let ⟨BW, e, h1, h2⟩ := f13 (done_old q (by decide)); ⟨BW, e, h1, fun q2 => (h2 (by rw [getD_set_ne false (by decide)] at q2; exact q2)).gr gg⟩), fun q => (let ⟨a1, BW, e, h1, h2⟩ := f14 (done_old q (by decide)); ⟨getD_set_true a1, BW, e, h1, h2.gr gg⟩)⟩
  · rintro done a w hsz hnot hdep ⟨t18, t57, t58, t59, t60, t61, t62, t63, t64, t65, t66, t67, t68, t69, rfl, gw, f0, f1, f2, f3, f4, f5, f6, f7, f8, f9, f10, f11, f12, f13, f14⟩ K hK
    have hn : ¬ done.getD 7 false = true := by rw [getD_both hnot]; decide
    have d5 := hdep 5 (by kernel_rfl)
    obtain rfl := f5 d5
    have r := hp.box.gr gw
    have c0 := r.cell 0 (by simp)
    have c1 := r.cell 1 (by simp)
    have c2 := r.cell 2 (by simp)
    have ch := r.has
    simp only [List.getElem_cons_zero, List.getElem_cons_succ] at c0 c1 c2
    clear r
    have HK := PLift.up hK
    clear hK d5
    simp only [ch16tA]
    go_simp
    have gg : Gr w w := Gr.refl _
    refine HK.down _ _ ⟨_, _, _, _, _, _, _, _, _, _, _, _, _, _, rfl, gw, fun q => f0 (done_old q (by decide)), fun q => f1 (done_old q (by decide)), fun q => f2 (done_old q (by decide)), fun q => f3 (done_old q (by decide)), fun q => f4 (done_old q (by decide)), fun q => f5 (done_old q (by decide)), fun q => f6 (done_old q (by decide)), fun _ => rfl, fun q => f8 (done_old q (by decide)), fun q => f9 (done_old q (by decide)), fun q => f10 (done_old q (by decide)), fun q => f11 (done_old q (by decide)), fun q => f12 (done_old q (by decide)), fun q => (let ⟨BW, e, h1, h2⟩ := f13 (done_old q (by decide)); ⟨BW, e, h1, fun q2 => (h2 (by rw [getD_set_ne false (by decide)] at q2; exact q2)).gr gg⟩), fun q => (let ⟨a1, BW, e, h1, h2⟩ := f14 (done_old q (by decide)); ⟨getD_set_true a1, BW, e, h1, h2.gr gg⟩)⟩
  · rintro done a w hsz hnot hdep ⟨t18, t57, t58, t59, t60, t61, t62, t63, t64, t65, t66, t67, t68, t69, rfl, gw, f0, f1, f2, f3, f4, f5, f6, f7, f8, f9, f10, f11, f12, f13, f14⟩ K hK
    have hn : ¬ done.getD 8 false = true := by rw [getD_both hnot]; decide
    have d5 := hdep 5 (by kernel_rfl)
    obtain rfl := f5 d5
    have HK := PLift.up hK
    clear hK d5
    simp only [ch16tA]
    go_simp
    have gg : Gr w w := Gr.refl _
    refine HK.down _ _ ⟨_, _, _, _, _, _, _, _, _, _, _, _, _, _, rfl, gw, fun q => f0 (done_old q (by decide)), fun q => f1 (done_old q (by decide)), fun q => f2 (done_old q (by decide)), fun q => f3 (done_old q (by decide)), fun q => f4 (done_old q (by decide)), fun q => f5 (done_old q (by decide)), fun q => f6 (done_old q (by decide)), fun q => f7 (done_old q (by decide)), fun _ => rfl, fun q => f9 (done_old q (by decide)), fun q => f10 (done_old q (by decide)), fun q => f11 (done_old q (by decide)), fun q => f12 (done_old q (by decide)), fun q => (let ⟨BW, e, h1, h2⟩ := f13 (done_old q (by decide)); ⟨BW, e, h1, fun q2 => (h2 (by rw [getD_set_ne false (by decide)] at q2; exact q2)).gr gg⟩), fun q => (let ⟨a1, BW, e, h1, h2⟩ := f14 (done_old q (by decide)); ⟨getD_set_true a1, BW, e, h1, h2.gr gg⟩)⟩
  · rintro done a w hsz hnot hdep ⟨t18, t57, t58, t59, t60, t61, t62, t63, t64, t65, t66, t67, t68, t69, rfl, gw, f0, f1, f2, f3, f4, f5, f6, f7, f8, f9, f10, f11, f12, f13, f14⟩ K hK
    have hn : ¬ done.getD 9 false = true := by rw [getD_both hnot]; decide
    have d5 := hdep 5 (by kernel_rfl)
    have d7 := hdep 7 (by kernel_rfl)
    have d8 := hdep 8 (by kernel_rfl)
    obtain rfl := f5 d5
    obtain rfl := f7 d7
    obtain rfl := f8 d8
    have HK := PLift.up hK
    clear hK d5 d7 d8
    simp only [ch16tA]
    go_simp
    have NM := number_any l t al at' am cl ct ms.length cm (.map (some BK)) w (clks_gr HE.down.clks (hp.gr.trans gw)) (ST.down.giI (hp.gr.trans gw)) HE.down.chk HT.down
    rw [HT.down.1] at NM
    refine NM.mono ?_
    rintro e w2 ⟨rfl, hg⟩
    have gg : Gr w w2 := hg
    clear hg
    (try go_simp)
    refine HK.down _ _ ⟨_, _, _, _, _, _, _, _, _, _, _, _, _, _, rfl, gw.trans gg, fun q => f0 (done_old q (by decide)), fun q => f1 (done_old q (by decide)), fun q => f2 (done_old q (by decide)), fun q => f3 (done_old q (by decide)), fun q => f4 (done_old q (by decide)), fun q => f5 (done_old q (by decide)), fun q => f6 (done_old q (by decide)), fun q => f7 (done_old q (by decide)), fun q => f8 (done_old q (by decide)), fun _ => rfl, fun q => f10 (done_old q (by decide)), fun q => f11 (done_old q (by decide)), fun q => f12 (done_old q (by decide)), fun q => (let ⟨BW, e, h1, h2⟩ := f13 (done_old q (by decide)); ⟨BW, e, h1, fun q2 => (h2 (by rw [getD_set_ne false (by decide)] at q2; exact q2)).gr gg⟩), fun q => (let ⟨a1, BW, e, h1, h2⟩ := f14 (done_old q (by decide)); ⟨getD_set_true a1, BW, e, h1, h2.gr gg⟩)⟩
  · rintro done a w hsz hnot hdep ⟨t18, t57, t58, t59, t60, t61, t62, t63, t64, t65, t66, t67, t68, t69, rfl, gw, f0, f1, f2, f3, f4, f5, f6, f7, f8, f9, f10, f11, f12, f13, f14⟩ K hK
    have hn : ¬ done.getD 10 false = true := by rw [getD_both hnot]; decide
    have d5 := hdep 5 (by kernel_rfl)
    have d6 := hdep 6 (by kernel_rfl)
    have d9 := hdep 9 (by kernel_rfl)
    obtain rfl := f5 d5
    obtain rfl := f6 d6
    obtain rfl := f9 d9
    have LK : (Instr.lookup 125 (.map (some BM)) (.int .i64 (num l t)) false).run Tryz.prog w = .ok (.bool y) w := by
      have := run_look_b (MP.gr gw) (wide_num HE.down.chk HT.down)
      rw [this, look_ent HO.down HT.down]
      have hx := HY.down
      split <;> rename_i hm <;> simp [hm] at hx <;> simp [hx]
    have HK := PLift.up hK
    clear hK d5 d6 d9
    simp only [ch16tA]
    go_simp
    have gg : Gr w w := Gr.refl _
    refine HK.down _ _ ⟨_, _, _, _, _, _, _, _, _, _, _, _, _, _, rfl, gw, fun q => f0 (done_old q (by decide)), fun q => f1 (done_old q (by decide)), fun q => f2 (done_old q (by decide)), fun q => f3 (done_old q (by decide)), fun q => f4 (done_old q (by decide)), fun q => f5 (done_old q (by decide)), fun q => f6 (done_old q (by decide)), fun q => f7 (done_old q (by decide)), fun q => f8 (done_old q (by decide)), fun q => f9 (done_old q (by decide)), fun _ => rfl, fun q => f11 (done_old q (by decide)), fun q => f12 (done_old q (by decide)), fun q => (let ⟨BW, e, h1, h2⟩ := f13 (done_old q (by decide)); ⟨BW, e, h1, fun q2 => (h2 (by rw [getD_set_ne false (by decide)] at q2; exact q2)).gr gg⟩), fun q => (let ⟨a1, BW, e, h1, h2⟩ := f14 (done_old q (by decide)); ⟨getD_set_true a1, BW, e, h1, h2.gr gg⟩)⟩
  · rintro done a w hsz hnot hdep ⟨t18, t57, t58, t59, t60, t61, t62, t63, t64, t65, t66, t67, t68, t69, rfl, gw, f0, f1, f2, f3, f4, f5, f6, f7, f8, f9, f10, f11, f12, f13, f14⟩ K hK
    have hn : ¬ done.getD 11 false = true := by rw [getD_both hnot]; decide
    have d5 := hdep 5 (by kernel_rfl)
    have d10 := hdep 10 (by kernel_rfl)
    obtain rfl := f5 d5
    obtain rfl := f10 d10
    have HK := PLift.up hK
    clear hK d5 d10
    simp only [ch16tA]
    go_simp
    have gg : Gr w w := Gr.refl _
    refine HK.down _ _ ⟨_, _, _, _, _, _, _, _, _, _, _, _, _, _, rfl, gw, fun q => f0 (done_old q (by decide)), fun q => f1 (done_old q (by decide)), fun q => f2 (done_old q (by decide)), fun q => f3 (done_old q (by decide)), fun q => f4 (done_old q (by decide)), fun q => f5 (done_old q (by decide)), fun q => f6 (done_old q (by decide)), fun q => f7 (done_old q (by decide)), fun q => f8 (done_old q (by decide)), fun q => f9 (done_old q (by decide)), fun q => f10 (done_old q (by decide)), fun _ => rfl, fun q => f12 (done_old q (by decide)), fun q => (let ⟨BW, e, h1, h2⟩ := f13 (done_old q (by decide)); ⟨BW, e, h1, fun q2 => (h2 (by rw [getD_set_ne false (by decide)] at q2; exact q2)).gr gg⟩), fun q => (let ⟨a1, BW, e, h1, h2⟩ := f14 (done_old q (by decide)); ⟨getD_set_true a1, BW, e, h1, h2.gr gg⟩)⟩
  · rintro done a w hsz hnot hdep ⟨t18, t57, t58, t59, t60, t61, t62, t63, t64, t65, t66, t67, t68, t69, rfl, gw, f0, f1, f2, f3, f4, f5, f6, f7, f8, f9, f10, f11, f12, f13, f14⟩ K hK
    have hn : ¬ done.getD 12 false = true := by rw [getD_both hnot]; decide
    have d5 := hdep 5 (by kernel_rfl)
    have d11 := hdep 11 (by kernel_rfl)
    obtain rfl := f5 d5
    obtain rfl := f11 d11
    have HK := PLift.up hK
    clear hK d5 d11
    simp only [ch16tA]
    go_simp
    have gg : Gr w w := Gr.refl _
    refine HK.down _ _ ⟨_, _, _, _, _, _, _, _, _, _, _, _, _, _, rfl, gw, fun q => f0 (done_old q (by decide)), fun q => f1 (done_old q (by decide)), fun q => f2 (done_old q (by decide)), fun q => f3 (done_old q (by decide)), fun q => f4 (done_old q (by decide)), fun q => f5 (done_old q (by decide)), fun q => f6 (done_old q (by decide)), fun q => f7 (done_old q (by decide)), fun q => f8 (done_old q (by decide)), fun q => f9 (done_old q (by decide)), fun q => f10 (done_old q (by decide)), fun q => f11 (done_old q (by decide)), fun _ => rfl, fun q => (let ⟨BW, e, h1, h2⟩ := f13 (done_old q (by decide)); ⟨BW, e, h1, fun q2 => (h2 (by rw [getD_set_ne false (by decide)] at q2; exact q2)).gr gg⟩), fun q => (let ⟨a1, BW, e, h1, h2⟩ := f14 (done_old q (by decide)); ⟨getD_set_true a1, BW, e, h1, h2.gr gg⟩)⟩
  · rintro done a w hsz hnot hdep ⟨t18, t57, t58, t59, t60, t61, t62, t63, t64, t65, t66, t67, t68, t69, rfl, gw, f0, f1, f2, f3, f4, f5, f6, f7, f8, f9, f10, f11, f12, f13, f14⟩ K hK
    have hn : ¬ done.getD 13 false = true := by rw [getD_both hnot]; decide
    have HK := PLift.up hK
    clear hK 
    simp only [ch16tA]
    go_simp
    have gg : Gr w (w.alloc (.cells #[.bool false] 4)) := (Gr.refl _).alloc _
    refine HK.down _ _ ⟨_, _, _, _, _, _, _, _, _, _, _, _, _, _, rfl, gw.trans gg, fun q => f0 (done_old q (by decide)), fun q => f1 (done_old q (by decide)), fun q => f2 (done_old q (by decide)), fun q => f3 (done_old q (by decide)), fun q => f4 (done_old q (by decide)), fun q => f5 (done_old q (by decide)), fun q => f6 (done_old q (by decide)), fun q => f7 (done_old q (by decide)), fun q => f8 (done_old q (by decide)), fun q => f9 (done_old q (by decide)), fun q => f10 (done_old q (by decide)), fun q => f11 (done_old q (by decide)), fun q => f12 (done_old q (by decide)), ?_, fun q => absurd (f14 (done_old q (by decide))).1 hn⟩
    exact fun _ => ⟨_, rfl, gw.size, fun _ => Row.new w _ _⟩
  · rintro done a w hsz hnot hdep ⟨t18, t57, t58, t59, t60, t61, t62, t63, t64, t65, t66, t67, t68, t69, rfl, gw, f0, f1, f2, f3, f4, f5, f6, f7, f8, f9, f10, f11, f12, f13, f14⟩ K hK
    have hn : ¬ done.getD 14 false = true := by rw [getD_both hnot]; decide
    have d12 := hdep 12 (by kernel_rfl)
    have d13 := hdep 13 (by kernel_rfl)
    obtain rfl := f12 d12
    have n14 := getD_both hnot
    obtain ⟨BW, rfl, h2, h3⟩ := f13 d13
    have r := h3 n14
    have c0 := r.cell 0 (by simp)
    have cf := r.free 0
    have ch := r.has
    simp only [List.getElem_cons_zero] at c0
    have RR := PLift.up r
    have H2 := PLift.up h2
    clear r h3 h2
    have HK := PLift.up hK
    clear hK d12
    simp only [ch16tA]
    go_simp
    refine HK.down _ _ ⟨_, _, _, _, _, _, _, _, _, _, _, _, _, _, rfl, gw.setc H2.down, fun q => f0 (done_old q (by decide)), fun q => f1 (done_old q (by decide)), fun q => f2 (done_old q (by decide)), fun q => f3 (done_old q (by decide)), fun q => f4 (done_old q (by decide)), fun q => f5 (done_old q (by decide)), fun q => f6 (done_old q (by decide)), fun q => f7 (done_old q (by decide)), fun q => f8 (done_old q (by decide)), fun q => f9 (done_old q (by decide)), fun q => f10 (done_old q (by decide)), fun q => f11 (done_old q (by decide)), fun q => f12 (done_old q (by decide)), fun _ => ⟨BW, rfl, H2.down, fun q => absurd q (by rw [getD_set_same (by rw [hsz]; decide)]; decide)⟩, ?_⟩
    exact fun _ => ⟨getD_set_true d13, BW, rfl, H2.down, RR.down.set 0 _⟩
  · rintro done a w hall ⟨t18, t57, t58, t59, t60, t61, t62, t63, t64, t65, t66, t67, t68, t69, rfl, gw, f0, f1, f2, f3, f4, f5, f6, f7, f8, f9, f10, f11, f12, f13, f14⟩
    obtain ⟨_, BW, rfl, h1, h2⟩ := f14 (hall 14 (by decide))
    exact h' _ _ _ _ _ _ _ _ _ _ _ _ _ BW w gw h1 h2

/-- What is known of each slot as soon as its operation is done. -/
def ch16fF (w0 wr : World) (l : List Clk) (ms : List Lmt) (f t : List Int) (al am af at' : Option Addr) (cl cm cf ct BK XP BI BM : Nat) (y : Bool) (t18 t57 t58 t59 t60 t61 t62 t63 t64 t65 t66 t67 t68 t69 : Value) (d : Array Bool) (w : World) : Prop :=
  Gr wr w ∧ (d.getD 0 false = true → t57 = .map (some BM)) ∧
  (d.getD 1 false = true → t58 = .agg #[.slice al l.length cl, .slice am ms.length cm, .map (some BK)]) ∧
  (d.getD 2 false = true → t59 = .slice af l.length cf) ∧
  (d.getD 3 false = true → t60 = .int .i64 (num l f)) ∧
  (d.getD 4 false = true → t61 = .bool false) ∧
  (d.getD 5 false = true → t62 = .bool false) ∧
  (d.getD 6 false = true → True) ∧
  (d.getD 7 false = true → True) ∧
  (d.getD 8 false = true → True) ∧
  (d.getD 9 false = true → True) ∧
  (d.getD 10 false = true → True) ∧
  (d.getD 11 false = true → True) ∧
  (d.getD 12 false = true → t69 = .bool false) ∧
  (d.getD 13 false = true → (∃ BW, t18 = .pointer (some ⟨BW, 0, none⟩) ∧ wr.heap.size ≤ BW ∧ (d.getD 14 false = false → Row w BW 4 [.bool false]))) ∧
  (d.getD 14 false = true → (d.getD 13 false = true ∧ ∃ BW, t18 = .pointer (some ⟨BW, 0, none⟩) ∧ wr.heap.size ≤ BW ∧ Row w BW 4 [.bool (false)]))
/-- The frame. -/
def ch16fA (l : List Clk) (af at' : Option Addr) (cf ct XP BI : Nat) (t18 t57 t58 t59 t60 t61 t62 t63 t64 t65 t66 t67 t68 t69 s0 s3 s4 s5 s6 s7 s8 s9 s10 s12 s14 s15 s16 s17 s19 s20 s21 s22 s23 s24 s25 s26 s27 s28 s29 s30 s31 s32 s33 s34 s35 s36 s37 s38 s39 s40 s41 s42 s43 s44 s45 s46 s47 s48 s49 s50 s51 s52 s53 s54 s55 s56 s70 s71 s72 s73 s74 s75 s76 s77 s78 s79 s80 : Value) : Act := { tmps := #[s0, .slice af l.length cf, .slice at' l.length ct, s3, s4, s5, s6, s7, s8, s9, s10, .pointer (some ⟨XP, 0, none⟩), s12, .pointer (some ⟨BI, 0, none⟩), s14, s15, s16, s17, t18, s19, s20, s21, s22, s23, s24, s25, s26, s27, s28, s29, s30, s31, s32, s33, s34, s35, s36, s37, s38, s39, s40, s41, s42, s43, s44, s45, s46, s47, s48, s49, s50, s51, s52, s53, s54, s55, s56, t57, t58, t59, t60, t61, t62, t63, t64, t65, t66, t67, t68, t69, s70, s71, s72, s73, s74, s75, s76, s77, s78, s79, s80], defers := [] }

set_option maxRecDepth 100000 in
set_option maxHeartbeats 4000000 in
theorem ch16f {Q : Exit → Act → World → Prop} {w0 wr : World} {l : List Clk} {ms : List Lmt} {f t : List Int} {al am af at' : Option Addr} {cl cm cf ct BK XP BI BM : Nat} {y : Bool}  {s0 s3 s4 s5 s6 s7 s8 s9 s10 s12 s14 s15 s16 s17 s18 s19 s20 s21 s22 s23 s24 s25 s26 s27 s28 s29 s30 s31 s32 s33 s34 s35 s36 s37 s38 s39 s40 s41 s42 s43 s44 s45 s46 s47 s48 s49 s50 s51 s52 s53 s54 s55 s56 s57 s58 s59 s60 s61 s62 s63 s64 s65 s66 s67 s68 s69 s70 s71 s72 s73 s74 s75 s76 s77 s78 s79 s80 : Value} {cs : List (List Int)} (hp : PB l ms al am cl cm BK XP w0 wr wr) (BX : Row wr BI 125 [.map (some BM)]) (MP : MapB wr BM (entV l cs)) (he : Env w0 l ms al am) (ho : SetsOk l cs) (hf : SetOk l f) (ht : SetOk l t) (sf : SlOf 1 RI w0 af f) (st : SlOf 1 RI w0 at' t) (hx : decide (f ∈ cs) = false) (hy : decide (t ∈ cs) = y)
    (h' : ∀ t57 t58 t59 t60 t61 t62 t63 t64 t65 t66 t67 t68 t69 BW wx, Gr wr wx → wr.heap.size ≤ BW → Row wx BW 4 [.bool (false)] → Q .normal (ch16fA l af at' cf ct XP BI (.pointer (some ⟨BW, 0, none⟩)) t57 t58 t59 t60 t61 t62 t63 t64 t65 t66 t67 t68 t69 s0 s3 s4 s5 s6 s7 s8 s9 s10 s12 s14 s15 s16 s17 s19 s20 s21 s22 s23 s24 s25 s26 s27 s28 s29 s30 s31 s32 s33 s34 s35 s36 s37 s38 s39 s40 s41 s42 s43 s44 s45 s46 s47 s48 s49 s50 s51 s52 s53 s54 s55 s56 s70 s71 s72 s73 s74 s75 s76 s77 s78 s79 s80) wx) :
    (Code.region 16 (regIn 16 Tryz.f32) true).wp Tryz.prog Q { tmps := #[s0, .slice af l.length cf, .slice at' l.length ct, s3, s4, s5, s6, s7, s8, s9, s10, .pointer (some ⟨XP, 0, none⟩), s12, .pointer (some ⟨BI, 0, none⟩), s14, s15, s16, s17, s18, s19, s20, s21, s22, s23, s24, s25, s26, s27, s28, s29, s30, s31, s32, s33, s34, s35, s36, s37, s38, s39, s40, s41, s42, s43, s44, s45, s46, s47, s48, s49, s50, s51, s52, s53, s54, s55, s56, s57, s58, s59, s60, s61, s62, s63, s64, s65, s66, s67, s68, s69, s70, s71, s72, s73, s74, s75, s76, s77, s78, s79, s80], defers := [] } wr := by
  have HE := PLift.up he
  have HO := PLift.up ho
  have HF := PLift.up hf
  have HT := PLift.up ht
  have SF := PLift.up sf
  have ST := PLift.up st
  have HX := PLift.up hx
  have HY := PLift.up hy
  clear he ho hf ht sf st hx hy
  simp only [regIn, Tryz.f32, regOps, Option.bind_some, Option.getD_some, Nat.beq, cond_true, cond_false]
  refine wp_region_steps (fun done a w => ∃ t18 t57 t58 t59 t60 t61 t62 t63 t64 t65 t66 t67 t68 t69, a = ch16fA l af at' cf ct XP BI t18 t57 t58 t59 t60 t61 t62 t63 t64 t65 t66 t67 t68 t69 s0 s3 s4 s5 s6 s7 s8 s9 s10 s12 s14 s15 s16 s17 s19 s20 s21 s22 s23 s24 s25 s26 s27 s28 s29 s30 s31 s32 s33 s34 s35 s36 s37 s38 s39 s40 s41 s42 s43 s44 s45 s46 s47 s48 s49 s50 s51 s52 s53 s54 s55 s56 s70 s71 s72 s73 s74 s75 s76 s77 s78 s79 s80 ∧ ch16fF w0 wr l ms f t al am af at' cl cm cf ct BK XP BI BM y t18 t57 t58 t59 t60 t61 t62 t63 t64 t65 t66 t67 t68 t69 done w) (by kernel_rfl) (by kernel_rfl) ?_ ⟨?_, ?_, ?_, ?_, ?_, ?_, ?_, ?_, ?_, ?_, ?_, ?_, ?_, ?_, ?_, trivial⟩ ?_
  · exact ⟨s18, s57, s58, s59, s60, s61, s62, s63, s64, s65, s66, s67, s68, s69, rfl, (Gr.refl _).drew, fun q => absurd q (by decide), fun q => absurd q (by decide), fun q => absurd q (by decide), fun q => absurd q (by decide), fun q => absurd q (by decide), fun q => absurd q (by decide), fun q => absurd q (by decide), fun q => absurd q (by decide), fun q => absurd q (by decide), fun q => absurd q (by decide), fun q => absurd q (by decide), fun q => absurd q (by decide), fun q => absurd q (by decide), fun q => absurd q (by decide), fun q => absurd q (by decide)⟩
  · rintro done a w hsz hnot hdep ⟨t18, t57, t58, t59, t60, t61, t62, t63, t64, t65, t66, t67, t68, t69, rfl, gw, f0, f1, f2, f3, f4, f5, f6, f7, f8, f9, f10, f11, f12, f13, f14⟩ K hK
    have hn : ¬ done.getD 0 false = true := by rw [getD_both hnot]; decide
    have r := BX.gr gw
    have c0 := r.cell 0 (by simp)
    have ch := r.has
    simp only [List.getElem_cons_zero] at c0
    clear r
    have HK := PLift.up hK
    clear hK 
    simp only [ch16fA]
    go_simp
    have gg : Gr w w := Gr.refl _
    refine HK.down _ _ ⟨_, _, _, _, _, _, _, _, _, _, _, _, _, _, rfl, gw, fun _ => rfl, fun q => f1 (done_old q (by decide)), fun q => f2 (done_old q (by decide)), fun q => f3 (done_old q (by decide)), fun q => f4 (done_old q (by decide)), fun q => f5 (done_old q (by decide)), fun q => f6 (done_old q (by decide)), fun q => f7 (done_old q (by decide)), fun q => f8 (done_old q (by decide)), fun q => f9 (done_old q (by decide)), fun q => f10 (done_old q (by decide)), fun q => f11 (done_old q (by decide)), fun q => f12 (done_old q (by decide)), fun q => (let ⟨BW, e, h1, h2⟩ := f13 (done_old q (by decide)); ⟨BW, e, h1, fun q2 => (h2 (by rw [getD_set_ne false (by decide)] at q2; exact q2)).gr gg⟩), fun q => (let ⟨a1, BW, e, h1, h2⟩ := f14 (done_old q (by decide)); ⟨getD_set_true a1, BW, e, h1, h2.gr gg⟩)⟩
  · rintro done a w hsz hnot hdep ⟨t18, t57, t58, t59, t60, t61, t62, t63, t64, t65, t66, t67, t68, t69, rfl, gw, f0, f1, f2, f3, f4, f5, f6, f7, f8, f9, f10, f11, f12, f13, f14⟩ K hK
    have hn : ¬ done.getD 1 false = true := by rw [getD_both hnot]; decide
    have r := hp.box.gr gw
    have c0 := r.cell 0 (by simp)
    have c1 := r.cell 1 (by simp)
    have c2 := r.cell 2 (by simp)
    have ch := r.has
    simp only [List.getElem_cons_zero, List.getElem_cons_succ] at c0 c1 c2
    clear r
    have HK := PLift.up hK
    clear hK 
    simp only [ch16fA]
    go_simp
    have gg : Gr w w := Gr.refl _
    refine HK.down _ _ ⟨_, _, _, _, _, _, _, _, _, _, _, _, _, _, rfl, gw, fun q => f0 (done_old q (by decide)), fun _ => rfl, fun q => f2 (done_old q (by decide)), fun q => f3 (done_old q (by decide)), fun q => f4 (done_old q (by decide)), fun q => f5 (done_old q (by decide)), fun q => f6 (done_old q (by decide)), fun q => f7 (done_old q (by decide)), fun q => f8 (done_old q (by decide)), fun q => f9 (done_old q (by decide)), fun q => f10 (done_old q (by decide)), fun q => f11 (done_old q (by decide)), fun q => f12 (done_old q (by decide)), fun q => (let ⟨BW, e, h1, h2⟩ := f13 (done_old q (by decide)); ⟨BW, e, h1, fun q2 => (h2 (by rw [getD_set_ne false (by decide)] at q2; exact q2)).gr gg⟩), fun q => (let ⟨a1, BW, e, h1, h2⟩ := f14 (done_old q (by decide)); ⟨getD_set_true a1, BW, e, h1, h2.gr gg⟩)⟩
  · rintro done a w hsz hnot hdep ⟨t18, t57, t58, t59, t60, t61, t62, t63, t64, t65, t66, t67, t68, t69, rfl, gw, f0, f1, f2, f3, f4, f5, f6, f7, f8, f9, f10, f11, f12, f13, f14⟩ K hK
    have hn : ¬ done.getD 2 false = true := by rw [getD_both hnot]; decide
    have HK := PLift.up hK
    clear hK 
    simp only [ch16fA]
    go_simp
    have gg : Gr w w := Gr.refl _
    refine HK.down _ _ ⟨_, _, _, _, _, _, _, _, _, _, _, _, _, _, rfl, gw, fun q => f0 (done_old q (by decide)), fun q => f1 (done_old q (by decide)), fun _ => rfl, fun q => f3 (done_old q (by decide)), fun q => f4 (done_old q (by decide)), fun q => f5 (done_old q (by decide)), fun q => f6 (done_old q (by decide)), fun q => f7 (done_old q (by decide)), fun q => f8 (done_old q (by decide)), fun q => f9 (done_old q (by decide)), fun q => f10 (done_old q (by decide)), fun q => f11 (done_old q (by decide)), fun q => f12 (done_old q (by decide)), fun q => (let ⟨BW, e, h1, h2⟩ := f13 (done_old q (by decide)); ⟨BW, e, h1, fun q2 => (h2 (by rw [getD_set_ne false (by decide)] at q2; exact q2)).gr gg⟩), fun q => (let ⟨a1, BW, e, h1, h2⟩ := f14 (done_old q (by decide)); ⟨getD_set_true a1, BW, e, h1, h2.gr gg⟩)⟩
  · rintro done a w hsz hnot hdep ⟨t18, t57, t58, t59, t60, t61, t62, t63, t64, t65, t66, t67, t68, t69, rfl, gw, f0, f1, f2, f3, f4, f5, f6, f7, f8, f9, f10, f11, f12, f13, f14⟩ K hK
    have hn : ¬ done.getD 3 false = true := by rw [getD_both hnot]; decide
    have d1 := hdep 1 (by kernel_rfl)
    have d2 := hdep 2 (by kernel_rfl)
    obtain rfl := f1 d1
    obtain rfl := f2 d2
    have HK := PLift.up hK
    clear hK d1 d2
    simp only [ch16fA]
    go_simp
    have NM := number_any l f al af am cl cf ms.length cm (.map (some BK)) w (clks_gr HE.down.clks (hp.gr.trans gw)) (SF.down.giI (hp.gr.trans gw)) HE.down.chk HF.down
    rw [HF.down.1] at NM
    refine NM.mono ?_
    rintro e w2 ⟨rfl, hg⟩
    have gg : Gr w w2 := hg
    clear hg
    (try go_simp)
    refine HK.down _ _ ⟨_, _, _, _, _, _, _, _, _, _, _, _, _, _, rfl, gw.trans gg, fun q => f0 (done_old q (by decide)), fun q => f1 (done_old q (by decide)), fun q => f2 (done_old q (by decide)), fun _ => rfl, fun q => f4 (done_old q (by decide)), fun q => f5 (done_old q (by decide)), fun q => f6 (done_old q (by decide)), fun q => f7 (done_old q (by decide)), fun q => f8 (done_old q (by decide)), fun q => f9 (done_old q (by decide)), fun q => f10 (done_old q (by decide)), fun q => f11 (done_old q (by decide)), fun q => f12 (done_old q (by decide)), fun q => (let ⟨BW, e, h1, h2⟩ := f13 (done_old q (by decide)); ⟨BW, e, h1, fun q2 => (h2 (by rw [getD_set_ne false (by decide)] at q2; exact q2)).gr gg⟩), fun q => (let ⟨a1, BW, e, h1, h2⟩ := f14 (done_old q (by decide)); ⟨getD_set_true a1, BW, e, h1, h2.gr gg⟩)⟩
  · rintro done a w hsz hnot hdep ⟨t18, t57, t58, t59, t60, t61, t62, t63, t64, t65, t66, t67, t68, t69, rfl, gw, f0, f1, f2, f3, f4, f5, f6, f7, f8, f9, f10, f11, f12, f13, f14⟩ K hK
    have hn : ¬ done.getD 4 false = true := by rw [getD_both hnot]; decide
    have d0 := hdep 0 (by kernel_rfl)
    have d3 := hdep 3 (by kernel_rfl)
    obtain rfl := f0 d0
    obtain rfl := f3 d3
    have LK : (Instr.lookup 125 (.map (some BM)) (.int .i64 (num l f)) false).run Tryz.prog w = .ok (.bool false) w := by
      have := run_look_b (MP.gr gw) (wide_num HE.down.chk HF.down)
      rw [this, look_ent HO.down HF.down]
      have hx := HX.down
      split <;> rename_i hm <;> simp [hm] at hx <;> simp [hx]
    have HK := PLift.up hK
    clear hK d0 d3
    simp only [ch16fA]
    go_simp
    have gg : Gr w w := Gr.refl _
    refine HK.down _ _ ⟨_, _, _, _, _, _, _, _, _, _, _, _, _, _, rfl, gw, fun q => f0 (done_old q (by decide)), fun q => f1 (done_old q (by decide)), fun q => f2 (done_old q (by decide)), fun q => f3 (done_old q (by decide)), fun _ => rfl, fun q => f5 (done_old q (by decide)), fun q => f6 (done_old q (by decide)), fun q => f7 (done_old q (by decide)), fun q => f8 (done_old q (by decide)), fun q => f9 (done_old q (by decide)), fun q => f10 (done_old q (by decide)), fun q => f11 (done_old q (by decide)), fun q => f12 (done_old q (by decide)), fun q => (let ⟨BW, e, h1, h2⟩ := f13 (done_old q (by decide)); ⟨BW, e, h1, fun q2 => (h2 (by rw [getD_set_ne false (by decide)] at q2; exact q2)).gr gg⟩), fun q => (let ⟨a1, BW, e, h1, h2⟩ := f14 (done_old q (by decide)); ⟨getD_set_true a1, BW, e, h1, h2.gr gg⟩)⟩
  · rintro done a w hsz hnot hdep ⟨t18, t57, t58, t59, t60, t61, t62, t63, t64, t65, t66, t67, t68, t69, rfl, gw, f0, f1, f2, f3, f4, f5, f6, f7, f8, f9, f10, f11, f12, f13, f14⟩ K hK
    have hn : ¬ done.getD 5 false = true := by rw [getD_both hnot]; decide
    have d4 := hdep 4 (by kernel_rfl)
    obtain rfl := f4 d4
    have HK := PLift.up hK
    clear hK d4
    simp only [ch16fA]
    go_simp
    have gg : Gr w w := Gr.refl _
    refine HK.down _ _ ⟨_, _, _, _, _, _, _, _, _, _, _, _, _, _, rfl, gw, fun q => f0 (done_old q (by decide)), fun q => f1 (done_old q (by decide)), fun q => f2 (done_old q (by decide)), fun q => f3 (done_old q (by decide)), fun q => f4 (done_old q (by decide)), fun _ => rfl, fun q => f6 (done_old q (by decide)), fun q => f7 (done_old q (by decide)), fun q => f8 (done_old q (by decide)), fun q => f9 (done_old q (by decide)), fun q => f10 (done_old q (by decide)), fun q => f11 (done_old q (by decide)), fun q => f12 (done_old q (by decide)), fun q => (let ⟨BW, e, h1, h2⟩ := f13 (done_old q (by decide)); ⟨BW, e, h1, fun q2 => (h2 (by rw [getD_set_ne false (by decide)] at q2; exact q2)).gr gg⟩), fun q => (let ⟨a1, BW, e, h1, h2⟩ := f14 (done_old q (by decide)); ⟨getD_set_true a1, BW, e, h1, h2.gr gg⟩)⟩
  · rintro done a w hsz hnot hdep ⟨t18, t57, t58, t59, t60, t61, t62, t63, t64, t65, t66, t67, t68, t69, rfl, gw, f0, f1, f2, f3, f4, f5, f6, f7, f8, f9, f10, f11, f12, f13, f14⟩ K hK
    have hn : ¬ done.getD 6 false = true := by rw [getD_both hnot]; decide
    have d5 := hdep 5 (by kernel_rfl)
    obtain rfl := f5 d5
    have HK := PLift.up hK
    clear hK d5
    simp only [ch16fA]
    go_simp
    have gg : Gr w w := Gr.refl _
    refine HK.down _ _ ⟨_, _, _, _, _, _, _, _, _, _, _, _, _, _, rfl, gw, fun q => f0 (done_old q (by decide)), fun q => f1 (done_old q (by decide)), fun q => f2 (done_old q (by decide)), fun q => f3 (done_old q (by decide)), fun q => f4 (done_old q (by decide)), fun q => f5 (done_old q (by decide)), ?_, fun q => f7 (done_old q (by decide)), fun q => f8 (done_old q (by decide)), fun q => f9 (done_old q (by decide)), fun q => f10 (done_old q (by decide)), fun q => f11 (done_old q (by decide)), fun q => f12 (done_old q (by decide)), fun q => (let ⟨BW, e, h1, h2⟩ := f13 (done_old q (by decide)); ⟨BW, e, h1, fun q2 => (h2 (by rw [getD_set_ne false (by decide)] at q2; exact q2)).gr gg⟩), fun q => (let ⟨a1, BW, e, h1, h2⟩ := f14 (done_old q (by decide)); ⟨getD_set_true a1, BW, e, h1, h2.gr gg⟩)⟩
    exact fun _ => trivial
  · rintro done a w hsz hnot hdep ⟨t18, t57, t58, t59, t60, t61, t62, t63, t64, t65, t66, t67, t68, t69, rfl, gw, f0, f1, f2, f3, f4, f5, f6, f7, f8, f9, f10, f11, f12, f13, f14⟩ K hK
    have hn : ¬ done.getD 7 false = true := by rw [getD_both hnot]; decide
    have d5 := hdep 5 (by kernel_rfl)
    obtain rfl := f5 d5
    have HK := PLift.up hK
    clear hK d5
    simp only [ch16fA]
    go_simp
    have gg : Gr w w := Gr.refl _
    refine HK.down _ _ ⟨_, _, _, _, _, _, _, _, _, _, _, _, _, _, rfl, gw, fun q => f0 (done_old q (by decide)), fun q => f1 (done_old q (by decide)), fun q => f2 (done_old q (by decide)), fun q => f3 (done_old q (by decide)), fun q => f4 (done_old q (by decide)), fun q => f5 (done_old q (by decide)), fun q => f6 (done_old q (by decide)), ?_, fun q => f8 (done_old q (by decide)), fun q => f9 (done_old q (by decide)), fun q => f10 (done_old q (by decide)), fun q => f11 (done_old q (by decide)), fun q => f12 (done_old q (by decide)), fun q => (let ⟨BW, e, h1, h2⟩ := f13 (done_old q (by decide)); ⟨BW, e, h1, fun q2 => (h2 (by rw [getD_set_ne false (by decide)] at q2; exact q2)).gr gg⟩), fun q => (let ⟨a1, BW, e, h1, h2⟩ := f14 (done_old q (by decide)); ⟨getD_set_true a1, BW, e, h1, h2.gr gg⟩)⟩
    exact fun _ => trivial
  · rintro done a w hsz hnot hdep ⟨t18, t57, t58, t59, t60, t61, t62, t63, t64, t65, t66, t67, t68, t69, rfl, gw, f0, f1, f2, f3, f4, f5, f6, f7, f8, f9, f10, f11, f12, f13, f14⟩ K hK
    have hn : ¬ done.getD 8 false = true := by rw [getD_both hnot]; decide
    have d5 := hdep 5 (by kernel_rfl)
    obtain rfl := f5 d5
    have HK := PLift.up hK
    clear hK d5
    simp only [ch16fA]
    go_simp
    have gg : Gr w w := Gr.refl _
    refine HK.down _ _ ⟨_, _, _, _, _, _, _, _, _, _, _, _, _, _, rfl, gw, fun q => f0 (done_old q (by decide)), fun q => f1 (done_old q (by decide)), fun q => f2 (done_old q (by decide)), fun q => f3 (done_old q (by decide)), fun q => f4 (done_old q (by decide)), fun q => f5 (done_old q (by decide)), fun q => f6 (done_old q (by decide)), fun q => f7 (done_old q (by decide)), ?_, fun q => f9 (done_old q (by decide)), fun q => f10 (done_old q (by decide)), fun q => f11 (done_old q (by decide)), fun q => f12 (done_old q (by decide)), fun q => (let ⟨BW, e, h1, h2⟩ := f13 (done_old q (by decide)); ⟨BW, e, h1, fun q2 => (h2 (by rw [getD_set_ne false (by decide)] at q2; exact q2)).gr gg⟩), fun q => (let ⟨a1, BW, e, h1, h2⟩ := f14 (done_old q (by decide)); ⟨getD_set_true a1, BW, e, h1, h2.gr gg⟩)⟩
    exact fun _ => trivial
  · rintro done a w hsz hnot hdep ⟨t18, t57, t58, t59, t60, t61, t62, t63, t64, t65, t66, t67, t68, t69, rfl, gw, f0, f1, f2, f3, f4, f5, f6, f7, f8, f9, f10, f11, f12, f13, f14⟩ K hK
    have hn : ¬ done.getD 9 false = true := by rw [getD_both hnot]; decide
    have d5 := hdep 5 (by kernel_rfl)
    obtain rfl := f5 d5
    have HK := PLift.up hK
    clear hK d5
    simp only [ch16fA]
    go_simp
    have gg : Gr w w := Gr.refl _
    refine HK.down _ _ ⟨_, _, _, _, _, _, _, _, _, _, _, _, _, _, rfl, gw, fun q => f0 (done_old q (by decide)), fun q => f1 (done_old q (by decide)), fun q => f2 (done_old q (by decide)), fun q => f3 (done_old q (by decide)), fun q => f4 (done_old q (by decide)), fun q => f5 (done_old q (by decide)), fun q => f6 (done_old q (by decide)), fun q => f7 (done_old q (by decide)), fun q => f8 (done_old q (by decide)), ?_, fun q => f10 (done_old q (by decide)), fun q => f11 (done_old q (by decide)), fun q => f12 (done_old q (by decide)), fun q => (let ⟨BW, e, h1, h2⟩ := f13 (done_old q (by decide)); ⟨BW, e, h1, fun q2 => (h2 (by rw [getD_set_ne false (by decide)] at q2; exact q2)).gr gg⟩), fun q => (let ⟨a1, BW, e, h1, h2⟩ := f14 (done_old q (by decide)); ⟨getD_set_true a1, BW, e, h1, h2.gr gg⟩)⟩
    exact fun _ => trivial
  · rintro done a w hsz hnot hdep ⟨t18, t57, t58, t59, t60, t61, t62, t63, t64, t65, t66, t67, t68, t69, rfl, gw, f0, f1, f2, f3, f4, f5, f6, f7, f8, f9, f10, f11, f12, f13, f14⟩ K hK
    have hn : ¬ done.getD 10 false = true := by rw [getD_both hnot]; decide
    have d5 := hdep 5 (by kernel_rfl)
    obtain rfl := f5 d5
    have HK := PLift.up hK
    clear hK d5
    simp only [ch16fA]
    go_simp
    have gg : Gr w w := Gr.refl _
    refine HK.down _ _ ⟨_, _, _, _, _, _, _, _, _, _, _, _, _, _, rfl, gw, fun q => f0 (done_old q (by decide)), fun q => f1 (done_old q (by decide)), fun q => f2 (done_old q (by decide)), fun q => f3 (done_old q (by decide)), fun q => f4 (done_old q (by decide)), fun q => f5 (done_old q (by decide)), fun q => f6 (done_old q (by decide)), fun q => f7 (done_old q (by decide)), fun q => f8 (done_old q (by decide)), fun q => f9 (done_old q (by decide)), ?_, fun q => f11 (done_old q (by decide)), fun q => f12 (done_old q (by decide)), fun q => (let ⟨BW, e, h1, h2⟩ := f13 (done_old q (by decide)); ⟨BW, e, h1, fun q2 => (h2 (by rw [getD_set_ne false (by decide)] at q2; exact q2)).gr gg⟩), fun q => (let ⟨a1, BW, e, h1, h2⟩ := f14 (done_old q (by decide)); ⟨getD_set_true a1, BW, e, h1, h2.gr gg⟩)⟩
    exact fun _ => trivial
  · rintro done a w hsz hnot hdep ⟨t18, t57, t58, t59, t60, t61, t62, t63, t64, t65, t66, t67, t68, t69, rfl, gw, f0, f1, f2, f3, f4, f5, f6, f7, f8, f9, f10, f11, f12, f13, f14⟩ K hK
    have hn : ¬ done.getD 11 false = true := by rw [getD_both hnot]; decide
    have d5 := hdep 5 (by kernel_rfl)
    obtain rfl := f5 d5
    have HK := PLift.up hK
    clear hK d5
    simp only [ch16fA]
    go_simp
    have gg : Gr w w := Gr.refl _
    refine HK.down _ _ ⟨_, _, _, _, _, _, _, _, _, _, _, _, _, _, rfl, gw, fun q => f0 (done_old q (by decide)), fun q => f1 (done_old q (by decide)), fun q => f2 (done_old q (by decide)), fun q => f3 (done_old q (by decide)), fun q => f4 (done_old q (by decide)), fun q => f5 (done_old q (by decide)), fun q => f6 (done_old q (by decide)), fun q => f7 (done_old q (by decide)), fun q => f8 (done_old q (by decide)), fun q => f9 (done_old q (by decide)), fun q => f10 (done_old q (by decide)), ?_, fun q => f12 (done_old q (by decide)), fun q => (let ⟨BW, e, h1, h2⟩ := f13 (done_old q (by decide)); ⟨BW, e, h1, fun q2 => (h2 (by rw [getD_set_ne false (by decide)] at q2; exact q2)).gr gg⟩), fun q => (let ⟨a1, BW, e, h1, h2⟩ := f14 (done_old q (by decide)); ⟨getD_set_true a1, BW, e, h1, h2.gr gg⟩)⟩
    exact fun _ => trivial
  · rintro done a w hsz hnot hdep ⟨t18, t57, t58, t59, t60, t61, t62, t63, t64, t65, t66, t67, t68, t69, rfl, gw, f0, f1, f2, f3, f4, f5, f6, f7, f8, f9, f10, f11, f12, f13, f14⟩ K hK
    have hn : ¬ done.getD 12 false = true := by rw [getD_both hnot]; decide
    have d5 := hdep 5 (by kernel_rfl)
    obtain rfl := f5 d5
    have HK := PLift.up hK
    clear hK d5
    simp only [ch16fA]
    go_simp
    have gg : Gr w w := Gr.refl _
    refine HK.down _ _ ⟨_, _, _, _, _, _, _, _, _, _, _, _, _, _, rfl, gw, fun q => f0 (done_old q (by decide)), fun q => f1 (done_old q (by decide)), fun q => f2 (done_old q (by decide)), fun q => f3 (done_old q (by decide)), fun q => f4 (done_old q (by decide)), fun q => f5 (done_old q (by decide)), fun q => f6 (done_old q (by decide)), fun q => f7 (done_old q (by decide)), fun q => f8 (done_old q (by decide)), fun q => f9 (done_old q (by decide)), fun q => f10 (done_old q (by decide)), fun q => f11 (done_old q (by decide)), fun _ => rfl, fun q => (let ⟨BW, e, h1, h2⟩ := f13 (done_old q (by decide)); ⟨BW, e, h1, fun q2 => (h2 (by rw [getD_set_ne false (by decide)] at q2; exact q2)).gr gg⟩), fun q => (let ⟨a1, BW, e, h1, h2⟩ := f14 (done_old q (by decide)); ⟨getD_set_true a1, BW, e, h1, h2.gr gg⟩)⟩
  · rintro done a w hsz hnot hdep ⟨t18, t57, t58, t59, t60, t61, t62, t63, t64, t65, t66, t67, t68, t69, rfl, gw, f0, f1, f2, f3, f4, f5, f6, f7, f8, f9, f10, f11, f12, f13, f14⟩ K hK
    have hn : ¬ done.getD 13 false = true := by rw [getD_both hnot]; decide
    have HK := PLift.up hK
    clear hK 
    simp only [ch16fA]
    go_simp
    have gg : Gr w (w.alloc (.cells #[.bool false] 4)) := (Gr.refl _).alloc _
    refine HK.down _ _ ⟨_, _, _, _, _, _, _, _, _, _, _, _, _, _, rfl, gw.trans gg, fun q => f0 (done_old q (by decide)), fun q => f1 (done_old q (by decide)), fun q => f2 (done_old q (by decide)), fun q => f3 (done_old q (by decide)), fun q => f4 (done_old q (by decide)), fun q => f5 (done_old q (by decide)), fun q => f6 (done_old q (by decide)), fun q => f7 (done_old q (by decide)), fun q => f8 (done_old q (by decide)), fun q => f9 (done_old q (by decide)), fun q => f10 (done_old q (by decide)), fun q => f11 (done_old q (by decide)), fun q => f12 (done_old q (by decide)), ?_, fun q => absurd (f14 (done_old q (by decide))).1 hn⟩
    exact fun _ => ⟨_, rfl, gw.size, fun _ => Row.new w _ _⟩
  · rintro done a w hsz hnot hdep ⟨t18, t57, t58, t59, t60, t61, t62, t63, t64, t65, t66, t67, t68, t69, rfl, gw, f0, f1, f2, f3, f4, f5, f6, f7, f8, f9, f10, f11, f12, f13, f14⟩ K hK
    have hn : ¬ done.getD 14 false = true := by rw [getD_both hnot]; decide
    have d12 := hdep 12 (by kernel_rfl)
    have d13 := hdep 13 (by kernel_rfl)
    obtain rfl := f12 d12
    have n14 := getD_both hnot
    obtain ⟨BW, rfl, h2, h3⟩ := f13 d13
    have r := h3 n14
    have c0 := r.cell 0 (by simp)
    have cf := r.free 0
    have ch := r.has
    simp only [List.getElem_cons_zero] at c0
    have RR := PLift.up r
    have H2 := PLift.up h2
    clear r h3 h2
    have HK := PLift.up hK
    clear hK d12
    simp only [ch16fA]
    go_simp
    refine HK.down _ _ ⟨_, _, _, _, _, _, _, _, _, _, _, _, _, _, rfl, gw.setc H2.down, fun q => f0 (done_old q (by decide)), fun q => f1 (done_old q (by decide)), fun q => f2 (done_old q (by decide)), fun q => f3 (done_old q (by decide)), fun q => f4 (done_old q (by decide)), fun q => f5 (done_old q (by decide)), fun q => f6 (done_old q (by decide)), fun q => f7 (done_old q (by decide)), fun q => f8 (done_old q (by decide)), fun q => f9 (done_old q (by decide)), fun q => f10 (done_old q (by decide)), fun q => f11 (done_old q (by decide)), fun q => f12 (done_old q (by decide)), fun _ => ⟨BW, rfl, H2.down, fun q => absurd q (by rw [getD_set_same (by rw [hsz]; decide)]; decide)⟩, ?_⟩
    exact fun _ => ⟨getD_set_true d13, BW, rfl, H2.down, RR.down.set 0 _⟩
  · rintro done a w hall ⟨t18, t57, t58, t59, t60, t61, t62, t63, t64, t65, t66, t67, t68, t69, rfl, gw, f0, f1, f2, f3, f4, f5, f6, f7, f8, f9, f10, f11, f12, f13, f14⟩
    obtain ⟨_, BW, rfl, h1, h2⟩ := f14 (hall 14 (by decide))
    exact h' _ _ _ _ _ _ _ _ _ _ _ _ _ BW w gw h1 h2

set_option maxRecDepth 100000 in
set_option maxHeartbeats 4000000 in
theorem ch16 {Q : Exit → Act → World → Prop} {w0 wr : World} {l : List Clk} {ms : List Lmt} {f t : List Int} {al am af at' : Option Addr} {cl cm cf ct BK XP BI BM : Nat} {x y : Bool}  {s0 s3 s4 s5 s6 s7 s8 s9 s10 s12 s14 s15 s16 s17 s18 s19 s20 s21 s22 s23 s24 s25 s26 s27 s28 s29 s30 s31 s32 s33 s34 s35 s36 s37 s38 s39 s40 s41 s42 s43 s44 s45 s46 s47 s48 s49 s50 s51 s52 s53 s54 s55 s56 s57 s58 s59 s60 s61 s62 s63 s64 s65 s66 s67 s68 s69 s70 s71 s72 s73 s74 s75 s76 s77 s78 s79 s80 : Value} {cs : List (List Int)} (hp : PB l ms al am cl cm BK XP w0 wr wr) (BX : Row wr BI 125 [.map (some BM)]) (MP : MapB wr BM (entV l cs)) (he : Env w0 l ms al am) (ho : SetsOk l cs) (hf : SetOk l f) (ht : SetOk l t) (sf : SlOf 1 RI w0 af f) (st : SlOf 1 RI w0 at' t) (hx : decide (f ∈ cs) = x) (hy : decide (t ∈ cs) = y)
    (h' : ∀ t57 t58 t59 t60 t61 t62 t63 t64 t65 t66 t67 t68 t69 BW wx, Gr wr wx → wr.heap.size ≤ BW → Row wx BW 4 [.bool (x && !y)] → Q .normal (ch16tA l af at' cf ct XP BI (.pointer (some ⟨BW, 0, none⟩)) t57 t58 t59 t60 t61 t62 t63 t64 t65 t66 t67 t68 t69 s0 s3 s4 s5 s6 s7 s8 s9 s10 s12 s14 s15 s16 s17 s19 s20 s21 s22 s23 s24 s25 s26 s27 s28 s29 s30 s31 s32 s33 s34 s35 s36 s37 s38 s39 s40 s41 s42 s43 s44 s45 s46 s47 s48 s49 s50 s51 s52 s53 s54 s55 s56 s70 s71 s72 s73 s74 s75 s76 s77 s78 s79 s80) wx) :
    (Code.region 16 (regIn 16 Tryz.f32) true).wp Tryz.prog Q { tmps := #[s0, .slice af l.length cf, .slice at' l.length ct, s3, s4, s5, s6, s7, s8, s9, s10, .pointer (some ⟨XP, 0, none⟩), s12, .pointer (some ⟨BI, 0, none⟩), s14, s15, s16, s17, s18, s19, s20, s21, s22, s23, s24, s25, s26, s27, s28, s29, s30, s31, s32, s33, s34, s35, s36, s37, s38, s39, s40, s41, s42, s43, s44, s45, s46, s47, s48, s49, s50, s51, s52, s53, s54, s55, s56, s57, s58, s59, s60, s61, s62, s63, s64, s65, s66, s67, s68, s69, s70, s71, s72, s73, s74, s75, s76, s77, s78, s79, s80], defers := [] } wr := by
  cases x with
  | true => exact ch16t hp BX MP he ho hf ht sf st hx hy (fun t57 t58 t59 t60 t61 t62 t63 t64 t65 t66 t67 t68 t69 BW wx a b c => h' t57 t58 t59 t60 t61 t62 t63 t64 t65 t66 t67 t68 t69 BW wx a b (by simpa using c))
  | false => exact ch16f hp BX MP he ho hf ht sf st hx hy (fun t57 t58 t59 t60 t61 t62 t63 t64 t65 t66 t67 t68 t69 BW wx a b c => h' t57 t58 t59 t60 t61 t62 t63 t64 t65 t66 t67 t68 t69 BW wx a b (by simpa using c))
end Go.Proofs.YtenehghpmnajpaaGreatDoor

/- A statement of link.graph by an invariant (printed by wip/tools/teq.py). -/
import Derived.Test.YtdjhnfopdlgliaaTeP
set_option linter.unusedVariables false
set_option linter.unusedSimpArgs false
namespace Go.Proofs.Ytdjhnfopdlgliaa
open Go.RowKit
open Classical

/-- The row is as it was, or has been appended to. -/
def St8 (base : Nat) (wr : World) (va : Option Addr) (vc : Nat) (gi : List Int) (x : Int) (t45 : Value) (w : World) : Bool → Prop
  | false => Gr wr w
  | true => wr.grownBy w (Value.slice va gi.length vc).ownBlock ∧ w.ownsRow base 3 1 t45 (gi ++ [x]).length (nums (gi ++ [x])) ∧ (t45.ownBlock = (Value.slice va gi.length vc).ownBlock ∨ ∃ k, t45.ownBlock = some k ∧ wr.heap.size ≤ k)
theorem grown_after {wr w w2 : World} {row : Option Nat} (g : Gr wr w) (h : w.grownBy w2 row) : wr.grownBy w2 row := by
  obtain ⟨h1, h2, h3, h4, h5⟩ := g.below
  exact ⟨h.os.trans h1, h.tape.trans h2, h.output.trans h3, Nat.le_trans h4 h.size, fun k hk hne => (h.block k (Nat.lt_of_lt_of_le hk h4) hne).trans (h5 k hk)⟩
structure G8 (base : Nat) (wr : World) (GB LB : Nat) (vs lb : List Value) (va : Option Addr) (vc : Nat) (gi : List Int) (x : Int) (t45 : Value) (d : Array Bool) (w : World) : Prop where
  box : Row w LB 40 lb
  row : Row w GB 38 vs
  st : St8 base wr va vc gi x t45 w (d.getD 11 false)
theorem G8.step {base : Nat} {wr : World} {GB LB : Nat} {vs lb : List Value} {va : Option Addr} {vc : Nat} {gi : List Int} {x : Int} {t45 : Value} {d : Array Bool} {w : World} {i : Nat} (h : G8 base wr GB LB vs lb va vc gi x t45 d w) (h11 : i ≠ 11) : G8 base wr GB LB vs lb va vc gi x t45 (d.setIfInBounds i true) w :=
  ⟨h.box, h.row, by rw [getD_set_ne false h11]; exact h.st⟩
/-- After the store. -/
def Fin8 (base : Nat) (wr : World) (GB LB : Nat) (vs lb : List Value) (va : Option Addr) (vc : Nat) (gi : List Int) (x : Int) (i : Nat) (w : World) : Prop :=
  ∃ t45 w1, w = w1.setCell ⟨GB, i, none⟩ t45 ∧ Row w1 LB 40 lb ∧ Row w1 GB 38 vs ∧ St8 base wr va vc gi x t45 w1 true
/-- What is known of each slot as soon as its operation is done. -/
def gr8F (wr wb : World) (GB LB : Nat) (vs lb : List Value) (va : Option Addr) (vc : Nat) (gi : List Int) (x : Int) (n cn i : Nat) (t34 t35 t36 t37 t38 t39 t40 t41 t42 t43 t44 t45 t46 : Value) (d : Array Bool) (w : World) : Prop :=
  (d.getD 13 false = false → G8 wb.heap.size wr GB LB vs lb va vc gi x t45 d w) ∧ (d.getD 0 false = true → t34 = .slice (some ⟨GB, 0, none⟩) n cn) ∧
  (d.getD 1 false = true → t35 = .pointer (some ⟨LB, 0, none⟩)) ∧
  (d.getD 2 false = true → t36 = .int .i64 (i : Int)) ∧
  (d.getD 3 false = true → t37 = .slice (some ⟨GB, 0, none⟩) n cn) ∧
  (d.getD 4 false = true → t38 = .pointer (some ⟨LB, 0, none⟩)) ∧
  (d.getD 5 false = true → t39 = .int .i64 (i : Int)) ∧
  (d.getD 6 false = true → t40 = .pointer (some ⟨GB, i, none⟩)) ∧
  (d.getD 7 false = true → t41 = .slice va gi.length vc) ∧
  (d.getD 8 false = true → t42 = .pointer (some ⟨LB, 1, none⟩)) ∧
  (d.getD 9 false = true → t43 = .int .i64 x) ∧
  (d.getD 10 false = true → ∃ B, t44 = .slice (some ⟨B, 0, none⟩) 1 1 ∧ (d.getD 11 false = false → Row w B 3 (nums [x]))) ∧
  (d.getD 11 false = true → (d.getD 7 false = true ∧ d.getD 10 false = true)) ∧
  (d.getD 12 false = true → t46 = .pointer (some ⟨GB, i, none⟩)) ∧
  (d.getD 13 false = true → ((∀ j, j < 13 → d.getD j false = true) ∧ Fin8 wb.heap.size wr GB LB vs lb va vc gi x i w))
/-- The frame. -/
def gr8A (GB LB n cn : Nat) (t34 t35 t36 t37 t38 t39 t40 t41 t42 t43 t44 t45 t46 s0 s1 s2 s3 s4 s5 s6 s7 s8 s9 s11 s13 s14 s15 s16 s17 s18 s19 s20 s21 s22 s23 s24 s25 s26 s27 s28 s29 s30 s31 s32 s33 s47 s48 s49 s50 s51 s52 s53 s54 s55 s56 s57 s58 s59 s60 s61 s62 s63 s64 s65 s66 s67 : Value) : Act := { tmps := #[s0, s1, s2, s3, s4, s5, s6, s7, s8, s9, .slice (some ⟨GB, 0, none⟩) n cn, s11, .pointer (some ⟨LB, 0, none⟩), s13, s14, s15, s16, s17, s18, s19, s20, s21, s22, s23, s24, s25, s26, s27, s28, s29, s30, s31, s32, s33, t34, t35, t36, t37, t38, t39, t40, t41, t42, t43, t44, t45, t46, s47, s48, s49, s50, s51, s52, s53, s54, s55, s56, s57, s58, s59, s60, s61, s62, s63, s64, s65, s66, s67], defers := [] }

set_option maxRecDepth 100000 in
set_option maxHeartbeats 4000000 in
theorem gr8 {Q : Exit → Act → World → Prop} {wr wb : World} {GB LB : Nat} {vs lb : List Value} {va : Option Addr} {vc : Nat} {gi : List Int} {x : Int} {n cn i : Nat} {gs : List (List Int)}  {s0 s1 s2 s3 s4 s5 s6 s7 s8 s9 s11 s13 s14 s15 s16 s17 s18 s19 s20 s21 s22 s23 s24 s25 s26 s27 s28 s29 s30 s31 s32 s33 s34 s35 s36 s37 s38 s39 s40 s41 s42 s43 s44 s45 s46 s47 s48 s49 s50 s51 s52 s53 s54 s55 s56 s57 s58 s59 s60 s61 s62 s63 s64 s65 s66 s67 : Value} (hg : GAt wb.heap.size wr GB vs gs) (hvi : vs[i]? = some (.slice va gi.length vc)) (how : wr.ownsRow wb.heap.size 3 1 (.slice va gi.length vc) gi.length (nums gi)) (hlb : lb[0]? = some (.int .i64 (i : Int)) ∧ lb[1]? = some (.int .i64 x)) (hbox : Row wr LB 40 lb) (hin : i < n) (hgl : gi.length ≤ 100000) (hbs : wb.heap.size ≤ wr.heap.size)
    (h' : ∀ t34 t35 t36 t37 t38 t39 t40 t41 t42 t43 t44 t45 t46 wx, Fin8 wb.heap.size wr GB LB vs lb va vc gi x i wx → Q .normal (gr8A GB LB n cn t34 t35 t36 t37 t38 t39 t40 t41 t42 t43 t44 t45 t46 s0 s1 s2 s3 s4 s5 s6 s7 s8 s9 s11 s13 s14 s15 s16 s17 s18 s19 s20 s21 s22 s23 s24 s25 s26 s27 s28 s29 s30 s31 s32 s33 s47 s48 s49 s50 s51 s52 s53 s54 s55 s56 s57 s58 s59 s60 s61 s62 s63 s64 s65 s66 s67) wx) :
    (Code.region 8 (regIn 8 Try.f13) true).wp Try.prog Q { tmps := #[s0, s1, s2, s3, s4, s5, s6, s7, s8, s9, .slice (some ⟨GB, 0, none⟩) n cn, s11, .pointer (some ⟨LB, 0, none⟩), s13, s14, s15, s16, s17, s18, s19, s20, s21, s22, s23, s24, s25, s26, s27, s28, s29, s30, s31, s32, s33, s34, s35, s36, s37, s38, s39, s40, s41, s42, s43, s44, s45, s46, s47, s48, s49, s50, s51, s52, s53, s54, s55, s56, s57, s58, s59, s60, s61, s62, s63, s64, s65, s66, s67], defers := [] } wr := by
  have HVI := PLift.up hvi
  have HOW := PLift.up how
  have HIN := PLift.up hin
  have HGL := PLift.up hgl
  have HBS := PLift.up hbs
  have HLB := PLift.up hlb
  have HBX := PLift.up hbox
  have HRW := PLift.up hg.row
  clear hvi how hin hgl hbs hlb hbox hg
  obtain ⟨j0, hj, hy0, hy1, hy2⟩ := info_parts infoInt
  simp only [regIn, Try.f13, regOps, Option.bind_some, Option.getD_some, Nat.beq, cond_true, cond_false]
  refine wp_region_steps (fun done a w => ∃ t34 t35 t36 t37 t38 t39 t40 t41 t42 t43 t44 t45 t46, a = gr8A GB LB n cn t34 t35 t36 t37 t38 t39 t40 t41 t42 t43 t44 t45 t46 s0 s1 s2 s3 s4 s5 s6 s7 s8 s9 s11 s13 s14 s15 s16 s17 s18 s19 s20 s21 s22 s23 s24 s25 s26 s27 s28 s29 s30 s31 s32 s33 s47 s48 s49 s50 s51 s52 s53 s54 s55 s56 s57 s58 s59 s60 s61 s62 s63 s64 s65 s66 s67 ∧ gr8F wr wb GB LB vs lb va vc gi x n cn i t34 t35 t36 t37 t38 t39 t40 t41 t42 t43 t44 t45 t46 done w) (by kernel_rfl) (by kernel_rfl) ?_ ⟨?_, ?_, ?_, ?_, ?_, ?_, ?_, ?_, ?_, ?_, ?_, ?_, ?_, ?_, trivial⟩ ?_
  · exact ⟨s34, s35, s36, s37, s38, s39, s40, s41, s42, s43, s44, s45, s46, rfl, fun _ => ⟨HBX.down.drew, HRW.down.drew, (Gr.refl _).drew⟩, fun q => absurd q (by decide), fun q => absurd q (by decide), fun q => absurd q (by decide), fun q => absurd q (by decide), fun q => absurd q (by decide), fun q => absurd q (by decide), fun q => absurd q (by decide), fun q => absurd q (by decide), fun q => absurd q (by decide), fun q => absurd q (by decide), fun q => absurd q (by decide), fun q => absurd q (by decide), fun q => absurd q (by decide), fun q => absurd q (by decide)⟩
  · rintro done a w hsz hnot hdep ⟨t34, t35, t36, t37, t38, t39, t40, t41, t42, t43, t44, t45, t46, rfl, gw, f0, f1, f2, f3, f4, f5, f6, f7, f8, f9, f10, f11, f12, f13⟩ K hK
    have hn : ¬ done.getD 0 false = true := by rw [getD_both hnot]; decide
    have n13 : done.getD 13 false = false := by
      cases e : done.getD 13 false with
      | false => rfl
      | true => exact absurd ((f13 e).1 0 (by decide)) hn
    replace gw := gw n13
    have HK := PLift.up hK
    clear hK 
    simp only [gr8A]
    go_simp
    have gg : Gr w w := Gr.refl _
    refine HK.down _ _ ⟨_, _, _, _, _, _, _, _, _, _, _, _, _, rfl, fun _ => gw.step (by decide), fun _ => rfl, fun q => f1 (done_old q (by decide)), fun q => f2 (done_old q (by decide)), fun q => f3 (done_old q (by decide)), fun q => f4 (done_old q (by decide)), fun q => f5 (done_old q (by decide)), fun q => f6 (done_old q (by decide)), fun q => f7 (done_old q (by decide)), fun q => f8 (done_old q (by decide)), fun q => f9 (done_old q (by decide)), fun q => (let ⟨B, e, h2⟩ := f10 (done_old q (by decide)); ⟨B, e, fun q2 => (h2 (by rw [getD_set_ne false (by decide)] at q2; exact q2)).gr gg⟩), fun q => (let h := f11 (done_old q (by decide)); ⟨getD_set_true h.1, getD_set_true h.2⟩), fun q => f12 (done_old q (by decide)), fun q => absurd ((f13 (done_old q (by decide))).1 0 (by decide)) hn⟩
  · rintro done a w hsz hnot hdep ⟨t34, t35, t36, t37, t38, t39, t40, t41, t42, t43, t44, t45, t46, rfl, gw, f0, f1, f2, f3, f4, f5, f6, f7, f8, f9, f10, f11, f12, f13⟩ K hK
    have hn : ¬ done.getD 1 false = true := by rw [getD_both hnot]; decide
    have n13 : done.getD 13 false = false := by
      cases e : done.getD 13 false with
      | false => rfl
      | true => exact absurd ((f13 e).1 1 (by decide)) hn
    replace gw := gw n13
    have HK := PLift.up hK
    clear hK 
    simp only [gr8A]
    go_simp
    have gg : Gr w w := Gr.refl _
    refine HK.down _ _ ⟨_, _, _, _, _, _, _, _, _, _, _, _, _, rfl, fun _ => gw.step (by decide), fun q => f0 (done_old q (by decide)), fun _ => rfl, fun q => f2 (done_old q (by decide)), fun q => f3 (done_old q (by decide)), fun q => f4 (done_old q (by decide)), fun q => f5 (done_old q (by decide)), fun q => f6 (done_old q (by decide)), fun q => f7 (done_old q (by decide)), fun q => f8 (done_old q (by decide)), fun q => f9 (done_old q (by decide)), fun q => (let ⟨B, e, h2⟩ := f10 (done_old q (by decide)); ⟨B, e, fun q2 => (h2 (by rw [getD_set_ne false (by decide)] at q2; exact q2)).gr gg⟩), fun q => (let h := f11 (done_old q (by decide)); ⟨getD_set_true h.1, getD_set_true h.2⟩), fun q => f12 (done_old q (by decide)), fun q => absurd ((f13 (done_old q (by decide))).1 1 (by decide)) hn⟩
  · rintro done a w hsz hnot hdep ⟨t34, t35, t36, t37, t38, t39, t40, t41, t42, t43, t44, t45, t46, rfl, gw, f0, f1, f2, f3, f4, f5, f6, f7, f8, f9, f10, f11, f12, f13⟩ K hK
    have hn : ¬ done.getD 2 false = true := by rw [getD_both hnot]; decide
    have d1 := hdep 1 (by kernel_rfl)
    obtain rfl := f1 d1
    have n13 : done.getD 13 false = false := by
      cases e : done.getD 13 false with
      | false => rfl
      | true => exact absurd ((f13 e).1 2 (by decide)) hn
    replace gw := gw n13
    have c0 : w.cell? ⟨LB, 0, none⟩ = some (.int .i64 (i : Int)) := by have := gw.box.cell 0 (List.getElem?_eq_some_iff.1 HLB.down.1).1; rw [this]; exact congrArg some (List.getElem?_eq_some_iff.1 HLB.down.1).2
    have c1 : w.cell? ⟨LB, 1, none⟩ = some (.int .i64 x) := by have := gw.box.cell 1 (List.getElem?_eq_some_iff.1 HLB.down.2).1; rw [this]; exact congrArg some (List.getElem?_eq_some_iff.1 HLB.down.2).2
    have ch := has_of_cell c0
    have HK := PLift.up hK
    clear hK d1
    simp only [gr8A]
    go_simp
    have gg : Gr w w := Gr.refl _
    refine HK.down _ _ ⟨_, _, _, _, _, _, _, _, _, _, _, _, _, rfl, fun _ => gw.step (by decide), fun q => f0 (done_old q (by decide)), fun q => f1 (done_old q (by decide)), fun _ => rfl, fun q => f3 (done_old q (by decide)), fun q => f4 (done_old q (by decide)), fun q => f5 (done_old q (by decide)), fun q => f6 (done_old q (by decide)), fun q => f7 (done_old q (by decide)), fun q => f8 (done_old q (by decide)), fun q => f9 (done_old q (by decide)), fun q => (let ⟨B, e, h2⟩ := f10 (done_old q (by decide)); ⟨B, e, fun q2 => (h2 (by rw [getD_set_ne false (by decide)] at q2; exact q2)).gr gg⟩), fun q => (let h := f11 (done_old q (by decide)); ⟨getD_set_true h.1, getD_set_true h.2⟩), fun q => f12 (done_old q (by decide)), fun q => absurd ((f13 (done_old q (by decide))).1 2 (by decide)) hn⟩
  · rintro done a w hsz hnot hdep ⟨t34, t35, t36, t37, t38, t39, t40, t41, t42, t43, t44, t45, t46, rfl, gw, f0, f1, f2, f3, f4, f5, f6, f7, f8, f9, f10, f11, f12, f13⟩ K hK
    have hn : ¬ done.getD 3 false = true := by rw [getD_both hnot]; decide
    have n13 : done.getD 13 false = false := by
      cases e : done.getD 13 false with
      | false => rfl
      | true => exact absurd ((f13 e).1 3 (by decide)) hn
    replace gw := gw n13
    have HK := PLift.up hK
    clear hK 
    simp only [gr8A]
    go_simp
    have gg : Gr w w := Gr.refl _
    refine HK.down _ _ ⟨_, _, _, _, _, _, _, _, _, _, _, _, _, rfl, fun _ => gw.step (by decide), fun q => f0 (done_old q (by decide)), fun q => f1 (done_old q (by decide)), fun q => f2 (done_old q (by decide)), fun _ => rfl, fun q => f4 (done_old q (by decide)), fun q => f5 (done_old q (by decide)), fun q => f6 (done_old q (by decide)), fun q => f7 (done_old q (by decide)), fun q => f8 (done_old q (by decide)), fun q => f9 (done_old q (by decide)), fun q => (let ⟨B, e, h2⟩ := f10 (done_old q (by decide)); ⟨B, e, fun q2 => (h2 (by rw [getD_set_ne false (by decide)] at q2; exact q2)).gr gg⟩), fun q => (let h := f11 (done_old q (by decide)); ⟨getD_set_true h.1, getD_set_true h.2⟩), fun q => f12 (done_old q (by decide)), fun q => absurd ((f13 (done_old q (by decide))).1 3 (by decide)) hn⟩
  · rintro done a w hsz hnot hdep ⟨t34, t35, t36, t37, t38, t39, t40, t41, t42, t43, t44, t45, t46, rfl, gw, f0, f1, f2, f3, f4, f5, f6, f7, f8, f9, f10, f11, f12, f13⟩ K hK
    have hn : ¬ done.getD 4 false = true := by rw [getD_both hnot]; decide
    have n13 : done.getD 13 false = false := by
      cases e : done.getD 13 false with
      | false => rfl
      | true => exact absurd ((f13 e).1 4 (by decide)) hn
    replace gw := gw n13
    have HK := PLift.up hK
    clear hK 
    simp only [gr8A]
    go_simp
    have gg : Gr w w := Gr.refl _
    refine HK.down _ _ ⟨_, _, _, _, _, _, _, _, _, _, _, _, _, rfl, fun _ => gw.step (by decide), fun q => f0 (done_old q (by decide)), fun q => f1 (done_old q (by decide)), fun q => f2 (done_old q (by decide)), fun q => f3 (done_old q (by decide)), fun _ => rfl, fun q => f5 (done_old q (by decide)), fun q => f6 (done_old q (by decide)), fun q => f7 (done_old q (by decide)), fun q => f8 (done_old q (by decide)), fun q => f9 (done_old q (by decide)), fun q => (let ⟨B, e, h2⟩ := f10 (done_old q (by decide)); ⟨B, e, fun q2 => (h2 (by rw [getD_set_ne false (by decide)] at q2; exact q2)).gr gg⟩), fun q => (let h := f11 (done_old q (by decide)); ⟨getD_set_true h.1, getD_set_true h.2⟩), fun q => f12 (done_old q (by decide)), fun q => absurd ((f13 (done_old q (by decide))).1 4 (by decide)) hn⟩
  · rintro done a w hsz hnot hdep ⟨t34, t35, t36, t37, t38, t39, t40, t41, t42, t43, t44, t45, t46, rfl, gw, f0, f1, f2, f3, f4, f5, f6, f7, f8, f9, f10, f11, f12, f13⟩ K hK
    have hn : ¬ done.getD 5 false = true := by rw [getD_both hnot]; decide
    have d4 := hdep 4 (by kernel_rfl)
    obtain rfl := f4 d4
    have n13 : done.getD 13 false = false := by
      cases e : done.getD 13 false with
      | false => rfl
      | true => exact absurd ((f13 e).1 5 (by decide)) hn
    replace gw := gw n13
    have c0 : w.cell? ⟨LB, 0, none⟩ = some (.int .i64 (i : Int)) := by have := gw.box.cell 0 (List.getElem?_eq_some_iff.1 HLB.down.1).1; rw [this]; exact congrArg some (List.getElem?_eq_some_iff.1 HLB.down.1).2
    have c1 : w.cell? ⟨LB, 1, none⟩ = some (.int .i64 x) := by have := gw.box.cell 1 (List.getElem?_eq_some_iff.1 HLB.down.2).1; rw [this]; exact congrArg some (List.getElem?_eq_some_iff.1 HLB.down.2).2
    have ch := has_of_cell c0
    have HK := PLift.up hK
    clear hK d4
    simp only [gr8A]
    go_simp
    have gg : Gr w w := Gr.refl _
    refine HK.down _ _ ⟨_, _, _, _, _, _, _, _, _, _, _, _, _, rfl, fun _ => gw.step (by decide), fun q => f0 (done_old q (by decide)), fun q => f1 (done_old q (by decide)), fun q => f2 (done_old q (by decide)), fun q => f3 (done_old q (by decide)), fun q => f4 (done_old q (by decide)), fun _ => rfl, fun q => f6 (done_old q (by decide)), fun q => f7 (done_old q (by decide)), fun q => f8 (done_old q (by decide)), fun q => f9 (done_old q (by decide)), fun q => (let ⟨B, e, h2⟩ := f10 (done_old q (by decide)); ⟨B, e, fun q2 => (h2 (by rw [getD_set_ne false (by decide)] at q2; exact q2)).gr gg⟩), fun q => (let h := f11 (done_old q (by decide)); ⟨getD_set_true h.1, getD_set_true h.2⟩), fun q => f12 (done_old q (by decide)), fun q => absurd ((f13 (done_old q (by decide))).1 5 (by decide)) hn⟩
  · rintro done a w hsz hnot hdep ⟨t34, t35, t36, t37, t38, t39, t40, t41, t42, t43, t44, t45, t46, rfl, gw, f0, f1, f2, f3, f4, f5, f6, f7, f8, f9, f10, f11, f12, f13⟩ K hK
    have hn : ¬ done.getD 6 false = true := by rw [getD_both hnot]; decide
    have d3 := hdep 3 (by kernel_rfl)
    have d5 := hdep 5 (by kernel_rfl)
    obtain rfl := f3 d3
    obtain rfl := f5 d5
    have n13 : done.getD 13 false = false := by
      cases e : done.getD 13 false with
      | false => rfl
      | true => exact absurd ((f13 e).1 6 (by decide)) hn
    replace gw := gw n13
    have k2 : (i : Int) < n := by have := HIN.down; omega
    have HK := PLift.up hK
    clear hK d3 d5
    simp only [gr8A]
    go_simp
    have gg : Gr w w := Gr.refl _
    refine HK.down _ _ ⟨_, _, _, _, _, _, _, _, _, _, _, _, _, rfl, fun _ => gw.step (by decide), fun q => f0 (done_old q (by decide)), fun q => f1 (done_old q (by decide)), fun q => f2 (done_old q (by decide)), fun q => f3 (done_old q (by decide)), fun q => f4 (done_old q (by decide)), fun q => f5 (done_old q (by decide)), fun _ => rfl, fun q => f7 (done_old q (by decide)), fun q => f8 (done_old q (by decide)), fun q => f9 (done_old q (by decide)), fun q => (let ⟨B, e, h2⟩ := f10 (done_old q (by decide)); ⟨B, e, fun q2 => (h2 (by rw [getD_set_ne false (by decide)] at q2; exact q2)).gr gg⟩), fun q => (let h := f11 (done_old q (by decide)); ⟨getD_set_true h.1, getD_set_true h.2⟩), fun q => f12 (done_old q (by decide)), fun q => absurd ((f13 (done_old q (by decide))).1 6 (by decide)) hn⟩
  · rintro done a w hsz hnot hdep ⟨t34, t35, t36, t37, t38, t39, t40, t41, t42, t43, t44, t45, t46, rfl, gw, f0, f1, f2, f3, f4, f5, f6, f7, f8, f9, f10, f11, f12, f13⟩ K hK
    have hn : ¬ done.getD 7 false = true := by rw [getD_both hnot]; decide
    have d6 := hdep 6 (by kernel_rfl)
    obtain rfl := f6 d6
    have n13 : done.getD 13 false = false := by
      cases e : done.getD 13 false with
      | false => rfl
      | true => exact absurd ((f13 e).1 7 (by decide)) hn
    replace gw := gw n13
    have hil : i < vs.length := (List.getElem?_eq_some_iff.1 HVI.down).1
    have c9 : w.cell? ⟨GB, i, none⟩ = some (.slice va gi.length vc) := by rw [gw.row.cell i hil]; exact congrArg some (List.getElem?_eq_some_iff.1 HVI.down).2
    have ch := has_of_cell c9
    have HK := PLift.up hK
    clear hK d6
    simp only [gr8A]
    go_simp
    have gg : Gr w w := Gr.refl _
    refine HK.down _ _ ⟨_, _, _, _, _, _, _, _, _, _, _, _, _, rfl, fun _ => gw.step (by decide), fun q => f0 (done_old q (by decide)), fun q => f1 (done_old q (by decide)), fun q => f2 (done_old q (by decide)), fun q => f3 (done_old q (by decide)), fun q => f4 (done_old q (by decide)), fun q => f5 (done_old q (by decide)), fun q => f6 (done_old q (by decide)), fun _ => rfl, fun q => f8 (done_old q (by decide)), fun q => f9 (done_old q (by decide)), fun q => (let ⟨B, e, h2⟩ := f10 (done_old q (by decide)); ⟨B, e, fun q2 => (h2 (by rw [getD_set_ne false (by decide)] at q2; exact q2)).gr gg⟩), fun q => absurd (f11 (done_old q (by decide))).1 hn, fun q => f12 (done_old q (by decide)), fun q => absurd ((f13 (done_old q (by decide))).1 7 (by decide)) hn⟩
  · rintro done a w hsz hnot hdep ⟨t34, t35, t36, t37, t38, t39, t40, t41, t42, t43, t44, t45, t46, rfl, gw, f0, f1, f2, f3, f4, f5, f6, f7, f8, f9, f10, f11, f12, f13⟩ K hK
    have hn : ¬ done.getD 8 false = true := by rw [getD_both hnot]; decide
    have n13 : done.getD 13 false = false := by
      cases e : done.getD 13 false with
      | false => rfl
      | true => exact absurd ((f13 e).1 8 (by decide)) hn
    replace gw := gw n13
    have HK := PLift.up hK
    clear hK 
    simp only [gr8A]
    go_simp
    have gg : Gr w w := Gr.refl _
    refine HK.down _ _ ⟨_, _, _, _, _, _, _, _, _, _, _, _, _, rfl, fun _ => gw.step (by decide), fun q => f0 (done_old q (by decide)), fun q => f1 (done_old q (by decide)), fun q => f2 (done_old q (by decide)), fun q => f3 (done_old q (by decide)), fun q => f4 (done_old q (by decide)), fun q => f5 (done_old q (by decide)), fun q => f6 (done_old q (by decide)), fun q => f7 (done_old q (by decide)), fun _ => rfl, fun q => f9 (done_old q (by decide)), fun q => (let ⟨B, e, h2⟩ := f10 (done_old q (by decide)); ⟨B, e, fun q2 => (h2 (by rw [getD_set_ne false (by decide)] at q2; exact q2)).gr gg⟩), fun q => (let h := f11 (done_old q (by decide)); ⟨getD_set_true h.1, getD_set_true h.2⟩), fun q => f12 (done_old q (by decide)), fun q => absurd ((f13 (done_old q (by decide))).1 8 (by decide)) hn⟩
  · rintro done a w hsz hnot hdep ⟨t34, t35, t36, t37, t38, t39, t40, t41, t42, t43, t44, t45, t46, rfl, gw, f0, f1, f2, f3, f4, f5, f6, f7, f8, f9, f10, f11, f12, f13⟩ K hK
    have hn : ¬ done.getD 9 false = true := by rw [getD_both hnot]; decide
    have d8 := hdep 8 (by kernel_rfl)
    obtain rfl := f8 d8
    have n13 : done.getD 13 false = false := by
      cases e : done.getD 13 false with
      | false => rfl
      | true => exact absurd ((f13 e).1 9 (by decide)) hn
    replace gw := gw n13
    have c0 : w.cell? ⟨LB, 0, none⟩ = some (.int .i64 (i : Int)) := by have := gw.box.cell 0 (List.getElem?_eq_some_iff.1 HLB.down.1).1; rw [this]; exact congrArg some (List.getElem?_eq_some_iff.1 HLB.down.1).2
    have c1 : w.cell? ⟨LB, 1, none⟩ = some (.int .i64 x) := by have := gw.box.cell 1 (List.getElem?_eq_some_iff.1 HLB.down.2).1; rw [this]; exact congrArg some (List.getElem?_eq_some_iff.1 HLB.down.2).2
    have ch := has_of_cell c0
    have HK := PLift.up hK
    clear hK d8
    simp only [gr8A]
    go_simp
    have gg : Gr w w := Gr.refl _
    refine HK.down _ _ ⟨_, _, _, _, _, _, _, _, _, _, _, _, _, rfl, fun _ => gw.step (by decide), fun q => f0 (done_old q (by decide)), fun q => f1 (done_old q (by decide)), fun q => f2 (done_old q (by decide)), fun q => f3 (done_old q (by decide)), fun q => f4 (done_old q (by decide)), fun q => f5 (done_old q (by decide)), fun q => f6 (done_old q (by decide)), fun q => f7 (done_old q (by decide)), fun q => f8 (done_old q (by decide)), fun _ => rfl, fun q => (let ⟨B, e, h2⟩ := f10 (done_old q (by decide)); ⟨B, e, fun q2 => (h2 (by rw [getD_set_ne false (by decide)] at q2; exact q2)).gr gg⟩), fun q => (let h := f11 (done_old q (by decide)); ⟨getD_set_true h.1, getD_set_true h.2⟩), fun q => f12 (done_old q (by decide)), fun q => absurd ((f13 (done_old q (by decide))).1 9 (by decide)) hn⟩
  · rintro done a w hsz hnot hdep ⟨t34, t35, t36, t37, t38, t39, t40, t41, t42, t43, t44, t45, t46, rfl, gw, f0, f1, f2, f3, f4, f5, f6, f7, f8, f9, f10, f11, f12, f13⟩ K hK
    have hn : ¬ done.getD 10 false = true := by rw [getD_both hnot]; decide
    have d9 := hdep 9 (by kernel_rfl)
    obtain rfl := f9 d9
    have n13 : done.getD 13 false = false := by
      cases e : done.getD 13 false with
      | false => rfl
      | true => exact absurd ((f13 e).1 10 (by decide)) hn
    replace gw := gw n13
    have n11 : done.getD 11 false = false := by
      cases e : done.getD 11 false with
      | false => rfl
      | true => exact absurd ((f11 e).2) hn
    have N11 := PLift.up n11
    clear n11
    have HK := PLift.up hK
    clear hK d9
    simp only [gr8A]
    go_simp
    have gg : Gr w (w.alloc (.cells #[.int .i64 x] 3)) := (Gr.refl _).alloc _
    refine HK.down _ _ ⟨_, _, _, _, _, _, _, _, _, _, _, _, _, rfl, fun _ => ⟨gw.box.gr gg, gw.row.gr gg, by rw [getD_set_ne false (by decide), N11.down]; exact Gr.trans (by have := gw.st; rw [N11.down] at this; exact this) gg⟩, fun q => f0 (done_old q (by decide)), fun q => f1 (done_old q (by decide)), fun q => f2 (done_old q (by decide)), fun q => f3 (done_old q (by decide)), fun q => f4 (done_old q (by decide)), fun q => f5 (done_old q (by decide)), fun q => f6 (done_old q (by decide)), fun q => f7 (done_old q (by decide)), fun q => f8 (done_old q (by decide)), fun q => f9 (done_old q (by decide)), ?_, fun q => absurd (f11 (done_old q (by decide))).2 hn, fun q => f12 (done_old q (by decide)), fun q => absurd ((f13 (done_old q (by decide))).1 10 (by decide)) hn⟩
    exact fun _ => ⟨_, rfl, fun _ => Row.new w _ _⟩
  · rintro done a w hsz hnot hdep ⟨t34, t35, t36, t37, t38, t39, t40, t41, t42, t43, t44, t45, t46, rfl, gw, f0, f1, f2, f3, f4, f5, f6, f7, f8, f9, f10, f11, f12, f13⟩ K hK
    have hn : ¬ done.getD 11 false = true := by rw [getD_both hnot]; decide
    have d7 := hdep 7 (by kernel_rfl)
    have d10 := hdep 10 (by kernel_rfl)
    obtain rfl := f7 d7
    have n13 : done.getD 13 false = false := by
      cases e : done.getD 13 false with
      | false => rfl
      | true => exact absurd ((f13 e).1 11 (by decide)) hn
    replace gw := gw n13
    have n11 := getD_both hnot
    obtain ⟨B, rfl, r3⟩ := f10 d10
    have gx : Gr wr w := by have := gw.st; rw [n11] at this; exact this
    refine step_append_gets _ rfl _ _ 38 rfl wb.heap.size 3 j0 (.int .i64 0) 1 8 Try.underlying38 hj hy0 hy1 hy2 rfl (by decide) (.slice va gi.length vc) gi.length (nums gi) (by simp [Act.eval, gr8A]) (Gr.owns HOW.down gx) (some ⟨B, 0, none⟩) 1 1 (nums [x]) (by simp [Act.eval, gr8A]) ⟨rfl, fun _ => ⟨_, rfl, row_cells (r3 n11)⟩⟩ (nums_one _) (by unfold maxLen; have := HGL.down; omega) (by have := HGL.down; omega) (by have := gx.size; have := HBS.down; omega) ?_
    intro v w2 hown hgrow hloc
    refine hK _ _ ⟨_, _, _, _, _, _, _, _, _, _, _, _, _, rfl, fun _ => ⟨gw.box.kept hgrow (gw.box.ty.ne (Gr.owns HOW.down gx) (by decide)), gw.row.kept hgrow (gw.row.ty.ne (Gr.owns HOW.down gx) (by decide)), by rw [getD_set_same (by rw [hsz]; decide)]; exact ⟨grown_after gx hgrow, by rw [List.length_append]; simpa [nums] using hown, hloc.imp id (fun e => ⟨_, e, gx.size⟩)⟩⟩, fun q => f0 (done_old q (by decide)), fun q => f1 (done_old q (by decide)), fun q => f2 (done_old q (by decide)), fun q => f3 (done_old q (by decide)), fun q => f4 (done_old q (by decide)), fun q => f5 (done_old q (by decide)), fun q => f6 (done_old q (by decide)), fun q => f7 (done_old q (by decide)), fun q => f8 (done_old q (by decide)), fun q => f9 (done_old q (by decide)), fun _ => ⟨B, rfl, fun q => absurd q (by rw [getD_set_same (by rw [hsz]; decide)]; decide)⟩, ?_, fun q => f12 (done_old q (by decide)), fun q => absurd ((f13 (done_old q (by decide))).1 11 (by decide)) hn⟩
    exact fun _ => ⟨getD_set_true d7, getD_set_true d10⟩
  · rintro done a w hsz hnot hdep ⟨t34, t35, t36, t37, t38, t39, t40, t41, t42, t43, t44, t45, t46, rfl, gw, f0, f1, f2, f3, f4, f5, f6, f7, f8, f9, f10, f11, f12, f13⟩ K hK
    have hn : ¬ done.getD 12 false = true := by rw [getD_both hnot]; decide
    have d0 := hdep 0 (by kernel_rfl)
    have d2 := hdep 2 (by kernel_rfl)
    obtain rfl := f0 d0
    obtain rfl := f2 d2
    have n13 : done.getD 13 false = false := by
      cases e : done.getD 13 false with
      | false => rfl
      | true => exact absurd ((f13 e).1 12 (by decide)) hn
    replace gw := gw n13
    have k2 : (i : Int) < n := by have := HIN.down; omega
    have HK := PLift.up hK
    clear hK d0 d2
    simp only [gr8A]
    go_simp
    have gg : Gr w w := Gr.refl _
    refine HK.down _ _ ⟨_, _, _, _, _, _, _, _, _, _, _, _, _, rfl, fun _ => gw.step (by decide), fun q => f0 (done_old q (by decide)), fun q => f1 (done_old q (by decide)), fun q => f2 (done_old q (by decide)), fun q => f3 (done_old q (by decide)), fun q => f4 (done_old q (by decide)), fun q => f5 (done_old q (by decide)), fun q => f6 (done_old q (by decide)), fun q => f7 (done_old q (by decide)), fun q => f8 (done_old q (by decide)), fun q => f9 (done_old q (by decide)), fun q => (let ⟨B, e, h2⟩ := f10 (done_old q (by decide)); ⟨B, e, fun q2 => (h2 (by rw [getD_set_ne false (by decide)] at q2; exact q2)).gr gg⟩), fun q => (let h := f11 (done_old q (by decide)); ⟨getD_set_true h.1, getD_set_true h.2⟩), fun _ => rfl, fun q => absurd ((f13 (done_old q (by decide))).1 12 (by decide)) hn⟩
  · rintro done a w hsz hnot hdep ⟨t34, t35, t36, t37, t38, t39, t40, t41, t42, t43, t44, t45, t46, rfl, gw, f0, f1, f2, f3, f4, f5, f6, f7, f8, f9, f10, f11, f12, f13⟩ K hK
    have hn : ¬ done.getD 13 false = true := by rw [getD_both hnot]; decide
    have d0 := hdep 0 (by kernel_rfl)
    have d1 := hdep 1 (by kernel_rfl)
    have d2 := hdep 2 (by kernel_rfl)
    have d3 := hdep 3 (by kernel_rfl)
    have d4 := hdep 4 (by kernel_rfl)
    have d5 := hdep 5 (by kernel_rfl)
    have d6 := hdep 6 (by kernel_rfl)
    have d7 := hdep 7 (by kernel_rfl)
    have d8 := hdep 8 (by kernel_rfl)
    have d9 := hdep 9 (by kernel_rfl)
    have d10 := hdep 10 (by kernel_rfl)
    have d11 := hdep 11 (by kernel_rfl)
    have d12 := hdep 12 (by kernel_rfl)
    obtain rfl := f0 d0
    obtain rfl := f1 d1
    obtain rfl := f2 d2
    obtain rfl := f3 d3
    obtain rfl := f4 d4
    obtain rfl := f5 d5
    obtain rfl := f6 d6
    obtain rfl := f7 d7
    obtain rfl := f8 d8
    obtain rfl := f9 d9
    obtain rfl := f12 d12
    have n13 := getD_both hnot
    have g1 := gw n13
    have s1 : St8 wb.heap.size wr va vc gi x t45 w true := by have := g1.st; rwa [d11] at this
    obtain ⟨a5, c5, e5⟩ := owns_slice s1.2.1
    rw [List.length_append] at e5
    simp only [List.length_cons, List.length_nil, Nat.zero_add] at e5
    have D11 := PLift.up d11
    have hil : i < vs.length := (List.getElem?_eq_some_iff.1 HVI.down).1
    have c9 : w.cell? ⟨GB, i, none⟩ = some (.slice va gi.length vc) := by rw [g1.row.cell i hil]; exact congrArg some (List.getElem?_eq_some_iff.1 HVI.down).2
    have cf := g1.row.free i
    have ch := has_of_cell c9
    have FN := PLift.up (show Fin8 wb.heap.size wr GB LB vs lb va vc gi x i (w.setCell ⟨GB, i, none⟩ t45) from ⟨t45, w, rfl, g1.box, g1.row, s1⟩)
    have DD := PLift.up (show ∀ j, j < 13 → done.getD j false = true from by intro j hj; match j, hj with | 0, _ => exact d0 | 1, _ => exact d1 | 2, _ => exact d2 | 3, _ => exact d3 | 4, _ => exact d4 | 5, _ => exact d5 | 6, _ => exact d6 | 7, _ => exact d7 | 8, _ => exact d8 | 9, _ => exact d9 | 10, _ => exact d10 | 11, _ => exact d11 | 12, _ => exact d12)
    subst e5
    have HK := PLift.up hK
    clear hK s1 g1 n13
    simp only [gr8A]
    go_simp
    refine HK.down _ _ ⟨_, _, _, _, _, _, _, _, _, _, _, _, _, rfl, fun q => absurd q (by rw [getD_set_same (by rw [hsz]; decide)]; decide), fun q => f0 (done_old q (by decide)), fun q => f1 (done_old q (by decide)), fun q => f2 (done_old q (by decide)), fun q => f3 (done_old q (by decide)), fun q => f4 (done_old q (by decide)), fun q => f5 (done_old q (by decide)), fun q => f6 (done_old q (by decide)), fun q => f7 (done_old q (by decide)), fun q => f8 (done_old q (by decide)), fun q => f9 (done_old q (by decide)), fun q => (let ⟨B, e, _⟩ := f10 (done_old q (by decide)); ⟨B, e, fun q2 => absurd (getD_set_true D11.down) (by rw [q2]; decide)⟩), fun q => (let h := f11 (done_old q (by decide)); ⟨getD_set_true h.1, getD_set_true h.2⟩), fun q => f12 (done_old q (by decide)), ?_⟩
    exact fun _ => ⟨fun j hj => getD_set_true (DD.down j hj), FN.down⟩
  · rintro done a w hall ⟨t34, t35, t36, t37, t38, t39, t40, t41, t42, t43, t44, t45, t46, rfl, gw, f0, f1, f2, f3, f4, f5, f6, f7, f8, f9, f10, f11, f12, f13⟩
    exact h' _ _ _ _ _ _ _ _ _ _ _ _ _ w (f13 (hall 13 (by decide))).2
end Go.Proofs.Ytdjhnfopdlgliaa

/- A statement that narrows one limit, by an invariant (printed by wip/tools/narrow.py). -/
import Derived.Test.YtenehghpmnajpaaDoorPcC
import Derived.Test.YtenehghpmnajpaaDoorLc
set_option linter.unusedVariables false
set_option linter.unusedSimpArgs false
namespace Go.Proofs.YtenehghpmnajpaaDoor
open Go.RowKit
open Classical

theorem encM_set (ms : List Lmt) (k : Nat) (hk : k < ms.length) (y : Int) : (ms.flatMap encM).set (k * 3 + 2) (.int .i64 y) = (ms.set k ⟨ms[k].clock, ms[k].low, y⟩).flatMap encM := by
  induction ms generalizing k with
  | nil => simp at hk
  | cons x xs ih =>
    cases k with
    | zero => simp [encM]
    | succ k =>
      have := ih k (by simpa using hk)
      have e : (k + 1) * 3 + 2 = (k * 3 + 2) + 3 := by omega
      rw [e]
      simp only [List.flatMap_cons, List.set_cons_succ, List.getElem_cons_succ]
      rw [← this]
      simp [encM]
/-- What is known of each slot as soon as its operation is done. -/
def nw6F (wb wr : World) (base : Nat) (n : Nat) (lo hi : Int) (b : Nat) (ms : List Lmt) (gm cm k : Nat) (hk : k < ms.length) (t30 t31 t32 t33 t34 t35 t36 t37 t38 t39 t40 t41 t42 t43 t44 t45 t46 t47 t48 : Value) (d : Array Bool) (w : World) : Prop :=
  (Mv b n wb w ∧ (d.getD 19 false = true ∨ w.ownsRow base 53 3 (.slice (some ⟨gm, 0, none⟩) ms.length cm) ms.length (ms.flatMap encM))) ∧ (d.getD 0 false = true → t30 = .slice (some ⟨gm, 0, none⟩) ms.length cm) ∧
  (d.getD 1 false = true → t31 = .int .i64 (k : Int)) ∧
  (d.getD 2 false = true → t32 = .slice (some ⟨gm, 0, none⟩) ms.length cm) ∧
  (d.getD 3 false = true → t33 = .int .i64 (k : Int)) ∧
  (d.getD 4 false = true → t34 = .pointer (some ⟨gm, k * 3, none⟩)) ∧
  (d.getD 5 false = true → t35 = .pointer (some ⟨gm, k * 3 + 1, none⟩)) ∧
  (d.getD 6 false = true → t36 = .int .i64 lo) ∧
  (d.getD 7 false = true → t37 = .slice (some ⟨gm, 0, none⟩) ms.length cm) ∧
  (d.getD 8 false = true → t38 = .int .i64 (k : Int)) ∧
  (d.getD 9 false = true → t39 = .pointer (some ⟨gm, k * 3, none⟩)) ∧
  (d.getD 10 false = true → t40 = .pointer (some ⟨gm, k * 3 + 2, none⟩)) ∧
  (d.getD 11 false = true → t41 = .int .i64 hi) ∧
  (d.getD 12 false = true → t42 = .pointer (some ⟨b, 0, none⟩)) ∧
  (d.getD 13 false = true → (∃ E, t43 = .slice (some ⟨E, 0, none⟩) 3 3 ∧ (d.getD 14 false = true ∨ (Row w E 3 (nums [1, 5, 100]) ∧ b < E)))) ∧
  (d.getD 14 false = true → (∃ x : Int, t44 = .int .i64 x ∧ 0 ≤ x ∧ x ≤ 100 ∧ d.getD 13 false = true)) ∧
  (d.getD 15 false = true → (∃ x : Int, t45 = .int .i64 (hi - x) ∧ 0 ≤ x ∧ x ≤ 100 ∧ d.getD 11 false = true ∧ d.getD 14 false = true ∧ d.getD 13 false = true)) ∧
  (d.getD 16 false = true → (∃ y : Int, t46 = .int .i64 y ∧ lo ≤ y ∧ y ≤ hi ∧ d.getD 6 false = true ∧ d.getD 11 false = true ∧ d.getD 14 false = true ∧ d.getD 13 false = true)) ∧
  (d.getD 17 false = true → t47 = .pointer (some ⟨gm, k * 3, none⟩)) ∧
  (d.getD 18 false = true → t48 = .pointer (some ⟨gm, k * 3 + 2, none⟩)) ∧
  (d.getD 19 false = true → (d.getD 6 false = true ∧ d.getD 11 false = true ∧ d.getD 13 false = true ∧ d.getD 14 false = true ∧ ∃ y : Int, lo ≤ y ∧ y ≤ hi ∧ w.ownsRow base 53 3 (.slice (some ⟨gm, 0, none⟩) ms.length cm) ms.length ((ms.set k ⟨ms[k].clock, ms[k].low, y⟩).flatMap encM)))
/-- The frame. -/
def nw6A (b : Nat) (ms : List Lmt) (gm cm k : Nat) (t30 t31 t32 t33 t34 t35 t36 t37 t38 t39 t40 t41 t42 t43 t44 t45 t46 t47 t48 s0 s1 s2 s4 s7 s8 s9 s10 s11 s12 s13 s14 s15 s16 s17 s18 s19 s20 s21 s22 s23 s24 s25 s26 s27 s28 s29 s49 s50 s51 s52 s53 s54 s55 s56 s57 s58 s59 s60 s61 s62 s63 s64 s65 s66 s67 s68 s69 s70 s71 s72 s73 s74 s75 s76 s77 s78 s79 s80 s81 s82 s83 s84 s85 s86 s87 s88 s89 s90 s91 s92 s93 s94 s95 s96 s97 s98 s99 s100 s101 : Value) : Act := { tmps := #[s0, s1, s2, .pointer (some ⟨b, 0, none⟩), s4, .slice (some ⟨gm, 0, none⟩) ms.length cm, .int .i64 (k : Int), s7, s8, s9, s10, s11, s12, s13, s14, s15, s16, s17, s18, s19, s20, s21, s22, s23, s24, s25, s26, s27, s28, s29, t30, t31, t32, t33, t34, t35, t36, t37, t38, t39, t40, t41, t42, t43, t44, t45, t46, t47, t48, s49, s50, s51, s52, s53, s54, s55, s56, s57, s58, s59, s60, s61, s62, s63, s64, s65, s66, s67, s68, s69, s70, s71, s72, s73, s74, s75, s76, s77, s78, s79, s80, s81, s82, s83, s84, s85, s86, s87, s88, s89, s90, s91, s92, s93, s94, s95, s96, s97, s98, s99, s100, s101], defers := [] }

set_option maxRecDepth 100000 in
set_option maxHeartbeats 4000000 in
theorem nw6 {Q : Exit → Act → World → Prop} {wb wr : World} {base : Nat} {n : Nat} {lo hi : Int} {b : Nat} {ms : List Lmt} {gm cm k : Nat} {hk : k < ms.length}  {s0 s1 s2 s4 s7 s8 s9 s10 s11 s12 s13 s14 s15 s16 s17 s18 s19 s20 s21 s22 s23 s24 s25 s26 s27 s28 s29 s30 s31 s32 s33 s34 s35 s36 s37 s38 s39 s40 s41 s42 s43 s44 s45 s46 s47 s48 s49 s50 s51 s52 s53 s54 s55 s56 s57 s58 s59 s60 s61 s62 s63 s64 s65 s66 s67 s68 s69 s70 s71 s72 s73 s74 s75 s76 s77 s78 s79 s80 s81 s82 s83 s84 s85 s86 s87 s88 s89 s90 s91 s92 s93 s94 s95 s96 s97 s98 s99 s100 s101 : Value} (TP0 : Tp wb b n) (hbw : b < wb.heap.size) (hbb : b < base) (hbase : wb.heap.size ≤ base) (hm0 : Mv b n wb wr) (hO0 : wr.ownsRow base 53 3 (.slice (some ⟨gm, 0, none⟩) ms.length cm) ms.length (ms.flatMap encM)) (hlo : ms[k].low = lo) (hhi : ms[k].high = hi) (l0 : 0 ≤ lo) (l1 : lo ≤ hi) (l2 : hi ≤ 4000000000) (k2 : (k : Int) < ms.length)
    (h' : ∀ t30 t31 t32 t33 t34 t35 t36 t37 t38 t39 t40 t41 t42 t43 t44 t45 t46 t47 t48 wx y, lo ≤ y → y ≤ hi → Mv b n wb wx → wx.ownsRow base 53 3 (.slice (some ⟨gm, 0, none⟩) ms.length cm) ms.length ((ms.set k ⟨ms[k].clock, ms[k].low, y⟩).flatMap encM) → Q .normal (nw6A b ms gm cm k t30 t31 t32 t33 t34 t35 t36 t37 t38 t39 t40 t41 t42 t43 t44 t45 t46 t47 t48 s0 s1 s2 s4 s7 s8 s9 s10 s11 s12 s13 s14 s15 s16 s17 s18 s19 s20 s21 s22 s23 s24 s25 s26 s27 s28 s29 s49 s50 s51 s52 s53 s54 s55 s56 s57 s58 s59 s60 s61 s62 s63 s64 s65 s66 s67 s68 s69 s70 s71 s72 s73 s74 s75 s76 s77 s78 s79 s80 s81 s82 s83 s84 s85 s86 s87 s88 s89 s90 s91 s92 s93 s94 s95 s96 s97 s98 s99 s100 s101) wx) :
    (Code.region 6 (regIn 6 Tryd.f9) true).wp Tryd.prog Q { tmps := #[s0, s1, s2, .pointer (some ⟨b, 0, none⟩), s4, .slice (some ⟨gm, 0, none⟩) ms.length cm, .int .i64 (k : Int), s7, s8, s9, s10, s11, s12, s13, s14, s15, s16, s17, s18, s19, s20, s21, s22, s23, s24, s25, s26, s27, s28, s29, s30, s31, s32, s33, s34, s35, s36, s37, s38, s39, s40, s41, s42, s43, s44, s45, s46, s47, s48, s49, s50, s51, s52, s53, s54, s55, s56, s57, s58, s59, s60, s61, s62, s63, s64, s65, s66, s67, s68, s69, s70, s71, s72, s73, s74, s75, s76, s77, s78, s79, s80, s81, s82, s83, s84, s85, s86, s87, s88, s89, s90, s91, s92, s93, s94, s95, s96, s97, s98, s99, s100, s101], defers := [] } wr := by
  have TP := PLift.up TP0
  have CE : PLift (∀ W : World, W.ownsRow base 53 3 (.slice (some ⟨gm, 0, none⟩) ms.length cm) ms.length (ms.flatMap encM) → W.cell? ⟨gm, k * 3 + 1, none⟩ = some (.int .i64 lo) ∧ W.cell? ⟨gm, k * 3 + 2, none⟩ = some (.int .i64 hi)) := PLift.up (fun W hW => by
    obtain ⟨g', c', ea, _, _, hc⟩ := owns_cell hW (by omega)
    cases ea
    have hf := fun j (hj : j < 3) => flat_at encM 3 (fun _ => rfl) ms k j hk hj
    have c1 : W.cell? ⟨gm, k * 3 + 1, none⟩ = some (.int .i64 lo) := by rw [hc (k * 3 + 1) (by omega), hf 1 (by omega), ← hlo]; rfl
    have c2 : W.cell? ⟨gm, k * 3 + 2, none⟩ = some (.int .i64 hi) := by rw [hc (k * 3 + 2) (by omega), hf 2 (by omega), ← hhi]; rfl
    exact ⟨c1, c2⟩)
  clear TP0
  simp only [regIn, Tryd.f9, regOps, Option.bind_some, Option.getD_some, Nat.beq, cond_true, cond_false]
  refine wp_region_steps (fun done a w => ∃ t30 t31 t32 t33 t34 t35 t36 t37 t38 t39 t40 t41 t42 t43 t44 t45 t46 t47 t48, a = nw6A b ms gm cm k t30 t31 t32 t33 t34 t35 t36 t37 t38 t39 t40 t41 t42 t43 t44 t45 t46 t47 t48 s0 s1 s2 s4 s7 s8 s9 s10 s11 s12 s13 s14 s15 s16 s17 s18 s19 s20 s21 s22 s23 s24 s25 s26 s27 s28 s29 s49 s50 s51 s52 s53 s54 s55 s56 s57 s58 s59 s60 s61 s62 s63 s64 s65 s66 s67 s68 s69 s70 s71 s72 s73 s74 s75 s76 s77 s78 s79 s80 s81 s82 s83 s84 s85 s86 s87 s88 s89 s90 s91 s92 s93 s94 s95 s96 s97 s98 s99 s100 s101 ∧ nw6F wb wr base n lo hi b ms gm cm k hk t30 t31 t32 t33 t34 t35 t36 t37 t38 t39 t40 t41 t42 t43 t44 t45 t46 t47 t48 done w) (by kernel_rfl) (by kernel_rfl) ?_ ⟨?_, ?_, ?_, ?_, ?_, ?_, ?_, ?_, ?_, ?_, ?_, ?_, ?_, ?_, ?_, ?_, ?_, ?_, ?_, ?_, trivial⟩ ?_
  · exact ⟨s30, s31, s32, s33, s34, s35, s36, s37, s38, s39, s40, s41, s42, s43, s44, s45, s46, s47, s48, rfl, ⟨hm0.gr (Gr.refl _).drew, .inr (Gr.owns hO0 (Gr.refl _).drew)⟩, fun q => absurd q (by decide), fun q => absurd q (by decide), fun q => absurd q (by decide), fun q => absurd q (by decide), fun q => absurd q (by decide), fun q => absurd q (by decide), fun q => absurd q (by decide), fun q => absurd q (by decide), fun q => absurd q (by decide), fun q => absurd q (by decide), fun q => absurd q (by decide), fun q => absurd q (by decide), fun q => absurd q (by decide), fun q => absurd q (by decide), fun q => absurd q (by decide), fun q => absurd q (by decide), fun q => absurd q (by decide), fun q => absurd q (by decide), fun q => absurd q (by decide), fun q => absurd q (by decide)⟩
  · rintro done a w hsz hnot hdep ⟨t30, t31, t32, t33, t34, t35, t36, t37, t38, t39, t40, t41, t42, t43, t44, t45, t46, t47, t48, rfl, gw, f0, f1, f2, f3, f4, f5, f6, f7, f8, f9, f10, f11, f12, f13, f14, f15, f16, f17, f18, f19⟩ K hK
    have hn : ¬ done.getD 0 false = true := by rw [getD_both hnot]; decide
    have HK := PLift.up hK
    clear hK 
    simp only [nw6A]
    go_simp
    have gg : Gr w w := Gr.refl _
    refine HK.down _ _ ⟨_, _, _, _, _, _, _, _, _, _, _, _, _, _, _, _, _, _, _, rfl, ⟨gw.1, gw.2.imp done_keep id⟩, fun _ => rfl, fun q => f1 (done_old q (by decide)), fun q => f2 (done_old q (by decide)), fun q => f3 (done_old q (by decide)), fun q => f4 (done_old q (by decide)), fun q => f5 (done_old q (by decide)), fun q => f6 (done_old q (by decide)), fun q => f7 (done_old q (by decide)), fun q => f8 (done_old q (by decide)), fun q => f9 (done_old q (by decide)), fun q => f10 (done_old q (by decide)), fun q => f11 (done_old q (by decide)), fun q => f12 (done_old q (by decide)), fun q => (let ⟨E, e, h⟩ := f13 (done_old q (by decide)); ⟨E, e, h.imp done_keep id⟩), fun q => (let ⟨z, e, z0, z1, h13⟩ := f14 (done_old q (by decide)); ⟨z, e, z0, z1, done_keep h13⟩), fun q => (let ⟨z, e, z0, z1, h11, h14, h13⟩ := f15 (done_old q (by decide)); ⟨z, e, z0, z1, done_keep h11, done_keep h14, done_keep h13⟩), fun q => (let ⟨z, e, z0, z1, h6, h11, h14, h13⟩ := f16 (done_old q (by decide)); ⟨z, e, z0, z1, done_keep h6, done_keep h11, done_keep h14, done_keep h13⟩), fun q => f17 (done_old q (by decide)), fun q => f18 (done_old q (by decide)), fun q => (let h := f19 (done_old q (by decide)); ⟨done_keep h.1, done_keep h.2.1, done_keep h.2.2.1, done_keep h.2.2.2.1, h.2.2.2.2⟩)⟩
  · rintro done a w hsz hnot hdep ⟨t30, t31, t32, t33, t34, t35, t36, t37, t38, t39, t40, t41, t42, t43, t44, t45, t46, t47, t48, rfl, gw, f0, f1, f2, f3, f4, f5, f6, f7, f8, f9, f10, f11, f12, f13, f14, f15, f16, f17, f18, f19⟩ K hK
    have hn : ¬ done.getD 1 false = true := by rw [getD_both hnot]; decide
    have HK := PLift.up hK
    clear hK 
    simp only [nw6A]
    go_simp
    have gg : Gr w w := Gr.refl _
    refine HK.down _ _ ⟨_, _, _, _, _, _, _, _, _, _, _, _, _, _, _, _, _, _, _, rfl, ⟨gw.1, gw.2.imp done_keep id⟩, fun q => f0 (done_old q (by decide)), fun _ => rfl, fun q => f2 (done_old q (by decide)), fun q => f3 (done_old q (by decide)), fun q => f4 (done_old q (by decide)), fun q => f5 (done_old q (by decide)), fun q => f6 (done_old q (by decide)), fun q => f7 (done_old q (by decide)), fun q => f8 (done_old q (by decide)), fun q => f9 (done_old q (by decide)), fun q => f10 (done_old q (by decide)), fun q => f11 (done_old q (by decide)), fun q => f12 (done_old q (by decide)), fun q => (let ⟨E, e, h⟩ := f13 (done_old q (by decide)); ⟨E, e, h.imp done_keep id⟩), fun q => (let ⟨z, e, z0, z1, h13⟩ := f14 (done_old q (by decide)); ⟨z, e, z0, z1, done_keep h13⟩), fun q => (let ⟨z, e, z0, z1, h11, h14, h13⟩ := f15 (done_old q (by decide)); ⟨z, e, z0, z1, done_keep h11, done_keep h14, done_keep h13⟩), fun q => (let ⟨z, e, z0, z1, h6, h11, h14, h13⟩ := f16 (done_old q (by decide)); ⟨z, e, z0, z1, done_keep h6, done_keep h11, done_keep h14, done_keep h13⟩), fun q => f17 (done_old q (by decide)), fun q => f18 (done_old q (by decide)), fun q => (let h := f19 (done_old q (by decide)); ⟨done_keep h.1, done_keep h.2.1, done_keep h.2.2.1, done_keep h.2.2.2.1, h.2.2.2.2⟩)⟩
  · rintro done a w hsz hnot hdep ⟨t30, t31, t32, t33, t34, t35, t36, t37, t38, t39, t40, t41, t42, t43, t44, t45, t46, t47, t48, rfl, gw, f0, f1, f2, f3, f4, f5, f6, f7, f8, f9, f10, f11, f12, f13, f14, f15, f16, f17, f18, f19⟩ K hK
    have hn : ¬ done.getD 2 false = true := by rw [getD_both hnot]; decide
    have HK := PLift.up hK
    clear hK 
    simp only [nw6A]
    go_simp
    have gg : Gr w w := Gr.refl _
    refine HK.down _ _ ⟨_, _, _, _, _, _, _, _, _, _, _, _, _, _, _, _, _, _, _, rfl, ⟨gw.1, gw.2.imp done_keep id⟩, fun q => f0 (done_old q (by decide)), fun q => f1 (done_old q (by decide)), fun _ => rfl, fun q => f3 (done_old q (by decide)), fun q => f4 (done_old q (by decide)), fun q => f5 (done_old q (by decide)), fun q => f6 (done_old q (by decide)), fun q => f7 (done_old q (by decide)), fun q => f8 (done_old q (by decide)), fun q => f9 (done_old q (by decide)), fun q => f10 (done_old q (by decide)), fun q => f11 (done_old q (by decide)), fun q => f12 (done_old q (by decide)), fun q => (let ⟨E, e, h⟩ := f13 (done_old q (by decide)); ⟨E, e, h.imp done_keep id⟩), fun q => (let ⟨z, e, z0, z1, h13⟩ := f14 (done_old q (by decide)); ⟨z, e, z0, z1, done_keep h13⟩), fun q => (let ⟨z, e, z0, z1, h11, h14, h13⟩ := f15 (done_old q (by decide)); ⟨z, e, z0, z1, done_keep h11, done_keep h14, done_keep h13⟩), fun q => (let ⟨z, e, z0, z1, h6, h11, h14, h13⟩ := f16 (done_old q (by decide)); ⟨z, e, z0, z1, done_keep h6, done_keep h11, done_keep h14, done_keep h13⟩), fun q => f17 (done_old q (by decide)), fun q => f18 (done_old q (by decide)), fun q => (let h := f19 (done_old q (by decide)); ⟨done_keep h.1, done_keep h.2.1, done_keep h.2.2.1, done_keep h.2.2.2.1, h.2.2.2.2⟩)⟩
  · rintro done a w hsz hnot hdep ⟨t30, t31, t32, t33, t34, t35, t36, t37, t38, t39, t40, t41, t42, t43, t44, t45, t46, t47, t48, rfl, gw, f0, f1, f2, f3, f4, f5, f6, f7, f8, f9, f10, f11, f12, f13, f14, f15, f16, f17, f18, f19⟩ K hK
    have hn : ¬ done.getD 3 false = true := by rw [getD_both hnot]; decide
    have HK := PLift.up hK
    clear hK 
    simp only [nw6A]
    go_simp
    have gg : Gr w w := Gr.refl _
    refine HK.down _ _ ⟨_, _, _, _, _, _, _, _, _, _, _, _, _, _, _, _, _, _, _, rfl, ⟨gw.1, gw.2.imp done_keep id⟩, fun q => f0 (done_old q (by decide)), fun q => f1 (done_old q (by decide)), fun q => f2 (done_old q (by decide)), fun _ => rfl, fun q => f4 (done_old q (by decide)), fun q => f5 (done_old q (by decide)), fun q => f6 (done_old q (by decide)), fun q => f7 (done_old q (by decide)), fun q => f8 (done_old q (by decide)), fun q => f9 (done_old q (by decide)), fun q => f10 (done_old q (by decide)), fun q => f11 (done_old q (by decide)), fun q => f12 (done_old q (by decide)), fun q => (let ⟨E, e, h⟩ := f13 (done_old q (by decide)); ⟨E, e, h.imp done_keep id⟩), fun q => (let ⟨z, e, z0, z1, h13⟩ := f14 (done_old q (by decide)); ⟨z, e, z0, z1, done_keep h13⟩), fun q => (let ⟨z, e, z0, z1, h11, h14, h13⟩ := f15 (done_old q (by decide)); ⟨z, e, z0, z1, done_keep h11, done_keep h14, done_keep h13⟩), fun q => (let ⟨z, e, z0, z1, h6, h11, h14, h13⟩ := f16 (done_old q (by decide)); ⟨z, e, z0, z1, done_keep h6, done_keep h11, done_keep h14, done_keep h13⟩), fun q => f17 (done_old q (by decide)), fun q => f18 (done_old q (by decide)), fun q => (let h := f19 (done_old q (by decide)); ⟨done_keep h.1, done_keep h.2.1, done_keep h.2.2.1, done_keep h.2.2.2.1, h.2.2.2.2⟩)⟩
  · rintro done a w hsz hnot hdep ⟨t30, t31, t32, t33, t34, t35, t36, t37, t38, t39, t40, t41, t42, t43, t44, t45, t46, t47, t48, rfl, gw, f0, f1, f2, f3, f4, f5, f6, f7, f8, f9, f10, f11, f12, f13, f14, f15, f16, f17, f18, f19⟩ K hK
    have hn : ¬ done.getD 4 false = true := by rw [getD_both hnot]; decide
    have d2 := hdep 2 (by kernel_rfl)
    have d3 := hdep 3 (by kernel_rfl)
    obtain rfl := f2 d2
    obtain rfl := f3 d3
    have HK := PLift.up hK
    clear hK d2 d3
    simp only [nw6A]
    go_simp
    have gg : Gr w w := Gr.refl _
    refine HK.down _ _ ⟨_, _, _, _, _, _, _, _, _, _, _, _, _, _, _, _, _, _, _, rfl, ⟨gw.1, gw.2.imp done_keep id⟩, fun q => f0 (done_old q (by decide)), fun q => f1 (done_old q (by decide)), fun q => f2 (done_old q (by decide)), fun q => f3 (done_old q (by decide)), fun _ => rfl, fun q => f5 (done_old q (by decide)), fun q => f6 (done_old q (by decide)), fun q => f7 (done_old q (by decide)), fun q => f8 (done_old q (by decide)), fun q => f9 (done_old q (by decide)), fun q => f10 (done_old q (by decide)), fun q => f11 (done_old q (by decide)), fun q => f12 (done_old q (by decide)), fun q => (let ⟨E, e, h⟩ := f13 (done_old q (by decide)); ⟨E, e, h.imp done_keep id⟩), fun q => (let ⟨z, e, z0, z1, h13⟩ := f14 (done_old q (by decide)); ⟨z, e, z0, z1, done_keep h13⟩), fun q => (let ⟨z, e, z0, z1, h11, h14, h13⟩ := f15 (done_old q (by decide)); ⟨z, e, z0, z1, done_keep h11, done_keep h14, done_keep h13⟩), fun q => (let ⟨z, e, z0, z1, h6, h11, h14, h13⟩ := f16 (done_old q (by decide)); ⟨z, e, z0, z1, done_keep h6, done_keep h11, done_keep h14, done_keep h13⟩), fun q => f17 (done_old q (by decide)), fun q => f18 (done_old q (by decide)), fun q => (let h := f19 (done_old q (by decide)); ⟨done_keep h.1, done_keep h.2.1, done_keep h.2.2.1, done_keep h.2.2.2.1, h.2.2.2.2⟩)⟩
  · rintro done a w hsz hnot hdep ⟨t30, t31, t32, t33, t34, t35, t36, t37, t38, t39, t40, t41, t42, t43, t44, t45, t46, t47, t48, rfl, gw, f0, f1, f2, f3, f4, f5, f6, f7, f8, f9, f10, f11, f12, f13, f14, f15, f16, f17, f18, f19⟩ K hK
    have hn : ¬ done.getD 5 false = true := by rw [getD_both hnot]; decide
    have d4 := hdep 4 (by kernel_rfl)
    obtain rfl := f4 d4
    have HK := PLift.up hK
    clear hK d4
    simp only [nw6A]
    go_simp
    have gg : Gr w w := Gr.refl _
    refine HK.down _ _ ⟨_, _, _, _, _, _, _, _, _, _, _, _, _, _, _, _, _, _, _, rfl, ⟨gw.1, gw.2.imp done_keep id⟩, fun q => f0 (done_old q (by decide)), fun q => f1 (done_old q (by decide)), fun q => f2 (done_old q (by decide)), fun q => f3 (done_old q (by decide)), fun q => f4 (done_old q (by decide)), fun _ => rfl, fun q => f6 (done_old q (by decide)), fun q => f7 (done_old q (by decide)), fun q => f8 (done_old q (by decide)), fun q => f9 (done_old q (by decide)), fun q => f10 (done_old q (by decide)), fun q => f11 (done_old q (by decide)), fun q => f12 (done_old q (by decide)), fun q => (let ⟨E, e, h⟩ := f13 (done_old q (by decide)); ⟨E, e, h.imp done_keep id⟩), fun q => (let ⟨z, e, z0, z1, h13⟩ := f14 (done_old q (by decide)); ⟨z, e, z0, z1, done_keep h13⟩), fun q => (let ⟨z, e, z0, z1, h11, h14, h13⟩ := f15 (done_old q (by decide)); ⟨z, e, z0, z1, done_keep h11, done_keep h14, done_keep h13⟩), fun q => (let ⟨z, e, z0, z1, h6, h11, h14, h13⟩ := f16 (done_old q (by decide)); ⟨z, e, z0, z1, done_keep h6, done_keep h11, done_keep h14, done_keep h13⟩), fun q => f17 (done_old q (by decide)), fun q => f18 (done_old q (by decide)), fun q => (let h := f19 (done_old q (by decide)); ⟨done_keep h.1, done_keep h.2.1, done_keep h.2.2.1, done_keep h.2.2.2.1, h.2.2.2.2⟩)⟩
  · rintro done a w hsz hnot hdep ⟨t30, t31, t32, t33, t34, t35, t36, t37, t38, t39, t40, t41, t42, t43, t44, t45, t46, t47, t48, rfl, gw, f0, f1, f2, f3, f4, f5, f6, f7, f8, f9, f10, f11, f12, f13, f14, f15, f16, f17, f18, f19⟩ K hK
    have hn : ¬ done.getD 6 false = true := by rw [getD_both hnot]; decide
    have d5 := hdep 5 (by kernel_rfl)
    obtain rfl := f5 d5
    have nS : ¬ done.getD 19 false = true := fun h => hn (f19 h).1
    have hO := gw.2.resolve_left nS
    obtain ⟨g', c', ea, _, _, hc⟩ := owns_cell hO (by omega)
    cases ea
    have c0 : w.cell? ⟨gm, k * 3 + 1, none⟩ = some (.int .i64 lo) := by have := CE.down w hO; exact this.1
    have ch := has_of_cell c0
    clear hc hO
    have HK := PLift.up hK
    clear hK d5
    simp only [nw6A]
    go_simp
    have gg : Gr w w := Gr.refl _
    refine HK.down _ _ ⟨_, _, _, _, _, _, _, _, _, _, _, _, _, _, _, _, _, _, _, rfl, ⟨gw.1, gw.2.imp done_keep id⟩, fun q => f0 (done_old q (by decide)), fun q => f1 (done_old q (by decide)), fun q => f2 (done_old q (by decide)), fun q => f3 (done_old q (by decide)), fun q => f4 (done_old q (by decide)), fun q => f5 (done_old q (by decide)), fun _ => rfl, fun q => f7 (done_old q (by decide)), fun q => f8 (done_old q (by decide)), fun q => f9 (done_old q (by decide)), fun q => f10 (done_old q (by decide)), fun q => f11 (done_old q (by decide)), fun q => f12 (done_old q (by decide)), fun q => (let ⟨E, e, h⟩ := f13 (done_old q (by decide)); ⟨E, e, h.imp done_keep id⟩), fun q => (let ⟨z, e, z0, z1, h13⟩ := f14 (done_old q (by decide)); ⟨z, e, z0, z1, done_keep h13⟩), fun q => (let ⟨z, e, z0, z1, h11, h14, h13⟩ := f15 (done_old q (by decide)); ⟨z, e, z0, z1, done_keep h11, done_keep h14, done_keep h13⟩), fun q => (let ⟨z, e, z0, z1, h6, h11, h14, h13⟩ := f16 (done_old q (by decide)); ⟨z, e, z0, z1, done_keep h6, done_keep h11, done_keep h14, done_keep h13⟩), fun q => f17 (done_old q (by decide)), fun q => f18 (done_old q (by decide)), fun q => absurd (done_old q (by decide)) nS⟩
  · rintro done a w hsz hnot hdep ⟨t30, t31, t32, t33, t34, t35, t36, t37, t38, t39, t40, t41, t42, t43, t44, t45, t46, t47, t48, rfl, gw, f0, f1, f2, f3, f4, f5, f6, f7, f8, f9, f10, f11, f12, f13, f14, f15, f16, f17, f18, f19⟩ K hK
    have hn : ¬ done.getD 7 false = true := by rw [getD_both hnot]; decide
    have HK := PLift.up hK
    clear hK 
    simp only [nw6A]
    go_simp
    have gg : Gr w w := Gr.refl _
    refine HK.down _ _ ⟨_, _, _, _, _, _, _, _, _, _, _, _, _, _, _, _, _, _, _, rfl, ⟨gw.1, gw.2.imp done_keep id⟩, fun q => f0 (done_old q (by decide)), fun q => f1 (done_old q (by decide)), fun q => f2 (done_old q (by decide)), fun q => f3 (done_old q (by decide)), fun q => f4 (done_old q (by decide)), fun q => f5 (done_old q (by decide)), fun q => f6 (done_old q (by decide)), fun _ => rfl, fun q => f8 (done_old q (by decide)), fun q => f9 (done_old q (by decide)), fun q => f10 (done_old q (by decide)), fun q => f11 (done_old q (by decide)), fun q => f12 (done_old q (by decide)), fun q => (let ⟨E, e, h⟩ := f13 (done_old q (by decide)); ⟨E, e, h.imp done_keep id⟩), fun q => (let ⟨z, e, z0, z1, h13⟩ := f14 (done_old q (by decide)); ⟨z, e, z0, z1, done_keep h13⟩), fun q => (let ⟨z, e, z0, z1, h11, h14, h13⟩ := f15 (done_old q (by decide)); ⟨z, e, z0, z1, done_keep h11, done_keep h14, done_keep h13⟩), fun q => (let ⟨z, e, z0, z1, h6, h11, h14, h13⟩ := f16 (done_old q (by decide)); ⟨z, e, z0, z1, done_keep h6, done_keep h11, done_keep h14, done_keep h13⟩), fun q => f17 (done_old q (by decide)), fun q => f18 (done_old q (by decide)), fun q => (let h := f19 (done_old q (by decide)); ⟨done_keep h.1, done_keep h.2.1, done_keep h.2.2.1, done_keep h.2.2.2.1, h.2.2.2.2⟩)⟩
  · rintro done a w hsz hnot hdep ⟨t30, t31, t32, t33, t34, t35, t36, t37, t38, t39, t40, t41, t42, t43, t44, t45, t46, t47, t48, rfl, gw, f0, f1, f2, f3, f4, f5, f6, f7, f8, f9, f10, f11, f12, f13, f14, f15, f16, f17, f18, f19⟩ K hK
    have hn : ¬ done.getD 8 false = true := by rw [getD_both hnot]; decide
    have HK := PLift.up hK
    clear hK 
    simp only [nw6A]
    go_simp
    have gg : Gr w w := Gr.refl _
    refine HK.down _ _ ⟨_, _, _, _, _, _, _, _, _, _, _, _, _, _, _, _, _, _, _, rfl, ⟨gw.1, gw.2.imp done_keep id⟩, fun q => f0 (done_old q (by decide)), fun q => f1 (done_old q (by decide)), fun q => f2 (done_old q (by decide)), fun q => f3 (done_old q (by decide)), fun q => f4 (done_old q (by decide)), fun q => f5 (done_old q (by decide)), fun q => f6 (done_old q (by decide)), fun q => f7 (done_old q (by decide)), fun _ => rfl, fun q => f9 (done_old q (by decide)), fun q => f10 (done_old q (by decide)), fun q => f11 (done_old q (by decide)), fun q => f12 (done_old q (by decide)), fun q => (let ⟨E, e, h⟩ := f13 (done_old q (by decide)); ⟨E, e, h.imp done_keep id⟩), fun q => (let ⟨z, e, z0, z1, h13⟩ := f14 (done_old q (by decide)); ⟨z, e, z0, z1, done_keep h13⟩), fun q => (let ⟨z, e, z0, z1, h11, h14, h13⟩ := f15 (done_old q (by decide)); ⟨z, e, z0, z1, done_keep h11, done_keep h14, done_keep h13⟩), fun q => (let ⟨z, e, z0, z1, h6, h11, h14, h13⟩ := f16 (done_old q (by decide)); ⟨z, e, z0, z1, done_keep h6, done_keep h11, done_keep h14, done_keep h13⟩), fun q => f17 (done_old q (by decide)), fun q => f18 (done_old q (by decide)), fun q => (let h := f19 (done_old q (by decide)); ⟨done_keep h.1, done_keep h.2.1, done_keep h.2.2.1, done_keep h.2.2.2.1, h.2.2.2.2⟩)⟩
  · rintro done a w hsz hnot hdep ⟨t30, t31, t32, t33, t34, t35, t36, t37, t38, t39, t40, t41, t42, t43, t44, t45, t46, t47, t48, rfl, gw, f0, f1, f2, f3, f4, f5, f6, f7, f8, f9, f10, f11, f12, f13, f14, f15, f16, f17, f18, f19⟩ K hK
    have hn : ¬ done.getD 9 false = true := by rw [getD_both hnot]; decide
    have d7 := hdep 7 (by kernel_rfl)
    have d8 := hdep 8 (by kernel_rfl)
    obtain rfl := f7 d7
    obtain rfl := f8 d8
    have HK := PLift.up hK
    clear hK d7 d8
    simp only [nw6A]
    go_simp
    have gg : Gr w w := Gr.refl _
    refine HK.down _ _ ⟨_, _, _, _, _, _, _, _, _, _, _, _, _, _, _, _, _, _, _, rfl, ⟨gw.1, gw.2.imp done_keep id⟩, fun q => f0 (done_old q (by decide)), fun q => f1 (done_old q (by decide)), fun q => f2 (done_old q (by decide)), fun q => f3 (done_old q (by decide)), fun q => f4 (done_old q (by decide)), fun q => f5 (done_old q (by decide)), fun q => f6 (done_old q (by decide)), fun q => f7 (done_old q (by decide)), fun q => f8 (done_old q (by decide)), fun _ => rfl, fun q => f10 (done_old q (by decide)), fun q => f11 (done_old q (by decide)), fun q => f12 (done_old q (by decide)), fun q => (let ⟨E, e, h⟩ := f13 (done_old q (by decide)); ⟨E, e, h.imp done_keep id⟩), fun q => (let ⟨z, e, z0, z1, h13⟩ := f14 (done_old q (by decide)); ⟨z, e, z0, z1, done_keep h13⟩), fun q => (let ⟨z, e, z0, z1, h11, h14, h13⟩ := f15 (done_old q (by decide)); ⟨z, e, z0, z1, done_keep h11, done_keep h14, done_keep h13⟩), fun q => (let ⟨z, e, z0, z1, h6, h11, h14, h13⟩ := f16 (done_old q (by decide)); ⟨z, e, z0, z1, done_keep h6, done_keep h11, done_keep h14, done_keep h13⟩), fun q => f17 (done_old q (by decide)), fun q => f18 (done_old q (by decide)), fun q => (let h := f19 (done_old q (by decide)); ⟨done_keep h.1, done_keep h.2.1, done_keep h.2.2.1, done_keep h.2.2.2.1, h.2.2.2.2⟩)⟩
  · rintro done a w hsz hnot hdep ⟨t30, t31, t32, t33, t34, t35, t36, t37, t38, t39, t40, t41, t42, t43, t44, t45, t46, t47, t48, rfl, gw, f0, f1, f2, f3, f4, f5, f6, f7, f8, f9, f10, f11, f12, f13, f14, f15, f16, f17, f18, f19⟩ K hK
    have hn : ¬ done.getD 10 false = true := by rw [getD_both hnot]; decide
    have d9 := hdep 9 (by kernel_rfl)
    obtain rfl := f9 d9
    have HK := PLift.up hK
    clear hK d9
    simp only [nw6A]
    go_simp
    have gg : Gr w w := Gr.refl _
    refine HK.down _ _ ⟨_, _, _, _, _, _, _, _, _, _, _, _, _, _, _, _, _, _, _, rfl, ⟨gw.1, gw.2.imp done_keep id⟩, fun q => f0 (done_old q (by decide)), fun q => f1 (done_old q (by decide)), fun q => f2 (done_old q (by decide)), fun q => f3 (done_old q (by decide)), fun q => f4 (done_old q (by decide)), fun q => f5 (done_old q (by decide)), fun q => f6 (done_old q (by decide)), fun q => f7 (done_old q (by decide)), fun q => f8 (done_old q (by decide)), fun q => f9 (done_old q (by decide)), fun _ => rfl, fun q => f11 (done_old q (by decide)), fun q => f12 (done_old q (by decide)), fun q => (let ⟨E, e, h⟩ := f13 (done_old q (by decide)); ⟨E, e, h.imp done_keep id⟩), fun q => (let ⟨z, e, z0, z1, h13⟩ := f14 (done_old q (by decide)); ⟨z, e, z0, z1, done_keep h13⟩), fun q => (let ⟨z, e, z0, z1, h11, h14, h13⟩ := f15 (done_old q (by decide)); ⟨z, e, z0, z1, done_keep h11, done_keep h14, done_keep h13⟩), fun q => (let ⟨z, e, z0, z1, h6, h11, h14, h13⟩ := f16 (done_old q (by decide)); ⟨z, e, z0, z1, done_keep h6, done_keep h11, done_keep h14, done_keep h13⟩), fun q => f17 (done_old q (by decide)), fun q => f18 (done_old q (by decide)), fun q => (let h := f19 (done_old q (by decide)); ⟨done_keep h.1, done_keep h.2.1, done_keep h.2.2.1, done_keep h.2.2.2.1, h.2.2.2.2⟩)⟩
  · rintro done a w hsz hnot hdep ⟨t30, t31, t32, t33, t34, t35, t36, t37, t38, t39, t40, t41, t42, t43, t44, t45, t46, t47, t48, rfl, gw, f0, f1, f2, f3, f4, f5, f6, f7, f8, f9, f10, f11, f12, f13, f14, f15, f16, f17, f18, f19⟩ K hK
    have hn : ¬ done.getD 11 false = true := by rw [getD_both hnot]; decide
    have d10 := hdep 10 (by kernel_rfl)
    obtain rfl := f10 d10
    have nS : ¬ done.getD 19 false = true := fun h => hn (f19 h).2.1
    have hO := gw.2.resolve_left nS
    obtain ⟨g', c', ea, _, _, hc⟩ := owns_cell hO (by omega)
    cases ea
    have c0 : w.cell? ⟨gm, k * 3 + 2, none⟩ = some (.int .i64 hi) := by have := CE.down w hO; exact this.2
    have ch := has_of_cell c0
    clear hc hO
    have HK := PLift.up hK
    clear hK d10
    simp only [nw6A]
    go_simp
    have gg : Gr w w := Gr.refl _
    refine HK.down _ _ ⟨_, _, _, _, _, _, _, _, _, _, _, _, _, _, _, _, _, _, _, rfl, ⟨gw.1, gw.2.imp done_keep id⟩, fun q => f0 (done_old q (by decide)), fun q => f1 (done_old q (by decide)), fun q => f2 (done_old q (by decide)), fun q => f3 (done_old q (by decide)), fun q => f4 (done_old q (by decide)), fun q => f5 (done_old q (by decide)), fun q => f6 (done_old q (by decide)), fun q => f7 (done_old q (by decide)), fun q => f8 (done_old q (by decide)), fun q => f9 (done_old q (by decide)), fun q => f10 (done_old q (by decide)), fun _ => rfl, fun q => f12 (done_old q (by decide)), fun q => (let ⟨E, e, h⟩ := f13 (done_old q (by decide)); ⟨E, e, h.imp done_keep id⟩), fun q => (let ⟨z, e, z0, z1, h13⟩ := f14 (done_old q (by decide)); ⟨z, e, z0, z1, done_keep h13⟩), fun q => (let ⟨z, e, z0, z1, h11, h14, h13⟩ := f15 (done_old q (by decide)); ⟨z, e, z0, z1, done_keep h11, done_keep h14, done_keep h13⟩), fun q => (let ⟨z, e, z0, z1, h6, h11, h14, h13⟩ := f16 (done_old q (by decide)); ⟨z, e, z0, z1, done_keep h6, done_keep h11, done_keep h14, done_keep h13⟩), fun q => f17 (done_old q (by decide)), fun q => f18 (done_old q (by decide)), fun q => absurd (done_old q (by decide)) nS⟩
  · rintro done a w hsz hnot hdep ⟨t30, t31, t32, t33, t34, t35, t36, t37, t38, t39, t40, t41, t42, t43, t44, t45, t46, t47, t48, rfl, gw, f0, f1, f2, f3, f4, f5, f6, f7, f8, f9, f10, f11, f12, f13, f14, f15, f16, f17, f18, f19⟩ K hK
    have hn : ¬ done.getD 12 false = true := by rw [getD_both hnot]; decide
    have HK := PLift.up hK
    clear hK 
    simp only [nw6A]
    go_simp
    have gg : Gr w w := Gr.refl _
    refine HK.down _ _ ⟨_, _, _, _, _, _, _, _, _, _, _, _, _, _, _, _, _, _, _, rfl, ⟨gw.1, gw.2.imp done_keep id⟩, fun q => f0 (done_old q (by decide)), fun q => f1 (done_old q (by decide)), fun q => f2 (done_old q (by decide)), fun q => f3 (done_old q (by decide)), fun q => f4 (done_old q (by decide)), fun q => f5 (done_old q (by decide)), fun q => f6 (done_old q (by decide)), fun q => f7 (done_old q (by decide)), fun q => f8 (done_old q (by decide)), fun q => f9 (done_old q (by decide)), fun q => f10 (done_old q (by decide)), fun q => f11 (done_old q (by decide)), fun _ => rfl, fun q => (let ⟨E, e, h⟩ := f13 (done_old q (by decide)); ⟨E, e, h.imp done_keep id⟩), fun q => (let ⟨z, e, z0, z1, h13⟩ := f14 (done_old q (by decide)); ⟨z, e, z0, z1, done_keep h13⟩), fun q => (let ⟨z, e, z0, z1, h11, h14, h13⟩ := f15 (done_old q (by decide)); ⟨z, e, z0, z1, done_keep h11, done_keep h14, done_keep h13⟩), fun q => (let ⟨z, e, z0, z1, h6, h11, h14, h13⟩ := f16 (done_old q (by decide)); ⟨z, e, z0, z1, done_keep h6, done_keep h11, done_keep h14, done_keep h13⟩), fun q => f17 (done_old q (by decide)), fun q => f18 (done_old q (by decide)), fun q => (let h := f19 (done_old q (by decide)); ⟨done_keep h.1, done_keep h.2.1, done_keep h.2.2.1, done_keep h.2.2.2.1, h.2.2.2.2⟩)⟩
  · rintro done a w hsz hnot hdep ⟨t30, t31, t32, t33, t34, t35, t36, t37, t38, t39, t40, t41, t42, t43, t44, t45, t46, t47, t48, rfl, gw, f0, f1, f2, f3, f4, f5, f6, f7, f8, f9, f10, f11, f12, f13, f14, f15, f16, f17, f18, f19⟩ K hK
    have hn : ¬ done.getD 13 false = true := by rw [getD_both hnot]; decide
    have nS : ¬ done.getD 19 false = true := fun h => hn (f19 h).2.2.1
    have hO := PLift.up (gw.2.resolve_left nS)
    have HK := PLift.up hK
    clear hK 
    simp only [nw6A]
    go_simp
    have gg : Gr w (w.alloc (.cells #[.int .i64 1, .int .i64 5, .int .i64 100] 3)) := (Gr.refl _).alloc _
    refine HK.down _ _ ⟨_, _, _, _, _, _, _, _, _, _, _, _, _, _, _, _, _, _, _, rfl, ⟨gw.1.gr gg, .inr (Gr.owns hO.down gg)⟩, fun q => f0 (done_old q (by decide)), fun q => f1 (done_old q (by decide)), fun q => f2 (done_old q (by decide)), fun q => f3 (done_old q (by decide)), fun q => f4 (done_old q (by decide)), fun q => f5 (done_old q (by decide)), fun q => f6 (done_old q (by decide)), fun q => f7 (done_old q (by decide)), fun q => f8 (done_old q (by decide)), fun q => f9 (done_old q (by decide)), fun q => f10 (done_old q (by decide)), fun q => f11 (done_old q (by decide)), fun q => f12 (done_old q (by decide)), ?_, fun q => (let ⟨z, e, z0, z1, h13⟩ := f14 (done_old q (by decide)); ⟨z, e, z0, z1, done_keep h13⟩), fun q => (let ⟨z, e, z0, z1, h11, h14, h13⟩ := f15 (done_old q (by decide)); ⟨z, e, z0, z1, done_keep h11, done_keep h14, done_keep h13⟩), fun q => (let ⟨z, e, z0, z1, h6, h11, h14, h13⟩ := f16 (done_old q (by decide)); ⟨z, e, z0, z1, done_keep h6, done_keep h11, done_keep h14, done_keep h13⟩), fun q => f17 (done_old q (by decide)), fun q => f18 (done_old q (by decide)), fun q => absurd (done_old q (by decide)) nS⟩
    exact fun _ => ⟨w.heap.size, rfl, .inr ⟨Row.new w #[.int .i64 1, .int .i64 5, .int .i64 100] 3, Nat.lt_of_lt_of_le hbw gw.1.size⟩⟩
  · rintro done a w hsz hnot hdep ⟨t30, t31, t32, t33, t34, t35, t36, t37, t38, t39, t40, t41, t42, t43, t44, t45, t46, t47, t48, rfl, gw, f0, f1, f2, f3, f4, f5, f6, f7, f8, f9, f10, f11, f12, f13, f14, f15, f16, f17, f18, f19⟩ K hK
    have hn : ¬ done.getD 14 false = true := by rw [getD_both hnot]; decide
    have d12 := hdep 12 (by kernel_rfl)
    have d13 := hdep 13 (by kernel_rfl)
    obtain rfl := f12 d12
    have nS : ¬ done.getD 19 false = true := fun h => hn (f19 h).2.2.2.1
    have hO := PLift.up (gw.2.resolve_left nS)
    obtain ⟨E, rfl, hE⟩ := f13 d13
    have HE := PLift.up (hE.resolve_left hn)
    clear hE
    have HK := PLift.up hK
    clear hK d12
    simp only [nw6A]
    go_simp
    refine (pickM_any w b n (gw.1.tp TP.down) E 3 (InTo 1 100) (by omega) (by omega) (by have := HE.down.2; omega) (fun j hj => ?_)).mono ?_
    · have : j = 0 ∨ j = 1 ∨ j = 2 := by omega
      rcases this with rfl | rfl | rfl
      · exact ⟨1, HE.down.1.cell 0 (by simp [nums]), by simp [InTo]⟩
      · exact ⟨5, HE.down.1.cell 1 (by simp [nums]), by simp [InTo]⟩
      · exact ⟨100, HE.down.1.cell 2 (by simp [nums]), by simp [InTo]⟩
    rintro e w2 ⟨x, rfl, ⟨x0, x1⟩, hm⟩
    (try go_simp)
    refine HK.down _ _ ⟨_, _, _, _, _, _, _, _, _, _, _, _, _, _, _, _, _, _, _, rfl, ⟨gw.1.trans hbw hm, .inr (hm.owns hO.down hbb)⟩, fun q => f0 (done_old q (by decide)), fun q => f1 (done_old q (by decide)), fun q => f2 (done_old q (by decide)), fun q => f3 (done_old q (by decide)), fun q => f4 (done_old q (by decide)), fun q => f5 (done_old q (by decide)), fun q => f6 (done_old q (by decide)), fun q => f7 (done_old q (by decide)), fun q => f8 (done_old q (by decide)), fun q => f9 (done_old q (by decide)), fun q => f10 (done_old q (by decide)), fun q => f11 (done_old q (by decide)), fun q => f12 (done_old q (by decide)), fun _ => ⟨E, rfl, .inl (getD_set_same (by rw [hsz]; decide))⟩, ?_, fun q => (let ⟨z, e, z0, z1, h11, h14, h13⟩ := f15 (done_old q (by decide)); ⟨z, e, z0, z1, done_keep h11, done_keep h14, done_keep h13⟩), fun q => (let ⟨z, e, z0, z1, h6, h11, h14, h13⟩ := f16 (done_old q (by decide)); ⟨z, e, z0, z1, done_keep h6, done_keep h11, done_keep h14, done_keep h13⟩), fun q => f17 (done_old q (by decide)), fun q => f18 (done_old q (by decide)), fun q => absurd (done_old q (by decide)) nS⟩
    exact fun _ => ⟨x, rfl, by omega, by omega, done_keep d13⟩
  · rintro done a w hsz hnot hdep ⟨t30, t31, t32, t33, t34, t35, t36, t37, t38, t39, t40, t41, t42, t43, t44, t45, t46, t47, t48, rfl, gw, f0, f1, f2, f3, f4, f5, f6, f7, f8, f9, f10, f11, f12, f13, f14, f15, f16, f17, f18, f19⟩ K hK
    have hn : ¬ done.getD 15 false = true := by rw [getD_both hnot]; decide
    have d11 := hdep 11 (by kernel_rfl)
    have d14 := hdep 14 (by kernel_rfl)
    obtain rfl := f11 d11
    obtain ⟨x, rfl, x0, x1, h13⟩ := f14 d14
    have H13 := PLift.up h13
    clear h13
    have sw : IntKind.i64.wrap (hi - x) = hi - x := by rw [IntKind.wrap_i64]; omega
    have HK := PLift.up hK
    clear hK d11
    simp only [nw6A]
    go_simp
    have gg : Gr w w := Gr.refl _
    refine HK.down _ _ ⟨_, _, _, _, _, _, _, _, _, _, _, _, _, _, _, _, _, _, _, rfl, ⟨gw.1, gw.2.imp done_keep id⟩, fun q => f0 (done_old q (by decide)), fun q => f1 (done_old q (by decide)), fun q => f2 (done_old q (by decide)), fun q => f3 (done_old q (by decide)), fun q => f4 (done_old q (by decide)), fun q => f5 (done_old q (by decide)), fun q => f6 (done_old q (by decide)), fun q => f7 (done_old q (by decide)), fun q => f8 (done_old q (by decide)), fun q => f9 (done_old q (by decide)), fun q => f10 (done_old q (by decide)), fun q => f11 (done_old q (by decide)), fun q => f12 (done_old q (by decide)), fun q => (let ⟨E, e, h⟩ := f13 (done_old q (by decide)); ⟨E, e, h.imp done_keep id⟩), fun _ => ⟨x, rfl, x0, x1, done_keep H13.down⟩, ?_, fun q => (let ⟨z, e, z0, z1, h6, h11, h14, h13⟩ := f16 (done_old q (by decide)); ⟨z, e, z0, z1, done_keep h6, done_keep h11, done_keep h14, done_keep h13⟩), fun q => f17 (done_old q (by decide)), fun q => f18 (done_old q (by decide)), fun q => (let h := f19 (done_old q (by decide)); ⟨done_keep h.1, done_keep h.2.1, done_keep h.2.2.1, done_keep h.2.2.2.1, h.2.2.2.2⟩)⟩
    exact fun _ => ⟨x, rfl, x0, x1, done_keep (hdep 11 (by kernel_rfl)), done_keep d14, done_keep H13.down⟩
  · rintro done a w hsz hnot hdep ⟨t30, t31, t32, t33, t34, t35, t36, t37, t38, t39, t40, t41, t42, t43, t44, t45, t46, t47, t48, rfl, gw, f0, f1, f2, f3, f4, f5, f6, f7, f8, f9, f10, f11, f12, f13, f14, f15, f16, f17, f18, f19⟩ K hK
    have hn : ¬ done.getD 16 false = true := by rw [getD_both hnot]; decide
    have d6 := hdep 6 (by kernel_rfl)
    have d15 := hdep 15 (by kernel_rfl)
    obtain rfl := f6 d6
    obtain ⟨x, rfl, x0, x1, h11, h14, h13⟩ := f15 d15
    have H11 := PLift.up h11
    have H14 := PLift.up h14
    have H13 := PLift.up h13
    clear h11 h14 h13
    obtain ⟨y, hy⟩ : ∃ y : Int, (if lo < hi - x then hi - x else lo) = y := ⟨_, rfl⟩
    have hy0 : lo ≤ y ∧ y ≤ hi := by rw [← hy]; split <;> omega
    have HY := PLift.up hy0
    clear hy0
    have HK := PLift.up hK
    clear hK d6
    simp only [nw6A]
    go_simp
    have gg : Gr w w := Gr.refl _
    refine HK.down _ _ ⟨_, _, _, _, _, _, _, _, _, _, _, _, _, _, _, _, _, _, _, rfl, ⟨gw.1, gw.2.imp done_keep id⟩, fun q => f0 (done_old q (by decide)), fun q => f1 (done_old q (by decide)), fun q => f2 (done_old q (by decide)), fun q => f3 (done_old q (by decide)), fun q => f4 (done_old q (by decide)), fun q => f5 (done_old q (by decide)), fun q => f6 (done_old q (by decide)), fun q => f7 (done_old q (by decide)), fun q => f8 (done_old q (by decide)), fun q => f9 (done_old q (by decide)), fun q => f10 (done_old q (by decide)), fun q => f11 (done_old q (by decide)), fun q => f12 (done_old q (by decide)), fun q => (let ⟨E, e, h⟩ := f13 (done_old q (by decide)); ⟨E, e, h.imp done_keep id⟩), fun q => (let ⟨z, e, z0, z1, h13⟩ := f14 (done_old q (by decide)); ⟨z, e, z0, z1, done_keep h13⟩), fun _ => ⟨x, rfl, x0, x1, done_keep H11.down, done_keep H14.down, done_keep H13.down⟩, ?_, fun q => f17 (done_old q (by decide)), fun q => f18 (done_old q (by decide)), fun q => (let h := f19 (done_old q (by decide)); ⟨done_keep h.1, done_keep h.2.1, done_keep h.2.2.1, done_keep h.2.2.2.1, h.2.2.2.2⟩)⟩
    exact fun _ => ⟨y, rfl, HY.down.1, HY.down.2, done_keep (hdep 6 (by kernel_rfl)), done_keep H11.down, done_keep H14.down, done_keep H13.down⟩
  · rintro done a w hsz hnot hdep ⟨t30, t31, t32, t33, t34, t35, t36, t37, t38, t39, t40, t41, t42, t43, t44, t45, t46, t47, t48, rfl, gw, f0, f1, f2, f3, f4, f5, f6, f7, f8, f9, f10, f11, f12, f13, f14, f15, f16, f17, f18, f19⟩ K hK
    have hn : ¬ done.getD 17 false = true := by rw [getD_both hnot]; decide
    have d0 := hdep 0 (by kernel_rfl)
    have d1 := hdep 1 (by kernel_rfl)
    obtain rfl := f0 d0
    obtain rfl := f1 d1
    have HK := PLift.up hK
    clear hK d0 d1
    simp only [nw6A]
    go_simp
    have gg : Gr w w := Gr.refl _
    refine HK.down _ _ ⟨_, _, _, _, _, _, _, _, _, _, _, _, _, _, _, _, _, _, _, rfl, ⟨gw.1, gw.2.imp done_keep id⟩, fun q => f0 (done_old q (by decide)), fun q => f1 (done_old q (by decide)), fun q => f2 (done_old q (by decide)), fun q => f3 (done_old q (by decide)), fun q => f4 (done_old q (by decide)), fun q => f5 (done_old q (by decide)), fun q => f6 (done_old q (by decide)), fun q => f7 (done_old q (by decide)), fun q => f8 (done_old q (by decide)), fun q => f9 (done_old q (by decide)), fun q => f10 (done_old q (by decide)), fun q => f11 (done_old q (by decide)), fun q => f12 (done_old q (by decide)), fun q => (let ⟨E, e, h⟩ := f13 (done_old q (by decide)); ⟨E, e, h.imp done_keep id⟩), fun q => (let ⟨z, e, z0, z1, h13⟩ := f14 (done_old q (by decide)); ⟨z, e, z0, z1, done_keep h13⟩), fun q => (let ⟨z, e, z0, z1, h11, h14, h13⟩ := f15 (done_old q (by decide)); ⟨z, e, z0, z1, done_keep h11, done_keep h14, done_keep h13⟩), fun q => (let ⟨z, e, z0, z1, h6, h11, h14, h13⟩ := f16 (done_old q (by decide)); ⟨z, e, z0, z1, done_keep h6, done_keep h11, done_keep h14, done_keep h13⟩), fun _ => rfl, fun q => f18 (done_old q (by decide)), fun q => (let h := f19 (done_old q (by decide)); ⟨done_keep h.1, done_keep h.2.1, done_keep h.2.2.1, done_keep h.2.2.2.1, h.2.2.2.2⟩)⟩
  · rintro done a w hsz hnot hdep ⟨t30, t31, t32, t33, t34, t35, t36, t37, t38, t39, t40, t41, t42, t43, t44, t45, t46, t47, t48, rfl, gw, f0, f1, f2, f3, f4, f5, f6, f7, f8, f9, f10, f11, f12, f13, f14, f15, f16, f17, f18, f19⟩ K hK
    have hn : ¬ done.getD 18 false = true := by rw [getD_both hnot]; decide
    have d17 := hdep 17 (by kernel_rfl)
    obtain rfl := f17 d17
    have HK := PLift.up hK
    clear hK d17
    simp only [nw6A]
    go_simp
    have gg : Gr w w := Gr.refl _
    refine HK.down _ _ ⟨_, _, _, _, _, _, _, _, _, _, _, _, _, _, _, _, _, _, _, rfl, ⟨gw.1, gw.2.imp done_keep id⟩, fun q => f0 (done_old q (by decide)), fun q => f1 (done_old q (by decide)), fun q => f2 (done_old q (by decide)), fun q => f3 (done_old q (by decide)), fun q => f4 (done_old q (by decide)), fun q => f5 (done_old q (by decide)), fun q => f6 (done_old q (by decide)), fun q => f7 (done_old q (by decide)), fun q => f8 (done_old q (by decide)), fun q => f9 (done_old q (by decide)), fun q => f10 (done_old q (by decide)), fun q => f11 (done_old q (by decide)), fun q => f12 (done_old q (by decide)), fun q => (let ⟨E, e, h⟩ := f13 (done_old q (by decide)); ⟨E, e, h.imp done_keep id⟩), fun q => (let ⟨z, e, z0, z1, h13⟩ := f14 (done_old q (by decide)); ⟨z, e, z0, z1, done_keep h13⟩), fun q => (let ⟨z, e, z0, z1, h11, h14, h13⟩ := f15 (done_old q (by decide)); ⟨z, e, z0, z1, done_keep h11, done_keep h14, done_keep h13⟩), fun q => (let ⟨z, e, z0, z1, h6, h11, h14, h13⟩ := f16 (done_old q (by decide)); ⟨z, e, z0, z1, done_keep h6, done_keep h11, done_keep h14, done_keep h13⟩), fun q => f17 (done_old q (by decide)), fun _ => rfl, fun q => (let h := f19 (done_old q (by decide)); ⟨done_keep h.1, done_keep h.2.1, done_keep h.2.2.1, done_keep h.2.2.2.1, h.2.2.2.2⟩)⟩
  · rintro done a w hsz hnot hdep ⟨t30, t31, t32, t33, t34, t35, t36, t37, t38, t39, t40, t41, t42, t43, t44, t45, t46, t47, t48, rfl, gw, f0, f1, f2, f3, f4, f5, f6, f7, f8, f9, f10, f11, f12, f13, f14, f15, f16, f17, f18, f19⟩ K hK
    have hn : ¬ done.getD 19 false = true := by rw [getD_both hnot]; decide
    have d18 := hdep 18 (by kernel_rfl)
    have d16 := hdep 16 (by kernel_rfl)
    obtain rfl := f18 d18
    obtain ⟨y, rfl, y0, y1, h6, h11, h14, h13⟩ := f16 d16
    have H6 := PLift.up h6
    have H11 := PLift.up h11
    have H14 := PLift.up h14
    have H13 := PLift.up h13
    clear h6 h11 h14 h13
    have HO : PLift (w.ownsRow base 53 3 (.slice (some ⟨gm, 0, none⟩) ms.length cm) ms.length (ms.flatMap encM)) := PLift.up (gw.2.resolve_left hn)
    obtain ⟨g', c', ea, _, hgb, _⟩ := owns_cell HO.down (by omega)
    cases ea
    have c1 := (CE.down w HO.down).2
    have cf := HO.down.frozenAt (k * 3 + 2)
    have ch := has_of_cell c1
    have HGB := PLift.up hgb
    clear hgb
    have HK := PLift.up hK
    clear hK d18
    simp only [nw6A]
    go_simp
    refine HK.down _ _ ⟨_, _, _, _, _, _, _, _, _, _, _, _, _, _, _, _, _, _, _, rfl, ⟨gw.1.setc (Nat.le_trans hbase HGB.down), .inl (getD_set_same (by rw [hsz]; decide))⟩, fun q => f0 (done_old q (by decide)), fun q => f1 (done_old q (by decide)), fun q => f2 (done_old q (by decide)), fun q => f3 (done_old q (by decide)), fun q => f4 (done_old q (by decide)), fun q => f5 (done_old q (by decide)), fun q => f6 (done_old q (by decide)), fun q => f7 (done_old q (by decide)), fun q => f8 (done_old q (by decide)), fun q => f9 (done_old q (by decide)), fun q => f10 (done_old q (by decide)), fun q => f11 (done_old q (by decide)), fun q => f12 (done_old q (by decide)), fun q => (let ⟨E, e, h⟩ := f13 (done_old q (by decide)); ⟨E, e, .inl (done_keep H14.down)⟩), fun q => (let ⟨z, e, z0, z1, h13⟩ := f14 (done_old q (by decide)); ⟨z, e, z0, z1, done_keep h13⟩), fun q => (let ⟨z, e, z0, z1, h11, h14, h13⟩ := f15 (done_old q (by decide)); ⟨z, e, z0, z1, done_keep h11, done_keep h14, done_keep h13⟩), fun _ => ⟨y, rfl, y0, y1, done_keep H6.down, done_keep H11.down, done_keep H14.down, done_keep H13.down⟩, fun q => f17 (done_old q (by decide)), fun q => f18 (done_old q (by decide)), ?_⟩
    exact fun _ => ⟨done_keep H6.down, done_keep H11.down, done_keep H13.down, done_keep H14.down, y, y0, y1, by have := owns_put HO.down (j := k * 3 + 2) (by omega) (.int .i64 y); rw [encM_set ms k hk y] at this; exact this⟩
  · rintro done a w hall ⟨t30, t31, t32, t33, t34, t35, t36, t37, t38, t39, t40, t41, t42, t43, t44, t45, t46, t47, t48, rfl, gw, f0, f1, f2, f3, f4, f5, f6, f7, f8, f9, f10, f11, f12, f13, f14, f15, f16, f17, f18, f19⟩
    obtain ⟨_, _, _, _, y, y0, y1, ho⟩ := f19 (hall 19 (by decide))
    exact h' _ _ _ _ _ _ _ _ _ _ _ _ _ _ _ _ _ _ _ w y y0 y1 gw.1 ho
end Go.Proofs.YtenehghpmnajpaaDoor

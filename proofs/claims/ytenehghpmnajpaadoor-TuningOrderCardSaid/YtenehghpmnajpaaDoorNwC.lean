/- A statement that narrows one limit, by an invariant (printed by wip/tools/narrow.py). -/
import Derived.Test.YtenehghpmnajpaaDoorNwB
set_option linter.unusedVariables false
set_option linter.unusedSimpArgs false
namespace Go.Proofs.YtenehghpmnajpaaDoor
open Go.RowKit
open Classical

/-- What is known of each slot as soon as its operation is done. -/
def nw21F (wb wr : World) (base : Nat) (n : Nat) (lo hi : Int) (b : Nat) (ms : List Lmt) (gm cm k : Nat) (hk : k < ms.length) (t102 t103 t104 t105 t106 t107 t108 t109 t110 t111 t112 t113 t114 t115 t116 : Value) (d : Array Bool) (w : World) : Prop :=
  (Mv b n wb w ∧ (d.getD 15 false = true ∨ w.ownsRow base 53 3 (.slice (some ⟨gm, 0, none⟩) ms.length cm) ms.length (ms.flatMap encM))) ∧ (d.getD 0 false = true → t102 = .slice (some ⟨gm, 0, none⟩) ms.length cm) ∧
  (d.getD 1 false = true → t103 = .slice (some ⟨gm, 0, none⟩) ms.length cm) ∧
  (d.getD 2 false = true → t104 = .pointer (some ⟨gm, 0, none⟩)) ∧
  (d.getD 3 false = true → t105 = .pointer (some ⟨gm, 1, none⟩)) ∧
  (d.getD 4 false = true → t106 = .int .i64 lo) ∧
  (d.getD 5 false = true → t107 = .slice (some ⟨gm, 0, none⟩) ms.length cm) ∧
  (d.getD 6 false = true → t108 = .pointer (some ⟨gm, 0, none⟩)) ∧
  (d.getD 7 false = true → t109 = .pointer (some ⟨gm, 2, none⟩)) ∧
  (d.getD 8 false = true → t110 = .int .i64 hi) ∧
  (d.getD 9 false = true → t111 = .pointer (some ⟨b, 0, none⟩)) ∧
  (d.getD 10 false = true → (∃ x : Int, t112 = .int .i64 x ∧ 0 ≤ x ∧ x ≤ 100)) ∧
  (d.getD 11 false = true → (∃ x : Int, t113 = .int .i64 (hi - x) ∧ 0 ≤ x ∧ x ≤ 100 ∧ d.getD 8 false = true ∧ d.getD 10 false = true)) ∧
  (d.getD 12 false = true → (∃ y : Int, t114 = .int .i64 y ∧ lo ≤ y ∧ y ≤ hi ∧ d.getD 4 false = true ∧ d.getD 8 false = true ∧ d.getD 10 false = true)) ∧
  (d.getD 13 false = true → t115 = .pointer (some ⟨gm, 0, none⟩)) ∧
  (d.getD 14 false = true → t116 = .pointer (some ⟨gm, 2, none⟩)) ∧
  (d.getD 15 false = true → (d.getD 4 false = true ∧ d.getD 8 false = true ∧ d.getD 10 false = true ∧ ∃ y : Int, lo ≤ y ∧ y ≤ hi ∧ w.ownsRow base 53 3 (.slice (some ⟨gm, 0, none⟩) ms.length cm) ms.length ((ms.set k ⟨ms[k].clock, ms[k].low, y⟩).flatMap encM)))
/-- The frame. -/
def nw21A (b : Nat) (ms : List Lmt) (gm cm : Nat) (t102 t103 t104 t105 t106 t107 t108 t109 t110 t111 t112 t113 t114 t115 t116 s0 s1 s2 s4 s5 s6 s7 s8 s9 s10 s11 s12 s13 s14 s15 s16 s17 s19 s20 s21 s22 s23 s24 s25 s26 s27 s28 s29 s30 s31 s32 s33 s34 s35 s36 s37 s38 s39 s40 s41 s42 s43 s44 s45 s46 s47 s48 s49 s50 s51 s52 s53 s54 s55 s56 s57 s58 s59 s60 s61 s62 s63 s64 s65 s66 s67 s68 s69 s70 s71 s72 s73 s74 s75 s76 s77 s78 s79 s80 s81 s82 s83 s84 s85 s86 s87 s88 s89 s90 s91 s92 s93 s94 s95 s96 s97 s98 s99 s100 s101 s117 s118 s119 s120 s121 s122 s123 s124 s125 s126 s127 s128 s129 s130 : Value) : Act := { tmps := #[s0, s1, s2, .pointer (some ⟨b, 0, none⟩), s4, s5, s6, s7, s8, s9, s10, s11, s12, s13, s14, s15, s16, s17, .slice (some ⟨gm, 0, none⟩) ms.length cm, s19, s20, s21, s22, s23, s24, s25, s26, s27, s28, s29, s30, s31, s32, s33, s34, s35, s36, s37, s38, s39, s40, s41, s42, s43, s44, s45, s46, s47, s48, s49, s50, s51, s52, s53, s54, s55, s56, s57, s58, s59, s60, s61, s62, s63, s64, s65, s66, s67, s68, s69, s70, s71, s72, s73, s74, s75, s76, s77, s78, s79, s80, s81, s82, s83, s84, s85, s86, s87, s88, s89, s90, s91, s92, s93, s94, s95, s96, s97, s98, s99, s100, s101, t102, t103, t104, t105, t106, t107, t108, t109, t110, t111, t112, t113, t114, t115, t116, s117, s118, s119, s120, s121, s122, s123, s124, s125, s126, s127, s128, s129, s130], defers := [] }

set_option maxRecDepth 100000 in
set_option maxHeartbeats 4000000 in
theorem nw21 {Q : Exit → Act → World → Prop} {wb wr : World} {base : Nat} {n : Nat} {lo hi : Int} {b : Nat} {ms : List Lmt} {gm cm k : Nat} {hk : k < ms.length}  {s0 s1 s2 s4 s5 s6 s7 s8 s9 s10 s11 s12 s13 s14 s15 s16 s17 s19 s20 s21 s22 s23 s24 s25 s26 s27 s28 s29 s30 s31 s32 s33 s34 s35 s36 s37 s38 s39 s40 s41 s42 s43 s44 s45 s46 s47 s48 s49 s50 s51 s52 s53 s54 s55 s56 s57 s58 s59 s60 s61 s62 s63 s64 s65 s66 s67 s68 s69 s70 s71 s72 s73 s74 s75 s76 s77 s78 s79 s80 s81 s82 s83 s84 s85 s86 s87 s88 s89 s90 s91 s92 s93 s94 s95 s96 s97 s98 s99 s100 s101 s102 s103 s104 s105 s106 s107 s108 s109 s110 s111 s112 s113 s114 s115 s116 s117 s118 s119 s120 s121 s122 s123 s124 s125 s126 s127 s128 s129 s130 : Value} (TP0 : Tp wb b n) (hbw : b < wb.heap.size) (hbb : b < base) (hbase : wb.heap.size ≤ base) (hm0 : Mv b n wb wr) (hO0 : wr.ownsRow base 53 3 (.slice (some ⟨gm, 0, none⟩) ms.length cm) ms.length (ms.flatMap encM)) (hlo : ms[k].low = lo) (hhi : ms[k].high = hi) (l0 : 0 ≤ lo) (l1 : lo ≤ hi) (l2 : hi ≤ 4000000000) (k2 : (k : Int) < ms.length) (hk0 : k = 0) (k3 : (0 : Int) < ms.length) (k4 : 0 < ms.length)
    (h' : ∀ t102 t103 t104 t105 t106 t107 t108 t109 t110 t111 t112 t113 t114 t115 t116 wx y, lo ≤ y → y ≤ hi → Mv b n wb wx → wx.ownsRow base 53 3 (.slice (some ⟨gm, 0, none⟩) ms.length cm) ms.length ((ms.set k ⟨ms[k].clock, ms[k].low, y⟩).flatMap encM) → Q .normal (nw21A b ms gm cm t102 t103 t104 t105 t106 t107 t108 t109 t110 t111 t112 t113 t114 t115 t116 s0 s1 s2 s4 s5 s6 s7 s8 s9 s10 s11 s12 s13 s14 s15 s16 s17 s19 s20 s21 s22 s23 s24 s25 s26 s27 s28 s29 s30 s31 s32 s33 s34 s35 s36 s37 s38 s39 s40 s41 s42 s43 s44 s45 s46 s47 s48 s49 s50 s51 s52 s53 s54 s55 s56 s57 s58 s59 s60 s61 s62 s63 s64 s65 s66 s67 s68 s69 s70 s71 s72 s73 s74 s75 s76 s77 s78 s79 s80 s81 s82 s83 s84 s85 s86 s87 s88 s89 s90 s91 s92 s93 s94 s95 s96 s97 s98 s99 s100 s101 s117 s118 s119 s120 s121 s122 s123 s124 s125 s126 s127 s128 s129 s130) wx) :
    (Code.region 21 (regIn 21 Tryd.f8) true).wp Tryd.prog Q { tmps := #[s0, s1, s2, .pointer (some ⟨b, 0, none⟩), s4, s5, s6, s7, s8, s9, s10, s11, s12, s13, s14, s15, s16, s17, .slice (some ⟨gm, 0, none⟩) ms.length cm, s19, s20, s21, s22, s23, s24, s25, s26, s27, s28, s29, s30, s31, s32, s33, s34, s35, s36, s37, s38, s39, s40, s41, s42, s43, s44, s45, s46, s47, s48, s49, s50, s51, s52, s53, s54, s55, s56, s57, s58, s59, s60, s61, s62, s63, s64, s65, s66, s67, s68, s69, s70, s71, s72, s73, s74, s75, s76, s77, s78, s79, s80, s81, s82, s83, s84, s85, s86, s87, s88, s89, s90, s91, s92, s93, s94, s95, s96, s97, s98, s99, s100, s101, s102, s103, s104, s105, s106, s107, s108, s109, s110, s111, s112, s113, s114, s115, s116, s117, s118, s119, s120, s121, s122, s123, s124, s125, s126, s127, s128, s129, s130], defers := [] } wr := by
  have TP := PLift.up TP0
  have CE : PLift (∀ W : World, W.ownsRow base 53 3 (.slice (some ⟨gm, 0, none⟩) ms.length cm) ms.length (ms.flatMap encM) → W.cell? ⟨gm, 1, none⟩ = some (.int .i64 lo) ∧ W.cell? ⟨gm, 2, none⟩ = some (.int .i64 hi)) := PLift.up (fun W hW => by
    obtain ⟨g', c', ea, _, _, hc⟩ := owns_cell hW (by omega)
    cases ea
    have hf := fun j (hj : j < 3) => flat_at encM 3 (fun _ => rfl) ms k j hk hj
    have c1 : W.cell? ⟨gm, k * 3 + 1, none⟩ = some (.int .i64 lo) := by rw [hc (k * 3 + 1) (by omega), hf 1 (by omega), ← hlo]; rfl
    have c2 : W.cell? ⟨gm, k * 3 + 2, none⟩ = some (.int .i64 hi) := by rw [hc (k * 3 + 2) (by omega), hf 2 (by omega), ← hhi]; rfl
    rw [hk0] at c1 c2; simp only [Nat.zero_mul, Nat.zero_add] at c1 c2; exact ⟨c1, c2⟩)
  clear TP0
  simp only [regIn, Tryd.f8, regOps, Option.bind_some, Option.getD_some, Nat.beq, cond_true, cond_false]
  refine wp_region_steps (fun done a w => ∃ t102 t103 t104 t105 t106 t107 t108 t109 t110 t111 t112 t113 t114 t115 t116, a = nw21A b ms gm cm t102 t103 t104 t105 t106 t107 t108 t109 t110 t111 t112 t113 t114 t115 t116 s0 s1 s2 s4 s5 s6 s7 s8 s9 s10 s11 s12 s13 s14 s15 s16 s17 s19 s20 s21 s22 s23 s24 s25 s26 s27 s28 s29 s30 s31 s32 s33 s34 s35 s36 s37 s38 s39 s40 s41 s42 s43 s44 s45 s46 s47 s48 s49 s50 s51 s52 s53 s54 s55 s56 s57 s58 s59 s60 s61 s62 s63 s64 s65 s66 s67 s68 s69 s70 s71 s72 s73 s74 s75 s76 s77 s78 s79 s80 s81 s82 s83 s84 s85 s86 s87 s88 s89 s90 s91 s92 s93 s94 s95 s96 s97 s98 s99 s100 s101 s117 s118 s119 s120 s121 s122 s123 s124 s125 s126 s127 s128 s129 s130 ∧ nw21F wb wr base n lo hi b ms gm cm k hk t102 t103 t104 t105 t106 t107 t108 t109 t110 t111 t112 t113 t114 t115 t116 done w) (by kernel_rfl) (by kernel_rfl) ?_ ⟨?_, ?_, ?_, ?_, ?_, ?_, ?_, ?_, ?_, ?_, ?_, ?_, ?_, ?_, ?_, ?_, trivial⟩ ?_
  · exact ⟨s102, s103, s104, s105, s106, s107, s108, s109, s110, s111, s112, s113, s114, s115, s116, rfl, ⟨hm0.gr (Gr.refl _).drew, .inr (Gr.owns hO0 (Gr.refl _).drew)⟩, fun q => absurd q (by decide), fun q => absurd q (by decide), fun q => absurd q (by decide), fun q => absurd q (by decide), fun q => absurd q (by decide), fun q => absurd q (by decide), fun q => absurd q (by decide), fun q => absurd q (by decide), fun q => absurd q (by decide), fun q => absurd q (by decide), fun q => absurd q (by decide), fun q => absurd q (by decide), fun q => absurd q (by decide), fun q => absurd q (by decide), fun q => absurd q (by decide), fun q => absurd q (by decide)⟩
  · rintro done a w hsz hnot hdep ⟨t102, t103, t104, t105, t106, t107, t108, t109, t110, t111, t112, t113, t114, t115, t116, rfl, gw, f0, f1, f2, f3, f4, f5, f6, f7, f8, f9, f10, f11, f12, f13, f14, f15⟩ K hK
    have hn : ¬ done.getD 0 false = true := by rw [getD_both hnot]; decide
    have HK := PLift.up hK
    clear hK 
    simp only [nw21A]
    go_simp
    have gg : Gr w w := Gr.refl _
    refine HK.down _ _ ⟨_, _, _, _, _, _, _, _, _, _, _, _, _, _, _, rfl, ⟨gw.1, gw.2.imp done_keep id⟩, fun _ => rfl, fun q => f1 (done_old q (by decide)), fun q => f2 (done_old q (by decide)), fun q => f3 (done_old q (by decide)), fun q => f4 (done_old q (by decide)), fun q => f5 (done_old q (by decide)), fun q => f6 (done_old q (by decide)), fun q => f7 (done_old q (by decide)), fun q => f8 (done_old q (by decide)), fun q => f9 (done_old q (by decide)), fun q => (let ⟨z, e, z0, z1⟩ := f10 (done_old q (by decide)); ⟨z, e, z0, z1⟩), fun q => (let ⟨z, e, z0, z1, h8, h10⟩ := f11 (done_old q (by decide)); ⟨z, e, z0, z1, done_keep h8, done_keep h10⟩), fun q => (let ⟨z, e, z0, z1, h4, h8, h10⟩ := f12 (done_old q (by decide)); ⟨z, e, z0, z1, done_keep h4, done_keep h8, done_keep h10⟩), fun q => f13 (done_old q (by decide)), fun q => f14 (done_old q (by decide)), fun q => (let h := f15 (done_old q (by decide)); ⟨done_keep h.1, done_keep h.2.1, done_keep h.2.2.1, h.2.2.2⟩)⟩
  · rintro done a w hsz hnot hdep ⟨t102, t103, t104, t105, t106, t107, t108, t109, t110, t111, t112, t113, t114, t115, t116, rfl, gw, f0, f1, f2, f3, f4, f5, f6, f7, f8, f9, f10, f11, f12, f13, f14, f15⟩ K hK
    have hn : ¬ done.getD 1 false = true := by rw [getD_both hnot]; decide
    have HK := PLift.up hK
    clear hK 
    simp only [nw21A]
    go_simp
    have gg : Gr w w := Gr.refl _
    refine HK.down _ _ ⟨_, _, _, _, _, _, _, _, _, _, _, _, _, _, _, rfl, ⟨gw.1, gw.2.imp done_keep id⟩, fun q => f0 (done_old q (by decide)), fun _ => rfl, fun q => f2 (done_old q (by decide)), fun q => f3 (done_old q (by decide)), fun q => f4 (done_old q (by decide)), fun q => f5 (done_old q (by decide)), fun q => f6 (done_old q (by decide)), fun q => f7 (done_old q (by decide)), fun q => f8 (done_old q (by decide)), fun q => f9 (done_old q (by decide)), fun q => (let ⟨z, e, z0, z1⟩ := f10 (done_old q (by decide)); ⟨z, e, z0, z1⟩), fun q => (let ⟨z, e, z0, z1, h8, h10⟩ := f11 (done_old q (by decide)); ⟨z, e, z0, z1, done_keep h8, done_keep h10⟩), fun q => (let ⟨z, e, z0, z1, h4, h8, h10⟩ := f12 (done_old q (by decide)); ⟨z, e, z0, z1, done_keep h4, done_keep h8, done_keep h10⟩), fun q => f13 (done_old q (by decide)), fun q => f14 (done_old q (by decide)), fun q => (let h := f15 (done_old q (by decide)); ⟨done_keep h.1, done_keep h.2.1, done_keep h.2.2.1, h.2.2.2⟩)⟩
  · rintro done a w hsz hnot hdep ⟨t102, t103, t104, t105, t106, t107, t108, t109, t110, t111, t112, t113, t114, t115, t116, rfl, gw, f0, f1, f2, f3, f4, f5, f6, f7, f8, f9, f10, f11, f12, f13, f14, f15⟩ K hK
    have hn : ¬ done.getD 2 false = true := by rw [getD_both hnot]; decide
    have d1 := hdep 1 (by kernel_rfl)
    obtain rfl := f1 d1
    have HK := PLift.up hK
    clear hK d1
    simp only [nw21A]
    go_simp
    have gg : Gr w w := Gr.refl _
    refine HK.down _ _ ⟨_, _, _, _, _, _, _, _, _, _, _, _, _, _, _, rfl, ⟨gw.1, gw.2.imp done_keep id⟩, fun q => f0 (done_old q (by decide)), fun q => f1 (done_old q (by decide)), fun _ => rfl, fun q => f3 (done_old q (by decide)), fun q => f4 (done_old q (by decide)), fun q => f5 (done_old q (by decide)), fun q => f6 (done_old q (by decide)), fun q => f7 (done_old q (by decide)), fun q => f8 (done_old q (by decide)), fun q => f9 (done_old q (by decide)), fun q => (let ⟨z, e, z0, z1⟩ := f10 (done_old q (by decide)); ⟨z, e, z0, z1⟩), fun q => (let ⟨z, e, z0, z1, h8, h10⟩ := f11 (done_old q (by decide)); ⟨z, e, z0, z1, done_keep h8, done_keep h10⟩), fun q => (let ⟨z, e, z0, z1, h4, h8, h10⟩ := f12 (done_old q (by decide)); ⟨z, e, z0, z1, done_keep h4, done_keep h8, done_keep h10⟩), fun q => f13 (done_old q (by decide)), fun q => f14 (done_old q (by decide)), fun q => (let h := f15 (done_old q (by decide)); ⟨done_keep h.1, done_keep h.2.1, done_keep h.2.2.1, h.2.2.2⟩)⟩
  · rintro done a w hsz hnot hdep ⟨t102, t103, t104, t105, t106, t107, t108, t109, t110, t111, t112, t113, t114, t115, t116, rfl, gw, f0, f1, f2, f3, f4, f5, f6, f7, f8, f9, f10, f11, f12, f13, f14, f15⟩ K hK
    have hn : ¬ done.getD 3 false = true := by rw [getD_both hnot]; decide
    have d2 := hdep 2 (by kernel_rfl)
    obtain rfl := f2 d2
    have HK := PLift.up hK
    clear hK d2
    simp only [nw21A]
    go_simp
    have gg : Gr w w := Gr.refl _
    refine HK.down _ _ ⟨_, _, _, _, _, _, _, _, _, _, _, _, _, _, _, rfl, ⟨gw.1, gw.2.imp done_keep id⟩, fun q => f0 (done_old q (by decide)), fun q => f1 (done_old q (by decide)), fun q => f2 (done_old q (by decide)), fun _ => rfl, fun q => f4 (done_old q (by decide)), fun q => f5 (done_old q (by decide)), fun q => f6 (done_old q (by decide)), fun q => f7 (done_old q (by decide)), fun q => f8 (done_old q (by decide)), fun q => f9 (done_old q (by decide)), fun q => (let ⟨z, e, z0, z1⟩ := f10 (done_old q (by decide)); ⟨z, e, z0, z1⟩), fun q => (let ⟨z, e, z0, z1, h8, h10⟩ := f11 (done_old q (by decide)); ⟨z, e, z0, z1, done_keep h8, done_keep h10⟩), fun q => (let ⟨z, e, z0, z1, h4, h8, h10⟩ := f12 (done_old q (by decide)); ⟨z, e, z0, z1, done_keep h4, done_keep h8, done_keep h10⟩), fun q => f13 (done_old q (by decide)), fun q => f14 (done_old q (by decide)), fun q => (let h := f15 (done_old q (by decide)); ⟨done_keep h.1, done_keep h.2.1, done_keep h.2.2.1, h.2.2.2⟩)⟩
  · rintro done a w hsz hnot hdep ⟨t102, t103, t104, t105, t106, t107, t108, t109, t110, t111, t112, t113, t114, t115, t116, rfl, gw, f0, f1, f2, f3, f4, f5, f6, f7, f8, f9, f10, f11, f12, f13, f14, f15⟩ K hK
    have hn : ¬ done.getD 4 false = true := by rw [getD_both hnot]; decide
    have d3 := hdep 3 (by kernel_rfl)
    obtain rfl := f3 d3
    have nS : ¬ done.getD 15 false = true := fun h => hn (f15 h).1
    have hO := gw.2.resolve_left nS
    obtain ⟨g', c', ea, _, _, hc⟩ := owns_cell hO (by omega)
    cases ea
    have c0 : w.cell? ⟨gm, 1, none⟩ = some (.int .i64 lo) := by have := CE.down w hO; exact this.1
    have ch := has_of_cell c0
    clear hc hO
    have HK := PLift.up hK
    clear hK d3
    simp only [nw21A]
    go_simp
    have gg : Gr w w := Gr.refl _
    refine HK.down _ _ ⟨_, _, _, _, _, _, _, _, _, _, _, _, _, _, _, rfl, ⟨gw.1, gw.2.imp done_keep id⟩, fun q => f0 (done_old q (by decide)), fun q => f1 (done_old q (by decide)), fun q => f2 (done_old q (by decide)), fun q => f3 (done_old q (by decide)), fun _ => rfl, fun q => f5 (done_old q (by decide)), fun q => f6 (done_old q (by decide)), fun q => f7 (done_old q (by decide)), fun q => f8 (done_old q (by decide)), fun q => f9 (done_old q (by decide)), fun q => (let ⟨z, e, z0, z1⟩ := f10 (done_old q (by decide)); ⟨z, e, z0, z1⟩), fun q => (let ⟨z, e, z0, z1, h8, h10⟩ := f11 (done_old q (by decide)); ⟨z, e, z0, z1, done_keep h8, done_keep h10⟩), fun q => (let ⟨z, e, z0, z1, h4, h8, h10⟩ := f12 (done_old q (by decide)); ⟨z, e, z0, z1, done_keep h4, done_keep h8, done_keep h10⟩), fun q => f13 (done_old q (by decide)), fun q => f14 (done_old q (by decide)), fun q => absurd (done_old q (by decide)) nS⟩
  · rintro done a w hsz hnot hdep ⟨t102, t103, t104, t105, t106, t107, t108, t109, t110, t111, t112, t113, t114, t115, t116, rfl, gw, f0, f1, f2, f3, f4, f5, f6, f7, f8, f9, f10, f11, f12, f13, f14, f15⟩ K hK
    have hn : ¬ done.getD 5 false = true := by rw [getD_both hnot]; decide
    have HK := PLift.up hK
    clear hK 
    simp only [nw21A]
    go_simp
    have gg : Gr w w := Gr.refl _
    refine HK.down _ _ ⟨_, _, _, _, _, _, _, _, _, _, _, _, _, _, _, rfl, ⟨gw.1, gw.2.imp done_keep id⟩, fun q => f0 (done_old q (by decide)), fun q => f1 (done_old q (by decide)), fun q => f2 (done_old q (by decide)), fun q => f3 (done_old q (by decide)), fun q => f4 (done_old q (by decide)), fun _ => rfl, fun q => f6 (done_old q (by decide)), fun q => f7 (done_old q (by decide)), fun q => f8 (done_old q (by decide)), fun q => f9 (done_old q (by decide)), fun q => (let ⟨z, e, z0, z1⟩ := f10 (done_old q (by decide)); ⟨z, e, z0, z1⟩), fun q => (let ⟨z, e, z0, z1, h8, h10⟩ := f11 (done_old q (by decide)); ⟨z, e, z0, z1, done_keep h8, done_keep h10⟩), fun q => (let ⟨z, e, z0, z1, h4, h8, h10⟩ := f12 (done_old q (by decide)); ⟨z, e, z0, z1, done_keep h4, done_keep h8, done_keep h10⟩), fun q => f13 (done_old q (by decide)), fun q => f14 (done_old q (by decide)), fun q => (let h := f15 (done_old q (by decide)); ⟨done_keep h.1, done_keep h.2.1, done_keep h.2.2.1, h.2.2.2⟩)⟩
  · rintro done a w hsz hnot hdep ⟨t102, t103, t104, t105, t106, t107, t108, t109, t110, t111, t112, t113, t114, t115, t116, rfl, gw, f0, f1, f2, f3, f4, f5, f6, f7, f8, f9, f10, f11, f12, f13, f14, f15⟩ K hK
    have hn : ¬ done.getD 6 false = true := by rw [getD_both hnot]; decide
    have d5 := hdep 5 (by kernel_rfl)
    obtain rfl := f5 d5
    have HK := PLift.up hK
    clear hK d5
    simp only [nw21A]
    go_simp
    have gg : Gr w w := Gr.refl _
    refine HK.down _ _ ⟨_, _, _, _, _, _, _, _, _, _, _, _, _, _, _, rfl, ⟨gw.1, gw.2.imp done_keep id⟩, fun q => f0 (done_old q (by decide)), fun q => f1 (done_old q (by decide)), fun q => f2 (done_old q (by decide)), fun q => f3 (done_old q (by decide)), fun q => f4 (done_old q (by decide)), fun q => f5 (done_old q (by decide)), fun _ => rfl, fun q => f7 (done_old q (by decide)), fun q => f8 (done_old q (by decide)), fun q => f9 (done_old q (by decide)), fun q => (let ⟨z, e, z0, z1⟩ := f10 (done_old q (by decide)); ⟨z, e, z0, z1⟩), fun q => (let ⟨z, e, z0, z1, h8, h10⟩ := f11 (done_old q (by decide)); ⟨z, e, z0, z1, done_keep h8, done_keep h10⟩), fun q => (let ⟨z, e, z0, z1, h4, h8, h10⟩ := f12 (done_old q (by decide)); ⟨z, e, z0, z1, done_keep h4, done_keep h8, done_keep h10⟩), fun q => f13 (done_old q (by decide)), fun q => f14 (done_old q (by decide)), fun q => (let h := f15 (done_old q (by decide)); ⟨done_keep h.1, done_keep h.2.1, done_keep h.2.2.1, h.2.2.2⟩)⟩
  · rintro done a w hsz hnot hdep ⟨t102, t103, t104, t105, t106, t107, t108, t109, t110, t111, t112, t113, t114, t115, t116, rfl, gw, f0, f1, f2, f3, f4, f5, f6, f7, f8, f9, f10, f11, f12, f13, f14, f15⟩ K hK
    have hn : ¬ done.getD 7 false = true := by rw [getD_both hnot]; decide
    have d6 := hdep 6 (by kernel_rfl)
    obtain rfl := f6 d6
    have HK := PLift.up hK
    clear hK d6
    simp only [nw21A]
    go_simp
    have gg : Gr w w := Gr.refl _
    refine HK.down _ _ ⟨_, _, _, _, _, _, _, _, _, _, _, _, _, _, _, rfl, ⟨gw.1, gw.2.imp done_keep id⟩, fun q => f0 (done_old q (by decide)), fun q => f1 (done_old q (by decide)), fun q => f2 (done_old q (by decide)), fun q => f3 (done_old q (by decide)), fun q => f4 (done_old q (by decide)), fun q => f5 (done_old q (by decide)), fun q => f6 (done_old q (by decide)), fun _ => rfl, fun q => f8 (done_old q (by decide)), fun q => f9 (done_old q (by decide)), fun q => (let ⟨z, e, z0, z1⟩ := f10 (done_old q (by decide)); ⟨z, e, z0, z1⟩), fun q => (let ⟨z, e, z0, z1, h8, h10⟩ := f11 (done_old q (by decide)); ⟨z, e, z0, z1, done_keep h8, done_keep h10⟩), fun q => (let ⟨z, e, z0, z1, h4, h8, h10⟩ := f12 (done_old q (by decide)); ⟨z, e, z0, z1, done_keep h4, done_keep h8, done_keep h10⟩), fun q => f13 (done_old q (by decide)), fun q => f14 (done_old q (by decide)), fun q => (let h := f15 (done_old q (by decide)); ⟨done_keep h.1, done_keep h.2.1, done_keep h.2.2.1, h.2.2.2⟩)⟩
  · rintro done a w hsz hnot hdep ⟨t102, t103, t104, t105, t106, t107, t108, t109, t110, t111, t112, t113, t114, t115, t116, rfl, gw, f0, f1, f2, f3, f4, f5, f6, f7, f8, f9, f10, f11, f12, f13, f14, f15⟩ K hK
    have hn : ¬ done.getD 8 false = true := by rw [getD_both hnot]; decide
    have d7 := hdep 7 (by kernel_rfl)
    obtain rfl := f7 d7
    have nS : ¬ done.getD 15 false = true := fun h => hn (f15 h).2.1
    have hO := gw.2.resolve_left nS
    obtain ⟨g', c', ea, _, _, hc⟩ := owns_cell hO (by omega)
    cases ea
    have c0 : w.cell? ⟨gm, 2, none⟩ = some (.int .i64 hi) := by have := CE.down w hO; exact this.2
    have ch := has_of_cell c0
    clear hc hO
    have HK := PLift.up hK
    clear hK d7
    simp only [nw21A]
    go_simp
    have gg : Gr w w := Gr.refl _
    refine HK.down _ _ ⟨_, _, _, _, _, _, _, _, _, _, _, _, _, _, _, rfl, ⟨gw.1, gw.2.imp done_keep id⟩, fun q => f0 (done_old q (by decide)), fun q => f1 (done_old q (by decide)), fun q => f2 (done_old q (by decide)), fun q => f3 (done_old q (by decide)), fun q => f4 (done_old q (by decide)), fun q => f5 (done_old q (by decide)), fun q => f6 (done_old q (by decide)), fun q => f7 (done_old q (by decide)), fun _ => rfl, fun q => f9 (done_old q (by decide)), fun q => (let ⟨z, e, z0, z1⟩ := f10 (done_old q (by decide)); ⟨z, e, z0, z1⟩), fun q => (let ⟨z, e, z0, z1, h8, h10⟩ := f11 (done_old q (by decide)); ⟨z, e, z0, z1, done_keep h8, done_keep h10⟩), fun q => (let ⟨z, e, z0, z1, h4, h8, h10⟩ := f12 (done_old q (by decide)); ⟨z, e, z0, z1, done_keep h4, done_keep h8, done_keep h10⟩), fun q => f13 (done_old q (by decide)), fun q => f14 (done_old q (by decide)), fun q => absurd (done_old q (by decide)) nS⟩
  · rintro done a w hsz hnot hdep ⟨t102, t103, t104, t105, t106, t107, t108, t109, t110, t111, t112, t113, t114, t115, t116, rfl, gw, f0, f1, f2, f3, f4, f5, f6, f7, f8, f9, f10, f11, f12, f13, f14, f15⟩ K hK
    have hn : ¬ done.getD 9 false = true := by rw [getD_both hnot]; decide
    have HK := PLift.up hK
    clear hK 
    simp only [nw21A]
    go_simp
    have gg : Gr w w := Gr.refl _
    refine HK.down _ _ ⟨_, _, _, _, _, _, _, _, _, _, _, _, _, _, _, rfl, ⟨gw.1, gw.2.imp done_keep id⟩, fun q => f0 (done_old q (by decide)), fun q => f1 (done_old q (by decide)), fun q => f2 (done_old q (by decide)), fun q => f3 (done_old q (by decide)), fun q => f4 (done_old q (by decide)), fun q => f5 (done_old q (by decide)), fun q => f6 (done_old q (by decide)), fun q => f7 (done_old q (by decide)), fun q => f8 (done_old q (by decide)), fun _ => rfl, fun q => (let ⟨z, e, z0, z1⟩ := f10 (done_old q (by decide)); ⟨z, e, z0, z1⟩), fun q => (let ⟨z, e, z0, z1, h8, h10⟩ := f11 (done_old q (by decide)); ⟨z, e, z0, z1, done_keep h8, done_keep h10⟩), fun q => (let ⟨z, e, z0, z1, h4, h8, h10⟩ := f12 (done_old q (by decide)); ⟨z, e, z0, z1, done_keep h4, done_keep h8, done_keep h10⟩), fun q => f13 (done_old q (by decide)), fun q => f14 (done_old q (by decide)), fun q => (let h := f15 (done_old q (by decide)); ⟨done_keep h.1, done_keep h.2.1, done_keep h.2.2.1, h.2.2.2⟩)⟩
  · rintro done a w hsz hnot hdep ⟨t102, t103, t104, t105, t106, t107, t108, t109, t110, t111, t112, t113, t114, t115, t116, rfl, gw, f0, f1, f2, f3, f4, f5, f6, f7, f8, f9, f10, f11, f12, f13, f14, f15⟩ K hK
    have hn : ¬ done.getD 10 false = true := by rw [getD_both hnot]; decide
    have d9 := hdep 9 (by kernel_rfl)
    obtain rfl := f9 d9
    have nS : ¬ done.getD 15 false = true := fun h => hn (f15 h).2.2.1
    have hO := PLift.up (gw.2.resolve_left nS)
    have HK := PLift.up hK
    clear hK d9
    simp only [nw21A]
    go_simp
    refine (nM_any w b n 10 (gw.1.tp TP.down) (by omega) (by omega)).mono ?_
    rintro e w2 ⟨x, rfl, ⟨x0, x1⟩, hm⟩
    (try go_simp)
    refine HK.down _ _ ⟨_, _, _, _, _, _, _, _, _, _, _, _, _, _, _, rfl, ⟨gw.1.trans hbw hm, .inr (hm.owns hO.down hbb)⟩, fun q => f0 (done_old q (by decide)), fun q => f1 (done_old q (by decide)), fun q => f2 (done_old q (by decide)), fun q => f3 (done_old q (by decide)), fun q => f4 (done_old q (by decide)), fun q => f5 (done_old q (by decide)), fun q => f6 (done_old q (by decide)), fun q => f7 (done_old q (by decide)), fun q => f8 (done_old q (by decide)), fun q => f9 (done_old q (by decide)), ?_, fun q => (let ⟨z, e, z0, z1, h8, h10⟩ := f11 (done_old q (by decide)); ⟨z, e, z0, z1, done_keep h8, done_keep h10⟩), fun q => (let ⟨z, e, z0, z1, h4, h8, h10⟩ := f12 (done_old q (by decide)); ⟨z, e, z0, z1, done_keep h4, done_keep h8, done_keep h10⟩), fun q => f13 (done_old q (by decide)), fun q => f14 (done_old q (by decide)), fun q => absurd (done_old q (by decide)) nS⟩
    exact fun _ => ⟨x, rfl, by omega, by omega⟩
  · rintro done a w hsz hnot hdep ⟨t102, t103, t104, t105, t106, t107, t108, t109, t110, t111, t112, t113, t114, t115, t116, rfl, gw, f0, f1, f2, f3, f4, f5, f6, f7, f8, f9, f10, f11, f12, f13, f14, f15⟩ K hK
    have hn : ¬ done.getD 11 false = true := by rw [getD_both hnot]; decide
    have d8 := hdep 8 (by kernel_rfl)
    have d10 := hdep 10 (by kernel_rfl)
    obtain rfl := f8 d8
    obtain ⟨x, rfl, x0, x1⟩ := f10 d10
    have sw : IntKind.i64.wrap (hi - x) = hi - x := by rw [IntKind.wrap_i64]; omega
    have HK := PLift.up hK
    clear hK d8
    simp only [nw21A]
    go_simp
    have gg : Gr w w := Gr.refl _
    refine HK.down _ _ ⟨_, _, _, _, _, _, _, _, _, _, _, _, _, _, _, rfl, ⟨gw.1, gw.2.imp done_keep id⟩, fun q => f0 (done_old q (by decide)), fun q => f1 (done_old q (by decide)), fun q => f2 (done_old q (by decide)), fun q => f3 (done_old q (by decide)), fun q => f4 (done_old q (by decide)), fun q => f5 (done_old q (by decide)), fun q => f6 (done_old q (by decide)), fun q => f7 (done_old q (by decide)), fun q => f8 (done_old q (by decide)), fun q => f9 (done_old q (by decide)), fun _ => ⟨x, rfl, x0, x1⟩, ?_, fun q => (let ⟨z, e, z0, z1, h4, h8, h10⟩ := f12 (done_old q (by decide)); ⟨z, e, z0, z1, done_keep h4, done_keep h8, done_keep h10⟩), fun q => f13 (done_old q (by decide)), fun q => f14 (done_old q (by decide)), fun q => (let h := f15 (done_old q (by decide)); ⟨done_keep h.1, done_keep h.2.1, done_keep h.2.2.1, h.2.2.2⟩)⟩
    exact fun _ => ⟨x, rfl, x0, x1, done_keep (hdep 8 (by kernel_rfl)), done_keep d10⟩
  · rintro done a w hsz hnot hdep ⟨t102, t103, t104, t105, t106, t107, t108, t109, t110, t111, t112, t113, t114, t115, t116, rfl, gw, f0, f1, f2, f3, f4, f5, f6, f7, f8, f9, f10, f11, f12, f13, f14, f15⟩ K hK
    have hn : ¬ done.getD 12 false = true := by rw [getD_both hnot]; decide
    have d4 := hdep 4 (by kernel_rfl)
    have d11 := hdep 11 (by kernel_rfl)
    obtain rfl := f4 d4
    obtain ⟨x, rfl, x0, x1, h8, h10⟩ := f11 d11
    have H8 := PLift.up h8
    have H10 := PLift.up h10
    clear h8 h10
    obtain ⟨y, hy⟩ : ∃ y : Int, (if lo < hi - x then hi - x else lo) = y := ⟨_, rfl⟩
    have hy0 : lo ≤ y ∧ y ≤ hi := by rw [← hy]; split <;> omega
    have HY := PLift.up hy0
    clear hy0
    have HK := PLift.up hK
    clear hK d4
    simp only [nw21A]
    go_simp
    have gg : Gr w w := Gr.refl _
    refine HK.down _ _ ⟨_, _, _, _, _, _, _, _, _, _, _, _, _, _, _, rfl, ⟨gw.1, gw.2.imp done_keep id⟩, fun q => f0 (done_old q (by decide)), fun q => f1 (done_old q (by decide)), fun q => f2 (done_old q (by decide)), fun q => f3 (done_old q (by decide)), fun q => f4 (done_old q (by decide)), fun q => f5 (done_old q (by decide)), fun q => f6 (done_old q (by decide)), fun q => f7 (done_old q (by decide)), fun q => f8 (done_old q (by decide)), fun q => f9 (done_old q (by decide)), fun q => (let ⟨z, e, z0, z1⟩ := f10 (done_old q (by decide)); ⟨z, e, z0, z1⟩), fun _ => ⟨x, rfl, x0, x1, done_keep H8.down, done_keep H10.down⟩, ?_, fun q => f13 (done_old q (by decide)), fun q => f14 (done_old q (by decide)), fun q => (let h := f15 (done_old q (by decide)); ⟨done_keep h.1, done_keep h.2.1, done_keep h.2.2.1, h.2.2.2⟩)⟩
    exact fun _ => ⟨y, rfl, HY.down.1, HY.down.2, done_keep (hdep 4 (by kernel_rfl)), done_keep H8.down, done_keep H10.down⟩
  · rintro done a w hsz hnot hdep ⟨t102, t103, t104, t105, t106, t107, t108, t109, t110, t111, t112, t113, t114, t115, t116, rfl, gw, f0, f1, f2, f3, f4, f5, f6, f7, f8, f9, f10, f11, f12, f13, f14, f15⟩ K hK
    have hn : ¬ done.getD 13 false = true := by rw [getD_both hnot]; decide
    have d0 := hdep 0 (by kernel_rfl)
    obtain rfl := f0 d0
    have HK := PLift.up hK
    clear hK d0
    simp only [nw21A]
    go_simp
    have gg : Gr w w := Gr.refl _
    refine HK.down _ _ ⟨_, _, _, _, _, _, _, _, _, _, _, _, _, _, _, rfl, ⟨gw.1, gw.2.imp done_keep id⟩, fun q => f0 (done_old q (by decide)), fun q => f1 (done_old q (by decide)), fun q => f2 (done_old q (by decide)), fun q => f3 (done_old q (by decide)), fun q => f4 (done_old q (by decide)), fun q => f5 (done_old q (by decide)), fun q => f6 (done_old q (by decide)), fun q => f7 (done_old q (by decide)), fun q => f8 (done_old q (by decide)), fun q => f9 (done_old q (by decide)), fun q => (let ⟨z, e, z0, z1⟩ := f10 (done_old q (by decide)); ⟨z, e, z0, z1⟩), fun q => (let ⟨z, e, z0, z1, h8, h10⟩ := f11 (done_old q (by decide)); ⟨z, e, z0, z1, done_keep h8, done_keep h10⟩), fun q => (let ⟨z, e, z0, z1, h4, h8, h10⟩ := f12 (done_old q (by decide)); ⟨z, e, z0, z1, done_keep h4, done_keep h8, done_keep h10⟩), fun _ => rfl, fun q => f14 (done_old q (by decide)), fun q => (let h := f15 (done_old q (by decide)); ⟨done_keep h.1, done_keep h.2.1, done_keep h.2.2.1, h.2.2.2⟩)⟩
  · rintro done a w hsz hnot hdep ⟨t102, t103, t104, t105, t106, t107, t108, t109, t110, t111, t112, t113, t114, t115, t116, rfl, gw, f0, f1, f2, f3, f4, f5, f6, f7, f8, f9, f10, f11, f12, f13, f14, f15⟩ K hK
    have hn : ¬ done.getD 14 false = true := by rw [getD_both hnot]; decide
    have d13 := hdep 13 (by kernel_rfl)
    obtain rfl := f13 d13
    have HK := PLift.up hK
    clear hK d13
    simp only [nw21A]
    go_simp
    have gg : Gr w w := Gr.refl _
    refine HK.down _ _ ⟨_, _, _, _, _, _, _, _, _, _, _, _, _, _, _, rfl, ⟨gw.1, gw.2.imp done_keep id⟩, fun q => f0 (done_old q (by decide)), fun q => f1 (done_old q (by decide)), fun q => f2 (done_old q (by decide)), fun q => f3 (done_old q (by decide)), fun q => f4 (done_old q (by decide)), fun q => f5 (done_old q (by decide)), fun q => f6 (done_old q (by decide)), fun q => f7 (done_old q (by decide)), fun q => f8 (done_old q (by decide)), fun q => f9 (done_old q (by decide)), fun q => (let ⟨z, e, z0, z1⟩ := f10 (done_old q (by decide)); ⟨z, e, z0, z1⟩), fun q => (let ⟨z, e, z0, z1, h8, h10⟩ := f11 (done_old q (by decide)); ⟨z, e, z0, z1, done_keep h8, done_keep h10⟩), fun q => (let ⟨z, e, z0, z1, h4, h8, h10⟩ := f12 (done_old q (by decide)); ⟨z, e, z0, z1, done_keep h4, done_keep h8, done_keep h10⟩), fun q => f13 (done_old q (by decide)), fun _ => rfl, fun q => (let h := f15 (done_old q (by decide)); ⟨done_keep h.1, done_keep h.2.1, done_keep h.2.2.1, h.2.2.2⟩)⟩
  · rintro done a w hsz hnot hdep ⟨t102, t103, t104, t105, t106, t107, t108, t109, t110, t111, t112, t113, t114, t115, t116, rfl, gw, f0, f1, f2, f3, f4, f5, f6, f7, f8, f9, f10, f11, f12, f13, f14, f15⟩ K hK
    have hn : ¬ done.getD 15 false = true := by rw [getD_both hnot]; decide
    have d14 := hdep 14 (by kernel_rfl)
    have d12 := hdep 12 (by kernel_rfl)
    obtain rfl := f14 d14
    obtain ⟨y, rfl, y0, y1, h4, h8, h10⟩ := f12 d12
    have H4 := PLift.up h4
    have H8 := PLift.up h8
    have H10 := PLift.up h10
    clear h4 h8 h10
    have HO : PLift (w.ownsRow base 53 3 (.slice (some ⟨gm, 0, none⟩) ms.length cm) ms.length (ms.flatMap encM)) := PLift.up (gw.2.resolve_left hn)
    obtain ⟨g', c', ea, _, hgb, _⟩ := owns_cell HO.down (by omega)
    cases ea
    have c1 := (CE.down w HO.down).2
    have cf := HO.down.frozenAt 2
    have ch := has_of_cell c1
    have HGB := PLift.up hgb
    clear hgb
    have HK := PLift.up hK
    clear hK d14
    simp only [nw21A]
    go_simp
    refine HK.down _ _ ⟨_, _, _, _, _, _, _, _, _, _, _, _, _, _, _, rfl, ⟨gw.1.setc (Nat.le_trans hbase HGB.down), .inl (getD_set_same (by rw [hsz]; decide))⟩, fun q => f0 (done_old q (by decide)), fun q => f1 (done_old q (by decide)), fun q => f2 (done_old q (by decide)), fun q => f3 (done_old q (by decide)), fun q => f4 (done_old q (by decide)), fun q => f5 (done_old q (by decide)), fun q => f6 (done_old q (by decide)), fun q => f7 (done_old q (by decide)), fun q => f8 (done_old q (by decide)), fun q => f9 (done_old q (by decide)), fun q => (let ⟨z, e, z0, z1⟩ := f10 (done_old q (by decide)); ⟨z, e, z0, z1⟩), fun q => (let ⟨z, e, z0, z1, h8, h10⟩ := f11 (done_old q (by decide)); ⟨z, e, z0, z1, done_keep h8, done_keep h10⟩), fun _ => ⟨y, rfl, y0, y1, done_keep H4.down, done_keep H8.down, done_keep H10.down⟩, fun q => f13 (done_old q (by decide)), fun q => f14 (done_old q (by decide)), ?_⟩
    exact fun _ => ⟨done_keep H4.down, done_keep H8.down, done_keep H10.down, y, y0, y1, by have := owns_put HO.down (j := 2) (by omega) (.int .i64 y); have e2 := encM_set ms k hk y; rw [show k * 3 + 2 = 2 by omega] at e2; rw [e2] at this; exact this⟩
  · rintro done a w hall ⟨t102, t103, t104, t105, t106, t107, t108, t109, t110, t111, t112, t113, t114, t115, t116, rfl, gw, f0, f1, f2, f3, f4, f5, f6, f7, f8, f9, f10, f11, f12, f13, f14, f15⟩
    obtain ⟨_, _, _, y, y0, y1, ho⟩ := f15 (hall 15 (by decide))
    exact h' _ _ _ _ _ _ _ _ _ _ _ _ _ _ _ w y y0 y1 gw.1 ho
end Go.Proofs.YtenehghpmnajpaaDoor

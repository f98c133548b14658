/- The last statement of Take, of the program and of the reference, by an invariant (printed by wip/tools/taker.py). -/
import Derived.Test.YthpgoldahffbcaaHdC
import Derived.Test.YthpgoldahffbcaaFind
import Derived.Test.YthpgoldahffbcaaInv
set_option linter.unusedVariables false
set_option linter.unusedSimpArgs false
namespace Go.Proofs.Ythpgoldahffbcaa
open Go.RowKit
theorem row_three {w : World} {B T : Nat} {x : Hld} (h : Row w B T [.int .i64 x.device, .int .i64 x.kind, .int .i64 x.unit]) : ∀ j u, (encH x)[j]? = some u → w.cell? ((⟨B, 0, none⟩ : Addr).add j) = some u := by
  intro j u hu
  have c0 := h.cell 0 (by simp)
  have c1 := h.cell 1 (by simp)
  have c2 := h.cell 2 (by simp)
  rcases j with _ | _ | _ | j
  all_goals simp [encH] at hu
  all_goals subst hu
  · simpa [Addr.add] using c0
  · simpa [Addr.add] using c1
  · simpa [Addr.add] using c2
/-- What is known of each slot as soon as its operation is done. -/
def tk8F (wr : World) (l : List Hld) (x : Hld) (ao : Option Addr) (cap b3 : Nat) (t4 t5 t19 t20 t21 t22 t23 : Value) (d : Array Bool) (w : World) : Prop :=
  Gr wr w ∧ (d.getD 0 false = true → t19 = .slice ao l.length cap) ∧
  (d.getD 1 false = true → (d.getD 4 false = false → w.ownsRow wr.heap.size 34 3 t20 l.length (encHs l))) ∧
  (d.getD 2 false = true → t21 = .agg #[.int .i64 x.device, .int .i64 x.kind, .int .i64 x.unit]) ∧
  (d.getD 3 false = true → ∃ B, t22 = .slice (some ⟨B, 0, none⟩) 1 1 ∧ (d.getD 4 false = false → Row w B 34 [.int .i64 x.device, .int .i64 x.kind, .int .i64 x.unit])) ∧
  (d.getD 4 false = true → (d.getD 1 false = true ∧ d.getD 3 false = true) ∧ w.ownsRow wr.heap.size 34 3 t23 (l ++ [x]).length (encHs (l ++ [x]))) ∧
  (d.getD 5 false = true → t4 = t23 ∧ d.getD 4 false = true) ∧
  (d.getD 6 false = true → t5 = .int .i64 0)
/-- The frame. -/
def tk8A (l : List Hld) (ao : Option Addr) (cap b3 : Nat) (t4 t5 t19 t20 t21 t22 t23 s1 s2 s6 s7 s8 s9 s10 s11 s12 s13 s14 s15 s16 s17 s18 : Value) : Act := { tmps := #[.slice ao l.length cap, s1, s2, .pointer (some ⟨b3, 0, none⟩), t4, t5, s6, s7, s8, s9, s10, s11, s12, s13, s14, s15, s16, s17, s18, t19, t20, t21, t22, t23], defers := [] }

set_option maxRecDepth 100000 in
set_option maxHeartbeats 4000000 in
theorem tk8 {Q : Exit → Act → World → Prop} {wr : World} {l : List Hld} {x : Hld} {ao : Option Addr} {cap b3 : Nat}  {s1 s2 s4 s5 s6 s7 s8 s9 s10 s11 s12 s13 s14 s15 s16 s17 s18 s19 s20 s21 s22 s23 : Value} (h : SlOf 3 RHld wr ao l) (hf : l.length ≤ 1000000) (e0 : wr.cell? ⟨b3, 0, none⟩ = some (.int .i64 x.device)) (e1 : wr.cell? ⟨b3, 1, none⟩ = some (.int .i64 x.kind)) (e2 : wr.cell? ⟨b3, 2, none⟩ = some (.int .i64 x.unit))
    (h' : ∀ t19 t20 t21 t22 t23 v wx, wx.ownsRow wr.heap.size 34 3 v (l ++ [x]).length (encHs (l ++ [x])) → Gr wr wx → Q .normal (tk8A l ao cap b3 v (.int .i64 0) t19 t20 t21 t22 t23 s1 s2 s6 s7 s8 s9 s10 s11 s12 s13 s14 s15 s16 s17 s18) wx) :
    (Code.region 8 (regIn 8 Try.f14) true).wp Try.prog Q { tmps := #[.slice ao l.length cap, s1, s2, .pointer (some ⟨b3, 0, none⟩), s4, s5, s6, s7, s8, s9, s10, s11, s12, s13, s14, s15, s16, s17, s18, s19, s20, s21, s22, s23], defers := [] } wr := by
  have H := PLift.up h
  clear h
  obtain ⟨i0, hi, hz0, hz1, hz2⟩ := info_parts infoHld
  simp only [regIn, Try.f14, regOps, Option.bind_some, Option.getD_some, Nat.beq, cond_true, cond_false]
  refine wp_region_steps (fun done a w => ∃ t4 t5 t19 t20 t21 t22 t23, a = tk8A l ao cap b3 t4 t5 t19 t20 t21 t22 t23 s1 s2 s6 s7 s8 s9 s10 s11 s12 s13 s14 s15 s16 s17 s18 ∧ tk8F wr l x ao cap b3 t4 t5 t19 t20 t21 t22 t23 done w) (by kernel_rfl) (by kernel_rfl) ?_ ⟨?_, ?_, ?_, ?_, ?_, ?_, ?_, trivial⟩ ?_
  · exact ⟨s4, s5, s19, s20, s21, s22, s23, rfl, (Gr.refl _).drew, fun q => absurd q (by decide), fun q => absurd q (by decide), fun q => absurd q (by decide), fun q => absurd q (by decide), fun q => absurd q (by decide), fun q => absurd q (by decide), fun q => absurd q (by decide)⟩
  · rintro done a w hsz hnot hdep ⟨t4, t5, t19, t20, t21, t22, t23, rfl, gw, f0, f1, f2, f3, f4, f5, f6⟩ K hK
    have hn : ¬ done.getD 0 false = true := by rw [getD_both hnot]; decide
    have HK := PLift.up hK
    clear hK 
    simp only [tk8A]
    go_simp
    have gg : Gr w w := Gr.refl _
    refine HK.down _ _ ⟨_, _, _, _, _, _, _, rfl, gw, fun _ => rfl, fun q q2 => f1 (done_old q (by decide)) (by rw [getD_set_ne false (by decide)] at q2; exact q2), fun q => f2 (done_old q (by decide)), fun q => (let ⟨B, e, h2⟩ := f3 (done_old q (by decide)); ⟨B, e, fun q => (h2 (by rw [getD_set_ne false (by decide)] at q; exact q)).gr gg⟩), fun q => ⟨⟨getD_set_true (f4 (done_old q (by decide))).1.1, getD_set_true (f4 (done_old q (by decide))).1.2⟩, (f4 (done_old q (by decide))).2⟩, fun q => ⟨(f5 (done_old q (by decide))).1, getD_set_true (f5 (done_old q (by decide))).2⟩, fun q => f6 (done_old q (by decide))⟩
  · rintro done a w hsz hnot hdep ⟨t4, t5, t19, t20, t21, t22, t23, rfl, gw, f0, f1, f2, f3, f4, f5, f6⟩ K hK
    have hn : ¬ done.getD 1 false = true := by rw [getD_both hnot]; decide
    have d0 := hdep 0 (by kernel_rfl)
    obtain rfl := f0 d0
    have HK := PLift.up hK
    clear hK d0
    simp only [tk8A]
    have SLw := PLift.up (hlds_gr H.down gw)
    go_simp
    refine (cloneH_any l ao cap _ SLw.down hf).mono ?_
    rintro e w2 ⟨v, rfl, hown, hg⟩
    have gg : Gr w w2 := hg
    have OW := PLift.up (owns_low hown gw.size)
    clear hown hg SLw
    (try go_simp)
    refine HK.down _ _ ⟨_, _, _, _, _, _, _, rfl, gw.trans gg, fun q => f0 (done_old q (by decide)), ?_, fun q => f2 (done_old q (by decide)), fun q => (let ⟨B, e, h2⟩ := f3 (done_old q (by decide)); ⟨B, e, fun q => (h2 (by rw [getD_set_ne false (by decide)] at q; exact q)).gr gg⟩), fun q => absurd (f4 (done_old q (by decide))).1.1 hn, fun q => ⟨(f5 (done_old q (by decide))).1, getD_set_true (f5 (done_old q (by decide))).2⟩, fun q => f6 (done_old q (by decide))⟩
    exact fun _ _ => OW.down
  · rintro done a w hsz hnot hdep ⟨t4, t5, t19, t20, t21, t22, t23, rfl, gw, f0, f1, f2, f3, f4, f5, f6⟩ K hK
    have hn : ¬ done.getD 2 false = true := by rw [getD_both hnot]; decide
    have c0 := cell_gr gw e0
    have c1 := cell_gr gw e1
    have c2 := cell_gr gw e2
    have ch := has_of_cell c0
    have HK := PLift.up hK
    clear hK 
    simp only [tk8A]
    go_simp
    have gg : Gr w w := Gr.refl _
    refine HK.down _ _ ⟨_, _, _, _, _, _, _, rfl, gw, fun q => f0 (done_old q (by decide)), fun q q2 => f1 (done_old q (by decide)) (by rw [getD_set_ne false (by decide)] at q2; exact q2), fun _ => rfl, fun q => (let ⟨B, e, h2⟩ := f3 (done_old q (by decide)); ⟨B, e, fun q => (h2 (by rw [getD_set_ne false (by decide)] at q; exact q)).gr gg⟩), fun q => ⟨⟨getD_set_true (f4 (done_old q (by decide))).1.1, getD_set_true (f4 (done_old q (by decide))).1.2⟩, (f4 (done_old q (by decide))).2⟩, fun q => ⟨(f5 (done_old q (by decide))).1, getD_set_true (f5 (done_old q (by decide))).2⟩, fun q => f6 (done_old q (by decide))⟩
  · rintro done a w hsz hnot hdep ⟨t4, t5, t19, t20, t21, t22, t23, rfl, gw, f0, f1, f2, f3, f4, f5, f6⟩ K hK
    have hn : ¬ done.getD 3 false = true := by rw [getD_both hnot]; decide
    have d2 := hdep 2 (by kernel_rfl)
    obtain rfl := f2 d2
    have HK := PLift.up hK
    clear hK d2
    simp only [tk8A]
    go_simp
    have gg : Gr w (w.alloc (.cells #[.int .i64 x.device, .int .i64 x.kind, .int .i64 x.unit] 34)) := (Gr.refl _).alloc _
    refine HK.down _ _ ⟨_, _, _, _, _, _, _, rfl, gw.trans gg, fun q => f0 (done_old q (by decide)), fun q q2 => World.ownsRow.alloc (f1 (done_old q (by decide)) (by rw [getD_set_ne false (by decide)] at q2; exact q2)) _, fun q => f2 (done_old q (by decide)), ?_, fun q => absurd (f4 (done_old q (by decide))).1.2 hn, fun q => ⟨(f5 (done_old q (by decide))).1, getD_set_true (f5 (done_old q (by decide))).2⟩, fun q => f6 (done_old q (by decide))⟩
    exact fun _ => ⟨_, rfl, fun _ => Row.new w _ _⟩
  · rintro done a w hsz hnot hdep ⟨t4, t5, t19, t20, t21, t22, t23, rfl, gw, f0, f1, f2, f3, f4, f5, f6⟩ K hK
    have hn : ¬ done.getD 4 false = true := by rw [getD_both hnot]; decide
    have d1 := hdep 1 (by kernel_rfl)
    have d3 := hdep 3 (by kernel_rfl)
    have n4 := getD_both hnot
    obtain ⟨B, rfl, r3⟩ := f3 d3
    have o1 := f1 d1 n4
    refine step_append_gets _ rfl _ _ 24 rfl wr.heap.size 34 i0 (.agg #[.int .i64 0, .int .i64 0, .int .i64 0]) 3 24 Try.underlying24 hi hz0 hz1 hz2 rfl (by decide) t20 l.length (encHs l) (by simp [Act.eval, tk8A]) o1 (some ⟨B, 0, none⟩) 1 1 (encH x) (by simp [Act.eval, tk8A]) ⟨rfl, fun _ => ⟨_, rfl, row_three (r3 n4)⟩⟩ (encH_one x) (by unfold maxLen; omega) (by omega) gw.size ?_
    intro v w2 hown hgrow _
    refine hK _ _ ⟨_, _, _, _, _, _, _, rfl, gw.grown hgrow (fun k e => (owns_block o1 k e).1), fun q => f0 (done_old q (by decide)), fun _ q => absurd q (by rw [getD_set_same (by rw [hsz]; decide)]; decide), fun q => f2 (done_old q (by decide)), fun _ => ⟨B, rfl, fun q => absurd q (by rw [getD_set_same (by rw [hsz]; decide)]; decide)⟩, ?_, fun q => absurd (f5 (done_old q (by decide))).2 hn, fun q => f6 (done_old q (by decide))⟩
    exact fun _ => ⟨⟨getD_set_true d1, getD_set_true d3⟩, by rw [encHs_snoc]; simpa using hown⟩
  · rintro done a w hsz hnot hdep ⟨t4, t5, t19, t20, t21, t22, t23, rfl, gw, f0, f1, f2, f3, f4, f5, f6⟩ K hK
    have hn : ¬ done.getD 5 false = true := by rw [getD_both hnot]; decide
    have d4 := hdep 4 (by kernel_rfl)
    have HK := PLift.up hK
    clear hK 
    simp only [tk8A]
    go_simp
    have gg : Gr w w := Gr.refl _
    refine HK.down _ _ ⟨_, _, _, _, _, _, _, rfl, gw, fun q => f0 (done_old q (by decide)), fun q q2 => f1 (done_old q (by decide)) (by rw [getD_set_ne false (by decide)] at q2; exact q2), fun q => f2 (done_old q (by decide)), fun q => (let ⟨B, e, h2⟩ := f3 (done_old q (by decide)); ⟨B, e, fun q => (h2 (by rw [getD_set_ne false (by decide)] at q; exact q)).gr gg⟩), fun q => ⟨⟨getD_set_true (f4 (done_old q (by decide))).1.1, getD_set_true (f4 (done_old q (by decide))).1.2⟩, (f4 (done_old q (by decide))).2⟩, ?_, fun q => f6 (done_old q (by decide))⟩
    exact fun _ => ⟨rfl, getD_set_true d4⟩
  · rintro done a w hsz hnot hdep ⟨t4, t5, t19, t20, t21, t22, t23, rfl, gw, f0, f1, f2, f3, f4, f5, f6⟩ K hK
    have hn : ¬ done.getD 6 false = true := by rw [getD_both hnot]; decide
    have HK := PLift.up hK
    clear hK 
    simp only [tk8A]
    go_simp
    have gg : Gr w w := Gr.refl _
    refine HK.down _ _ ⟨_, _, _, _, _, _, _, rfl, gw, fun q => f0 (done_old q (by decide)), fun q q2 => f1 (done_old q (by decide)) (by rw [getD_set_ne false (by decide)] at q2; exact q2), fun q => f2 (done_old q (by decide)), fun q => (let ⟨B, e, h2⟩ := f3 (done_old q (by decide)); ⟨B, e, fun q => (h2 (by rw [getD_set_ne false (by decide)] at q; exact q)).gr gg⟩), fun q => ⟨⟨getD_set_true (f4 (done_old q (by decide))).1.1, getD_set_true (f4 (done_old q (by decide))).1.2⟩, (f4 (done_old q (by decide))).2⟩, fun q => ⟨(f5 (done_old q (by decide))).1, getD_set_true (f5 (done_old q (by decide))).2⟩, fun _ => rfl⟩
  · rintro done a w hall ⟨t4, t5, t19, t20, t21, t22, t23, rfl, gw, f0, f1, f2, f3, f4, f5, f6⟩
    obtain ⟨_, o4⟩ := f4 (hall 4 (by decide))
    obtain ⟨rfl, _⟩ := f5 (hall 5 (by decide))
    obtain rfl := f6 (hall 6 (by decide))
    exact h' _ _ _ _ _ _ w o4 gw
/-- What is known of each slot as soon as its operation is done. -/
def rtk8F (wr : World) (l : List Hld) (x : Hld) (ao : Option Addr) (cap b3 : Nat) (t4 t5 t19 t20 t21 t22 t23 : Value) (d : Array Bool) (w : World) : Prop :=
  Gr wr w ∧ (d.getD 0 false = true → t19 = .slice ao l.length cap) ∧
  (d.getD 1 false = true → (d.getD 4 false = false → w.ownsRow wr.heap.size 34 3 t20 l.length (encHs l))) ∧
  (d.getD 2 false = true → t21 = .agg #[.int .i64 x.device, .int .i64 x.kind, .int .i64 x.unit]) ∧
  (d.getD 3 false = true → ∃ B, t22 = .slice (some ⟨B, 0, none⟩) 1 1 ∧ (d.getD 4 false = false → Row w B 34 [.int .i64 x.device, .int .i64 x.kind, .int .i64 x.unit])) ∧
  (d.getD 4 false = true → (d.getD 1 false = true ∧ d.getD 3 false = true) ∧ w.ownsRow wr.heap.size 34 3 t23 (l ++ [x]).length (encHs (l ++ [x]))) ∧
  (d.getD 5 false = true → t4 = t23 ∧ d.getD 4 false = true) ∧
  (d.getD 6 false = true → t5 = .int .i64 0)
/-- The frame. -/
def rtk8A (l : List Hld) (ao : Option Addr) (cap b3 : Nat) (t4 t5 t19 t20 t21 t22 t23 s1 s2 s6 s7 s8 s9 s10 s11 s12 s13 s14 s15 s16 s17 s18 : Value) : Act := { tmps := #[.slice ao l.length cap, s1, s2, .pointer (some ⟨b3, 0, none⟩), t4, t5, s6, s7, s8, s9, s10, s11, s12, s13, s14, s15, s16, s17, s18, t19, t20, t21, t22, t23], defers := [] }

set_option maxRecDepth 100000 in
set_option maxHeartbeats 4000000 in
theorem rtk8 {Q : Exit → Act → World → Prop} {wr : World} {l : List Hld} {x : Hld} {ao : Option Addr} {cap b3 : Nat}  {s1 s2 s4 s5 s6 s7 s8 s9 s10 s11 s12 s13 s14 s15 s16 s17 s18 s19 s20 s21 s22 s23 : Value} (h : SlOf 3 RHld wr ao l) (hf : l.length ≤ 1000000) (e0 : wr.cell? ⟨b3, 0, none⟩ = some (.int .i64 x.device)) (e1 : wr.cell? ⟨b3, 1, none⟩ = some (.int .i64 x.kind)) (e2 : wr.cell? ⟨b3, 2, none⟩ = some (.int .i64 x.unit))
    (h' : ∀ t19 t20 t21 t22 t23 v wx, wx.ownsRow wr.heap.size 34 3 v (l ++ [x]).length (encHs (l ++ [x])) → Gr wr wx → Q .normal (rtk8A l ao cap b3 v (.int .i64 0) t19 t20 t21 t22 t23 s1 s2 s6 s7 s8 s9 s10 s11 s12 s13 s14 s15 s16 s17 s18) wx) :
    (Code.region 8 (regIn 8 Try.f19) true).wp Try.prog Q { tmps := #[.slice ao l.length cap, s1, s2, .pointer (some ⟨b3, 0, none⟩), s4, s5, s6, s7, s8, s9, s10, s11, s12, s13, s14, s15, s16, s17, s18, s19, s20, s21, s22, s23], defers := [] } wr := by
  have H := PLift.up h
  clear h
  obtain ⟨i0, hi, hz0, hz1, hz2⟩ := info_parts infoHld
  simp only [regIn, Try.f19, regOps, Option.bind_some, Option.getD_some, Nat.beq, cond_true, cond_false]
  refine wp_region_steps (fun done a w => ∃ t4 t5 t19 t20 t21 t22 t23, a = rtk8A l ao cap b3 t4 t5 t19 t20 t21 t22 t23 s1 s2 s6 s7 s8 s9 s10 s11 s12 s13 s14 s15 s16 s17 s18 ∧ rtk8F wr l x ao cap b3 t4 t5 t19 t20 t21 t22 t23 done w) (by kernel_rfl) (by kernel_rfl) ?_ ⟨?_, ?_, ?_, ?_, ?_, ?_, ?_, trivial⟩ ?_
  · exact ⟨s4, s5, s19, s20, s21, s22, s23, rfl, (Gr.refl _).drew, fun q => absurd q (by decide), fun q => absurd q (by decide), fun q => absurd q (by decide), fun q => absurd q (by decide), fun q => absurd q (by decide), fun q => absurd q (by decide), fun q => absurd q (by decide)⟩
  · rintro done a w hsz hnot hdep ⟨t4, t5, t19, t20, t21, t22, t23, rfl, gw, f0, f1, f2, f3, f4, f5, f6⟩ K hK
    have hn : ¬ done.getD 0 false = true := by rw [getD_both hnot]; decide
    have HK := PLift.up hK
    clear hK 
    simp only [rtk8A]
    go_simp
    have gg : Gr w w := Gr.refl _
    refine HK.down _ _ ⟨_, _, _, _, _, _, _, rfl, gw, fun _ => rfl, fun q q2 => f1 (done_old q (by decide)) (by rw [getD_set_ne false (by decide)] at q2; exact q2), fun q => f2 (done_old q (by decide)), fun q => (let ⟨B, e, h2⟩ := f3 (done_old q (by decide)); ⟨B, e, fun q => (h2 (by rw [getD_set_ne false (by decide)] at q; exact q)).gr gg⟩), fun q => ⟨⟨getD_set_true (f4 (done_old q (by decide))).1.1, getD_set_true (f4 (done_old q (by decide))).1.2⟩, (f4 (done_old q (by decide))).2⟩, fun q => ⟨(f5 (done_old q (by decide))).1, getD_set_true (f5 (done_old q (by decide))).2⟩, fun q => f6 (done_old q (by decide))⟩
  · rintro done a w hsz hnot hdep ⟨t4, t5, t19, t20, t21, t22, t23, rfl, gw, f0, f1, f2, f3, f4, f5, f6⟩ K hK
    have hn : ¬ done.getD 1 false = true := by rw [getD_both hnot]; decide
    have d0 := hdep 0 (by kernel_rfl)
    obtain rfl := f0 d0
    refine step_append_gets _ rfl _ _ 24 rfl wr.heap.size 34 i0 (.agg #[.int .i64 0, .int .i64 0, .int .i64 0]) 3 24 Try.underlying24 hi hz0 hz1 hz2 rfl (by decide) (.slice none 0 0) 0 [] (by simp [Act.eval, rtk8A]) (owns_nil _ _ _ _) ao l.length cap (encHs l) (by simp [Act.eval, rtk8A]) (gets_sl (hlds_gr H.down gw)) (encHs_one l) (by unfold maxLen; omega) (by omega) gw.size ?_
    intro v w2 hown hgrow _
    rw [Nat.zero_add, List.nil_append] at hown
    have gg : Gr w w2 := Gr.grown (Gr.refl w) hgrow (fun k e => by cases e)
    have OW := PLift.up hown
    refine hK _ _ ⟨_, _, _, _, _, _, _, rfl, gw.trans gg, fun q => f0 (done_old q (by decide)), ?_, fun q => f2 (done_old q (by decide)), fun q => (let ⟨B, e, h2⟩ := f3 (done_old q (by decide)); ⟨B, e, fun q => (h2 (by rw [getD_set_ne false (by decide)] at q; exact q)).gr gg⟩), fun q => absurd (f4 (done_old q (by decide))).1.1 hn, fun q => ⟨(f5 (done_old q (by decide))).1, getD_set_true (f5 (done_old q (by decide))).2⟩, fun q => f6 (done_old q (by decide))⟩
    exact fun _ _ => OW.down
  · rintro done a w hsz hnot hdep ⟨t4, t5, t19, t20, t21, t22, t23, rfl, gw, f0, f1, f2, f3, f4, f5, f6⟩ K hK
    have hn : ¬ done.getD 2 false = true := by rw [getD_both hnot]; decide
    have c0 := cell_gr gw e0
    have c1 := cell_gr gw e1
    have c2 := cell_gr gw e2
    have ch := has_of_cell c0
    have HK := PLift.up hK
    clear hK 
    simp only [rtk8A]
    go_simp
    have gg : Gr w w := Gr.refl _
    refine HK.down _ _ ⟨_, _, _, _, _, _, _, rfl, gw, fun q => f0 (done_old q (by decide)), fun q q2 => f1 (done_old q (by decide)) (by rw [getD_set_ne false (by decide)] at q2; exact q2), fun _ => rfl, fun q => (let ⟨B, e, h2⟩ := f3 (done_old q (by decide)); ⟨B, e, fun q => (h2 (by rw [getD_set_ne false (by decide)] at q; exact q)).gr gg⟩), fun q => ⟨⟨getD_set_true (f4 (done_old q (by decide))).1.1, getD_set_true (f4 (done_old q (by decide))).1.2⟩, (f4 (done_old q (by decide))).2⟩, fun q => ⟨(f5 (done_old q (by decide))).1, getD_set_true (f5 (done_old q (by decide))).2⟩, fun q => f6 (done_old q (by decide))⟩
  · rintro done a w hsz hnot hdep ⟨t4, t5, t19, t20, t21, t22, t23, rfl, gw, f0, f1, f2, f3, f4, f5, f6⟩ K hK
    have hn : ¬ done.getD 3 false = true := by rw [getD_both hnot]; decide
    have d2 := hdep 2 (by kernel_rfl)
    obtain rfl := f2 d2
    have HK := PLift.up hK
    clear hK d2
    simp only [rtk8A]
    go_simp
    have gg : Gr w (w.alloc (.cells #[.int .i64 x.device, .int .i64 x.kind, .int .i64 x.unit] 34)) := (Gr.refl _).alloc _
    refine HK.down _ _ ⟨_, _, _, _, _, _, _, rfl, gw.trans gg, fun q => f0 (done_old q (by decide)), fun q q2 => World.ownsRow.alloc (f1 (done_old q (by decide)) (by rw [getD_set_ne false (by decide)] at q2; exact q2)) _, fun q => f2 (done_old q (by decide)), ?_, fun q => absurd (f4 (done_old q (by decide))).1.2 hn, fun q => ⟨(f5 (done_old q (by decide))).1, getD_set_true (f5 (done_old q (by decide))).2⟩, fun q => f6 (done_old q (by decide))⟩
    exact fun _ => ⟨_, rfl, fun _ => Row.new w _ _⟩
  · rintro done a w hsz hnot hdep ⟨t4, t5, t19, t20, t21, t22, t23, rfl, gw, f0, f1, f2, f3, f4, f5, f6⟩ K hK
    have hn : ¬ done.getD 4 false = true := by rw [getD_both hnot]; decide
    have d1 := hdep 1 (by kernel_rfl)
    have d3 := hdep 3 (by kernel_rfl)
    have n4 := getD_both hnot
    obtain ⟨B, rfl, r3⟩ := f3 d3
    have o1 := f1 d1 n4
    refine step_append_gets _ rfl _ _ 24 rfl wr.heap.size 34 i0 (.agg #[.int .i64 0, .int .i64 0, .int .i64 0]) 3 24 Try.underlying24 hi hz0 hz1 hz2 rfl (by decide) t20 l.length (encHs l) (by simp [Act.eval, rtk8A]) o1 (some ⟨B, 0, none⟩) 1 1 (encH x) (by simp [Act.eval, rtk8A]) ⟨rfl, fun _ => ⟨_, rfl, row_three (r3 n4)⟩⟩ (encH_one x) (by unfold maxLen; omega) (by omega) gw.size ?_
    intro v w2 hown hgrow _
    refine hK _ _ ⟨_, _, _, _, _, _, _, rfl, gw.grown hgrow (fun k e => (owns_block o1 k e).1), fun q => f0 (done_old q (by decide)), fun _ q => absurd q (by rw [getD_set_same (by rw [hsz]; decide)]; decide), fun q => f2 (done_old q (by decide)), fun _ => ⟨B, rfl, fun q => absurd q (by rw [getD_set_same (by rw [hsz]; decide)]; decide)⟩, ?_, fun q => absurd (f5 (done_old q (by decide))).2 hn, fun q => f6 (done_old q (by decide))⟩
    exact fun _ => ⟨⟨getD_set_true d1, getD_set_true d3⟩, by rw [encHs_snoc]; simpa using hown⟩
  · rintro done a w hsz hnot hdep ⟨t4, t5, t19, t20, t21, t22, t23, rfl, gw, f0, f1, f2, f3, f4, f5, f6⟩ K hK
    have hn : ¬ done.getD 5 false = true := by rw [getD_both hnot]; decide
    have d4 := hdep 4 (by kernel_rfl)
    have HK := PLift.up hK
    clear hK 
    simp only [rtk8A]
    go_simp
    have gg : Gr w w := Gr.refl _
    refine HK.down _ _ ⟨_, _, _, _, _, _, _, rfl, gw, fun q => f0 (done_old q (by decide)), fun q q2 => f1 (done_old q (by decide)) (by rw [getD_set_ne false (by decide)] at q2; exact q2), fun q => f2 (done_old q (by decide)), fun q => (let ⟨B, e, h2⟩ := f3 (done_old q (by decide)); ⟨B, e, fun q => (h2 (by rw [getD_set_ne false (by decide)] at q; exact q)).gr gg⟩), fun q => ⟨⟨getD_set_true (f4 (done_old q (by decide))).1.1, getD_set_true (f4 (done_old q (by decide))).1.2⟩, (f4 (done_old q (by decide))).2⟩, ?_, fun q => f6 (done_old q (by decide))⟩
    exact fun _ => ⟨rfl, getD_set_true d4⟩
  · rintro done a w hsz hnot hdep ⟨t4, t5, t19, t20, t21, t22, t23, rfl, gw, f0, f1, f2, f3, f4, f5, f6⟩ K hK
    have hn : ¬ done.getD 6 false = true := by rw [getD_both hnot]; decide
    have HK := PLift.up hK
    clear hK 
    simp only [rtk8A]
    go_simp
    have gg : Gr w w := Gr.refl _
    refine HK.down _ _ ⟨_, _, _, _, _, _, _, rfl, gw, fun q => f0 (done_old q (by decide)), fun q q2 => f1 (done_old q (by decide)) (by rw [getD_set_ne false (by decide)] at q2; exact q2), fun q => f2 (done_old q (by decide)), fun q => (let ⟨B, e, h2⟩ := f3 (done_old q (by decide)); ⟨B, e, fun q => (h2 (by rw [getD_set_ne false (by decide)] at q; exact q)).gr gg⟩), fun q => ⟨⟨getD_set_true (f4 (done_old q (by decide))).1.1, getD_set_true (f4 (done_old q (by decide))).1.2⟩, (f4 (done_old q (by decide))).2⟩, fun q => ⟨(f5 (done_old q (by decide))).1, getD_set_true (f5 (done_old q (by decide))).2⟩, fun _ => rfl⟩
  · rintro done a w hall ⟨t4, t5, t19, t20, t21, t22, t23, rfl, gw, f0, f1, f2, f3, f4, f5, f6⟩
    obtain ⟨_, o4⟩ := f4 (hall 4 (by decide))
    obtain ⟨rfl, _⟩ := f5 (hall 5 (by decide))
    obtain rfl := f6 (hall 6 (by decide))
    exact h' _ _ _ _ _ _ w o4 gw
end Go.Proofs.Ythpgoldahffbcaa

/- A statement of Settings by an invariant (printed by wip/tools/pt.py). -/
import Derived.Test.YtenehghpmnajpaaDoorPtA
import Derived.Test.YtenehghpmnajpaaDoorApA
import Derived.Test.YtenehghpmnajpaaDoorKr
set_option linter.unusedVariables false
set_option linter.unusedSimpArgs false
namespace Go.Proofs.YtenehghpmnajpaaDoor
open Go.RowKit
open Classical

/-- A new row with these numbers, as a value. -/
def SetV (wr : World) (L : Nat) (x : List Int) (w : World) (v : Value) : Prop := ∃ B c, v = .slice (some ⟨B, 0, none⟩) L c ∧ RowS w B 3 (nums x) ∧ wr.heap.size ≤ B
theorem SetV.gr {wr : World} {L : Nat} {x : List Int} {w w' : World} {v : Value} (h : SetV wr L x w v) (hg : Gr w w') : SetV wr L x w' v := let ⟨B, c, e, hr, hb⟩ := h; ⟨B, c, e, hr.gr hg, hb⟩
/-- What is known of each slot as soon as its operation is done. -/
def r5F (wr : World) (l : List Clk) (x : List Int) (u v k : Nat) (al : Option Addr) (cl cx c g B P : Nat) (t11 t12 t23 t24 t25 t26 t27 t28 t29 t30 t31 t32 t33 t34 : Value) (d : Array Bool) (w : World) : Prop :=
  Gr wr w ∧ (d.getD 0 false = true → t24 = .slice al l.length cl) ∧
  (d.getD 1 false = true → t25 = .slice (some ⟨g, 0, none⟩) (k + 1) c) ∧
  (d.getD 2 false = true → t26 = .slice (some ⟨g, 0, none⟩) (k + 1) c) ∧
  (d.getD 3 false = true → t27 = .int .i64 ((k + 1 : Nat) : Int)) ∧
  (d.getD 4 false = true → t28 = .int .i64 (k : Int)) ∧
  (d.getD 5 false = true → t29 = .pointer (some ⟨g, k, none⟩)) ∧
  (d.getD 6 false = true → t30 = .slice (some ⟨B, 0, none⟩) x.length cx) ∧
  (d.getD 7 false = true → t31 = .agg #[.int .i64 1, .int .i64 u, .int .i64 v]) ∧
  (d.getD 8 false = true → (∃ y, t32 = .tuple #[y, .int .i64 0] ∧ SetV wr x.length (x.set u (v : Int)) w y)) ∧
  (d.getD 9 false = true → (∃ y, t23 = .tuple #[y, .int .i64 0] ∧ SetV wr x.length (x.set u (v : Int)) w y)) ∧
  (d.getD 10 false = true → SetV wr x.length (x.set u (v : Int)) w t33) ∧
  (d.getD 11 false = true → t34 = .int .i64 0) ∧
  (d.getD 12 false = true → SetV wr x.length (x.set u (v : Int)) w t11) ∧
  (d.getD 13 false = true → t12 = .int .i64 0)
/-- The frame. -/
def r5A (l : List Clk) (k : Nat) (al : Option Addr) (cl c g P : Nat) (t11 t12 t23 t24 t25 t26 t27 t28 t29 t30 t31 t32 t33 t34 s1 s2 s3 s4 s5 s6 s7 s9 s13 s14 s15 s16 s17 s18 s19 s20 s21 s22 s35 s36 s37 s38 s39 s40 s41 s42 s43 : Value) : Act := { tmps := #[.slice al l.length cl, s1, s2, s3, s4, s5, s6, s7, .slice (some ⟨g, 0, none⟩) (k + 1) c, s9, .pointer (some ⟨P, 0, none⟩), t11, t12, s13, s14, s15, s16, s17, s18, s19, s20, s21, s22, t23, t24, t25, t26, t27, t28, t29, t30, t31, t32, t33, t34, s35, s36, s37, s38, s39, s40, s41, s42, s43], defers := [] }

set_option maxRecDepth 100000 in
set_option maxHeartbeats 4000000 in
theorem r5 {Q : Exit → Act → World → Prop} {wr : World} {l : List Clk} {x : List Int} {u v k : Nat} {al : Option Addr} {cl cx c g B P : Nat}  {s1 s2 s3 s4 s5 s6 s7 s9 s11 s12 s13 s14 s15 s16 s17 s18 s19 s20 s21 s22 s23 s24 s25 s26 s27 s28 s29 s30 s31 s32 s33 s34 s35 s36 s37 s38 s39 s40 s41 s42 s43 : Value} (RX : Row wr P 35 [.int .i64 1, .int .i64 u, .int .i64 v]) (he : SlOf 5 RClk wr al l) (hc : cchk l = 0) (hset : SetOk l x) (hq : wr.cell? ⟨g, k, none⟩ = some (.slice (some ⟨B, 0, none⟩) x.length cx)) (QR : RowS wr B 3 (nums x)) (hu : u < l.length) (hv : (v : Int) < kOf l u) (hk : k ≤ 4096)
    (h' : ∀ t23 t24 t25 t26 t27 t28 t29 t30 t31 t32 t33 t34 B2 c2 wx, Gr wr wx → RowS wx B2 3 (nums (x.set u (v : Int))) → wr.heap.size ≤ B2 → Q .normal (r5A l k al cl c g P (.slice (some ⟨B2, 0, none⟩) x.length c2) (.int .i64 0) t23 t24 t25 t26 t27 t28 t29 t30 t31 t32 t33 t34 s1 s2 s3 s4 s5 s6 s7 s9 s13 s14 s15 s16 s17 s18 s19 s20 s21 s22 s35 s36 s37 s38 s39 s40 s41 s42 s43) wx) :
    (Code.region 5 (regIn 5 Tryd.f19) true).wp Tryd.prog Q { tmps := #[.slice al l.length cl, s1, s2, s3, s4, s5, s6, s7, .slice (some ⟨g, 0, none⟩) (k + 1) c, s9, .pointer (some ⟨P, 0, none⟩), s11, s12, s13, s14, s15, s16, s17, s18, s19, s20, s21, s22, s23, s24, s25, s26, s27, s28, s29, s30, s31, s32, s33, s34, s35, s36, s37, s38, s39, s40, s41, s42, s43], defers := [] } wr := by
  have HE := PLift.up he
  have HT := PLift.up hset
  have HC := PLift.up hc
  clear he hset hc
  simp only [regIn, Tryd.f19, regOps, Option.bind_some, Option.getD_some, Nat.beq, cond_true, cond_false]
  refine wp_region_steps (fun done a w => ∃ t11 t12 t23 t24 t25 t26 t27 t28 t29 t30 t31 t32 t33 t34, a = r5A l k al cl c g P t11 t12 t23 t24 t25 t26 t27 t28 t29 t30 t31 t32 t33 t34 s1 s2 s3 s4 s5 s6 s7 s9 s13 s14 s15 s16 s17 s18 s19 s20 s21 s22 s35 s36 s37 s38 s39 s40 s41 s42 s43 ∧ r5F wr l x u v k al cl cx c g B P t11 t12 t23 t24 t25 t26 t27 t28 t29 t30 t31 t32 t33 t34 done w) (by kernel_rfl) (by kernel_rfl) ?_ ⟨?_, ?_, ?_, ?_, ?_, ?_, ?_, ?_, ?_, ?_, ?_, ?_, ?_, ?_, trivial⟩ ?_
  · exact ⟨s11, s12, s23, s24, s25, s26, s27, s28, s29, s30, s31, s32, s33, s34, rfl, (Gr.refl _).drew, fun q => absurd q (by decide), fun q => absurd q (by decide), fun q => absurd q (by decide), fun q => absurd q (by decide), fun q => absurd q (by decide), fun q => absurd q (by decide), fun q => absurd q (by decide), fun q => absurd q (by decide), fun q => absurd q (by decide), fun q => absurd q (by decide), fun q => absurd q (by decide), fun q => absurd q (by decide), fun q => absurd q (by decide), fun q => absurd q (by decide)⟩
  · rintro done a w hsz hnot hdep ⟨t11, t12, t23, t24, t25, t26, t27, t28, t29, t30, t31, t32, t33, t34, rfl, gw, f0, f1, f2, f3, f4, f5, f6, f7, f8, f9, f10, f11, f12, f13⟩ K hK
    have hn : ¬ done.getD 0 false = true := by rw [getD_both hnot]; decide
    have HK := PLift.up hK
    clear hK 
    simp only [r5A]
    go_simp
    have gg : Gr w w := Gr.refl _
    refine HK.down _ _ ⟨_, _, _, _, _, _, _, _, _, _, _, _, _, _, rfl, gw, fun _ => rfl, fun q => f1 (done_old q (by decide)), fun q => f2 (done_old q (by decide)), fun q => f3 (done_old q (by decide)), fun q => f4 (done_old q (by decide)), fun q => f5 (done_old q (by decide)), fun q => f6 (done_old q (by decide)), fun q => f7 (done_old q (by decide)), fun q => (let ⟨y, e, h2⟩ := f8 (done_old q (by decide)); ⟨y, e, h2.gr gg⟩), fun q => (let ⟨y, e, h2⟩ := f9 (done_old q (by decide)); ⟨y, e, h2.gr gg⟩), fun q => (f10 (done_old q (by decide))).gr gg, fun q => f11 (done_old q (by decide)), fun q => (f12 (done_old q (by decide))).gr gg, fun q => f13 (done_old q (by decide))⟩
  · rintro done a w hsz hnot hdep ⟨t11, t12, t23, t24, t25, t26, t27, t28, t29, t30, t31, t32, t33, t34, rfl, gw, f0, f1, f2, f3, f4, f5, f6, f7, f8, f9, f10, f11, f12, f13⟩ K hK
    have hn : ¬ done.getD 1 false = true := by rw [getD_both hnot]; decide
    have HK := PLift.up hK
    clear hK 
    simp only [r5A]
    go_simp
    have gg : Gr w w := Gr.refl _
    refine HK.down _ _ ⟨_, _, _, _, _, _, _, _, _, _, _, _, _, _, rfl, gw, fun q => f0 (done_old q (by decide)), fun _ => rfl, fun q => f2 (done_old q (by decide)), fun q => f3 (done_old q (by decide)), fun q => f4 (done_old q (by decide)), fun q => f5 (done_old q (by decide)), fun q => f6 (done_old q (by decide)), fun q => f7 (done_old q (by decide)), fun q => (let ⟨y, e, h2⟩ := f8 (done_old q (by decide)); ⟨y, e, h2.gr gg⟩), fun q => (let ⟨y, e, h2⟩ := f9 (done_old q (by decide)); ⟨y, e, h2.gr gg⟩), fun q => (f10 (done_old q (by decide))).gr gg, fun q => f11 (done_old q (by decide)), fun q => (f12 (done_old q (by decide))).gr gg, fun q => f13 (done_old q (by decide))⟩
  · rintro done a w hsz hnot hdep ⟨t11, t12, t23, t24, t25, t26, t27, t28, t29, t30, t31, t32, t33, t34, rfl, gw, f0, f1, f2, f3, f4, f5, f6, f7, f8, f9, f10, f11, f12, f13⟩ K hK
    have hn : ¬ done.getD 2 false = true := by rw [getD_both hnot]; decide
    have HK := PLift.up hK
    clear hK 
    simp only [r5A]
    go_simp
    have gg : Gr w w := Gr.refl _
    refine HK.down _ _ ⟨_, _, _, _, _, _, _, _, _, _, _, _, _, _, rfl, gw, fun q => f0 (done_old q (by decide)), fun q => f1 (done_old q (by decide)), fun _ => rfl, fun q => f3 (done_old q (by decide)), fun q => f4 (done_old q (by decide)), fun q => f5 (done_old q (by decide)), fun q => f6 (done_old q (by decide)), fun q => f7 (done_old q (by decide)), fun q => (let ⟨y, e, h2⟩ := f8 (done_old q (by decide)); ⟨y, e, h2.gr gg⟩), fun q => (let ⟨y, e, h2⟩ := f9 (done_old q (by decide)); ⟨y, e, h2.gr gg⟩), fun q => (f10 (done_old q (by decide))).gr gg, fun q => f11 (done_old q (by decide)), fun q => (f12 (done_old q (by decide))).gr gg, fun q => f13 (done_old q (by decide))⟩
  · rintro done a w hsz hnot hdep ⟨t11, t12, t23, t24, t25, t26, t27, t28, t29, t30, t31, t32, t33, t34, rfl, gw, f0, f1, f2, f3, f4, f5, f6, f7, f8, f9, f10, f11, f12, f13⟩ K hK
    have hn : ¬ done.getD 3 false = true := by rw [getD_both hnot]; decide
    have d2 := hdep 2 (by kernel_rfl)
    obtain rfl := f2 d2
    have HK := PLift.up hK
    clear hK d2
    simp only [r5A]
    go_simp
    have gg : Gr w w := Gr.refl _
    refine HK.down _ _ ⟨_, _, _, _, _, _, _, _, _, _, _, _, _, _, rfl, gw, fun q => f0 (done_old q (by decide)), fun q => f1 (done_old q (by decide)), fun q => f2 (done_old q (by decide)), fun _ => rfl, fun q => f4 (done_old q (by decide)), fun q => f5 (done_old q (by decide)), fun q => f6 (done_old q (by decide)), fun q => f7 (done_old q (by decide)), fun q => (let ⟨y, e, h2⟩ := f8 (done_old q (by decide)); ⟨y, e, h2.gr gg⟩), fun q => (let ⟨y, e, h2⟩ := f9 (done_old q (by decide)); ⟨y, e, h2.gr gg⟩), fun q => (f10 (done_old q (by decide))).gr gg, fun q => f11 (done_old q (by decide)), fun q => (f12 (done_old q (by decide))).gr gg, fun q => f13 (done_old q (by decide))⟩
  · rintro done a w hsz hnot hdep ⟨t11, t12, t23, t24, t25, t26, t27, t28, t29, t30, t31, t32, t33, t34, rfl, gw, f0, f1, f2, f3, f4, f5, f6, f7, f8, f9, f10, f11, f12, f13⟩ K hK
    have hn : ¬ done.getD 4 false = true := by rw [getD_both hnot]; decide
    have d3 := hdep 3 (by kernel_rfl)
    obtain rfl := f3 d3
    have kw : IntKind.i64.wrap (k : Int) = (k : Int) := by rw [IntKind.wrap_i64]; omega
    have HK := PLift.up hK
    clear hK d3
    simp only [r5A]
    go_simp
    have gg : Gr w w := Gr.refl _
    refine HK.down _ _ ⟨_, _, _, _, _, _, _, _, _, _, _, _, _, _, rfl, gw, fun q => f0 (done_old q (by decide)), fun q => f1 (done_old q (by decide)), fun q => f2 (done_old q (by decide)), fun q => f3 (done_old q (by decide)), fun _ => rfl, fun q => f5 (done_old q (by decide)), fun q => f6 (done_old q (by decide)), fun q => f7 (done_old q (by decide)), fun q => (let ⟨y, e, h2⟩ := f8 (done_old q (by decide)); ⟨y, e, h2.gr gg⟩), fun q => (let ⟨y, e, h2⟩ := f9 (done_old q (by decide)); ⟨y, e, h2.gr gg⟩), fun q => (f10 (done_old q (by decide))).gr gg, fun q => f11 (done_old q (by decide)), fun q => (f12 (done_old q (by decide))).gr gg, fun q => f13 (done_old q (by decide))⟩
  · rintro done a w hsz hnot hdep ⟨t11, t12, t23, t24, t25, t26, t27, t28, t29, t30, t31, t32, t33, t34, rfl, gw, f0, f1, f2, f3, f4, f5, f6, f7, f8, f9, f10, f11, f12, f13⟩ K hK
    have hn : ¬ done.getD 5 false = true := by rw [getD_both hnot]; decide
    have d1 := hdep 1 (by kernel_rfl)
    have d4 := hdep 4 (by kernel_rfl)
    obtain rfl := f1 d1
    obtain rfl := f4 d4
    have q0 := cell_gr gw hq
    have hh := has_of_cell q0
    have kk : (k : Int) < (k : Int) + 1 := by omega
    have HK := PLift.up hK
    clear hK d1 d4
    simp only [r5A]
    go_simp
    have gg : Gr w w := Gr.refl _
    refine HK.down _ _ ⟨_, _, _, _, _, _, _, _, _, _, _, _, _, _, rfl, gw, fun q => f0 (done_old q (by decide)), fun q => f1 (done_old q (by decide)), fun q => f2 (done_old q (by decide)), fun q => f3 (done_old q (by decide)), fun q => f4 (done_old q (by decide)), fun _ => rfl, fun q => f6 (done_old q (by decide)), fun q => f7 (done_old q (by decide)), fun q => (let ⟨y, e, h2⟩ := f8 (done_old q (by decide)); ⟨y, e, h2.gr gg⟩), fun q => (let ⟨y, e, h2⟩ := f9 (done_old q (by decide)); ⟨y, e, h2.gr gg⟩), fun q => (f10 (done_old q (by decide))).gr gg, fun q => f11 (done_old q (by decide)), fun q => (f12 (done_old q (by decide))).gr gg, fun q => f13 (done_old q (by decide))⟩
  · rintro done a w hsz hnot hdep ⟨t11, t12, t23, t24, t25, t26, t27, t28, t29, t30, t31, t32, t33, t34, rfl, gw, f0, f1, f2, f3, f4, f5, f6, f7, f8, f9, f10, f11, f12, f13⟩ K hK
    have hn : ¬ done.getD 6 false = true := by rw [getD_both hnot]; decide
    have d5 := hdep 5 (by kernel_rfl)
    obtain rfl := f5 d5
    have q0 := cell_gr gw hq
    have hh := has_of_cell q0
    have HK := PLift.up hK
    clear hK d5
    simp only [r5A]
    go_simp
    have gg : Gr w w := Gr.refl _
    refine HK.down _ _ ⟨_, _, _, _, _, _, _, _, _, _, _, _, _, _, rfl, gw, fun q => f0 (done_old q (by decide)), fun q => f1 (done_old q (by decide)), fun q => f2 (done_old q (by decide)), fun q => f3 (done_old q (by decide)), fun q => f4 (done_old q (by decide)), fun q => f5 (done_old q (by decide)), fun _ => rfl, fun q => f7 (done_old q (by decide)), fun q => (let ⟨y, e, h2⟩ := f8 (done_old q (by decide)); ⟨y, e, h2.gr gg⟩), fun q => (let ⟨y, e, h2⟩ := f9 (done_old q (by decide)); ⟨y, e, h2.gr gg⟩), fun q => (f10 (done_old q (by decide))).gr gg, fun q => f11 (done_old q (by decide)), fun q => (f12 (done_old q (by decide))).gr gg, fun q => f13 (done_old q (by decide))⟩
  · rintro done a w hsz hnot hdep ⟨t11, t12, t23, t24, t25, t26, t27, t28, t29, t30, t31, t32, t33, t34, rfl, gw, f0, f1, f2, f3, f4, f5, f6, f7, f8, f9, f10, f11, f12, f13⟩ K hK
    have hn : ¬ done.getD 7 false = true := by rw [getD_both hnot]; decide
    have r := RX.gr gw
    have c0 := r.cell 0 (by simp)
    have c1 := r.cell 1 (by simp)
    have c2 := r.cell 2 (by simp)
    have ch := r.has
    simp only [List.getElem_cons_zero, List.getElem_cons_succ] at c0 c1 c2
    clear r
    have HK := PLift.up hK
    clear hK 
    simp only [r5A]
    go_simp
    have gg : Gr w w := Gr.refl _
    refine HK.down _ _ ⟨_, _, _, _, _, _, _, _, _, _, _, _, _, _, rfl, gw, fun q => f0 (done_old q (by decide)), fun q => f1 (done_old q (by decide)), fun q => f2 (done_old q (by decide)), fun q => f3 (done_old q (by decide)), fun q => f4 (done_old q (by decide)), fun q => f5 (done_old q (by decide)), fun q => f6 (done_old q (by decide)), fun _ => rfl, fun q => (let ⟨y, e, h2⟩ := f8 (done_old q (by decide)); ⟨y, e, h2.gr gg⟩), fun q => (let ⟨y, e, h2⟩ := f9 (done_old q (by decide)); ⟨y, e, h2.gr gg⟩), fun q => (f10 (done_old q (by decide))).gr gg, fun q => f11 (done_old q (by decide)), fun q => (f12 (done_old q (by decide))).gr gg, fun q => f13 (done_old q (by decide))⟩
  · rintro done a w hsz hnot hdep ⟨t11, t12, t23, t24, t25, t26, t27, t28, t29, t30, t31, t32, t33, t34, rfl, gw, f0, f1, f2, f3, f4, f5, f6, f7, f8, f9, f10, f11, f12, f13⟩ K hK
    have hn : ¬ done.getD 8 false = true := by rw [getD_both hnot]; decide
    have d0 := hdep 0 (by kernel_rfl)
    have d6 := hdep 6 (by kernel_rfl)
    have d7 := hdep 7 (by kernel_rfl)
    obtain rfl := f0 d0
    obtain rfl := f6 d6
    obtain rfl := f7 d7
    have HK := PLift.up hK
    clear hK d0 d6 d7
    simp only [r5A]
    go_simp
    refine (refApply_any l x u v al (some ⟨B, 0, none⟩) cl cx w (clks_gr HE.down gw) ((QR.gr gw).slI (setOk_wide HC.down HT.down)) HC.down HT.down hu hv).mono ?_
    rintro e w2 ⟨B2, c2, rfl, hr, hb, hg⟩
    have gg : Gr w w2 := hg
    clear hg
    (try go_simp)
    refine HK.down _ _ ⟨_, _, _, _, _, _, _, _, _, _, _, _, _, _, rfl, gw.trans gg, fun q => f0 (done_old q (by decide)), fun q => f1 (done_old q (by decide)), fun q => f2 (done_old q (by decide)), fun q => f3 (done_old q (by decide)), fun q => f4 (done_old q (by decide)), fun q => f5 (done_old q (by decide)), fun q => f6 (done_old q (by decide)), fun q => f7 (done_old q (by decide)), ?_, fun q => (let ⟨y, e, h2⟩ := f9 (done_old q (by decide)); ⟨y, e, h2.gr gg⟩), fun q => (f10 (done_old q (by decide))).gr gg, fun q => f11 (done_old q (by decide)), fun q => (f12 (done_old q (by decide))).gr gg, fun q => f13 (done_old q (by decide))⟩
    exact fun _ => ⟨_, rfl, B2, c2, rfl, hr, Nat.le_trans gw.size hb⟩
  · rintro done a w hsz hnot hdep ⟨t11, t12, t23, t24, t25, t26, t27, t28, t29, t30, t31, t32, t33, t34, rfl, gw, f0, f1, f2, f3, f4, f5, f6, f7, f8, f9, f10, f11, f12, f13⟩ K hK
    have hn : ¬ done.getD 9 false = true := by rw [getD_both hnot]; decide
    have d8 := hdep 8 (by kernel_rfl)
    obtain ⟨y, rfl, hy⟩ := f8 d8
    have HY := PLift.up hy
    clear hy
    have HK := PLift.up hK
    clear hK 
    simp only [r5A]
    go_simp
    have gg : Gr w w := Gr.refl _
    refine HK.down _ _ ⟨_, _, _, _, _, _, _, _, _, _, _, _, _, _, rfl, gw, fun q => f0 (done_old q (by decide)), fun q => f1 (done_old q (by decide)), fun q => f2 (done_old q (by decide)), fun q => f3 (done_old q (by decide)), fun q => f4 (done_old q (by decide)), fun q => f5 (done_old q (by decide)), fun q => f6 (done_old q (by decide)), fun q => f7 (done_old q (by decide)), fun _ => ⟨y, rfl, HY.down⟩, ?_, fun q => (f10 (done_old q (by decide))).gr gg, fun q => f11 (done_old q (by decide)), fun q => (f12 (done_old q (by decide))).gr gg, fun q => f13 (done_old q (by decide))⟩
    exact fun _ => ⟨y, rfl, HY.down⟩
  · rintro done a w hsz hnot hdep ⟨t11, t12, t23, t24, t25, t26, t27, t28, t29, t30, t31, t32, t33, t34, rfl, gw, f0, f1, f2, f3, f4, f5, f6, f7, f8, f9, f10, f11, f12, f13⟩ K hK
    have hn : ¬ done.getD 10 false = true := by rw [getD_both hnot]; decide
    have d9 := hdep 9 (by kernel_rfl)
    obtain ⟨y, rfl, hy⟩ := f9 d9
    have HY := PLift.up hy
    clear hy
    have HK := PLift.up hK
    clear hK 
    simp only [r5A]
    go_simp
    have gg : Gr w w := Gr.refl _
    refine HK.down _ _ ⟨_, _, _, _, _, _, _, _, _, _, _, _, _, _, rfl, gw, fun q => f0 (done_old q (by decide)), fun q => f1 (done_old q (by decide)), fun q => f2 (done_old q (by decide)), fun q => f3 (done_old q (by decide)), fun q => f4 (done_old q (by decide)), fun q => f5 (done_old q (by decide)), fun q => f6 (done_old q (by decide)), fun q => f7 (done_old q (by decide)), fun q => (let ⟨y, e, h2⟩ := f8 (done_old q (by decide)); ⟨y, e, h2.gr gg⟩), fun _ => ⟨y, rfl, HY.down⟩, ?_, fun q => f11 (done_old q (by decide)), fun q => (f12 (done_old q (by decide))).gr gg, fun q => f13 (done_old q (by decide))⟩
    exact fun _ => HY.down
  · rintro done a w hsz hnot hdep ⟨t11, t12, t23, t24, t25, t26, t27, t28, t29, t30, t31, t32, t33, t34, rfl, gw, f0, f1, f2, f3, f4, f5, f6, f7, f8, f9, f10, f11, f12, f13⟩ K hK
    have hn : ¬ done.getD 11 false = true := by rw [getD_both hnot]; decide
    have d9 := hdep 9 (by kernel_rfl)
    obtain ⟨y, rfl, hy⟩ := f9 d9
    have HY := PLift.up hy
    clear hy
    have HK := PLift.up hK
    clear hK 
    simp only [r5A]
    go_simp
    have gg : Gr w w := Gr.refl _
    refine HK.down _ _ ⟨_, _, _, _, _, _, _, _, _, _, _, _, _, _, rfl, gw, fun q => f0 (done_old q (by decide)), fun q => f1 (done_old q (by decide)), fun q => f2 (done_old q (by decide)), fun q => f3 (done_old q (by decide)), fun q => f4 (done_old q (by decide)), fun q => f5 (done_old q (by decide)), fun q => f6 (done_old q (by decide)), fun q => f7 (done_old q (by decide)), fun q => (let ⟨y, e, h2⟩ := f8 (done_old q (by decide)); ⟨y, e, h2.gr gg⟩), fun _ => ⟨y, rfl, HY.down⟩, fun q => (f10 (done_old q (by decide))).gr gg, fun _ => rfl, fun q => (f12 (done_old q (by decide))).gr gg, fun q => f13 (done_old q (by decide))⟩
  · rintro done a w hsz hnot hdep ⟨t11, t12, t23, t24, t25, t26, t27, t28, t29, t30, t31, t32, t33, t34, rfl, gw, f0, f1, f2, f3, f4, f5, f6, f7, f8, f9, f10, f11, f12, f13⟩ K hK
    have hn : ¬ done.getD 12 false = true := by rw [getD_both hnot]; decide
    have d10 := hdep 10 (by kernel_rfl)
    have HY := PLift.up (f10 d10)
    have HK := PLift.up hK
    clear hK 
    simp only [r5A]
    go_simp
    have gg : Gr w w := Gr.refl _
    refine HK.down _ _ ⟨_, _, _, _, _, _, _, _, _, _, _, _, _, _, rfl, gw, fun q => f0 (done_old q (by decide)), fun q => f1 (done_old q (by decide)), fun q => f2 (done_old q (by decide)), fun q => f3 (done_old q (by decide)), fun q => f4 (done_old q (by decide)), fun q => f5 (done_old q (by decide)), fun q => f6 (done_old q (by decide)), fun q => f7 (done_old q (by decide)), fun q => (let ⟨y, e, h2⟩ := f8 (done_old q (by decide)); ⟨y, e, h2.gr gg⟩), fun q => (let ⟨y, e, h2⟩ := f9 (done_old q (by decide)); ⟨y, e, h2.gr gg⟩), fun q => (f10 (done_old q (by decide))).gr gg, fun q => f11 (done_old q (by decide)), ?_, fun q => f13 (done_old q (by decide))⟩
    exact fun _ => HY.down
  · rintro done a w hsz hnot hdep ⟨t11, t12, t23, t24, t25, t26, t27, t28, t29, t30, t31, t32, t33, t34, rfl, gw, f0, f1, f2, f3, f4, f5, f6, f7, f8, f9, f10, f11, f12, f13⟩ K hK
    have hn : ¬ done.getD 13 false = true := by rw [getD_both hnot]; decide
    have d11 := hdep 11 (by kernel_rfl)
    obtain rfl := f11 d11
    have HK := PLift.up hK
    clear hK d11
    simp only [r5A]
    go_simp
    have gg : Gr w w := Gr.refl _
    refine HK.down _ _ ⟨_, _, _, _, _, _, _, _, _, _, _, _, _, _, rfl, gw, fun q => f0 (done_old q (by decide)), fun q => f1 (done_old q (by decide)), fun q => f2 (done_old q (by decide)), fun q => f3 (done_old q (by decide)), fun q => f4 (done_old q (by decide)), fun q => f5 (done_old q (by decide)), fun q => f6 (done_old q (by decide)), fun q => f7 (done_old q (by decide)), fun q => (let ⟨y, e, h2⟩ := f8 (done_old q (by decide)); ⟨y, e, h2.gr gg⟩), fun q => (let ⟨y, e, h2⟩ := f9 (done_old q (by decide)); ⟨y, e, h2.gr gg⟩), fun q => (f10 (done_old q (by decide))).gr gg, fun q => f11 (done_old q (by decide)), fun q => (f12 (done_old q (by decide))).gr gg, fun _ => rfl⟩
  · rintro done a w hall ⟨t11, t12, t23, t24, t25, t26, t27, t28, t29, t30, t31, t32, t33, t34, rfl, gw, f0, f1, f2, f3, f4, f5, f6, f7, f8, f9, f10, f11, f12, f13⟩
    obtain ⟨B2, c2, rfl, hr, hb⟩ := f12 (hall 12 (by decide))
    obtain rfl := f13 (hall 13 (by decide))
    exact h' _ _ _ _ _ _ _ _ _ _ _ _ B2 c2 w gw hr hb
/-- What is known of each slot as soon as its operation is done. -/
def p5F (wr : World) (l : List Clk) (x : List Int) (u v k : Nat) (al : Option Addr) (cl cx c g B P : Nat) (t11 t12 t22 t23 t24 t25 t26 t27 t28 t29 t30 t31 t32 t33 : Value) (d : Array Bool) (w : World) : Prop :=
  Gr wr w ∧ (d.getD 0 false = true → t23 = .slice al l.length cl) ∧
  (d.getD 1 false = true → t24 = .slice (some ⟨g, 0, none⟩) (k + 1) c) ∧
  (d.getD 2 false = true → t25 = .slice (some ⟨g, 0, none⟩) (k + 1) c) ∧
  (d.getD 3 false = true → t26 = .int .i64 ((k + 1 : Nat) : Int)) ∧
  (d.getD 4 false = true → t27 = .int .i64 (k : Int)) ∧
  (d.getD 5 false = true → t28 = .pointer (some ⟨g, k, none⟩)) ∧
  (d.getD 6 false = true → t29 = .slice (some ⟨B, 0, none⟩) x.length cx) ∧
  (d.getD 7 false = true → t30 = .agg #[.int .i64 1, .int .i64 u, .int .i64 v]) ∧
  (d.getD 8 false = true → (∃ y, t31 = .tuple #[y, .int .i64 0] ∧ SetV wr x.length (x.set u (v : Int)) w y)) ∧
  (d.getD 9 false = true → (∃ y, t22 = .tuple #[y, .int .i64 0] ∧ SetV wr x.length (x.set u (v : Int)) w y)) ∧
  (d.getD 10 false = true → SetV wr x.length (x.set u (v : Int)) w t32) ∧
  (d.getD 11 false = true → t33 = .int .i64 0) ∧
  (d.getD 12 false = true → SetV wr x.length (x.set u (v : Int)) w t11) ∧
  (d.getD 13 false = true → t12 = .int .i64 0)
/-- The frame. -/
def p5A (l : List Clk) (k : Nat) (al : Option Addr) (cl c g P : Nat) (t11 t12 t22 t23 t24 t25 t26 t27 t28 t29 t30 t31 t32 t33 s1 s2 s3 s4 s5 s6 s7 s9 s13 s14 s15 s16 s17 s18 s19 s20 s21 s34 s35 s36 s37 s38 s39 s40 s41 s42 : Value) : Act := { tmps := #[.slice al l.length cl, s1, s2, s3, s4, s5, s6, s7, .slice (some ⟨g, 0, none⟩) (k + 1) c, s9, .pointer (some ⟨P, 0, none⟩), t11, t12, s13, s14, s15, s16, s17, s18, s19, s20, s21, t22, t23, t24, t25, t26, t27, t28, t29, t30, t31, t32, t33, s34, s35, s36, s37, s38, s39, s40, s41, s42], defers := [] }

set_option maxRecDepth 100000 in
set_option maxHeartbeats 4000000 in
theorem p5 {Q : Exit → Act → World → Prop} {wr : World} {l : List Clk} {x : List Int} {u v k : Nat} {al : Option Addr} {cl cx c g B P : Nat}  {s1 s2 s3 s4 s5 s6 s7 s9 s11 s12 s13 s14 s15 s16 s17 s18 s19 s20 s21 s22 s23 s24 s25 s26 s27 s28 s29 s30 s31 s32 s33 s34 s35 s36 s37 s38 s39 s40 s41 s42 : Value} (RX : Row wr P 35 [.int .i64 1, .int .i64 u, .int .i64 v]) (he : SlOf 5 RClk wr al l) (hc : cchk l = 0) (hset : SetOk l x) (hq : wr.cell? ⟨g, k, none⟩ = some (.slice (some ⟨B, 0, none⟩) x.length cx)) (QR : RowS wr B 3 (nums x)) (hu : u < l.length) (hv : (v : Int) < kOf l u) (hk : k ≤ 4096)
    (h' : ∀ t22 t23 t24 t25 t26 t27 t28 t29 t30 t31 t32 t33 B2 c2 wx, Gr wr wx → RowS wx B2 3 (nums (x.set u (v : Int))) → wr.heap.size ≤ B2 → Q .normal (p5A l k al cl c g P (.slice (some ⟨B2, 0, none⟩) x.length c2) (.int .i64 0) t22 t23 t24 t25 t26 t27 t28 t29 t30 t31 t32 t33 s1 s2 s3 s4 s5 s6 s7 s9 s13 s14 s15 s16 s17 s18 s19 s20 s21 s34 s35 s36 s37 s38 s39 s40 s41 s42) wx) :
    (Code.region 5 (regIn 5 Tryd.f23) true).wp Tryd.prog Q { tmps := #[.slice al l.length cl, s1, s2, s3, s4, s5, s6, s7, .slice (some ⟨g, 0, none⟩) (k + 1) c, s9, .pointer (some ⟨P, 0, none⟩), s11, s12, s13, s14, s15, s16, s17, s18, s19, s20, s21, s22, s23, s24, s25, s26, s27, s28, s29, s30, s31, s32, s33, s34, s35, s36, s37, s38, s39, s40, s41, s42], defers := [] } wr := by
  have HE := PLift.up he
  have HT := PLift.up hset
  have HC := PLift.up hc
  clear he hset hc
  simp only [regIn, Tryd.f23, regOps, Option.bind_some, Option.getD_some, Nat.beq, cond_true, cond_false]
  refine wp_region_steps (fun done a w => ∃ t11 t12 t22 t23 t24 t25 t26 t27 t28 t29 t30 t31 t32 t33, a = p5A l k al cl c g P t11 t12 t22 t23 t24 t25 t26 t27 t28 t29 t30 t31 t32 t33 s1 s2 s3 s4 s5 s6 s7 s9 s13 s14 s15 s16 s17 s18 s19 s20 s21 s34 s35 s36 s37 s38 s39 s40 s41 s42 ∧ p5F wr l x u v k al cl cx c g B P t11 t12 t22 t23 t24 t25 t26 t27 t28 t29 t30 t31 t32 t33 done w) (by kernel_rfl) (by kernel_rfl) ?_ ⟨?_, ?_, ?_, ?_, ?_, ?_, ?_, ?_, ?_, ?_, ?_, ?_, ?_, ?_, trivial⟩ ?_
  · exact ⟨s11, s12, s22, s23, s24, s25, s26, s27, s28, s29, s30, s31, s32, s33, rfl, (Gr.refl _).drew, fun q => absurd q (by decide), fun q => absurd q (by decide), fun q => absurd q (by decide), fun q => absurd q (by decide), fun q => absurd q (by decide), fun q => absurd q (by decide), fun q => absurd q (by decide), fun q => absurd q (by decide), fun q => absurd q (by decide), fun q => absurd q (by decide), fun q => absurd q (by decide), fun q => absurd q (by decide), fun q => absurd q (by decide), fun q => absurd q (by decide)⟩
  · rintro done a w hsz hnot hdep ⟨t11, t12, t22, t23, t24, t25, t26, t27, t28, t29, t30, t31, t32, t33, rfl, gw, f0, f1, f2, f3, f4, f5, f6, f7, f8, f9, f10, f11, f12, f13⟩ K hK
    have hn : ¬ done.getD 0 false = true := by rw [getD_both hnot]; decide
    have HK := PLift.up hK
    clear hK 
    simp only [p5A]
    go_simp
    have gg : Gr w w := Gr.refl _
    refine HK.down _ _ ⟨_, _, _, _, _, _, _, _, _, _, _, _, _, _, rfl, gw, fun _ => rfl, fun q => f1 (done_old q (by decide)), fun q => f2 (done_old q (by decide)), fun q => f3 (done_old q (by decide)), fun q => f4 (done_old q (by decide)), fun q => f5 (done_old q (by decide)), fun q => f6 (done_old q (by decide)), fun q => f7 (done_old q (by decide)), fun q => (let ⟨y, e, h2⟩ := f8 (done_old q (by decide)); ⟨y, e, h2.gr gg⟩), fun q => (let ⟨y, e, h2⟩ := f9 (done_old q (by decide)); ⟨y, e, h2.gr gg⟩), fun q => (f10 (done_old q (by decide))).gr gg, fun q => f11 (done_old q (by decide)), fun q => (f12 (done_old q (by decide))).gr gg, fun q => f13 (done_old q (by decide))⟩
  · rintro done a w hsz hnot hdep ⟨t11, t12, t22, t23, t24, t25, t26, t27, t28, t29, t30, t31, t32, t33, rfl, gw, f0, f1, f2, f3, f4, f5, f6, f7, f8, f9, f10, f11, f12, f13⟩ K hK
    have hn : ¬ done.getD 1 false = true := by rw [getD_both hnot]; decide
    have HK := PLift.up hK
    clear hK 
    simp only [p5A]
    go_simp
    have gg : Gr w w := Gr.refl _
    refine HK.down _ _ ⟨_, _, _, _, _, _, _, _, _, _, _, _, _, _, rfl, gw, fun q => f0 (done_old q (by decide)), fun _ => rfl, fun q => f2 (done_old q (by decide)), fun q => f3 (done_old q (by decide)), fun q => f4 (done_old q (by decide)), fun q => f5 (done_old q (by decide)), fun q => f6 (done_old q (by decide)), fun q => f7 (done_old q (by decide)), fun q => (let ⟨y, e, h2⟩ := f8 (done_old q (by decide)); ⟨y, e, h2.gr gg⟩), fun q => (let ⟨y, e, h2⟩ := f9 (done_old q (by decide)); ⟨y, e, h2.gr gg⟩), fun q => (f10 (done_old q (by decide))).gr gg, fun q => f11 (done_old q (by decide)), fun q => (f12 (done_old q (by decide))).gr gg, fun q => f13 (done_old q (by decide))⟩
  · rintro done a w hsz hnot hdep ⟨t11, t12, t22, t23, t24, t25, t26, t27, t28, t29, t30, t31, t32, t33, rfl, gw, f0, f1, f2, f3, f4, f5, f6, f7, f8, f9, f10, f11, f12, f13⟩ K hK
    have hn : ¬ done.getD 2 false = true := by rw [getD_both hnot]; decide
    have HK := PLift.up hK
    clear hK 
    simp only [p5A]
    go_simp
    have gg : Gr w w := Gr.refl _
    refine HK.down _ _ ⟨_, _, _, _, _, _, _, _, _, _, _, _, _, _, rfl, gw, fun q => f0 (done_old q (by decide)), fun q => f1 (done_old q (by decide)), fun _ => rfl, fun q => f3 (done_old q (by decide)), fun q => f4 (done_old q (by decide)), fun q => f5 (done_old q (by decide)), fun q => f6 (done_old q (by decide)), fun q => f7 (done_old q (by decide)), fun q => (let ⟨y, e, h2⟩ := f8 (done_old q (by decide)); ⟨y, e, h2.gr gg⟩), fun q => (let ⟨y, e, h2⟩ := f9 (done_old q (by decide)); ⟨y, e, h2.gr gg⟩), fun q => (f10 (done_old q (by decide))).gr gg, fun q => f11 (done_old q (by decide)), fun q => (f12 (done_old q (by decide))).gr gg, fun q => f13 (done_old q (by decide))⟩
  · rintro done a w hsz hnot hdep ⟨t11, t12, t22, t23, t24, t25, t26, t27, t28, t29, t30, t31, t32, t33, rfl, gw, f0, f1, f2, f3, f4, f5, f6, f7, f8, f9, f10, f11, f12, f13⟩ K hK
    have hn : ¬ done.getD 3 false = true := by rw [getD_both hnot]; decide
    have d2 := hdep 2 (by kernel_rfl)
    obtain rfl := f2 d2
    have HK := PLift.up hK
    clear hK d2
    simp only [p5A]
    go_simp
    have gg : Gr w w := Gr.refl _
    refine HK.down _ _ ⟨_, _, _, _, _, _, _, _, _, _, _, _, _, _, rfl, gw, fun q => f0 (done_old q (by decide)), fun q => f1 (done_old q (by decide)), fun q => f2 (done_old q (by decide)), fun _ => rfl, fun q => f4 (done_old q (by decide)), fun q => f5 (done_old q (by decide)), fun q => f6 (done_old q (by decide)), fun q => f7 (done_old q (by decide)), fun q => (let ⟨y, e, h2⟩ := f8 (done_old q (by decide)); ⟨y, e, h2.gr gg⟩), fun q => (let ⟨y, e, h2⟩ := f9 (done_old q (by decide)); ⟨y, e, h2.gr gg⟩), fun q => (f10 (done_old q (by decide))).gr gg, fun q => f11 (done_old q (by decide)), fun q => (f12 (done_old q (by decide))).gr gg, fun q => f13 (done_old q (by decide))⟩
  · rintro done a w hsz hnot hdep ⟨t11, t12, t22, t23, t24, t25, t26, t27, t28, t29, t30, t31, t32, t33, rfl, gw, f0, f1, f2, f3, f4, f5, f6, f7, f8, f9, f10, f11, f12, f13⟩ K hK
    have hn : ¬ done.getD 4 false = true := by rw [getD_both hnot]; decide
    have d3 := hdep 3 (by kernel_rfl)
    obtain rfl := f3 d3
    have kw : IntKind.i64.wrap (k : Int) = (k : Int) := by rw [IntKind.wrap_i64]; omega
    have HK := PLift.up hK
    clear hK d3
    simp only [p5A]
    go_simp
    have gg : Gr w w := Gr.refl _
    refine HK.down _ _ ⟨_, _, _, _, _, _, _, _, _, _, _, _, _, _, rfl, gw, fun q => f0 (done_old q (by decide)), fun q => f1 (done_old q (by decide)), fun q => f2 (done_old q (by decide)), fun q => f3 (done_old q (by decide)), fun _ => rfl, fun q => f5 (done_old q (by decide)), fun q => f6 (done_old q (by decide)), fun q => f7 (done_old q (by decide)), fun q => (let ⟨y, e, h2⟩ := f8 (done_old q (by decide)); ⟨y, e, h2.gr gg⟩), fun q => (let ⟨y, e, h2⟩ := f9 (done_old q (by decide)); ⟨y, e, h2.gr gg⟩), fun q => (f10 (done_old q (by decide))).gr gg, fun q => f11 (done_old q (by decide)), fun q => (f12 (done_old q (by decide))).gr gg, fun q => f13 (done_old q (by decide))⟩
  · rintro done a w hsz hnot hdep ⟨t11, t12, t22, t23, t24, t25, t26, t27, t28, t29, t30, t31, t32, t33, rfl, gw, f0, f1, f2, f3, f4, f5, f6, f7, f8, f9, f10, f11, f12, f13⟩ K hK
    have hn : ¬ done.getD 5 false = true := by rw [getD_both hnot]; decide
    have d1 := hdep 1 (by kernel_rfl)
    have d4 := hdep 4 (by kernel_rfl)
    obtain rfl := f1 d1
    obtain rfl := f4 d4
    have q0 := cell_gr gw hq
    have hh := has_of_cell q0
    have kk : (k : Int) < (k : Int) + 1 := by omega
    have HK := PLift.up hK
    clear hK d1 d4
    simp only [p5A]
    go_simp
    have gg : Gr w w := Gr.refl _
    refine HK.down _ _ ⟨_, _, _, _, _, _, _, _, _, _, _, _, _, _, rfl, gw, fun q => f0 (done_old q (by decide)), fun q => f1 (done_old q (by decide)), fun q => f2 (done_old q (by decide)), fun q => f3 (done_old q (by decide)), fun q => f4 (done_old q (by decide)), fun _ => rfl, fun q => f6 (done_old q (by decide)), fun q => f7 (done_old q (by decide)), fun q => (let ⟨y, e, h2⟩ := f8 (done_old q (by decide)); ⟨y, e, h2.gr gg⟩), fun q => (let ⟨y, e, h2⟩ := f9 (done_old q (by decide)); ⟨y, e, h2.gr gg⟩), fun q => (f10 (done_old q (by decide))).gr gg, fun q => f11 (done_old q (by decide)), fun q => (f12 (done_old q (by decide))).gr gg, fun q => f13 (done_old q (by decide))⟩
  · rintro done a w hsz hnot hdep ⟨t11, t12, t22, t23, t24, t25, t26, t27, t28, t29, t30, t31, t32, t33, rfl, gw, f0, f1, f2, f3, f4, f5, f6, f7, f8, f9, f10, f11, f12, f13⟩ K hK
    have hn : ¬ done.getD 6 false = true := by rw [getD_both hnot]; decide
    have d5 := hdep 5 (by kernel_rfl)
    obtain rfl := f5 d5
    have q0 := cell_gr gw hq
    have hh := has_of_cell q0
    have HK := PLift.up hK
    clear hK d5
    simp only [p5A]
    go_simp
    have gg : Gr w w := Gr.refl _
    refine HK.down _ _ ⟨_, _, _, _, _, _, _, _, _, _, _, _, _, _, rfl, gw, fun q => f0 (done_old q (by decide)), fun q => f1 (done_old q (by decide)), fun q => f2 (done_old q (by decide)), fun q => f3 (done_old q (by decide)), fun q => f4 (done_old q (by decide)), fun q => f5 (done_old q (by decide)), fun _ => rfl, fun q => f7 (done_old q (by decide)), fun q => (let ⟨y, e, h2⟩ := f8 (done_old q (by decide)); ⟨y, e, h2.gr gg⟩), fun q => (let ⟨y, e, h2⟩ := f9 (done_old q (by decide)); ⟨y, e, h2.gr gg⟩), fun q => (f10 (done_old q (by decide))).gr gg, fun q => f11 (done_old q (by decide)), fun q => (f12 (done_old q (by decide))).gr gg, fun q => f13 (done_old q (by decide))⟩
  · rintro done a w hsz hnot hdep ⟨t11, t12, t22, t23, t24, t25, t26, t27, t28, t29, t30, t31, t32, t33, rfl, gw, f0, f1, f2, f3, f4, f5, f6, f7, f8, f9, f10, f11, f12, f13⟩ K hK
    have hn : ¬ done.getD 7 false = true := by rw [getD_both hnot]; decide
    have r := RX.gr gw
    have c0 := r.cell 0 (by simp)
    have c1 := r.cell 1 (by simp)
    have c2 := r.cell 2 (by simp)
    have ch := r.has
    simp only [List.getElem_cons_zero, List.getElem_cons_succ] at c0 c1 c2
    clear r
    have HK := PLift.up hK
    clear hK 
    simp only [p5A]
    go_simp
    have gg : Gr w w := Gr.refl _
    refine HK.down _ _ ⟨_, _, _, _, _, _, _, _, _, _, _, _, _, _, rfl, gw, fun q => f0 (done_old q (by decide)), fun q => f1 (done_old q (by decide)), fun q => f2 (done_old q (by decide)), fun q => f3 (done_old q (by decide)), fun q => f4 (done_old q (by decide)), fun q => f5 (done_old q (by decide)), fun q => f6 (done_old q (by decide)), fun _ => rfl, fun q => (let ⟨y, e, h2⟩ := f8 (done_old q (by decide)); ⟨y, e, h2.gr gg⟩), fun q => (let ⟨y, e, h2⟩ := f9 (done_old q (by decide)); ⟨y, e, h2.gr gg⟩), fun q => (f10 (done_old q (by decide))).gr gg, fun q => f11 (done_old q (by decide)), fun q => (f12 (done_old q (by decide))).gr gg, fun q => f13 (done_old q (by decide))⟩
  · rintro done a w hsz hnot hdep ⟨t11, t12, t22, t23, t24, t25, t26, t27, t28, t29, t30, t31, t32, t33, rfl, gw, f0, f1, f2, f3, f4, f5, f6, f7, f8, f9, f10, f11, f12, f13⟩ K hK
    have hn : ¬ done.getD 8 false = true := by rw [getD_both hnot]; decide
    have d0 := hdep 0 (by kernel_rfl)
    have d6 := hdep 6 (by kernel_rfl)
    have d7 := hdep 7 (by kernel_rfl)
    obtain rfl := f0 d0
    obtain rfl := f6 d6
    obtain rfl := f7 d7
    have HK := PLift.up hK
    clear hK d0 d6 d7
    simp only [p5A]
    go_simp
    refine (proApply_any l x u v al (some ⟨B, 0, none⟩) cl cx w (clks_gr HE.down gw) ((QR.gr gw).slI (setOk_wide HC.down HT.down)) HC.down HT.down hu hv).mono ?_
    rintro e w2 ⟨B2, c2, rfl, hr, hb, hg⟩
    have gg : Gr w w2 := hg
    clear hg
    (try go_simp)
    refine HK.down _ _ ⟨_, _, _, _, _, _, _, _, _, _, _, _, _, _, rfl, gw.trans gg, fun q => f0 (done_old q (by decide)), fun q => f1 (done_old q (by decide)), fun q => f2 (done_old q (by decide)), fun q => f3 (done_old q (by decide)), fun q => f4 (done_old q (by decide)), fun q => f5 (done_old q (by decide)), fun q => f6 (done_old q (by decide)), fun q => f7 (done_old q (by decide)), ?_, fun q => (let ⟨y, e, h2⟩ := f9 (done_old q (by decide)); ⟨y, e, h2.gr gg⟩), fun q => (f10 (done_old q (by decide))).gr gg, fun q => f11 (done_old q (by decide)), fun q => (f12 (done_old q (by decide))).gr gg, fun q => f13 (done_old q (by decide))⟩
    exact fun _ => ⟨_, rfl, B2, c2, rfl, hr, Nat.le_trans gw.size hb⟩
  · rintro done a w hsz hnot hdep ⟨t11, t12, t22, t23, t24, t25, t26, t27, t28, t29, t30, t31, t32, t33, rfl, gw, f0, f1, f2, f3, f4, f5, f6, f7, f8, f9, f10, f11, f12, f13⟩ K hK
    have hn : ¬ done.getD 9 false = true := by rw [getD_both hnot]; decide
    have d8 := hdep 8 (by kernel_rfl)
    obtain ⟨y, rfl, hy⟩ := f8 d8
    have HY := PLift.up hy
    clear hy
    have HK := PLift.up hK
    clear hK 
    simp only [p5A]
    go_simp
    have gg : Gr w w := Gr.refl _
    refine HK.down _ _ ⟨_, _, _, _, _, _, _, _, _, _, _, _, _, _, rfl, gw, fun q => f0 (done_old q (by decide)), fun q => f1 (done_old q (by decide)), fun q => f2 (done_old q (by decide)), fun q => f3 (done_old q (by decide)), fun q => f4 (done_old q (by decide)), fun q => f5 (done_old q (by decide)), fun q => f6 (done_old q (by decide)), fun q => f7 (done_old q (by decide)), fun _ => ⟨y, rfl, HY.down⟩, ?_, fun q => (f10 (done_old q (by decide))).gr gg, fun q => f11 (done_old q (by decide)), fun q => (f12 (done_old q (by decide))).gr gg, fun q => f13 (done_old q (by decide))⟩
    exact fun _ => ⟨y, rfl, HY.down⟩
  · rintro done a w hsz hnot hdep ⟨t11, t12, t22, t23, t24, t25, t26, t27, t28, t29, t30, t31, t32, t33, rfl, gw, f0, f1, f2, f3, f4, f5, f6, f7, f8, f9, f10, f11, f12, f13⟩ K hK
    have hn : ¬ done.getD 10 false = true := by rw [getD_both hnot]; decide
    have d9 := hdep 9 (by kernel_rfl)
    obtain ⟨y, rfl, hy⟩ := f9 d9
    have HY := PLift.up hy
    clear hy
    have HK := PLift.up hK
    clear hK 
    simp only [p5A]
    go_simp
    have gg : Gr w w := Gr.refl _
    refine HK.down _ _ ⟨_, _, _, _, _, _, _, _, _, _, _, _, _, _, rfl, gw, fun q => f0 (done_old q (by decide)), fun q => f1 (done_old q (by decide)), fun q => f2 (done_old q (by decide)), fun q => f3 (done_old q (by decide)), fun q => f4 (done_old q (by decide)), fun q => f5 (done_old q (by decide)), fun q => f6 (done_old q (by decide)), fun q => f7 (done_old q (by decide)), fun q => (let ⟨y, e, h2⟩ := f8 (done_old q (by decide)); ⟨y, e, h2.gr gg⟩), fun _ => ⟨y, rfl, HY.down⟩, ?_, fun q => f11 (done_old q (by decide)), fun q => (f12 (done_old q (by decide))).gr gg, fun q => f13 (done_old q (by decide))⟩
    exact fun _ => HY.down
  · rintro done a w hsz hnot hdep ⟨t11, t12, t22, t23, t24, t25, t26, t27, t28, t29, t30, t31, t32, t33, rfl, gw, f0, f1, f2, f3, f4, f5, f6, f7, f8, f9, f10, f11, f12, f13⟩ K hK
    have hn : ¬ done.getD 11 false = true := by rw [getD_both hnot]; decide
    have d9 := hdep 9 (by kernel_rfl)
    obtain ⟨y, rfl, hy⟩ := f9 d9
    have HY := PLift.up hy
    clear hy
    have HK := PLift.up hK
    clear hK 
    simp only [p5A]
    go_simp
    have gg : Gr w w := Gr.refl _
    refine HK.down _ _ ⟨_, _, _, _, _, _, _, _, _, _, _, _, _, _, rfl, gw, fun q => f0 (done_old q (by decide)), fun q => f1 (done_old q (by decide)), fun q => f2 (done_old q (by decide)), fun q => f3 (done_old q (by decide)), fun q => f4 (done_old q (by decide)), fun q => f5 (done_old q (by decide)), fun q => f6 (done_old q (by decide)), fun q => f7 (done_old q (by decide)), fun q => (let ⟨y, e, h2⟩ := f8 (done_old q (by decide)); ⟨y, e, h2.gr gg⟩), fun _ => ⟨y, rfl, HY.down⟩, fun q => (f10 (done_old q (by decide))).gr gg, fun _ => rfl, fun q => (f12 (done_old q (by decide))).gr gg, fun q => f13 (done_old q (by decide))⟩
  · rintro done a w hsz hnot hdep ⟨t11, t12, t22, t23, t24, t25, t26, t27, t28, t29, t30, t31, t32, t33, rfl, gw, f0, f1, f2, f3, f4, f5, f6, f7, f8, f9, f10, f11, f12, f13⟩ K hK
    have hn : ¬ done.getD 12 false = true := by rw [getD_both hnot]; decide
    have d10 := hdep 10 (by kernel_rfl)
    have HY := PLift.up (f10 d10)
    have HK := PLift.up hK
    clear hK 
    simp only [p5A]
    go_simp
    have gg : Gr w w := Gr.refl _
    refine HK.down _ _ ⟨_, _, _, _, _, _, _, _, _, _, _, _, _, _, rfl, gw, fun q => f0 (done_old q (by decide)), fun q => f1 (done_old q (by decide)), fun q => f2 (done_old q (by decide)), fun q => f3 (done_old q (by decide)), fun q => f4 (done_old q (by decide)), fun q => f5 (done_old q (by decide)), fun q => f6 (done_old q (by decide)), fun q => f7 (done_old q (by decide)), fun q => (let ⟨y, e, h2⟩ := f8 (done_old q (by decide)); ⟨y, e, h2.gr gg⟩), fun q => (let ⟨y, e, h2⟩ := f9 (done_old q (by decide)); ⟨y, e, h2.gr gg⟩), fun q => (f10 (done_old q (by decide))).gr gg, fun q => f11 (done_old q (by decide)), ?_, fun q => f13 (done_old q (by decide))⟩
    exact fun _ => HY.down
  · rintro done a w hsz hnot hdep ⟨t11, t12, t22, t23, t24, t25, t26, t27, t28, t29, t30, t31, t32, t33, rfl, gw, f0, f1, f2, f3, f4, f5, f6, f7, f8, f9, f10, f11, f12, f13⟩ K hK
    have hn : ¬ done.getD 13 false = true := by rw [getD_both hnot]; decide
    have d11 := hdep 11 (by kernel_rfl)
    obtain rfl := f11 d11
    have HK := PLift.up hK
    clear hK d11
    simp only [p5A]
    go_simp
    have gg : Gr w w := Gr.refl _
    refine HK.down _ _ ⟨_, _, _, _, _, _, _, _, _, _, _, _, _, _, rfl, gw, fun q => f0 (done_old q (by decide)), fun q => f1 (done_old q (by decide)), fun q => f2 (done_old q (by decide)), fun q => f3 (done_old q (by decide)), fun q => f4 (done_old q (by decide)), fun q => f5 (done_old q (by decide)), fun q => f6 (done_old q (by decide)), fun q => f7 (done_old q (by decide)), fun q => (let ⟨y, e, h2⟩ := f8 (done_old q (by decide)); ⟨y, e, h2.gr gg⟩), fun q => (let ⟨y, e, h2⟩ := f9 (done_old q (by decide)); ⟨y, e, h2.gr gg⟩), fun q => (f10 (done_old q (by decide))).gr gg, fun q => f11 (done_old q (by decide)), fun q => (f12 (done_old q (by decide))).gr gg, fun _ => rfl⟩
  · rintro done a w hall ⟨t11, t12, t22, t23, t24, t25, t26, t27, t28, t29, t30, t31, t32, t33, rfl, gw, f0, f1, f2, f3, f4, f5, f6, f7, f8, f9, f10, f11, f12, f13⟩
    obtain ⟨B2, c2, rfl, hr, hb⟩ := f12 (hall 12 (by decide))
    obtain rfl := f13 (hall 13 (by decide))
    exact h' _ _ _ _ _ _ _ _ _ _ _ _ B2 c2 w gw hr hb
end Go.Proofs.YtenehghpmnajpaaDoor

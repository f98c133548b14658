/- A statement of Closed by an invariant (printed by wip/tools/cd.py). -/
import Derived.Test.YtenehghpmnajpaaGreatDoorKp
set_option linter.unusedVariables false
set_option linter.unusedSimpArgs false
namespace Go.Proofs.YtenehghpmnajpaaGreatDoor
open Go.RowKit
open Classical

/-- What is known of each slot as soon as its operation is done. -/
def cd4F (w0 wr : World) (l : List Clk) (ms : List Lmt) (t : List Int) (al am at' : Option Addr) (cl cm ct BK XP : Nat) (t12 t31 t32 t33 t34 t35 : Value) (d : Array Bool) (w : World) : Prop :=
  PB l ms al am cl cm BK XP w0 wr w ∧ (d.getD 0 false = true → t31 = .agg #[.slice al l.length cl, .slice am ms.length cm, .map (some BK)]) ∧
  (d.getD 1 false = true → t32 = .agg #[.slice al l.length cl, .slice am ms.length cm, .map (some BK)]) ∧
  (d.getD 2 false = true → t33 = .slice at' l.length ct) ∧
  (d.getD 3 false = true → t34 = .int .i64 (num l t)) ∧
  (d.getD 4 false = true → (∃ BM V, t35 = .map (some BM) ∧ Dists l ms t wr w BM V)) ∧
  (d.getD 5 false = true → (d.getD 4 false = true ∧ ∃ BM V, t12 = .map (some BM) ∧ Dists l ms t wr w BM V))
/-- The frame. -/
def cd4A (l : List Clk) (at' : Option Addr) (ct XP : Nat) (t12 t31 t32 t33 t34 t35 s0 s2 s3 s4 s5 s6 s7 s8 s9 s11 s13 s14 s15 s16 s17 s18 s19 s20 s21 s22 s23 s24 s25 s26 s27 s28 s29 s30 s36 s37 s38 s39 s40 s41 s42 s43 s44 s45 s46 s47 s48 s49 s50 s51 s52 s53 s54 s55 s56 s57 s58 s59 s60 s61 s62 s63 s64 s65 s66 s67 s68 s69 s70 : Value) : Act := { tmps := #[s0, .slice at' l.length ct, s2, s3, s4, s5, s6, s7, s8, s9, .pointer (some ⟨XP, 0, none⟩), s11, t12, s13, s14, s15, s16, s17, s18, s19, s20, s21, s22, s23, s24, s25, s26, s27, s28, s29, s30, t31, t32, t33, t34, t35, s36, s37, s38, s39, s40, s41, s42, s43, s44, s45, s46, s47, s48, s49, s50, s51, s52, s53, s54, s55, s56, s57, s58, s59, s60, s61, s62, s63, s64, s65, s66, s67, s68, s69, s70], defers := [] }

set_option maxRecDepth 100000 in
set_option maxHeartbeats 4000000 in
theorem cd4 {Q : Exit → Act → World → Prop} {w0 wr : World} {l : List Clk} {ms : List Lmt} {t : List Int} {al am at' : Option Addr} {cl cm ct BK XP : Nat}  {s0 s2 s3 s4 s5 s6 s7 s8 s9 s11 s12 s13 s14 s15 s16 s17 s18 s19 s20 s21 s22 s23 s24 s25 s26 s27 s28 s29 s30 s31 s32 s33 s34 s35 s36 s37 s38 s39 s40 s41 s42 s43 s44 s45 s46 s47 s48 s49 s50 s51 s52 s53 s54 s55 s56 s57 s58 s59 s60 s61 s62 s63 s64 s65 s66 s67 s68 s69 s70 : Value} (hp : PB l ms al am cl cm BK XP w0 wr wr) (he : Env w0 l ms al am) (hset : SetOk l t) (hcal : calS l ms t = true) (hst : SlOf 1 RI w0 at' t) (hbk : w0.heap.size ≤ BK)
    (h' : ∀ t31 t32 t33 t34 t35 BM V wx, PB l ms al am cl cm BK XP w0 wr wx → Dists l ms t wr wx BM V → Q .normal (cd4A l at' ct XP (.map (some BM)) t31 t32 t33 t34 t35 s0 s2 s3 s4 s5 s6 s7 s8 s9 s11 s13 s14 s15 s16 s17 s18 s19 s20 s21 s22 s23 s24 s25 s26 s27 s28 s29 s30 s36 s37 s38 s39 s40 s41 s42 s43 s44 s45 s46 s47 s48 s49 s50 s51 s52 s53 s54 s55 s56 s57 s58 s59 s60 s61 s62 s63 s64 s65 s66 s67 s68 s69 s70) wx) :
    (Code.region 4 (regIn 4 Tryz.f31) true).wp Tryz.prog Q { tmps := #[s0, .slice at' l.length ct, s2, s3, s4, s5, s6, s7, s8, s9, .pointer (some ⟨XP, 0, none⟩), s11, s12, s13, s14, s15, s16, s17, s18, s19, s20, s21, s22, s23, s24, s25, s26, s27, s28, s29, s30, s31, s32, s33, s34, s35, s36, s37, s38, s39, s40, s41, s42, s43, s44, s45, s46, s47, s48, s49, s50, s51, s52, s53, s54, s55, s56, s57, s58, s59, s60, s61, s62, s63, s64, s65, s66, s67, s68, s69, s70], defers := [] } wr := by
  have HE := PLift.up he
  have HT := PLift.up hset
  have HC := PLift.up hcal
  have ST := PLift.up hst
  have hxk : XP ≠ BK := by
    obtain ⟨V9, hm9, _⟩ := hp.kn
    exact Ne.symm (hm9.ne_row hp.box)
  clear he hset hcal hst
  simp only [regIn, Tryz.f31, regOps, Option.bind_some, Option.getD_some, Nat.beq, cond_true, cond_false]
  refine wp_region_steps (fun done a w => ∃ t12 t31 t32 t33 t34 t35, a = cd4A l at' ct XP t12 t31 t32 t33 t34 t35 s0 s2 s3 s4 s5 s6 s7 s8 s9 s11 s13 s14 s15 s16 s17 s18 s19 s20 s21 s22 s23 s24 s25 s26 s27 s28 s29 s30 s36 s37 s38 s39 s40 s41 s42 s43 s44 s45 s46 s47 s48 s49 s50 s51 s52 s53 s54 s55 s56 s57 s58 s59 s60 s61 s62 s63 s64 s65 s66 s67 s68 s69 s70 ∧ cd4F w0 wr l ms t al am at' cl cm ct BK XP t12 t31 t32 t33 t34 t35 done w) (by kernel_rfl) (by kernel_rfl) ?_ ⟨?_, ?_, ?_, ?_, ?_, ?_, trivial⟩ ?_
  · exact ⟨s12, s31, s32, s33, s34, s35, rfl, hp.grow (Gr.refl _).drew, fun q => absurd q (by decide), fun q => absurd q (by decide), fun q => absurd q (by decide), fun q => absurd q (by decide), fun q => absurd q (by decide), fun q => absurd q (by decide)⟩
  · rintro done a w hsz hnot hdep ⟨t12, t31, t32, t33, t34, t35, rfl, gw, f0, f1, f2, f3, f4, f5⟩ K hK
    have hn : ¬ done.getD 0 false = true := by rw [getD_both hnot]; decide
    have r := gw.box
    have c0 := r.cell 0 (by simp)
    have c1 := r.cell 1 (by simp)
    have c2 := r.cell 2 (by simp)
    have ch := r.has
    simp only [List.getElem_cons_zero, List.getElem_cons_succ] at c0 c1 c2
    clear r
    have HK := PLift.up hK
    clear hK 
    simp only [cd4A]
    go_simp
    have gg : Gr w w := Gr.refl _
    refine HK.down _ _ ⟨_, _, _, _, _, _, rfl, gw, fun _ => rfl, fun q => f1 (done_old q (by decide)), fun q => f2 (done_old q (by decide)), fun q => f3 (done_old q (by decide)), fun q => (let ⟨BM, V, e, h2⟩ := f4 (done_old q (by decide)); ⟨BM, V, e, h2.gr gg⟩), fun q => (let ⟨a1, BM, V, e, h2⟩ := f5 (done_old q (by decide)); ⟨getD_set_true a1, BM, V, e, h2.gr gg⟩)⟩
  · rintro done a w hsz hnot hdep ⟨t12, t31, t32, t33, t34, t35, rfl, gw, f0, f1, f2, f3, f4, f5⟩ K hK
    have hn : ¬ done.getD 1 false = true := by rw [getD_both hnot]; decide
    have r := gw.box
    have c0 := r.cell 0 (by simp)
    have c1 := r.cell 1 (by simp)
    have c2 := r.cell 2 (by simp)
    have ch := r.has
    simp only [List.getElem_cons_zero, List.getElem_cons_succ] at c0 c1 c2
    clear r
    have HK := PLift.up hK
    clear hK 
    simp only [cd4A]
    go_simp
    have gg : Gr w w := Gr.refl _
    refine HK.down _ _ ⟨_, _, _, _, _, _, rfl, gw, fun q => f0 (done_old q (by decide)), fun _ => rfl, fun q => f2 (done_old q (by decide)), fun q => f3 (done_old q (by decide)), fun q => (let ⟨BM, V, e, h2⟩ := f4 (done_old q (by decide)); ⟨BM, V, e, h2.gr gg⟩), fun q => (let ⟨a1, BM, V, e, h2⟩ := f5 (done_old q (by decide)); ⟨getD_set_true a1, BM, V, e, h2.gr gg⟩)⟩
  · rintro done a w hsz hnot hdep ⟨t12, t31, t32, t33, t34, t35, rfl, gw, f0, f1, f2, f3, f4, f5⟩ K hK
    have hn : ¬ done.getD 2 false = true := by rw [getD_both hnot]; decide
    have HK := PLift.up hK
    clear hK 
    simp only [cd4A]
    go_simp
    have gg : Gr w w := Gr.refl _
    refine HK.down _ _ ⟨_, _, _, _, _, _, rfl, gw, fun q => f0 (done_old q (by decide)), fun q => f1 (done_old q (by decide)), fun _ => rfl, fun q => f3 (done_old q (by decide)), fun q => (let ⟨BM, V, e, h2⟩ := f4 (done_old q (by decide)); ⟨BM, V, e, h2.gr gg⟩), fun q => (let ⟨a1, BM, V, e, h2⟩ := f5 (done_old q (by decide)); ⟨getD_set_true a1, BM, V, e, h2.gr gg⟩)⟩
  · rintro done a w hsz hnot hdep ⟨t12, t31, t32, t33, t34, t35, rfl, gw, f0, f1, f2, f3, f4, f5⟩ K hK
    have hn : ¬ done.getD 3 false = true := by rw [getD_both hnot]; decide
    have d1 := hdep 1 (by kernel_rfl)
    have d2 := hdep 2 (by kernel_rfl)
    obtain rfl := f1 d1
    obtain rfl := f2 d2
    have HK := PLift.up hK
    clear hK d1 d2
    simp only [cd4A]
    go_simp
    have NM := number_any l t al at' am cl ct ms.length cm (.map (some BK)) w (clks_gr HE.down.clks gw.gr) (ST.down.giI gw.gr) HE.down.chk HT.down
    rw [HT.down.1] at NM
    refine NM.mono ?_
    rintro e w2 ⟨rfl, hg⟩
    have gg : Gr w w2 := hg
    clear hg
    (try go_simp)
    refine HK.down _ _ ⟨_, _, _, _, _, _, rfl, gw.grow gg, fun q => f0 (done_old q (by decide)), fun q => f1 (done_old q (by decide)), fun q => f2 (done_old q (by decide)), fun _ => rfl, fun q => (let ⟨BM, V, e, h2⟩ := f4 (done_old q (by decide)); ⟨BM, V, e, h2.gr gg⟩), fun q => (let ⟨a1, BM, V, e, h2⟩ := f5 (done_old q (by decide)); ⟨getD_set_true a1, BM, V, e, h2.gr gg⟩)⟩
  · rintro done a w hsz hnot hdep ⟨t12, t31, t32, t33, t34, t35, rfl, gw, f0, f1, f2, f3, f4, f5⟩ K hK
    have hn : ¬ done.getD 4 false = true := by rw [getD_both hnot]; decide
    have d0 := hdep 0 (by kernel_rfl)
    have d3 := hdep 3 (by kernel_rfl)
    obtain rfl := f0 d0
    obtain rfl := f3 d3
    have hL0 : ∀ b ∈ [XP, BK], Has w b := by
      intro b hb
      simp only [List.mem_cons, List.not_mem_nil, or_false] at hb
      rcases hb with rfl | rfl
      · exact gw.box.has
      · exact gw.kn.has
    have RC := PLift.up (reach_any l ms t al am cl cm BK [XP, BK] w0 w HE.down gw.gr HT.down HC.down gw.kn hbk hL0 (by simp))
    clear hL0
    have HK := PLift.up hK
    clear hK d0 d3
    simp only [cd4A]
    go_simp
    refine RC.down.mono ?_
    rintro e w2 ⟨BM, V, rfl, r1, r2, r3, r4, r5, r6, r7, r8⟩
    have RR := PLift.up (And.intro r1 (And.intro r2 (And.intro r3 (And.intro r4 (And.intro r5 (And.intro r6 (And.intro r7 r8)))))))
    clear r1 r2 r3 r4 r5 r6 r7 r8 RC
    (try go_simp)
    obtain ⟨r1, r2, r3, r4, r5, r6, r7, r8⟩ := RR.down
    refine HK.down _ _ ⟨_, _, _, _, _, _, rfl, (⟨by have := gw.box; unfold Row at this ⊢; rw [r7 XP (by simp) hxk]; exact this, r6, r5, Nat.le_trans gw.size r8⟩ : PB l ms al am cl cm BK XP w0 wr w2), fun q => f0 (done_old q (by decide)), fun q => f1 (done_old q (by decide)), fun q => f2 (done_old q (by decide)), fun q => f3 (done_old q (by decide)), ?_, fun q => absurd (f5 (done_old q (by decide))).1 hn⟩
    exact fun _ => ⟨BM, V, rfl, Nat.le_trans gw.size r1, r2, r3, r4⟩
  · rintro done a w hsz hnot hdep ⟨t12, t31, t32, t33, t34, t35, rfl, gw, f0, f1, f2, f3, f4, f5⟩ K hK
    have hn : ¬ done.getD 5 false = true := by rw [getD_both hnot]; decide
    have d4 := hdep 4 (by kernel_rfl)
    obtain ⟨BM, V, rfl, h1⟩ := f4 d4
    have H1 := PLift.up h1
    clear h1
    have HK := PLift.up hK
    clear hK 
    simp only [cd4A]
    go_simp
    have gg : Gr w w := Gr.refl _
    refine HK.down _ _ ⟨_, _, _, _, _, _, rfl, gw, fun q => f0 (done_old q (by decide)), fun q => f1 (done_old q (by decide)), fun q => f2 (done_old q (by decide)), fun q => f3 (done_old q (by decide)), fun _ => ⟨BM, V, rfl, H1.down⟩, ?_⟩
    exact fun _ => ⟨getD_set_true d4, BM, V, rfl, H1.down⟩
  · rintro done a w hall ⟨t12, t31, t32, t33, t34, t35, rfl, gw, f0, f1, f2, f3, f4, f5⟩
    obtain ⟨_, BM, V, rfl, h1⟩ := f5 (hall 5 (by decide))
    exact h' _ _ _ _ _ BM V w gw h1
end Go.Proofs.YtenehghpmnajpaaGreatDoor
